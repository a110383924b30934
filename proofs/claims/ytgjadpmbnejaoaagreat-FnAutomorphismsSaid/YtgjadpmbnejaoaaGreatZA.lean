import Derived.Test.YtgjadpmbnejaoaaGreatZz
import Derived.Shelf.SlSortCmp.NoneTotal
/-
  Lemmas for the law FnAutomorphisms, in short spelling.
-/
set_option linter.unusedVariables false
set_option linter.unusedSimpArgs false
set_option maxRecDepth 100000
set_option maxHeartbeats 40000000
namespace Go.Proofs.YtgjadpmbnejaoaaGreat
namespace JJ
open RowKit AJ
def IX (x y:Nat):Int:=if x<y then -1 else if y<x then 1 else 0
def cmpL:List Nat->List Nat->Int
 |a::x,b::y=>if a<b then -1 else if b<a then 1 else cmpL x y
 |_,_=>0
theorem UW (x:Nat)(w:World):Calls Tryz.prog 210 #[.int .i64 (x:Int)] w λe w'=>e= .returned (.bool false)/\w=w':=by
 go_enter Tryz.func210,Tryz.ntmps210;go_wp2_with fail;go_ret;exact⟨by simp,rfl⟩
theorem oL (x y:Nat)(w:World):Calls Tryz.prog 155 #[.int .i64 (x:Int),.int .i64 (y:Int)] w λe w'=>e= .returned (.int .i64 (IX x y))/\w=w':=by
 rcases OL x y with h|h|h
 .have C:decide ((x:Int)<(y:Int))=true:=by simp;omega
  have B:=AB (show IX x y= -1 by simp[IX,h]);go_enter Tryz.func155,Tryz.ntmps155;go_wp2_with (go_at_call 210;refine(UW _ _).mono ?_;rintro e w' ⟨rfl,rfl⟩);go_ret;exact⟨by rw[B.AA];rfl,rfl⟩
 .subst h;have C:decide ((x:Int)<(x:Int))=false:=by simp
  have B:=AB (show IX x x=0 by simp[IX]);go_enter Tryz.func155,Tryz.ntmps155;go_wp2_with (go_at_call 210;refine(UW _ _).mono ?_;rintro e w' ⟨rfl,rfl⟩);go_ret;exact⟨by rw[B.AA];rfl,rfl⟩
 .have C:decide ((x:Int)<(y:Int))=false:=by simp;omega
  have D:decide ((x:Int)>(y:Int))=true:=by simp;omega
  have B:=AB (show IX x y=1 by simp[IX,h];omega);go_enter Tryz.func155,Tryz.ntmps155;go_wp2_with (go_at_call 210;refine(UW _ _).mono ?_;rintro e w' ⟨rfl,rfl⟩);go_ret;exact⟨by rw[B.AA];rfl,rfl⟩
theorem jH {x y:List Nat}{k a b:Nat}(ha:x[k]?=some a)(D:y[k]?=some b):cmpL (x.drop k) (y.drop k)=if a<b then -1 else if b<a then 1 else cmpL (x.drop (k+1)) (y.drop (k+1)):=by
 have C:=Ak.1 ha;have B:=Ak.1 D;rw[Dp C.1,Dp B.1,C.2,B.2];rfl
theorem gU (w:World)(O Q:Value)(x y:List Nat)(F:AP (λ_=>True) w O (ints x))(D:AP (λ_=>True) w Q (ints y))(J:x.length=y.length):
  Calls Tryz.prog 92 #[O,Q] w λe w'=>e= .returned (.int .i64 (cmpL x y))/\w=w':=by
 have u:(x.length:Int)<=9223372036854775807:=by
  obtain⟨_,_,_,V,U,_⟩:=F;rw[BK]at V;unfold maxLen at U;omega
 obtain⟨aX,p,rfl,d⟩:=F.open;obtain⟨s,i,rfl,W⟩:=D.open;rw[<-J]at W D ⊢;have Z:=AB F;have X:=AB D;have Y:=AB J;clear F D J;go_enter Tryz.func92,Tryz.ntmps92;go_wp2_with fail;go_loop [11] (λK=>∃k:Nat,k<=x.length/\K= .int .i64 (k:Int)/\Hid (cmpL (x.drop k) (y.drop k)=cmpL x y)) (λK=>x.length-(intOf K).toNat);case atStart=>exact⟨0,AX _,rfl,AB rfl⟩
 case round=>
  obtain⟨k,g,rfl,R⟩:=hrel;by_cases N:k<x.length
  .obtain⟨a,ha⟩:∃a,x[k]?=some a:=⟨_,AU N⟩;obtain⟨c,I⟩:∃c,y[k]?=some c:=⟨_,AU (by rw[<-Y.AA];exact N)⟩;obtain⟨v,z,rfl,_,_,r⟩:=Z.AA.at ha;obtain⟨j,l,rfl,_,_,q⟩:=X.AA.at I;have L:=AB ((jH ha I).symm.trans R.AA);have S:decide ((k:Int)<(x.length:Int))=true:=by simp;omega
   have b:decide ((k:Int)>=(x.length:Int))=false:=by simp;omega
   clear ha I;go_wp2_with fail;refine(oL _ _ _).mono ?_;rintro e w' ⟨rfl,rfl⟩;rcases OL a c with h|h|h
   .have C:=AB (show IX a c= -1 by simp[IX,h]);have B:=AB (show -1=cmpL x y by have:=L.AA;rwa[BQ h]at this);rw[C.AA];clear h;go_wp2_with fail;go_ret;exact⟨by rw[<-B.AA];rfl,rfl⟩
   .subst h;have C:=AB (show IX a a=0 by simp[IX]);have B:=AB (show cmpL (x.drop (k+1)) (y.drop (k+1))=cmpL x y by have:=L.AA;rwa[BF (LY _),BF (LY _)]at this);rw[C.AA];go_wp2_with fail;go_round;case rel=>exact⟨k+1,by omega,by go_num,B⟩
    case measure=>simp[intOf];omega
   .have C:=AB (show IX a c=1 by simp[IX,h];omega);have B:=AB (show 1=cmpL x y by have:=L.AA;rwa[BF (by omega),BQ h]at this);rw[C.AA];clear h;go_wp2_with fail;go_ret;exact⟨by rw[<-B.AA];rfl,rfl⟩
  .obtain rfl:k=x.length:=by omega
   have S:decide ((x.length:Int)<(x.length:Int))=false:=by simp
   have B:=AB (show 0=cmpL x y by have:=R.AA;rw[JZ]at this;simpa[cmpL]using this);go_wp2_with fail;go_ret;exact⟨by rw[<-B.AA];rfl,rfl⟩
end JJ
namespace Ig
open RowKit Lib Go.Sort AJ JJ
theorem Ws (a b:Nat)(x y:List Nat):cmpL (a::x) (b::y)=if a<b then -1 else if b<a then 1 else cmpL x y:=rfl
theorem Wt:∀x:List Nat,cmpL x x=0
 |[]=>rfl
 |a::x=>by rw[Ws,BF (LY _),BF (LY _),Wt x]
theorem WK (a b:Nat)(x y:List Nat):cmpL (a::x) (b::y)<0↔a<b\/(a=b/\cmpL x y<0):=by
 rw[Ws];by_cases B:a<b
 .simp[B]
 .by_cases C:b<a
  .rw[BF B,BQ C];constructor
   .intro h;omega
   .rintro(h|⟨h,_⟩)<;>omega
  .obtain rfl:a=b:=by omega
   simp
theorem WX:∀x y z:List Nat,x.length=y.length->y.length=z.length->cmpL x y<0->cmpL y z<0->cmpL x z<0
 |[],y,z,h1,h2,B,_=>by
  cases y with
  |nil=>exact absurd B (by simp[cmpL])
  |cons _ _=>simp at h1
 |a::x,[],z,h1,h2,B,_=>by simp at h1
 |a::x,b::y,[],h1,h2,B,_=>by simp at h2
 |a::x,b::y,c::z,h1,h2,B,C=>by
  rw[WK]at *;have D:=WX x y z (by simpa using h1) (by simpa using h2);rcases B with B|⟨rfl,B⟩
  .rcases C with C|⟨rfl,C⟩
   .exact .inl (by omega)
   .exact .inl B
  .rcases C with C|⟨rfl,C⟩
   .exact .inl C
   .exact .inr ⟨rfl,D B C⟩
theorem WL:∀x y z:List Nat,x.length=y.length->y.length=z.length->¬cmpL x y<0->¬cmpL y z<0->¬cmpL x z<0
 |[],[],[],_,_,_,_=>by simp[cmpL]
 |[],_::_,_,h1,_,_,_=>by simp at h1
 |_::_,[],_,h1,_,_,_=>by simp at h1
 |[],[],_::_,_,h2,_,_=>by simp at h2
 |a::x,b::y,[],h1,h2,h3,_=>by simp at h2
 |a::x,b::y,c::z,h1,h2,h3,h4=>by
  rw[WK]at *;have D:=WL x y z (by simpa using h1) (by simpa using h2);rintro(h|⟨rfl,h⟩)
  .rcases OL a b with B|B|B
   .exact h3 (.inl B)
   .subst B;exact h4 (.inl h)
   .exact h4 (.inl (by omega))
  .rcases OL a b with B|B|B
   .exact h3 (.inl B)
   .subst B;exact D (λC=>h3 (.inr ⟨rfl,C⟩)) (λC=>h4 (.inr ⟨rfl,C⟩)) h
   .exact h4 (.inl B)
abbrev Rw (B n:Nat)(w:World):Type:={ p:Value×List Nat // CZ 3 B w p.1 p.2/\p.2.length=n }
def encR {B n:Nat}{w:World}(x:Rw B n w):Value:=x.1.1
def Sc {B n:Nat}{w:World}(x y:Rw B n w):Int:=cmpL x.1.2 y.1.2
theorem oZ (B n:Nat)(w:World):OneCell (encR (B:=B) (n:=n) (w:=w)):=by
 rintro⟨⟨u,r⟩,⟨⟨g,c,h⟩,_⟩,_⟩;show u.oneCell'=true;simp only at h;rw[h];rfl
theorem swo (B n:Nat)(w:World):SWO (ltOf (Sc (B:=B) (n:=n) (w:=w))) where
 irrefl x:=by simp[ltOf,Sc,Wt]
 trans x y z h1 h2:=by
  exact ET (WX _ _ _ (x.2.2.trans y.2.2.symm) (y.2.2.trans z.2.2.symm) (VC h1) (VC h2))
 ntrans x y z h1 h2:=by
  exact ED (WL _ _ _ (x.2.2.trans y.2.2.symm) (y.2.2.trans z.2.2.symm) (of_decide_eq_false h1) (of_decide_eq_false h2))
section
variable {α:Type} [Inhabited α]
theorem kP {w:World}{enc:α->Value}{g n:Nat}{os:Array Obj}{B:Array Value}{e:TypeId}{fr:Nat×Nat}(d:Array α)(C:w.heap[g]?=some (.cells B e fr)):
  (sortWorld enc w g 0 n d os).heap[g]?=some (.cells (putCells enc 0 d B) e fr):=by
 have hg:g<w.heap.size:=(Bt.1 C).1;unfold sortWorld;rw[heap_grow_old _ _ (by simpa using hg)];simp[putRow,mapBlock,Sort.ahead,Array.getElem?_modify,C,onCells]
theorem XT {w:World}{enc:α->Value}{g n:Nat}{os:Array Obj}(d:Array α):Keep (λk=>k≠g) w (sortWorld enc w g 0 n d os):=by
 unfold sortWorld;refine⟨by simp,λk C B=>?_⟩;rw[heap_grow_old _ _ (by simpa using B)];have:g≠k:=λe=>C e.symm;simp[putRow,mapBlock,Sort.ahead,Array.getElem?_modify,this]
theorem kQ (enc:α->Value)(B:Array Value)(d:Array α)(h:d.size<=B.size):(putCells enc 0 d B).toList.take d.size=d.toList.map enc:=by
 apply GN;intro j;by_cases C:j<d.size
 .rw[P9 C,Ma];simp[putCells,C,show j<B.size by omega]
 .rw[List.getElem?_take_eq_none (by omega),Dq (by simp;omega)]
theorem jI {w:World}{enc:α->Value}{g:Nat}{B:Array Value}{e:TypeId}{d:Array α}(F:w.heap[g]?=some (.cells B e (0,0)))(I:B.toList.take d.size=d.toList.map enc):Holds enc w g 0 d:=by
 intro j C;refine⟨?_,by simp[World.frozen?,F]⟩;have D:(B.toList.take d.size)[j]?=(d.toList.map enc)[j]?:=by rw[I]
 rw[P9 C]at D;simp only[World.cell?,F,CK];simp only[Option.isSome_none,Bool.false_eq_true,if_false];rw[<-Ma,D];simp[C]
end
def Asc (l:List (List Nat)):Prop:=l.Pairwise λa b=>¬cmpL b a<0
theorem rf {B g:Nat}{w:World}{K:Array Value}(hg:w.heap[g]?=some (.cells K 80 (0,0))){u:Value}{r:List Nat}(J:CZ 3 B w u r):AP (λk=>k≠g) w u (ints r):=by
 have Q:=J.sl;obtain⟨⟨Z,c,rfl⟩,W⟩:=J;rcases W.2 with⟨C,_⟩|⟨h,cap,d,C,_,D,_⟩
 .cases C
 .cases C;obtain⟨S,O,F,e2,U,L,Y⟩:=Q;refine⟨S,O,F,e2,U,L,λi x R=>?_⟩;obtain⟨b,o,I,a,X,V⟩:=Y i x R;refine⟨b,o,I,?_,X,V⟩;subst I;have N:Z=b:=by
   have:=Ck Value.ownBlock F;simpa[Value.ownBlock]using this
  rintro rfl;rw[N,hg]at D;simp at D
theorem kR (B n:Nat)(w:World)(L:n<=1000)(g size:Nat)(I:Array Value)(hg:w.heap[g]?=some (.cells I 80 (0,0)))(D:Rw B n w):
  letI:Inhabited (Rw B n w):=⟨D⟩
  CmpReads Tryz.prog 92 #[] (encR (B:=B) (n:=n) (w:=w)) Sc g 0 size w:=by
 letI:Inhabited (Rw B n w):=⟨D⟩
 intro m os C K x y;have J:=XT (w:=w) (enc:=encR (B:=B) (n:=n) (w:=w)) (g:=g) (n:=m) (os:=os) C;have F:∀z:Rw B n w,AP (λ_=>True) (sortWorld (encR (B:=B) (n:=n) (w:=w)) w g 0 m C os) z.1.1 (ints z.1.2):=λz=>by
  exact AP.mono (AP.keep (S:=λk=>k≠g) (rf hg z.2.1) J) (λ_ _=>trivial)
 refine(gU _ _ _ _ _ (F x) (F y) (x.2.2.trans y.2.2.symm)).mono ?_;rintro e w' ⟨rfl,rfl⟩;exact⟨rfl,0,rfl⟩
def uJ (B:Nat)(v:Value)(F:List (List Nat))(w:World)(e:Ending)(w':World):Prop:=
 e= .returned (.tuple #[])/\∃C,C.Perm F/\Asc C/\Own2 80 3 B w' v C/\Keep (λk=>some k≠v.ownBlock) w w'/\Below (min B w.heap.size) w w'
theorem kS (B n:Nat)(hn:n<=1000)(w:World)(v:Value)(F:List (List Nat))(hF:Own2 80 3 B w v F)(b5:F.length<=1000000000)(hl:∀r∈F,r.length=n):
  Calls Tryz.prog 91 #[v,.func (.func 92) #[] #[]] w (uJ B v F w):=by
 obtain⟨us,a,O,W⟩:=hF;rcases a.2 with⟨rfl,J⟩|⟨g,cap,X,rfl,hB,hg,b3,b1,p,a8⟩
 .obtain rfl:F=[]:=Di J;have I:=AnyF.slices_SortFunc_none ({ Tryz.srt with }:SlLaysF0.n6 _ _) none 0 (.func (.func 92) #[] #[]) w;refine I.mono ?_;rintro e w' ⟨rfl,rfl⟩;exact⟨rfl,[],List.Perm.refl _,List.Pairwise.nil,Own2.nil _ _ _ _,AL,BB _ _⟩
 .cases F with
  |nil=>
   have I:=AnyF.slices_SortFunc_none ({ Tryz.srt with }:SlLaysF0.n6 _ _) (some ⟨g,0,none⟩) cap (.func (.func 92) #[] #[]) w;refine I.mono ?_;rintro e w' ⟨rfl,rfl⟩;exact⟨rfl,[],List.Perm.refl _,List.Pairwise.nil,⟨us,a,O,W⟩,AL,BB _ _⟩
  |cons r0 F0=>
   generalize a1:r0::F0=F at *;have Z:0<F.length:=by rw[<-a1];simp
   have a4:∀i:Fin F.length,∃u,us[i.1]?=some u/\CZ 3 B w u F[i.1]/\(F[i.1]).length=n:=λi=>by
    obtain⟨u,D⟩:∃u,us[i.1]?=some u:=⟨_,AU (by rw[O];exact i.2)⟩;exact⟨u,D,W i.1 _ u (AU i.2) D,hl _ (Ho i.2)⟩
   let N:Fin F.length->Rw B n w:=λi=>⟨(us[i.1]'(by rw[O];exact i.2),F[i.1]),by
    obtain⟨u,D,J,R⟩:=a4 i;obtain⟨hi,e⟩:=Ak.1 D;rw[e];exact⟨J,R⟩⟩
   letI:Inhabited (Rw B n w):=⟨N ⟨0,Z⟩⟩
   let d:Array (Rw B n w):=Array.ofFn N
   have K:d.size=F.length:=by simp[d]
   have b2:d.toList.map encR=us:=by
    apply P7
    .simp[d,O]
    .intro i q1 q2;simp[d,N,encR]
   have a7:d.toList.map (λx=>x.1.2)=F:=by
    apply P7
    .simp[d]
    .intro i q1 q2;simp[d,N]
   have hH:Holds (encR (B:=B) (n:=n) (w:=w)) w g 0 d:=jI hg (by rw[K,b2,<-a8,GZ]);have a3:g<w.heap.size:=(Bt.1 hg).1;have eg:∀Y w,(callFunc 92 Y).run Tryz.prog w= .ok (.enter 92 Y) w:=enters_of Tryz.func92 (by kernel_rfl) rfl;have I:=Any.slices_SortFunc Tryz.srt (encR (B:=B) (n:=n) (w:=w)) (oZ B n w) Sc (swo B n w) 92 #[] g 0 cap d w eg (kR B n w hn g d.size X hg (N ⟨0,Z⟩)).lays hH a3 (by rw[K];omega);rw[K]at I;refine I.mono ?_;rintro e w' ⟨rfl,C,m,os,⟨p1,p2,q⟩,hs,rfl⟩;have L:C.size=F.length:=by rw[p1,K]
   have z:C.toList.Perm d.toList:=by
    have V:C.extract 0 F.length=C:=by rw[<-L];exact Array.extract_size
    have e2:d.extract 0 F.length=d:=by rw[<-K];exact Array.extract_size
    rwa[V,e2]at q
   have Q:=XT (w:=w) (enc:=encR (B:=B) (n:=n) (w:=w)) (g:=g) (n:=m) (os:=os) C;have b0:(C.toList.map λx=>x.1.2).length=F.length:=by simp[L]
   refine⟨rfl,C.toList.map (λx=>x.1.2),?_,?_,⟨C.toList.map encR,?_,by simp,λi r u l D=>?_⟩,Q.mono (λk h e=>h (by rw[e];rfl)),⟨rfl,rfl,rfl,Q.size,λk b4=>Q.block k (by omega) (by omega)⟩⟩
   .exact(z.map _).trans (by rw[a7])
   .refine List.pairwise_iff_getElem.2 λi j hi hj a6=>?_;have a0:i<C.size:=by simpa using hi
    have a9:j<C.size:=by simpa using hj
    have:=hs i j (AX _) a6 (by omega);rw[getElem!_pos C j a9,getElem!_pos C i a0]at this;simp only[P5,Array.getElem_toList];exact of_decide_eq_false this
   .rw[b0];refine⟨by simp[L],.inr ⟨g,cap,_,rfl,hB,kP C hg,b3,b1,by simp[putCells,p],?_⟩⟩;rw[GZ,<-L];exact kQ _ X C (by rw[L,p];omega)
   .simp only[Bh,Hg]at l D;obtain⟨x,hx,rfl⟩:=l;obtain⟨y,b,rfl⟩:=D;rw[hx]at b;cases b;have J:=x.2.1;refine⟨J.1,?_⟩;have R:=J.2;refine⟨R.1,?_⟩;rcases R.2 with h7|⟨U,a5,a2,V,e2,S,e4⟩
    .exact .inl h7
    .refine .inr ⟨U,a5,a2,V,e2,?_,e4⟩;have s:U≠g:=by
      rintro rfl;rw[hg]at S;simp at S
     rw[Q.block U s (Bt.1 S).1];exact S
end Ig
namespace Rt
open RowKit AJ Ba BN Gz Jc KD OP Mh Ru VD IP Zv Grow Ig
theorem Am.strong {α:Type}{E E':World->Value->α->Prop}{S:Nat->Prop}{w:World}{v:Value}{l:List α}(h:Am E S w v l)(C:∀u x,E w u x->E' w u x):Am E' (λk=>k<w.heap.size) w v l:=by
 obtain⟨N,c,R,F,J,I,O⟩:=h;refine⟨N,c,R,F,J,I,λi x K=>?_⟩;obtain⟨b,o,L,e2,B,u,Q,D⟩:=O i x K;exact⟨b,o,L,B,B,u,Q,C _ _ D⟩
theorem AP.strong {S:Nat->Prop}{w:World}{v:Value}{l:List Int}(h:AP S w v l):AP (λk=>k<w.heap.size) w v l:=Am.strong h (λ_ _ e=>e)
theorem AQ.strong {S:Nat->Prop}{w:World}{v:Value}{l:List (List Int)}(h:AQ S w v l):AQ (λk=>k<w.heap.size) w v l:=Am.strong h (λ_ _ e=>AP.strong e)
theorem FR.strong {S:Nat->Prop}{w:World}{v:Value}{l:List (List (List Int))}(h:FR S w v l):FR (λk=>k<w.heap.size) w v l:=Am.strong h (λ_ _ e=>AQ.strong e)
theorem BH.strong {S:Nat->Prop}{w:World}{b o:Nat}{P:BZ}(h:BH S w b o P):BH (λk=>k<w.heap.size) w b o P:=by
 obtain⟨N,C,I,K,F,L,D,J,B⟩:=h;exact⟨C,C,I,K,F,L,D,J,⟨AP.strong B.os,AQ.strong B.ps,FR.strong B.cs⟩⟩
def RS (P Q:BZ)(w:World)(e:Ending)(w':World):Prop:=
 ∃(v:Value) (k:Int),e= .returned (.tuple #[v,.int .i64 k])/\Below w.heap.size w w'/\
  ((v= .slice none 0 0/\k=1/\¬(BR P/\BR Q))\/
   ∃T U,P=AZ T/\Q=AZ U/\BR P/\BR Q/\
   ((v= .slice none 0 0/\k=3/\(27<sz T\/27<sz U))\/(v= .slice none 0 0/\k=0/\sz T<=27/\sz U<=27/\sz T≠sz U)\/
    (k=0/\sz T=sz U/\sz U<=27/\∃F,F.Perm (grow U T T.length [])/\Asc F/\Own2 80 3 w.heap.size w' v F)))
theorem og (Q:Tw):Ve Q [] [] 1:=⟨by omega,λc=>by
 simp only[FH];cases c with
 |zero=>simp
 |succ c=>simp[Nat.testBit_succ]⟩
theorem Wu {Q T:Tw}:∀(k:Nat) (im:List Nat),∀r∈grow Q T k im,r.length=k+im.length
 |0,im,r,h=>by simp only[grow,ES]at h;rw[h];simp
 |k+1,im,r,h=>by
  rw[grow,List.mem_flatMap]at h;obtain⟨x,_,h⟩:=h;split at h
  .rw[Wu k _ r h];simp;omega
  .simp at h
theorem wT (n:Nat)(B:n<=6)(w:World):(Instr.makeSlice 80 (.int .i64 (n:Int)) (.int .i64 (n:Int))).run Tryz.prog w= .ok (.slice (some ⟨w.heap.size,0,none⟩) n n) (w.alloc (.cells (madeCells #[.int .i64 0] n) 3)):=
 run_make_row' (P:=Tryz.prog) 80 3 (.int .i64 0) 8 Tryz.underlying80 Rv rfl .i64 .i64 n (by omega) (by omega) w
structure Ol (w W:World)(bs bp op bg gi n:Nat)(U:Tw):Prop where
 Si:Below w.heap.size w W
 a1:w.heap.size<=bs
 a2:w.heap.size<=bg
 a3:w.heap.size<=gi
 b1:bs<W.heap.size
 b2:bg<W.heap.size
 b3:gi<W.heap.size
 c1:bs≠gi
 c2:bg≠bs
 c3:bg≠gi
 row:W.heap[bs]?=some (.cells #[.pointer (some ⟨bp,op,none⟩),.pointer (some ⟨bg,0,none⟩),.slice (some ⟨gi,0,none⟩) n n,.bool false,.slice none 0 0] 111)
 img:W.heap[gi]?=some (.cells (madeCells #[.int .i64 0] n) 3)
 tab:∃v,W.cell? ⟨bg,0,none⟩=some v/\AQ (λk=>k≠bs/\k≠gi/\k<W.heap.size) W v ((FQ U (sz U)).map ints)
theorem Am.Q5 {α:Type}{E E':World->Value->α->Prop}{S:Nat->Prop}{w:World}{v:Value}{l:List α}(h:Am E S w v l)(C:∀u x,E w u x->E' w u x):Am E' (λk=>S k/\k<w.heap.size) w v l:=by
 obtain⟨N,c,R,F,J,I,O⟩:=h;refine⟨N,c,R,F,J,I,λi x K=>?_⟩;obtain⟨b,o,L,e2,B,u,Q,D⟩:=O i x K;exact⟨b,o,L,⟨e2,B⟩,B,u,Q,C _ _ D⟩
theorem AQ.Q5 {S:Nat->Prop}{w:World}{v:Value}{l:List (List Int)}(h:AQ S w v l):AQ (λk=>S k/\k<w.heap.size) w v l:=Am.Q5 h (λ_ _ e=>Am.Q5 e (λ_ _ e=>e))
theorem UX {D W:World}{B J F:Nat}{v:Value}{U:Tw}(h:Own2 80 3 B D v (FQ U (sz U)))(I:Keep (λ_=>True) D W)(K:∀k,B<=k->k<D.heap.size->k≠J/\k≠F):
  AQ (λk=>k≠J/\k≠F/\k<W.heap.size) W v ((FQ U (sz U)).map ints):=
 AQ.mono ((AQ.Q5 h.sl).keep (I.mono (λ_ _=>trivial))) (λk C=>⟨(K k C.1 C.2).1,(K k C.1 C.2).2,Ah C.2 I.size⟩)
theorem KY (w:World)(o:Obj)(k:Nat)(h:k=w.heap.size):(w.alloc o).heap[k]?=some o:=by subst h;exact Aj _ _
theorem uK {w w6 C:World}{F D n B:Nat}{v:Value}{U:Tw}(I:Below w.heap.size w C)(h:Own2 80 3 B C v (FQ U (sz U))):
  Ol w (((C.alloc (.cells #[v] 109)).alloc (.cells (madeCells #[.int .i64 0] n) 3)).alloc (.cells #[.pointer (some ⟨F,D,none⟩),.pointer (some ⟨C.heap.size,0,none⟩),.slice (some ⟨C.heap.size+1,0,none⟩) n n,.bool false,.slice none 0 0] 111)) (C.heap.size+1+1) F D C.heap.size (C.heap.size+1) n U:=by
 have J:=I.size;refine⟨((I.alloc J _).alloc (by simp;omega) _).alloc (by simp;omega) _,by omega,by omega,by omega,by simp,by simp;omega,by simp,by omega,by omega,by omega,KY _ _ _ (by simp),(Ji _ _ (by simp)).trans (KY _ _ _ (by simp)),v,?_,UX h (((AL.alloc _).alloc _).alloc _) (λk _ K=>by omega)⟩;exact(Ar _ _ _ #[v] 109 (0,0) ((Ji _ _ (by simp;omega)).trans ((Ji _ _ (by simp)).trans (KY _ _ _ (by simp))))).trans rfl
theorem uL {w w6 C:World}{F D n B:Nat}{v:Value}{U:Tw}(I:Below w.heap.size w C)(h:Own2 80 3 B C v (FQ U (sz U))):
  Ol w (((C.alloc (.cells (madeCells #[.int .i64 0] n) 3)).alloc (.cells #[v] 109)).alloc (.cells #[.pointer (some ⟨F,D,none⟩),.pointer (some ⟨C.heap.size+1,0,none⟩),.slice (some ⟨C.heap.size,0,none⟩) n n,.bool false,.slice none 0 0] 111)) (C.heap.size+1+1) F D (C.heap.size+1) C.heap.size n U:=by
 have J:=I.size;refine⟨((I.alloc J _).alloc (by simp;omega) _).alloc (by simp;omega) _,by omega,by omega,by omega,by simp,by simp,by simp;omega,by omega,by omega,by omega,KY _ _ _ (by simp),(Ji _ _ (by simp;omega)).trans ((Ji _ _ (by simp)).trans (KY _ _ _ (by simp))),v,?_,UX h (((AL.alloc _).alloc _).alloc _) (λk _ K=>by omega)⟩;exact(Ar _ _ _ #[v] 109 (0,0) ((Ji _ _ (by simp)).trans (KY _ _ _ (by simp)))).trans rfl
theorem uM {w w6 B:World}{F D n:Nat}{v:Value}{U:Tw}(K:Below w.heap.size w w6)(C:Below (w6.heap.size+1) (w6.alloc (.cells (madeCells #[.int .i64 0] n) 3)).drew B)(h:Own2 80 3 (w6.heap.size+1) B v (FQ U (sz U))):
  Ol w ((B.alloc (.cells #[v] 109)).alloc (.cells #[.pointer (some ⟨F,D,none⟩),.pointer (some ⟨B.heap.size,0,none⟩),.slice (some ⟨w6.heap.size,0,none⟩) n n,.bool false,.slice none 0 0] 111)) (B.heap.size+1) F D B.heap.size w6.heap.size n U:=by
 have L:=K.size;have O:=C.size;simp at O;have I:Below w.heap.size w B:=((K.alloc L _).drew).trans (C.mono (by omega));have N:=I.size;have hg:B.heap[w6.heap.size]?=some (.cells (madeCells #[.int .i64 0] n) 3):=by
  rw[C.block _ (by omega)];exact KY w6 _ _ rfl
 refine⟨(I.alloc N _).alloc (by simp;omega) _,by omega,by omega,by omega,by simp,by simp;omega,by simp;omega,by omega,by omega,by omega,KY _ _ _ (by simp),?_,v,?_,UX h ((AL.alloc _).alloc _) (λk J Q=>by omega)⟩
 .have J:Keep (λ_=>True) B ((B.alloc (.cells #[v] 109)).alloc (.cells #[.pointer (some ⟨F,D,none⟩),.pointer (some ⟨B.heap.size,0,none⟩),.slice (some ⟨w6.heap.size,0,none⟩) n n,.bool false,.slice none 0 0] 111)):=(AL.alloc _).alloc _;rw[J.block _ trivial (by omega)];exact hg
 .exact(Ar _ _ _ #[v] 109 (0,0) ((Ji _ _ (by simp)).trans (KY _ _ _ (by simp)))).trans rfl
theorem Ol.wU {w W:World}{J D C I F:Nat}{T U:Tw}(h:Ol w W J D C I F T.length U)(O:BH (λk=>k<w.heap.size) w D C (AZ T))(R:T.length<=6):
  FU W J D C I F T.length W.heap.size T U false (List.replicate T.length 0) [] (.slice none 0 0):=by
 have L:=h.Si.size;have S:=h.a1;have Q:=h.a3;obtain⟨v,N,K⟩:=h.tab;refine⟨h.b1,h.b3,h.c1,Al _,h.row,?_,⟨⟨h.b2,h.c2,h.c3⟩,h.b2,v,N,K.mono (λk B=>⟨B.2.2,B.1,B.2.1⟩)⟩,by simp,?_,Own2.nil _ _ _ _⟩
 .exact(O.keep ⟨L,λk B _=>h.Si.block k B⟩).mono (λk B=>⟨by omega,by omega,by omega⟩)
 .refine⟨by simp[vals,ints],.inr ⟨F,T.length,_,rfl,AX _,h.img,Al _,by unfold maxLen;omega,by simp[madeCells],?_⟩⟩;rw[Kc];simp[vals,ints]
theorem fo (w:World)(J Y N L:Nat)(P Q:BZ)(hP:BH Any w J Y P)(hQ:BH Any w N L Q):
  Calls Tryz.prog 46 #[.pointer (some ⟨J,Y,none⟩),.pointer (some ⟨N,L,none⟩)] w (RS P Q w):=by
 have HP:=AB hP;have HQ:=AB hQ;obtain⟨_,g2,vO,vP,vC,p0,p1,p2,g⟩:=hP;obtain⟨_,b7,uO,uP,uC,q0,q1,q2,c3⟩:=hQ;have e8:=AB g;have f2:=AB c3;have Z:=AB (λW a b c P h=>Mi.LA W a b c P h);have b2:Hid (¬(BR P/\BR Q)->∀w',Below w.heap.size w w'->RS P Q w (.returned (.tuple #[.slice none 0 0,.int .i64 1])) w'):=AB λh w' hb=>⟨_,_,rfl,hb,.inl ⟨rfl,rfl,h⟩⟩;clear g c3;go_enter Tryz.func46,Tryz.ntmps46;go_wp2_with fail;refine(Z.AA _ _ _ _ _ e8.AA).mono ?_;rintro e w1 ⟨r,rfl,D,a2⟩;have b6:=AB a2;by_cases R:BR P
 .obtain rfl:r=true:=D.2 R;have d0:=AB R;have k1:=Ap (AO a2);have r0:=(k1.1 N L b7).trans q0;have r1:=(k1.1 N (L+1) b7).trans q1;have r2:=(k1.1 N (L+2) b7).trans q2;have c8:=AB (f2.AA.keep (AO a2));clear D a2 R k1;go_wp2_with fail;refine(Z.AA _ _ _ _ _ c8.AA).mono ?_;rintro e w2 ⟨r,rfl,D,b3⟩;have q:=AB (b6.AA.trans (b3.mono b6.AA.size));by_cases X:BR Q
  .obtain rfl:r=true:=D.2 X;have e4:=AB X;clear D b3 r0 r1 r2 p0 p1 p2 q0 q1 q2 c8;obtain⟨U,hU,a5,rfl,c9,d2⟩:=X;obtain⟨T,hT,hs,rfl,d3,e0⟩:=d0.AA;have e6:=Qo d3;have c0:=Qo c9;have K:=AB (λW (h:Below w.heap.size w W)=>HP.AA.keep (S:=Any) (AO h));have s:=AB (λW (h:Below w.heap.size w W)=>HQ.AA.keep (S:=Any) (AO h));have p:=AB (λW (h:Below w.heap.size w W)=>Gs T hT hs.1 e6 W J Y (K.AA W h));have a0:=AB (λW (h:Below w.heap.size w W)=>Gs U hU a5.1 c0 W N L (s.AA W h));have z:=AB (λW (h:Below w.heap.size w W)=>jJ U hU a5 d2 c0 W N L (s.AA W h));have b4:=hs.1;have HT:=AB hT;have HS:=AB hs;have HU:=AB hU;have f8:=AB a5;clear hT hs hU a5 d3 c9 d2 e0;have a8:Hid (∀v k w',Below w.heap.size w w'->((v= .slice none 0 0/\k=3/\(27<sz T\/27<sz U))\/(v= .slice none 0 0/\k=0/\sz T<=27/\sz U<=27/\sz T≠sz U)\/
     (k=0/\sz T=sz U/\sz U<=27/\∃F,F.Perm (grow U T T.length [])/\Asc F/\Own2 80 3 w.heap.size w' v F))->RS (AZ T) (AZ U) w (.returned (.tuple #[v,.int .i64 k])) w'):=
    AB λv k w' hb h=>⟨v,k,rfl,hb,.inr ⟨T,U,rfl,rfl,d0.AA,e4.AA,h⟩⟩
   go_wp2_with fail;refine(p.AA _ q.AA).mono ?_;rintro e w3 ⟨rfl,c5⟩;have u:=AB (q.AA.trans (c5.mono q.AA.size));clear c5;by_cases j:27<sz T
   .have hd:decide ((sz T:Int)>27)=true:=by simp;omega
    have C:=AB (a8.AA (.slice none 0 0) 3 w3 u.AA (.inl ⟨rfl,rfl,.inl j⟩));clear K s p a0 z Z j;go_wp2_with fail;exact Au (v:=.tuple #[.slice none 0 0,.int .i64 3]) (by simp[results,Tryz.results46,go_sem]) rfl C.AA
   .have hd:decide ((sz T:Int)>27)=false:=by simp;omega
    go_wp2_with fail;refine(a0.AA _ u.AA).mono ?_;rintro e w4 ⟨rfl,d9⟩;have x:=AB (u.AA.trans (d9.mono u.AA.size));clear d9;by_cases a9:27<sz U
    .have c6:decide ((sz U:Int)>27)=true:=by simp;omega
     have C:=AB (a8.AA (.slice none 0 0) 3 w4 x.AA (.inl ⟨rfl,rfl,.inr a9⟩));clear K s p a0 z Z j a9;go_wp2_with fail;exact Au (v:=.tuple #[.slice none 0 0,.int .i64 3]) (by simp[results,Tryz.results46,go_sem]) rfl C.AA
    .have c6:decide ((sz U:Int)>27)=false:=by simp;omega
     go_wp2_with fail;refine(p.AA _ x.AA).mono ?_;rintro e w5 ⟨rfl,d8⟩;have a6:=AB (x.AA.trans (d8.mono x.AA.size));clear d8;go_wp2_with fail;refine(a0.AA _ a6.AA).mono ?_;rintro e w6 ⟨rfl,d1⟩;have B:=AB (a6.AA.trans (d1.mono a6.AA.size));clear d1;by_cases a4:sz T=sz U
     .have e1:((sz T:Int) !=(sz U:Int))=false:=by simp[a4]
      have e7:=AB (BH.strong (K.AA w AY));obtain⟨_,d7,vO,vP,vC,p0,p1,p2,g⟩:=K.AA _ B.AA;obtain⟨aO,cO,aP,cP,aC,cC,rfl,rfl,rfl,g1,g4,f5⟩:=g.open;clear g p1 p2 j hd c6;have f9:∀W:World,(Instr.makeSlice 80 (.int .i64 (T.length:Int)) (.int .i64 (T.length:Int))).run Tryz.prog W= .ok (.slice (some ⟨W.heap.size,0,none⟩) T.length T.length) (W.alloc (.cells (madeCells #[.int .i64 0] T.length) 3)):=λW=>wT T.length (by omega) W;go_upto_region 7 with fail;clear Z b2 q u x a6;go_cut [6] (λsv W=>∃I bg gi,sv= .pointer (some ⟨I,0,none⟩)/\Ol w W I J Y bg gi T.length U);case rest=>
       obtain⟨I,bg,gi,rfl,O⟩:=hcut;have HI:=AB O;obtain⟨_,g8,g7,g0,g9,e3,_,_,b8⟩:=K.AA _ O.Si;obtain⟨h1,f4,f7,g6,h3,f6,rfl,rfl,rfl,_,_,_⟩:=b8.open;have f1:=AB (O.wU (e7.AA) b4);have e5:=AB (λf3=>iG w.heap.size T U HT.AA HS.AA HU.AA (by omega) I J Y bg gi T.length wc.heap.size false ⟨O.a1,O.a3⟩ T.length AV wc (List.replicate T.length 0) [] (.slice none 0 0) 1 f3
        (λy hy=>by rw[(GL.1 hy).2];exact FM HU.AA) (by rw[JZ];simpa using og U) (by have h6:27^T.length<=27^6:=MX (by omega) b4;simp;omega) (λh=>by simp at h))
       have b5:=AB O.Si;clear b8 O p0;go_wp2_with fail;refine(e5.AA f1.AA).mono ?_;rintro e w8 ⟨rfl,g5,l,i,_,_,d5⟩;have e2:I<w8.heap.size:=Ah HI.AA.b1 i.hB;have b0:Own2 80 3 wc.heap.size w8 l (grow U T T.length []):=by
        have h:=i.QQ;rwa[iH,List.nil_append,show(List.replicate T.length 0).drop T.length=[] by simp]at h
       have q4:=i.cells.2.2.2.2;have c2:some I≠l.ownBlock:=λe=>by
        obtain⟨us,hu,_⟩:=b0;have:=(Aq hu I e.symm).1;have:=HI.AA.b1;omega
       have f0:=AB b0;have e9:=AB (b5.AA.trans d5.1);have h0:=i.hB;clear i d5 b0 e3;go_wp2_with fail;refine(kS wc.heap.size T.length (by omega) w8 l _ f0.AA (by have h6:27^T.length<=27^6:=MX (by omega) b4;have:=TL U T (by omega) T.length [];omega) (λr D=>by have:=Wu _ _ r D;simpa using this)).mono ?_;rintro e w9 ⟨rfl,F',b9,d6,d4,c4,c1⟩;have g3:=(c4.cell (b:=I) (o:=4) c2 e2).trans q4;have C:=AB (a8.AA l 0 w9 (e9.AA.trans (c1.mono (by have:=b5.AA.size;omega))) (.inr (.inr ⟨rfl,a4,by omega,F',b9,d6,d4.mono b5.AA.size⟩)));clear b9 d6 d4 c4 c1 q4 c2;go_wp2_with fail;exact Au (v:=.tuple #[l,.int .i64 0]) (by simp[results,Tryz.results46,go_sem]) rfl C.AA
      go_region_law
       (first|(go_simp;go_at_call 89;refine(z.AA _ (by first|exact B.AA|exact(B.AA).drew)).mono ?_;rintro e w7 ⟨v7,rfl,V,d⟩;obtain⟨a7,c7,rfl,_,_⟩:=V.form;have k7:=Ap (AO d);have p7:=(k7.1 J Y d7).trans p0;have h2:J<w7.heap.size:=Ah d7 d.size)|(go_simp;go_at_call 89;refine(z.AA _ (by first|exact((B.AA).alloc (by have:=B.AA.size;omega) _).drew|exact(B.AA).alloc (by have:=B.AA.size;omega) _)).mono ?_;rintro e w7 ⟨v7,rfl,V,d⟩;obtain⟨a7,c7,rfl,_,_⟩:=V.form))
      all_goals (go_wp2_with fail;go_meet)
      all_goals first
       |exact⟨_,_,_,rfl,uK (w6:=w6) ((B.AA.drew).trans (d.mono B.AA.size)) V⟩
       |exact⟨_,_,_,rfl,uL (w6:=w6) ((B.AA.drew).trans (d.mono B.AA.size)) V⟩
       |exact⟨_,_,_,rfl,uM B.AA (by simpa using d) (by simpa using V)⟩
     .have e1:((sz T:Int) !=(sz U:Int))=true:=by simp;omega
      have C:=AB (a8.AA (.slice none 0 0) 0 w6 B.AA (.inr (.inl ⟨rfl,rfl,by omega,by omega,a4⟩)));clear K s p a0 z Z j a9 a4;go_wp2_with fail;exact Au (v:=.tuple #[.slice none 0 0,.int .i64 0]) (by simp[results,Tryz.results46,go_sem]) rfl C.AA
  .obtain rfl:r=false:=by
    cases r with
    |false=>rfl
    |true=>exact absurd (D.1 rfl) X
   have C:=AB (b2.AA (λh=>X h.2) w2 q.AA);clear D b3 X r0 r1 r2;go_wp2_with fail;exact Au (v:=.tuple #[.slice none 0 0,.int .i64 1]) (by simp[results,Tryz.results46,go_sem]) rfl C.AA
 .obtain rfl:r=false:=by
   cases r with
   |false=>rfl
   |true=>exact absurd (D.1 rfl) R
  have C:=AB (b2.AA (λh=>R h.1) w1 b6.AA);clear D a2 R;go_wp2_with fail;exact Au (v:=.tuple #[.slice none 0 0,.int .i64 1]) (by simp[results,Tryz.results46,go_sem]) rfl C.AA
end Rt
namespace EM
open RowKit AJ BN CL SE BU Iy Ga Zw
def bL (R:List (List (List Nat)))(w:World)(e:Ending)(w':World):Prop:=∃v,e= .returned v/\Own3 w.heap.size w' v R/\Below w.heap.size w w'
theorem jK (T Q:Tw)(hT:Wf T)(b1:Small T)(hQ:Wf Q)(hs:Small Q)(hg:AJ.Good Q)(hp:EN.Pr Q)(hz:sz Q<=27)(w:World)(pO pP pC B C F:Value)
  (x:Av Any w pO pP pC (AZ T)) (a5:Av Any w B C F (AZ Q)):
  Calls Tryz.prog 58 #[.agg #[pO,pP,pC],.agg #[B,C,F]] w (bL (Bo Q T T.length []) w):=by
 obtain⟨i0,b8,d2,d5,b9⟩:=Bd GJ;have e0:=b1.1;obtain⟨U,X,R,N,Z,V,rfl,rfl,rfl,e1,e2,e6⟩:=x.open;have d9:=AB x;have a8:=AB a5;have d1:=AB (Ca.NU Q);have c0:=AB (λW I=>Ca.PY Q hs.1 W B C F I);have d3:=AB (kT T Q hT b1 hQ hs hg hp hz);have b7:=AB (show Fq Q T.length []=List.replicate T.length (AJ.one Q) by unfold Fq;rw[FP]);have b4:=AB (show(0:Nat)+27^T.length<=1000000000 from by
  have h6:27^T.length<=27^6:=MX (by omega) e0;omega)
 obtain⟨L,d⟩:∃L,L=(w.alloc (.cells #[.slice U T.length X,.slice R T.length N,.slice Z T.length V] 28)).alloc (.cells #[B,C,F] 28):=⟨_,rfl⟩;have b5:=AB (show Below (w.heap.size+2) ((w.alloc (.cells #[.slice U T.length X,.slice R T.length N,.slice Z T.length V] 28)).alloc (.cells #[B,C,F] 28)) L by rw[d];exact BB _ _);have a7:=AB (show L.heap.size=w.heap.size+2 by rw[d];simp);have c6:=AB (DL (base:=w.heap.size+2) (e:=24) (size:=1) L #[] 0 (by rw[a7.AA];exact Al _) (AX _) rfl);clear x a5;go_enter Tryz.func58,Tryz.ntmps58;go_upto_region 1 with fail;rw[<-d];clear d;go_wp2_with fail;go_loopw [5,6] (λv iv wr=>∃k:Nat,k<=T.length/\iv= .int .i64 (k:Int)/\Hid (Own2 24 2 (w.heap.size+2) wr v (List.replicate k (AJ.one Q)))/\Hid (Below (w.heap.size+2) ((w.alloc (.cells #[.slice U T.length X,.slice R T.length N,.slice Z T.length V] 28)).alloc (.cells #[B,C,F] 28)) wr)) (λ_ iv _=>T.length-(intOf iv).toNat);case atStart=>exact⟨0,AX _,rfl,AB ⟨[],c6.AA,rfl,by simp⟩,AB (b5.AA.alloc (by rw[a7.AA];exact Al _) _)⟩
 case round=>
  obtain⟨k,hk,rfl,I,hB⟩:=hrel;obtain⟨⟨p0,p1,p2⟩,⟨q0,q1,q2⟩,K,a,z⟩:=bx hB.AA;by_cases e3:k<T.length
  .have d8:=AB (show AP Any wr B (ints (Ca.Ed Q)) from by
    have h:=(a8.AA.keep K).os;rwa[d1.AA]at h)
   clear K a;go_wp2_with fail;refine(c0.AA _ d8.AA).mono ?_;rintro e w1 ⟨g,c,rfl,ho,s⟩;have a1:=AB (hB.AA.trans (s.mono z));have b0:=AB (CX.row (ho.mono (B':=w.heap.size+2) z));obtain⟨us,Y,h2,h4⟩:=I.AA.of_below s;have HU:=AB (And.intro h2 h4);have a3:(List.replicate k (AJ.one Q)).length=k:=Bp;rw[a3]at Y;have d0:=AB a3;have y:=AB (Ae z s.size);clear ho s h2 h4 I a3 p0 p1 p2 q0 q1 q2;go_wp2_with (at_builtin;(refine DR _ rfl _ _ 25 rfl (w.heap.size+2) 24 i0 (.slice none 0 0) 1 24 Tryz.underlying25 b8 d2 d5 b9 rfl (by decide) _ _ _ rfl (Y.alloc _) ⟨w1.heap.size,0,none⟩ 1 1 [.slice (some ⟨g,0,none⟩) (ints (AJ.one Q)).length c] rfl rfl ?c1 ?c2 ?c3 ?c4 ?c5 ?_));case c1=>
    intro j u p
    match j,p with
    |0,p=>simp at p;subst p;simp[Addr.add]
   case c2=>intro u l;simp at l;subst l;rfl
   case c3=>unfold maxLen;omega
   case c4=>omega
   case c5=>have:=y.AA;simp;omega
   .intro v' w2 a9 a4 _;have HN:=AB (show Own2 24 2 (w.heap.size+2) w2 v' (List.replicate (k+1) (AJ.one Q)) from by
     rw[IK];exact Own2.push (w:=w1.alloc _) (us:=us) (by decide) d0.AA (Y.alloc _) HU.AA.1 (λi r u hr l=>(HU.AA.2 i r u hr l).keep (S:=λ_=>True) (AL.alloc _) (λ_ _=>trivial)) (b0.AA.keep (S:=λ_=>True) (AL.alloc _) (λ_ _=>trivial)) a9 a4)
    have d7:=AB (show Below (w.heap.size+2) ((w.alloc (.cells #[.slice U T.length X,.slice R T.length N,.slice Z T.length V] 28)).alloc (.cells #[B,C,F] 28)) w2 from(a1.AA.alloc (by have:=y.AA;omega) _).grown a4 (by simp;have:=y.AA;omega) (λg hg=>(Aq Y g hg).1));clear a9 a4 Y HU b0;go_wp2_with fail;go_roundw;case rel=>exact⟨k+1,by omega,by go_num,HN,d7⟩
    case measure=>simp[intOf];omega
  .obtain rfl:k=T.length:=by omega
   have e5:decide ((T.length:Int)<(T.length:Int))=false:=by simp
   have HK:=AB K;have e4:=AB a;obtain⟨D,O⟩:∃D,D=wr.alloc (.cells #[] 25):=⟨_,rfl⟩;have q:Keep Any wr D:=by rw[O];exact AL.alloc _
   have a0:=AB (show∀b,b<wr.heap.size->some b≠(Value.slice (some ⟨wr.heap.size,0,none⟩) 0 0).ownBlock from λb J e=>by
    simp only[Value.ownBlock,EQ]at e;omega)
   have d6:=AB (((d9.AA.keep K).bnd.mono (λb J=>a0.AA b J.2)).keep (q.mono (λ_ _=>trivial)));have c7:=AB (((a8.AA.keep K).bnd.mono (λb J=>a0.AA b J.2)).keep (q.mono (λ_ _=>trivial)));obtain⟨ai,ci,rfl,_,_⟩:=I.AA.form;rw[Bp]at I ⊢;have c8:=AB (show AQ (λb=>some b≠(Value.slice (some ⟨wr.heap.size,0,none⟩) 0 0).ownBlock) D (.slice ai T.length ci) ((Fq Q T.length []).map ints) from by
    rw[b7.AA];exact((I.AA.sl.bnd).mono (λb J=>a0.AA b J.2)).keep (q.mono (λ_ _=>trivial)))
   have c9:=AB (show Own3 w.heap.size D (.slice (some ⟨wr.heap.size,0,none⟩) 0 0) [] from⟨[],by
    rw[O];exact DL (base:=w.heap.size) (e:=25) (size:=1) wr #[] 0 (by omega) (AX _) rfl,rfl,by simp⟩)
   have a1:=AB (show Below w.heap.size w D from by rw[O];exact a.alloc (by omega) _);have b6:=AB (show w.heap.size<=D.heap.size from by rw[O];simp;omega);clear K a q;go_wp2_with fail;rw[<-O];have a6:=d3.AA w.heap.size D (.slice U T.length X) (.slice R T.length N) (.slice Z T.length V) B C F (.slice ai T.length ci) (.slice (some ⟨wr.heap.size,0,none⟩) 0 0) [] [] d6.AA c7.AA c8.AA (by simp) (by simp) c9.AA b6.AA b4.AA;refine a6.mono ?_;rintro e w6 ⟨v6,rfl,a2,d4,b3,b2⟩;have HR:=AB (show bL (Bo Q T T.length []) w (.returned v6) w6 from⟨_,rfl,by rw[List.nil_append]at a2;exact a2,a1.AA.trans b2⟩);clear a2 d4 b3 b2 a6 p0 p1 p2 q0 q1 q2;go_wp2_with fail;go_ret;exact HR.AA
theorem FJ {T:Tw}(h:Ba.BR (AZ T)):Wf T/\Small T/\AJ.Good T/\EN.Pr T:=by
 obtain⟨K,D,B,I,F,C⟩:=h;obtain rfl:=Ba.FK I;refine⟨D,B,C,λL J=>?_⟩;have:=F.pr (L.o:Int) (BX.2 ⟨L,J,rfl⟩);simp[Val.Bw]at this;omega
end EM
namespace QL
open RowKit AJ BN CL SE BU Ga EM
theorem RU {T:Tw}(h:Ba.BR (AZ T)):Ca.Os T/\sz T<=729:=by
 obtain⟨J,D,C,I,F,K⟩:=h;obtain rfl:=Ba.FK I;have B:=Qo F;exact⟨Ca.Os.of D C B,B⟩
end QL
namespace VE
open RowKit AJ Ba BN Gz IP Grow Ig Rt
def VL (P:BZ)(n k:Int):Prop:=
 (n=0/\k=1/\¬BR P)\/∃T,P=AZ T/\BR P/\((n=0/\k=3/\27<sz T)\/(k=0/\sz T<=27/\n=((grow T T T.length []).length:Int)))
def bS (P:BZ)(w:World)(e:Ending)(w':World):Prop:=∃n k:Int,e= .returned (.tuple #[.int .i64 n,.int .i64 k])/\VL P n k/\Below w.heap.size w w'
theorem kU {P Q:BZ}{w w':World}{e:Ending}(h:RS P Q w e w'):∃a n c k,e= .returned (.tuple #[.slice a n c,.int .i64 k])/\n<=1000000000/\Below w.heap.size w w'/\(P=Q->VL P (n:Int) k):=by
 obtain⟨v,k,rfl,B,h⟩:=h;rcases h with⟨rfl,rfl,h⟩|⟨T,U,hT,C,D,W,h⟩
 .exact⟨none,0,0,1,rfl,by omega,B,λe=>.inl ⟨rfl,rfl,λI=>h ⟨I,e▸I⟩⟩⟩
 .rcases h with⟨rfl,rfl,h⟩|⟨rfl,rfl,V,J,O⟩|⟨rfl,V,J,F,R,_,K⟩
  .refine⟨none,0,0,3,rfl,by omega,B,λe=>.inr ⟨T,hT,D,.inl ⟨rfl,rfl,?_⟩⟩⟩;obtain rfl:T=U:=FK (hT.symm.trans (e.trans C));omega
  .refine⟨none,0,0,0,rfl,by omega,B,λe=>?_⟩;obtain rfl:T=U:=FK (hT.symm.trans (e.trans C));exact absurd rfl O
  .obtain⟨a,c,rfl,_,_⟩:=K.form;have L:=R.length_eq;have hg:=TL U T J T.length [];have X:27^T.length<=27^6:=MX (by omega) (by
    obtain⟨S,_,N,e,_⟩:=D;obtain rfl:T=S:=FK (hT.symm.trans e);exact N.1)
   refine⟨a,F.length,c,0,rfl,by omega,B,λe=>.inr ⟨T,hT,D,.inr ⟨rfl,by omega,?_⟩⟩⟩;obtain rfl:T=U:=FK (hT.symm.trans (e.trans C));rw[L]
theorem jL (w:World)(C D B:Value)(P:BZ)(K:Av Any w C D B P):
  Calls Tryz.prog 20 #[.agg #[C,D,B]] w (bS P w):=by
 have J:=AB K;clear K;have N:Hid (Below w.heap.size w (w.alloc (.cells #[C,D,B] 28))):=AB (AY.alloc (by simp) _);have O:=AB (fo (w.alloc (.cells #[C,D,B] 28)) w.heap.size 0 w.heap.size 0 P P (Mi.TU J.AA AY) (Mi.TU J.AA AY));go_enter Tryz.func20,Tryz.ntmps20;go_wp2_with fail;refine O.AA.mono ?_;rintro e L h;obtain⟨a,n,c,k,rfl,R,F,I⟩:=kU h;have Q:=AB (show bS P w (.returned (.tuple #[.int .i64 (n:Int),.int .i64 k])) L from⟨_,_,rfl,I rfl,N.AA.trans (F.mono (by simp))⟩);clear h F I;go_wp2_with fail;exact Au (v:=.tuple #[.int .i64 (n:Int),.int .i64 k]) (by simp[results,Tryz.results20,go_sem]) rfl Q.AA
end VE
namespace Ord
open AJ BN CL JJ Ig
end Ord
end Go.Proofs.YtgjadpmbnejaoaaGreat

import Derived.Test.YtgjadpmbnejaoaaGreatZA
/-
  Lemmas for the law FnAutomorphisms, in short spelling.
-/
set_option linter.unusedVariables false
set_option linter.unusedSimpArgs false
set_option maxRecDepth 100000
set_option maxHeartbeats 40000000
namespace Go.Proofs.YtgjadpmbnejaoaaGreat
namespace vT
open RowKit AJ BN CL BU Ga JJ Ig Go.Proofs.YtgjadpmbnejaoaaGreat.Ord
end vT
namespace bZ
open RowKit AJ BN CL BU Ga JJ Ig Go.Proofs.YtgjadpmbnejaoaaGreat.Ord
theorem GA {B:Nat}{a w w':World}(C:Below B a w)(h:∃n,w'=w.drewN n):Below B a w':=by
 obtain⟨n,rfl⟩:=h;exact Cs C n
end bZ
namespace SF
open RowKit AJ BN CL BU Ga JJ Ig Go.Proofs.YtgjadpmbnejaoaaGreat.Ord
theorem bx1 {w wr:World}{C D F:Value}{t:TypeId}(B:Below (w.heap.size+1) (w.alloc (.cells #[C,D,F] t)) wr):
  (wr.cell? ⟨w.heap.size,0,none⟩=some C/\wr.cell? ⟨w.heap.size,1,none⟩=some D/\wr.cell? ⟨w.heap.size,2,none⟩=some F)/\
  Keep Any w wr/\Below w.heap.size w wr/\w.heap.size+1<=wr.heap.size:=⟨CY B,Cq B _,Cy B,by have:=B.size;simpa using this⟩
end SF
namespace Mark
open RowKit AJ BN CL BU Ga JJ Ig Go.Proofs.YtgjadpmbnejaoaaGreat.Ord
abbrev Row1:World->Value->Nat×List Int->Prop:=λw u p=>AP (λb=>b=p.1) w u p.2
abbrev VF (S:Nat->Prop)(w:World)(v:Value)(L:List (Nat×List Int)):Prop:=Am Row1 S w v L
end Mark
namespace GK
open RowKit AJ BN CL BU Ga JJ Ig Go.Proofs.YtgjadpmbnejaoaaGreat.Ord Go.Proofs.YtgjadpmbnejaoaaGreat.Mark
def Ee (B:Nat)(w:World)(v:Value)(L:List (Nat×List Int)):Prop:=
 ∃us:List Value,w.ownsRow B 24 1 v L.length us/\us.length=L.length/\∀(i:Nat) (p:Nat×List Int) (u:Value),L[i]?=some p->us[i]?=some u->(∃c,u= .slice (some ⟨p.1,0,none⟩) p.2.length c)/\Own B w u p.2
theorem Ee.nil (B:Nat)(w:World):Ee B w (.slice none 0 0) []:=⟨[],FY _ _ _ _,rfl,by simp⟩
theorem Ee.row {B:Nat}{w:World}{v:Value}{L:List (Nat×List Int)}(h:Ee B w v L){p:Nat×List Int}(D:p∈L):∃c,Own B w (.slice (some ⟨p.1,0,none⟩) p.2.length c) p.2:=by
 obtain⟨us,K,J,F⟩:=h;obtain⟨i,hi⟩:=Eb D;have N:=(Ak.1 hi).1;obtain⟨⟨c,I⟩,C⟩:=F i p us[i] hi (AU (by omega));rw[I]at C;exact⟨c,C⟩
theorem Ee.lt {B:Nat}{w:World}{v:Value}{L:List (Nat×List Int)}(h:Ee B w v L):∀p∈L,B<=p.1/\p.1<w.heap.size:=λp C=>by
 obtain⟨c,D⟩:=h.row C;exact D.lt
theorem Ee.form {B:Nat}{w:World}{v:Value}{L:List (Nat×List Int)}(h:Ee B w v L):∃a cap,v= .slice a L.length cap/\L.length<=cap/\cap<=maxLen/\(a=none->cap=0):=by
 obtain⟨us,F,J,R⟩:=h;rcases F.2 with⟨rfl,C⟩|⟨g,cap,I,rfl,O,N,C,D,Q,K⟩
 .exact⟨none,0,by rw[C],by omega,by simp,λ_=>rfl⟩
 .exact⟨_,cap,rfl,C,D,by simp⟩
theorem Ee.rows {B:Nat}{w:World}{v:Value}{L:List (Nat×List Int)}(h:Ee B w v L):VF (λb=>B<=b) w v L:=by
 obtain⟨a,cap,rfl,Q,I,J⟩:=h.form;refine⟨a,cap,rfl,Q,I,J,λi p C=>?_⟩;obtain⟨us,o1,W,N⟩:=h;have U:=(Ak.1 C).1;obtain⟨u,D⟩:∃u,us[i]?=some u:=⟨_,AU (by omega)⟩;obtain⟨⟨c,rfl⟩,F⟩:=N i p u C D;rcases o1.2 with⟨e,V⟩|⟨g,S,R,e,O,K,_⟩
 .omega
 .cases e;refine⟨g,0,rfl,O,(Bt.1 K).1,_,?_,F.uN⟩;rw[CK,FZ o1 i (by omega)];exact D
theorem Ee.keep {B:Nat}{w w':World}{v:Value}{L:List (Nat×List Int)}(h:Ee B w v L)(I:Below w.heap.size w w'):Ee B w' v L:=by
 obtain⟨us,K,J,D⟩:=h;exact⟨us,Aw K (AO (S:=λ_=>True) I) (λ_ _=>trivial),J,λi p u C F=>⟨(D i p u C F).1,(D i p u C F).2.of_below I⟩⟩
theorem Ee.push {B n:Nat}{w w':World}{v K u:Value}{L:List (Nat×List Int)}{p:Nat×List Int}{us:List Value}(S:L.length=n)
  (V:w.ownsRow B 24 1 v n us) (N:us.length=L.length) (U:∀(i:Nat) (p:Nat×List Int) (u:Value),L[i]?=some p->us[i]?=some u->(∃c,u= .slice (some ⟨p.1,0,none⟩) p.2.length c)/\Own B w u p.2)
  (R:(∃c,u= .slice (some ⟨p.1,0,none⟩) p.2.length c)/\Own B w u p.2) (Q:w'.ownsRow B 24 1 K (n+1) (us++[u])) (hg:w.grownBy w' v.ownBlock):Ee B w' K (L++[p]):=by
 subst S;refine⟨us++[u],by simpa using Q,by simp[N],λi F J C D=>?_⟩;have I:(∃c,J= .slice (some ⟨F.1,0,none⟩) F.2.length c)/\Own B w J F.2:=by
  rcases CU i L.length with hi|hi
  .rw[DK hi]at C;rw[DK (by omega)]at D;exact U i F J C D
  .rw[DC hi]at C;rw[DC (by omega)]at D;rw[N]at D;rcases O:i-L.length with _|j
   .rw[O]at C D;simp at C D;subst C;subst D;exact R
   .rw[O]at C;simp at C
 exact⟨I.1,JB I.2 hg (Gq I.2 V (by decide))⟩
def SG (B:Nat)(w:World)(v:Value)(rows:List (List Int)):Prop:=∃L,Ee B w v L/\L.map (·.2)=rows/\(L.map (·.1)).Nodup
def VN (rows:List (List Int))(w:World)(e:Ending)(w':World):Prop:=∃v,e= .returned v/\SG w.heap.size w' v rows/\Below w.heap.size w w'
end GK
namespace uQ
open RowKit AJ BN CL BU Ga JJ Ig Go.Proofs.YtgjadpmbnejaoaaGreat.Ord GK
theorem SG.nil (B:Nat)(w:World):SG B w (.slice none 0 0) []:=⟨[],Ee.nil _ _,rfl,by simp⟩
end uQ
namespace Rx
open RowKit AJ BN CL BU Ga JJ Ig Go.Proofs.YtgjadpmbnejaoaaGreat.Ord
theorem gV (a b:List Nat):ints (a++b)=ints a++ints b:=by simp[ints]
theorem Own3.at {B:Nat}{w:World}{v:Value}{M:List (List (List Nat))}(h:Own3 B w v M){i:Nat}{r:List (List Nat)}(C:M[i]?=some r):
  ∃g cap u,v= .slice (some ⟨g,0,none⟩) M.length cap/\B<=g/\g<w.heap.size/\w.cell? ⟨g,i,none⟩=some u/\Own2 24 2 B w u r:=by
 obtain⟨us,F,O,L⟩:=h;have R:=(Ak.1 C).1;rcases F.2 with⟨rfl,K⟩|⟨g,cap,N,rfl,J,I,K,U,S,Q⟩
 .omega
 .obtain⟨u,D⟩:∃u,us[i]?=some u:=⟨_,AU (by omega)⟩;refine⟨g,cap,u,rfl,J,(Bt.1 I).1,?_,L i r u C D⟩;have:=World.ownsRow.cells F (g:=g) rfl i u D;rw[addr_add,CK]at this;exact this
theorem oh {T U:Tw}(C:Ba.BR (AZ T))(D:Ba.BR (AZ U)):Bo U T T.length []=(Grow.grow U T T.length []).map (λl=>l.map (at_ U)):=by
 obtain⟨hT,I,L,N⟩:=EM.FJ C;obtain⟨B,J,F,K⟩:=EM.FJ D;have h:=WY B F hT T.length AV [] (by rw[JZ];trivial);rw[Jb]at h;exact h.symm
end Rx
namespace uR
open RowKit AJ BN CL BU Ga JJ Ig Go.Proofs.YtgjadpmbnejaoaaGreat.Ord Go.Proofs.YtgjadpmbnejaoaaGreat.Mark GK
theorem VF.sl2 {S:Nat->Prop}{w:World}{v:Value}{L:List (Nat×List Int)}(h:VF S w v L):AQ Any w v (L.map (·.2)):=by
 obtain⟨N,c,U,F,J,I,Q⟩:=h;refine⟨N,c,by simpa using U,by simpa using F,J,I,λi x B=>?_⟩;simp only[Bh,Hg]at B;obtain⟨p,C,rfl⟩:=B;obtain⟨b,o,K,_,O,u,R,D⟩:=Q i p C;exact⟨b,o,K,trivial,O,u,R,D.mono (λ_ _=>trivial)⟩
end uR
namespace vU
open RowKit AJ BN CL BU Ga JJ Ig Go.Proofs.YtgjadpmbnejaoaaGreat.Ord GK
end vU
namespace Kq
open RowKit AJ Val Ba BU SF
def Sj (P:BZ)(l:List Int):Prop:=BR P/\Be P.os 0 l
def CO (p:Prop)(w:World)(e:Ending)(w':World):Prop:=∃r:Bool,e= .returned (.bool r)/\(r=true↔p)/\Below w.heap.size w w'
theorem CO.t {p:Prop}{w w':World}(h:p)(B:Below w.heap.size w w'):CO p w (.returned (.bool true)) w':=⟨true,rfl,⟨λ_=>h,λ_=>rfl⟩,B⟩
theorem CO.f {p:Prop}{w w':World}(h:¬p)(C:Below w.heap.size w w'):CO p w (.returned (.bool false)) w':=⟨false,rfl,⟨λh=>Bool.noConfusion h,λB=>absurd B h⟩,C⟩
theorem Po {P:BZ}(h:BR P):∀x∈P.os,Bw x=true:=by
 obtain⟨_,_,_,_,B,_⟩:=h;exact B.pr
theorem V6 (w:World)(B C D F:Value)(P:BZ)(l:List Int)(N:Av Any w B C D P)(K:AP Any w F l)(I:∀x∈P.os,Bw x=true):
  Calls Tryz.prog 132 #[.agg #[B,C,D],F] w (CO (Be P.os 0 l) w):=by
 have R:=AB ((BB w.heap.size w).alloc AV (.cells #[B,C,D] 28));have S:=AB (KE.NY (w.alloc (.cells #[B,C,D] 28)) B F P.os l (-1) 0 (λj=>by omega) (N.os.keep (AL.alloc _)) (K.keep (AL.alloc _)) I);clear N K I;go_enter Tryz.func132,Tryz.ntmps132;go_wp2_with fail;refine S.AA.mono ?_;rintro e O ⟨r,rfl,J,L⟩;have Q:=AB (show CO (Be P.os 0 l) w (.returned (.bool r)) O from⟨r,rfl,J,R.AA.trans ((bZ.GA AY L))⟩);clear J L;go_wp2_with fail;go_ret;exact Q.AA
theorem gG (w:World)(F I J Q:Value)(P:BZ)(l:List Int)(a:Av Any w F I J P)(Y:AP Any w Q l):
  Calls Tryz.prog 187 #[.agg #[F,I,J],Q] w (CO (Sj P l) w):=by
 have b:=AB a;have q:=AB Y;obtain⟨L,R⟩:∃L,L=w.alloc (.cells #[F,I,J] 28):=⟨_,rfl⟩;have V:=AB (show Below (w.heap.size+1) (w.alloc (.cells #[F,I,J] 28)) L by rw[R];exact BB _ _);clear a Y;go_enter Tryz.func187,Tryz.ntmps187;go_upto_region 1 with fail;rw[<-R];clear R;obtain⟨⟨S,Z,e2⟩,D,K,O⟩:=bx1 V.AA;go_wp2_with fail;refine(Ry.LA _ F I J P (b.AA.keep D)).mono ?_;rintro e U ⟨r,rfl,B,d⟩;have g:=AB (V.AA.trans (d.mono O));clear S Z e2 D K O d;obtain⟨⟨S,Z,e2⟩,D,K,O⟩:=bx1 g.AA;have W:=AB K;by_cases C:BR P
 .obtain rfl:r=true:=B.2 C;have p:=AB (V6 U F I J Q P l (b.AA.keep D) (q.AA.keep D) (Po C));have i:=AB C;clear B C D K;go_wp2_with fail;refine p.AA.mono ?_;rintro e j ⟨r,rfl,B,X⟩;have N:=AB (show CO (Sj P l) w (.returned (.bool r)) j from⟨r,rfl,⟨λh=>⟨i.AA,B.1 h⟩,λh=>B.2 h.2⟩,W.AA.trans (X.mono (by omega))⟩);clear B X;go_wp2_with fail;go_ret;exact N.AA
 .obtain rfl:r=false:=by
   cases r with
   |false=>rfl
   |true=>exact absurd (B.1 rfl) C
  have N:=AB (show CO (Sj P l) w (.returned (.bool false)) U from CO.f (λh=>C h.1) W.AA);clear B C D K;go_wp2_with fail;go_ret;exact N.AA
theorem V5 (w:World)(b o:Nat)(P:BZ)(Q:Value)(ls:List (List Int))(V:BH Any w b o P)(B:AQ Any w Q ls):
  Calls Tryz.prog 43 #[.pointer (some ⟨b,o,none⟩),Q] w (CO (BR P/\∀l∈ls,Be P.os 0 l) w):=by
 have s:=AB V;obtain⟨_,a1,q,vP,g,a5,a2,a4,X⟩:=V;obtain⟨a,c,rfl,_,O⟩:=Am.form B;unfold maxLen at O;have a3:(ls.length:Int)<=9223372036854775807:=by have:=Am.form B;omega
 have HL:=AB B;have j:=AB (Mi.LA w q vP g P X);clear X B O;go_enter Tryz.func43,Tryz.ntmps43;go_wp2_with fail;refine j.AA.mono ?_;rintro e K ⟨r,rfl,C,W⟩;have I:=AB W;clear W;by_cases D:BR P
 .obtain rfl:r=true:=C.2 D;have i:=AB D;have d:=AB (Po D);clear C D;go_wp2_with fail;go_loop [14] (λN=>∃k:Nat,k<=ls.length/\N= .int .i64 (k:Int)/\Hid (∀l∈ls.take k,Be P.os 0 l)) (λN=>ls.length-(intOf N).toNat);case atStart=>exact⟨0,AX _,rfl,AB (by simp)⟩
  case round=>
   obtain⟨k,hk,rfl,J⟩:=hrel;by_cases Z:k<ls.length
   .obtain⟨l,B⟩:∃l,ls[k]?=some l:=⟨_,AU Z⟩;obtain⟨b2,v,u,rfl,_,a0,Y,R⟩:=Am.get HL.AA B;have a6:=((AO (S:=Any) I.AA).cell (b:=b2) (o:=v+k) trivial a0).trans Y;have HE:=AB (Kh.TH K b o P u l (s.AA.keep (AO I.AA)) (AP.keep R (AO I.AA)) d.AA);have y:=AB (Af B);have p:=AB (take_succ B);clear B Y R;go_wp2_with fail;refine HE.AA.mono ?_;rintro e w' ⟨r,rfl,C,rfl⟩;by_cases F:Be P.os 0 l
    .obtain rfl:r=true:=C.2 F;have HN:=AB (show∀l∈ls.take (k+1),Be P.os 0 l from λx U=>by
      rw[p.AA]at U;rcases DY.1 U with h|h
      .exact J.AA x h
      .rw[ES.1 h];exact F)
     clear C F J;go_wp2_with fail;go_round;case rel=>exact⟨k+1,by omega,by go_num,HN⟩
     case measure=>simp[intOf];omega
    .obtain rfl:r=false:=by
      cases r with
      |false=>rfl
      |true=>exact absurd (C.1 rfl) F
     have L:=AB (show CO (BR P/\∀l∈ls,Be P.os 0 l) w (.returned (.bool false)) K from CO.f (λh=>F (h.2 l y.AA)) I.AA);clear C F J;go_wp2_with fail;go_ret;exact L.AA
   .obtain rfl:k=ls.length:=by omega
    have L:=AB (show CO (BR P/\∀l∈ls,Be P.os 0 l) w (.returned (.bool true)) K from CO.t ⟨i.AA,by have h:=J.AA;rwa[FO]at h⟩ I.AA);clear J;go_wp2_with fail;go_ret;exact L.AA
 .obtain rfl:r=false:=by
   cases r with
   |false=>rfl
   |true=>exact absurd (C.1 rfl) D
  have z:=AB (show CO (BR P/\∀l∈ls,Be P.os 0 l) w (.returned (.bool false)) K from CO.f (λh=>D h.1) I.AA);clear C D;go_wp2_with fail;go_ret;exact z.AA
end Kq
namespace Kl
open RowKit AJ BN BU
def Cn:Nat->List Nat->List Nat
 |_,[]=>[]
 |s,a::x=>List.replicate a (s+1)++Cn (s+1) x
theorem XU:∀(x:List Nat) (s a:Nat),Cn s (x++[a])=Cn s x++List.replicate a (s+x.length+1)
 |[],s,a=>by simp[Cn]
 |b::x,s,a=>by
  rw[List.cons_append,Cn,Cn,XU x (s+1) a,Dy,DX];congr 3;omega
theorem TV:∀(x:List Nat) (s:Nat),(∀a∈x,a<=6)->(Cn s x).length<=6*x.length
 |[],s,_=>by simp[Cn]
 |a::x,s,h=>by
  have C:=TV x (s+1) (λy B=>h y (CW _ B));have D:=h a CJ;rw[Cn,Bc,Bp,DX];omega
theorem UY:∀(x:List Nat) (s l:Nat),l∈Cn s x->s+1<=l/\l<=s+x.length
 |[],s,l,h=>by simp[Cn]at h
 |a::x,s,l,h=>by
  rw[Cn,DY]at h;rcases h with h|h
  .have:=(GL.1 h).2;rw[DX];omega
  .have:=UY x (s+1) l h;rw[DX];omega
theorem XV {α:Type}(f:α->Nat->α)(l:Nat):∀(a:Nat) (u:α),List.foldl f u (List.replicate a l)=it (λz=>f z l) a u
 |0,u=>rfl
 |a+1,u=>by rw[List.replicate_succ,List.foldl_cons,XV f l a,it]
theorem UA {α:Type}(m:α->α->α)(im:List α)(d:α):∀(x:List Nat) (s:Nat) (u:α),s+x.length=im.length->List.foldl (λu l=>m u (im.getD (l-1) d)) u (Cn s x)=BO m u (im.drop s) x
 |[],s,u,h=>by
  rw[Cn,List.foldl_nil];cases im.drop s<;>rfl
 |a::x,s,u,h=>by
  rw[DX]at h;have B:s<im.length:=by omega
  rw[Cn,List.foldl_append,XV,Dp B,BO,UA m im d x (s+1) _ (by omega)];congr 1;rw[Nat.add_sub_cancel,BG,AU B];rfl
theorem PH (w:World)(v:Value)(x:List Nat)(O:AP Any w v (ints x))(hl:x.length<=6)(Z:∀a∈x,a<=6):
  Calls Tryz.prog 85 #[v] w (Dz (ints (Cn 0 x)) w):=by
 obtain⟨i0,hi,a0,a2,a4⟩:=Bd Dh;obtain⟨aX,cX,rfl,_⟩:=O.open;have HV:=AB O;have r:=AB Z;have b0:(x.length:Int)<=9223372036854775807:=by omega
 clear O Z;go_enter Tryz.func85,Tryz.ntmps85;go_wp2_with fail;go_loopw [3,8] (λL Q wr=>∃i:Nat,i<=x.length/\Q= .int .i64 (i:Int)/\Hid (Own w.heap.size wr L (ints (Cn 0 (x.take i))))/\Hid (Below w.heap.size w wr)) (λ_ Q _=>x.length-(intOf Q).toNat);case atStart=>exact⟨0,AX _,rfl,AB (show Own _ _ _ (ints (Cn 0 (x.take 0))) from⟨rfl,.inl ⟨rfl,rfl⟩⟩),AB AY⟩
 case round=>
  obtain⟨i,a9,rfl,I,R⟩:=hrel;rename World=>wo;by_cases W:i<x.length
  .obtain⟨a,ha⟩:∃a,x[i]?=some a:=⟨_,AU W⟩;obtain⟨b,o,rfl,_,hb,p⟩:=HV.AA.at ha;have b2:=((AO (S:=Any) R.AA).cell (b:=b) (o:=o+i) trivial hb).trans p;have a7:a<=6:=r.AA a (Af ha);have a1:=AB (show Cn 0 (x.take (i+1))=Cn 0 (x.take i)++List.replicate a (i+1) from by
    rw[take_succ ha,XU,take_len (Ci W),CK])
   have z:=AB (show(Cn 0 (x.take i)).length<=36 from by
    have:=TV (x.take i) 0 (λy hy=>r.AA y (La hy));rw[Ec]at this;omega)
   have a8:i<=5:=by omega
   clear ha p;go_wp2_with fail;go_loopw [3,14] (λL J U=>∃q:Nat,q<=a/\J= .int .i64 (q:Int)/\Hid (Own w.heap.size U L (ints (Cn 0 (x.take i)++List.replicate q (i+1))))/\Hid (Below w.heap.size w U)) (λ_ J _=>a-(intOf J).toNat);case atStart=>exact⟨0,AX _,rfl,by rw[List.replicate_zero,FP];exact I,R⟩
   case round=>
    obtain⟨q,hq,rfl,N,B⟩:=hrel;by_cases b1:q<a
    .obtain⟨m,C⟩:∃m,(Cn 0 (x.take i)++List.replicate q (i+1)).length=m:=⟨_,rfl⟩;have F:wr.ownsRow w.heap.size 2 1 u3 m (vals (ints (Cn 0 (x.take i)++List.replicate q (i+1)))):=by
      have h:=N.AA;unfold Own at h;rwa[BK,C]at h
     have a3:=AB C;have X:=AB (show m<=42 from by
      have:=z.AA;rw[<-C,Bc,Bp];omega)
     have a6:=AB F;clear C;go_wp2_with (at_builtin;(refine DR _ rfl _ _ 24 rfl w.heap.size 2 i0 (.int .i64 0) 1 8 Tryz.underlying24 hi a0 a2 a4 rfl (by decide) _ _ _ rfl (F.alloc _) ⟨wr.heap.size,0,none⟩ 1 1 [.int .i64 ((i:Int)+1)] rfl rfl ?c1 ?c2 ?c3 ?c4 ?c5 ?_));case c1=>
      intro j u D
      match j,D with
      |0,D=>simp at D;subst D;simp[Addr.add]
     case c2=>intro u Y;simp at Y;subst Y;rfl
     case c3=>have:=X.AA;unfold maxLen;omega
     case c4=>have:=X.AA;omega
     case c5=>have:=B.AA.size;simp;omega
     .intro s d V l _;have K:=AB (show Own w.heap.size d s (ints (Cn 0 (x.take i)++List.replicate (q+1) (i+1))) from by
       unfold Own;rw[IK,<-Dy,Rx.gV,Bc,BK,a3.AA];have h:=V;rw[show vals (ints (Cn 0 (x.take i)++List.replicate q (i+1)))++[.int .i64 ((i:Int)+1)]=vals (ints (Cn 0 (x.take i)++List.replicate q (i+1))++ints [i+1]) by simp[vals,ints]]at h;exact h)
      have a5:=AB (show Below w.heap.size w d from(B.AA.alloc (by have:=B.AA.size;omega) _).grown l (by simp;have:=B.AA.size;omega) (λg hg=>(Aq a6.AA g hg).1));clear V l F;go_wp2_with fail;go_roundw;case rel=>exact⟨q+1,by omega,by go_num,K,a5⟩
      case measure=>simp[intOf];omega
    .obtain rfl:q=a:=by omega
     have K:=AB (show Own w.heap.size wr u3 (ints (Cn 0 (x.take (i+1)))) from by rw[a1.AA];exact N.AA);clear N;go_wp2_with fail;go_roundw;case rel=>exact⟨i+1,by omega,by go_num,K,B⟩
     case measure=>simp[intOf];omega
  .obtain rfl:i=x.length:=by omega
   have HR:=AB (show Dz (ints (Cn 0 x)) w (.returned _) wo from⟨_,rfl,by have h:=I.AA;rwa[FO]at h,R.AA⟩);clear I;go_wp2_with fail;go_ret;exact HR.AA
theorem UZ (l:Nat)(C:(l:Int)<=9223372036854775806)(w:World):Calls Tryz.prog 142 #[.int .i64 (l:Int)] w λe w'=>e= .returned (.int .i64 (l:Int))/\w=w':=by
 have B:max (l:Int) (-(l:Int))=(l:Int):=by omega
 go_enter Tryz.func142,Tryz.ntmps142;go_wp2_with fail;go_ret;exact⟨VG (by first|exact B|omega|(simp;omega)),rfl⟩
theorem gK (T:Tw)(hT:Wf T)(Y:Small T)(hg:AJ.Good T)(w:World)(b o:Nat)(U:BH Any w b o (AZ T))(r z:Value)(C:List Nat)(im:List (List Nat))(Q:AP Any w r (ints C))(hi:AQ Any w z (im.map ints))(R:∀c∈im,El T c)
  (Z:∀l∈C,1<=l/\l<=im.length) (i:C.length<=1000) (d4:im.length<=1000):
  Calls Tryz.prog 84 #[.pointer (some ⟨b,o,none⟩),r,z] w (CX (ints (List.foldl (λu l=>mul T u (im.getD (l-1) (AJ.one T))) (AJ.one T) C)) w):=by
 have a8:=Y.1;have d1:=Fb T.length a8;obtain⟨_,c4,vO,vP,vC,d2,d0,c8,q⟩:=id U;obtain⟨aO,cO,aP,cP,aC,cC,rfl,rfl,rfl,c5,c6,d5⟩:=q.open;obtain⟨aW,cW,rfl,_⟩:=Q.open;obtain⟨aI,cI,rfl,_,_⟩:=Am.form hi;rw[BC]at hi ⊢;have c0:=AB (Rt.BH.strong U);have HW:=AB Q;have HI:=AB (AQ.mono (AQ.bnd hi) (S':=λk=>k<w.heap.size) (λk D=>D.2));have b5:=AB R;have a4:=AB Z;have b6:=AB (DW.Nu T hT Y 0 (AX _) hg);have d3:=AB hT;have c7:(C.length:Int)<=9223372036854775807:=by omega
 have HO:=AB (Own.made (B:=w.heap.size) w T.length AV (by unfold maxLen;omega));obtain⟨V,F⟩:∃V:Nat->List Nat,V=λm=>List.foldl (λu l=>mul T u (im.getD (l-1) (AJ.one T))) (AJ.one T) (C.take m):=⟨_,rfl⟩;have c3:=AB (show∀j,El T (im.getD j (AJ.one T)) from λj=>by
  rw[BG];cases J:im[j]? with
  |none=>exact CR hT
  |some c=>exact R c (Af J))
 have O:=AB (show∀m,El T (V m) from λm=>by
  rw[F];have:∀(l:List Nat) (u:List Nat),El T u->El T (List.foldl (λu l=>mul T u (im.getD (l-1) (AJ.one T))) u l):=by
   intro l
   induction l with
   |nil=>intro u S;exact S
   |cons a l ih=>intro u S;rw[List.foldl_cons];exact ih _ (Bz hT S (c3.AA _))
  exact this _ _ (CR hT))
 have b0:=AB (show List.replicate T.length (0:Int)=ints (V 0) by rw[F];simp[AJ.one,ints]);have a1:=AB (show∀m l,C[m]?=some l->V (m+1)=mul T (V m) (im.getD (l-1) (AJ.one T)) from λm l h=>by
  rw[F];show List.foldl _ _ (C.take (m+1))=_;rw[take_succ h,List.foldl_append];rfl)
 have a9:=AB (show V C.length=List.foldl (λu l=>mul T u (im.getD (l-1) (AJ.one T))) (AJ.one T) C by rw[F];simp);clear U Q hi R Z q F hT Y hg;go_enter Tryz.func84,Tryz.ntmps84;go_wp2_with fail;go_loopw [19] (λX wr=>∃m:Nat,m<=C.length/\X= .int .i64 (m:Int)/\Hid (Own w.heap.size wr (.slice (some ⟨w.heap.size,0,none⟩) T.length T.length) (ints (V m)))/\Hid (Below w.heap.size w wr)) (λX _=>C.length-(intOf X).toNat);case atStart=>exact⟨0,AX _,rfl,AB (by rw[<-b0.AA];exact HO.AA),AB (AY.alloc AV _)⟩
 case round=>
  obtain⟨m,hm,rfl,I,N⟩:=hrel;have D:=Keep.lt N.AA;by_cases b4:m<C.length
  .obtain⟨l,L⟩:∃l,C[m]?=some l:=⟨_,AU b4⟩;obtain⟨bW,oW,rfl,_,v,s⟩:=HW.AA.at L;have c1:=(D.cell (b:=bW) (o:=oW+m) v v).trans s;obtain⟨b2,a5⟩:=a4.AA l (Af L);obtain⟨j,J⟩:∃j,j=l-1:=⟨_,rfl⟩;obtain⟨c,K⟩:∃c,im[j]?=some c:=⟨_,AU (by omega)⟩;obtain⟨bI,oI,u,e1,a3,b3,d,p⟩:=Am.get HI.AA (k:=j) (x:=ints c) (by rw[Bh,K];rfl);subst e1;have a7:=(D.cell (b:=bI) (o:=oI+j) a3 b3).trans d;have HU:=AB (AP.keep p D);have b8:=AB (c0.AA.keep D);have a2:=AB (show V (m+1)=mul T (V m) c from by
    rw[a1.AA m l L,<-J,BG,K];rfl)
   have b7:=AB (b5.AA c (Af K));have c2:l=j+1:=by omega
   subst c2;have w1:IntKind.i64.wrap (((j+1:Nat):Int)-1)=(j:Int):=by rw[Ac _ (by omega)];omega
   have w2:wrap64 (((j+1:Nat):Int)-1)=(j:Int):=by unfold wrap64;omega
   have w3:(j:Int)<(im.length:Int):=by omega
   have w4:(0:Int)<=(j:Int):=by omega
   have c9:decide (((j+1:Nat):Int)<0)=false:=by simp;omega
   have a6:=AB (λW=>UZ (j+1) (by omega) W);clear L s K d p J D b2 a5;go_wp2_with fail;refine(a6.AA _).mono ?_;rintro e w' ⟨rfl,rfl⟩;have b9:=AB (b6.AA (λk=>k<w.heap.size) wr b o w.heap.size w.heap.size T.length u [] (V m) c b8.AA HU.AA (by omega) rfl (O.AA m) b7.AA I.AA);go_wp2_with fail;refine b9.AA.mono ?_;rintro e w2 ⟨rfl,a0,y⟩;have HN:=AB (show Own w.heap.size w2 (.slice (some ⟨w.heap.size,0,none⟩) T.length T.length) (ints (V (m+1))) from by
    have h:=a0;rw[show([]++mul (T.drop 0) (V m) c)=V (m+1) from a2.AA.symm,Ad (O.AA (m+1))]at h;exact h)
   have b1:=AB (N.AA.grown y N.AA.size (λg hg=>by cases hg;exact Al _));clear a0 y I c1 a7;go_wp2_with fail;go_roundw;case rel=>exact⟨m+1,by omega,by go_num,HN,b1⟩
   case measure=>simp[intOf];omega
  .obtain rfl:m=C.length:=by omega
   have HR:=AB (show CX (ints (List.foldl (λu l=>mul T u (im.getD (l-1) (AJ.one T))) (AJ.one T) C)) w (.returned (.slice (some ⟨w.heap.size,0,none⟩) T.length T.length)) wr from by
    have i:=Ad (O.AA C.length);rw[<-a9.AA];unfold CX;rw[BK,i];exact⟨_,_,rfl,I.AA,N.AA⟩)
   clear I D;go_wp2_with fail;go_ret;exact HR.AA
theorem PD (T:Tw)(hT:Wf T)(p:Small T)(hg:AJ.Good T)(w:World)(b o:Nat)(R:BH Any w b o (AZ T))(F B:Value)(im:List (List Nat))(x:List Nat)(hi:AQ Any w F (im.map ints))(Q:AP Any w B (ints x))(L:∀c∈im,El T c)
  (v:x.length=im.length) (j:x.length<=6) (K:∀a∈x,a<=6):
  Calls Tryz.prog 42 #[.pointer (some ⟨b,o,none⟩),F,B] w (CX (ints (BO (mul T) (AJ.one T) im x)) w):=by
 have q:=AB (PH w B x Q j K);have r:=AB (λW (J:Below w.heap.size w W) U h=>gK T hT p hg W b o (R.keep (AO J)) U F (Cn 0 x) im h (AQ.keep hi (AO J)) L (λl i=>by have:=UY x 0 l i;omega) (by have:=TV x 0 K;omega) (by omega));have V:=AB (show List.foldl (λu l=>mul T u (im.getD (l-1) (AJ.one T))) (AJ.one T) (Cn 0 x)=BO (mul T) (AJ.one T) im x from by
  rw[UA (mul T) im (AJ.one T) x 0 _ (by omega)];rfl)
 clear R hi Q L;go_enter Tryz.func42,Tryz.ntmps42;go_wp2_with fail;refine q.AA.mono ?_;rintro e S ⟨Y,rfl,N,D⟩;have Z:=AB (r.AA S D Y (N.sl.mono (λ_ _=>trivial)));have C:=AB D;clear N D;go_wp2_with fail;refine Z.AA.mono ?_;rintro e s ⟨X,g,rfl,I,O⟩;rw[V.AA]at I ⊢;have d:=AB (show CX (ints (BO (mul T) (AJ.one T) im x)) w (.returned (.slice (some ⟨X,0,none⟩) (ints (BO (mul T) (AJ.one T) im x)).length g)) s from⟨_,_,rfl,I.mono C.AA.size,C.AA.trans (O.mono C.AA.size)⟩);clear I O;go_wp2_with fail;go_ret;exact d.AA
end Kl
namespace dW
structure Gr (α:Type)[Mul α] where
 e:α
 i:α->α
 Ag:∀a b c:α,a*b*c=a*(b*c)
 l:∀a:α,e*a=a
 r:∀a:α,a*e=a
 il:∀a:α,i a*a=e
 ir:∀a:α,a*i a=e
variable {α:Type} [Mul α] (G:Gr α)
theorem Gr.dX (a b:α):G.i a*(a*b)=b:=by rw[<-G.Ag,G.il,G.l]
theorem Gr.dY (a b:α):a*(G.i a*b)=b:=by rw[<-G.Ag,G.ir,G.l]
theorem Gr.can (G:Gr α){a b c:α}(h:a*b=a*c):b=c:=by rw[<-G.dX a b,h,G.dX]
theorem Gr.im (a b:α):G.i (a*b)=G.i b*G.i a:=G.can (a:=a*b) (by rw[G.ir];simp only[G.Ag,G.dY,G.ir])
theorem Gr.ii (a:α):G.i (G.i a)=a:=G.can (a:=G.i a) (by rw[G.ir,G.il])
structure Sg (H:α->Prop):Prop where
 e:H G.e
 m:∀{a b},H a->H b->H (a*b)
 i:∀{a},H a->H (G.i a)
variable {G} {H:α->Prop}
theorem Sg.cj (h:Sg G H)(g:α):Sg G λu=>H (G.i g*u*g):=
 ⟨by rw[G.r,G.il];exact h.e,λ{a b} ha B=>by
  have:=h.m ha B;simp only[G.Ag,G.dY]at this ⊢;exact this,λ{a} ha=>by
  have:=h.i ha;simp only[G.im,G.ii,G.Ag]at this ⊢;exact this⟩
variable (G)
def Mk (U:List α)(u:α):Prop:=∀S:α->Prop,Sg G S->(∀c∈U,S c)->S u
def Nm (H:α->Prop)(U:List α)(g:α):Prop:=∀h∈U,H (G.i g*h*g)
variable {G}
theorem Nm.mk {U:List α}{g:α}(C:Sg G H)(h:Nm G H U g){u:α}(B:Mk G U u):H (G.i g*u*g):=B _ (C.cj g) h
theorem Nm.right {U:List α}{g v:α}(B:Sg G H)(h:Nm G H U g)(C:H v):Nm G H U (g*v):=λk D=>by
 have:=B.m (B.i C) (B.m (h k D) C);simp only[G.im,G.Ag]at this ⊢;exact this
theorem Nm.left {U:List α}{g h:α}(C:Sg G H)(hg:Nm G H U g)(D:∀k∈U,Mk G U (G.i h*k*h)):Nm G H U (h*g):=λk B=>by
 have:=hg.mk C (D k B);simp only[G.im,G.Ag]at this ⊢;exact this
theorem Wv {o d:Nat}(C:o=2\/o=3\/o=5\/o=7)(D:0<d)(B:d<o):∃m n,d*m=1+o*n:=by
 have h:∀o∈[2,3,5,7],∀d,d<o->0<d->∃m,m<8/\∃n,n<8/\d*m=1+o*n:=by decide
 obtain⟨m,_,n,_,e⟩:=h o (by rcases C with rfl|rfl|rfl|rfl<;>simp) d B D;exact⟨m,n,e⟩
variable [DecidableEq α]
end dW
namespace Kr
open AJ Gen CP BN CL Dk EF dW
noncomputable def Ay (T:Tw)(y u:List Nat):List Nat:=mul T (Ai T u) (mul T y u)
theorem PZ {T:Tw}(hT:Wf T)(hg:AJ.Good T){u:List Nat}(B:El T u){a b:List Nat}(ha:El T a)(C:El T b):Ay T (mul T a b) u=mul T (Ay T a u) (Ay T b u):=by
 have G:=BA hT hg;obtain⟨hi,D,F⟩:=Br hT hg B;unfold Ay;rw[G.Ag hi (G.cl ha B) (G.cl hi (G.cl C B)),G.Ag ha B (G.cl hi (G.cl C B)),<-G.Ag B hi (G.cl C B),D,G.eL (G.cl C B),G.Ag ha C B]
theorem JY {T:Tw}(hT:Wf T)(hg:AJ.Good T){u a:List Nat}(B:El T u)(ha:El T a):El T (Ay T a u):=Bz hT (Br hT hg B).1 (Bz hT ha B)
theorem Ng {T:Tw}(hT:Wf T)(hg:AJ.Good T){u:List Nat}(B:El T u):Ay T (AJ.one T) u=AJ.one T:=by
 have G:=BA hT hg;unfold Ay;rw[G.eL B,(Br hT hg B).2.2]
theorem LK {T:Tw}(hT:Wf T)(hg:AJ.Good T){u a:List Nat}(B:El T u)(ha:El T a):mul T u (Ay T a u)=mul T a u:=by
 have G:=BA hT hg;obtain⟨hi,C,D⟩:=Br hT hg B;unfold Ay;rw[<-G.Ag B hi (G.cl ha B),C,G.eL (G.cl ha B)]
theorem Pb {T:Tw}(hT:Wf T)(hg:AJ.Good T){u a b:List Nat}(B:El T u)(ha:El T a)(C:El T b)(h:Ay T a u=Ay T b u):a=b:=by
 have G:=BA hT hg;have:=LK hT hg B ha;rw[h,LK hT hg B C]at this;exact(G.Nh B C ha this).symm
structure GT where
 Q:Tw
 hQ:Wf Q
 hg:AJ.Good Q
structure GT.E (B:GT) where
 val:List Nat
 property:El B.Q val
theorem GT.ext {B:GT}{a b:B.E}(h:a.val=b.val):a=b:=by
 cases a;cases b;simp only at h;subst h;rfl
instance (B:GT):Mul B.E:=⟨λa b=>⟨mul B.Q a.1 b.1,Bz B.hQ a.2 b.2⟩⟩
instance (B:GT):DecidableEq B.E:=λa b=>decidable_of_iff (a.val=b.val) ⟨GT.ext,Ck GT.E.val⟩
noncomputable def GT.gr (B:GT):Gr B.E:=
 ⟨⟨AJ.one B.Q,CR B.hQ⟩,λa=>⟨Ai B.Q a.1,(Br B.hQ B.hg a.2).1⟩,λa b c=>GT.ext ((BA B.hQ B.hg).Ag a.2 b.2 c.2),λa=>GT.ext ((BA B.hQ B.hg).eL a.2),λa=>GT.ext ((BA B.hQ B.hg).eR a.2),
  λa=>GT.ext (Br B.hQ B.hg a.2).2.2,λa=>GT.ext (Br B.hQ B.hg a.2).2.1⟩
end Kr
namespace Vf
open AJ Gen CP Dr BN CL Dk EF Ll
open Kr(Ay PZ JY Ng Pb)
section
variable {T:Tw} (hT:Wf T) (hg:AJ.Good T)
def RO (T:Tw)(x y:List Nat):Prop:=∃c,BD T T c/\phi T c x=y
include hT hg
theorem Ut {c:List (List Nat)}(h:BD T T c)(x:List Nat):El T (phi T c x):=(BA hT hg).ev h.el x
theorem Q6 {u cs:List (List Nat)}(B:BD T T u)(D:BD T T cs)(x:List Nat):phi T (cs.map (phi T u)) x=phi T u (phi T cs x):=by
 have G:=BA hT hg;exact(Ir G (phi T u) (LW hT hg u _) (λa b ha C=>G.Lm hT B.el B.rel ha C) D.el x).symm
theorem RO.trans {x y z:List Nat}(h:RO T x y)(D:RO T y z):RO T x z:=by
 obtain⟨c,C,rfl⟩:=h;obtain⟨d,B,rfl⟩:=D;exact⟨_,comp hT hg hT hg B C,Q6 hT hg B C x⟩
theorem YI {c:List (List Nat)}(h:BD T T c):∃d,BD T T d/\∀x,El T x->phi T c (phi T d x)=x:=by
 obtain⟨d,B,e⟩:=factor hT hg hT hg h (MS hT hg) (λz D=>XW hT hg hT h AV (Gt hT z D));refine⟨d,B,λx C=>?_⟩;rw[<-Q6 hT hg h B,<-e];exact LM hT hg C
theorem RO.symm {x y:List Nat}(D:El T x)(h:RO T x y):RO T y x:=by
 obtain⟨c,B,rfl⟩:=h;obtain⟨d,C,e⟩:=YI hT hg B;exact⟨d,C,B.inj _ _ (Ut hT hg C _) D (e _ (Ut hT hg B x))⟩
theorem YJ {g:List Nat}(C:El T g):BD T T ((Az T).map λz=>Ay T z g)/\∀x,El T x->phi T ((Az T).map λz=>Ay T z g) x=Ay T x g:=by
 have G:=BA hT hg;have K:Ay T (AJ.one T) g=AJ.one T:=Ng hT hg C;have I:∀a b,El T a->El T b->Ay T (mul T a b) g=mul T (Ay T a g) (Ay T b g):=λa b ha F=>PZ hT hg C ha F;have hi:∀a b,El T a->El T b->Ay T a g=Ay T b g->a=b:=λa b ha F h=>Pb hT hg C ha F h;have D:∀x,El T x->phi T ((Az T).map λz=>Ay T z g) x=Ay T x g:=λx B=>by
  have h:=Ir G (λz=>Ay T z g) K I (Gt hT) x;rw[LM hT hg B]at h;exact h.symm
 refine⟨⟨λc L=>?_,(MP G (λz=>Ay T z g) K I hi T (Az T) (Gt hT)).2 (UB hT hg),λx y B J e=>?_⟩,D⟩
 .obtain⟨z,N,rfl⟩:=BX.1 L;exact JY hT hg C (Gt hT z N)
 .exact hi x y B J (by rw[<-D x B,<-D y J];exact e)
end
end Vf
namespace Gj
open AJ Gen CP BN CL Dk EF Ll Vf
open Kr(Ay PZ JY Ng Pb)
section
variable {α:Type}
theorem Qp:∀(L M:List α),L.Nodup->(∀x∈L,x∈M)->L.length<=M.length
 |[],M,_,_=>AX _
 |x::L,M,hn,hs=>by
  classical
  obtain⟨F,D⟩:=List.nodup_cons.1 hn;have C:=hs x CJ;have:=Qp L (M.erase x) D λy B=>(List.mem_erase_of_ne (λe=>F (by rw[<-e];exact B))).2 (hs y (CW _ B));rw[List.length_erase_of_mem C]at this;have I:=List.length_pos_of_mem C;simp only[DX];omega
theorem iI {L M:List α}(F:L.Nodup)(D:∀x∈L,x∈M)(I:M.length<=L.length):∀y∈M,y∈L:=λy C=>by
 refine Classical.byContradiction λh=>?_;have:=Qp (y::L) M (List.nodup_cons.2 ⟨h,F⟩) (λx B=>by
  rcases EE.1 B with rfl|B
  .exact C
  .exact D x B)
 simp only[DX]at this;omega
theorem YK (C:α->List α)(k:Nat):∀(n:Nat) (L:List α),L.length<=n->L.Nodup->(∀x∈L,(C x).Nodup/\(C x).length=k/\x∈C x/\∀y∈C x,y∈L/\∀z,z∈C y↔z∈C x)->k∣L.length
 |_,[],_,_,_=>Nat.dvd_zero k
 |0,x::L,hl,_,_=>by simp at hl
 |n+1,x::L0,hl,hn,hC=>by
  classical
  obtain⟨Z,N,j,I⟩:=hC x CJ;obtain⟨L,Y⟩:∃L,L=x::L0:=⟨_,rfl⟩;rw[<-Y]at hl hn hC I ⊢;obtain⟨R,O⟩:∃R,R=L.filter (λy=>decide (¬y∈C x)):=⟨_,rfl⟩;have B:∀y,y∈R↔y∈L/\¬y∈C x:=λy=>by rw[O,KG,Lc]
  have K:R.Nodup:=by rw[O];exact hn.filter _
  have d:L.Perm (C x++R):=by
   refine(List.perm_ext_iff_of_nodup hn (List.nodup_append.2 ⟨Z,K,λa ha b U e=>((B b).1 U).2 (e▸ha)⟩)).2 λy=>?_;rw[DY,B];constructor
   .intro h;by_cases Q:y∈C x
    .exact .inl Q
    .exact .inr ⟨h,Q⟩
   .rintro(h|h)
    .exact(I y h).1
    .exact h.1
  have X:L.length=k+R.length:=by rw[d.length_eq,Bc,N]
  have p:0<k:=by rw[<-N];exact List.length_pos_of_mem j
  rw[X];refine Nat.dvd_add (Nat.dvd_refl k) (YK C k n R (by omega) K λy g=>?_);obtain⟨i,W⟩:=(B y).1 g;obtain⟨V,S,J,F⟩:=hC y i;refine⟨V,S,J,λz D=>⟨(B z).2 ⟨(F z D).1,λl=>W ?_⟩,(F z D).2⟩⟩;exact((I z l).2 y).1 (((F z D).2 y).2 J)
theorem least {P:Nat->Prop}:(∃k,P k)->∃k,P k/\∀j,j<k->¬P j:=by
 classical
 rintro⟨k,D⟩
 induction k using Nat.strongRecOn with
 |_ k ih=>
  by_cases h:∃j,j<k/\P j
  .obtain⟨j,C,B⟩:=h;exact ih j C B
  .exact⟨k,D,λj C B=>h ⟨j,C,B⟩⟩
theorem uS (L:List α):∃H:List α,H.Nodup/\∀x,x∈H↔x∈L:=by
 classical
 induction L with
 |nil=>exact⟨[],List.nodup_nil,λx=>Iff.rfl⟩
 |cons a L ih=>
  obtain⟨H,C,B⟩:=ih;by_cases ha:a∈L
  .refine⟨H,C,λx=>?_⟩;rw[B,EE];exact⟨.inr,λh=>h.elim (λe=>e▸ha) id⟩
  .refine⟨a::H,List.nodup_cons.2 ⟨λh=>ha ((B a).1 h),C⟩,λx=>?_⟩;rw[EE,EE,B]
end
section
variable {T:Tw} (hT:Wf T) (hg:AJ.Good T)
def cmp (T:Tw)(a b:List (List Nat)):List (List Nat):=a.map (phi T b)
def pw (T:Tw)(a:List (List Nat)):Nat->List (List Nat)
 |0=>Az T
 |k+1=>cmp T (pw T a k) a
include hT hg
theorem Rz {a b:List (List Nat)}(ha:BD T T a)(B:BD T T b):BD T T (cmp T a b):=comp hT hg hT hg B ha
theorem YL {a b:List (List Nat)}(ha:BD T T a)(B:BD T T b)(x:List Nat):phi T (cmp T a b) x=phi T b (phi T a x):=Q6 hT hg B ha x
theorem ZG {x:List Nat}(B:El T x):phi T (Az T) x=x:=LM hT hg B
theorem MU {a b c:List (List Nat)}(B:BD T T b)(C:BD T T c):cmp T (cmp T a b) c=cmp T a (cmp T b c):=by
 unfold cmp;rw[List.map_map];exact KC λx _=>(Q6 hT hg C B x).symm
theorem Pd {a:List (List Nat)}(ha:BD T T a):cmp T a (Az T)=a:=by
 unfold cmp
 conv=>rhs;rw[<-List.map_id a]
 exact KC λx B=>LM hT hg (ha.el x B)
theorem KU {a:List (List Nat)}(ha:BD T T a):cmp T (Az T) a=a:=by
 have D:=ha.len;refine GN λj=>?_;unfold cmp Az;rw[List.map_map,Bh];by_cases C:j<T.length
 .obtain⟨c,B⟩:∃c,a[j]?=some c:=⟨_,AU (by omega)⟩;rw[List.getElem?_range C,B];exact Ck some (Q7 hT hg a T ha.el D j c B)
 .rw[Dq (by rw[List.length_range];omega),Dq (by omega)];rfl
theorem YM {a b:List (List Nat)}(ha:BD T T a)(B:BD T T b)(h:∀x,El T x->phi T a x=phi T b x):a=b:=by
 rw[<-KU hT hg ha,<-KU hT hg B];exact KC λx C=>h x (Gt hT x C)
theorem om {a:List (List Nat)}(ha:BD T T a):∃d,BD T T d/\cmp T a d=Az T/\cmp T d a=Az T:=by
 have C:∀a,BD T T a->∃d,BD T T d/\cmp T d a=Az T:=λa ha=>by
  obtain⟨d,B,h⟩:=YI hT hg ha;refine⟨d,B,YM hT hg (Rz hT hg B ha) (MS hT hg) λx I=>?_⟩;rw[YL hT hg B ha,h x I,ZG hT hg I]
 obtain⟨d,B,F⟩:=C a ha;obtain⟨e,J,D⟩:=C d B;have K:e=a:=by
  rw[<-Pd hT hg J,<-F,<-MU hT hg B ha,D,KU hT hg ha]
 exact⟨d,B,by rw[<-K];exact D,F⟩
theorem XX {a b c:List (List Nat)}(ha:BD T T a)(C:BD T T b)(D:BD T T c)(h:cmp T a b=cmp T a c):b=c:=by
 obtain⟨d,F,_,B⟩:=om hT hg ha;rw[<-KU hT hg C,<-B,MU hT hg ha C,h,<-MU hT hg ha D,B,KU hT hg D]
theorem IY {a:List (List Nat)}(ha:BD T T a):∀k,BD T T (pw T a k)
 |0=>MS hT hg
 |k+1=>Rz hT hg (IY ha k) ha
theorem Nv {a:List (List Nat)}(ha:BD T T a)(i:Nat):∀j,pw T a (i+j)=cmp T (pw T a i) (pw T a j)
 |0=>(Pd hT hg (IY hT hg ha i)).symm
 |j+1=>by
  show cmp T (pw T a (i+j)) a=_;rw[Nv ha i j,MU hT hg (IY hT hg ha j) ha];rfl
theorem ZH {a:List (List Nat)}(ha:BD T T a):pw T a 1=a:=KU hT hg ha
theorem ZI {a:List (List Nat)}(ha:BD T T a){k:Nat}(B:pw T a k=Az T):∀q,pw T a (k*q)=Az T
 |0=>rfl
 |q+1=>by rw[Nat.mul_succ,Nv hT hg ha,ZI ha B q,B,KU hT hg (MS hT hg)]
theorem rq {a:List (List Nat)}(ha:BD T T a){k:Nat}(B:pw T a k=Az T)(j:Nat):pw T a j=pw T a (j%k):=by
 conv=>lhs;rw[<-Nat.div_add_mod j k]
 rw[Nv hT hg ha,ZI hT hg ha B,KU hT hg (IY hT hg ha _)]
theorem ru {a:List (List Nat)}(ha:BD T T a){i j:Nat}(h:i<j)(e:pw T a i=pw T a j):pw T a (j-i)=Az T:=by
 refine XX hT hg (IY hT hg ha i) (IY hT hg ha _) (MS hT hg) ?_;rw[<-Nv hT hg ha,Pd hT hg (IY hT hg ha i),show i+(j-i)=j by omega,e]
def Mt (T:Tw)(a:List (List Nat))(k:Nat):Prop:=0<k/\pw T a k=Az T/\∀j,0<j->j<k->pw T a j≠Az T
theorem Ww {a:List (List Nat)}(ha:BD T T a){k:Nat}(h:∀j,0<j->j<k->pw T a j≠Az T):((List.range k).map (pw T a)).Nodup:=by
 refine List.pairwise_map.2 (Mg ?_ List.pairwise_lt_range);intro i j hi B C e;exact h (j-i) (by omega) (by have:=Cg.1 B;omega) (ru hT hg ha C e)
theorem ZJ (F:GQ T){a:List (List Nat)}(ha:BD T T a):∃k,Mt T a k/\k<=(Bo T T T.length []).length:=by
 have D:∀k,(∀j,0<j->j<k->pw T a j≠Az T)->k<=(Bo T T T.length []).length:=λk h=>by
  have:=Qp ((List.range k).map (pw T a)) (Bo T T T.length []) (Ww hT hg ha h) λc Q=>by
   obtain⟨i,_,rfl⟩:=BX.1 Q;exact(Qh hT hg hT hg F _).2 (IY hT hg ha i)
  simpa using this
 have J:∃k,0<k/\pw T a k=Az T:=Classical.byContradiction λK=>by
  have:=D ((Bo T T T.length []).length+1) λj B _ e=>K ⟨j,B,e⟩;omega
 obtain⟨k,⟨B,O⟩,I⟩:=least J;have C:∀j,0<j->j<k->pw T a j≠Az T:=λj N L e=>I j L ⟨N,e⟩;exact⟨k,⟨B,O,C⟩,D k C⟩
theorem lag (L:GQ T){H:List (List (List Nat))}(U:H.Nodup)(C:∀h∈H,BD T T h)(O:Az T∈H)(K:∀a∈H,∀b∈H,cmp T a b∈H):H.length∣(Bo T T T.length []).length:=by
 have N:∀u,BD T T u->(H.map (cmp T u)).Nodup:=λu F=>by
  refine List.pairwise_map.2 (Mg ?_ U);intro a b ha B Q e;exact Q (XX hT hg F (C a ha) (C b B) e)
 have S:∀h∈H,∃I∈H,cmp T h I=Az T:=λh D=>by
  have:=iI (N h (C h D)) (M:=H) (λc V=>by
   obtain⟨b,B,rfl⟩:=BX.1 V;exact K h D b B) (by rw[BC];exact Al _) _ O
  obtain⟨b,B,e⟩:=BX.1 this;exact⟨b,B,e⟩
 refine YK (λu=>H.map (cmp T u)) H.length _ _ AV (WM _ _) λu F=>?_;have F:=(Qh hT hg hT hg L u).1 F;refine⟨N u F,BC _,BX.2 ⟨_,O,Pd hT hg F⟩,λy R=>?_⟩;obtain⟨h,D,rfl⟩:=BX.1 R;refine⟨(Qh hT hg hT hg L _).2 (Rz hT hg F (C h D)),λz=>?_⟩;rw[BX,BX];constructor
 .rintro⟨b,B,rfl⟩;exact⟨_,K h D b B,(MU hT hg (C h D) (C b B)).symm⟩
 .rintro⟨b,B,rfl⟩;obtain⟨I,J,e⟩:=S h D;refine⟨_,K I J b B,?_⟩;rw[<-MU hT hg (C I J) (C b B),MU hT hg (C h D) (C I J),e,Pd hT hg F]
theorem oo (F:GQ T){a:List (List Nat)}(ha:BD T T a){k:Nat}(I:Mt T a k):k∣(Bo T T T.length []).length:=by
 obtain⟨C,K,J⟩:=I;have h:=lag hT hg F (Ww hT hg ha J) (λc B=>by
  obtain⟨i,_,rfl⟩:=BX.1 B;exact IY hT hg ha i) (BX.2 ⟨0,Cg.2 C,rfl⟩) (λc B d D=>by
  obtain⟨i,_,rfl⟩:=BX.1 B;obtain⟨j,_,rfl⟩:=BX.1 D;rw[<-Nv hT hg ha,rq hT hg ha K];exact BX.2 ⟨_,Cg.2 (Nat.mod_lt _ C),rfl⟩)
 simpa using h
noncomputable def inn (T:Tw)(x:List Nat):List (List Nat):=(Az T).map λz=>Ay T z x
theorem R4 {x:List Nat}(B:El T x):BD T T (inn T x):=(YJ hT hg B).1
theorem YN {x:List Nat}(B:El T x){z:List Nat}(C:El T z):phi T (inn T x) z=Ay T z x:=(YJ hT hg B).2 z C
theorem ou {z x y:List Nat}(I:El T z)(C:El T x)(B:El T y):Ay T (Ay T z x) y=Ay T z (mul T x y):=by
 have G:=BA hT hg;obtain⟨J,O,U⟩:=Br hT hg C;obtain⟨K,Q,S⟩:=Br hT hg B;have D:=G.cl C B;obtain⟨L,N,R⟩:=Br hT hg D;have F:=G.cl I C;refine G.Js D (JY hT hg B (JY hT hg C I)) (JY hT hg D I) ?_;unfold Ay;rw[<-G.Ag D L (G.cl I D),N,G.eL (G.cl I D)];rw[G.Ag C B (G.cl K (G.cl (G.cl J F) B)),<-G.Ag B K (G.cl (G.cl J F) B),Q,G.eL (G.cl (G.cl J F) B),<-G.Ag C (G.cl J F) B,<-G.Ag C J F,O,G.eL F,G.Ag I C B]
theorem Ni {x y:List Nat}(C:El T x)(B:El T y):cmp T (inn T x) (inn T y)=inn T (mul T x y):=by
 unfold cmp;rw[inn,inn,List.map_map];exact KC λz D=>(YN hT hg B (JY hT hg C (Gt hT z D))).trans (ou hT hg (Gt hT z D) C B)
theorem Q8:inn T (AJ.one T)=Az T:=by
 refine YM hT hg (R4 hT hg (CR hT)) (MS hT hg) λx B=>?_;have G:=BA hT hg;obtain⟨C,D,F⟩:=Br hT hg (CR hT);rw[YN hT hg (CR hT) B,ZG hT hg B];unfold Ay;rw[G.eR B,<-G.eL C,D,G.eL B]
def JK (T:Tw)(x:List Nat):Prop:=inn T x=Az T
theorem jM (l:GQ T):∃k,0<k/\sz T=k*((List.range (sz T)).filter λt=> @decide (JK T (at_ T t)) (Classical.propDecidable _)).length/\k∣(Bo T T T.length []).length:=by
 classical
 have G:=BA hT hg;obtain⟨H,X,p⟩:=uS ((List.range (sz T)).map λt=>inn T (at_ T t));have D:∀c,c∈H↔∃x,El T x/\inn T x=c:=λc=>by
  rw[p,BX];constructor
  .rintro⟨t,_,rfl⟩;exact⟨_,Cb hT t,rfl⟩
  .rintro⟨x,B,rfl⟩;exact⟨num T x,Cg.2 (Em B hT),by rw[EY hT B]⟩
 have U:Az T∈H:=(D _).2 ⟨_,CR hT,Q8 hT hg⟩;refine⟨H.length,List.length_pos_of_mem U,?_,lag hT hg l X (λc K=>by
  obtain⟨x,B,rfl⟩:=(D c).1 K;exact R4 hT hg B) U λa ha b L=>by
  obtain⟨x,B,rfl⟩:=(D a).1 ha;obtain⟨y,V,rfl⟩:=(D b).1 L;exact(D _).2 ⟨_,Bz hT B V,(Ni hT hg B V).symm⟩⟩
 obtain⟨Z,S⟩:∃Z,Z=(List.range (sz T)).filter λt=>decide (JK T (at_ T t)):=⟨_,rfl⟩;have N:∀t,t∈Z↔t<sz T/\inn T (at_ T t)=Az T:=λt=>by rw[S,KG,Cg,Lc];exact Iff.rfl
 have d:Z.Nodup:=by rw[S];exact List.nodup_range.filter _
 let J:List (List Nat)->List Nat:=λc=>(List.range (sz T)).filter λt=>decide (inn T (at_ T t)=c)
 have F:∀c t,t∈J c↔t<sz T/\inn T (at_ T t)=c:=λc t=>by
  show t∈List.filter _ _↔_;rw[KG,Cg,Lc]
 have Y:∀c,(J c).Nodup:=λc=>List.nodup_range.filter _;have i:∀c∈H,(J c).length=Z.length:=λc K=>by
  obtain⟨x,B,rfl⟩:=(D c).1 K;obtain⟨O,x1,r⟩:=Br hT hg B;have j:(J (inn T x)).Perm (Z.map λt=>num T (mul T (at_ T t) x)):=by
   refine(List.perm_ext_iff_of_nodup (Y _) (List.pairwise_map.2 (Mg ?_ d))).2 λt=>?_
   .intro a b ha L Q e;have e2:=Ua hT (Bz hT (Cb hT a) B) (Bz hT (Cb hT b) B) e;exact Q (Nw ((N a).1 ha).1 ((N b).1 L).1 (G.Nh B (Cb hT a) (Cb hT b) e2))
   .rw[F,BX];constructor
    .rintro⟨R,s⟩;have C:=Cb hT t;have I:=Bz hT C O;refine⟨num T (mul T (at_ T t) (Ai T x)),(N _).2 ⟨Em I hT,?_⟩,?_⟩
     .rw[EY hT I,<-Ni hT hg C O,s,Ni hT hg B O,x1,Q8 hT hg]
     .rw[EY hT I,G.Ag C O B,r,G.eR C,LX,EC R]
    .rintro⟨z,I,rfl⟩;have C:=Cb hT z;have W:=Bz hT C B;refine⟨Em W hT,?_⟩;rw[EY hT W,<-Ni hT hg C B,((N z).1 I).2,KU hT hg (R4 hT hg B)]
  rw[j.length_eq,BC]
 have g:(List.range (sz T)).Perm (H.flatMap J):=by
  refine(List.perm_ext_iff_of_nodup List.nodup_range (List.pairwise_flatMap.2 ⟨λc _=>Y c,?_⟩)).2 λt=>?_
  .refine Mg ?_ X;intro a b ha L Q u q v hv e;subst e;exact Q (((F a u).1 q).2.symm.trans ((F b u).1 hv).2)
  .rw[Cg,List.mem_flatMap];constructor
   .intro R;exact⟨_,(D _).2 ⟨_,Cb hT t,rfl⟩,(F _ t).2 ⟨R,rfl⟩⟩
   .rintro⟨c,_,K⟩;exact((F c t).1 K).1
 have h:=g.length_eq;rw[List.length_range,Qq H i]at h;exact h.trans (by rw[S])
end
end Gj
namespace Sk
open AJ Gen CP BN CL Dk EF Kl Dn NF Lp
section
variable {T:Tw} (hT:Wf T) (hg:AJ.Good T) {im:List (List Nat)} (hi:∀c∈im,El T c)
include hT hg hi
omit hT hg in
theorem Q9 {k:Nat}(h:k<im.length):El T (im.getD k []):=by
 rw[BG,AU h];exact hi _ (Ho h)
theorem RV {l:Int}(h:DZ im.length l):El T (Da T im l):=by
 unfold Da;rcases h with⟨B,C⟩|⟨B,C⟩
 .rw[BQ B];exact Q9 hi (by omega)
 .rw[BF (by omega)];exact(Br hT hg (Q9 hi (by omega))).1
theorem ow {l:Int}(h:DZ im.length l):mul T (Da T im (-l)) (Da T im l)=AJ.one T:=by
 unfold Da;rcases h with⟨B,C⟩|⟨B,C⟩
 .rw[BQ B,BF (by omega),Int.neg_neg];exact(Br hT hg (Q9 hi (by omega))).2.2
 .rw[BF (by omega:¬0<l),BQ (by omega)];exact(Br hT hg (Q9 hi (by omega))).2.1
theorem fold_acc:∀(w:List Int) (u:List Nat),(∀l∈w,DZ im.length l)->El T u->El T (Bb T im w)/\w.foldl (λu l=>mul T u (Da T im l)) u=mul T u (Bb T im w)
 |[],u,_,hu=>⟨CR hT,((BA hT hg).eR hu).symm⟩
 |l::w,u,h,hu=>by
  have G:=BA hT hg;have B:=RV hT hg hi (h l CJ);have C:∀x∈w,DZ im.length x:=λx J=>h x (CW _ J);obtain⟨D,F⟩:=fold_acc w (mul T u (Da T im l)) C (G.cl hu B);obtain⟨_,I⟩:=fold_acc w (Da T im l) C B;have e:Bb T im (l::w)=mul T (Da T im l) (Bb T im w):=by
   unfold Bb;rw[List.foldl_cons,G.eL B];exact I
  rw[e];refine⟨G.cl B D,?_⟩;rw[List.foldl_cons,F,G.Ag hu B D]
theorem Ny {w:List Int}(h:∀l∈w,DZ im.length l):El T (Bb T im w):=(fold_acc hT hg hi w (AJ.one T) h (CR hT)).1
theorem RA {u v:List Int}(h:∀l∈u,DZ im.length l)(B:∀l∈v,DZ im.length l):Bb T im (u++v)=mul T (Bb T im u) (Bb T im v):=by
 rw[Bb,List.foldl_append];exact(fold_acc hT hg hi v _ B (Ny hT hg hi h)).2
theorem Ub {l:Int}(h:DZ im.length l):Bb T im [l]=Da T im l:=(BA hT hg).eL (RV hT hg hi h)
theorem YO:∀(w:List Int),(∀l∈w,DZ im.length l)->mul T (Bb T im (CQ w)) (Bb T im w)=AJ.one T
 |[],_=>(BA hT hg).eL (CR hT)
 |l::w,h=>by
  have G:=BA hT hg;have C:=h l CJ;have B:∀x∈w,DZ im.length x:=λx D=>h x (CW _ D);have F:DZ im.length (-l):=by
   rcases C with⟨O,L⟩|⟨O,L⟩
   .exact .inr ⟨by omega,by omega⟩
   .exact .inl ⟨by omega,by omega⟩
  have N:CQ (l::w)=CQ w++[-l]:=by simp[CQ]
  have e2:l::w=[l]++w:=rfl;rw[N,RA hT hg hi (Nj B) (by intro x D;rw[ES.1 D];exact F),e2,RA hT hg hi (by intro x D;rw[ES.1 D];exact C) B,Ub hT hg hi F,Ub hT hg hi C];have Q:=Ny hT hg hi (Nj B);have J:=RV hT hg hi F;have K:=RV hT hg hi C;have I:=Ny hT hg hi B;rw[G.Ag Q J (G.cl K I),<-G.Ag J K I,ow hT hg hi C,G.eL I,YO w B]
theorem YP {i:Nat}(h:i<im.length):∀k,Bb T im (List.replicate k ((i:Int)+1))=npow (mul T) (AJ.one T) (im.getD i []) k
 |0=>rfl
 |k+1=>by
  have B:DZ im.length ((i:Int)+1):=.inl ⟨by omega,by omega⟩;have D:∀k,∀l∈List.replicate k ((i:Int)+1),DZ im.length l:=λk l C=>by rw[List.eq_of_mem_replicate C];exact B
  rw[show List.replicate (k+1) ((i:Int)+1)=List.replicate k ((i:Int)+1)++[(i:Int)+1] from IK,RA hT hg hi (D k) (by intro x F;rw[ES.1 F];exact B),YP h k,Ub hT hg hi B,Cu,Da,BQ (by omega),show((i:Int)+1).toNat-1=i by omega]
omit hT hg hi in
theorem Pe:∀(x:List Nat) (s:Nat),Bg s x=ints (Cn s x)
 |[],s=>rfl
 |a::x,s=>by
  rw[Bg,Cn,Pe x (s+1)];simp[ints]
theorem oz {x:List Nat}(h:x.length=im.length):Bb T im (Bg 0 x)=ev (mul T) (AJ.one T) im x:=by
 have G:=BA hT hg;have C:∀(w:List Nat) (u:List Nat),(∀a∈w,1<=a)->(ints w).foldl (λu l=>mul T u (Da T im l)) u=w.foldl (λu l=>mul T u (im.getD (l-1) [])) u:=by
  intro w
  induction w with
  |nil=>intro u _;rfl
  |cons a w ih=>
   intro u B;have ha:=B a CJ;show List.foldl _ (mul T u (Da T im (a:Int))) (ints w)=List.foldl _ (mul T u _) w;rw[Da,BQ (by omega),ih _ (λb D=>B b (CW _ D))];rfl
 unfold Bb;rw[Pe,C _ _ (λa ha=>by have:=UY x 0 a ha;omega),UA (mul T) im [] x 0 _ (by omega),List.drop_zero];exact G.IJ hi x
theorem YQ {u:List Int}{x:List Nat}(J:∀l∈u,DZ im.length l)(K:x.length=im.length):Bb T im (u++CQ (Bg 0 x))=AJ.one T↔Bb T im u=ev (mul T) (AJ.one T) im x:=by
 have G:=BA hT hg;have D:=ZK K;have F:=Ny hT hg hi (Nj D);have B:=Ny hT hg hi D;have C:=Ny hT hg hi J;rw[RA hT hg hi J (Nj D),<-oz hT hg hi K];have I:=YO hT hg hi _ D;constructor
 .intro h;rw[<-G.eR C,<-I,<-G.Ag C F B,h,G.eL B]
 .intro h;refine G.Nh B (G.cl C F) (CR hT) ?_;rw[G.Ag C F B,I,G.eR C,G.eL B,h]
end
theorem YR {α:Type}(m:α->α->α)(e:α):∀(T:Tw) (cs:List α),Rel m e T cs↔cs.length=T.length/\∀(i:Nat) (L:Lv) (c:α),T[i]?=some L->cs[i]?=some c->npow m e c L.o=ev m e (cs.drop (i+1)) L.w/\∀(k:Nat) (y:List Nat) (d:α),L.c[k]?=some y->cs[i+1+k]?=some d->m d c=m c (ev m e (cs.drop (i+1)) y)
 |[],[]=>⟨λ_=>⟨rfl,λi L c h=>by simp at h⟩,λ_=>trivial⟩
 |[],c::cs=>⟨λh=>h.elim,λh=>by simp at h⟩
 |L::T,[]=>⟨λh=>h.elim,λh=>by simp at h⟩
 |L::T,c::cs=>by
  show(_/\_/\_)↔_;rw[YR m e T cs];constructor
  .rintro⟨Q,J,K,I⟩;refine⟨by simp[K],λi M d D C=>?_⟩;cases i with
   |zero=>
    simp only[Bu,EQ]at D C;subst D;subst C;refine⟨Q,λk y z F B=>?_⟩;rw[show 0+1+k=k+1 by omega,Bf]at B;obtain⟨R,rfl⟩:=Ak.1 F;obtain⟨U,rfl⟩:=Ak.1 B;exact J k U R
   |succ i=>
    rw[Bf]at D C;obtain⟨N,O⟩:=I i M d D C;refine⟨N,λk y z F B=>?_⟩;rw[show i+1+1+k=(i+1+k)+1 by omega,Bf]at B;exact O k y z F B
  .rintro⟨K,I⟩;obtain⟨Q,J⟩:=I 0 L c rfl rfl;refine⟨Q,λj V S=>?_,by simpa using K,λi M d D C=>?_⟩
   .exact J j _ _ (AU S) (by rw[show 0+1+j=j+1 by omega,Bf];exact AU V)
   .obtain⟨N,O⟩:=I (i+1) M d (by rw[Bf];exact D) (by rw[Bf];exact C);refine⟨N,λk y z F B=>?_⟩;exact O k y z F (by rw[show i+1+1+k=(i+1+k)+1 by omega,Bf];exact B)
theorem Uu {Q:Tw}(B:Wf Q)(hg:AJ.Good Q):∀(s:Nat) (im:List (List Nat)) (w:List Nat),(∀c∈im,El Q c)->ev (mul Q) (AJ.one Q) im (pad s w)=ev (mul Q) (AJ.one Q) (im.drop s) w
 |0,im,w,_=>by rw[List.drop_zero,XY]
 |s+1,[],w,_=>by simp[ev]
 |s+1,c::im,w,h=>by
  have hi:∀x∈im,El Q x:=λx C=>h x (CW _ C);rw[Qr,Pf B hg hi,List.drop_succ_cons];exact Uu B hg s im w hi
theorem YS {T:Tw}(hT:Wf T)(hg:AJ.Good T){im:List (List Nat)}(hi:∀c∈im,El T c)(q:im.length=T.length):Rel (mul T) (AJ.one T) T im↔∀w∈Db T,Bb T im w=AJ.one T:=by
 have G:=BA hT hg;have X:∀(i:Nat) (x:List Nat),x.length+(i+1)=T.length->(pad (i+1) x).length=im.length:=λi x h=>by rw[BS];omega
 have Z:∀(i:Nat) (L:Lv) (c:List Nat),T[i]?=some L->im[i]?=some c->(Bb T im (SH i L)=AJ.one T↔npow (mul T) (AJ.one T) c L.o=ev (mul T) (AJ.one T) (im.drop (i+1)) L.w):=λi L c B C=>by
  have D:=(Ak.1 C).1;have S:im.getD i []=c:=by rw[BG,C];rfl
  unfold SH;rw[YQ hT hg hi (λl R=>by rw[List.eq_of_mem_replicate R];exact .inl ⟨by omega,by omega⟩) (X i _ (GG hT B).1),YP hT hg hi D,S,Uu hT hg _ _ _ hi]
 have V:∀(i k:Nat) (L:Lv) (c d y:List Nat),T[i]?=some L->im[i]?=some c->L.c[k]?=some y->im[i+1+k]?=some d->(Bb T im (SI i k y)=AJ.one T↔mul T d c=mul T c (ev (mul T) (AJ.one T) (im.drop (i+1)) y)):=λi k L c d y B C F I=>by
  have D:=(Ak.1 C).1;have W:=(Ak.1 I).1;have S:im.getD i []=c:=by rw[BG,C];rfl
  have b:im.getD (i+1+k) []=d:=by rw[BG,I];rfl
  have J:El T c:=hi c (Af C);have O:El T d:=hi d (Af I);obtain⟨N,s,g⟩:=Br hT hg J;have a:DZ im.length (-(i:Int)-1):=.inr ⟨by omega,by omega⟩;have u:DZ im.length ((i:Int)+1+(k:Int)+1):=.inl ⟨by omega,by omega⟩;have p:DZ im.length ((i:Int)+1):=.inl ⟨by omega,by omega⟩;have v:Da T im (-(i:Int)-1)=Ai T c:=by rw[Da,BF (by omega),show(-(-(i:Int)-1)).toNat-1=i by omega,S]
  have e2:Da T im ((i:Int)+1+(k:Int)+1)=d:=by rw[Da,BQ (by omega),show((i:Int)+1+(k:Int)+1).toNat-1=i+1+k by omega,b]
  have z:Da T im ((i:Int)+1)=c:=by rw[Da,BQ (by omega),show((i:Int)+1).toNat-1=i by omega,S]
  have e4:Bb T im [-(i:Int)-1,(i:Int)+1+(k:Int)+1,(i:Int)+1]=mul T (mul T (Ai T c) d) c:=by
   unfold Bb;simp only[List.foldl_cons,List.foldl_nil];rw[v,e2,z,G.eL N]
  unfold SI;rw[YQ hT hg hi (λl R=>by
   simp only[EE,List.not_mem_nil,or_false]at R;rcases R with rfl|rfl|rfl
   .exact a
   .exact u
   .exact p) (X i y ((GG hT B).2.2 y (Af F))),e4,Uu hT hg _ _ _ hi]
  have Y:=G.ev (cs:=im.drop (i+1)) (λx r=>hi x (Hl r)) y;constructor
  .intro h;rw[<-h,G.Ag N O J,<-G.Ag J N (G.cl O J),s,G.eL (G.cl O J)]
  .intro h;rw[G.Ag N O J,h,<-G.Ag N J Y,g,G.eL Y]
 have Q:∀(i:Nat) (L:Lv),T[i]?=some L->T.getD i ⟨0,[],[]⟩=L:=λi L h=>by rw[BG,h];rfl
 rw[YR];constructor
 .rintro⟨_,h⟩ w K;rcases DY.1 K with K|K
  .obtain⟨i,U,rfl⟩:=BX.1 K;have D:=Cg.1 U;obtain⟨L,B⟩:∃L,T[i]?=some L:=⟨_,AU D⟩;obtain⟨c,C⟩:∃c,im[i]?=some c:=⟨_,AU (by omega)⟩;unfold Et;rw[Q i L B];exact(Z i L c B C).2 (h i L c B C).1
  .obtain⟨i,U,K⟩:=List.mem_flatMap.1 K;obtain⟨k,j,rfl⟩:=BX.1 K;have D:=Cg.1 U;have W:=Cg.1 j;obtain⟨L,B⟩:∃L,T[i]?=some L:=⟨_,AU D⟩;obtain⟨c,C⟩:∃c,im[i]?=some c:=⟨_,AU (by omega)⟩;obtain⟨d,I⟩:∃d,im[i+1+k]?=some d:=⟨_,AU (by omega)⟩;obtain⟨y,F⟩:∃y,L.c[k]?=some y:=⟨_,AU (by have:=(GG hT B).2.1;omega)⟩;unfold EG;rw[Q i L B,show L.c.getD k []=y by rw[BG,F];rfl];exact(V i k L c d y B C F I).2 ((h i L c B C).2 k y d F I)
 .intro h;refine⟨q,λi L c B C=>⟨?_,λk y d F I=>?_⟩⟩
  .have D:=(Ak.1 B).1;have:=h (Et T i) (OJ _ (BX.2 ⟨i,Cg.2 D,rfl⟩));unfold Et at this;rw[Q i L B]at this;exact(Z i L c B C).1 this
  .have D:=(Ak.1 B).1;have W:=(Ak.1 F).1;have:=h (EG T i k) (LZ _ (List.mem_flatMap.2 ⟨i,Cg.2 D,BX.2 ⟨k,Cg.2 (by have:=(GG hT B).2.1;omega),rfl⟩⟩));unfold EG at this;rw[Q i L B,show L.c.getD k []=y by rw[BG,F];rfl]at this;exact(V i k L c d y B C F I).1 this
end Sk
end Go.Proofs.YtgjadpmbnejaoaaGreat

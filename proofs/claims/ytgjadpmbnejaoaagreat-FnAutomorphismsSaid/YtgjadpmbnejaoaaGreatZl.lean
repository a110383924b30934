import Derived.Test.YtgjadpmbnejaoaaGreatZk
/-
  Lemmas for the law FnAutomorphisms, in short spelling.
-/
set_option linter.unusedVariables false
set_option linter.unusedSimpArgs false
set_option maxRecDepth 100000
set_option maxHeartbeats 40000000
namespace Go.Proofs.YtgjadpmbnejaoaaGreat
namespace Vm
open RowKit AJ Val Bv Bl Ih
open Su(Uy Il PK)
open BU(Any)
abbrev IE (B:Nat)(w:World)(v:Value)(x:List Int):Prop:=w.ownsRow B 2 1 v x.length (vals x)
theorem UN {B:Nat}{w':World}{C:Value}{x:List Int}{a:Int}(h:w'.ownsRow B 2 1 C (x.length+1) (vals x++[.int .i64 a])):IE B w' C (x++[a]):=by
 unfold IE;have e:vals (x++[a])=vals x++[.int .i64 a]:=by simp[vals]
 rw[e,Bc];exact h
theorem sI {B:Nat}{w:World}{v:Value}{x:List Int}(h:IE B w v x):AP (λk=>B<=k) w v x:=Own.sl h
def VW (n:Nat)(g:Nat)(a:Option Addr)(len cap:Nat)(w:World)(e:Ending)(w':World):Prop:=
 ∃v x,e= .returned v/\IE w.heap.size w' v x/\x.length<=n+1/\Sr g a len cap w w'
theorem pX (os:List Int)(n:Nat)(hn:os.length=n)(z:n<=1000)(w:World)(g:Nat)(a:Option Addr)(len cap:Nat)(aO:Option Addr)(cO:Nat)(vP vC:Value)(O:Sr g a len cap w w)(d:AP (λk=>k≠g) w (.slice aO n cO) os):
  Calls Tryz.prog 72 #[.pointer (some ⟨g,0,none⟩),.agg #[.slice aO n cO,vP,vC]] w (VW n g a len cap w):=by
 obtain⟨i0,hi,c0,c1,c2⟩:=Bd Dh;have e9:=O.lt;obtain⟨B,a6⟩:∃B,B=w.alloc (.cells #[.slice aO n cO,vP,vC] 28):=⟨_,rfl⟩;obtain⟨N,b5⟩:∃N,w.heap.size=N:=⟨_,rfl⟩;have c9:B.heap.size=N+1:=by rw[a6,<-b5];simp
 have b6:=AB (show Sr g a len cap w B by rw[a6];exact O.alloc _);have b0:=AB (show Sr g a len cap B B from⟨b6.AA.1,b6.AA.2.1,Ez _ _⟩);have c8:=AB (show AP (λk=>k≠g) B (.slice aO n cO) os from d.keep (Keep.grown b6.AA.2.2 λk K e=>K (by injection e)));have d4:=AB (show B.cell? ⟨N,0,none⟩=some (.slice aO n cO) by
  rw[a6,<-b5];exact(Mm (Aj _ _)).1)
 have a3:=AB (show g≠N/\g<N by omega);have HN:=AB hn;have Y:=AB c9;have e5:=AB b5;have b9:=AB (λx W (h:Sr g a len cap B W)=>GX x g a len cap B W h);have f2:=AB (show IE B.heap.size (B.alloc (.cells #[] 2)) (.slice (some ⟨B.heap.size,0,none⟩) 0 0) [] from DL (base:=B.heap.size) (e:=2) (size:=1) B #[] 0 AV (AX _) rfl);have e6:=AB (show Sr g a len cap B (B.alloc (.cells #[] 2)) from b0.AA.alloc _);clear O d hn c9 e9;go_enter Tryz.func72,Tryz.ntmps72;go_upto_region 1 with fail;rw[<-a6];clear a6 b5;go_wp2_with fail;go_loopw [5,6] (λov iv wr=>∃(k:Nat) (C:List Int) (ax:Option Addr) (p:Nat),ov= .slice ax k p/\k<=n/\iv= .int .i64 (k:Int)/\Hid (C.length=k)/\Hid (IE B.heap.size wr (.slice ax k p) C)/\Hid (Sr g a len cap B wr)) (λ_ iv _=>n-(intOf iv).toNat);case atStart=>exact⟨0,[],_,_,rfl,AX _,rfl,AB rfl,f2,e6⟩
 case round=>
  obtain⟨k,C,ax,p,rfl,K,rfl,hL,d,O⟩:=hrel;have a0:=Keep.grown O.AA.2.2 (S:=λk=>k≠g) (λk K e=>K (by injection e));have p0:=(a0.cell (b:=N) (o:=0) (λe=>a3.AA.1 e.symm) (by rw[Y.AA];omega)).trans d4.AA;have e7:N<wr.heap.size:=by have:=a0.size;have:=Y.AA;omega
  by_cases b7:k<n
  .obtain⟨m,hm⟩:∃m,os[k]?=some m:=⟨_,AU (by rw[HN.AA];exact b7)⟩;obtain⟨bO,oO,vu,rfl,_,d9,d1,rfl⟩:=Ce (c8.AA.keep a0) hm;have Z:=AB (b9.AA m wr O.AA);have f3:(k:Int)<(n:Int):=by omega
   have b8:(0:Int)<=(k:Int):=by omega
   have b4:=AB (And.intro b7 z);clear a0 b7 hm;go_wp2_with fail;refine Z.AA.mono ?_;rintro e L ⟨r,rfl,hr,Q⟩;have U:=AB (O.AA.tr Q);have a1:=(show IE B.heap.size L _ C from Aw d.AA (S:=λq=>q≠g) (Keep.grown Q.2.2 (λk K e=>K (by injection e))) (λq F=>by have:=a3.AA;have:=Y.AA;omega));have J:=Aw a1 (S:=Any) ((Keep.refl _ L).alloc (.cells #[.int .i64 (r:Int)] 2)) (λ_ _=>trivial);have e4:=AB (show(C++[(r:Int)]).length=k+1 by rw[Bc,hL.AA];rfl);have I:=AB hL.AA;rw[I.AA]at J;clear hL d O Q hr a1 Z;go_wp2_with (at_builtin;(refine ER _ rfl _ _ 24 rfl B.heap.size 2 i0 (.int .i64 0) 1 8 Tryz.underlying24 hi c0 c1 c2 rfl (by decide) _ _ _ rfl J ⟨L.heap.size,0,none⟩ 1 1 [.int .i64 (r:Int)] rfl rfl (Cw (cs:= #[.int .i64 (r:Int)]) (t:=2) (fr:=(0,0)) (Aj L _)) (by simp[Value.oneCell']) (by decide) ?c3 ?c4 ?c5 _ rfl ?_));case c3=>have:=b4.AA;unfold maxLen;omega
   case c4=>have:=b4.AA;omega
   case c5=>have:=U.AA.2.2.size;simp;omega
   intro g2 a8 D R X a5 a4;have j:=AB (show IE B.heap.size D (.slice (some ⟨g2,0,none⟩) (k+1) a8) (C++[(r:Int)]) from UN (by rw[I.AA];exact R));have f0:=AB (show Sr g a len cap B D from(U.AA.alloc _).own b0.AA X (λq F=>(Aq J q F).1));clear R X a5 a4 J c8;go_wp2_with fail;go_roundw;case rel=>exact⟨k+1,C++[(r:Int)],_,_,rfl,b4.AA.1,by go_num,e4,j,f0⟩
   case measure=>have:=b4.AA.1;simp[intOf];omega
  .obtain rfl:k=n:=by omega
   clear b7;have I:=AB hL.AA;have b1:=AB (λW v x (h1:x.length<=k+1) (h2:IE B.heap.size W v x) (h3:Sr g a len cap B W)=>(show VW k g a len cap w (.returned v) W from⟨v,x,rfl,PK h2 (by rw[Y.AA,e5.AA];omega),h1,b6.AA.tr h3⟩));have Z:=AB (b9.AA 40 wr O.AA);have d5:=AB (λW (h:Sr g a len cap wr W)=>(show IE B.heap.size W (.slice ax k p) C from Aw d.AA (S:=λq=>q≠g) (Keep.grown h.2.2 (λk K e=>K (by injection e))) (λq F=>by have:=a3.AA;have:=Y.AA;omega)));have f7:=AB a0;clear hL d a0;go_wp2_with fail;refine Z.AA.mono ?_;rintro e L ⟨r,rfl,hr,Q⟩;have U:=AB (O.AA.tr Q);have a9:=d5.AA L Q;clear p0 e7;by_cases e8:r=0
   .subst e8;by_cases b8:k=0
    .subst b8;have J:=Aw a9 (S:=Any) ((Keep.refl _ L).alloc (.cells #[.int .i64 0] 2)) (λ_ _=>trivial);rw[I.AA]at J;clear hr a9 Q Z;go_upto_region 10 with fail;go_wp2_with (at_builtin;(refine ER _ rfl _ _ 24 rfl B.heap.size 2 i0 (.int .i64 0) 1 8 Tryz.underlying24 hi c0 c1 c2 rfl (by decide) _ _ _ rfl J ⟨L.heap.size,0,none⟩ 1 1 [.int .i64 0] rfl rfl (Cw (cs:= #[.int .i64 0]) (t:=2) (fr:=(0,0)) (Aj L _)) (by simp[Value.oneCell']) (by decide) ?c3 ?c4 ?c5 _ rfl ?_));case c3=>unfold maxLen;omega
     case c4=>omega
     case c5=>have:=U.AA.2.2.size;simp;omega
     intro g2 a8 l R X a5 a4;have j:=AB (show IE B.heap.size l (.slice (some ⟨g2,0,none⟩) (0+1) a8) (C++[(0:Int)]) from UN (by rw[I.AA];exact R));have c6:=AB (show Sr g a len cap B l from(U.AA.alloc _).own b0.AA X (λq F=>(Aq J q F).1));have i:=AB (b1.AA l _ (C++[(0:Int)]) (by rw[Bc,I.AA];exact Al _) j.AA c6.AA);clear R X a5 a4 J;go_wp2_with fail;go_ret;exact i.AA
    .have f9:(0:Int)<(k:Int):=by omega
     have d2:=AB (b9.AA 2 L U.AA);clear hr a9 Z;go_wp2_with fail;refine d2.AA.mono ?_;rintro e D ⟨r2,rfl,d6,c7⟩;have s:=AB (U.AA.tr c7);have V:=d5.AA D (Q.tr c7);clear Q c7 d6 d2;by_cases d8:r2=0
     .subst d8;unfold IE at V;rw[I.AA]at V;obtain⟨y,cq,F,_,_⟩:=World.ownsRow.form V (Nat.pos_of_ne_zero b8);injection F with e1 e2 e3;subst e1;subst e3;obtain⟨m0,d3⟩:∃m,os[0]?=some m:=⟨_,AU (by rw[HN.AA];omega)⟩;have b2:=Keep.grown s.AA.2.2 (S:=λk=>k≠g) (λk K e=>K (by injection e));have p2:=(b2.cell (b:=N) (o:=0) (λe=>a3.AA.1 e.symm) (by rw[Y.AA];omega)).trans d4.AA;have f6:N<D.heap.size:=by have:=b2.size;have:=Y.AA;omega
      obtain⟨bO,oO,vu,rfl,_,d9,d1,rfl⟩:=Ce (c8.AA.keep b2) d3;rw[Iw]at d1;have d7:=AB (show Sr g a len cap D D from⟨s.AA.1,s.AA.2.1,Ez _ _⟩);have j:=AB V;have d0:=Aq V y rfl;have HQ:=AB d0;have b3:=AB (λ(W:World) (z:Sr g a len cap (D.alloc (.cells #[.int .i64 m0,.int .i64 (-1)] 2)) W)=>show W.ownsRow B.heap.size 2 1 (.slice (some ⟨y,0,none⟩) k p) k (vals C) from
       Aw (Aw j.AA (S:=Any) ((Keep.refl _ D).alloc _) (λ_ _=>trivial)) (S:=λq=>q≠g) (Keep.grown z.2.2 (λk K e=>K (by injection e))) (λq F=>by have:=a3.AA;have:=Y.AA;omega))
      have i:=AB (λ(W:World) (x:Int) (z:Sr g a len cap (D.alloc (.cells #[.int .i64 m0,.int .i64 (-1)] 2)) W)=>show VW k g a len cap w (.returned (.slice (some ⟨y,0,none⟩) k p)) (W.setCell ⟨y,0,none⟩ (.int .i64 x)) by
       obtain⟨h1,h2⟩:=(b3.AA W z).stored 0 (.int .i64 x);refine b1.AA _ _ (C.set 0 x) (by rw[List.length_set,I.AA];omega) ?_ (((s.AA.alloc _).tr z).own b0.AA h2 (λq F=>by injection F with F;rw[<-F];exact HQ.AA.1));unfold IE;rw[List.length_set,I.AA,show vals (C.set 0 x)=(vals C).set 0 (.int .i64 x) by simp[vals,List.map_set]];exact h1)
      have e0:0<k:=Nat.pos_of_ne_zero b8;clear V d3 b2 d0;go_wp2_with (go_at_call 127;refine(OD [m0,-1] 2 rfl (by decide) (by decide) g a len cap D _ d7.AA).mono ?_;rintro e w3 ⟨x,hx,rfl,a7⟩;have HF:=AB (i.AA w3 x a7);have f5:=(b3.AA w3 a7).frozenAt 0;obtain⟨u0,f4⟩:∃u,w3.cell? ⟨y,0,none⟩=some u:=⟨_,((b3.AA w3 a7).cellAt 0 (by omega)).trans (AU (by rw[show(vals C).length=C.length by simp[vals],I.AA];exact e0))⟩;have f8:=(Aq (b3.AA w3 a7) y rfl).2;clear a7 hx);go_ret;exact HF.AA
     .have f1:((r2:Int)==0)=false:=by simp;omega
      have J:=Aw V (S:=Any) ((Keep.refl _ D).alloc (.cells #[.int .i64 0] 2)) (λ_ _=>trivial);rw[I.AA]at J;clear V;go_upto_region 10 with fail;go_wp2_with (at_builtin;(refine ER _ rfl _ _ 24 rfl B.heap.size 2 i0 (.int .i64 0) 1 8 Tryz.underlying24 hi c0 c1 c2 rfl (by decide) _ _ _ rfl J ⟨D.heap.size,0,none⟩ 1 1 [.int .i64 0] rfl rfl (Cw (cs:= #[.int .i64 0]) (t:=2) (fr:=(0,0)) (Aj D _)) (by simp[Value.oneCell']) (by decide) ?c3 ?c4 ?c5 _ rfl ?_));case c3=>unfold maxLen;omega
      case c4=>omega
      case c5=>have:=s.AA.2.2.size;simp;omega
      intro g2 a8 l R X a5 a4;have j:=AB (show IE B.heap.size l (.slice (some ⟨g2,0,none⟩) (k+1) a8) (C++[(0:Int)]) from UN (by rw[I.AA];exact R));have c6:=AB (show Sr g a len cap B l from(s.AA.alloc _).own b0.AA X (λq F=>(Aq J q F).1));have i:=AB (b1.AA l _ (C++[(0:Int)]) (by rw[Bc,I.AA];exact Al _) j.AA c6.AA);clear R X a5 a4 J;go_wp2_with fail;go_ret;exact i.AA
   .have f1:((r:Int)==0)=false:=by simp;omega
    have i:=AB (b1.AA L (.slice ax k p) C (by rw[I.AA];omega) a9 U.AA);clear hr a9 Q Z;go_wp2_with fail;go_ret;exact i.AA
end Vm
namespace Dn
open RowKit AJ
def Bg:Nat->List Nat->List Int
 |_,[]=>[]
 |k,x::v=>List.replicate x ((k:Int)+1)++Bg (k+1) v
theorem Yv:∀(a b:List Nat) (k:Nat),Bg k (a++b)=Bg k a++Bg (k+a.length) b
 |[],b,k=>by simp[Bg]
 |x::a,b,k=>by
  simp only[List.cons_append,Bg,Yv a b (k+1),DX,Dy];rw[show k+1+a.length=k+(a.length+1) by omega]
theorem Yw:∀(v:List Nat) (k:Nat) (x:Int),x∈Bg k v->∃i,i<v.length/\x=((k+i:Nat):Int)+1
 |[],_,x,h=>by simp[Bg]at h
 |y::v,k,x,h=>by
  unfold Bg at h;rcases DY.1 h with h|h
  .exact⟨0,by simp,(GL.1 h).2⟩
  .obtain⟨i,hi,rfl⟩:=Yw v (k+1) x h;exact⟨i+1,by simpa using hi,by omega⟩
theorem Yx:∀(v:List Nat) (k m:Nat),(∀x∈v,x<=m)->(Bg k v).length<=v.length*m
 |[],_,_,_=>by simp[Bg]
 |y::v,k,m,h=>by
  unfold Bg;have C:=h y (by simp);have D:=Yx v (k+1) m (λx B=>h x (CW _ B));rw[Bc,Bp,DX,Nat.succ_mul];omega
def DZ (n:Nat)(l:Int):Prop:=(0<l/\l<=n)\/(l<0/\ -l<=n)
def CQ (w:List Int):List Int:=(w.map λl=> -l).reverse
theorem Nj {n:Nat}{w:List Int}(h:∀l∈w,DZ n l):∀l∈CQ w,DZ n l:=λl C=>by
 obtain⟨x,B,rfl⟩:=BX.1 (List.mem_reverse.1 C);rcases h x B with⟨D,F⟩|⟨D,F⟩
 .exact .inr ⟨by omega,by omega⟩
 .exact .inl ⟨by omega,by omega⟩
theorem NZ (w:List Int):(CQ w).length=w.length:=by simp[CQ]
theorem ZK {n:Nat}{x:List Nat}(h:x.length=n):∀l∈Bg 0 x,DZ n l:=λl B=>by
 obtain⟨i,hi,rfl⟩:=Yw x 0 l B;exact .inl ⟨by omega,by omega⟩
def SH (i:Nat)(L:Lv):List Int:=List.replicate L.o ((i:Int)+1)++CQ (Bg 0 (pad (i+1) L.w))
def SI (i k:Nat)(y:List Nat):List Int:=[-(i:Int)-1,(i:Int)+1+(k:Int)+1,(i:Int)+1]++CQ (Bg 0 (pad (i+1) y))
def Et (T:Tw)(i:Nat):List Int:=SH i (T.getD i ⟨0,[],[]⟩)
def EG (T:Tw)(i k:Nat):List Int:=SI i k ((T.getD i ⟨0,[],[]⟩).c.getD k [])
def Db (T:Tw):List (List Int):=(List.range T.length).map (Et T)++(List.range T.length).flatMap λi=>(List.range (T.length-(i+1))).map (EG T i)
theorem KT {B B' n:Nat}{w:World}{v:Value}{t:TypeId}{C:List Value}(h:w.ownsRow B t 1 v n C)(D:B'<=B):w.ownsRow B' t 1 v n C:=⟨h.1,h.2.imp id λ⟨g,cap,F,e,I,q⟩=>⟨g,cap,F,e,Ae D I,q⟩⟩
def BL (B:Nat)(w:World)(v:Value)(L:List (List Int)):Prop:=∃us:List Value,w.ownsRow B 24 1 v L.length us/\us.length=L.length/\∀(i:Nat) (r:List Int) (u:Value),L[i]?=some r->us[i]?=some u->Own B w u r
theorem BL.nil (B:Nat)(w:World):BL B w (.slice none 0 0) []:=⟨[],FY _ _ _ _,rfl,by simp⟩
theorem BL.lit (w:World):BL w.heap.size (w.alloc (.cells #[] 24)) (.slice (some ⟨w.heap.size,0,none⟩) 0 0) []:=⟨[],DL (base:=w.heap.size) (e:=24) (size:=1) w #[] 0 AV (AX _) rfl,rfl,by simp⟩
theorem BL.keep {B:Nat}{w w':World}{v:Value}{L:List (List Int)}(h:BL B w v L)(C:Below w.heap.size w w'):BL B w' v L:=by
 obtain⟨us,F,I,K⟩:=h;exact⟨us,Aw F (AO (S:=λ_=>True) C) (λ_ _=>trivial),I,λi r u D J=>(K i r u D J).of_below C⟩
theorem BL.mono {B B':Nat}{w:World}{v:Value}{L:List (List Int)}(h:BL B w v L)(D:B'<=B):BL B' w v L:=by
 obtain⟨us,C,N,O⟩:=h;exact⟨us,⟨C.1,C.2.imp id λ⟨g,cap,K,e,I,q⟩=>⟨g,cap,K,e,Ae D I,q⟩⟩,N,λi r u J F=>(O i r u J F).mono D⟩
theorem BL.push {B n:Nat}{w w':World}{v K u:Value}{L:List (List Int)}{r:List Int}{us:List Value}(S:L.length=n)
  (Q:w.ownsRow B 24 1 v n us) (O:us.length=L.length) (V:∀(i:Nat) (r:List Int) (u:Value),L[i]?=some r->us[i]?=some u->Own B w u r)
  (R:Own B w u r) (U:w'.ownsRow B 24 1 K (n+1) (us++[u])) (hg:w.grownBy w' v.ownBlock):BL B w' K (L++[r]):=by
 subst S;refine⟨us++[u],by simpa using U,by simp[O],λi F J C D=>?_⟩;have N:Own B w J F:=by
  rcases CU i L.length with hi|hi
  .rw[DK hi]at C;rw[DK (by omega)]at D;exact V i F J C D
  .rw[DC hi]at C;rw[DC (by omega)]at D;rw[O]at D;rcases I:i-L.length with _|j
   .rw[I]at C D;simp at C D;subst C;subst D;exact R
   .rw[I]at C;simp at C
 exact JB N hg (Gq N Q (by decide))
theorem BL.sl {B:Nat}{w:World}{v:Value}{L:List (List Int)}(h:BL B w v L):AQ (λk=>B<=k) w v L:=by
 obtain⟨us,o1,W,N⟩:=h;obtain⟨a,c,rfl,O,S,K⟩:∃a c,v= .slice a L.length c/\L.length<=c/\c<=maxLen/\(a=none->c=0):=by
  rcases o1.2 with⟨rfl,C⟩|⟨g,cap,Q,rfl,I,D,C,R,Y,X⟩
  .exact⟨none,0,by rw[C],by omega,by simp,λ_=>rfl⟩
  .exact⟨_,cap,rfl,C,R,by simp⟩
 refine⟨a,c,rfl,O,S,K,λi p J=>?_⟩;have Z:=(Ak.1 J).1;obtain⟨u,F⟩:∃u,us[i]?=some u:=⟨_,AU (by omega)⟩;have U:=N i p u J F;rcases o1.2 with⟨e,C⟩|⟨g,V,Q,e,I,D,_⟩
 .omega
 .cases e;refine⟨g,0,rfl,I,(Bt.1 D).1,_,?_,U.sl⟩;rw[CK,FZ o1 i (by omega)];exact F
def TE (l:List Int)(w:World)(e:Ending)(w':World):Prop:=∃u,e= .returned u/\Own w.heap.size w' u l/\Below w.heap.size w w'
end Dn
namespace fO
open RowKit Lib AJ Bv Dn
open Bv(Ce Cz)
theorem qo (a:Option Addr)(n c:Nat)(v:List Nat)(hl:v.length=n)(hn:n<=100)(hp:∀x∈v,x<=100)(w:World)(s:AP (λ_=>True) w (.slice a n c) (ints v)):
  Calls Tryz.prog 190 #[.slice a n c] w (TE (Bg 0 v) w):=by
 obtain⟨i0,b4,a6,a7,b1⟩:=Bd Dh;have HV:=AB s;have R:=AB hl;have HP:=AB hp;have j:=AB (show Own w.heap.size (w.alloc (.cells #[] 2)) (.slice (some ⟨w.heap.size,0,none⟩) 0 0) (Bg 0 (v.take 0)) from DL (base:=w.heap.size) (e:=2) (size:=1) w #[] 0 AV (AX _) rfl);clear s hl hp;go_enter Tryz.func190,Tryz.ntmps190;go_wp2_with fail;go_loopw [3,4] (λZ Y wr=>∃(i:Nat) (F:Option Addr) (m B:Nat),i<=n/\Y= .int .i64 (i:Int)/\Z= .slice F m B/\m<=i*100/\Hid (m=(Bg 0 (v.take i)).length/\Own w.heap.size wr (.slice F m B) (Bg 0 (v.take i)))/\Hid (Below w.heap.size w wr)) (λ_ Y _=>n-(intOf Y).toNat);case atStart=>exact⟨0,_,_,_,AX _,rfl,rfl,Al _,AB ⟨rfl,j.AA⟩,AB (AY.alloc AV _)⟩
 case round=>
  clear j;obtain⟨i,F,m,B,hi,rfl,rfl,hm,D,C⟩:=hrel;by_cases b5:i<n
  .have b6:(i:Int)<(n:Int):=by omega
   have c1:(0:Int)<=(i:Int):=by omega
   obtain⟨x,N⟩:∃x,v[i]?=some x:=⟨_,AU (by rw[R.AA];exact b5)⟩;have b7:=HP.AA x (Af N);have V:(ints v)[i]?=some (x:Int):=by rw[Dt,N];rfl
   have b2:=AB (show Bg 0 (v.take (i+1))=Bg 0 (v.take i)++List.replicate x ((i:Int)+1) from by
    rw[EL,N];show Bg 0 (v.take i++[x])=_;rw[Yv];have e:0+(v.take i).length=i:=by rw[Ec,R.AA];omega
    rw[e];simp[Bg])
   obtain⟨b,o,O⟩:∃b o,a=some ⟨b,o,none⟩:=by
    obtain⟨b,o,u,e,_⟩:=Ce HV.AA V;exact⟨b,o,e⟩
   subst O;have y:=AB (λ(W:World) (O:Below w.heap.size w W)=>show W.cell? ⟨b,o+i,none⟩=some (.int .i64 (x:Int))/\b<W.heap.size from by
    obtain⟨b',o',u,e,_,J,I,rfl⟩:=Ce (HV.AA.keep (AO O)) V;simp only[EQ,Hr,and_true]at e;obtain⟨rfl,rfl⟩:=e;exact⟨I,J⟩)
   obtain⟨I,J⟩:=y.AA _ C.AA;have b9:IntKind.i64.wrap ((i:Int)+1)=(i:Int)+1:=Ac _ (by omega);have r:=AB (show∃(q:Nat) (a0:Option Addr) (m' a3:Nat),q<=x/\m'<=i*100+q/\Value.int .i64 0= .int .i64 (q:Int)/\Value.slice F m B= .slice a0 m' a3/\Hid (m'=(Bg 0 (v.take i)++List.replicate q ((i:Int)+1)).length/\Own w.heap.size wr (.slice a0 m' a3) (Bg 0 (v.take i)++List.replicate q ((i:Int)+1)))/\Hid (Below w.heap.size w wr) from
    ⟨0,F,m,B,AX _,by omega,rfl,rfl,AB (by rw[List.replicate_zero,FP];exact D.AA),C⟩)
   clear N D C V;go_wp2_with fail;go_loopw [3,5] (λZ U wr=>∃(q:Nat) (F:Option Addr) (m B:Nat),q<=x/\m<=i*100+q/\U= .int .i64 (q:Int)/\Z= .slice F m B/\Hid (m=(Bg 0 (v.take i)++List.replicate q ((i:Int)+1)).length/\Own w.heap.size wr (.slice F m B) (Bg 0 (v.take i)++List.replicate q ((i:Int)+1)))/\Hid (Below w.heap.size w wr)) (λ_ U _=>x-(intOf U).toNat);case atStart=>exact r.AA
   case round=>
    clear r I J;obtain⟨q,F,m,B,hq,hm,rfl,rfl,D,C⟩:=hrel;obtain⟨I,J⟩:=y.AA _ C.AA;by_cases h:q<x
    .have c0:(q:Int)<(x:Int):=by omega
     have b8:IntKind.i64.wrap ((q:Int)+1)=(q:Int)+1:=Ac _ (by omega);obtain⟨L,X⟩:∃L,Bg 0 (v.take i)++List.replicate q ((i:Int)+1)=L:=⟨_,rfl⟩;have a5:=AB (show Bg 0 (v.take i)++List.replicate (q+1) ((i:Int)+1)=L++[(i:Int)+1] from by rw[<-X,IK,Dy]);rw[X]at D;have l:=AB D.AA.1;have K:=D.AA.2;unfold Own at K;rw[<-l.AA]at K;have Q:=Aw K (S:=λ_=>True) ((Keep.refl _ wr).alloc (.cells #[.int .i64 ((i:Int)+1)] 2)) (λ_ _=>trivial);have p:=C.AA.size;clear D K X;go_wp2_with (at_builtin;(refine ER _ rfl _ _ 24 rfl w.heap.size 2 i0 (.int .i64 0) 1 8 Tryz.underlying24 b4 a6 a7 b1 rfl (by decide) _ _ _ rfl Q ⟨wr.heap.size,0,none⟩ 1 1 [.int .i64 ((i:Int)+1)] rfl rfl (Cw (cs:= #[.int .i64 ((i:Int)+1)]) (t:=2) (fr:=(0,0)) (Aj wr _)) (by simp[Value.oneCell']) (by decide) (by unfold maxLen;omega) (by omega) (by simp;omega) _ rfl ?_));intro g2 a2 w6 d z a9 h;have a4:=AB ((C.AA.alloc p (.cells #[.int .i64 ((i:Int)+1)] 2)).grown z (by simp;omega) (λg hg=>(Aq Q g hg).1));have b3:=AB (show m+1=(Bg 0 (v.take i)++List.replicate (q+1) ((i:Int)+1)).length/\Own w.heap.size w6 (.slice (some ⟨g2,0,none⟩) (m+1) a2) (Bg 0 (v.take i)++List.replicate (q+1) ((i:Int)+1)) from by
      rw[a5.AA];have e:(L++[(i:Int)+1]).length=m+1:=by rw[Bc,<-l.AA];rfl
      refine⟨e.symm,?_⟩;unfold Own;rw[e];simpa[vals]using d)
     clear Q d z a9 h C p I J;go_wp2_with fail;go_roundw;case rel=>exact⟨q+1,_,m+1,a2,by omega,by omega,by go_num,rfl,b3,a4⟩
     case measure=>simp[intOf];omega
    .obtain rfl:q=x:=by omega
     have a8:¬(q:Int)<(q:Int):=by omega
     rw[<-b2.AA]at D;have b0:m<=(i+1)*100:=by omega
     go_wp2_with fail;go_roundw;case rel=>exact⟨i+1,_,m,B,by omega,by go_num,rfl,b0,D,C⟩
     case measure=>simp[intOf];omega
  .obtain rfl:n=i:=by omega
   have a8:¬(n:Int)<(n:Int):=by omega
   have HF:=AB (show TE (Bg 0 v) w (.returned (.slice F m B)) wr from⟨_,rfl,by
    have:=D.AA.2;rwa[Jh (by rw[R.AA];exact Al _)]at this,C.AA⟩)
   clear D C;go_wp2_with fail;go_ret;exact HF.AA
theorem Xy (a:Option Addr)(n c:Nat)(l:List Int)(Q:l.length=n)(hn:n<=1000)(X:∀x∈l,-1000<=x/\x<=1000)(w:World)(r:AP (λ_=>True) w (.slice a n c) l):
  Calls Tryz.prog 189 #[.slice a n c] w (TE (CQ l) w):=by
 obtain⟨i0,a8,a4,a6,a2⟩:=Bd Dh;have HV:=AB r;have R:=AB Q;have s:=AB X;have V:=AB (show Own w.heap.size (w.alloc (.cells #[] 2)) (.slice (some ⟨w.heap.size,0,none⟩) 0 0) (CQ (l.drop n)) from by
  rw[List.drop_of_length_le (by rw[Q];exact Al _)];exact DL (base:=w.heap.size) (e:=2) (size:=1) w #[] 0 AV (AX _) rfl)
 have v:IntKind.i64.wrap ((n:Int)-1)=(n:Int)-1:=Ac _ (by omega);clear r Q X;go_enter Tryz.func189,Tryz.ntmps189;go_wp2_with fail;go_loopw [3,4] (λov L wr=>∃(k:Nat) (q:Int) (D:Option Addr) (m I:Nat),k<=n/\L= .int .i64 q/\ov= .slice D m I/\Hid (q=(k:Int)-1/\m=n-k)/\Hid (Own w.heap.size wr (.slice D m I) (CQ (l.drop k)))/\Hid (Below w.heap.size w wr)) (λ_ L _=>(intOf L+1).toNat);case atStart=>exact⟨n,(n:Int)-1,_,_,_,Al _,rfl,rfl,AB ⟨rfl,by omega⟩,V,AB (AY.alloc AV _)⟩
 case round=>
  clear V v;obtain⟨k,q,D,m,I,hk,rfl,rfl,C,K,B⟩:=hrel;cases k with
  |succ j=>
   obtain rfl:q=(j:Int):=by have:=C.AA.1;omega
   have N:=AB (show m=n-(j+1) from C.AA.2);obtain⟨x,J⟩:∃x,l[j]?=some x:=⟨_,AU (by rw[R.AA];omega)⟩;have b0:=s.AA x (Af J);obtain⟨b,o,u,rfl,_,a5,a3,rfl⟩:=Ce (HV.AA.keep (AO B.AA)) J;have b5:IntKind.i64.wrap (-x)= -x:=Ac _ (by omega);have b4:IntKind.i64.wrap ((j:Int)-1)=(j:Int)-1:=Ac _ (by omega);have b1:(0:Int)<=(j:Int):=by omega
   have b2:(j:Int)<(n:Int):=by omega
   have a0:=AB (show CQ (l.drop j)=CQ (l.drop (j+1))++[-x] by
    have h:=Dp (l:=l) (i:=j) (by rw[R.AA];omega);rw[h,(Ak.1 J).2];simp[CQ])
   have Z:=AB (show(CQ (l.drop (j+1))).length=m by rw[NZ,Cv,R.AA,N.AA]);have b3:m<=1000:=by have:=N.AA;omega
   have F:=K.AA;unfold Own at F;rw[Z.AA]at F;have O:=Aw F (S:=λ_=>True) ((Keep.refl _ wr).alloc (.cells #[.int .i64 (-x)] 2)) (λ_ _=>trivial);have p:=B.AA.size;have Y:=AB (And.intro hk N.AA);clear K F J b0 C;go_wp2_with (at_builtin;(refine ER _ rfl _ _ 24 rfl w.heap.size 2 i0 (.int .i64 0) 1 8 Tryz.underlying24 a8 a4 a6 a2 rfl (by decide) _ _ _ rfl O ⟨wr.heap.size,0,none⟩ 1 1 [.int .i64 (-x)] rfl rfl (Cw (cs:= #[.int .i64 (-x)]) (t:=2) (fr:=(0,0)) (Aj wr _)) (by simp[Value.oneCell']) (by decide) (by unfold maxLen;omega) (by omega) (by simp;omega) _ rfl ?_));intro g2 d w6 U W a9 z;have y:=AB ((B.AA.alloc p (.cells #[.int .i64 (-x)] 2)).grown W (by simp;omega) (λg hg=>(Aq O g hg).1));have a7:=AB (show Own w.heap.size w6 (.slice (some ⟨g2,0,none⟩) (m+1) d) (CQ (l.drop j)) from by
    rw[a0.AA];unfold Own;rw[show(CQ (l.drop (j+1))++[-x]).length=m+1 by rw[Bc,Z.AA];rfl];simpa[vals]using U)
   clear O U W a9 z B p a3 a5;go_wp2_with fail;go_roundw;case rel=>exact⟨j,(j:Int)-1,_,m+1,d,by have:=Y.AA.1;omega,by go_num,rfl,AB ⟨rfl,by have:=Y.AA;omega⟩,a7,y⟩
   case measure=>simp[intOf]
  |zero=>
   obtain rfl:q= -1:=by have:=C.AA.1;omega
   have HF:=AB (show TE (CQ l) w (.returned (.slice D m I)) wr from⟨_,rfl,by have h:=K.AA;rwa[List.drop_zero]at h,B.AA⟩);clear K B C;go_wp2_with fail;go_ret;exact HF.AA
end fO
namespace NF
open AJ Dn
theorem GG {T:Tw}(hT:Wf T){i:Nat}{L:Lv}(C:T[i]?=some L):L.w.length+(i+1)=T.length/\L.c.length+(i+1)=T.length/\∀y∈L.c,y.length+(i+1)=T.length:=by
 have B:=DJ hT i;rw[EB C]at B;have K:=(Ak.1 C).1;have F:=Ad B.2.1;have J:=B.2.2.1;rw[Cv]at F J;refine⟨by omega,by omega,λy I=>?_⟩;have D:=Ad (B.2.2.2.1 y I);rw[Cv]at D;omega
theorem LB {T:Tw}(hT:Wf T)(N:Small T){i:Nat}{L:Lv}(K:T[i]?=some L):(∀x∈pad (i+1) L.w,x<=6)/\∀y∈L.c,∀x∈pad (i+1) y,x<=6:=by
 have B:=DJ hT i;rw[EB K]at B;have D:∀y,El (T.drop (i+1)) y->∀x∈pad (i+1) y,x<=6:=λy C x F=>by
  unfold pad at F;rcases DY.1 F with h|h
  .rw[List.eq_of_mem_replicate h];omega
  .obtain⟨j,J⟩:=Eb h;obtain⟨M,I,O⟩:=Gb C J;have:=N.2 M (Hl (Af I));omega
 exact⟨D _ B.2.1,λy C=>D y (B.2.2.2.1 y C)⟩
theorem Nz {T:Tw}(hT:Wf T)(D:Small T){i:Nat}{y:List Nat}(J:y.length+(i+1)=T.length)(C:∀x∈pad (i+1) y,x<=6):(Bg 0 (pad (i+1) y)).length<=36/\(∀l∈Bg 0 (pad (i+1) y),DZ T.length l)/\(CQ (Bg 0 (pad (i+1) y))).length<=36:=by
 have B:(pad (i+1) y).length=T.length:=by rw[BS];omega
 have I:=Yx (pad (i+1) y) 0 6 C;have K:=D.1;have F:(pad (i+1) y).length*6<=6*6:=Nat.mul_le_mul (by omega) AV;refine⟨by omega,ZK B,by rw[NZ];omega⟩
theorem Uv {T:Tw}{i:Nat}{L:Lv}(h:T[i]?=some L):Et T i=List.replicate L.o ((i:Int)+1)++CQ (Bg 0 (pad (i+1) L.w)):=by
 unfold Et SH;rw[BG,h];rfl
theorem Uw {T:Tw}{i k:Nat}{L:Lv}{y:List Nat}(h:T[i]?=some L)(C:L.c[k]?=some y):EG T i k=[-(i:Int)-1,(i:Int)+1+(k:Int)+1,(i:Int)+1]++CQ (Bg 0 (pad (i+1) y)):=by
 have B:T.getD i ⟨0,[],[]⟩=L:=by rw[BG,h];rfl
 have e2:L.c.getD k []=y:=by rw[BG,C];rfl
 unfold EG SI;rw[B,e2]
theorem Qs {n:Nat}(h:n<=1000){w:List Int}(B:∀l∈w,DZ n l):∀l∈w,-1000<=l/\l<=1000:=λl C=>by
 rcases B l C with⟨a,b⟩|⟨a,b⟩<;>omega
end NF
namespace eD
open RowKit Lib AJ Bv Dn NF fO
open EH(NS)
open Bj(Aa)
theorem Iu:(Tryz.prog.info? 24).map (λi=>(i.zero,i.size,i.bytes))=some (some (.slice none 0 0),1,24):=by kernel_rfl
def dL (L:List (List Int))(w:World)(e:Ending)(w':World):Prop:=∃u,e= .returned u/\BL w.heap.size w' u L/\Below w.heap.size w w'
def DI (T:Tw)(i:Nat):List (List Int):=(List.range T.length).map (Et T)++(List.range i).flatMap λi=>(List.range (T.length-(i+1))).map (EG T i)
theorem Nn (T:Tw):∀i,(List.map (λi=>((List.range (T.length-(i+1))).map (EG T i)).length) (List.range i)).sum<=i*T.length
 |0=>by simp
 |i+1=>by
  rw[FB,IM,List.sum_append,Nat.succ_mul];have:=Nn T i;simp only[FC,Jb,List.sum_cons,List.sum_nil,BC,List.length_range]at this ⊢;omega
theorem gM (T:Tw)(hT:Wf T)(hs:Small T)(w:World)(vO vP vC:Value)(hP:Av (λ_=>True) w vO vP vC (AZ T)):
  Calls Tryz.prog 133 #[.agg #[vO,vP,vC]] w (dL (Db T) w):=by
 obtain⟨i0,hi,k3,k4,i9⟩:=Bd Dh;obtain⟨j0,K,f6,h0,g9⟩:=Bd Iu;obtain⟨n,hn⟩:∃n,T.length=n:=⟨_,rfl⟩;have j7:n<=6:=by have:=hs.1;omega
 obtain⟨aO,cO,rfl,_,_⟩:=Cz hP.os;obtain⟨aP,cP,rfl,_,_⟩:=Cz hP.ps;obtain⟨aC,cC,rfl,_,_⟩:=Cz hP.cs;rw[Jv,Ud,Ue,hn]at hP ⊢;obtain⟨B0,e5⟩:∃B0,w.heap.size=B0:=⟨_,rfl⟩;obtain⟨B,d3⟩:∃B,B=w.alloc (.cells #[.slice aO n cO,.slice aP n cP,.slice aC n cC] 28):=⟨_,rfl⟩;have c9:Below w.heap.size w B:=by rw[d3];exact AY.alloc AV _
 have j5:B.heap.size=B0+1:=by rw[d3,<-e5];simp
 have g4:B.heap[B0]?=some (.cells #[.slice aO n cO,.slice aP n cP,.slice aC n cC] 28 (0,0)):=by rw[d3,<-e5];exact Aj _ _
 have HX:=AB (λ(W:World) (J:Below B.heap.size B W)=>And.intro (Aa ((J.block B0 (by omega)).trans g4)).1 (And.intro (show B0<W.heap.size by have:=J.size;omega) ((hP.keep (AO c9)).keep (AO (S:=λ_=>True) J))));have HB:=AB (λ(W:World) (J:Below B.heap.size B W)=>c9.trans (J.mono c9.size));have Y:=AB hn;have HS:=AB hs;have HT:=AB hT;have f7:=AB (λ(a:Option Addr) (c:Nat) (v:List Nat) (hl:v.length=n) (h6:∀x∈v,x<=6) (W:World) (hv:AP (λ_=>True) W (.slice a n c) (ints v))=>qo a n c v hl (by omega) (λx hx=>by have:=h6 x hx;omega) W hv);have j2:=AB (show w.heap.size<=B.heap.size from c9.size);have j3:=AB (BL.lit B);have h7:=AB (show Below B.heap.size B (B.alloc (.cells #[] 24)) from AY.alloc AV _);clear hP c9 j5 g4 hT hs;go_enter Tryz.func133,Tryz.ntmps133;go_upto_region 1 with fail;rw[<-d3];obtain⟨⟨p0,p1,p2⟩,a8,-⟩:=HX.AA B AY;clear d3 e5 hn;go_wp2_with fail;go_loopw [3,5] (λov iv wr=>∃i:Nat,i<=n/\iv= .int .i64 (i:Int)/\Hid (BL B.heap.size wr ov ((List.range i).map (Et T)))/\Hid (Below B.heap.size B wr)) (λ_ iv _=>n-(intOf iv).toNat);case atStart=>exact⟨0,AX _,rfl,j3,h7⟩
 case round=>
  clear p0 p1 p2 a8;obtain⟨i,i8,rfl,U,I⟩:=hrel;by_cases b1:i<n
  .obtain⟨L,hL⟩:∃L,T[i]?=some L:=⟨_,AU (by rw[Y.AA];exact b1)⟩;have k5:=HS.AA.2 L (Af hL);obtain⟨o,ho⟩:∃o,L.o=o:=⟨_,rfl⟩;rw[ho]at k5;have a7:=AB b1;have z:=AB (And.intro hL ho);have l8:(i:Int)<(n:Int):=by omega
   have m4:(0:Int)<=(i:Int):=by omega
   have i5:IntKind.i64.wrap ((i:Int)+1)=(i:Int)+1:=Ac _ (by omega);rename World=>C;have l:=AB I.AA;have HQ:=AB (λ(W:World) (J:Below C.heap.size C W)=>show∃bO oO bP oP i4 b Z,aO=some ⟨bO,oO,none⟩/\aP=some ⟨bP,oP,none⟩/\bO<W.heap.size/\bP<W.heap.size/\W.cell? ⟨bO,oO+i,none⟩=some (.int .i64 (o:Int))/\W.cell? ⟨bP,oP+i,none⟩=some (.slice b n Z)/\AP (λ_=>True) W (.slice b n Z) (ints (pad (i+1) L.w))/\i4=0 from by
    obtain⟨-, -, hv⟩:=HX.AA W (l.AA.trans (J.mono l.AA.size));have g1:=NQ T i L hL;rw[ho]at g1;obtain⟨bO,oO,u1,O,_,V,X,rfl⟩:=Ce hv.os g1;obtain⟨bP,oP,u2,e2,_,l2,s,R⟩:=Ce hv.ps (TM T i L hL);obtain⟨b,Z,rfl,_,_⟩:=Cz R;have e3:(ints (pad (i+1) L.w)).length=n:=by
     have:=(GG HT.AA hL).1;rw[<-Y.AA];simp only[ints,BC,BS];omega
    rw[e3]at s R;exact⟨bO,oO,bP,oP,0,b,Z,O,e2,V,l2,X,s,R,rfl⟩)
   have d7:=AB (show Own C.heap.size (C.alloc (.cells #[] 2)) (.slice (some ⟨C.heap.size,0,none⟩) 0 0) (List.replicate 0 ((i:Int)+1)) from DL (base:=C.heap.size) (e:=2) (size:=1) C #[] 0 AV (AX _) rfl);have j4:=AB (show Below C.heap.size C (C.alloc (.cells #[] 2)) from AY.alloc AV _);obtain⟨bO,oO,bP,oP,_,_,_,rfl,rfl,_⟩:=HQ.AA C AY;have HC:=AB (λ(W:World) (J:Below C.heap.size C W)=>And.intro (HX.AA W (l.AA.trans (J.mono l.AA.size))).1 (And.intro (HX.AA W (l.AA.trans (J.mono l.AA.size))).2.1 (show bO<W.heap.size/\bP<W.heap.size/\W.cell? ⟨bO,oO+i,none⟩=some (.int .i64 (o:Int))/\∃b Z,W.cell? ⟨bP,oP+i,none⟩=some (.slice b n Z)/\AP (λ_=>True) W (.slice b n Z) (ints (pad (i+1) L.w)) from by
    obtain⟨_,_,_,_,_,b,Z,O,e2,V,l2,X,s,R,_⟩:=HQ.AA W J;injection O with O;injection O with O Vv;injection e2 with e2;injection e2 with e2 e2';subst O Vv e2 e2';exact⟨V,l2,X,b,Z,s,R⟩)))
   clear hL ho b1 I;go_wp2_with fail;go_loopw [6,7] (λrv qv wr=>∃(q:Nat) (g c:Nat),q<=o/\qv= .int .i64 (q:Int)/\rv= .slice (some ⟨g,0,none⟩) q c/\Hid (Own C.heap.size wr rv (List.replicate q ((i:Int)+1)))/\Hid (Below C.heap.size C wr)) (λ_ qv _=>o-(intOf qv).toNat);case atStart=>exact⟨0,_,_,AX _,rfl,rfl,d7,j4⟩
   case round=>
    obtain⟨q,g,c,k0,rfl,rfl,hR,d4⟩:=hrel;obtain⟨⟨p0,p1,p2⟩,a8,V,l2,X,b,Z,s,R⟩:=HC.AA wr d4.AA;by_cases f1:q<o
    .have j9:(q:Int)<(o:Int):=by omega
     have D:=hR.AA;unfold Own at D;rw[Bp]at D;have HH:=AB D;have d5:=AB f1;have b2:=AB d4.AA;clear hR f1 R;go_wp2_with (at_builtin;(refine DR _ rfl _ _ 24 rfl C.heap.size 2 i0 (.int .i64 0) 1 8 Tryz.underlying24 hi k3 k4 i9 rfl (by decide) _ _ _ rfl (D.alloc _) ⟨wr.heap.size,0,none⟩ 1 1 [.int .i64 ((i:Int)+1)] rfl rfl ?c1 ?c2 ?c3 ?c4 ?c5 ?_));case c1=>
      intro j u K
      match j,K with
      |0,K=>simp at K;subst K;simp[Addr.add]
     case c2=>intro u d;simp at d;subst d;rfl
     case c3=>have:=d5.AA;unfold maxLen;omega
     case c4=>have:=d5.AA;omega
     case c5=>have:=b2.AA.size;simp;omega
     .intro v' w2 a5 a0 _;obtain⟨g2,c2,rfl,_,_⟩:=World.ownsRow.form a5 (by omega);have k6:=AB (show Own C.heap.size w2 (.slice (some ⟨g2,0,none⟩) (q+1) c2) (List.replicate (q+1) ((i:Int)+1)) from by
       unfold Own;rw[Bp,IK];simpa[vals]using a5)
      have i1:=AB (show Below C.heap.size C w2 from(b2.AA.alloc (by have:=b2.AA.size;omega) _).grown a0 (by simp;have:=b2.AA.size;omega) (λg hg=>(Aq D g hg).1));clear a5 a0 D d4 X s V l2 p0 p1 p2 a8;go_wp2_with fail;go_roundw;case rel=>exact⟨q+1,g2,c2,d5.AA,by go_num,rfl,k6,i1⟩
      case measure=>have:=d5.AA;simp[intOf];omega
    .obtain rfl:q=o:=by omega
     have j9:¬(q:Int)<(q:Int):=by omega
     have b6:=AB (f7.AA b Z (pad (i+1) L.w) (by rw[BS,<-Y.AA];have:=(GG HT.AA z.AA.1).1;omega) (LB HT.AA HS.AA z.AA.1).1 wr R);obtain⟨r1,r2,r3⟩:=Nz HT.AA HS.AA (GG HT.AA z.AA.1).1 (LB HT.AA HS.AA z.AA.1).1;have a4:=AB (And.intro r1 (And.intro (Qs (by rw[Y.AA];omega) r2) r3));have D:=hR.AA;unfold Own at D;rw[Bp]at D;have f5:=AB D;have b2:=AB d4.AA;have g7:=AB (show Et T i=List.replicate q ((i:Int)+1)++CQ (Bg 0 (pad (i+1) L.w)) by rw[Uv z.AA.1,z.AA.2]);obtain⟨F,d0⟩:∃F,Bg 0 (pad (i+1) L.w)=F:=⟨_,rfl⟩;rw[d0]at b6 a4 g7;clear r1 r2 r3 D hR d4 R k0 f1 d0;go_wp2_with (first|(go_at_call 190;refine b6.AA.mono ?_;rintro e w3 ⟨v1,rfl,b0,b4⟩;obtain⟨a1,c1,rfl,_,_⟩:=Cz b0.sl;obtain⟨m1,b5⟩:∃m,F.length=m:=⟨_,rfl⟩;have b9:=AB (Xy a1 m1 c1 F b5 (by have:=a4.AA.1;omega) a4.AA.2.1 w3 (by rw[<-b5];exact b0.sl.mono λ_ _=>trivial));rw[b5];have c8:=AB (b2.AA.trans (b4.mono b2.AA.size));have f4:=AB (Aw f5.AA (S:=λ_=>True) (AO b4) (λ_ _=>trivial));clear b0 b4)|(go_at_call 189;refine b9.AA.mono ?_;rintro e w4 ⟨v2,rfl,b3,b7⟩;obtain⟨a2,c2,rfl,_,_⟩:=Cz b3.sl;obtain⟨Q,a6⟩:∃m,(CQ F).length=m:=⟨_,rfl⟩;have e6:=AB (show AP (λ_=>True) w4 (.slice a2 Q c2) (CQ F) by rw[<-a6];exact b3.sl.mono λ_ _=>trivial);rw[a6];have d2:=AB (show(CQ F).length=Q/\Q<=36 from⟨a6,by have:=a4.AA.2.2;omega⟩);have b8:=AB (c8.AA.trans (b7.mono c8.AA.size));have c0:=AB (Aw f4.AA (S:=λ_=>True) (AO b7) (λ_ _=>trivial));clear b3 b7 a6)|(at_builtin;refine NS rfl _ _ rfl C.heap.size g q c Q c2 (List.replicate q ((i:Int)+1)) (CQ F) a2 rfl c0.AA rfl e6.AA (by have:=d2.AA.2;omega) b8.AA.size ?_));intro g5 c5 p d1 c6;have c7:=AB (show Below C.heap.size C p from b8.AA.grown c6 b8.AA.size (by intro k hk;cases hk;exact(Aq c0.AA g rfl).1));have f2:=AB (show Own B.heap.size p (.slice (some ⟨g5,0,none⟩) (q+Q) c5) (Et T i) from by
      rw[g7.AA];have h:Own C.heap.size p (.slice (some ⟨g5,0,none⟩) (q+Q) c5) (List.replicate q ((i:Int)+1)++CQ F):=by
       unfold Own;rw[Bc,Bp,d2.AA.1];simpa[vals]using d1
      exact h.mono l.AA.size)
     obtain⟨us,D,h2,h4⟩:=U.AA.keep c7.AA;rw[BC,List.length_range]at D;have HU:=AB (And.intro h2 h4);have H1:=AB D;have a3:=AB (l.AA.trans (c7.AA.mono l.AA.size));clear d1 c6 h2 h4 U p0 p1 p2 a8 V l2 X s b6 b9;go_wp2_with (at_builtin;(refine DR _ rfl _ _ 25 rfl B.heap.size 24 j0 (.slice none 0 0) 1 24 Tryz.underlying25 K f6 h0 g9 rfl (by decide) _ _ _ rfl (D.alloc _) ⟨p.heap.size,0,none⟩ 1 1 [.slice (some ⟨g5,0,none⟩) (q+Q) c5] rfl rfl ?c1 ?c2 ?c3 ?c4 ?c5 ?_));case c1=>
      intro j u K
      match j,K with
      |0,K=>simp at K;subst K;simp[Addr.add]
     case c2=>intro u d;simp at d;subst d;rfl
     case c3=>have:=a7.AA;unfold maxLen;omega
     case c4=>have:=a7.AA;omega
     case c5=>have:=a3.AA.size;simp;omega
     .intro v' w6 a5 a0 _;have d9:=AB (show BL B.heap.size w6 v' ((List.range (i+1)).map (Et T)) from by
       rw[FB,IM];exact BL.push (w:=p.alloc _) (us:=us) (by rw[BC,List.length_range]) (D.alloc _) HU.AA.1 (λk r u hr d=>(HU.AA.2 k r u hr d).alloc _) (f2.AA.alloc _) a5 a0)
      have e9:=AB (show Below B.heap.size B w6 from(a3.AA.alloc (by have:=a3.AA.size;omega) _).grown a0 (by simp;have:=a3.AA.size;omega) (λg hg=>(Aq H1.AA g hg).1));clear a5 a0 D;go_wp2_with fail;go_roundw;case rel=>exact⟨i+1,a7.AA,by go_num,d9,e9⟩
      case measure=>have:=a7.AA;simp[intOf];omega
  .obtain rfl:i=n:=by omega
   have k7:¬(i:Int)<(i:Int):=by omega
   have g3:=AB (show BL B.heap.size wr u3 (DI T 0) from by
    have h:=U.AA;rwa[show(List.range i).map (Et T)=DI T 0 by unfold DI;rw[Y.AA];simp]at h)
   obtain⟨⟨p0,p1,p2⟩,a8,-⟩:=HX.AA wr I.AA;clear U;go_wp2_with fail;go_loopw [3,8] (λov iv wr=>∃j:Nat,j<=i/\iv= .int .i64 (j:Int)/\Hid (BL B.heap.size wr ov (DI T j))/\Hid (Below B.heap.size B wr)) (λ_ iv _=>i-(intOf iv).toNat);case atStart=>exact⟨0,AX _,rfl,g3,I⟩
   case round=>
    clear p0 p1 p2 a8 g3 I i8;obtain⟨j,l9,rfl,U,I⟩:=hrel;by_cases b1:j<i
    .obtain⟨L,hL⟩:∃L,T[j]?=some L:=⟨_,AU (by rw[Y.AA];exact b1)⟩;have k9:(j:Int)<(i:Int):=by omega
     have l6:(0:Int)<=(j:Int):=by omega
     have a7:=AB b1;have z:=AB hL;have e0:=(GG HT.AA hL).2.1;obtain⟨mC,e4⟩:∃m,L.c.length=m:=⟨_,rfl⟩;rw[e4,Y.AA]at e0;have f8:=AB e4;have d6:=AB e0;have HQ:=AB (λ(W:World) (J:Below B.heap.size B W)=>show∃bC oC aW cW,aC=some ⟨bC,oC,none⟩/\bC<W.heap.size/\W.cell? ⟨bC,oC+j,none⟩=some (.slice aW mC cW)/\AQ (λ_=>True) W (.slice aW mC cW) (L.c.map λy=>ints (pad (j+1) y)) from by
      obtain⟨-, -, hv⟩:=HX.AA W J;obtain⟨bC,oC,u1,O,_,V,X,q1⟩:=Ce hv.cs (TN T j L z.AA);obtain⟨aW,cW,rfl,_,_⟩:=Cz q1;rw[BC,f8.AA]at X q1;exact⟨bC,oC,aW,cW,O,V,X,q1⟩)
     obtain⟨bC,oC,aW,cW,rfl,_,_,_⟩:=HQ.AA wr I.AA;have HC:=AB (λ(W:World) (J:Below B.heap.size B W)=>And.intro (HX.AA W J).1 (And.intro (HX.AA W J).2.1 (show bC<W.heap.size/\∃aW cW,W.cell? ⟨bC,oC+j,none⟩=some (.slice aW mC cW)/\AQ (λ_=>True) W (.slice aW mC cW) (L.c.map λy=>ints (pad (j+1) y)) from by
      obtain⟨_,_,aW,cW,O,V,X,q1⟩:=HQ.AA W J;injection O with O;injection O with O Vv;subst O Vv;exact⟨V,aW,cW,X,q1⟩)))
     have i5:IntKind.i64.wrap ((j:Int)+1)=(j:Int)+1:=Ac _ (by omega);have d7:=AB (show BL B.heap.size wr u3 (DI T j++(List.range 0).map (EG T j)) by simpa using U.AA);have l:=AB I.AA;clear hL e4 e0 b1 U I;go_wp2_with fail;go_loopw [3,9] (λov kv wr=>∃k:Nat,k<=mC/\kv= .int .i64 ((j:Int)+1+(k:Int))/\Hid (BL B.heap.size wr ov (DI T j++(List.range k).map (EG T j)))/\Hid (Below B.heap.size B wr)) (λ_ kv _=>i-(intOf kv).toNat);case atStart=>exact⟨0,AX _,by simp,d7,l⟩
     case round=>
      clear d7 l;obtain⟨k,m0,rfl,U,I⟩:=hrel;rename World=>wi;by_cases e7:k<mC
      .obtain⟨y,hy⟩:∃y,L.c[k]?=some y:=⟨_,AU (by rw[f8.AA];exact e7)⟩;obtain⟨⟨p0,p1,p2⟩,a8,V,aW,cW,X,q1⟩:=HC.AA wi I.AA;have g8:=(GG HT.AA z.AA).2.2 y (Af hy);have h6:=(LB HT.AA HS.AA z.AA).2 y (Af hy);obtain⟨bW,oW,uw,rfl,_,l2,s,R⟩:=Ce q1 (show(L.c.map λy=>ints (pad (j+1) y))[k]?=some (ints (pad (j+1) y)) by rw[Bh,hy];rfl);obtain⟨b,Z,rfl,_,_⟩:=Cz R;have e8:(pad (j+1) y).length=i:=by rw[BS,<-Y.AA];omega
       have e3:(ints (pad (j+1) y)).length=i:=by simp only[ints,BC];exact e8
       rw[e3]at s R;obtain⟨r1,r2,r3⟩:=Nz HT.AA HS.AA g8 h6;have a4:=AB (And.intro r1 (And.intro (Qs (by rw[Y.AA];omega) r2) r3));have g0:=AB (show EG T j k=[-(j:Int)-1,(j:Int)+1+(k:Int)+1,(j:Int)+1]++CQ (Bg 0 (pad (j+1) y)) from Uw z.AA hy);obtain⟨wl,d8⟩:∃wl,wl=wi.alloc (.cells #[.int .i64 (-(j:Int)-1),.int .i64 ((j:Int)+1+(k:Int)+1),.int .i64 ((j:Int)+1)] 2):=⟨_,rfl⟩;have a9:Below wi.heap.size wi wl:=by rw[d8];exact AY.alloc AV _
       have b6:=AB (f7.AA b Z (pad (j+1) y) e8 h6 wl (R.keep (AO a9)));obtain⟨g,hg⟩:∃g,wi.heap.size=g:=⟨_,rfl⟩;have f5:=AB (show wl.ownsRow g 2 1 (.slice (some ⟨g,0,none⟩) 3 3) 3 (vals [-(j:Int)-1,(j:Int)+1+(k:Int)+1,(j:Int)+1]) by
        rw[d8,<-hg];exact JD (base:=wi.heap.size) (e:=2) (size:=1) wi #[.int .i64 (-(j:Int)-1),.int .i64 ((j:Int)+1+(k:Int)+1),.int .i64 ((j:Int)+1)] 3 AV (by unfold maxLen;omega) rfl)
       have g6:=AB a9;have HG:=AB hg;have f3:=AB I.AA;obtain⟨F,d0⟩:∃F,Bg 0 (pad (j+1) y)=F:=⟨_,rfl⟩;rw[d0]at b6 a4 g0;have i3:=(HC.AA wl (I.AA.trans (a9.mono I.AA.size)));have h9:=((AO (S:=λ_=>True) a9).cell trivial V).trans X;have h8:=((AO (S:=λ_=>True) a9).cell trivial l2).trans s;have j1:=Ah V a9.size;have j8:=Ah l2 a9.size;obtain⟨⟨t0,t1,t2⟩,NP,-⟩:=i3;have l7:(j:Int)+1+(k:Int)<(i:Int):=by have:=d6.AA;omega
       have k8:IntKind.i64.wrap (-(j:Int))= -(j:Int):=Ac _ (by omega);have m3:IntKind.i64.wrap (-(j:Int)-1)= -(j:Int)-1:=Ac _ (by omega);have i7:IntKind.i64.wrap ((j:Int)+1+(k:Int)+1)=(j:Int)+1+(k:Int)+1:=Ac _ (by omega);have l4:IntKind.i64.wrap ((j:Int)+1+(k:Int)-(j:Int))=(k:Int)+1:=(Ac _ (by omega)).trans (by omega);have m6:IntKind.i64.wrap ((k:Int)+1-1)=(k:Int):=(Ac _ (by omega)).trans (by omega);have l0:IntKind.i64.wrap (k:Int)=(k:Int):=Ac _ (by omega);have l3:(0:Int)<=(k:Int):=by omega
       have m5:(k:Int)<(mC:Int):=by omega
       have f0:=AB e7;clear hy g8 h6 q1 R e3 r1 r2 r3 d0 e8 I e7 a9 X s V l2 p0 p1 p2 a8;go_upto_region 19 with fail;rw[<-d8];clear d8 hg;go_wp2_with (first|(go_at_call 190;refine b6.AA.mono ?_;rintro e w3 ⟨v1,rfl,b0,b4⟩;obtain⟨a1,c1,rfl,_,_⟩:=Cz b0.sl;obtain⟨m1,b5⟩:∃m,F.length=m:=⟨_,rfl⟩;have b9:=AB (Xy a1 m1 c1 F b5 (by have:=a4.AA.1;omega) a4.AA.2.1 w3 (by rw[<-b5];exact b0.sl.mono λ_ _=>trivial));rw[b5];have c8:=AB (g6.AA.trans (b4.mono g6.AA.size));have f4:=AB (Aw f5.AA (S:=λ_=>True) (AO b4) (λ_ _=>trivial));clear b0 b4)|(go_at_call 189;refine b9.AA.mono ?_;rintro e w4 ⟨v2,rfl,b3,b7⟩;obtain⟨a2,c2,rfl,_,_⟩:=Cz b3.sl;obtain⟨Q,a6⟩:∃m,(CQ F).length=m:=⟨_,rfl⟩;have e6:=AB (show AP (λ_=>True) w4 (.slice a2 Q c2) (CQ F) by rw[<-a6];exact b3.sl.mono λ_ _=>trivial);rw[a6];have d2:=AB (show(CQ F).length=Q/\Q<=36 from⟨a6,by have:=a4.AA.2.2;omega⟩);have b8:=AB (c8.AA.trans (b7.mono c8.AA.size));have c0:=AB (Aw f4.AA (S:=λ_=>True) (AO b7) (λ_ _=>trivial));clear b3 b7 a6)|(at_builtin;refine NS rfl _ _ rfl g g 3 3 Q c2 [-(j:Int)-1,(j:Int)+1+(k:Int)+1,(j:Int)+1] (CQ F) a2 rfl c0.AA rfl e6.AA (by have:=d2.AA.2;omega) (Ci (Aq c0.AA g rfl).2) ?_));intro g5 c5 p d1 c6;have i2:=AB (show B.heap.size<=g by rw[<-HG.AA];exact f3.AA.size);have c7:=AB (show Below wi.heap.size wi p from b8.AA.grown c6 b8.AA.size (by intro k hk;cases hk;rw[HG.AA];exact Al _));have f2:=AB (show Own B.heap.size p (.slice (some ⟨g5,0,none⟩) (3+Q) c5) (EG T j k) from by
        rw[g0.AA];have h:Own g p (.slice (some ⟨g5,0,none⟩) (3+Q) c5) ([-(j:Int)-1,(j:Int)+1+(k:Int)+1,(j:Int)+1]++CQ F):=by
         unfold Own;rw[Bc,d2.AA.1];simpa[vals]using d1
        exact h.mono i2.AA)
       obtain⟨us,D,h2,h4⟩:=U.AA.keep c7.AA;obtain⟨N,hN⟩:∃N,(DI T j++(List.range k).map (EG T j)).length=N:=⟨_,rfl⟩;rw[hN]at D;have f9:=AB (show N<=1000 by
        rw[<-hN,Bc,BC,List.length_range,DI,Bc,BC,List.length_range,Y.AA,List.length_flatMap];have h5:=Nn T j;rw[Y.AA]at h5;have h6:j*i<=6*6:=Nat.mul_le_mul (by have:=a7.AA;omega) j7;have:=f0.AA;have:=d6.AA;omega)
       have h3:=AB hN;have HU:=AB (And.intro h2 h4);have H1:=AB D;have a3:=AB (f3.AA.trans (c7.AA.mono f3.AA.size));clear d1 c6 h2 h4 U t0 t1 t2 NP j1 j8 h9 h8 b6 b9 hN;go_wp2_with (at_builtin;(refine DR _ rfl _ _ 25 rfl B.heap.size 24 j0 (.slice none 0 0) 1 24 Tryz.underlying25 K f6 h0 g9 rfl (by decide) _ _ _ rfl (D.alloc _) ⟨p.heap.size,0,none⟩ 1 1 [.slice (some ⟨g5,0,none⟩) (3+Q) c5] rfl rfl ?c1 ?c2 ?c3 ?c4 ?c5 ?_));case c1=>
        intro j u K
        match j,K with
        |0,K=>simp at K;subst K;simp[Addr.add]
       case c2=>intro u d;simp at d;subst d;rfl
       case c3=>have:=f9.AA;unfold maxLen;omega
       case c4=>have:=f9.AA;omega
       case c5=>have:=a3.AA.size;simp;omega
       .intro v' w6 a5 a0 _;have d9:=AB (show BL B.heap.size w6 v' (DI T j++(List.range (k+1)).map (EG T j)) from by
         rw[FB,IM,<-Dy];exact BL.push (w:=p.alloc _) (us:=us) h3.AA (D.alloc _) HU.AA.1 (λk r u hr d=>(HU.AA.2 k r u hr d).alloc _) (f2.AA.alloc _) a5 a0)
        have e9:=AB (show Below B.heap.size B w6 from(a3.AA.alloc (by have:=a3.AA.size;omega) _).grown a0 (by simp;have:=a3.AA.size;omega) (λg hg=>(Aq H1.AA g hg).1));clear a5 a0 D;have l5:IntKind.i64.wrap ((j:Int)+1+(k:Int)+1)=(j:Int)+1+(k:Int)+1:=i7;go_wp2_with fail;go_roundw;case rel=>exact⟨k+1,f0.AA,by simp;omega,d9,e9⟩
        case measure=>have:=f0.AA;simp[intOf];omega
      .obtain rfl:k=mC:=by omega
       have i6:¬(j:Int)+1+(k:Int)<(i:Int):=by have:=d6.AA;omega
       have j6:=AB (show BL B.heap.size wi u3 (DI T (j+1)) from by
        have h:=U.AA;have e:DI T (j+1)=DI T j++(List.range k).map (EG T j):=by
         unfold DI;rw[FB,List.flatMap_append,<-Dy];simp only[IW,List.flatMap_nil,FP];rw[show T.length-(j+1)=k by rw[Y.AA];have:=d6.AA;omega]
        rw[e];exact h)
       clear U;go_wp2_with fail;go_roundw;case rel=>exact⟨j+1,a7.AA,by go_num,j6,I⟩
       case measure=>have:=a7.AA;simp[intOf];omega
    .obtain rfl:j=i:=by omega
     have i6:¬(j:Int)<(j:Int):=by omega
     have HF:=AB (show dL (Db T) w (.returned u3) wr from⟨_,rfl,by have h:=U.AA;rw[show DI T j=Db T by unfold DI Db;rw[Y.AA]]at h;exact h.mono j2.AA,HB.AA wr I.AA⟩);clear U I;go_wp2_with fail;go_ret;exact HF.AA
end eD
end Go.Proofs.YtgjadpmbnejaoaaGreat

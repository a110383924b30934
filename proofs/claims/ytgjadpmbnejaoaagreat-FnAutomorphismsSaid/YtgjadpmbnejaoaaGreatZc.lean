import Derived.Lib.ItoaNum
import Derived.Lib.ParseIntB
import Derived.Lib.Strings
import Derived.Deep.DrawnRows
import Derived.Test.YtgjadpmbnejaoaaGreatZb
/-
  Lemmas for the law FnAutomorphisms, in short spelling.
-/
set_option linter.unusedVariables false
set_option linter.unusedSimpArgs false
set_option maxRecDepth 100000
set_option maxHeartbeats 40000000
namespace Go.Proofs.YtgjadpmbnejaoaaGreat
namespace AJ
theorem En {T:Tw}(hT:Wf T){i:Nat}{L:Lv}(B:T[i]?=some L):Wf (T.drop (i+1))/\L.c.length=T.length-(i+1)/\(∀y∈L.c,El (T.drop (i+1)) y)/\El (T.drop (i+1)) L.w/\2<=L.o:=by
 have hi:i<T.length:=(Ak.1 B).1;have e:T.drop i=L::T.drop (i+1):=by rw[Dp hi,(Ak.1 B).2]
 have:=DJ hT i;rw[e]at this;exact⟨this.2.2.2.2,by rw[this.2.2.1];simp,this.2.2.2.1,this.2.1,this.1⟩
theorem EB {T:Tw}{i:Nat}{L:Lv}(B:T[i]?=some L):T.drop i=L::T.drop (i+1):=by
 have hi:i<T.length:=(Ak.1 B).1;rw[Dp hi,(Ak.1 B).2]
def tg:Tw->List Nat->List Nat
 |L::T,a::r=>(if a+1=L.o then 0 else a+1)::BO (mul T) (if a+1=L.o then L.w else AJ.one T) L.c r
 |_,_=>[]
theorem Pw {L:Lv}{T:Tw}(h:Wf (L::T))(hg:Good T){x:List Nat}(F:El (L::T) x):tg (L::T) x=mul (L::T) x (unit (L::T) 0):=by
 cases x with
 |nil=>exact absurd F (by simp[El])
 |cons a r=>
  obtain⟨J,I,K,B,D⟩:=h;have G:=BA D hg;have ha:=F.1;rw[PE,mul_cons,tg,show it (img T L.c) 1 r=img T L.c r from rfl,G.eR (KZ D B r)];have hi:img T L.c r=ev (mul T) (AJ.one T) L.c r:=G.IJ B r;by_cases C:a+1=L.o
  .rw[BQ C,BQ C,BQ (by omega),G.BO B r I,hi,show a+1-L.o=0 by omega]
  .rw[BF C,BF C,BF (by omega),G.BO B r G.me,hi,G.eL (G.ev B r)]
def vv (T:Tw)(s:Nat)(u e f:List Nat)(j k:Nat):List Nat:=if j<s then u++e else u++Fs (mul (T.drop s)) e (AJ.one (T.drop s)) (Az (T.drop s)) f (j-s) k
theorem WP (T:Tw):(Az T).length=T.length:=by simp[Az]
theorem Gt {T:Tw}(h:Wf T):∀c∈Az T,El T c:=by intro c B;obtain⟨j,_,rfl⟩:=BX.1 B;exact Ip h j
theorem jc {T:Tw}{j:Nat}(h:j<T.length):(Az T).getD j (AJ.one T)=unit T j:=by
 rw[BG];simp[Az,h]
theorem lh (T:Tw)(s:Nat)(u e f:List Nat):vv T s u e f 0 0=u++e:=by
 unfold vv;split
 .rfl
 .rw[Nat.zero_sub,MK]
theorem qK (T:Tw)(s:Nat)(u e f:List Nat)(j:Nat)(h:j<s):vv T s u e f (j+1) 0=vv T s u e f j 0:=by
 unfold vv;rw[BQ h];split
 .rfl
 .rw[show j+1-s=0 by omega,MK]
theorem U1 {T:Tw}(h:Wf T){e:List Nat}(B:El T e)(f:List Nat)(j k:Nat):El T (Fs (mul T) e (AJ.one T) (Az T) f j k):=
 Nq (El T) (mul T) (λ_ _ p q=>Bz h p q) _ _ _ _ B (CR h) (Gt h) j k
theorem uZ {T:Tw}(h:Wf T){s:Nat}{u e:List Nat}(B:u.length=s)(C:El (T.drop s) e)(f:List Nat)(j k:Nat):El (T.drop s) ((vv T s u e f j k).drop s):=by
 unfold vv;split
 .rw[List.drop_left' B];exact C
 .rw[List.drop_left' B];exact U1 (DJ h s) C f _ k
theorem jd {T:Tw}(h:Wf T){s:Nat}(D:s<=T.length){u e:List Nat}(B:u.length=s)(C:El (T.drop s) e)(f:List Nat)(j k:Nat):(vv T s u e f j k).length=T.length:=by
 unfold vv;split
 .rw[Bc,Ad C,B,Cv];omega
 .rw[Bc,Ad (U1 (DJ h s) C f _ k),B,Cv];omega
theorem qL {T:Tw}(h:Wf T){s:Nat}(hg:Good (T.drop s)){u e:List Nat}(J:u.length=s)(O:El (T.drop s) e)(f:List Nat){j:Nat}(R:s<=j)(Q:j<T.length)(k:Nat):
  (vv T s u e f j k).take j++tg (T.drop j) ((vv T s u e f j k).drop j)=vv T s u e f j (k+1):=by
 have C:=DJ h s;have F:j-s<(T.drop s).length:=by simp;omega
 obtain⟨t,rfl⟩:∃t,j=s+t:=⟨j-s,by omega⟩;rw[Nat.add_sub_cancel_left]at F;unfold vv;rw[BF (by omega),BF (by omega),Nat.add_sub_cancel_left,Na,jc F];have B:=U1 C O f t k;generalize Fs (mul (T.drop s)) e (AJ.one (T.drop s)) (Az (T.drop s)) f t k=v at B ⊢;have I:(T.drop s).drop t=T.drop (s+t):=by rw[EK]
 have K:T.drop (s+t)=T[s+t]::T.drop (s+t+1):=Dp Q;have D:=Gu B t;rw[I]at D;rw[show unit (T.drop s) t=pad t (unit ((T.drop s).drop t) 0) from(Qv (T.drop s) t 0 (by omega)).symm,RF C t B (Ip (DJ C t) 0) (by omega),I];have L:(u++v).take (s+t)=u++v.take t:=by rw[<-J,List.take_length_add_append]
 have e2:(u++v).drop (s+t)=v.drop t:=by rw[<-J,List.drop_length_add_append]
 have N:Good (T.drop (s+t+1)):=by have:=KQ hg (t+1);rwa[EK,show s+(t+1)=s+t+1 by omega]at this
 rw[L,e2,Dy];rw[K]at D ⊢;rw[Pw (by rw[<-K];exact DJ h (s+t)) N D]
theorem qM {T:Tw}{s:Nat}{u e f:List Nat}{j a:Nat}(C:s<=j)(B:j<T.length)(ha:f[j-s]?=some a):vv T s u e f j a=vv T s u e f (j+1) 0:=by
 unfold vv;rw[BF (by omega),BF (by omega),Nb _ _ _ _ _ _ a (by rw[WP];simp;omega) ha,show j+1-s=j-s+1 by omega]
theorem sO {T:Tw}(h:Wf T){s:Nat}(F:s<=T.length)(hg:Good (T.drop s)){u e f:List Nat}(D:El (T.drop s) e)(C:El (T.drop s) f):vv T s u e f T.length 0=u++mul (T.drop s) e f:=by
 have B:=DJ h s;have G:=BA B hg;unfold vv;rw[BF (by omega),Np _ _ _ _ _ _ (by rw[WP];simp) (by rw[Ad C];simp),G.BO (Gt B) f D,LM B hg C]
end AJ
namespace Km
open AJ
def C1 (L:Lv)(B:Tw)(j:Nat):Prop:=npow (mul B) (AJ.one B) (L.c.getD j (AJ.one B)) (B.getD j default).o=img B L.c (pad (j+1) (B.getD j default).w)
def C2 (L:Lv)(B:Tw)(j k:Nat):Prop:=mul B (L.c.getD k (AJ.one B)) (L.c.getD j (AJ.one B))=mul B (L.c.getD j (AJ.one B)) (img B L.c (pad (j+1) ((B.getD j default).c.getD (k-j-1) [])))
def C4 (L:Lv)(B:Tw)(j:Nat):Prop:=mul B L.w (it (img B L.c) L.o (unit B j))=mul B (unit B j) L.w
def C3 (L:Lv)(B:Tw):Prop:=img B L.c L.w=L.w
theorem UK {L:Lv}{B:Tw}(h:Wf (L::B))(hg:AJ.Good B):Ep L B↔(∀j<B.length,C1 L B j)/\(∀j<B.length,∀k,j<k->k<B.length->C2 L B j k)/\C3 L B/\∀j<B.length,C4 L B j:=Xj h hg
theorem LJ {a b:List Nat}:ints a=ints b↔a=b:=by
 constructor
 .intro h;exact(List.map_inj_right (λx y e=>Int.ofNat.inj e)).1 h
 .intro h;rw[h]
theorem RG {s:Nat}{a b:List Nat}:pad s a=pad s b↔a=b:=by simp[pad]
theorem GV (s:Nat)(a b:List Nat):decide (ints (pad s a)=ints (pad s b))=decide (a=b):=by
 apply decide_eq_decide.2;rw[LJ,RG]
theorem Xn {B:Tw}(G:CE (El B) (mul B) (AJ.one B))(s:Nat){a c z im:List Nat}(C:El B c)(D:El B z)(hi:El B im)(h:mul B c z=mul B a c):decide (ints (pad s z)=ints (pad s im))=decide (mul B a c=mul B c im):=by
 rw[GV];apply decide_eq_decide.2;constructor
 .intro e;rw[<-e,h]
 .intro e;exact G.Js C D hi (h.trans e)
theorem je {B:Tw}(G:CE (El B) (mul B) (AJ.one B))(s:Nat){a c z im:List Nat}(C:El B c)(D:El B z)(hi:El B im)(h:mul B c z=mul B a c):decide (ints (pad s im)=ints (pad s z))=decide (mul B c im=mul B a c):=by
 rw[GV];apply decide_eq_decide.2;constructor
 .intro e;rw[e,h]
 .intro e;exact G.Js C hi D (e.trans h.symm)
end Km
namespace Val
open AJ
def Bw (x:Int):Bool:=x==2||x==3||x==5||x==7
theorem KR {x:Int}(h:Bw x=true):2<=x/\x<=7:=by
 simp[Bw]at h;omega
def Be (os:List Int)(z:Nat)(v:List Int):Prop:=v.length=os.length/\∀j x o,v[j]?=some x->os[j]?=some o->0<=x/\x<o/\(j<z->x=0)
def Cj:List Int->Int
 |[]=>1
 |o::os=>o*Cj os
structure Valid (P:BZ):Prop where
 n6:P.os.length<=6
 pl:P.ps.length=P.os.length
 cl:P.cs.length=P.os.length
 pr:∀o∈P.os,Bw o=true
 le:Cj P.os<=729
 pv:∀i p,P.ps[i]?=some p->Be P.os (i+1) p
 cv:∀i c,P.cs[i]?=some c->c.length=P.os.length-1-i/\∀y∈c,Be P.os (i+1) y
def Eo (l:List Int):List Nat:=l.map Int.toNat
def Ic:Nat->List Int->List (List Int)->List (List (List Int))->Tw
 |s,o::os,p::ps,c::cs=>⟨o.toNat,Eo (p.drop (s+1)),c.map λy=>Eo (y.drop (s+1))⟩::Ic (s+1) os ps cs
 |_,_,_,_=>[]
theorem WQ (s:Nat)(os:List Int)(B:List (List Int))(cs:List (List (List Int)))(C:B.length=os.length)(D:cs.length=os.length):(Ic s os B cs).length=os.length:=by
 induction os generalizing s B cs with
 |nil=>cases B<;>cases cs<;>rfl
 |cons o os ih=>cases B with
  |nil=>simp at C
  |cons p B=>cases cs with
   |nil=>simp at D
   |cons c cs=>simp only[Ic,DX];rw[ih (s+1) B cs (by simpa using C) (by simpa using D)]
theorem Yi (s:Nat)(os:List Int)(B:List (List Int))(cs:List (List (List Int)))(C:B.length=os.length)(D:cs.length=os.length)(F:∀o∈os,Bw o=true):(Ic s os B cs).map (λL=>(L.o:Int))=os:=by
 induction os generalizing s B cs with
 |nil=>cases B<;>cases cs<;>rfl
 |cons o os ih=>cases B with
  |nil=>simp at C
  |cons p B=>cases cs with
   |nil=>simp at D
   |cons c cs=>
    simp only[Ic,FC];rw[ih (s+1) B cs (by simpa using C) (by simpa using D) (λx I=>F x (CW _ I))];have:=KR (F o CJ);congr 1;omega
theorem YV {T:Tw}{os:List Int}(hT:T.map (λL=>(L.o:Int))=os){v:List Int}(B:v.length=os.length)(h:∀(j:Nat) (x o:Int),v[j]?=some x->os[j]?=some o->0<=x/\x<o):El T (Eo v):=by
 induction T generalizing os v with
 |nil=>
  simp only[Jb]at hT;subst hT;have:v=[]:=Di B;subst this;trivial
 |cons L T ih=>
  simp only[FC]at hT;subst hT;cases v with
  |nil=>simp at B
  |cons x v=>
   have F:=h 0 x L.o rfl rfl;refine⟨?_,ih rfl (by simpa using B) (λj y o C D=>h (j+1) y o (by simpa using C) (by simpa using D))⟩;show x.toNat<L.o;omega
theorem Tm {v:List Int}(h:∀x∈v,0<=x):ints (Eo v)=v:=by
 induction v with
 |nil=>rfl
 |cons x v ih=>
  have:=h x CJ;simp only[Eo,ints,FC]at ih ⊢;rw[ih (λy B=>h y (CW _ B))];congr 1;exact Int.toNat_of_nonneg this
theorem Xo {C v:List Int}{z:Nat}(h:Be C z v)(L:z<=C.length):ints (pad z (Eo (v.drop z)))=v:=by
 have N:=h.1;have I:∀j,j<z->v[j]?=some 0:=λj B=>by
  have D:v[j]?=some v[j]:=AU (by omega);have J:C[j]?=some C[j]:=AU (by omega);rw[D,((h.2 j _ _ D J).2.2 B)]
 have F:∀x∈v.drop z,0<=x:=λx D=>by
  obtain⟨j,B,rfl⟩:=Ld (Hl D);exact(h.2 j _ _ (AU B) (AU (by omega))).1
 have K:ints (pad z (Eo (v.drop z)))=List.replicate z 0++ints (Eo (v.drop z)):=by simp[ints,pad]
 rw[K,Tm F]
 conv=>rhs;rw[<-List.take_append_drop z v]
 congr 1;apply GN;intro j;rw[Kb,Gg];split
 .next B=>rw[I j B]
 .rfl
theorem Yj {B v:List Int}{s:Nat}(h:Be B (s+1) v){T:Tw}(hT:T.map (λL=>(L.o:Int))=B.drop (s+1)):El T (Eo (v.drop (s+1))):=
 YV hT (by simp[h.1]) (λj x o C D=>by
  rw[Fa]at C D;have:=h.2 _ x o C D;exact⟨this.1,this.2.1⟩)
theorem qN (C:List Int)(s:Nat)(os:List Int)(B:List (List Int))(cs:List (List (List Int)))(J:os=C.drop s)(O:B.length=os.length)(Q:cs.length=os.length)(S:∀o∈os,Bw o=true)
  (W:∀i p,B[i]?=some p->Be C (s+i+1) p) (U:∀i c,cs[i]?=some c->c.length=C.length-1-(s+i)/\∀y∈c,Be C (s+i+1) y):
  Wf (Ic s os B cs)/\Hu s (Ic s os B cs)=B/\Hw s (Ic s os B cs)=cs:=by
 induction os generalizing s B cs with
 |nil=>
  have Z:B=[]:=Di O;have e2:cs=[]:=Di Q;subst Z;subst e2;exact⟨trivial,rfl,rfl⟩
 |cons o os ih=>cases B with
  |nil=>simp at O
  |cons p B=>cases cs with
   |nil=>simp at Q
   |cons c cs=>
    have b:s<C.length:=by
     have:=Ck List.length J;simp at this;omega
    have K:os=C.drop (s+1):=by
     rw[Dp b]at J;exact(List.cons.inj J).2
    have V:∀x∈os,Bw x=true:=λx g=>S x (CW _ g);have N:B.length=os.length:=by simpa using O
    have I:cs.length=os.length:=by simpa using Q
    obtain⟨Y,h,j⟩:=ih (s+1) B cs K N I V (λi q r=>by have:=W (i+1) q (by simpa using r);rwa[show s+(i+1)+1=s+1+i+1 by omega]at this)
     (λi d l=>by have:=U (i+1) d (by simpa using l);rwa[show s+(i+1)+1=s+1+i+1 by omega,show C.length-1-(s+(i+1))=C.length-1-(s+1+i) by omega]at this)
    have hT:(Ic (s+1) os B cs).map (λL=>(L.o:Int))=C.drop (s+1):=by rw[Yi _ _ _ _ N I V,K]
    have R:=W 0 p rfl;have F:=U 0 c rfl;simp only[Iw]at R F;have X:(Ic (s+1) os B cs).length=C.length-(s+1):=by rw[WQ _ _ _ _ N I,K];simp
    refine⟨⟨?_,?_,?_,?_,Y⟩,?_,?_⟩
    .have:=KR (S o CJ);show 2<=o.toNat;omega
    .exact Yj R hT
    .show(c.map _).length=_;rw[BC,F.1,X];omega
    .intro y D;simp only[BX]at D;obtain⟨a,u,rfl⟩:=D;exact Yj (F.2 a u) hT
    .simp only[Ic,Hu];rw[h,Xo R (by omega)]
    .simp only[Ic,Hw];rw[j];congr 1;rw[List.map_map]
     conv=>rhs;rw[<-List.map_id c]
     apply KC;intro y D;exact Xo (F.2 y D) (by omega)
theorem Valid.tower {P:BZ}(h:Valid P):∃T,Wf T/\Small T/\P=AZ T:=by
 obtain⟨K,D,C⟩:=qN P.os 0 P.os P.ps P.cs rfl h.pl h.cl h.pr (λi p F=>by rw[CK];exact h.pv i p F) (λi c N=>by rw[CK];exact h.cv i c N);have B:=Yi 0 P.os P.ps P.cs h.pl h.cl h.pr;refine⟨Ic 0 P.os P.ps P.cs,K,⟨by rw[WQ _ _ _ _ h.pl h.cl];exact h.n6,λL J=>?_⟩,?_⟩
 .have I:(L.o:Int)∈P.os:=by rw[<-B];exact BX.2 ⟨L,J,rfl⟩
  have:=KR (h.pr _ I);omega
 .unfold AZ;rw[B,D,C]
theorem XD {os:List Int}(h:∀o∈os,Bw o=true):1<=Cj os:=by
 induction os with
 |nil=>exact Int.le_refl _
 |cons o os ih=>
  have B:=ih (λx D=>h x (CW _ D));have F:=KR (h o CJ);have C:1*1<=o*Cj os:=Int.mul_le_mul (by omega) B (by omega) (by omega);simpa[Cj]using C
theorem WH (a b:List Int):Cj (a++b)=Cj a*Cj b:=by
 induction a with
 |nil=>simp[Cj]
 |cons o a ih=>simp[Cj,ih,Int.mul_assoc]
theorem Qb {os:List Int}{k:Nat}{o:Int}(h:os[k]?=some o):Cj (os.take (k+1))=Cj (os.take k)*o:=by
 rw[EL,h,WH];simp[Cj]
theorem gH {os:List Int}(h:∀o∈os,Bw o=true)(k:Nat):Cj (os.take k)<=Cj os:=by
 conv=>rhs;rw[<-List.take_append_drop k os,WH]
 have F:=XD (os:=os.take k) (λo B=>h o (La B));have D:=XD (os:=os.drop k) (λo B=>h o (Hl B));have C:Cj (os.take k)*1<=Cj (os.take k)*Cj (os.drop k):=Int.mul_le_mul (Int.le_refl _) D (by omega) (by omega);simpa using C
end Val
namespace Ba
open RowKit AJ Val
theorem map_inj {α β:Type}{f:α->β}(C:∀a b,f a=f b->a=b):∀{l B:List α},l.map f=B.map f->l=B
 |[],[],_=>rfl
 |[],_::_,h=>by simp at h
 |_::_,[],h=>by simp at h
 |a::l,b::B,h=>by
  simp only[FC,MZ]at h;rw[C a b h.1,map_inj C h.2]
theorem WI {n:Nat}{a b:List Nat}(h:ints (pad n a)=ints (pad n b)):a=b:=by
 have B:=Km.LJ.1 h;exact Km.RG.1 B
theorem XE:∀(s:Nat) (T B:Tw),T.map (λL=>(L.o:Int))=B.map (λL=>(L.o:Int))->Hu s T=Hu s B->Hw s T=Hw s B->T=B
 |_,[],[],_,_,_=>rfl
 |_,[],_::_,h,_,_=>by simp at h
 |_,_::_,[],h,_,_=>by simp at h
 |s,⟨o,w,c⟩::T,⟨o',w',c'⟩::B,h1,h2,h3=>by
  simp only[FC,MZ]at h1;simp only[Hu,MZ]at h2;simp only[Hw,MZ]at h3;obtain rfl:=XE (s+1) T B h1.2 h2.2 h3.2;obtain rfl:o=o':=by have:=h1.1;omega
  obtain rfl:w=w':=WI h2.1;obtain rfl:c=c':=by
   have:=h3.1;exact map_inj (λa b h=>WI h) this
  rfl
theorem FK {T B:Tw}(h:AZ T=AZ B):T=B:=by
 simp only[AZ,BZ.mk.injEq]at h;exact XE 0 T B h.1 h.2.1 h.2.2
def BR (P:BZ):Prop:=∃T,Wf T/\Small T/\P=AZ T/\Valid P/\AJ.Good T
theorem BR.good {T:Tw}(h:BR (AZ T)):AJ.Good T:=by
 obtain⟨I,D,F,B,_,C⟩:=h;have:=FK B;exact this▸C
end Ba
namespace BN
open AJ Val
def sz:Tw->Nat
 |[]=>1
 |L::T=>L.o*sz T
def num:Tw->List Nat->Nat
 |L::T,a::x=>a*sz T+num T x
 |_,_=>0
def at_:Tw->Nat->List Nat
 |[],_=>[]
 |L::T,k=>(k/sz T%L.o)::at_ T k
theorem FM {T:Tw}(h:Wf T):0<sz T:=by
 induction T with
 |nil=>simp[sz]
 |cons L T ih=>exact Nat.mul_pos (by have:=h.1;omega) (ih h.2.2.2.2)
theorem PG (T:Tw)(k:Nat):(at_ T k).length=T.length:=by
 induction T with
 |nil=>rfl
 |cons L T ih=>simp[at_,ih]
theorem Cb {T:Tw}(h:Wf T)(k:Nat):El T (at_ T k):=by
 induction T with
 |nil=>trivial
 |cons L T ih=>exact⟨Nat.mod_lt _ (by have:=h.1;omega),ih h.2.2.2.2⟩
theorem Em {T:Tw}{x:List Nat}(B:El T x)(h:Wf T):num T x<sz T:=by
 induction T generalizing x with
 |nil=>simp[num,sz]
 |cons L T ih=>
  cases x with
  |nil=>exact B.elim
  |cons a x=>
   have D:=ih B.2 h.2.2.2.2;have C:=B.1;show a*sz T+num T x<L.o*sz T;have:(a+1)*sz T<=L.o*sz T:=Mr _ C;rw[Nat.add_mul,Nat.one_mul]at this;omega
theorem LX (T:Tw)(k:Nat):num T (at_ T k)=k%sz T:=by
 induction T with
 |nil=>simp[num,sz,Nat.mod_one]
 |cons L T ih=>
  show(k/sz T%L.o)*sz T+num T (at_ T k)=k%(L.o*sz T);rw[ih,JC L.o,Nat.mod_mul,JC (sz T)];omega
theorem Ua {T:Tw}(h:Wf T){x y:List Nat}(C:El T x)(B:El T y)(e:num T x=num T y):x=y:=by
 induction T generalizing x y with
 |nil=>cases x<;>cases y<;>first|rfl|exact C.elim|exact B.elim
 |cons L T ih=>
  cases x with
  |nil=>exact C.elim
  |cons a x=>
   cases y with
   |nil=>exact B.elim
   |cons b y=>
    have D:=Em C.2 h.2.2.2.2;have F:=Em B.2 h.2.2.2.2;have e':a*sz T+num T x=b*sz T+num T y:=e;have I:a=b:=by
     have:(a*sz T+num T x)/sz T=(b*sz T+num T y)/sz T:=by rw[e']
     rw[Gh,Gh (b*sz T),Nat.add_mul_div_right _ _ (by omega),Nat.add_mul_div_right _ _ (by omega),Nat.div_eq_of_lt D,Nat.div_eq_of_lt F]at this;omega
    subst I;rw[ih h.2.2.2.2 C.2 B.2 (by omega)]
theorem EY {T:Tw}(h:Wf T){x:List Nat}(B:El T x):at_ T (num T x)=x:=
 Ua h (Cb h _) B (by rw[LX,EC (Em B h)])
theorem Nw {T:Tw}{j k:Nat}(C:j<sz T)(B:k<sz T)(e:at_ T j=at_ T k):j=k:=by
 have:=Ck (num T) e;rwa[LX,LX,EC C,EC B]at this
theorem qQ {T:Tw}:num T (AJ.one T)=0:=by
 induction T with
 |nil=>rfl
 |cons L T ih=>show 0*sz T+num T (AJ.one T)=0;rw[ih];omega
theorem Jt {T:Tw}{i:Nat}{L:Lv}(B:T[i]?=some L):sz (T.drop i)=L.o*sz (T.drop (i+1)):=by rw[EB B];rfl
theorem Xp {T:Tw}{i:Nat}{L:Lv}(B:T[i]?=some L){x:List Nat}{a:Nat}(ha:x[i]?=some a):num (T.drop i) (x.drop i)=a*sz (T.drop (i+1))+num (T.drop (i+1)) (x.drop (i+1)):=by
 rw[EB B];have:x.drop i=a::x.drop (i+1):=by
  have:=Ak.1 ha;rw[Dp this.1,this.2]
 rw[this];rfl
theorem OB (T:Tw):sz (T.drop T.length)=1:=by simp[sz]
theorem Yk (T:Tw)(x:List Nat):num (T.drop T.length) x=0:=by simp[num]
theorem Yl {T:Tw}{i:Nat}{L:Lv}(B:T[i]?=some L)(k:Nat):at_ (T.drop i) k=(k/sz (T.drop (i+1))%L.o)::at_ (T.drop (i+1)) k:=by rw[EB B];rfl
theorem Xq {T:Tw}{i:Nat}{L:Lv}(B:T[i]?=some L)(k:Nat):k/sz (T.drop (i+1))/L.o=k/sz (T.drop i):=by
 rw[Jt B,Nat.div_div_eq_div_mul,JC L.o]
theorem WR (T:Tw)(hT:Wf T)(i:Nat):sz (T.drop i)<=sz T:=by
 induction T generalizing i with
 |nil=>simp
 |cons L T ih=>
  cases i with
  |zero=>exact Al _
  |succ i=>
   show sz (T.drop i)<=L.o*sz T;have B:=ih hT.2.2.2.2 i;have C:1*sz T<=L.o*sz T:=Mr _ (by have:=hT.1;omega);omega
theorem Xf (T:Tw):Cj (T.map λL=>(L.o:Int))=(sz T:Int):=by
 induction T with
 |nil=>rfl
 |cons L T ih=>show(L.o:Int)*Cj _=_;rw[ih];simp[sz]
theorem Qo {T:Tw}(h:Valid (AZ T)):sz T<=729:=by
 have:=h.le;rw[show(AZ T).os=T.map λL=>(L.o:Int) from rfl,Xf]at this;omega
theorem BR.sz {P:BZ}{T:Tw}(h:Ba.BR P)(e:P=AZ T):BN.sz T<=729:=by
 obtain⟨D,_,_,C,B,_⟩:=h;subst e;exact Qo B
end BN
namespace TY
def spl (s:ByteArray)(B:UInt8):Nat->List ByteArray×Nat
 |0=>([],0)
 |k+1=>if s.data.toList[k]?=some B then((spl s B k).1++[s.extract (spl s B k).2 k],k+1)else spl s B k
theorem Xr (s:ByteArray)(b:UInt8):∀k,(spl s b k).2<=k
 |0=>Al _
 |k+1=>by
  have:=Xr s b k;simp only[spl];split
  .exact Al _
  .omega
theorem TZ (s:ByteArray)(b:UInt8):∀k,(spl s b k).1.length<=k
 |0=>Al _
 |k+1=>by
  have:=TZ s b k;simp only[spl];split
  .simp;omega
  .omega
def parts (s:ByteArray)(b:UInt8):List ByteArray:=(spl s b s.size).1++[s.extract (spl s b s.size).2 s.size]
end TY
namespace Split
open RowKit TY
theorem uf:(Tryz.prog.info? 9).map (λi=>(i.zero,i.size,i.bytes))=some (some (.string ⟨#[]⟩),1,16):=by kernel_rfl
theorem jf (s:ByteArray)(b:UInt8)(w:World)(hs:s.size<=1000000000):
  Calls Tryz.prog 260 #[.string s,.int .u8 b.toNat] w λe w'=>∃v,e= .returned v/\
   w'.ownsRow w.heap.size 9 1 v (parts s b).length ((parts s b).map Value.string)/\Below w.heap.size w w':=by
 obtain⟨r,hi,g,a,d⟩:=Bd uf;go_enter Tryz.func260,Tryz.ntmps260;go_wp2_with fail;go_loopw [5,6,7] (λv f i wr=>∃k:Nat,k<=s.size/\i= .int .i64 k/\f= .int .i64 (spl s b k).2/\
   wr.ownsRow w.heap.size 9 1 v (spl s b k).1.length ((spl s b k).1.map Value.string)/\Below w.heap.size w wr) (λ_ _ i _=>s.size-(intOf i).toNat)
 case atStart=>exact⟨0,AX _,rfl,rfl,DL w #[] 0 AV (AX _) rfl,AY.alloc AV _⟩
 case round=>
  obtain⟨k,O,rfl,rfl,F,C⟩:=hrel;have p:=Xr s b k;have l:=TZ s b k;have j:=C.size;by_cases W:k<s.size
  .by_cases D:s[k]=b
   .have N:Hid (spl s b (k+1)=((spl s b k).1++[s.extract (spl s b k).2 k],k+1)):=AB (by
     have:s.data.toList[k]?=some b:=by rw[AU (by exact W)];exact Ck some D
     simp[spl,this])
    have z:((s[k].toNat:Int)==(b.toNat:Int))=true:=by rw[D];simp
    have HB:=AB D;have B:=AB F;have I:=AB C;clear D F C;generalize V:(spl s b k).2=f at p ⊢;generalize J:(spl s b k).1=S at l ⊢;have X:=AB V;have L:=AB J;clear V J;go_wp2_with (at_builtin;refine DR _ rfl _ _ 225 rfl w.heap.size 9 r (.string ⟨#[]⟩) 1 16 Tryz.underlying225 hi g a d rfl (by decide) _ _ _ rfl ((show wr.ownsRow w.heap.size 9 1 _ S.length (S.map Value.string) by rw[<-L.AA];exact B.AA).alloc _) ⟨wr.heap.size,0,none⟩ 1 1 [.string (s.extract f k)] rfl rfl ?c1 ?c2 ?c3 ?c4 ?c5 ?_);case c1=>exact cell_one_new _ _ _
    case c2=>intro u U;simp only[EE,List.not_mem_nil,or_false]at U;subst U;rfl
    case c3=>unfold maxLen;omega
    case c4=>omega
    case c5=>simp;omega
    intro q x K R _;have Q:=Aq (show wr.ownsRow w.heap.size 9 1 u5 _ _ from B.AA);have Y:=AB K;have Z:=AB ((I.AA.alloc j _).grown R (by simp;omega) (λk O=>(Q k O).1));clear K R Q;go_wp2_with fail;go_roundw;case rel=>exact⟨k+1,by omega,by go_num,by rw[N.AA];show _=Value.int .i64 ((k+1:Nat):Int);go_num,by rw[N.AA,L.AA,X.AA];simpa using Y.AA,Z.AA⟩
    case measure=>simp[intOf];omega
   .have N:Hid (spl s b (k+1)=spl s b k):=AB (by
     have:¬s.data.toList[k]?=some b:=by
      rw[AU (by exact W)];exact λh=>D (IL h)
     rw[spl];exact BF this)
    have z:((s[k].toNat:Int)==(b.toNat:Int))=false:=by
     simp only[Hq];intro h;exact D (UInt8.toNat_inj.1 (by omega))
    have B:=AB F;have I:=AB C;clear D F C;go_wp2_with fail;go_roundw;case rel=>exact⟨k+1,by omega,by go_num,by rw[N.AA],by rw[N.AA];exact B.AA,I.AA⟩
    case measure=>simp[intOf];omega
  .obtain rfl:k=s.size:=by omega
   have B:=AB F;have I:=AB C;clear F C W O;have y:Hid ((parts s b)=(spl s b s.size).1++[s.extract (spl s b s.size).2 s.size]):=AB rfl;generalize V:(spl s b s.size).2=f at p ⊢;generalize J:(spl s b s.size).1=S at l ⊢;have X:=AB V;have L:=AB J;clear V J;go_wp2_with (at_builtin;refine DR _ rfl _ _ 225 rfl w.heap.size 9 r (.string ⟨#[]⟩) 1 16 Tryz.underlying225 hi g a d rfl (by decide) _ _ _ rfl ((show wr.ownsRow w.heap.size 9 1 _ S.length (S.map Value.string) by rw[<-L.AA];exact B.AA).alloc _) ⟨wr.heap.size,0,none⟩ 1 1 [.string (s.extract f s.size)] rfl rfl ?c1 ?c2 ?c3 ?c4 ?c5 ?_);case c1=>exact cell_one_new _ _ _
   case c2=>intro u U;simp only[EE,List.not_mem_nil,or_false]at U;subst U;rfl
   case c3=>unfold maxLen;omega
   case c4=>omega
   case c5=>simp;omega
   intro q x K R _;have Q:=Aq (show wr.ownsRow w.heap.size 9 1 u5 _ _ from B.AA);have Y:=AB K;have Z:=AB ((I.AA.alloc j _).grown R (by simp;omega) (λk O=>(Q k O).1));clear K R Q;go_wp2_with fail;go_ret;refine⟨q,rfl,?_,Z.AA⟩;rw[y.AA,L.AA,X.AA];simpa using Y.AA
end Split
namespace Xt
open Lib
def qR (B:Nat)(l:List UInt8):Nat:=l.foldl (λa c=>10*a+(c.toNat-48)) B
def val (l:List UInt8):Nat:=qR 0 l
def NK (x:Nat):UInt8:=UInt8.ofNat (48+x)
theorem XF (n:Nat)(h:n<10):decDigits n=[NK n]:=by rw[decDigits,dif_pos h];rfl
theorem Ym (n:Nat)(h:¬n<10):decDigits n=decDigits (n/10)++[NK (n%10)]:=by rw[decDigits,dif_neg h];rfl
theorem qU (n:Nat):∀k,n<10^(k+1)->(decDigits n).length<=k+1:=by
 induction n using Nat.strongRecOn with
 |ind n ih=>
  intro k B;by_cases h:n<10
  .rw[XF n h];simp
  .rw[Ym n h];cases k with
   |zero=>simp at B;omega
   |succ k=>
    have:=ih (n/10) (by omega) k (by rw[Ke]at B;omega);simp;omega
theorem qV (B:List UInt8)(n:Nat)(h:decDigits n=B++[NK (n%10)]):(⟨B.toArray⟩:ByteArray)++⟨#[NK (n%10)]⟩=⟨(decDigits n).toArray⟩:=by
 rw[h];apply ByteArray.ext;apply Array.toList_inj.1;simp[ByteArray.data_append]
end Xt
namespace QM
open RowKit Lib Xt
theorem one_byte (x:Nat)(D:x<10)(g:Nat)(w':World)(h:w'.cell? ⟨g,0,none⟩=some (.int .u8 (48+(x:Int)))):
  (convert 22 9 (.slice (some ⟨g,0,none⟩) 1 1)).run Tryz.prog w'= .ok (.string ⟨#[NK x]⟩) w':=by
 refine run_convert_bytes_back (P:=Tryz.prog) w' 22 9 5 ⟨g,0,none⟩ 1 [NK x] Tryz.underlying22 Tryz.underlying5 Tryz.underlying9 ?_;intro j C;have B:j=0:=by simp at C;omega
 subst B;rw[show(Addr.add ⟨g,0,none⟩ 0)=⟨g,0,none⟩ by simp[Addr.add],h];simp[NK];omega
attribute [local go_sem ↓] Go.wp_at_zero Go.wp_at_succ
theorem qW (n:Nat):∀(w:World),n<=1000000000->
  Calls Tryz.prog 272 #[.int .i64 n] w λe w'=>e= .returned (.string ⟨(decDigits n).toArray⟩)/\Below w.heap.size w w':=by
 induction n using Nat.strongRecOn with
 |ind n ih=>
  intro w Q;by_cases J:n<10
  .have I:=one_byte n (by omega);have B:=AB (XF n J);clear ih;go_enter Tryz.func272,Tryz.ntmps272;go_wp2_with fail;go_ret;exact⟨Ck (λl:List UInt8=>Ending.returned (Value.string ⟨l.toArray⟩)) B.AA.symm,AY.alloc AV _⟩
  .have I:=one_byte (n%10) (by omega);rw[show((n%10:Nat):Int)=(n:Int)%10 by omega]at I;have B:=AB (Ym n J);have D:=λw=>ih (n/10) (by omega) w (by omega);rw[show((n/10:Nat):Int)=(n:Int)/10 by omega]at D;have F:=AB D;have L:(decDigits (n/10)).length<=10:=qU (n/10) 9 (by omega);clear ih D;generalize O:decDigits (n/10)=K at F B L;have S:IntKind.i64.wrap ((n:Int)/10)=(n:Int)/10:=Ac _ (by omega);have U:(n:Int).tmod 10=(n:Int)%10:=by rw[P8 (by omega)]
   have V:IntKind.i64.wrap (48+(n:Int)%10)=48+(n:Int)%10:=Ac _ (by omega);have W:IntKind.u8.wrap (48+(n:Int)%10)=48+(n:Int)%10:=by rw[IntKind.wrap_u8'];omega
   go_enter Tryz.func272,Tryz.ntmps272;go_upto_region 3 with fail;go_region_with (first|(go_at_call 272;refine(F.AA _).mono ?_;rintro e N ⟨rfl,C⟩;obtain⟨X,R⟩:=Z4 C));all_goals
    go_wp2_with fail;go_ret;refine⟨Ck (λl:ByteArray=>Ending.returned (Value.string l)) (qV K n B.AA),?_⟩;first
     |exact(AY.drew.trans C).alloc C.size _
     |exact(AY.alloc AV _).drew.trans (C.mono (by simp))
end QM
namespace NL
open RowKit AJ Val Bv Bl Ch Cr Bj Jm
def vY (w:World)(e:Ending)(w':World):Prop:=∃n:Int,e= .returned (.int .i64 n)/\w'=w
theorem jg (s:ByteArray)(w:World):Calls Tryz.prog 269 #[.string s] w (vY w):=by
 go_enter Tryz.func269,Tryz.ntmps269;go_upto_region 1 with fail;go_cut [22] (λv W=>(∃b,v= .bool b/\(b=false->s.size<=6))/\W=w);case first=>
  by_cases K:s.size=0
  .have D:((s.size:Int)==0)=true:=by rw[K];rfl
   go_wp2_with fail;go_meet;exact⟨⟨_,rfl,λh=>by omega⟩,rfl⟩
  .have D:((s.size:Int)==0)=false:=Hq.2 (by omega);by_cases N:6<s.size
   .have J:(6:Int)<(s.size:Int):=by omega
    go_wp2_with fail;go_meet;exact⟨⟨_,rfl,λh=>by cases h⟩,rfl⟩
   .have J:¬(6:Int)<(s.size:Int):=by omega
    by_cases O:1<s.size
    .have F:(1:Int)<(s.size:Int):=by omega
     go_wp2_with fail;go_meet;exact⟨⟨_,rfl,λh=>by omega⟩,rfl⟩
    .have F:¬(1:Int)<(s.size:Int):=by omega
     go_wp2_with fail;go_meet;exact⟨⟨_,rfl,λh=>by omega⟩,rfl⟩
 case rest=>
  obtain⟨⟨b,rfl,C⟩,rfl⟩:=hcut;cases b with
  |true=>
   go_wp2_with fail;go_ret;exact⟨_,rfl,rfl⟩
  |false=>
   have R:=C rfl;clear C;go_wp2_with fail;go_loopw [3,4] (λI B wr=>∃(n:Int) (i:Nat),i<=s.size/\I= .int .i64 n/\B= .int .i64 (i:Int)/\wr=wc) (λ_ B _=>s.size-(intOf B).toNat);case atStart=>exact⟨0,0,AX _,rfl,rfl,rfl⟩
   case round=>
    obtain⟨n,i,hi,rfl,rfl,rfl⟩:=hrel;by_cases Q:i<s.size
    .have S:(i:Int)<(s.size:Int):=by omega
     have L:(0:Int)<=(i:Int):=by omega
     go_wp2_with fail;all_goals first
      |(go_ret
        exact⟨_,rfl,rfl⟩)
      |(go_roundw
        case rel=>exact⟨_,i+1,by omega,rfl,by go_num,trivial⟩
        case measure=>simp[intOf];omega)
    .obtain rfl:i=s.size:=by omega
     go_wp2_with fail;go_ret;exact⟨_,rfl,rfl⟩
def SL (k n:Nat)(w:World)(e:Ending)(w':World):Prop:=∃(l:List Int) (a:Option Addr) (c:Nat) (b:Bool),e= .returned (.tuple #[.slice a l.length c,.bool b])/\w'.ownsRow w.heap.size 2 1 (.slice a l.length c) l.length (vals l)/\(∀x∈l,(1<=x/\x<=(k:Int))\/x<= -1)/\l.length<=n/\Below w.heap.size w w'
theorem qX {k n:Nat}{w w':World}{b:Bool}(h:Below w.heap.size w w'):SL k n w (.returned (.tuple #[.slice none 0 0,.bool b])) w':=⟨[],none,0,b,rfl,FY _ _ _ _,λx h=>by simp at h,AX _,h⟩
theorem ZT (x B hi:Int)(w:World):Calls Tryz.prog 197 #[.int .i64 x,.int .i64 B,.int .i64 hi] w λe w'=>∃b:Bool,(b=true->B<=x/\x<=hi)/\e= .returned (.bool b)/\w'=w:=by
 by_cases h:B<=x/\x<=hi
 .refine(Og x B hi h.1 h.2 w).mono ?_;rintro e w' ⟨rfl,rfl⟩;exact⟨true,λ_=>h,rfl,rfl⟩
 .refine(VR x B hi h w).mono ?_;rintro e w' ⟨rfl,rfl⟩;exact⟨false,λh=>Bool.noConfusion h,rfl,rfl⟩
def Fu (P:Int->Prop)(B m:Nat)(w:World)(v:Value)(n:Nat):Prop:=∃l:List Int,l.length=n/\w.ownsRow B 2 1 v n (vals l)/\(∀x∈l,P x)/\n<=m
theorem Fu.nil {P:Int->Prop}{B m:Nat}(w:World)(h:B<=w.heap.size):Fu P B m (w.alloc (.cells #[] 2)) (.slice (some ⟨w.heap.size,0,none⟩) 0 0) 0:=
 ⟨[],rfl,DL (e:=2) (size:=1) w #[] 0 h (AX _) rfl,λx h=>by simp at h,AX _⟩
theorem Fu.push {P:Int->Prop}{B m n:Nat}{w':World}{C:Value}{l:List Int}{x:Int}(I:l.length=n)(F:∀y∈l,P y)(J:P x)(K:n+1<=m)(h:w'.ownsRow B 2 1 C (n+1) (vals l++[.int .i64 x])):Fu P B m w' C (n+1):=
 ⟨l++[x],by simp[I],by simpa[vals]using h,λy D=>by
  rcases DY.1 D with h|h
  .exact F y h
  .rw[ES.1 h];exact J,K⟩
def S9 (k:Nat)(x:Int):Prop:=(1<=x/\x<=(k:Int))\/x<= -1
theorem jh (k:Nat)(hk:k<=100)(s:ByteArray)(hs:s.size<=1000)(w:World):
  Calls Tryz.prog 270 #[.int .i64 (k:Int),.string s] w (SL k s.size w):=by
 obtain⟨z,q,a0,r,a2⟩:=Bd Dh;cases ht:(s.toList==[49])with
 |true=>
  have a8:=AB (show SL k s.size w (.returned (.tuple #[.slice (some ⟨w.heap.size,0,none⟩) 0 0,.bool true])) (w.alloc (.cells #[] 2)) from
   ⟨[],some ⟨w.heap.size,0,none⟩,0,true,rfl,DL (e:=2) (size:=1) w #[] 0 AV (AX _) rfl,λx h=>by simp at h,AX _,AY.alloc AV _⟩)
  go_enter Tryz.func270,Tryz.ntmps270;go_wp2_with fail;exact Au (v:=.tuple #[.slice (some ⟨w.heap.size,0,none⟩) 0 0,.bool true]) (by simp[results,Tryz.results270,go_sem]) rfl a8.AA
 |false=>
  have p:=AB (Fu.nil (P:=S9 k) (m:=s.size) w AV);go_enter Tryz.func270,Tryz.ntmps270;go_wp2_with fail;go_loopw [6,7] (λov Z wr=>∃(i n:Nat) (a:Option Addr) (c:Nat),i<=s.size/\n<=i/\Z= .int .i64 (i:Int)/\ov= .slice a n c/\Hid (Fu (S9 k) w.heap.size s.size wr (.slice a n c) n)/\Hid (Below w.heap.size w wr)) (λ_ Z _=>s.size-(intOf Z).toNat);case atStart=>exact⟨0,0,_,_,AX _,Al _,rfl,rfl,p,AB (AY.alloc AV _)⟩
  case round=>
   clear p;obtain⟨i,n,a,c,hi,a9,rfl,rfl,I,B⟩:=hrel;by_cases b3:i<s.size
   .have b5:(i:Int)<(s.size:Int):=by omega
    have b8:(0:Int)<=(i:Int):=by omega
    have a3:s[i].toNat<256:=s[i].toNat_lt;obtain⟨y,hy⟩:∃y:Nat,s[i].toNat=y:=⟨_,rfl⟩;rw[hy]at a3;have b7:IntKind.i64.wrap ((y:Int)-97)=(y:Int)-97:=Ac _ (by omega);have b0:IntKind.i64.wrap ((y:Int)-97+1)=(y:Int)-97+1:=Ac _ (by omega);have b9:IntKind.i64.wrap ((y:Int)-65)=(y:Int)-65:=Ac _ (by omega);have b4:IntKind.i64.wrap ((y:Int)-65+1)=(y:Int)-65+1:=Ac _ (by omega);have b6:IntKind.i64.wrap (-((y:Int)-65+1))= -((y:Int)-65+1):=Ac _ (by omega);have c0:IntKind.i64.wrap (y:Int)=(y:Int):=Ac _ (by omega);go_upto_region 7 with fail;go_cut [8,9] (λu v W=>u= .int .i64 ((y:Int)-97+1)/\v= .int .i64 ((y:Int)-65+1)/\W=wr.drew);case first=>
     go_region_law (fail);all_goals
      go_wp2_with fail;go_meet;exact⟨rfl,rfl,rfl⟩
    case rest=>
     obtain⟨rfl,rfl,rfl⟩:=hcut;obtain⟨l,N,D,C,h4⟩:=I.AA;have a6:=AB (λW=>ZT ((y:Int)-97+1) 1 (k:Int) W);have a4:=AB (λW=>ZT ((y:Int)-65+1) 1 (k:Int) W);go_wp2_with fail;refine(a6.AA _).mono ?_;rintro e w2 ⟨b1,X,rfl,rfl⟩;cases b1 with
     |true=>
      have a5:=AB (X rfl);clear X;have F:=Aw D (S:=Any) (((Keep.refl _ wr).drew).alloc (.cells #[.int .i64 ((y:Int)-97+1)] 2)) (λ_ _=>trivial);have R:=AB C;have J:=B.AA.size;clear D C I;go_wp2_with (at_builtin;(refine ER _ rfl _ _ 24 rfl w.heap.size 2 z (.int .i64 0) 1 8 Tryz.underlying24 q a0 r a2 rfl (by decide) _ _ _ rfl F ⟨wr.heap.size,0,none⟩ 1 1 [.int .i64 ((y:Int)-97+1)] rfl rfl (Cw (cs:= #[.int .i64 ((y:Int)-97+1)]) (t:=2) (fr:=(0,0)) (Aj wr.drew _)) (by simp[Value.oneCell']) (by decide) (by unfold maxLen;omega) (by omega) (by simp;omega) _ rfl ?_));intro g2 O w6 L K d U;have Y:=AB (((B.AA.drew).alloc J (.cells #[.int .i64 ((y:Int)-97+1)] 2)).grown K (by simp;omega) (λg hg=>(Aq F g hg).1));have V:=AB (Fu.push (m:=s.size) N R.AA (show S9 k ((y:Int)-97+1) from Or.inl a5.AA) (by omega) L);clear F L K d U B J;go_wp2_with fail;go_roundw;case rel=>exact⟨i+1,n+1,_,O,by omega,by omega,by go_num,rfl,V,Y⟩
      case measure=>simp[intOf];omega
     |false=>
      clear X;go_wp2_with fail;refine(a4.AA _).mono ?_;rintro e w2 ⟨b2,j,rfl,rfl⟩;cases b2 with
      |true=>
       have a7:=AB (j rfl);clear j;have F:=Aw D (S:=Any) (((Keep.refl _ wr).drew).alloc (.cells #[.int .i64 (-((y:Int)-65+1))] 2)) (λ_ _=>trivial);have R:=AB C;have J:=B.AA.size;clear D C I;go_wp2_with (at_builtin;(refine ER _ rfl _ _ 24 rfl w.heap.size 2 z (.int .i64 0) 1 8 Tryz.underlying24 q a0 r a2 rfl (by decide) _ _ _ rfl F ⟨wr.heap.size,0,none⟩ 1 1 [.int .i64 (-((y:Int)-65+1))] rfl rfl (Cw (cs:= #[.int .i64 (-((y:Int)-65+1))]) (t:=2) (fr:=(0,0)) (Aj wr.drew _)) (by simp[Value.oneCell']) (by decide) (by unfold maxLen;omega) (by omega) (by simp;omega) _ rfl ?_));intro g2 O w6 L K d U;have Y:=AB (((B.AA.drew).alloc J (.cells #[.int .i64 (-((y:Int)-65+1))] 2)).grown K (by simp;omega) (λg hg=>(Aq F g hg).1));have V:=AB (Fu.push (m:=s.size) N R.AA (show S9 k (-((y:Int)-65+1)) from Or.inr (by have:=a7.AA;omega)) (by omega) L);clear F L K d U B J;go_wp2_with fail;go_roundw;case rel=>exact⟨i+1,n+1,_,O,by omega,by omega,by go_num,rfl,V,Y⟩
       case measure=>simp[intOf];omega
      |false=>
       have Q:=AB (qX (k:=k) (n:=s.size) (b:=false) B.AA.drew);clear D C I B j;go_wp2_with fail;exact Au (v:=.tuple #[.slice none 0 0,.bool false]) (by simp[results,Tryz.results270,go_sem]) rfl Q.AA
   .obtain rfl:i=s.size:=by omega
    obtain⟨l,N,D,C,h4⟩:=I.AA;subst N;have Q:=AB (λb=>show SL k s.size w (.returned (.tuple #[.slice a l.length c,.bool b])) wr from⟨l,a,c,b,rfl,D,C,h4,B.AA⟩);clear D C I B;go_wp2_with fail;exact Au (v:=.tuple #[.slice a l.length c,.bool (decide ((0:Int)<(l.length:Int)))]) (by simp[results,Tryz.results270,go_sem]) rfl (Q.AA _)
def SN (n:Nat)(w:World)(e:Ending)(w':World):Prop:=(∃g c,e= .returned (.tuple #[.slice (some ⟨g,0,none⟩) n c,.bool true])/\R1 w.heap.size w' n (.slice (some ⟨g,0,none⟩) n c)/\Below w.heap.size w w')\/(e= .returned (.tuple #[.slice none 0 0,.bool false])/\Below w.heap.size w w')
theorem iW (n:Nat)(hn:n<=100)(a:Option Addr)(m c:Nat)(l:List Int)(U:l.length=m)(w:World)(Y:AP Any w (.slice a m c) l)(hm:m<=1000)(L:∀x∈l,(1<=x/\x<=(n:Int))\/x<= -1):
  Calls Tryz.prog 271 #[.int .i64 (n:Int),.slice a m c] w (SN n w):=by
 have N:=AB Y;have HP:=AB L;have HL:=AB U;have O:=Kt n (by omega) w;obtain⟨I,F⟩:∃I,I=w.alloc (.cells (madeCells #[.int .i64 0] n) 2):=⟨_,rfl⟩;rw[<-F]at O;obtain⟨g,hg⟩:∃g,w.heap.size=g:=⟨_,rfl⟩;have d:=AB (show R1 w.heap.size I n (.slice (some ⟨g,0,none⟩) n n) from⟨List.replicate n 0,by simp,by
  have h:=Own.made (B:=w.heap.size) w n AV (by unfold maxLen;omega);unfold Own at h;rw[Bp]at h;rw[F,<-hg];exact h⟩)
 have V:=AB (show Below w.heap.size w I by rw[F];exact AY.alloc AV _);rw[hg]at O;have HG:=AB hg;clear Y L U F hg;go_enter Tryz.func271,Tryz.ntmps271;go_wp2_with fail;go_loopw [7] (λK wr=>∃i:Nat,i<=m/\K= .int .i64 (i:Int)/\Hid (R1 w.heap.size wr n (.slice (some ⟨g,0,none⟩) n n))/\Hid (Below w.heap.size w wr)) (λK _=>m-(intOf K).toNat);case atStart=>exact⟨0,AX _,rfl,d,V⟩
 case round=>
  clear d V;obtain⟨i,hi,rfl,D,C⟩:=hrel;by_cases s:i<m
  .have a7:(i:Int)<(m:Int):=by omega
   have a2:(0:Int)<=(i:Int):=by omega
   obtain⟨x,J⟩:∃x,l[i]?=some x:=⟨_,AU (by rw[HL.AA];exact s)⟩;have j:=HP.AA x (Af J);obtain⟨b,o,u,rfl,_,a9,a4,rfl⟩:=Ce (N.AA.keep (AO C.AA)) J;have a8:i<=1000:=by omega
   have HX:=AB J;clear J;by_cases a0:x<0
   .have q:=AB (show SN n w (.returned (.tuple #[.slice none 0 0,.bool false])) wr from .inr ⟨rfl,C.AA⟩);clear j D C;go_wp2_with fail;exact Au (v:=.tuple #[.slice none 0 0,.bool false]) (by simp[results,Tryz.results271,go_sem]) rfl q.AA
   .obtain⟨y,hy⟩:∃y:Nat,x=(y:Int)+1:=⟨(x-1).toNat,by omega⟩;subst hy;have z:y<n:=by omega
    have b1:(y:Int)<(n:Int):=by omega
    have F:IntKind.i64.wrap ((y:Int)+1-1)=(y:Int):=by rw[Ac _ (by omega)];omega
    have a6:IntKind.i64.wrap (y:Int)=(y:Int):=Ac _ (by omega);have a3:¬(y:Int)+1<0:=by omega
    obtain⟨g',b0,x0,X,hc,a5,Z,a1,b3⟩:=Li D.AA z;obtain rfl:g=g':=by simpa using X
    have b5:¬b=g:=by
     obtain⟨b',o',u',e,_,b2,_⟩:=Ce N.AA HX.AA;simp only[EQ,Hr]at e;omega
    have Q:=AB (λt:Int=>(Ty.set1 (B:=w.heap.size) (b:=g) (i:=y) Z t).one _ _ D.AA);have R:=AB (λt:Int=>C.AA.setCell (p:=⟨g,y,none⟩) a1 (.int .i64 t));have r:=AB (λ(W:World) (h:R1 w.heap.size W n (.slice (some ⟨g,0,none⟩) n n))=>(show R1 w.heap.size W.drew n (.slice (some ⟨g,0,none⟩) n n) from(Ty.keep (S:=Any) AL.drew λ_ _=>trivial).one _ _ h));clear X Z j a0 D C;go_upto_region 7 with fail;go_region_law (fail);all_goals
     go_wp2_with fail;go_roundw;case rel=>exact⟨i+1,by omega,by go_num,AB (by first|exact Q.AA _|exact r.AA _ (Q.AA _)),AB (by first|exact R.AA _|exact(R.AA _).drew)⟩
     case measure=>simp[intOf];omega
  .obtain rfl:m=i:=by omega
   have b4:¬(m:Int)<(m:Int):=by omega
   have HF:=AB (show SN n w (.returned (.tuple #[.slice (some ⟨g,0,none⟩) n n,.bool true])) wr from .inl ⟨g,n,rfl,D.AA,C.AA⟩);clear D C;go_wp2_with fail;exact Au (v:=.tuple #[.slice (some ⟨g,0,none⟩) n n,.bool true]) (by simp[results,Tryz.results271,go_sem]) rfl HF.AA
end NL
namespace Ov
open RowKit AJ Val Bv Bl Ch Cr Bj Jm NL
theorem uh:(Tryz.prog.info? 5).map (λi=>(i.zero,i.size,i.bytes))=some (some (.int .u8 0),1,1):=by kernel_rfl
def Lu (l:List UInt8):List Value:=l.map λb=>.int .u8 (b.toNat:Int)
theorem R6 (z:Int):∃B:UInt8,z%256=(B.toNat:Int):=by
 refine⟨UInt8.ofNat (z%256).toNat,?_⟩;have C:0<=z%256:=Int.emod_nonneg _ (by decide);have D:z%256<256:=Int.emod_lt_of_pos _ (by decide);simp;omega
def uj (w:World)(e:Ending)(w':World):Prop:=∃b:Bool,e= .returned (.bool b)/\w'=w
theorem sP (a:Option Addr)(n c:Nat)(l:List Int)(C:l.length=n)(O:n<=1000)(w:World)(F:AP Any w (.slice a n c) l):
  Calls Tryz.prog 107 #[.slice a n c] w (uj w):=by
 have K:=AB F;have J:=AB C;clear F C;go_enter Tryz.func107,Tryz.ntmps107;go_wp2_with fail;go_loopw [3] (λB wr=>∃i:Nat,i<=n/\B= .int .i64 (i:Int)/\wr=w) (λB _=>n-(intOf B).toNat);case atStart=>exact⟨0,AX _,rfl,rfl⟩
 case round=>
  obtain⟨i,hi,rfl,rfl⟩:=hrel;by_cases I:i<n
  .have Q:(i:Int)<(n:Int):=by omega
   have L:(0:Int)<=(i:Int):=by omega
   obtain⟨x,D⟩:∃x,l[i]?=some x:=⟨_,AU (by rw[J.AA];exact I)⟩;obtain⟨b,o,u,rfl,_,S,N,rfl⟩:=Ce K.AA D;clear D;cases U:(x==0)with
   |true=>
    go_wp2_with fail;go_roundw;case rel=>exact⟨i+1,by omega,by go_num,trivial⟩
    case measure=>simp[intOf];omega
   |false=>
    go_wp2_with fail;go_ret;exact⟨_,rfl,rfl⟩
  .obtain rfl:n=i:=by omega
   have R:¬(n:Int)<(n:Int):=by omega
   go_wp2_with fail;go_ret;exact⟨_,rfl,rfl⟩
def Z7 (m:Nat)(w:World)(e:Ending)(w':World):Prop:=∃n a c,e= .returned (.slice a n c)/\Fu (λ_=>True) w.heap.size m w' (.slice a n c) n/\Below w.heap.size w w'
theorem PH (a:Option Addr)(n c:Nat)(x:List Nat)(Z:x.length=n)(hn:n<=6)(j:∀q∈x,q<=7)(w:World)(s:AP Any w (.slice a n c) (ints x)):
  Calls Tryz.prog 190 #[.slice a n c] w (Z7 42 w):=by
 obtain⟨i0,y,a7,a0,a8⟩:=Bd Dh;have z:=AB s;have HL:=AB Z;have H7:=AB j;have V:=AB (Fu.nil (P:=λ_=>True) (m:=42) w AV);clear s Z j;go_enter Tryz.func190,Tryz.ntmps190;go_wp2_with fail;go_loopw [3,4] (λU Q wr=>∃(i k:Nat) (a:Option Addr) (c:Nat),i<=n/\k<=7*i/\Q= .int .i64 (i:Int)/\U= .slice a k c/\Hid (Fu (λ_=>True) w.heap.size 42 wr (.slice a k c) k)/\Hid (Below w.heap.size w wr)) (λ_ Q _=>n-(intOf Q).toNat);case atStart=>exact⟨0,0,_,_,AX _,Al _,rfl,rfl,V,AB (AY.alloc AV _)⟩
 case round=>
  clear V;obtain⟨i,k,I,F,hi,Y,rfl,rfl,C,B⟩:=hrel;by_cases K:i<n
  .have b2:(i:Int)<(n:Int):=by omega
   have b5:(0:Int)<=(i:Int):=by omega
   have J:=AB (And.intro K Y);obtain⟨q,R⟩:∃q,x[i]?=some q:=⟨_,AU (by rw[HL.AA];exact K)⟩;have b6:=H7.AA q (Af R);have HQ:=AB (show(ints x)[i]?=some (q:Int) by simp[ints,R]);clear R K Y;have b3:i<=100:=by omega
   go_wp2_with fail;go_loopw [3,5] (λU O wr=>∃(t D:Nat) (a:Option Addr) (c:Nat),t<=q/\D=k+t/\O= .int .i64 (t:Int)/\U= .slice a D c/\Hid (Fu (λ_=>True) w.heap.size 42 wr (.slice a D c) D)/\Hid (Below w.heap.size w wr)) (λ_ O _=>q-(intOf O).toNat);case atStart=>exact⟨0,k,I,F,AX _,rfl,rfl,rfl,C,B⟩
   case round=>
    clear C B;obtain⟨t,D,I,F,ht,d,rfl,rfl,C,B⟩:=hrel;have L:=AB d;clear d;obtain⟨b,o,u,rfl,_,b4,b0,rfl⟩:=Ce (z.AA.keep (AO B.AA)) HQ.AA;by_cases b1:t<q
    .have a6:(t:Int)<(q:Int):=by omega
     obtain⟨l,p,r,h3,h4⟩:=C.AA;have a3:D+1<=42:=by have:=L.AA;have:=J.AA;omega
     have N:=Aw r (S:=Any) ((Keep.refl _ wr).alloc (.cells #[.int .i64 ((i:Int)+1)] 2)) (λ_ _=>trivial);have W:=B.AA.size;have H1:=AB p;clear p r h3 C;go_wp2_with (at_builtin;(refine ER _ rfl _ _ 24 rfl w.heap.size 2 i0 (.int .i64 0) 1 8 Tryz.underlying24 y a7 a0 a8 rfl (by decide) _ _ _ rfl N ⟨wr.heap.size,0,none⟩ 1 1 [.int .i64 ((i:Int)+1)] rfl rfl (Cw (cs:= #[.int .i64 ((i:Int)+1)]) (t:=2) (fr:=(0,0)) (Aj wr _)) (by simp[Value.oneCell']) (by decide) (by unfold maxLen;omega) (by omega) (by simp;omega) _ rfl ?_));intro g2 v w6 h X a9 a2;have a5:=AB ((B.AA.alloc W (.cells #[.int .i64 ((i:Int)+1)] 2)).grown X (by simp;omega) (λg hg=>(Aq N g hg).1));have a4:=AB (Fu.push (P:=λ_=>True) (m:=42) H1.AA (λ_ _=>trivial) trivial a3 h);clear N h X a9 a2 B W;go_wp2_with fail;go_roundw;case rel=>exact⟨t+1,D+1,_,v,by omega,by have:=L.AA;omega,by go_num,rfl,a4,a5⟩
     case measure=>simp[intOf];omega
    .obtain rfl:q=t:=by omega
     have a6:¬(q:Int)<(q:Int):=by omega
     go_wp2_with fail;go_roundw;case rel=>exact⟨i+1,D,I,F,by have:=J.AA;omega,by have:=L.AA;have:=J.AA;omega,by go_num,rfl,C,B⟩
     case measure=>have:=J.AA;simp[intOf];omega
  .obtain rfl:n=i:=by omega
   have b7:¬(n:Int)<(n:Int):=by omega
   have HF:=AB (show Z7 42 w (.returned (.slice I k F)) wr from⟨k,I,F,rfl,C.AA,B.AA⟩);clear C B;go_wp2_with fail;go_ret;exact HF.AA
def Fg (m:Nat)(w:World)(e:Ending)(w':World):Prop:=∃t:ByteArray,e= .returned (.string t)/\t.size<=m/\Below w.heap.size w w'
theorem Tq (a:Option Addr)(n c:Nat)(l:List Int)(r:l.length=n)(hn:n<=1000)(w:World)(hv:AP Any w (.slice a n c) l):
  Calls Tryz.prog 274 #[.slice a n c] w (Fg (n+1) w):=by
 obtain⟨y,z,p,a2,d⟩:=Bd uh;have HV:=AB hv;have U:=AB r;have H1:=AB (show Fg (n+1) w (.returned (.string ⟨#[49]⟩)) w from⟨_,rfl,by show 1<=_;omega,BB _ _⟩);have v:=AB (show(w.alloc (.cells #[] 5)).ownsRow w.heap.size 5 1 (.slice (some ⟨w.heap.size,0,none⟩) 0 0) 0 (Lu []) from DL (base:=w.heap.size) (e:=5) (size:=1) w #[] 0 AV (AX _) rfl);have a4:=AB (λ(W:World) (g c:Nat) (L:List UInt8) (h:W.ownsRow w.heap.size 5 1 (.slice (some ⟨g,0,none⟩) L.length c) L.length (Lu L))=>run_convert_bytes_back (P:=Tryz.prog) W 22 9 5 ⟨g,0,none⟩ c L Tryz.underlying22 Tryz.underlying5 Tryz.underlying9 (λj hj=>h.cells (g:=g) rfl j _ (by simp[Lu,hj])));clear hv r;by_cases a0:n=0
 .have hz:((n:Int)==0)=true:=by rw[a0];rfl
  clear a0;go_enter Tryz.func274,Tryz.ntmps274;go_wp2_with fail;go_ret;exact H1.AA
 have hz:((n:Int)==0)=false:=Hq.2 (by omega);go_enter Tryz.func274,Tryz.ntmps274;go_wp2_with fail;go_loopw [3,4] (λov V wr=>∃(i:Nat) (L:List UInt8) (g c:Nat),i<=n/\V= .int .i64 (i:Int)/\L.length=i/\ov= .slice (some ⟨g,0,none⟩) i c/\Hid (wr.ownsRow w.heap.size 5 1 (.slice (some ⟨g,0,none⟩) i c) i (Lu L))/\Hid (Below w.heap.size w wr)) (λ_ V _=>n-(intOf V).toNat);case atStart=>exact⟨0,[],_,_,AX _,rfl,rfl,rfl,v,AB (AY.alloc AV _)⟩
 case round=>
  clear v;obtain⟨i,L,g,cg,hi,rfl,q,rfl,F,C⟩:=hrel;have a7:=AB q;by_cases a3:i<n
  .have a8:(i:Int)<(n:Int):=by omega
   have a5:(0:Int)<=(i:Int):=by omega
   obtain⟨x,s⟩:∃x,l[i]?=some x:=⟨_,AU (by rw[U.AA];exact a3)⟩;obtain⟨b,o,u,rfl,_,a9,a6,rfl⟩:=Ce (HV.AA.keep (AO C.AA)) s;clear s;by_cases b0:0<x
   .clear U;obtain⟨B,Z⟩:∃B:UInt8,(wrap64 (wrap64 (97+x)-1))%256=(B.toNat:Int):=R6 _;have D:=Aw F.AA (S:=Any) ((Keep.refl _ wr).alloc (.cells #[.int .u8 (B.toNat:Int)] 5)) (λ_ _=>trivial);have J:=C.AA.size;clear F;go_wp2_with (at_builtin;(refine ER _ rfl _ _ 22 rfl w.heap.size 5 y (.int .u8 0) 1 1 Tryz.underlying22 z p a2 d rfl (by decide) _ _ _ rfl D ⟨wr.heap.size,0,none⟩ 1 1 [.int .u8 (B.toNat:Int)] rfl rfl (Cw (cs:= #[.int .u8 (B.toNat:Int)]) (t:=5) (fr:=(0,0)) (Aj wr _)) (by simp[Value.oneCell']) (by decide) (by unfold maxLen;omega) (by omega) (by simp;omega) _ rfl ?_));intro O I w6 N K Y X;have R:=AB ((C.AA.alloc J (.cells #[.int .u8 (B.toNat:Int)] 5)).grown K (by simp;omega) (λg hg=>(Aq D g hg).1));have Q:=AB (show w6.ownsRow w.heap.size 5 1 (.slice (some ⟨O,0,none⟩) (i+1) I) (i+1) (Lu (L++[B])) from by simpa[Lu]using N);clear D N K Y X C J Z;go_wp2_with fail;go_roundw;case rel=>exact⟨i+1,L++[B],O,I,by omega,by go_num,by simp;omega,rfl,Q,R⟩
    case measure=>simp[intOf];omega
   .clear U;obtain⟨B,Z⟩:∃B:UInt8,(wrap64 (wrap64 (65-x)-1))%256=(B.toNat:Int):=R6 _;have D:=Aw F.AA (S:=Any) ((Keep.refl _ wr).alloc (.cells #[.int .u8 (B.toNat:Int)] 5)) (λ_ _=>trivial);have J:=C.AA.size;clear F;go_wp2_with (at_builtin;(refine ER _ rfl _ _ 22 rfl w.heap.size 5 y (.int .u8 0) 1 1 Tryz.underlying22 z p a2 d rfl (by decide) _ _ _ rfl D ⟨wr.heap.size,0,none⟩ 1 1 [.int .u8 (B.toNat:Int)] rfl rfl (Cw (cs:= #[.int .u8 (B.toNat:Int)]) (t:=5) (fr:=(0,0)) (Aj wr _)) (by simp[Value.oneCell']) (by decide) (by unfold maxLen;omega) (by omega) (by simp;omega) _ rfl ?_));intro O I w6 N K Y X;have R:=AB ((C.AA.alloc J (.cells #[.int .u8 (B.toNat:Int)] 5)).grown K (by simp;omega) (λg hg=>(Aq D g hg).1));have Q:=AB (show w6.ownsRow w.heap.size 5 1 (.slice (some ⟨O,0,none⟩) (i+1) I) (i+1) (Lu (L++[B])) from by simpa[Lu]using N);clear D N K Y X C J Z;go_wp2_with fail;go_roundw;case rel=>exact⟨i+1,L++[B],O,I,by omega,by go_num,by simp;omega,rfl,Q,R⟩
    case measure=>simp[intOf];omega
  .obtain rfl:n=i:=by omega
   have b2:¬(n:Int)<(n:Int):=by omega
   subst q;have b1:=a4.AA _ _ _ _ F.AA;have HF:=AB (show Fg (L.length+1) w (.returned (.string ⟨L.toArray⟩)) wr from⟨_,rfl,by show L.toArray.size<=_;simp,C.AA⟩);clear F C;go_wp2_with fail;go_ret;exact HF.AA
theorem Ta (i:Nat)(hi:i<=100)(w:World):Calls Tryz.prog 273 #[.int .i64 (i:Int)] w (Fg 2 w):=by
 have K:IntKind.i64.wrap ((i:Int)+1)=(i:Int)+1:=Ac _ (by omega);have F:=AB (Gw (l:=[(i:Int)+1]) (KW (B:=0) w #[.int .i64 ((i:Int)+1)] [(i:Int)+1] (AX _) (by simp[maxLen]) rfl) rfl);have J:=AB ((Tq (some ⟨w.heap.size,0,none⟩) 1 1 [(i:Int)+1] rfl (by omega) _ F.AA).mono (R':=Fg 2 w) (by
  rintro e w' ⟨t,rfl,C,D⟩;exact⟨t,rfl,C,(AY.alloc AV _).trans (D.mono (by simp))⟩))
 go_enter Tryz.func273,Tryz.ntmps273;go_wp2_with fail;refine J.AA.mono ?_;rintro e w6 ⟨t,rfl,C,D⟩;have I:=AB (show Fg 2 w (.returned (.string t)) w6 from⟨t,rfl,C,D⟩);clear D C;go_wp2_with fail;go_ret;exact I.AA
end Ov
end Go.Proofs.YtgjadpmbnejaoaaGreat

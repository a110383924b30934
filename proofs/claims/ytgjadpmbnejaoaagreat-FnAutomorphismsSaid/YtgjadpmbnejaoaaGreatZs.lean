import Derived.Test.YtgjadpmbnejaoaaGreatZr
import Derived.Test.YtgjadpmbnejaoaaGreatZo
/-
  Lemmas for the law FnAutomorphisms, in short spelling.
-/
set_option linter.unusedVariables false
set_option linter.unusedSimpArgs false
set_option maxRecDepth 100000
set_option maxHeartbeats 40000000
namespace Go.Proofs.YtgjadpmbnejaoaaGreat
namespace Dk
open AJ Gen CP BN CL
structure BD (Q T:Tw)(cs:List (List Nat)):Prop where
 el:∀c∈cs,El Q c
 rel:Rel (mul Q) (AJ.one Q) T cs
 inj:∀x y,El T x->El T y->ev (mul Q) (AJ.one Q) cs x=ev (mul Q) (AJ.one Q) cs y->x=y
def GQ (T:Tw):Prop:=∀L∈T,L.o=2\/L.o=3\/L.o=5\/L.o=7
theorem Wv {o d:Nat}(D:o=2\/o=3\/o=5\/o=7)(B:0<d)(C:d<o):∃m n,d*m=1+o*n:=by
 have h:∀o∈[2,3,5,7],∀d,d<o->0<d->∃m,m<8/\∃n,n<8/\d*m=1+o*n:=by decide
 obtain⟨m,_,n,_,e⟩:=h o (by rcases D with rfl|rfl|rfl|rfl<;>simp) d C B;exact⟨m,n,e⟩
theorem LW {Q:Tw}(B:Wf Q)(hg:AJ.Good Q):∀(cs:List (List Nat)) (n:Nat),ev (mul Q) (AJ.one Q) cs (List.replicate n 0)=AJ.one Q
 |[],n=>by cases n<;>rfl
 |d::ds,0=>rfl
 |d::ds,n+1=>(Ck (mul Q _) (LW B hg ds n)).trans (by have G:=BA B hg;rw[GR,G.eL G.me])
theorem Pf {Q:Tw}(B:Wf Q)(hg:AJ.Good Q){x:List Nat}{im:List (List Nat)}(hi:∀c∈im,El Q c)(z:List Nat):ev (mul Q) (AJ.one Q) (x::im) (0::z)=ev (mul Q) (AJ.one Q) im z:=by
 have G:=BA B hg;show mul Q (npow (mul Q) (AJ.one Q) x 0) _=_;rw[GR,G.eL (G.ev hi z)]
def Im (Q T:Tw)(cs:List (List Nat))(c:List Nat):Prop:=∃z,El T z/\ev (mul Q) (AJ.one Q) cs z=c
theorem Zi {Q T:Tw}(J:Wf Q)(hg:AJ.Good Q)(hT:Wf T)(I:AJ.Good T){im:List (List Nat)}(hi:∀c∈im,El Q c)(L:Rel (mul Q) (AJ.one Q) T im){c v:List Nat}(K:El Q c)(h:Im Q T im (mul Q c v))(F:Im Q T im v):Im Q T im c:=by
 have G:=BA J hg;have GT:=BA hT I;obtain⟨z,B,e⟩:=h;obtain⟨y,C,rfl⟩:=F;obtain⟨N,D,R,O⟩:=GT.iv C;refine⟨mul T z N,GT.cl B D,?_⟩;refine G.Nh (G.ev hi y) (G.ev hi _) K ?_;rw[<-e,<-G.Lm hT hi L (GT.cl B D) C,GT.Ag B D C,O,GT.eR B]
theorem tO {Q T:Tw}(F:Wf Q)(hg:AJ.Good Q)(hT:Wf T){im:List (List Nat)}(hi:∀c∈im,El Q c)(I:Rel (mul Q) (AJ.one Q) T im){c v:List Nat}(h:Im Q T im c)(D:Im Q T im v):Im Q T im (mul Q c v):=by
 have G:=BA F hg;obtain⟨z,B,rfl⟩:=h;obtain⟨y,C,rfl⟩:=D;exact⟨mul T z y,Bz hT B C,G.Lm hT hi I B C⟩
theorem tQ {Q T:Tw}(B:Wf Q)(hg:AJ.Good Q)(hT:Wf T){im:List (List Nat)}:Im Q T im (AJ.one Q):=⟨AJ.one T,CR hT,LW B hg im _⟩
theorem U9 {Q T:Tw}(B:Wf Q)(hg:AJ.Good Q)(hT:Wf T){im:List (List Nat)}(hi:∀c∈im,El Q c)(C:Rel (mul Q) (AJ.one Q) T im){c:List Nat}(h:Im Q T im c):∀k,Im Q T im (npow (mul Q) (AJ.one Q) c k)
 |0=>tQ B hg hT
 |k+1=>by rw[Cu];exact tO B hg hT hi C (U9 B hg hT hi C h k) h
theorem Pp {Q T:Tw}(C:Wf Q)(hg:AJ.Good Q)(hT:Wf T){im:List (List Nat)}(hi:∀c∈im,El Q c)(B:Rel (mul Q) (AJ.one Q) T im)(c:List Nat):Gen (mul Q) (AJ.one Q) im c↔Im Q T im c:=Zb C hg hT hi B c
theorem Zj {Q T:Tw}{L:Lv}(C:Wf Q)(hg:AJ.Good Q)(hT:Wf (L::T))(J:AJ.Good T)(X:L.o=2\/L.o=3\/L.o=5\/L.o=7){im:List (List Nat)}{x:List Nat}(hi:∀c∈im,El Q c)(F:Rel (mul Q) (AJ.one Q) T im)(B:El Q x)(V:Gd Q L im x)(S:¬Gen (mul Q) (AJ.one Q) im x)
  {a b:Nat} {z y:List Nat} (N:El T z) (Y:El T y) (d:a<b) (Z:b<L.o) (e:mul Q (npow (mul Q) (AJ.one Q) x a) (ev (mul Q) (AJ.one Q) im z)=mul Q (npow (mul Q) (AJ.one Q) x b) (ev (mul Q) (AJ.one Q) im y)):False:=by
 have G:=BA C hg;have D:=hT.2.2.2.2;obtain⟨m,n,W⟩:=Wv X (show 0<b-a by omega) (show b-a<L.o by omega);have ha:=G.npow B a;have I:=G.npow B (b-a);rw[show b=a+(b-a) by omega,G.JU B,G.Ag ha I (G.ev hi y)]at e;have U:=G.Js ha (G.ev hi z) (G.cl I (G.ev hi y)) e;have R:Im Q T im (npow (mul Q) (AJ.one Q) x (b-a)):=Zi C hg D J hi F I ⟨z,N,U⟩ ⟨y,Y,rfl⟩;have K:Im Q T im (npow (mul Q) (AJ.one Q) x (1+L.o*n)):=by
  have:=U9 C hg D hi F R m;rw[Qy G B,W]at this;exact this
 have O:Im Q T im (npow (mul Q) (AJ.one Q) x (L.o*n)):=by
  rw[<-Qy G B,V.1];exact U9 C hg D hi F ⟨L.w,hT.2.1,rfl⟩ n
 rw[G.JU B,G.Jr B]at K;exact S ((Pp C hg D hi F x).2 (Zi C hg D J hi F B K O))
theorem Q3 {Q T:Tw}{L:Lv}(C:Wf Q)(hg:AJ.Good Q)(hT:Wf (L::T))(S:AJ.Good T)(Z:L.o=2\/L.o=3\/L.o=5\/L.o=7){im:List (List Nat)}{x:List Nat}:
  BD Q (L::T) (x::im)↔BD Q T im/\El Q x/\Gd Q L im x/\¬Gen (mul Q) (AJ.one Q) im x:=by
 have G:=BA C hg;have V:=hT.2.2.2.2;have p:=hT.1;constructor
 .rintro⟨X,⟨j,g,K⟩,d⟩;have hi:∀c∈im,El Q c:=λc F=>X c (CW _ F);have D:=X x CJ;have i:=O8 K;have B:BD Q T im:=⟨hi,K,λz y N l e=>by
   have:=d (0::z) (0::y) ⟨by omega,N⟩ ⟨by omega,l⟩ (by rw[Pf C hg hi,Pf C hg hi,e]);simpa using this⟩
  refine⟨B,D,⟨j,λk y Y=>?_⟩,λh=>?_⟩
  .have U:=(Ak.1 Y).1;have R:k<im.length:=by rw[i,<-hT.2.2.1];exact U
   have:=g k R U;rw[BG,AU R];rw[(Ak.1 Y).2]at this;exact this
  .obtain⟨z,N,e⟩:=(Pp C hg V hi K x).1 h;have:=d (1::AJ.one T) (0::z) ⟨by omega,CR V⟩ ⟨by omega,N⟩ (by
    rw[Pf C hg hi,e];show mul Q (npow (mul Q) (AJ.one Q) x 1) (ev (mul Q) (AJ.one Q) im (List.replicate T.length 0))=x;rw[LW C hg,G.Jr D,G.eR D])
   simp at this
 .rintro⟨B,D,O,W⟩;refine⟨λc F=>?_,X9 hT.2.2.1 B.rel O,λu v J I e=>?_⟩
  .rcases EE.1 F with rfl|F
   .exact D
   .exact B.el c F
  .cases u with
   |nil=>exact J.elim
   |cons a z=>cases v with
    |nil=>exact I.elim
    |cons b y=>
     have e':mul Q (npow (mul Q) (AJ.one Q) x a) (ev (mul Q) (AJ.one Q) im z)=mul Q (npow (mul Q) (AJ.one Q) x b) (ev (mul Q) (AJ.one Q) im y):=e;rcases OL a b with h|h|h
     .exact(Zj C hg hT S Z B.el B.rel D O W J.2 I.2 h I.1 e').elim
     .subst h;have:=B.inj z y J.2 I.2 (G.Js (G.npow D a) (G.ev B.el z) (G.ev B.el y) e');rw[this]
     .exact(Zj C hg hT S Z B.el B.rel D O W I.2 J.2 h J.1 e'.symm).elim
theorem Y7 {Q:Tw}:BD Q [] []:=⟨by simp,trivial,λx y B C _=>by
 cases x with
 |nil=>cases y with
  |nil=>rfl
  |cons b y=>exact C.elim
 |cons a x=>exact B.elim⟩
theorem BD.len {Q T:Tw}{cs:List (List Nat)}(h:BD Q T cs):cs.length=T.length:=O8 h.rel
theorem YA {Q T:Tw}(F:Wf Q)(hg:AJ.Good Q)(hT:Wf T)(D:AJ.Good T)(C:GQ T){cs:List (List Nat)}(h:BD Q T cs):∀k,k<=T.length->BD Q (T.drop k) (cs.drop k)
 |0,_=>h
 |k+1,hk=>by
  have B:=YA F hg hT D C h k (by omega);obtain⟨L,J⟩:∃L,T[k]?=some L:=⟨_,AU (by omega)⟩;have K:k<cs.length:=by rw[h.len];omega
  have I:=DJ hT k;have N:=KQ D (k+1);rw[EB J]at B I;rw[Dp K]at B;exact((Q3 F hg I N (C L (Af J))).1 B).1
theorem Tg {Q T:Tw}:∀(k:Nat) (im cs:List (List Nat)),cs∈Bo Q T k im->cs.drop k=im
 |0,im,cs,h=>by simpa[Bo]using h
 |k+1,im,cs,h=>by
  rw[Bo,List.mem_flatMap]at h;obtain⟨t,_,h⟩:=h;split at h
  .have:=Tg k _ _ h;rw[<-EK,this];rfl
  .simp at h
theorem Tz {Q T:Tw}(B:Wf Q)(hg:AJ.Good Q)(hT:Wf T)(J:AJ.Good T)(I:GQ T):∀k,k<=T.length->∀im,BD Q (T.drop k) im->∀cs,cs∈Bo Q T k im↔BD Q T cs/\cs.drop k=im
 |0,_,im,h,cs=>by
  rw[Bo,ES,List.drop_zero];constructor
  .rintro rfl;exact⟨h,rfl⟩
  .exact λh=>h.2
 |k+1,hk,im,h,cs=>by
  obtain⟨L,D⟩:∃L,T[k]?=some L:=⟨_,AU (by omega)⟩;have X:T.getD k ⟨0,[],[]⟩=L:=by rw[BG,D];rfl
  have N:=DJ hT k;have V:=KQ J (k+1);rw[EB D]at N;have R:=I L (Af D);rw[Bo,List.mem_flatMap,X];constructor
  .rintro⟨t,Y,O⟩;split at O
   .next C=>
    have F:BD Q (T.drop k) (at_ Q t::im):=by
     rw[EB D];exact(Q3 B hg N V R).2 ⟨h,Cb B t,C.2,C.1⟩
    have:=(Tz B hg hT J I k (by omega) _ F cs).1 O;exact⟨this.1,by rw[<-EK,this.2];rfl⟩
   .simp at O
  .rintro⟨F,U⟩;have S:k<cs.length:=by rw[F.len];omega
   have K:=YA B hg hT J I F k (by omega);rw[EB D,Dp S,U]at K;have C:=(Q3 B hg N V R).1 K;have W:=EY B C.2.1;refine⟨num Q cs[k],Cg.2 (Em C.2.1 B),?_⟩;rw[W,BQ ⟨C.2.2.2,C.2.2.1⟩];refine(Tz B hg hT J I k (by omega) _ (by rw[EB D];exact K) cs).2 ⟨F,?_⟩;rw[Dp S,U]
theorem WM {Q T:Tw}:∀(k:Nat) (im:List (List Nat)),(Bo Q T k im).Nodup
 |0,im=>by simp[Bo]
 |k+1,im=>by
  rw[Bo];refine List.pairwise_flatMap.2 ⟨λt _=>?_,?_⟩
  .split
   .exact WM k _
   .exact List.Pairwise.nil
  .refine List.pairwise_iff_getElem.2 λi j hi F J x B y C=>?_;simp only[List.length_range]at hi F;simp only[List.getElem_range]at B C;split at B
   .split at C
    .intro e;have D:=Tg k _ _ B;have I:=Tg k _ _ C;rw[e,I]at D;have:=Nw F hi (List.cons.inj D).1;omega
    .simp at C
   .simp at B
end Dk
namespace EF
open AJ Gen CP BN CL Dk
section
variable {α β:Type} {M:α->Prop} {m:α->α->α} {e:α} {m':β->β->β} {e':β}
theorem YB (G:CE M m e)(f:α->β)(C:f e=e')(D:∀a b,M a->M b->f (m a b)=m' (f a) (f b)){c:α}(B:M c):∀k,f (npow m e c k)=npow m' e' (f c) k
 |0=>C
 |k+1=>by rw[Cu,D _ _ (G.npow B k) B,YB G f C D B k,Cu]
theorem MP (G:CE M m e)(f:α->β)(I:f e=e')(D:∀a b,M a->M b->f (m a b)=m' (f a) (f b))(hi:∀a b,M a->M b->f a=f b->a=b):∀(T:Tw) (cs:List α),(∀c∈cs,M c)->(Rel m' e' T (cs.map f)↔Rel m e T cs)
 |[],[],_=>Iff.rfl
 |[],_::_,_=>Iff.rfl
 |_::_,[],_=>Iff.rfl
 |L::T,c::cs,hc=>by
  have C:=hc c CJ;have B:∀d∈cs,M d:=λd O=>hc d (CW _ O);have J:∀x,ev m' e' (cs.map f) x=f (ev m e cs x):=λx=>(Ir G f I D B x).symm;rw[FC];show(_/\_/\_)↔(_/\_/\_);refine and_congr ?_ (and_congr ?_ (MP G f I D hi T cs B))
  .rw[J,<-YB G f I D C];exact⟨λh=>hi _ _ (G.npow C _) (G.ev B _) h,λh=>by rw[h]⟩
  .constructor
   .intro h j F K;have:=h j (by simpa using F) K;rw[P5,J,<-D _ _ (B _ (Ho F)) C,<-D _ _ C (G.ev B _)]at this;exact hi _ _ (G.cl (B _ (Ho F)) C) (G.cl C (G.ev B _)) this
   .intro h j F K;have N:j<cs.length:=by simpa using F
    have:=h j N K;rw[P5,J,<-D _ _ (B _ (Ho N)) C,<-D _ _ C (G.ev B _),this]
end
theorem Q7 {Q:Tw}(B:Wf Q)(hg:AJ.Good Q):∀(cs:List (List Nat)) (T:Tw),(∀c∈cs,El Q c)->cs.length=T.length->∀j c,cs[j]?=some c->ev (mul Q) (AJ.one Q) cs (unit T j)=c
 |[],T,_,_,j,c,hj=>by simp at hj
 |d::ds,[],_,hl,j,c,hj=>by simp at hl
 |d::ds,L::T,hd,hl,j,c,hj=>by
  have G:=BA B hg;have C:=hd d CJ;cases j with
  |zero=>
   simp only[Bu,EQ]at hj;subst hj;rw[PE];show mul Q (npow (mul Q) (AJ.one Q) d 1) (ev (mul Q) (AJ.one Q) ds (List.replicate T.length 0))=d;rw[G.Jr C,LW B hg,G.eR C]
  |succ j=>
   rw[Qi,Pf B hg (λc D=>hd c (CW _ D))];exact Q7 B hg ds T (λx F=>hd x (CW _ F)) (by simpa using hl) j c (by simpa using hj)
theorem TS {α:Type}(m:α->α->α):∀(cs:List α) (u:α) (n:Nat),BO m u cs (List.replicate n 0)=u
 |[],u,n=>by cases n<;>rfl
 |c::cs,u,0=>rfl
 |c::cs,u,n+1=>TS m cs u n
theorem tT {L:Lv}{T:Tw}(h:2<=L.o)(y z:List Nat):mul (L::T) (0::y) (0::z)=0::mul T y z:=by
 rw[mul_cons,BF (by omega)];rfl
theorem Wm {L:Lv}{T:Tw}(h:Wf (L::T))(hg:AJ.Good T):∀k,k<L.o->npow (mul (L::T)) (AJ.one (L::T)) (unit (L::T) 0) k=k::AJ.one T
 |0,_=>rfl
 |k+1,hk=>by
  have B:El (L::T) (k::AJ.one T):=⟨by omega,CR h.2.2.2.2⟩;rw[Cu,Wm h hg k (by omega),<-Pw h hg B,tg,BF (by omega),BF (by omega)];exact Ck _ (TS _ _ _ _)
theorem kG {L:Lv}{T:Tw}(h:Wf (L::T))(hg:AJ.Good T):npow (mul (L::T)) (AJ.one (L::T)) (unit (L::T) 0) L.o=0::L.w:=by
 obtain⟨k,B⟩:∃k,L.o=k+1:=⟨L.o-1,by have:=h.1;omega⟩;have C:El (L::T) (k::AJ.one T):=⟨by omega,CR h.2.2.2.2⟩;rw[B,Cu,Wm h hg k (by omega),<-Pw h hg C,tg,BQ (by omega),BQ (by omega)];exact Ck _ (TS _ _ _ _)
theorem UB:∀{T:Tw},Wf T->AJ.Good T->Rel (mul T) (AJ.one T) T (Az T)
 |[],_,_=>trivial
 |L::T,h,hg=>by
  have C:=h.2.2.2.2;have D:=h.2.2.2.1;have B:=hg.1;have G:=BA C B;have N:=tT (L:=L) (T:=T) h.1;have J:=Gt C;have I:∀x,El T x->ev (mul (L::T)) (AJ.one (L::T)) ((Az T).map (0:: ·)) x=0::x:=λx O=>by
   rw[<-Ir (f:=(0:: ·)) (m':=mul (L::T)) (e':=AJ.one (L::T)) G rfl (λa b _ _=>(N a b).symm) J x,LM C B O]
  rw[W9];refine⟨?_,λj Q K=>?_,?_⟩
  .rw[kG h B,I _ h.2.1]
  .have S:j<T.length:=by simpa[Az]using Q
   have F:=D _ (Ho K);have V:(Az T)[j]'(by simpa[Az]using S)=unit T j:=by simp[Az]
   have R:=Pw (x:=0::unit T j) h B ⟨by have:=h.1;omega,Ip C j⟩;rw[P5,V,I _ F,<-R,tg,BF (by have:=h.1;omega),BF (by have:=h.1;omega),PE,mul_cons,BF (by have:=h.1;omega)];show 1::BO (mul T) (AJ.one T) L.c (unit T j)=1::mul T (AJ.one T) L.c[j];rw[G.IJ D,G.eL F,Q7 C B L.c T D h.2.2.1 j L.c[j] (AU K)]
  .refine(MP G (0:: ·) rfl (λa b _ _=>(N a b).symm) (λa b _ _ U=>by simpa using U) T (Az T) J).2 (UB C B)
theorem MS {T:Tw}(h:Wf T)(hg:AJ.Good T):BD T T (Az T):=⟨Gt h,UB h hg,λx y B C e=>by rwa[LM h hg B,LM h hg C]at e⟩
abbrev phi (Q:Tw)(u:List (List Nat))(z:List Nat):List Nat:=ev (mul Q) (AJ.one Q) u z
theorem comp {Q S T:Tw}(L:Wf Q)(hg:AJ.Good Q)(K:Wf S)(R:AJ.Good S){u cs:List (List Nat)}(D:BD Q S u)(B:BD S T cs):BD Q T (cs.map (phi Q u)):=by
 have G:=BA L hg;have C:=BA K R;have F:phi Q u (AJ.one S)=AJ.one Q:=LW L hg u _;have I:∀a b,El S a->El S b->phi Q u (mul S a b)=mul Q (phi Q u a) (phi Q u b):=λa b ha J=>G.Lm K D.el D.rel ha J;refine⟨λc h=>?_,(MP C (phi Q u) F I (λa b ha J h=>D.inj a b ha J h) T cs B.el).2 B.rel,λx y N O e=>?_⟩
 .obtain⟨d,_,rfl⟩:=BX.1 h;exact G.ev D.el d
 .rw[<-Ir C (phi Q u) F I B.el,<-Ir C (phi Q u) F I B.el]at e;exact B.inj x y N O (D.inj _ _ (C.ev B.el x) (C.ev B.el y) e)
theorem factor {Q S T:Tw}(U:Wf Q)(hg:AJ.Good Q)(O:Wf S)(Z:AJ.Good S){u es:List (List Nat)}(N:BD Q S u)(R:BD Q T es)(W:∀c∈es,Im Q S u c):∃cs,BD S T cs/\es=cs.map (phi Q u):=by
 classical
 have G:=BA U hg;have K:=BA O Z;have D:phi Q u (AJ.one S)=AJ.one Q:=LW U hg u _;have I:∀a b,El S a->El S b->phi Q u (mul S a b)=mul Q (phi Q u a) (phi Q u b):=λa b ha L=>G.Lm O N.el N.rel ha L
 let F:List Nat->List Nat:=λc=>if h:∃z,El S z/\phi Q u z=c then Classical.choose h else []
 have V:∀c∈es,El S (F c)/\phi Q u (F c)=c:=λc B=>by
  have h:∃z,El S z/\phi Q u z=c:=W c B;have e:F c=Classical.choose h:=dif_pos h;rw[e];exact Kk h
 have C:∀d∈es.map F,El S d:=λd g=>by
  obtain⟨c,B,rfl⟩:=BX.1 g;exact(V c B).1
 have J:es=(es.map F).map (phi Q u):=by
  rw[List.map_map]
  conv=>lhs;rw[<-List.map_id es]
  exact KC λc B=>((V c B).2).symm
 refine⟨es.map F,⟨C,?_,λx y X Y e=>?_⟩,J⟩
 .refine(MP K (phi Q u) D I (λa b ha L h=>N.inj a b ha L h) T _ C).1 ?_;rw[<-J];exact R.rel
 .refine R.inj x y X Y ?_;rw[J,<-Ir K (phi Q u) D I C,<-Ir K (phi Q u) D I C,e]
theorem Qh {Q T:Tw}(D:Wf Q)(hg:AJ.Good Q)(hT:Wf T)(C:AJ.Good T)(B:GQ T)(cs:List (List Nat)):cs∈Bo Q T T.length []↔BD Q T cs:=by
 rw[Tz D hg hT C B T.length AV [] (by rw[JZ];exact Y7)];exact⟨λh=>h.1,λh=>⟨h,P6 (by rw[h.len];exact Al _)⟩⟩
theorem map_inj {α β:Type}{P:α->Prop}{f:α->β}(B:∀a b,P a->P b->f a=f b->a=b):∀(x y:List α),(∀a∈x,P a)->(∀a∈y,P a)->x.map f=y.map f->x=y
 |[],[],_,_,_=>rfl
 |[],b::y,_,_,h=>by simp at h
 |a::x,[],_,_,h=>by simp at h
 |a::x,b::y,hx,hy,h=>by
  rw[FC,FC]at h;obtain⟨C,D⟩:=List.cons.inj h;rw[B a b (hx a CJ) (hy b CJ) C,map_inj B x y (λa ha=>hx a (CW _ ha)) (λa ha=>hy a (CW _ ha)) D]
theorem kH {α β:Type}{P:α->Prop}{f:α->β}(D:∀a b,P a->P b->f a=f b->a=b){l:List α}(B:∀a∈l,P a)(C:l.Nodup):(l.map f).Nodup:=by
 refine List.pairwise_map.2 (Mg ?_ C);intro a b ha F I e;exact I (D a b (B a ha) (B b F) e)
theorem mr {Q T:Tw}(B:Wf Q)(hg:AJ.Good Q)(hT:Wf T){cs:List (List Nat)}(h:BD Q T cs):((List.range (sz T)).map λt=>num Q (phi Q cs (at_ T t))).Nodup:=by
 have G:=BA B hg;refine kH (P:=λt=>t<sz T) (λa b ha D e=>?_) (λa ha=>Cg.1 ha) List.nodup_range;have C:=Ck (at_ Q) e;rw[EY B (G.ev h.el _),EY B (G.ev h.el _)]at C;exact Nw ha D (h.inj _ _ (Cb hT a) (Cb hT b) C)
theorem XW {Q T:Tw}(B:Wf Q)(hg:AJ.Good Q)(hT:Wf T){cs:List (List Nat)}(h:BD Q T cs)(K:sz Q<=sz T){c:List Nat}(D:El Q c):Im Q T cs c:=by
 have G:=BA B hg;by_cases I:num Q c∈(List.range (sz T)).map λt=>num Q (phi Q cs (at_ T t))
 .obtain⟨t,_,e⟩:=BX.1 I;have F:=Ck (at_ Q) e;rw[EY B (G.ev h.el _),EY B D]at F;exact⟨at_ T t,Cb hT t,F⟩
 .have J:(num Q c::(List.range (sz T)).map λt=>num Q (phi Q cs (at_ T t))).Nodup:=List.nodup_cons.2 ⟨I,mr B hg hT h⟩;have:=uI (l₂:=List.range (sz Q)) J (λx C=>by
   rcases EE.1 C with rfl|C
   .exact Cg.2 (Em D B)
   .obtain⟨t,_,rfl⟩:=BX.1 C;exact Cg.2 (Em (G.ev h.el _) B))
  simp at this;omega
end EF
namespace Ll
open AJ Gen CP BN CL Dk EF
theorem Qq {α β:Type}{f:α->List β}{n:Nat}:∀l:List α,(∀u∈l,(f u).length=n)->(l.flatMap f).length=l.length*n
 |[],_=>by simp
 |u::l,h=>by
  rw[IW,Bc,h u CJ,Qq l (λv B=>h v (CW _ B)),DX,Nat.add_mul,Nat.one_mul,Gh]
theorem rA {Q T:Tw}(D:Wf Q)(hg:AJ.Good Q)(hT:Wf T){es:List (List Nat)}(h:BD Q T es):∀c∈es,Im Q T es c:=λc B=>by
 obtain⟨j,C⟩:=Eb B;exact⟨unit T j,Ip hT j,Q7 D hg es T h.el h.len j c C⟩
end Ll
namespace IB
open RowKit AJ Gen CP
def Ao (tl:List (List Nat))(d:Nat):Option (List Nat):=match tl[d]? with
 |some (a::y)=>some (a::y)
 |_=>none
theorem GU {tl:List (List Nat)}{d:Nat}{r:List Nat}(h:tl[d]?=some r)(B:r≠[]):Ao tl d=some r:=by
 unfold Ao;rw[h];cases r with
 |nil=>exact absurd rfl B
 |cons a y=>rfl
theorem KS {tl:List (List Nat)}{d:Nat}(h:tl[d]?=some []):Ao tl d=none:=by unfold Ao;rw[h]
theorem nD {tl:List (List Nat)}{d:Nat}(h:tl.length<=d):Ao tl d=none:=by unfold Ao;rw[Dq h]
theorem Q4 {tl:List (List Nat)}{d:Nat}{y:List Nat}(D:d<tl.length)(C:y≠[]):Ao (tl.set d y)=put (Ao tl) d y:=by
 funext j;unfold put;by_cases B:j=d
 .subst B;rw[BQ rfl,GU (by rw[Jj D]) C]
 .rw[BF B];unfold Ao;rw[KA (λh=>B h.symm)]
theorem ME (n:Nat):Ao (List.replicate n [])=λ_=>none:=by
 funext j;unfold Ao;rw[Gg];split<;>first|rfl|(next h=>split at h<;>simp at h)
def Cx (R:World->Value->List Nat->Prop)(w:World)(g:Nat)(tl:List (List Nat)):Prop:=
 ∃us,w.ownsRow 0 24 1 (.slice (some ⟨g,0,none⟩) tl.length tl.length) tl.length us/\us.length=tl.length/\∀(i:Nat) (r:List Nat) (u:Value),tl[i]?=some r->us[i]?=some u->R w u r
theorem Cx.lt {R:World->Value->List Nat->Prop}{w:World}{g:Nat}{tl:List (List Nat)}(h:Cx R w g tl):g<w.heap.size:=by
 obtain⟨us,B,_⟩:=h;exact(Aq B g rfl).2
theorem Cx.at {R:World->Value->List Nat->Prop}{w:World}{g:Nat}{tl:List (List Nat)}(h:Cx R w g tl){i:Nat}{r:List Nat}(B:tl[i]?=some r):∃u,w.cell? ⟨g,i,none⟩=some u/\w.frozen? ⟨g,i,none⟩=false/\R w u r:=by
 obtain⟨us,C,I,F⟩:=h;have hi:=(Ak.1 B).1;obtain⟨u,D⟩:∃u,us[i]?=some u:=⟨_,AU (by omega)⟩;exact⟨u,by rw[FZ C i (by omega)];exact D,Me C i,F i r u B D⟩
theorem Cx.set {R:World->Value->List Nat->Prop}{w:World}{g:Nat}{tl:List (List Nat)}(h:Cx R w g tl)(d:Nat){u:Value}{y:List Nat}(N:∀u r,R w u r->R (w.setCell ⟨g,d,none⟩ u) u r->True)
  (D:∀v r,R w v r->R (w.setCell ⟨g,d,none⟩ u) v r) (J:R w u y):Cx R (w.setCell ⟨g,d,none⟩ u) g (tl.set d y):=by
 obtain⟨us,I,L,F⟩:=h;refine⟨us.set d u,?_,by simp[L],λi r v B C=>?_⟩
 .have:=(Jz I d u).1;simpa using this
 .by_cases hi:i=d
  .subst hi;have K:i<tl.length:=by
    have:=(Ak.1 B).1;simpa using this
   rw[Jj K]at B;rw[Jj (by omega)]at C;injection B with B;injection C with C;subst B;subst C;exact D _ _ J
  .rw[KA (λh=>hi h.symm)]at B C;exact D _ _ (F i r v B C)
theorem Cx.keep {R:World->Value->List Nat->Prop}{S:Nat->Prop}{w w':World}{g:Nat}{tl:List (List Nat)}(h:Cx R w g tl)(D:Keep S w w')(hg:S g)(O:∀v r,R w v r->R w' v r):Cx R w' g tl:=by
 obtain⟨us,C,Q,I⟩:=h;refine⟨us,⟨C.1,?_⟩,Q,λi r v L F=>O _ _ (I i r v L F)⟩;rcases C.2 with⟨h,_⟩|⟨U,cap,N,h,K,B,J⟩
 .cases h
 .cases h;refine .inr ⟨g,_,N,rfl,K,?_,J⟩;rw[D.block g hg (Bt.1 B).1];exact B
theorem Cx.sl2 {R:World->Value->List Nat->Prop}{w:World}{g:Nat}{tl:List (List Nat)}(h:Cx R w g tl)(K:∀v r,R w v r->AP (λ_=>True) w v (ints r)):AQ (λ_=>True) w (.slice (some ⟨g,0,none⟩) tl.length tl.length) (tl.map ints):=by
 have J:=h.lt;have B:tl.length<=maxLen:=by
  obtain⟨us,D,_⟩:=h;rcases D.2 with⟨h,_⟩|⟨S,cap,U,h,Q,O,_,B,_⟩
  .cases h
  .cases h;exact B
 refine⟨some ⟨g,0,none⟩,tl.length,by simp,by simp,B,by simp,λi r C=>?_⟩;simp only[Bh,Hg]at C;obtain⟨N,I,rfl⟩:=C;obtain⟨u,F,_,L⟩:=h.at I;exact⟨g,0,rfl,trivial,J,u,by rw[CK];exact F,K _ _ L⟩
theorem Cx.made {R:World->Value->List Nat->Prop}(w:World)(n:Nat)(D:n<=maxLen)(F:R (w.alloc (.cells (madeCells #[.slice none 0 0] n) 24)) (.slice none 0 0) []):Cx R (w.alloc (.cells (madeCells #[.slice none 0 0] n) 24)) w.heap.size (List.replicate n []):=by
 refine⟨List.replicate n (.slice none 0 0),?_,by simp,λi r u B C=>?_⟩
 .have:=JD (base:=0) (e:=24) (size:=1) w (madeCells #[.slice none 0 0] n) n (AX _) D (by simp[madeCells]);rw[Kc]at this;simpa using this
 .rw[Gg]at B C;split at B
  .next h=>
   rw[BQ h]at C;injection B with B;injection C with C;subst B;subst C;exact F
  .simp at B
theorem RN (S:Nat->Prop)(w:World):AP S w (.slice none 0 0) (ints []):=⟨none,0,rfl,Al _,by simp,λ_=>rfl,λi x B=>by simp[ints]at B⟩
theorem Own2.pop {e2 e:TypeId}{B:Nat}{w:World}{g c:Nat}{rows:List (List Nat)}{r:List Nat}(h:Own2 e2 e B w (.slice (some ⟨g,0,none⟩) (rows++[r]).length c) (rows++[r])):Own2 e2 e B w (.slice (some ⟨g,0,none⟩) rows.length c) rows:=by
 obtain⟨us,K,U,F⟩:=h;have W:us.length=rows.length+1:=by rw[U];simp
 refine⟨us.take rows.length,⟨by simp;omega,?_⟩,by simp;omega,λi I u D C=>?_⟩
 .rcases K.2 with⟨h,_⟩|⟨V,cap,R,h,N,J,Q,S,O,L⟩
  .cases h
  .cases h;refine .inr ⟨g,c,R,rfl,N,J,by simp at Q;omega,S,O,?_⟩;rw[<-L,List.take_take];congr 1;simp
 .have hi:=(Ak.1 D).1;rw[P9 hi]at C;exact F i I u (by rw[DK hi];exact D) C
end IB
namespace aM
open RowKit AJ Gen CP IB FN BU FX Hf EN Jf Mo Iy
noncomputable abbrev Fj (T:Tw)(tl:List (List Nat))(k d:Nat)(x:List Nat):Nat×List Nat:=strip (mul T) (AJ.one T) fF (Ai T) (Ao tl) k d x
def Rp (T:Tw)(tl:List (List Nat))(x:List Nat)(w:World)(e:Ending)(w':World):Prop:=
 ∃v,e= .returned (.tuple #[.int .i64 ((Fj T tl T.length 0 x).1:Int),v])/\Own w.heap.size w' v (ints (Fj T tl T.length 0 x).2)/\El T (Fj T tl T.length 0 x).2/\Below w.heap.size w w'
theorem kI (T:Tw)(hT:Wf T)(O:Small T)(hg:AJ.Good T)(w:World)(L J C vt vx:Value)(tl:List (List Nat))(x:List Nat)(N:Av Any w L J C (AZ T))(X:AQ Any w vt (tl.map ints))(c8:tl.length=T.length)(hx:AP Any w vx (ints x))(z:El T x)(D:∀r∈tl,r≠[]->El T r):
  Calls Tryz.prog 135 #[.agg #[L,J,C],vt,vx] w (Rp T tl x w):=by
 have HP:=AB N;have HT:=AB X;have HX:=AB hx;have HE:=AB z;have b7:=AB D;have HG:=AB (BA hT hg);have b5:=AB O;have c9:=AB (λr (h:El T r)=>(Br hT hg h).1);have HM:=AB (λW va vb a b N ha hb d F=>KV T hT O W L J C va vb a b N ha hb d F);have d1:=AB (λW va a K hK c5 N ha d=>WT T hT O hg W L J C va a K hK c5 N ha d);obtain⟨aU,cU,a3⟩:=AQ.form X;rw[c8]at a3;subst a3;have c2:(ints x).length<=1000000:=by rw[BK,Ad z];have:=O.1;omega
 have e8:=O.1;clear N X hx z D hT O hg;go_enter Tryz.func135,Tryz.ntmps135;go_wp2_with fail;refine(JW Any _ _ _ (HX.AA.keep (AL.alloc _)) c2).mono ?_;rintro e w1 ⟨g1,c1,rfl,a4,a8⟩;have b3:=AB (show Below (w.heap.size+1) (w.alloc (.cells #[L,J,C] 28)) w1 from a8.mono (by simp));have c4:=AB (a4.mono (B':=w.heap.size) (by simp));clear a4 a8;go_wp2_with fail;go_loopw [8,9] (λov iv wr=>∃(k:Nat) (y:List Nat),k<=T.length/\iv= .int .i64 (k:Int)/\Hid (Own w.heap.size wr ov (ints y))/\Hid (El T y/\Fj T tl (T.length-k) k y=Fj T tl T.length 0 x)/\Below (w.heap.size+1) (w.alloc (.cells #[L,J,C] 28)) wr) (λ_ iv _=>T.length-(intOf iv).toNat);case atStart=>exact⟨0,x,AX _,rfl,c4,AB ⟨HE.AA,rfl⟩,b3.AA⟩
 case round=>
  obtain⟨k,y,hk,rfl,I,B,F⟩:=hrel;have Q:=AB F;have S:=Cq F Any;obtain⟨e0,e1,e2⟩:=CY F;have e9:w.heap.size+1<=wr.heap.size:=by have:=F.size;simp at this;omega
  have c0:=Ad B.AA.1;clear F;by_cases f0:k<T.length
  .obtain⟨j,l⟩:∃j,T.length-k=j+1:=⟨T.length-k-1,by omega⟩;have g:=B.AA.2;rw[l]at g;obtain⟨a,ha⟩:∃a,y[k]?=some a:=⟨_,AU (by omega)⟩;obtain⟨r,D⟩:∃r,tl[k]?=some r:=⟨_,AU (by omega)⟩;have e4:a<7:=b5.AA.lt (s:=0) B.AA.1 (AX _) ha;have b2:fF k y=a:=by unfold fF;rw[BG,ha];rfl
   obtain⟨gv,cv,a2⟩:=I.AA.form (by rw[BK];omega);rw[BK,c0]at a2;subst a2;obtain⟨s1,f1⟩:=I.AA.cell (j:=k) (a:=(a:Int)) (by rw[Dt,ha];rfl);obtain⟨i,oU,d4,vr,V,b6,a5,Z⟩:=AQ.Ka HT.AA D;obtain⟨rfl,rfl⟩:aU=some ⟨i,oU,none⟩/\cU=d4:=by simp only[Du]at V;exact⟨V.1,V.2.2⟩
   have d6:=(S.cell (b:=i) (o:=oU+k) trivial b6).trans a5;have e5:w.heap.size<wr.heap.size:=by omega
   have d8:i<wr.heap.size:=by omega
   have e3:gv<wr.heap.size:=I.AA.lt.2;obtain⟨aR,cR,rfl,_⟩:=AP.open Z;have a7:=AB (HP.AA.keep S);have b4:=AB (AP.keep Z S);have c7:=AB (I.AA.sl.mono (S':=Any) (λ_ _=>trivial));have e6:(k:Int)<(T.length:Int):=by omega
   have d9:(k:Int)<(tl.length:Int):=by omega
   have f2:(0:Int)<=(k:Int):=by omega
   have d2:=AB (b7.AA r (Af D));have a9:=AB D;have q:=AB g;have U:=AB b2;have HJ:=AB l;clear ha D V Z a5 g b2 S l;by_cases a0:a=0
   .subst a0;have Y:=AB (show Fj T tl (T.length-(k+1)) (k+1) y=Fj T tl T.length 0 x by
     rw[<-q.AA,Fj,Fj,Ik U.AA,show T.length-(k+1)=j by have:=HJ.AA;omega])
    go_wp2_with fail;go_roundw;case rel=>exact⟨k+1,y,by omega,by go_num,I,AB ⟨B.AA.1,Y.AA⟩,Q.AA⟩
    case measure=>simp[intOf];omega
   .have hz:((a:Int)==0)=false:=by simp;omega
    by_cases R:r=[]
    .subst R;have p:=AB (show Fj T tl T.length 0 x=(k,y) by
      rw[<-q.AA,Fj,KP (by rw[U.AA];exact a0) (KS a9.AA)])
     have u:=AB (Cy Q.AA);go_wp2_with fail;exact Au (v:=.tuple #[.int .i64 (k:Int),.slice (some ⟨gv,0,none⟩) T.length cv]) (by simp[results,Tryz.results135,go_sem]) rfl (by
      unfold Rp;rw[p.AA];exact⟨_,rfl,I.AA,B.AA.1,u.AA⟩)
    .have e7:((r.length:Int)==0)=false:=by
      have:r.length≠0:=λh=>R (Di h);simp;omega
     have a1:=AB (d2.AA R);have b1:=AB (HG.AA.npow (c9.AA r a1.AA) a);have c6:=AB (HG.AA.cl B.AA.1 b1.AA);have Y:=AB (show Fj T tl (T.length-(k+1)) (k+1) (mul T y (npow (mul T) (AJ.one T) (Ai T r) a))=Fj T tl T.length 0 x by
      rw[<-q.AA,Fj,Fj,Jq (by rw[U.AA];exact a0) (GU a9.AA R),U.AA,show T.length-(k+1)=j by have:=HJ.AA;omega])
     have d0:0<a:=by omega
     have d7:IntKind.i64.wrap (-(a:Int))= -(a:Int):=Ac _ (by omega);clear R;go_wp2_with fail;go_region_held3 (λw'=>(∀b o,b<wr.heap.size->w'.cell? ⟨b,o,none⟩=wr.cell? ⟨b,o,none⟩)/\Keep (λ_=>True) wr w')
      (first|exact Ap (by repeat(first|exact Ab|exact AL|refine AR ?_ ‹_›)))
      (first|(go_at_call 136;refine(d1.AA _ (.slice aR r.length cR) r a (by omega) d0 (a7.AA.keep (by repeat(first|exact Ab|exact AL|refine AR ?_ ‹_›))) (b4.AA.keep (by repeat(first|exact Ab|exact AL|refine AR ?_ ‹_›))) a1.AA).mono ?_;rintro e w6 ⟨v6,rfl,b0,d3⟩)|(go_at_call_of 166 v6;refine(HM.AA _ _ v6 _ _ (a7.AA.keep (by repeat(first|exact Ab|exact AL|refine AR ?_ ‹_›))) (c7.AA.keep (by repeat(first|exact Ab|exact AL|refine AR ?_ ‹_›))) ((b0.sl.mono (λ_ _=>trivial)).keep (by repeat(first|exact Ab|exact AL|refine AR ?_ ‹_›))) B.AA.1 b1.AA).mono ?_;rintro e w8 ⟨v8,rfl,a6,d5⟩))
     have b9:w.heap.size<=w6.heap.size:=by
      have:=(show Keep (λ_=>True) wr w6 from(by repeat(first|exact Ab|exact AL|refine AR ?_ ‹_›))).size;omega
     have c3:=AB (show Below (w.heap.size+1) (w.alloc (.cells #[L,J,C] 28)) w8 from(by repeat(first|exact Q.AA|exact Q.AA.drew|refine Below.step ?_ (by simp) ‹_›)));have b8:=AB (a6.mono b9);clear b0 a6 d3 d5;go_wp2_with fail;go_roundw;case rel=>exact⟨k+1,_,by omega,by go_num,b8,AB ⟨c6.AA,Y.AA⟩,c3.AA⟩
     case measure=>simp[intOf];omega
  .obtain rfl:k=T.length:=by omega
   have u:=AB (Cy Q.AA);have p:=AB (show Fj T tl T.length 0 x=(T.length,y) by
    have:=B.AA.2;rw[Gy]at this;rw[<-this];rfl)
   clear S;go_wp2_with fail;exact Au (by simp[results,Tryz.results135,go_sem];rfl) rfl (by
    unfold Rp;rw[p.AA];exact⟨_,rfl,I.AA,B.AA.1,u.AA⟩)
end aM
namespace Ea
open RowKit AJ Gen CP IB FN BU FX Hf EN Jf Mo Iy Fe
theorem Am.FL {α:Type}{E E':World->Value->α->Prop}{S:Nat->Prop}{w:World}{v:Value}{l:List α}(h:Am E S w v l)(D:∀u x,E w u x->E' w u x):Am E' (λk=>k<w.heap.size) w v l:=by
 obtain⟨C,c,K,Q,I,F,R⟩:=h;refine⟨C,c,K,Q,I,F,λi x J=>?_⟩;obtain⟨b,o,O,e2,B,u,N,L⟩:=R i x J;exact⟨b,o,O,B,B,u,N,D _ _ L⟩
theorem AP.FL {S:Nat->Prop}{w:World}{v:Value}{l:List Int}(h:AP S w v l):AP (λk=>k<w.heap.size) w v l:=Am.FL h (λ_ _ e=>e)
theorem AQ.FL {S:Nat->Prop}{w:World}{v:Value}{l:List (List Int)}(h:AQ S w v l):AQ (λk=>k<w.heap.size) w v l:=Am.FL h (λ_ _ e=>AP.FL e)
def NE (B:Nat)(w:World)(v:Value)(rows:List (List Nat)):Prop:=
 ∃us,w.ownsRow B 24 1 v rows.length us/\us.length=rows.length/\∀(i:Nat) (r:List Nat) (u:Value),rows[i]?=some r->us[i]?=some u->AP (λk=>k<B) w u (ints r)
theorem NE.push {B n:Nat}{w w':World}{v J u:Value}{rows:List (List Nat)}{r:List Nat}{us:List Value}(Q:rows.length=n)(V:B<=w.heap.size)
  (N:w.ownsRow B 24 1 v n us) (K:us.length=rows.length) (U:∀(i:Nat) (r:List Nat) (u:Value),rows[i]?=some r->us[i]?=some u->AP (λk=>k<B) w u (ints r))
  (O:AP (λk=>k<B) w u (ints r)) (S:w'.ownsRow B 24 1 J (n+1) (us++[u])) (hg:w.grownBy w' v.ownBlock):NE B w' J (rows++[r]):=by
 subst Q;have F:Keep (λk=>k<B) w w':=Keep.grown hg (λk F e=>by have:=(Aq N k e.symm).1;omega);refine⟨us++[u],by simpa using S,by simp[K],λi L R C D=>AP.keep ?_ F⟩;rcases CU i rows.length with hi|hi
 .rw[DK hi]at C;rw[DK (by omega)]at D;exact U i L R C D
 .rw[DC hi]at C;rw[DC (by omega)]at D;rw[K]at D;rcases I:i-rows.length with _|j
  .rw[I]at C D;simp at C D;subst C;subst D;exact O
  .rw[I]at C;simp at C
theorem NE.sl2 {B:Nat}{w:World}{v:Value}{rows:List (List Nat)}(h:NE B w v rows):AQ Any w v (rows.map ints):=by
 obtain⟨us,D,W,K⟩:=h;rcases D.2 with⟨rfl,C⟩|⟨g,cap,V,rfl,S,O,C,Q,U,R⟩
 .obtain rfl:rows=[]:=Di C;exact⟨none,0,rfl,Al _,by simp,λ_=>rfl,λi x N=>by simp at N⟩
 .refine⟨some ⟨g,0,none⟩,cap,by simp,by simpa using C,Q,by simp,λi r I=>?_⟩;simp only[Bh,Hg]at I;obtain⟨L,J,rfl⟩:=I;have hi:=(Ak.1 J).1;obtain⟨u,F⟩:∃u,us[i]?=some u:=⟨_,AU (by omega)⟩;refine⟨g,0,rfl,trivial,(Bt.1 O).1,u,?_,(K i L u J F).mono (λ_ _=>trivial)⟩;rw[CK,FZ D i (by omega)];exact F
abbrev SD (T:Tw)(tl:List (List Nat))(d:Nat)(x:List Nat):Prop:=Sd (El T) (mul T) (AJ.one T) T.length fF (Ai T) (Ao tl) d x
abbrev Fv (T:Tw)(im:List (List Nat))(tl:List (List Nat)):Prop:=Oy (El T) (mul T) (AJ.one T) T.length fF (Ai T) im (Ao tl)
def FD (T:Tw)(tl B:List (List Nat))(k:Nat):Prop:=
 ∀d,(k<=d->(Ao tl d=none->Ao B d=none)/\∀y,Ao tl d=some y->∃s,SD T tl (d+1) s/\Ao B d=some (mul T y s)/\Zs fF (Ao tl) (d+1) T.length (mul T y s))/\(d<k->Ao B d=none)
theorem af {T:Tw}{tl:List (List Nat)}{d B:Nat}{x:List Nat}(h:SD T tl d x)(C:B<=d):SD T tl B x:=⟨Oj h.1 C,h.2⟩
theorem FD.row {T:Tw}{tl I im:List (List Nat)}{k j:Nat}(h:FD T tl I k)(F:Fv T im tl)(J:k<=j){r:List Nat}(B:Ao I j=some r)(K:j<T.length):SD T tl j r:=by
 have D:=(h j).1 J;cases C:Ao tl j with
 |none=>rw[D.1 C]at B;simp at B
 |some y=>
  obtain⟨s,L,e,_⟩:=D.2 y C;rw[e]at B;injection B with B;rw[<-B];exact(F.sub j (Ci K)).cl (F.mem j y C) (af L (by omega))
theorem FD.skip {T:Tw}{tl B:List (List Nat)}{k:Nat}(h:FD T tl B (k+1))(I:Ao tl k=none):FD T tl B k:=λd=>by
 refine⟨λF=>?_,λF=>(h d).2 (by omega)⟩;rcases CU k d with C|C
 .exact(h d).1 C
 .obtain rfl:d=k:=by omega
  exact⟨λ_=>(h d).2 (by omega),λy D=>by rw[I]at D;simp at D⟩
theorem FD.put {T:Tw}{tl C:List (List Nat)}{k:Nat}{y s:List Nat}(h:FD T tl C (k+1))(F:Ao tl k=some y)(N:SD T tl (k+1) s)(I:k<C.length)(K:mul T y s≠[])(J:Zs fF (Ao tl) (k+1) T.length (mul T y s)):FD T tl (C.set k (mul T y s)) k:=λd=>by
 rw[Q4 I K];unfold Gen.put;refine⟨λL=>?_,λL=>?_⟩
 .by_cases e:d=k
  .subst e;rw[BQ rfl];exact⟨λD=>by rw[F]at D;simp at D,λz B=>by rw[F]at B;injection B with B;subst B;exact⟨s,N,rfl,J⟩⟩
  .rw[BF e];exact(h d).1 (by omega)
 .rw[BF (by omega)];exact(h d).2 (by omega)
theorem FD.none {T:Tw}{tl B:List (List Nat)}{k j:Nat}(h:FD T tl B k)(D:k<=j)(C:Ao B j=Option.none):Ao tl j=Option.none:=by
 cases F:Ao tl j with
 |none=>rfl
 |some y=>
  obtain⟨s,_,e,_⟩:=((h j).1 D).2 y F;rw[e]at C;simp at C
theorem rC {T:Tw}(hT:Wf T)(hg:AJ.Good T){tl im:List (List Nat)}(L:Fv T im tl)(X:List (List Nat))(k j:Nat)(q x:List Nat)(S:Nat)(h:FD T tl X k)(W:k<=j)(B:j<T.length)(C:Ao X j=some q)(b:El T x)(Z:Zs fF (Ao tl) S j x):
  Zs fF (Ao tl) S (j+1) (mul T x (npow (mul T) (AJ.one T) (Ai T q) (fF j x))):=by
 have F:=Ct hT hg;have I:=h.row L W C B;have O:=L.sub j (Ci B);have Q:=O.npow (F.Gv O I) (fF j x);have U:=O.npow I (fF j x);have Y:=Dr.fr hT B b Q.1;have D:fF j q=1:=by
  have D:=(h j).1 W;cases K:Ao tl j with
  |none=>rw[D.1 K]at C;simp at C
  |some y=>
   obtain⟨s,a,e,_⟩:=D.2 y K;rw[e]at C;injection C with C;obtain⟨_,R,d⟩:=L.tb j y K;have N:=EZ.1 a.1;rw[<-C,F.fm B R.1 N.1.1 R.2 N.1.2,d,N.2];exact EC (F.o2 j B)
 have V:fF j (mul T (npow (mul T) (AJ.one T) q (fF j x)) (npow (mul T) (AJ.one T) (Ai T q) (fF j x)))=0:=by rw[(F.MR I.1.1 _).1,F.fe j B]
 rw[F.fm B U.1.1 Q.1.1 U.1.2 Q.1.2,F.GY B I.1,D,GZ,Nat.mod_add_mod]at V;intro i hi l g;rcases CU i j with J|J
 .rw[Y.1 i J];exact Z i hi J g
 .obtain rfl:i=j:=by omega
  rw[Y.2];exact V
theorem SX (n:Nat)(B:n<=6)(w:World):(Instr.makeSlice 25 (.int .i64 (n:Int)) (.int .i64 (n:Int))).run Tryz.prog w= .ok (.slice (some ⟨w.heap.size,0,none⟩) n n) (w.alloc (.cells (madeCells #[.slice none 0 0] n) 24)):=
 run_make_row' (P:=Tryz.prog) 25 24 (.slice none 0 0) 24 Tryz.underlying25 GJ rfl .i64 .i64 n (by omega) (by omega) w
def ah (T:Tw)(tl:List (List Nat))(w:World)(e:Ending)(w':World):Prop:=
 ∃v B,e= .returned v/\B.length=T.length/\FD T tl B 0/\AQ Any w' v ((BV (Ao B) T.length 0).map ints)/\Below w.heap.size w w'
theorem nE (T:Tw)(hT:Wf T)(hs:Small T)(hg:AJ.Good T)(m4:0<T.length)(w:World)(Y l Z vt:Value)(tl im:List (List Nat))(hP:Av Any w Y l Z (AZ T))(ht:AQ Any w vt (tl.map ints))(j9:tl.length=T.length)(hc:Fv T im tl):
  Calls Tryz.prog 139 #[.agg #[Y,l,Z],vt] w (ah T tl w):=by
 obtain⟨i0,hi,i9,j0,h5⟩:=Bd GJ;have HP:=AB hP;have HT:=AB (AQ.FL ht);have HG:=AB (BA hT hg);have i8:=AB hs;have HC:=AB hc;have i4:=AB (rC hT hg hc);have HF:=AB (Ct hT hg);have k0:=AB (λr (h:El T r)=>(Br hT hg h).1);have HM:=AB (λW va vb a b hP ha hb hA x=>KV T hT hs W Y l Z va vb a b hP ha hb hA x);have k1:=AB (λW va a K hK j4 hP ha hA=>WT T hT hs hg W Y l Z va a K hK j4 hP ha hA);obtain⟨aU,cU,d9⟩:=AQ.form ht;rw[j9]at d9;subst d9;have k2:=hs.1;have n0:=SX T.length k2;obtain⟨wb,a7⟩:∃wb,wb=w.alloc (.cells #[Y,l,Z] 28):=⟨_,rfl⟩;have j2:wb.heap.size=w.heap.size+1:=by rw[a7];simp
 clear hP ht hT hs hg hc;obtain⟨g,b9⟩:∃g,g=w.heap.size+1:=⟨_,rfl⟩;have e8:=AB (show Cx (λW u r=>AP (λk=>k≠g) W u (ints r)) (wb.alloc (.cells (madeCells #[.slice none 0 0] T.length) 24)) g (List.replicate T.length []) by
  have:=Cx.made (R:=λW u r=>AP (λk=>k≠g) W u (ints r)) wb T.length (by unfold maxLen;omega) (RN _ _);rw[j2,<-b9]at this;exact this)
 have f7:=AB (show Below (w.heap.size+1) (w.alloc (.cells #[Y,l,Z] 28)) (wb.alloc (.cells (madeCells #[.slice none 0 0] T.length) 24)) by rw[<-a7];exact AY.alloc (by omega) _);have c6:=AB b9;clear b9;go_enter Tryz.func139,Tryz.ntmps139;go_upto_region 1 with fail;rw[<-a7];clear a7;have d0:True:=trivial;have w9:IntKind.i64.wrap ((T.length:Int)-1)=(T.length:Int)-1:=Ac _ (by omega);go_wp2_with fail;rw[<-c6.AA];go_loopw [6] (λdv wr=>∃(k:Nat) (B:List (List Nat)),k<=T.length/\dv= .int .i64 ((k:Int)-1)/\B.length=T.length/\Hid (FD T tl B k)/\Hid (Cx (λW u r=>AP (λk=>k≠g) W u (ints r)) wr g B)/\Below (w.heap.size+1) (w.alloc (.cells #[Y,l,Z] 28)) wr) (λdv _=>(intOf dv+1).toNat);case atStart=>exact⟨T.length,List.replicate T.length [],Al _,rfl,by simp,AB (λd=>by
   rw[ME];refine⟨λhd=>⟨λ_=>rfl,λy hy=>?_⟩,λ_=>rfl⟩;rw[nD (by omega)]at hy;simp at hy),e8,f7.AA⟩
 case round=>
  obtain⟨k,B,hk,rfl,b3,a1,a4,x⟩:=hrel;have b6:=AB x;have a3:=Cq x Any;obtain⟨e0,e1,e2⟩:=CY x;have g0:w.heap.size+1<=wr.heap.size:=by have:=x.size;simp at this;omega
  have g5:=a4.AA.lt;have l5:w.heap.size<g:=by have:=c6.AA;omega
  clear x e8 f7;by_cases h0:k=0
  .subst h0;rw[show(((0:Nat):Int)-1)= -1 from rfl];have n1:decide ((-1:Int)>=0)=false:=by simp
   have j6:=AB (show Cx (λW u r=>AP (λk=>k<wr.heap.size) W u (ints r)) wr g B from by
    obtain⟨us,J,h2,z⟩:=a4.AA;exact⟨us,J,h2,λi r u hr hu=>AP.FL (z i r u hr hu)⟩)
   have f5:=AB (Cy b6.AA);have g2:=DL (base:=wr.heap.size) (e:=24) (size:=1) wr #[] 0 AV (AX _) rfl;clear a3 a4;go_wp2_with fail;rename World=>F;go_loopw [9,10] (λov iv wr=>∃(k:Nat) (rows:List (List Nat)),k<=T.length/\iv= .int .i64 (k:Int)/\rows.length<=k/\Hid (rows++BV (Ao B) (T.length-k) k=BV (Ao B) T.length 0)/\Hid (NE F.heap.size wr ov rows)/\Below F.heap.size F wr) (λ_ iv _=>T.length-(intOf iv).toNat);case atStart=>exact⟨0,[],AX _,rfl,Al _,AB rfl,AB ⟨[],g2,rfl,by simp⟩,AY.alloc AV _⟩
   case round=>
    obtain⟨k,rows,k9,rfl,h7,hR,a6,hb⟩:=hrel;have HB:=AB hb;have I:Cx (λW u r=>AP (λk=>k<F.heap.size) W u (ints r)) wr g B:=j6.AA.keep (Keep.lt hb) g5 (λv r h=>AP.keep h (Keep.lt hb));have g7:=I.lt;clear hb g2;by_cases V:k<T.length
    .obtain⟨j,X⟩:∃j,T.length-k=j+1:=⟨T.length-k-1,by omega⟩;obtain⟨q,N⟩:∃q,B[k]?=some q:=⟨_,AU (by omega)⟩;have d1:=hR.AA;rw[X]at d1;obtain⟨uq,a9,_,U⟩:=I.at N;obtain⟨aQ,cQ,rfl,_⟩:=AP.open U;obtain⟨C,L⟩:∃C,q.length=C:=⟨_,rfl⟩;rw[L]at a9 U;have m6:(k:Int)<(T.length:Int):=by omega
     have l7:(0:Int)<=(k:Int):=by omega
     have a2:=AB N;have HJ:=AB X;have d7:=AB d1;have g9:=AB U;clear N U I X d1;by_cases D:q=[]
     .obtain rfl:0=C:=by rw[<-L,D];rfl
      have b4:decide (((0:Nat):Int)>0)=false:=by simp
      have b8:=AB (show rows++BV (Ao B) (T.length-(k+1)) (k+1)=BV (Ao B) T.length 0 by
       rw[<-d7.AA,BV,KS (by rw[a2.AA,D]),show T.length-(k+1)=j by have:=HJ.AA;omega])
      clear V L D;go_wp2_with fail;go_roundw;case rel=>exact⟨k+1,rows,by omega,by go_num,by omega,b8,a6,HB.AA⟩
      case measure=>simp[intOf]<;>omega
     .have g3:0<C:=by
       have:q.length≠0:=λh=>D (Di h);omega
      have b4:decide ((C:Int)>0)=true:=by simp;omega
      have i6:(0:Int)<(C:Int):=by omega
      have b8:=AB (show(rows++[q])++BV (Ao B) (T.length-(k+1)) (k+1)=BV (Ao B) T.length 0 by
       rw[<-d7.AA,BV,GU a2.AA D,show T.length-(k+1)=j by have:=HJ.AA;omega];simp)
      obtain⟨us,J,h2,h4⟩:=a6.AA;have HU:=AB (And.intro h2 h4);clear L V h2 h4 a6 D;go_wp2_with (at_builtin;(refine DR _ rfl _ _ 25 rfl F.heap.size 24 i0 (.slice none 0 0) 1 24 Tryz.underlying25 hi i9 j0 h5 rfl (by decide) _ _ _ rfl (Aw J (S:=Any) (AL.alloc _) (λ_ _=>trivial)) ⟨wr.heap.size,0,none⟩ 1 1 [.slice aQ C cQ] rfl rfl ?c1 ?c2 ?c3 ?c4 ?c5 ?_));case c1=>
       intro j u X
       match j,X with
       |0,X=>simp at X;subst X;simp[Addr.add]
      case c2=>intro u hu;simp at hu;subst hu;rfl
      case c3=>unfold maxLen;omega
      case c4=>omega
      case c5=>have:=HB.AA.size;simp;omega
      .intro v' w2 e7 c9 _;have HN:=AB (show NE F.heap.size w2 v' (rows++[q]) from
        NE.push (w:=wr.alloc _) (us:=us) rfl (by have:=HB.AA.size;simp;omega) (Aw J (S:=Any) (AL.alloc _) (λ_ _=>trivial)) HU.AA.1 (λi r u hr hu=>AP.keep (HU.AA.2 i r u hr hu) (AL.alloc _)) (AP.keep g9.AA (AL.alloc _)) e7 c9)
       have g6:=AB (show Below F.heap.size F w2 from(HB.AA.alloc (by have:=HB.AA.size;omega) _).grown c9 (by simp;have:=HB.AA.size;omega) (λg hg=>(Aq J g hg).1));clear e7 c9 J HU;go_wp2_with fail;go_roundw;case rel=>exact⟨k+1,rows++[q],by omega,by go_num,by simp;omega,b8,HN,g6.AA⟩
       case measure=>simp[intOf]<;>omega
    .obtain rfl:k=T.length:=by omega
     have HE:=AB (show rows=BV (Ao B) T.length 0 by
      have:=hR.AA;rw[Gy]at this;rw[<-this];simp[BV])
     have HR:=AB (show ah T tl w (.returned _) wr from⟨_,B,rfl,b3,a1.AA,by rw[<-HE.AA];exact a6.AA.sl2,f5.AA.trans (HB.AA.mono f5.AA.size)⟩);clear I;go_wp2_with fail;go_ret;exact HR.AA
  .obtain⟨d,rfl⟩:∃d,k=d+1:=⟨k-1,by omega⟩;have f6:(((d+1:Nat):Int)-1)=(d:Int):=by omega
   rw[f6];obtain⟨r,hr⟩:∃r,tl[d]?=some r:=⟨_,AU (by omega)⟩;obtain⟨bU,oU,k4,vr,he,j1,e4,c7⟩:=AQ.Ka HT.AA hr;obtain⟨rfl,rfl⟩:aU=some ⟨bU,oU,none⟩/\cU=k4:=by simp only[Du]at he;exact⟨he.1,he.2.2⟩
   have l9:=(a3.cell (b:=bU) (o:=oU+d) trivial j1).trans e4;have m5:w.heap.size<wr.heap.size:=by omega
   have m2:bU<wr.heap.size:=by omega
   have l4:IntKind.i64.wrap ((d:Int)-1)=(d:Int)-1:=Ac _ (by omega);have k7:(d:Int)<(T.length:Int):=by omega
   have l8:(0:Int)<=(d:Int):=by omega
   have m3:=AB a3;have i5:=AB (AP.mono (S':=λk=>k≠g) (AP.keep c7 (a3.mono (λ_ _=>trivial))) (λk (hk:k<w.heap.size)=>by omega));obtain⟨aR,cR,rfl,_⟩:=AP.open c7;have f9:=AB hr;clear hr he c7 e4 a3 h0 f6;by_cases b1:r=[]
   .subst b1;have d2:=AB (a1.AA.skip (KS f9.AA));go_wp2_with fail;go_roundw;case rel=>exact⟨d,B,by omega,rfl,b3,d2,a4,b6.AA⟩
    case measure=>simp[intOf]<;>omega
   .have h7:((r.length:Int)==0)=false:=by
     have:r.length≠0:=λh=>b1 (Di h);simp;omega
    have e3:=AB (GU f9.AA b1);have i1:=AB (HC.AA.mem d r e3.AA);have c8:=AB i1.AA.1.1;have a5:=AB (HC.AA.sub (d+1) (by omega));have j5:=AB (show AP (λk=>k≠g) wr (.slice aR r.length cR) (ints (mul T r (AJ.one T))) by rw[HG.AA.eR c8.AA];exact i5.AA);have m7:IntKind.i64.wrap ((d:Int)+1)=(d:Int)+1:=Ac _ (by omega);clear b1;go_wp2_with fail;rename World=>F;go_loopw [7,8] (λxv ev wr=>∃(j:Nat) (s:List Nat),d+1<=j/\j<=T.length/\ev= .int .i64 (j:Int)/\Hid (SD T tl (d+1) s/\Zs fF (Ao tl) (d+1) j (mul T r s))/\Hid (AP (λk=>k≠g) wr xv (ints (mul T r s)))/\Below F.heap.size F wr) (λ_ ev _=>T.length-(intOf ev).toNat);case atStart=>exact⟨d+1,AJ.one T,Al _,by omega,by go_num,AB ⟨a5.AA.me,λi J h2=>by omega⟩,j5,BB _ _⟩
    case round=>
     obtain⟨j,s,a8,X,rfl,O,hX,Q⟩:=hrel;have a0:Below (w.heap.size+1) (w.alloc (.cells #[Y,l,Z] 28)) wr:=b6.AA.trans (Q.mono g0);have l2:=AB a0;have b7:=AO (S:=Any) Q;have I:Cx (λW u r=>AP (λk=>k≠g) W u (ints r)) wr g B:=a4.AA.keep b7 trivial (λv r h=>AP.keep h (AO Q));have m1:w.heap.size+1<=wr.heap.size:=Ae g0 Q.size;have f3:=AB O.AA.1.1.1;have b0:=AB (HG.AA.cl c8.AA f3.AA);have d3:=Ad b0.AA;obtain⟨aX,cX,d8,j8⟩:=hX.AA.open;rw[d3]at d8 j8;subst d8;obtain⟨f0,f1,f2⟩:=CY a0;have k5:w.heap.size<wr.heap.size:=by omega
     have g7:=I.lt;by_cases V:j<T.length
     .obtain⟨a,ha⟩:∃a,(mul T r s)[j]?=some a:=⟨_,AU (by omega)⟩;obtain⟨q,N⟩:∃q,B[j]?=some q:=⟨_,AU (by omega)⟩;have l3:a<7:=i8.AA.lt (s:=0) b0.AA (AX _) ha;have b5:=hX.AA;rw[<-d3]at b5;obtain⟨bX,oX,he,_,m9,m8⟩:=b5.at ha;subst he;obtain⟨uq,a9,_,U⟩:=I.at N;obtain⟨aQ,cQ,rfl,_⟩:=AP.open U;obtain⟨C,L⟩:∃C,q.length=C:=⟨_,rfl⟩;rw[L]at a9 U;have k8:(j:Int)<(T.length:Int):=by omega
      have m0:(0:Int)<=(j:Int):=by omega
      have i7:=AB (AP.mono (S':=Any) U (λ_ _=>trivial));have g4:=AB (AP.mono (S':=Any) hX.AA (λ_ _=>trivial));have e5:=AB (HP.AA.keep (Cq a0 Any));have a2:=AB N;have e9:=AB (Dr.Rm ha);clear ha N U b5 I a0 b7;by_cases D:q=[]
      .obtain rfl:0=C:=by rw[<-L,D];rfl
       have b4:decide (((0:Nat):Int)>0)=false:=by simp
       have d4:=AB (And.intro O.AA.1 (show Zs fF (Ao tl) (d+1) (j+1) (mul T r s) from λi J h2 b2=>by
        rcases CU i j with z|z
        .exact O.AA.2 i J z b2
        .obtain rfl:i=j:=by omega
         exact absurd (a1.AA.none a8 (KS (by rw[a2.AA,D]))) b2))
       clear V L D;go_wp2_with fail;go_roundw;case rel=>exact⟨j+1,s,by omega,by omega,by go_num,d4,hX,Q⟩
       case measure=>simp[intOf]<;>omega
      .have g3:0<C:=by
        have:q.length≠0:=λh=>D (Di h);omega
       have b4:decide ((C:Int)>0)=true:=by simp;omega
       have i6:(0:Int)<(C:Int):=by omega
       have l0:=AB L;clear L;by_cases h9:a=0
       .subst h9;have hz:(((0:Nat):Int) !=0)=false:=by simp
        have d4:=AB (And.intro O.AA.1 (show Zs fF (Ao tl) (d+1) (j+1) (mul T r s) from λi J h2 b2=>by
         rcases CU i j with z|z
         .exact O.AA.2 i J z b2
         .obtain rfl:i=j:=by omega
          exact e9.AA))
        clear V;go_wp2_with fail;go_roundw;case rel=>exact⟨j+1,s,by omega,by omega,by go_num,d4,hX,Q⟩
        case measure=>simp[intOf]<;>omega
       .have hz:((a:Int) !=0)=true:=by simp;omega
        have d5:=a1.AA.row HC.AA a8 (GU a2.AA D) V;have f4:=AB d5.1.1;have e6:=AB (HG.AA.npow (k0.AA q f4.AA) a);have f8:=AB (HG.AA.Ag c8.AA f3.AA e6.AA);have j3:=AB (And.intro (a5.AA.cl O.AA.1 (a5.AA.npow (HF.AA.Gv a5.AA (af d5 a8)) a)) (show Zs fF (Ao tl) (d+1) (j+1) (mul T r (mul T s (npow (mul T) (AJ.one T) (Ai T q) a))) by
         rw[<-f8.AA];have d6:=i4.AA B (d+1) j q _ (d+1) a1.AA a8 V (GU a2.AA D) b0.AA O.AA.2;rw[e9.AA]at d6;exact d6))
        have h8:0<a:=by omega
        have k6:IntKind.i64.wrap (-(a:Int))= -(a:Int):=Ac _ (by omega);clear d5 D V;go_wp2_with fail;go_region_held3 (λw'=>(∀b o,b<wr.heap.size->w'.cell? ⟨b,o,none⟩=wr.cell? ⟨b,o,none⟩)/\Keep (λ_=>True) wr w')
         (first|exact Ap (by repeat(first|exact Ab|exact AL|refine AR ?_ ‹_›)))
         (first|(go_at_call 136;refine(k1.AA _ (.slice aQ C cQ) q a (by omega) h8 (e5.AA.keep (by repeat(first|exact Ab|exact AL|refine AR ?_ ‹_›))) (i7.AA.keep (by repeat(first|exact Ab|exact AL|refine AR ?_ ‹_›))) f4.AA).mono ?_;rintro e w6 ⟨v6,rfl,g1,k3⟩)|(go_at_call_of 166 v6;refine(HM.AA _ _ v6 _ _ (e5.AA.keep (by repeat(first|exact Ab|exact AL|refine AR ?_ ‹_›))) (g4.AA.keep (by repeat(first|exact Ab|exact AL|refine AR ?_ ‹_›))) ((g1.sl.mono (λ_ _=>trivial)).keep (by repeat(first|exact Ab|exact AL|refine AR ?_ ‹_›))) b0.AA e6.AA).mono ?_;rintro e w8 ⟨v8,rfl,c0,i3⟩))
        have l1:wr.heap.size<=w6.heap.size:=(show Keep (λ_=>True) wr w6 from(by repeat(first|exact Ab|exact AL|refine AR ?_ ‹_›))).size;have i2:=AB (show Below F.heap.size F w8 from(by repeat(first|exact Q|exact Q.drew|refine Below.step ?_ AV ‹_›)));rw[f8.AA]at c0;have g8:=AB (c0.sl.mono (S':=λk=>k≠g) (λk hk=>by omega));clear g1 c0 k3 i3 Q;go_wp2_with fail;go_roundw;case rel=>exact⟨j+1,_,by omega,by omega,by go_num,j3,g8,i2.AA⟩
        case measure=>simp[intOf]<;>omega
     .obtain rfl:j=T.length:=by omega
      obtain⟨q,N⟩:∃q,B[d]?=some q:=⟨_,AU (by omega)⟩;obtain⟨uq,a9,l6,_⟩:=I.at N;have d2:=AB (a1.AA.put e3.AA O.AA.1 (by omega) (λh=>by have:=d3;rw[h]at this;simp at this;omega) O.AA.2);have j7:=AB (Cx.set (u:=.slice aX T.length cX) (y:=mul T r s) I d (λ_ _ _ _=>trivial) (λv r h=>AP.keep h (AL.setCell (by simp) _)) hX.AA);have h6:=AB (a0.setCell (p:=⟨g,d,none⟩) (by have:=c6.AA;show _<=g;omega) (.slice aX T.length cX));clear I a0 b7 N V;go_wp2_with fail;go_roundw;case rel=>exact⟨d,B.set d (mul T r s),by omega,rfl,by simp[b3],d2,j7,h6.AA⟩
      case measure=>simp[intOf]<;>omega
end Ea
end Go.Proofs.YtgjadpmbnejaoaaGreat

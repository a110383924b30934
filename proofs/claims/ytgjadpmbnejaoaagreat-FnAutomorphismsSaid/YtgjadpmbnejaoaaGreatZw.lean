import Derived.Test.YtgjadpmbnejaoaaGreatZv
/-
  Lemmas for the law FnAutomorphisms, in short spelling.
-/
set_option linter.unusedVariables false
set_option linter.unusedSimpArgs false
set_option maxRecDepth 100000
set_option maxHeartbeats 40000000
namespace Go.Proofs.YtgjadpmbnejaoaaGreat
namespace Lr
open AJ Gen CP Fe Dr BN CL Dk EF Ll
noncomputable def JR (T:Tw):List (List Nat)->List Nat->List Nat×List Nat
 |[],x=>([],x)
 |u::us,x=>(fF (dep u) x::(JR T us (mul T (Ai T (npow (mul T) (AJ.one T) u (fF (dep u) x))) x)).1,(JR T us (mul T (Ai T (npow (mul T) (AJ.one T) u (fF (dep u) x))) x)).2)
noncomputable def Ay (T:Tw)(y u:List Nat):List Nat:=mul T (Ai T u) (mul T y u)
noncomputable def BI (T:Tw):List (List Nat)->Tw
 |[]=>[]
 |u::us=>⟨oF T (dep u),(JR T us (npow (mul T) (AJ.one T) u (oF T (dep u)))).1,us.map λy=>(JR T us (Ay T y u)).1⟩::BI T us
def Om (T:Tw):List (List Nat)->Prop
 |[]=>True
 |u::us=>El T u/\dep u<T.length/\fF (dep u) u=1/\(∀v∈us,dep u<dep v)/\Im T (BI T us) us (npow (mul T) (AJ.one T) u (oF T (dep u)))/\(∀y∈us,Im T (BI T us) us (Ay T y u))/\Om T us
theorem PZ {T:Tw}(hT:Wf T)(hg:AJ.Good T){u:List Nat}(B:El T u){a b:List Nat}(ha:El T a)(C:El T b):Ay T (mul T a b) u=mul T (Ay T a u) (Ay T b u):=by
 have G:=BA hT hg;obtain⟨hi,D,F⟩:=Br hT hg B;unfold Ay;rw[G.Ag hi (G.cl ha B) (G.cl hi (G.cl C B)),G.Ag ha B (G.cl hi (G.cl C B)),<-G.Ag B hi (G.cl C B),D,G.eL (G.cl C B),G.Ag ha C B]
theorem JY {T:Tw}(hT:Wf T)(hg:AJ.Good T){u a:List Nat}(B:El T u)(ha:El T a):El T (Ay T a u):=Bz hT (Br hT hg B).1 (Bz hT ha B)
theorem Ng {T:Tw}(hT:Wf T)(hg:AJ.Good T){u:List Nat}(B:El T u):Ay T (AJ.one T) u=AJ.one T:=by
 have G:=BA hT hg;unfold Ay;rw[G.eL B,(Br hT hg B).2.2]
theorem LK {T:Tw}(hT:Wf T)(hg:AJ.Good T){u a:List Nat}(B:El T u)(ha:El T a):mul T u (Ay T a u)=mul T a u:=by
 have G:=BA hT hg;obtain⟨hi,C,D⟩:=Br hT hg B;unfold Ay;rw[<-G.Ag B hi (G.cl ha B),C,G.eL (G.cl ha B)]
theorem Pb {T:Tw}(hT:Wf T)(hg:AJ.Good T){u a b:List Nat}(B:El T u)(ha:El T a)(C:El T b)(h:Ay T a u=Ay T b u):a=b:=by
 have G:=BA hT hg;have:=LK hT hg B ha;rw[h,LK hT hg B C]at this;exact(G.Nh B C ha this).symm
theorem ZC {T:Tw}(hT:Wf T)(hg:AJ.Good T){u a:List Nat}(B:El T u)(ha:El T a):∀k,mul T (npow (mul T) (AJ.one T) u k) (it (λz=>Ay T z u) k a)=mul T a (npow (mul T) (AJ.one T) u k)
 |0=>by
  have G:=BA hT hg;rw[GR,it,G.eL ha,G.eR ha]
 |k+1=>by
  have G:=BA hT hg;have C:=G.npow B k;have D:El T (it (λz=>Ay T z u) k a):=GH (El T) _ (λz F=>JY hT hg B F) k a ha;rw[Cu,EX,G.Ag C B (JY hT hg B D),LK hT hg B D,<-G.Ag C D B,ZC hT hg B ha k,G.Ag ha C B]
structure Mx (T:Tw)(us:List (List Nat)):Prop where
 wf:Wf (BI T us)
 gd:AJ.Good (BI T us)
 em:BD T (BI T us) us
 mx:∀x,Im T (BI T us) us x->(JR T us x).2=AJ.one T/\El (BI T us) (JR T us x).1/\ev (mul T) (AJ.one T) us (JR T us x).1=x
theorem tu {T:Tw}(C:GQ T){d:Nat}(D:d<T.length):oF T d=2\/oF T d=3\/oF T d=5\/oF T d=7:=by
 obtain⟨L,B⟩:∃L,T[d]?=some L:=⟨_,AU D⟩;rw[He B];exact C L (Af B)
theorem Zp {T:Tw}{x:List Nat}{d:Nat}(B:El T x)(h:d<=dep x):A (El T) fF d x:=Oj (Oa B) h
theorem dS {T:Tw}(hT:Wf T)(hg:AJ.Good T){us:List (List Nat)}{S:Tw}{d:Nat}(I:d<=T.length)(h:∀v∈us,A (El T) fF d v){x:List Nat}(J:Im T S us x):A (El T) fF d x:=by
 have F:=Ct hT hg;obtain⟨z,_,rfl⟩:=J;have B:=F.Gc I;have:∀(us:List (List Nat)),(∀v∈us,A (El T) fF d v)->∀z,A (El T) fF d (ev (mul T) (AJ.one T) us z):=by
  intro us
  induction us with
  |nil=>intro _ z;cases z<;>exact B.me
  |cons v us ih=>intro C z;cases z with
   |nil=>exact B.me
   |cons a z=>exact B.cl (B.npow (C v CJ) a) (ih (λw D=>C w (CW _ D)) z)
 exact this us h z
theorem Zq {T:Tw}:∀{us:List (List Nat)},Om T us->∀u∈us,El T u/\dep u<T.length
 |[],_,u,B=>by simp at B
 |v::us,h,u,B=>by
  rcases EE.1 B with rfl|B
  .exact⟨h.1,h.2.1⟩
  .exact Zq h.2.2.2.2.2.2 u B
theorem Pq {T:Tw}(hT:Wf T)(hg:AJ.Good T)(hp:GQ T):∀{us:List (List Nat)},Om T us->Mx T us
 |[],_=>⟨trivial,trivial,Y7,λx q=>by
  obtain⟨z,C,rfl⟩:=q;cases z with
  |nil=>exact⟨rfl,trivial,rfl⟩
  |cons a z=>exact C.elim⟩
 |u::us,hch=>by
  obtain⟨B,X,h1,c1,b8,b9,b2⟩:=hch;have M:=Pq hT hg hp b2;have G:=BA hT hg;have F:=Ct hT hg;have R:=M.wf;have p:=M.gd;have U:=BA R p;have D:=M.em;have a7:=Zq b2;have a6:A (El T) fF (dep u) u:=Oa B;have a5:∀v∈us,A (El T) fF (dep u+1) v:=λv J=>Zp (a7 v J).1 (c1 v J);have a9:=M.mx _ b8;have a1:=λy O=>M.mx _ (b9 y O);have he:phi T us (AJ.one (BI T us))=AJ.one T:=LW hT hg us _;have Y:∀a b,El (BI T us) a->El (BI T us) b->phi T us (mul (BI T us) a b)=mul T (phi T us a) (phi T us b):=λa b ha K=>G.Lm R D.el D.rel ha K;obtain⟨L,V⟩:∃L:Lv,L=⟨oF T (dep u),(JR T us (npow (mul T) (AJ.one T) u (oF T (dep u)))).1,us.map λy=>(JR T us (Ay T y u)).1⟩:=⟨_,rfl⟩;have a2:L.o=oF T (dep u):=by rw[V]
  have b1:L.w=(JR T us (npow (mul T) (AJ.one T) u (oF T (dep u)))).1:=by rw[V]
  have W:L.c=us.map λy=>(JR T us (Ay T y u)).1:=by rw[V]
  have s:BI T (u::us)=L::BI T us:=by rw[V];rfl
  have b5:=tu hp X;rw[<-a2]at b5;have S:∀y∈L.c,El (BI T us) y:=λy O=>by
   rw[W]at O;obtain⟨v,J,rfl⟩:=BX.1 O;exact(a1 v J).2.1
  have I:El (BI T us) L.w:=by rw[b1];exact a9.2.1
  have l:Wf (L::BI T us):=⟨by omega,I,by rw[W,BC];exact D.len,S,R⟩;have d:phi T us L.w=npow (mul T) (AJ.one T) u L.o:=by rw[b1,a2];exact a9.2.2
  have a8:L.c.map (phi T us)=us.map λy=>Ay T y u:=by
   rw[W,List.map_map];exact KC λy O=>(a1 y O).2.2
  have hF:Gd T L us u:=by
   refine⟨d.symm,λk y N=>?_⟩;rw[W,Bh,Hg]at N;obtain⟨v,J,rfl⟩:=N;rw[BG,J,(a1 v (Af J)).2.2,LK hT hg B (a7 v (Af J)).1];rfl
  have hn:¬Gen (mul T) (AJ.one T) us u:=λQ=>by
   have i:=dS hT hg (by omega) a5 ((Pp hT hg R D.el D.rel u).1 Q);have:=i.2 (dep u) (by omega);omega
  have b3:BD T (L::BI T us) (u::us):=(Q3 hT hg l p b5).2 ⟨D,B,hF,hn⟩;have c4:∀a b,El T a->El T b->Ay T a u=Ay T b u->a=b:=λa b ha K h=>Pb hT hg B ha K h;have a3:∀a b,El T a->El T b->Ay T (mul T a b) u=mul T (Ay T a u) (Ay T b u):=λa b ha K=>PZ hT hg B ha K;have b0:∀z,El (BI T us) z->phi T us (img (BI T us) L.c z)=Ay T (phi T us z) u:=λz C=>by
   rw[show img (BI T us) L.c z=ev (mul (BI T us)) (AJ.one (BI T us)) L.c z from U.IJ S z];rw[show phi T us (ev (mul (BI T us)) (AJ.one (BI T us)) L.c z)=ev (mul T) (AJ.one T) (L.c.map (phi T us)) z from Ir U (phi T us) he Y S z,a8];exact(Ir G (λy=>Ay T y u) (Ng hT hg B) a3 D.el z).symm
  have g:∀z,El (BI T us) z->El (BI T us) (img (BI T us) L.c z):=λz C=>KZ R S z;have c3:∀k z,El (BI T us) z->phi T us (it (img (BI T us) L.c) k z)=it (λy=>Ay T y u) k (phi T us z):=λk=>by
   induction k with
   |zero=>intro z C;rfl
   |succ k ih=>intro z C;rw[it,it,ih _ (g z C),b0 z C]
  have a4:AJ.Good (L::BI T us):=by
   refine⟨p,?_,?_,λj hj=>?_⟩
   .refine(MP U (phi T us) he Y (λa b ha K h=>D.inj a b ha K h) (BI T us) L.c S).1 ?_;rw[a8];exact(MP G (λy=>Ay T y u) (Ng hT hg B) a3 c4 (BI T us) us D.el).2 D.rel
   .refine D.inj _ _ (g _ I) I ?_;have r:phi T us (img (BI T us) L.c L.w)=phi T us L.w:=by
     rw[b0 _ I,d];have N:=G.npow B L.o;refine G.Js B (JY hT hg B N) N ?_;rw[LK hT hg B N,<-Cu (mul T) (AJ.one T) u L.o];have:=G.JU B 1 L.o;rw[G.Jr B]at this;rw[<-this,Gh]
    exact r
   .have Z:=Ip R j;have b6:El (BI T us) (it (img (BI T us) L.c) L.o (unit (BI T us) j)):=GH (El (BI T us)) _ g L.o _ Z;refine D.inj _ _ (U.cl I b6) (U.cl Z I) ?_;have r:phi T us (mul (BI T us) L.w (it (img (BI T us) L.c) L.o (unit (BI T us) j)))=phi T us (mul (BI T us) (unit (BI T us) j) L.w):=by
     rw[Y _ _ I b6,Y _ _ Z I,c3 _ _ Z,d,ZC hT hg B (G.ev D.el _) L.o]
    exact r
  rw[<-s]at l a4 b3;refine⟨l,a4,b3,λx q=>?_⟩;obtain⟨z,C,rfl⟩:=q;rw[s]at C;cases z with
  |nil=>exact C.elim
  |cons a z=>
   have Q:A (El T) fF (dep u+1) (ev (mul T) (AJ.one T) us z):=dS hT hg (by omega) a5 ⟨z,C.2,rfl⟩;have a0:=G.npow B a;have b7:fF (dep u) (ev (mul T) (AJ.one T) (u::us) (a::z))=a:=by
    show fF (dep u) (mul T (npow (mul T) (AJ.one T) u a) (ev (mul T) (AJ.one T) us z))=a;have c0:=(F.Gc (Ci X)).npow a6 a;have b4:=(EZ.1 Q);rw[F.fm X a0 Q.1 c0.2 b4.1.2,b4.2,F.GY X a6,h1,GZ,Iw,Nat.mod_mod,EC (by rw[<-a2];exact C.1)]
   have c2:mul T (Ai T (npow (mul T) (AJ.one T) u a)) (ev (mul T) (AJ.one T) (u::us) (a::z))=ev (mul T) (AJ.one T) us z:=by
    show mul T (Ai T (npow (mul T) (AJ.one T) u a)) (mul T (npow (mul T) (AJ.one T) u a) (ev (mul T) (AJ.one T) us z))=_;obtain⟨hi,_,i⟩:=Br hT hg a0;rw[<-G.Ag hi a0 Q.1,i,G.eL Q.1]
   obtain⟨m1,m2,m3⟩:=M.mx _ ⟨z,C.2,rfl⟩;rw[JR,b7,c2,s];refine⟨m1,⟨C.1,m2⟩,?_⟩;show mul T (npow (mul T) (AJ.one T) u a) (ev (mul T) (AJ.one T) us _)=_;rw[m3];rfl
end Lr
namespace QR
open AJ Val Ba Gen CP Fe Dr BN CL Dk EF Ll Lr Hy
theorem YD {T:Tw}(hT:Wf T)(hg:AJ.Good T)(b:GQ T){im:List (List Nat)}{t K:Nat->Option (List Nat)}(X:Qa T im t)(Q:Cf (El T) (mul T) (AJ.one T) T.length fF (Ai T) t K):
  ∀(k d:Nat),d+k=T.length->Om T (BV K k d)/\∀x,Im T (BI T (BV K k d)) (BV K k d) x↔IG T t d x
 |0,d,hd=>by
  have F:=Ct hT hg;refine⟨trivial,λx=>⟨?_,λh=>?_⟩⟩
  .rintro⟨z,C,rfl⟩;have:ev (mul T) (AJ.one T) (BV K 0 d) z=AJ.one T:=by cases z<;>rfl
   rw[this];exact(X.sub d (by omega)).me
  .have:x=AJ.one T:=F.ze h.1.1 (λj hj=>h.1.2 j (by omega));exact⟨[],trivial,this.symm⟩
 |k+1,d,hd=>by
  have F:=Ct hT hg;have G:=F.G;obtain⟨S,L⟩:=YD hT hg b X Q k (d+1) (by omega);cases V:t d with
  |none=>
   rw[UU ((Q d).1 V)];refine⟨S,λx=>(L x).trans ⟨λh=>(Ej.1 h).1,λh=>Ej.2 ⟨h,RI (k:=k) hd V h⟩⟩⟩
  |some y=>
   obtain⟨r,B,Y,_,l⟩:=(Q d).2 y V;rw[UV l];have D:d<T.length:=by omega
   have I:=X.sub d (by omega);have s:=B.1.1;have O:dep r=d:=MW B.1 (by rw[Y];omega) D;have M:=Pq hT hg b S;have a2:∀v∈BV K k (d+1),IG T t (d+1) v:=λv J=>(L v).1 (rA hT hg M.wf M.em v J);have a5:=λa=>(I.npow B a).1;have i:∀a,fF d (npow (mul T) (AJ.one T) r a)=a%oF T d:=λa=>by rw[F.GY D B.1,Y,GZ]
   have q:IG T t (d+1) (npow (mul T) (AJ.one T) r (oF T d)):=Ej.2 ⟨I.npow B _,by rw[i,Nat.mod_self]⟩;have hinv:∀z,IG T t d z->IG T t d (Ai T z)/\(fF d (Ai T z)+fF d z)%oF T d=0:=λz C=>by
    have N:=F.Gv I C;refine⟨N,?_⟩;rw[<-F.fm D N.1.1 C.1.1 N.1.2 C.1.2,F.iL C.1.1,F.fe d D]
   have u:∀v∈BV K k (d+1),IG T t (d+1) (Ay T v r):=λv J=>by
    obtain⟨U,a0⟩:=Ej.1 (a2 v J);obtain⟨hi,R⟩:=hinv r B;have W:=I.cl U B;have a1:=I.cl hi W;refine Ej.2 ⟨a1,?_⟩;show fF d (mul T (Ai T r) (mul T v r))=0;rw[F.fm D hi.1.1 W.1.1 hi.1.2 W.1.2,F.fm D U.1.1 B.1.1 U.1.2 B.1.2,a0,CK,Nat.add_mod_mod,R]
   refine⟨⟨s,by rw[O];exact D,by rw[O];exact Y,λv J=>?_,?_,λv J=>(L _).2 (u v J),S⟩,λx=>⟨?_,λh=>?_⟩⟩
   .rw[O];have:=Zp (M.em.el v J) AV;rcases CU d (dep v)with h|h
    .exact h
    .obtain⟨j,a4,a6,a3⟩:=Nt J;have g:=FV.row (Cf.NG Q 0) (AX _) a3;rw[MW g.1.1 (by rw[g.2.1];omega) (by omega)]at h;omega
   .rw[O];exact(L _).2 q
   .rintro⟨z,C,rfl⟩;cases z with
    |nil=>exact C.elim
    |cons a z=>
     have N:=(L _).1 ⟨z,C.2,rfl⟩;exact I.cl (I.npow B a) (Ej.1 N).1
   .have ha:fF d x<oF T d:=F.lt D h.1.1;have Z:=I.npow B (fF d x);obtain⟨hi,R⟩:=hinv _ Z;rw[i,EC ha]at R;have hh:=I.cl hi h;have p:fF d (mul T (Ai T (npow (mul T) (AJ.one T) r (fF d x))) x)=0:=by rw[F.fm D hi.1.1 h.1.1 hi.1.2 h.1.2,R]
    obtain⟨z,C,e⟩:=(L _).2 (Ej.2 ⟨hh,p⟩);refine⟨fF d x::z,⟨by show fF d x<oF T (dep r);rw[O];exact ha,C⟩,?_⟩;show mul T (npow (mul T) (AJ.one T) r (fF d x)) (ev (mul T) (AJ.one T) _ z)=x;rw[e,<-G.Ag Z.1.1 hi.1.1 h.1.1,F.iR Z.1.1,G.eL h.1.1]
theorem Pg {T:Tw}(hT:Wf T)(hg:AJ.Good T)(C:GQ T){im us:List (List Nat)}(h:Dl T im us):Om T us/\∀x,Im T (BI T us) us x↔Gen (mul T) (AJ.one T) im x:=by
 obtain⟨t,J,B,I,rfl⟩:=h;obtain⟨F,D⟩:=YD hT hg C B I T.length 0 (by omega);exact⟨F,λx=>(D x).trans (B.gen x).symm⟩
end QR
namespace dz
open AJ Val Ba Gen CP Fe Dr BN CL Jc KD Dk EF Ll Lr QR Hy
structure SY (T:Tw)(M:Nat):Prop where
 inn:∀c,M.testBit c=true->c<sz T
 one:M.testBit 0=true
 mul:∀a b,M.testBit a=true->M.testBit b=true->M.testBit (pr T a b)=true
def MC (M N:Nat):Prop:=∀c,M.testBit c=true->N.testBit c=true
structure Vd (T:Tw)(M x N:Nat):Prop where
 sub:SY T N
 le:MC M N
 has:N.testBit x=true
 least:∀K,SY T K->MC M K->K.testBit x=true->MC N K
theorem MC.le {M N:Nat}(h:MC M N):M<=N:=by
 have e:M ||| N=N:=Nat.eq_of_testBit_eq λi=>by
  rw[Nat.testBit_or];cases B:M.testBit i with
  |false=>simp
  |true=>simp[h i B]
 rw[<-e];exact Nat.left_le_or
theorem MC.eq {M N:Nat}(h:MC M N)(B:MC N M):M=N:=Nat.le_antisymm h.le B.le
theorem SY.lt {T:Tw}{M:Nat}(C:sz T<=32)(h:SY T M):M<4294967296:=by
 have:=Nat.lt_pow_two_of_testBit (n:=32) M λi hi=>by
  cases B:M.testBit i with
  |false=>rfl
  |true=>have:=h.inn i B;omega
 exact this
theorem Vd.one {T:Tw}{M x N C:Nat}(h:Vd T M x N)(B:Vd T M x C):N=C:=(h.least _ B.sub B.le B.has).eq (B.least _ h.sub h.le h.has)
end dz
namespace QN
open AJ Gen CP IB BN Ea
theorem Ur {α:Type}{t:Nat->Option α}{o:Nat->Nat}:∀(k d i:Nat) (u:α),(BV t k d)[i]?=some u->∃j,d<=j/\j<d+k/\t j=some u/\(FI t o k d)[i]?=some (o j)
 |0,d,i,u,h=>by simp[BV]at h
 |k+1,d,i,u,h=>by
  rw[BV]at h;rw[FI];cases C:t d with
  |none=>
   rw[C]at h;obtain⟨j,I,F,D,B⟩:=Ur (o:=o) k (d+1) i u h;exact⟨j,by omega,by omega,D,B⟩
  |some v=>
   rw[C]at h;cases i with
   |zero=>
    simp at h;subst h;exact⟨d,Al _,by omega,C,rfl⟩
   |succ i=>
    obtain⟨j,I,F,D,B⟩:=Ur (o:=o) k (d+1) i u (by simpa using h);exact⟨j,by omega,by omega,D,by simpa using B⟩
theorem Ti {α:Type}{t:Nat->Option α}{o:Nat->Nat}:∀(k d:Nat),(FI t o k d).length=(BV t k d).length
 |0,d=>rfl
 |k+1,d=>by
  rw[FI,BV];cases t d with
  |none=>exact Ti k (d+1)
  |some v=>simp[Ti k (d+1)]
theorem ZE {α:Type}{t:Nat->Option α}:∀(k d:Nat),(BV t k d).length<=k
 |0,d=>Al _
 |k+1,d=>by
  rw[BV];have:=ZE (t:=t) k (d+1);cases t d with
  |none=>simp only;omega
  |some v=>simp only[DX];omega
def BM (os:List Nat):Tw:=os.map λo=>⟨o,[],[]⟩
theorem Zr:∀(os es:List Nat),El (BM os) es↔QY es os
 |[],[]=>Iff.rfl
 |[],_::_=>Iff.rfl
 |_::_,[]=>Iff.rfl
 |o::os,a::es=>by
  show(a<o/\El (BM os) es)↔(a<o/\QY es os);rw[Zr os es]
theorem Wo (os:List Nat):(BM os).length=os.length:=by simp[BM]
theorem Zt {os:List Nat}(h:∀o∈os,1<=o)(k:Nat):El (BM os) (at_ (BM os) k):=by
 induction os with
 |nil=>trivial
 |cons o os ih=>exact⟨Nat.mod_lt _ (h o CJ),ih (λx B=>h x (CW _ B))⟩
theorem rR {os es:List Nat}(h:QY es os):num (BM os) es<sz (BM os)/\at_ (BM os) (num (BM os) es)=es:=by
 induction os generalizing es with
 |nil=>cases es with
  |nil=>exact⟨by simp[num,BM,sz],rfl⟩
  |cons _ _=>exact h.elim
 |cons o os ih=>cases es with
  |nil=>exact h.elim
  |cons a es=>
   obtain⟨I,F⟩:=ih h.2;have ha:=h.1;have e:num (BM (o::os)) (a::es)=a*sz (BM os)+num (BM os) es:=rfl;have C:0<sz (BM os):=by omega
   refine⟨?_,?_⟩
   .rw[e];show _<o*sz (BM os);have:(a+1)*sz (BM os)<=o*sz (BM os):=Mr _ ha;rw[Nat.add_mul,Nat.one_mul]at this;omega
   .rw[e];show((a*sz (BM os)+num (BM os) es)/sz (BM os)%o)::at_ (BM os) (a*sz (BM os)+num (BM os) es)=a::es;rw[Gh,Nat.add_mul_div_right _ _ C,Nat.div_eq_of_lt I,CK,EC ha];congr 1;have D:∀(T:Tw) (k b:Nat),at_ T (k+b*sz T)=at_ T k:=by
     intro T
     induction T with
     |nil=>intro _ _;rfl
     |cons L T ih=>
      intro k b;show((k+b*(L.o*sz T))/sz T%L.o)::at_ T (k+b*(L.o*sz T))=(k/sz T%L.o)::at_ T k;rw[<-Nat.mul_assoc,ih k (b*L.o)];congr 1;rcases Nat.eq_zero_or_pos (sz T)with B|B
      .rw[B];simp
      .rw[Nat.add_mul_div_right _ _ B,Nat.add_mul_mod_self_right]
    rw[D,F]
theorem VB {T:Tw}(hT:Wf T)(t:Nat->Option (List Nat)):∀(k d:Nat),d+k=T.length->sz (BM (FI t (oF T) k d))<=sz (T.drop d)/\∀o∈FI t (oF T) k d,2<=o/\∃L∈T,o=L.o
 |0,d,h=>⟨by simp[FI,BM,sz];exact FM (DJ hT d),by simp[FI]⟩
 |k+1,d,h=>by
  obtain⟨L,B⟩:∃L,T[d]?=some L:=⟨_,AU (by omega)⟩;obtain⟨F,D⟩:=VB hT t k (d+1) (by omega);have J:=(En hT B).2.2.2.2;have I:=Jt B;rw[FI];cases t d with
  |none=>
   refine⟨Ae F ?_,D⟩;rw[I];have:1*sz (T.drop (d+1))<=L.o*sz (T.drop (d+1)):=Mr _ (by omega);omega
  |some v=>
   refine⟨?_,?_⟩
   .rw[I];show oF T d*sz (BM (FI t (oF T) k (d+1)))<=_;rw[He B];exact Md _ F
   .intro o C;rcases EE.1 C with rfl|C
    .rw[He B];exact⟨J,L,Af B,rfl⟩
    .exact D o C
theorem lead {T:Tw}{tl K im:List (List Nat)}{j:Nat}(hT:Wf T)(hg:AJ.Good T)(h:FD T tl K 0)(Q:Fv T im tl){r:List Nat}(B:Ao K j=some r)(J:j<T.length):A (El T) fF j r/\fF j r=1:=by
 have F:=Ct hT hg;have L:=(h j).1 (AX _);cases D:Ao tl j with
 |none=>rw[L.1 D]at B;simp at B
 |some y=>
  obtain⟨s,O,e,_⟩:=L.2 y D;rw[e]at B;injection B with B;obtain⟨_,I,N⟩:=Q.tb j y D;have C:=EZ.1 O.1;rw[<-B];refine⟨F.aD (Ci J) I C.1,?_⟩;rw[F.fm J I.1 C.1.1 I.2 C.1.2,N,C.2];exact EC (F.o2 j J)
theorem ng {T:Tw}{j:Nat}{r:List Nat}(h:A (El T) fF j r)(B:fF j r=1):(∀i,i<j->r[i]?=some 0)/\r[j]?=some 1:=by
 have D:r[j]?=some 1:=by
  unfold fF at B;rw[BG]at B;cases F:r[j]? with
  |none=>rw[F]at B;simp at B
  |some a=>rw[F]at B;simp at B;rw[B]
 refine⟨λi hi=>?_,D⟩;have I:=(Ak.1 D).1;have C:=h.2 i hi;unfold fF at C;rw[BG,AU (by omega)]at C;rw[AU (by omega)];simpa using C
theorem rT {T:Tw}{tl B im:List (List Nat)}(hT:Wf T)(hg:AJ.Good T)(h:FD T tl B 0)(C:Fv T im tl)(x:List Nat):
  Gen (mul T) (AJ.one T) im x↔∃k,k<sz (BM (FI (Ao B) (oF T) T.length 0))/\ev (mul T) (AJ.one T) (BV (Ao B) T.length 0) (at_ (BM (FI (Ao B) (oF T) T.length 0)) k)=x:=by
 have F:=Ct hT hg;have I:fP (El T) (mul T) (AJ.one T) T.length fF (Ai T) (Ao tl) (Ao B):=λd=>⟨((h d).1 (AX _)).1,λy J=>(((h d).1 (AX _)).2 y J).imp λs q=>⟨q.1,q.2.1⟩⟩;rw[C.gen x,F.full C.tb C.sub C.mem I T.length 0 (by omega) x];have O:∀o∈FI (Ao B) (oF T) T.length 0,1<=o:=λo D=>by have:=((VB hT (Ao B) T.length 0 (by omega)).2 o D).1;omega
 constructor
 .rintro⟨es,K,N⟩;obtain⟨Q,L⟩:=rR K;exact⟨_,Q,by rw[L];exact N⟩
 .rintro⟨k,R,e⟩;exact⟨_,(Zr _ _).1 (Zt O k),e⟩
end QN
namespace SB
open RowKit AJ BN CP QN FN BU FX Hf EN Jf Iy
def Sa (T:Tw)(us:List (List Nat))(os:List Nat):Prop:=
 us.length=os.length/\us.length<=6/\∀(i:Nat) (u:List Nat),us[i]?=some u->∃(j:Nat) (L:Lv),T[j]?=some L/\os[i]?=some L.o/\(∀i,i<j->u[i]?=some 0)/\u[j]?=some 1/\u.length<=1000
theorem nu {os:List Nat}{k o:Nat}(h:os[k]?=some o):sz (BM (os.take (k+1)))=sz (BM (os.take k))*o:=by
 induction os generalizing k with
 |nil=>simp at h
 |cons a os ih=>cases k with
  |zero=>simp at h;subst h;simp[BM,sz]
  |succ k=>
   have:=ih (k:=k) (by simpa using h);show a*sz (BM (os.take (k+1)))=a*sz (BM (os.take k))*o;rw[this,Nat.mul_assoc]
theorem kK {os:List Nat}(h:∀o∈os,o<=7)(C:os.length<=6):sz (BM os)<=117649:=by
 have:∀os:List Nat,(∀o∈os,o<=7)->sz (BM os)<=7^os.length:=by
  intro os
  induction os with
  |nil=>intro _;simp[BM,sz]
  |cons a os ih=>
   intro h;show a*sz (BM os)<=7^(os.length+1);rw[Ke,JC];exact Nat.mul_le_mul (ih (λo B=>h o (CW _ B))) (h a CJ)
 exact Ae (this os h) (Ae (MX (by omega) C) (by decide))
theorem Gs (T:Tw)(z:Small T)(w:World)(Z s v Y:Value)(us:List (List Nat))(os:List Nat)(Q:Av Any w Z s v (AZ T))(B:AQ Any w Y (us.map ints))(C:Sa T us os):
  Calls Tryz.prog 244 #[.agg #[Z,s,v],Y] w (Ca.Kn (sz (BM os)) w):=by
 obtain⟨aO,cO,aP,cP,aC,cC,rfl,rfl,rfl,b3,b4,b9⟩:=Q.open;have HP:=AB Q;have HU:=AB B;have HL:=AB C;have y:=AB C.1;have b6:=C.2.1;have b2:=AB (show∀o∈os,o<=7 from λo O=>by
  obtain⟨i,hi⟩:=Eb O;obtain⟨u,B⟩:∃u,us[i]?=some u:=⟨_,AU (by rw[C.1];exact(Ak.1 hi).1)⟩;obtain⟨j,L,N,I,_⟩:=C.2.2 i u B;rw[hi]at I;injection I with I;rw[I];exact z.2 L (Af N))
 obtain⟨aU,cU,rfl⟩:=AQ.form B;clear Q B C z;go_enter Tryz.func244,Tryz.ntmps244;go_wp2_with fail;go_loopw [5,6] (λov R wr=>∃k p:Nat,k<=us.length/\R= .int .i64 (k:Int)/\ov= .int .i64 (p:Int)/\Hid (p=sz (BM (os.take k)))/\Below (w.heap.size+1) (w.alloc (.cells #[.slice aO T.length cO,.slice aP T.length cP,.slice aC T.length cC] 28)) wr) (λ_ R _=>us.length-(intOf R).toNat);case atStart=>exact⟨0,1,AX _,rfl,rfl,AB (by simp[BM,sz]),BB _ _⟩
 case round=>
  obtain⟨k,p,hk,rfl,rfl,U,F⟩:=hrel;have x:=AB F;have D:=Cq F Any;obtain⟨e0,e1,e2⟩:=CY F;have b7:w.heap.size+1<=wr.heap.size:=by have:=F.size;simp at this;omega
  clear F;by_cases a9:k<us.length
  .obtain⟨u,B⟩:∃u,us[k]?=some u:=⟨_,AU a9⟩;obtain⟨j,L,X,a0,d,N,b1⟩:=HL.AA.2.2 k u B;obtain⟨l,r,a3,vr,K,b0,a,a1⟩:=AQ.Ka HU.AA B;obtain⟨rfl,rfl⟩:aU=some ⟨l,r,none⟩/\cU=a3:=by simp only[Du]at K;exact⟨K.1,K.2.2⟩
   obtain⟨bO,oO,rfl,_,a4,g⟩:=HP.AA.ord X;have c0:=(D.cell (b:=l) (o:=r+k) trivial b0).trans a;have c2:=(D.cell (b:=bO) (o:=oO+j) trivial a4).trans g;have c3:=(Ak.1 X).1;have b5:(j:Int)<(T.length:Int):=by omega
   have b8:(0:Int)<=(j:Int):=by omega
   have c1:(k:Int)<(us.length:Int):=by omega
   have c4:(0:Int)<=(k:Int):=by omega
   have a8:=AB (λW n (hW:W=wr.drewN n)=>(XK W vr u (by rw[hW];exact AP.keep a1 (D.drewN n)) j 1 d N (by omega) (by omega)).mono (λe w' (h:e= .returned (.int .i64 (j:Int))/\W=w')=>And.intro h.1 h.2.symm));have S:=nu a0;have a7:p*L.o<=117649:=by
    rw[U.AA,<-S];exact kK (λo O=>b2.AA o (La O)) (by have:=y.AA;simp;omega)
   have a6:IntKind.i64.wrap ((p:Int)*(L.o:Int))=((p*L.o:Nat):Int):=by rw[<-Int.natCast_mul];exact Ac _ (by omega)
   obtain⟨J,V⟩:∃J,J=p*L.o:=⟨_,rfl⟩;rw[<-V]at a6;have a2:=AB (show J=sz (BM (os.take (k+1))) by rw[V,S,U.AA]);clear K a1 a g X d N b1 S a7 V D a0;go_wp2_with fail;go_quiet ((go_at_call 216;exact Calls.quiet_of_same (a8.AA _ _ rfl)));go_wp2_with fail;go_roundw;case rel=>exact⟨k+1,J,by omega,by go_num,rfl,a2,Cs x.AA _⟩
   case measure=>simp[intOf]<;>omega
  .obtain rfl:k=us.length:=by omega
   have HE:=AB (show p=sz (BM os) by rw[U.AA,y.AA,FO]);have a5:=AB (Cy x.AA);clear D;go_wp2_with fail;go_ret;exact⟨Ck (λq:Nat=>Ending.returned (.int .i64 (q:Int))) HE.AA,a5.AA⟩
theorem Tc (T:Tw)(hs:Small T)(w:World)(v vP vC s:Value)(us:List (List Nat))(os:List Nat)(a:Av Any w v vP vC (AZ T))(C:AQ Any w s (us.map ints))(N:Sa T us os):
  Calls Tryz.prog 245 #[.agg #[v,vP,vC],s] w (Dz (ints os) w):=by
 obtain⟨i0,hi,b7,c0,b1⟩:=Bd Dh;obtain⟨Y,U,J,I,V,R,rfl,rfl,rfl,c3,c4,c9⟩:=a.open;have HP:=AB a;have HU:=AB C;have HL:=AB N;have a4:=AB N.1;have c6:=N.2.1;obtain⟨aU,cU,rfl⟩:=AQ.form C;obtain⟨B,K⟩:∃B,B=w.alloc (.cells #[.slice Y T.length U,.slice J T.length I,.slice V T.length R] 28):=⟨_,rfl⟩;have c1:B.heap.size=w.heap.size+1:=by rw[K];simp
 have p:=DL (base:=w.heap.size+1) (e:=2) (size:=1) B #[] 0 (by omega) (AX _) rfl;have r:=AB (show Below (w.heap.size+1) (w.alloc (.cells #[.slice Y T.length U,.slice J T.length I,.slice V T.length R] 28)) (B.alloc (.cells #[] 2)) by rw[<-K];exact AY.alloc (by omega) _);clear a C N hs;go_enter Tryz.func245,Tryz.ntmps245;go_upto_region 1 with fail;rw[<-K];have a1:=AB (show Own (w.heap.size+1) (B.alloc (.cells #[] 2)) (.slice (some ⟨w.heap.size+1,0,none⟩) 0 0) (ints []) by rw[c1]at p;exact p);clear K p;go_wp2_with fail;go_loopw [5,6] (λov d wr=>∃k:Nat,k<=us.length/\d= .int .i64 (k:Int)/\Hid (Own (w.heap.size+1) wr ov (ints (os.take k)))/\Below (w.heap.size+1) (w.alloc (.cells #[.slice Y T.length U,.slice J T.length I,.slice V T.length R] 28)) wr) (λ_ d _=>us.length-(intOf d).toNat);case atStart=>exact⟨0,AX _,rfl,a1,r.AA⟩
 case round=>
  obtain⟨k,hk,rfl,z,F⟩:=hrel;have l:=AB F;have D:=Cq F Any;obtain⟨e0,e1,e2⟩:=CY F;have c7:w.heap.size+1<=wr.heap.size:=by have:=F.size;simp at this;omega
  clear F a1 r;by_cases b6:k<us.length
  .obtain⟨u,C⟩:∃u,us[k]?=some u:=⟨_,AU b6⟩;obtain⟨j,L,q,a5,y,h1,b9⟩:=HL.AA.2.2 k u C;obtain⟨bU,oU,a7,vr,Q,b8,x,a6⟩:=AQ.Ka HU.AA C;obtain⟨rfl,rfl⟩:aU=some ⟨bU,oU,none⟩/\cU=a7:=by simp only[Du]at Q;exact⟨Q.1,Q.2.2⟩
   obtain⟨bO,oO,rfl,_,a9,a0⟩:=HP.AA.ord q;have d0:=(D.cell (b:=bU) (o:=oU+k) trivial b8).trans x;have d2:=(D.cell (b:=bO) (o:=oO+j) trivial a9).trans a0;have d3:=(Ak.1 q).1;have c5:(j:Int)<(T.length:Int):=by omega
   have c8:(0:Int)<=(j:Int):=by omega
   have d1:(k:Int)<(us.length:Int):=by omega
   have d5:(0:Int)<=(k:Int):=by omega
   have b5:=AB (λW (hW:Keep Any wr W)=>XK W vr u (AP.keep (AP.keep a6 D) hW) j 1 y h1 (by omega) (by omega));have a8:=AB (show ints (os.take (k+1))=ints (os.take k)++[(L.o:Int)] by rw[EL,a5];simp[ints]);have i:(ints (os.take k)).length=k:=by rw[BK,Ec];have:=a4.AA;omega
   have b4:=AB i;have O:=z.AA;unfold Own at O;rw[i]at O;have Z:=AB O;have d4:w.heap.size<wr.heap.size:=by omega
   clear Q a6 x a0 q y h1 b9 D a5 O i;go_upto_region 5 with fail;rename World=>w8;go_region_law
    (first|(go_simp;go_at_call 216;refine(b5.AA _ (by repeat(first|exact Ab|exact AL|refine AR ?_ ‹_›))).mono ?_;rintro e w5 ⟨rfl,rfl⟩)|(refine Ja _ (by rfl) _ _ _ (by rfl) (w.heap.size+1) 2 i0 (.int .i64 0) 1 8 Tryz.underlying24 hi b7 c0 b1 rfl (by omega) _ k _ (by rfl) ((Aw Z.AA (S:=Any) (by repeat(first|exact Ab|exact AL|refine AR ?_ ‹_›)) (λ_ _=>trivial)).alloc _) ⟨w8.heap.size,0,none⟩ 1 1 [.int .i64 (L.o:Int)] (by rfl) (by rfl) (Cw (cs:= #[.int .i64 (L.o:Int)]) (t:=2) (fr:=(0,0)) (Aj _ _)) (by simp[Value.oneCell']) (by omega) (by unfold maxLen;omega) (by omega) (by simp;omega) _ rfl ?_;intro gg cap a2 a3 X c2 b2))
   all_goals
    have HN:=AB (show Own (w.heap.size+1) a2 (.slice (some ⟨gg,0,none⟩) (k+1) cap) (ints (os.take (k+1))) from by
     unfold Own;rw[a8.AA,Bc,b4.AA];simpa[vals]using a3)
    have b0:=AB (show Below (w.heap.size+1) (w.alloc (.cells #[.slice (some ⟨bO,oO,none⟩) T.length U,.slice J T.length I,.slice V T.length R] 28)) a2 from by
     first
     |exact(l.AA.alloc (by simp;omega) _).grown X (by simp;omega) (λg hg=>(Aq Z.AA g hg).1)
     |exact(l.AA.drew.alloc (by simp;omega) _).grown X (by simp;omega) (λg hg=>(Aq Z.AA g hg).1))
    clear a3 X c2 b2;go_wp2_with fail;go_roundw;case rel=>exact⟨k+1,by omega,by go_num,HN,b0.AA⟩
    case measure=>simp[intOf]<;>omega
  .obtain rfl:k=us.length:=by omega
   have b3:=AB (Cy l.AA);have HE:=AB (show os.take us.length=os by rw[a4.AA,FO]);clear D;go_wp2_with fail;go_ret;have h:=z.AA;rw[HE.AA]at h;exact⟨_,rfl,h.mono (by omega),b3.AA⟩
end SB
namespace QJ
open RowKit AJ BN CP QN FN BU FX Hf EN Jf Iy SB
theorem uD:(Tryz.prog.info? 4).map (λi=>(i.zero,i.size,i.bytes))=some (some (.bool false),1,1):=by kernel_rfl
def EU (B:Nat)(w:World)(v:Value)(l:List Bool):Prop:=w.ownsRow B 4 1 v l.length (l.map Value.bool)
theorem EU.keep {B:Nat}{S:Nat->Prop}{w w':World}{v:Value}{l:List Bool}(h:EU B w v l)(C:Keep S w w')(D:∀k,B<=k->S k):EU B w' v l:=Aw h C D
theorem EU.made {B:Nat}(w:World)(n:Nat)(C:B<=w.heap.size)(D:n<=maxLen):EU B (w.alloc (.cells (madeCells #[.bool false] n) 4)) (.slice (some ⟨w.heap.size,0,none⟩) n n) (List.replicate n false):=by
 have:=JD (base:=B) (e:=4) (size:=1) w (madeCells #[.bool false] n) n C D (by simp[madeCells]);rw[Kc]at this;unfold EU;simpa using this
theorem EU.cell {B:Nat}{w:World}{g n c:Nat}{l:List Bool}(h:EU B w (.slice (some ⟨g,0,none⟩) n c) l){j:Nat}{b:Bool}(D:l[j]?=some b):w.cell? ⟨g,j,none⟩=some (.bool b)/\w.frozen? ⟨g,j,none⟩=false:=by
 have J:=(Ak.1 D).1;unfold EU at h;have F:n=l.length:=by
  rcases h.2 with⟨C,_⟩|⟨K,cap,I,C,_⟩
  .cases C
  .simp only[Du]at C;exact C.2.1
 subst F;exact⟨by rw[FZ h j (by omega)];simp[D],Me h j⟩
theorem EU.set {B:Nat}{w:World}{g n c:Nat}{l:List Bool}(h:EU B w (.slice (some ⟨g,0,none⟩) n c) l)(j:Nat)(b:Bool):EU B (w.setCell ⟨g,j,none⟩ (.bool b)) (.slice (some ⟨g,0,none⟩) n c) (l.set j b):=by
 unfold EU at h ⊢;have D:n=l.length:=by
  rcases h.2 with⟨C,_⟩|⟨I,cap,F,C,_⟩
  .cases C
  .simp only[Du]at C;exact C.2.1
 subst D;have:=(Jz h j (.bool b)).1;rw[show(l.map Value.bool).set j (.bool b)=(l.set j b).map Value.bool by simp]at this;simpa using this
theorem aj (n:Nat)(B:n<=729)(w:World):(Instr.makeSlice 210 (.int .i64 (n:Int)) (.int .i64 (n:Int))).run Tryz.prog w= .ok (.slice (some ⟨w.heap.size,0,none⟩) n n) (w.alloc (.cells (madeCells #[.bool false] n) 4)):=
 run_make_row' (P:=Tryz.prog) 210 4 (.bool false) 1 Tryz.underlying210 uD rfl .i64 .i64 n (by omega) (by omega) w
def Ei (f:Nat->Nat):Nat->Nat->Bool
 |0,_=>false
 |k+1,t=>Ei f k t||(f k==t)
theorem Us (f:Nat->Nat)(k t:Nat):Ei f k t=true↔∃j,j<k/\f j=t:=by
 induction k with
 |zero=>simp[Ei]
 |succ k ih=>
  rw[Ei,OO,ih];constructor
  .rintro(⟨j,C,B⟩|h)
   .exact⟨j,by omega,B⟩
   .exact⟨k,by omega,by simpa using h⟩
  .rintro⟨j,C,B⟩;rcases DF.1 C with h|h
   .exact .inl ⟨j,h,B⟩
   .subst h;exact .inr (by simpa using B)
def Fy (f:Nat->Nat)(n k:Nat):List Bool:=(List.range n).map (Ei f k)
theorem YE (f:Nat->Nat)(n:Nat):Fy f n 0=List.replicate n false:=by
 unfold Fy;apply P7
 .simp
 .intro i B C;simp[Ei]
theorem YF (f:Nat->Nat)(n k:Nat):Fy f n (k+1)=(Fy f n k).set (f k) true:=by
 unfold Fy;apply P7
 .simp
 .intro i B C;simp only[P5,List.getElem_range,List.getElem_set,Ei];by_cases h:f k=i
  .rw[BQ h];simp[h]
  .rw[BF h];have:(f k==i)=false:=by simpa using h
   rw[this,Bool.or_false]
theorem RP {f:Nat->Nat}{n k t:Nat}(h:t<n):(Fy f n k)[t]?=some (Ei f k t):=by simp[Fy,h]
def nums (p:Nat->Bool)(n:Nat):List Nat:=(List.range n).filter p
theorem XP (p:Nat->Bool)(n:Nat):nums p (n+1)=nums p n++(if p n then [n]else []):=by
 unfold nums;rw[FB,List.filter_append];congr 1;by_cases h:p n=true
 .simp[h]
 .simp[h]
theorem nums_length (p:Nat->Bool)(n:Nat):(nums p n).length<=n:=by
 have:=List.length_filter_le p (List.range n);simpa[nums]using this
theorem YG:∀os:List Nat,Ca.Ed (BM os)=os
 |[]=>rfl
 |o::os=>Ck (o:: ·) (YG os)
theorem Av.FL {S:Nat->Prop}{w:World}{C D B:Value}{P:BZ}(h:Av S w C D B P):Av (λk=>k<w.heap.size) w C D B P:=
 ⟨Ea.AP.FL h.os,Ea.AQ.FL h.ps,Ea.Am.FL h.cs (λ_ _ e=>Ea.AQ.FL e)⟩
theorem ak {B:Nat}{wr w':World}(h:Keep (λk=>k≠B) wr w'):(∀b o,b<wr.heap.size->¬b=B->w'.cell? ⟨b,o,none⟩=wr.cell? ⟨b,o,none⟩)/\Keep (λk=>k≠B) wr w':=⟨λb o C D=>h.cell D C,h⟩
def nk (T:Tw)(us:List (List Nat))(os:List Nat)(k:Nat):Nat:=num T (BO (mul T) (AJ.one T) us (at_ (BM os) k))
def fU (T:Tw)(us:List (List Nat))(os:List Nat)(w:World)(e:Ending)(w':World):Prop:=
 Mv 24 2 ((nums (Ei (nk T us os) (sz (BM os))) (sz T)).map (at_ T)) w e w'
theorem TK (T:Tw)(hT:Wf T)(hs:Small T)(hg:AJ.Good T)(hz:sz T<=729)(w:World)(C I F vu:Value)(us:List (List Nat))(os:List Nat)(hP:Av Any w C I F (AZ T))(N:AQ Any w vu (us.map ints))(Z:Sa T us os)(b3:∀u∈us,El T u)(d3:∀o∈os,1<=o)(d4:sz (BM os)<=729):
  Calls Tryz.prog 213 #[.agg #[C,I,F],vu] w (fU T us os w):=by
 obtain⟨i0,hi,i5,k6,j9⟩:=Bd GJ;have c8:∀o∈os,o<=7:=λo R=>by
  obtain⟨i,hi⟩:=Eb R;obtain⟨u,N⟩:∃u,us[i]?=some u:=⟨_,AU (by rw[Z.1];exact(Ak.1 hi).1)⟩;obtain⟨j,L,O,D,_⟩:=Z.2.2 i u N;rw[hi]at D;injection D with D;rw[D];exact hs.2 L (Af O)
 have e5:os.length<=6:=by rw[<-Z.1];exact Z.2.1
 have g9:Ca.Os (BM os):=⟨by rw[Wo];exact e5,λL h=>by
  simp only[BM,BX]at h;obtain⟨o,R,rfl⟩:=h;exact d3 o R,d4⟩
 have a9:=Ca.Os.of hT hs hz;have f2:=YG os;have HP:=AB hP;have HU:=AB N;have c7:=AB (Ca.NU T);have HE:=AB (λk=>(MI (El T) (mul T) (λ_ _ p q=>Bz hT p q) us b3 (at_ (BM os) k) (AJ.one T) (CR hT)));have f3:=AB (λk=>Em (MI (El T) (mul T) (λ_ _ p q=>Bz hT p q) us b3 (at_ (BM os) k) (AJ.one T) (CR hT)) hT);have f4:=AB (λW O D=>Gs T hs W C I F vu us os O D Z);have e9:=AB (λW O D=>Tc T hs W C I F vu us os O D Z);have f6:=AB (λW X=>Ca.Gs T a9 W C I F X);have i6:=AB (λW a b c q (y:q<=1000000) X=>Ca.Jw (BM os) g9 (λL h=>by
  simp only[BM,BX]at h;obtain⟨o,R,rfl⟩:=h;have:=c8 o R;show o<=1000;omega) q y W a b c X)
 have h5:=AB (λW q (y:q<=1000000) X=>Ca.Jw T a9 (λL h=>by have:=hs.2 L h;omega) q y W C I F X);have h7:=AB (λW va k hP N ha=>Jp T hT hs hg W C I F vu va us (at_ (BM os) k) hP N ha (by rw[PG,Wo,Z.1];exact Al _) (by have:=Z.2.1;omega) b3 (λa ha=>by
  obtain⟨i,hi⟩:=Eb ha;obtain⟨L,k5,a0⟩:=Gb (Zt d3 k) hi;have D:=Af k5;simp only[BM,BX]at D;obtain⟨o,R,rfl⟩:=D;have:=c8 o R;have:a<o:=a0;omega))
 have i8:=AB (λW va x X hx hE a0=>Ca.Qg T a9 W C I F va x X hx hE a0);have h6:=AB f2;have l7:=aj (sz T) hz;have l3:sz T<=729:=hz;have l8:sz (BM os)<=729:=d4;obtain⟨W0,d6⟩:∃W0,W0=w.alloc (.cells #[C,I,F] 28):=⟨_,rfl⟩;have a5:=AB (show Below (w.heap.size+1) (w.alloc (.cells #[C,I,F] 28)) W0 by rw[d6];exact BB _ _);clear hP N hT hs hg Z b3 d3 c8 g9 a9 f2 hz d4 e5;go_enter Tryz.func213,Tryz.ntmps213;go_upto_region 1 with fail;rw[<-d6];clear d6;obtain⟨V,Y,e2⟩:=CY a5.AA;have d0:=Cq a5.AA Any;have g4:w.heap.size+1<=W0.heap.size:=by have:=a5.AA.size;simp at this;omega
 go_wp2_with fail;refine(f4.AA _ (HP.AA.keep d0) (HU.AA.keep d0)).mono ?_;rintro e w1 ⟨rfl,a3⟩;have U:=AB (a5.AA.trans (a3.mono g4));clear V Y e2 d0 a3 f4;obtain⟨V,Y,e2⟩:=CY U.AA;have g3:=Cq U.AA Any;have g2:w.heap.size+1<=w1.heap.size:=by have:=U.AA.size;simp at this;omega
 go_wp2_with fail;refine(f6.AA _ (by have h:=(HP.AA.keep g3).os;rwa[c7.AA]at h)).mono ?_;rintro e J ⟨rfl,e8⟩;have a4:=AB (U.AA.trans (e8.mono g2));clear V Y e2 g3 e8 f6;go_upto_region 3 with fail;obtain⟨w3,a6⟩:∃w3,w3=J.alloc (.cells (madeCells #[.bool false] (sz T)) 4):=⟨_,rfl⟩;rw[<-a6];have f7:w.heap.size+1<=J.heap.size:=by have:=a4.AA.size;simp at this;omega
 have f5:=AB (show EU J.heap.size w3 (.slice (some ⟨J.heap.size,0,none⟩) (sz T) (sz T)) (Fy (nk T us os) (sz T) 0) by
  rw[YE,a6];exact EU.made J (sz T) AV (by unfold maxLen;omega))
 have b1:=AB (show Below (w.heap.size+1) (w.alloc (.cells #[C,I,F] 28)) w3 by rw[a6];exact a4.AA.alloc f7 _);have e4:J.heap.size<w3.heap.size:=by rw[a6];simp
 clear a6;obtain⟨V,Y,e2⟩:=CY b1.AA;have d8:=Cq b1.AA Any;go_wp2_with fail;refine(e9.AA _ (HP.AA.keep d8) (HU.AA.keep d8)).mono ?_;rintro e w4 ⟨v4,rfl,g7,b4⟩;have f9:=AB (b1.AA.trans (b4.mono (by omega)));have b7:=AB (f5.AA.keep (S:=Any) (AO b4) (λ_ _=>trivial));have d2:=AB (g7.sl.mono (S':=λk=>k≠J.heap.size) (λk hk=>by omega));have j8:J.heap.size<w4.heap.size:=Ah e4 b4.size;obtain⟨aS,cS,rfl,_⟩:=d2.AA.open;clear V Y e2 d8 b4 g7 e9 f5 b1 a4 U a5;go_upto_region 4 with fail;obtain⟨Q,l⟩:∃Q,Q=w4.alloc (.cells #[.slice aS os.length cS,.slice none 0 0,.slice none 0 0] 28):=⟨_,rfl⟩;rw[<-l];obtain⟨B,b2⟩:∃B,B=J.heap.size:=⟨_,rfl⟩;obtain⟨K,a2⟩:∃K,K=w4.heap.size:=⟨_,rfl⟩;rw[<-b2,<-a2];rw[<-b2]at b7;have a1:=AB (show Below (w.heap.size+1) (w.alloc (.cells #[C,I,F] 28)) Q by rw[l];exact f9.AA.alloc (by omega) _);have b9:Keep (λ_=>True) w4 Q:=by rw[l];exact AL.alloc _
 have d1:=Cq a1.AA Any;have k7:=AB (b7.AA.keep b9 (λ_ _=>trivial));have g0:=AB ((Av.FL HP.AA).keep (d1.mono (λ_ _=>trivial)) |>.mono (S':=λk=>k≠B) (λk (hk:k<w.heap.size)=>by omega));have i2:=AB (AQ.mono (S':=λk=>k≠B) (AQ.keep (Ea.AQ.FL HU.AA) (d1.mono (λ_ _=>trivial))) (λk (hk:k<w.heap.size)=>by omega));have j0:=AB (AP.mono (S':=λk=>k≠B) (AP.keep d2.AA (b9.mono (λ_ _=>trivial))) (λk hk=>by rw[b2];exact hk));have c0:Q.cell? ⟨K,0,none⟩=some (.slice aS os.length cS):=by rw[l,a2];exact(Ar _ _ _ _ _ (0,0) (Aj w4 _)).trans rfl
 have c1:Q.cell? ⟨K,1,none⟩=some (.slice none 0 0):=by rw[l,a2];exact(Ar _ _ _ _ _ (0,0) (Aj w4 _)).trans rfl
 have c2:Q.cell? ⟨K,2,none⟩=some (.slice none 0 0):=by rw[l,a2];exact(Ar _ _ _ _ _ (0,0) (Aj w4 _)).trans rfl
 have c9:K<Q.heap.size:=by rw[l,a2];simp
 have e3:¬K=B:=by omega
 have l0:¬w.heap.size=B:=by omega
 have l5:B<Q.heap.size:=by omega
 have i4:w.heap.size+1<=B:=by omega
 have d7:=AB (And.intro c0 (And.intro c1 c2));clear l b2 a2 b9 d1 c0 c1 c2 d2 b7 f9 j8 e4 f7 g2 g4;go_wp2_with fail;go_loopw [8] (λiv wr=>∃k:Nat,k<=sz (BM os)/\iv= .int .i64 (k:Int)/\Hid (EU B wr (.slice (some ⟨B,0,none⟩) (sz T) (sz T)) (Fy (nk T us os) (sz T) k))/\Hid (Keep (λk=>k≠B) Q wr)/\Below (w.heap.size+1) (w.alloc (.cells #[C,I,F] 28)) wr) (λiv _=>sz (BM os)-(intOf iv).toNat);case atStart=>exact⟨0,AX _,rfl,k7,AB AL,a1.AA⟩
 case round=>
  obtain⟨k,hk,rfl,f1,d,hB⟩:=hrel;have a1:=AB hB;obtain⟨V,Y,e2⟩:=CY hB;have l4:=d.AA.size;have l9:w.heap.size<wr.heap.size:=by have:=hB.size;simp at this;omega
  have m3:K<wr.heap.size:=by omega
  have m5:B<wr.heap.size:=by omega
  clear hB;by_cases a0:k<sz (BM os)
  .have l1:decide ((k:Int)<(sz (BM os):Int))=true:=by simp;omega
   have c0:=(d.AA.cell (b:=K) (o:=0) e3 c9).trans d7.AA.1;have c1:=(d.AA.cell (b:=K) (o:=1) e3 c9).trans d7.AA.2.1;have c2:=(d.AA.cell (b:=K) (o:=2) e3 c9).trans d7.AA.2.2;have h3:=AB (g0.AA.keep d.AA);have j7:=AB (AQ.keep i2.AA d.AA);have j2:=AB (λW (h:Keep (λk=>k≠B) wr W)=>show AP Any W C (ints (Ca.Ed T)) from by
    have D:=((h3.AA.keep h).mono (S':=Any) (λ_ _=>trivial)).os;rwa[c7.AA]at D)
   have k3:=AB (AP.keep j0.AA d.AA);obtain⟨q,y⟩:∃q,q=nk T us os k:=⟨_,rfl⟩;have h8:q<sz T:=by rw[y];exact f3.AA k
   have j6:=AB (λW va (X:AP Any W C (ints (Ca.Ed T))) (hx:AP Any W va (ints (BO (mul T) (AJ.one T) us (at_ (BM os) k))))=>(show Calls Tryz.prog 214 #[.agg #[C,I,F],va] W (Ca.Kn q W) from by
    rw[y];exact i8.AA W va _ X hx (HE.AA k) (f3.AA k)))
   have m2:(q:Int)<(sz T:Int):=by omega
   have l6:(0:Int)<=(q:Int):=by omega
   have i3:=AB (show Fy (nk T us os) (sz T) (k+1)=(Fy (nk T us os) (sz T) k).set q true by rw[y];exact YF _ _ _);have i9:k<=1000000:=by omega
   clear y;go_upto_region 7 with fail;go_region_held3 (λw'=>(∀b o,b<wr.heap.size->¬b=B->w'.cell? ⟨b,o,none⟩=wr.cell? ⟨b,o,none⟩)/\Keep (λk=>k≠B) wr w')
    (first|exact ak (by repeat(first|exact Ab|exact AL|refine Keep.setCell ?_ (by simp) _|refine AR ?_ ‹_›)))
    (first|(go_at_call 215;refine(i6.AA _ (.slice aS os.length cS) (.slice none 0 0) (.slice none 0 0) k i9 (by rw[h6.AA];exact AP.mono (AP.keep k3.AA (by repeat(first|exact Ab|exact AL|refine AR ?_ ‹_›))) (λ_ _=>trivial))).mono ?_;rintro e w6 ⟨g6,c6,rfl,f0,j5⟩)|(go_at_call 109;refine(h7.AA _ _ k ((h3.AA.keep (by repeat(first|exact Ab|exact AL|refine AR ?_ ‹_›))).mono (λ_ _=>trivial)) (AQ.mono (AQ.keep j7.AA (by repeat(first|exact Ab|exact AL|refine AR ?_ ‹_›))) (λ_ _=>trivial)) ((f0.sl.mono (λ_ _=>trivial)).keep (by repeat(first|exact Ab|exact AL|refine AR ?_ ‹_›)))).mono ?_;rintro e w7 ⟨v7,rfl,e6,k9⟩)|(go_at_call 214;refine(j6.AA _ v7 (j2.AA _ (by repeat(first|exact Ab|exact AL|refine AR ?_ ‹_›))) ((e6.sl.mono (λ_ _=>trivial)).keep (by repeat(first|exact Ab|exact AL|refine AR ?_ ‹_›)))).mono ?_;rintro e s ⟨rfl,i1⟩;have b6:=f1.AA.keep (S:=Any) (show Keep Any wr s from(by repeat(first|exact Ab|exact AL|refine AR ?_ ‹_›))) (λ_ _=>trivial);obtain⟨s8,f8⟩:=b6.cell (RP h8);have i7:wr.heap.size<=s.heap.size:=(show Keep Any wr s from(by repeat(first|exact Ab|exact AL|refine AR ?_ ‹_›))).size))
   have k8:=AB (show EU B (s.setCell ⟨B,q,none⟩ (.bool true)) (.slice (some ⟨B,0,none⟩) (sz T) (sz T)) (Fy (nk T us os) (sz T) (k+1)) by rw[i3.AA];exact b6.set q true);have k1:=AB (show Keep (λk=>k≠B) Q (s.setCell ⟨B,q,none⟩ (.bool true)) from(d.AA.trans (show Keep (λk=>k≠B) wr s from(by repeat(first|exact Ab|exact AL|refine AR ?_ ‹_›)))).setCell (by simp) _);have k2:=AB (show Below (w.heap.size+1) (w.alloc (.cells #[C,I,F] 28)) (s.setCell ⟨B,q,none⟩ (.bool true)) from(show Below (w.heap.size+1) _ s from(by repeat(first|exact a1.AA|exact a1.AA.drew|refine Below.step ?_ (by simp) ‹_›))).setCell (p:=⟨B,q,none⟩) i4 _);clear f0 e6 j5 k9 i1 b6 s8 f8 i7 V Y e2 c0 c1 c2;go_wp2_with fail;go_roundw;case rel=>exact⟨k+1,by omega,by go_num,k8,k1,k2.AA⟩
   case measure=>simp[intOf]<;>omega
  .obtain rfl:k=sz (BM os):=by omega
   have g5:=DL (base:=wr.heap.size) (e:=24) (size:=1) wr #[] 0 AV (AX _) rfl;have j1:=AB (λW (h:Below wr.heap.size wr W)=>show AP Any W C (ints (Ca.Ed T)) from by
    have D:=((g0.AA.keep (d.AA.trans (AO h))).mono (S':=Any) (λ_ _=>trivial)).os;rwa[c7.AA]at D)
   have j3:=AB f1.AA;have k0:w.heap.size+1<=wr.heap.size:=by omega
   clear V Y e2 a0;go_wp2_with fail;rename World=>v;go_loopw [9,10] (λov iv wr=>∃t:Nat,t<=sz T/\iv= .int .i64 (t:Int)/\Hid (Own2 24 2 v.heap.size wr ov ((nums (Ei (nk T us os) (sz (BM os))) t).map (at_ T)))/\Below v.heap.size v wr) (λ_ iv _=>sz T-(intOf iv).toNat);case atStart=>exact⟨0,AX _,rfl,AB ⟨[],g5,rfl,by simp[nums]⟩,AY.alloc AV _⟩
   case round=>
    obtain⟨t,ht,rfl,b0,hb⟩:=hrel;have HB:=AB hb;have k4:=AB (a1.AA.trans (hb.mono k0));obtain⟨V,Y,e2⟩:=CY k4.AA;have l2:w.heap.size<wr.heap.size:=by have:=hb.size;omega
    clear hb g5;by_cases a0:t<sz T
    .have b8:=j3.AA.keep (S:=Any) (AO HB.AA) (λ_ _=>trivial);obtain⟨s8,f8⟩:=b8.cell (RP a0);have m0:(t:Int)<(sz T:Int):=by omega
     have m1:(0:Int)<=(t:Int):=by omega
     have h9:t<=1000000:=by omega
     have z:=XP (Ei (nk T us os) (sz (BM os))) t;have g8:=nums_length (Ei (nk T us os) (sz (BM os))) t;obtain⟨nl,a7⟩:∃nl,((nums (Ei (nk T us os) (sz (BM os))) t).map (at_ T)).length=nl:=⟨_,rfl⟩;have m4:nl<=729:=by rw[<-a7,BC];omega
     cases a8:Ei (nk T us os) (sz (BM os)) t with
     |false=>
      rw[a8]at s8 z;simp only[Bool.false_eq_true,if_false,FP]at z;have d9:=AB z;clear b8 a8 z g8 a7;go_wp2_with fail;go_roundw;case rel=>exact⟨t+1,by omega,by go_num,AB (by rw[d9.AA];exact b0.AA),HB.AA⟩
      case measure=>simp[intOf]<;>omega
     |true=>
      rw[a8]at s8 z;simp only[if_true]at z;have d9:=AB (show(nums (Ei (nk T us os) (sz (BM os))) (t+1)).map (at_ T)=(nums (Ei (nk T us os) (sz (BM os))) t).map (at_ T)++[at_ T t] by rw[z,IM];rfl);have e7:=AB a7;clear b8 a8 z g8 a7;go_wp2_with fail;refine(h5.AA _ t h9 (j1.AA _ HB.AA)).mono ?_;rintro e w1 ⟨g,c,rfl,R,a3⟩;have U:=AB (HB.AA.trans (a3.mono HB.AA.size));have h0:=AB (CX.row (R.mono (B':=v.heap.size) HB.AA.size));obtain⟨j4,O,D,h4⟩:=b0.AA.of_below a3;have b5:=AB (And.intro D h4);rw[e7.AA]at O;clear R a3 D h4 b0;go_wp2_with (at_builtin;(refine DR _ rfl _ _ 25 rfl v.heap.size 24 i0 (.slice none 0 0) 1 24 Tryz.underlying25 hi i5 k6 j9 rfl (by decide) _ _ _ rfl (O.alloc _) ⟨w1.heap.size,0,none⟩ 1 1 [.slice (some ⟨g,0,none⟩) (ints (at_ T t)).length c] rfl rfl ?c1 ?c2 ?c3 ?c4 ?c5 ?_));case c1=>
       intro j u hj
       match j,hj with
       |0,hj=>simp at hj;subst hj;simp[Addr.add]
      case c2=>intro u N;simp at N;subst N;rfl
      case c3=>unfold maxLen;omega
      case c4=>omega
      case c5=>have:=U.AA.size;simp;omega
      .intro v' J g1 d5 _;have HN:=AB (show Own2 24 2 v.heap.size J v' ((nums (Ei (nk T us os) (sz (BM os))) (t+1)).map (at_ T)) from by
        rw[d9.AA];exact Own2.push (w:=w1.alloc _) (us:=j4) (by decide) e7.AA (O.alloc _) b5.AA.1 (λi r u hr N=>(b5.AA.2 i r u hr N).keep (S:=λ_=>True) (AL.alloc _) (λ_ _=>trivial)) (h0.AA.keep (S:=λ_=>True) (AL.alloc _) (λ_ _=>trivial)) g1 d5)
       have a4:=AB (show Below v.heap.size v J from(U.AA.alloc (by have:=U.AA.size;omega) _).grown d5 (by simp;have:=U.AA.size;omega) (λg hg=>(Aq O g hg).1));clear g1 d5 O b5 h0;go_wp2_with fail;go_roundw;case rel=>exact⟨t+1,by omega,by go_num,HN,a4.AA⟩
       case measure=>simp[intOf]<;>omega
    .obtain rfl:t=sz T:=by omega
     have HR:=AB (show fU T us os w (.returned _) wr from⟨_,rfl,b0.AA.mono (by omega),(Cy a1.AA).trans (HB.AA.mono (by omega))⟩);go_wp2_with fail;go_ret;exact HR.AA
end QJ
namespace Ko
open RowKit AJ Gen CP CL QN IB BN Ea SB QJ
abbrev TG (Q:Tw)(B:List (List Nat)):List (List Nat):=BV (Ao B) Q.length 0
abbrev osq (Q:Tw)(B:List (List Nat)):List Nat:=FI (Ao B) (oF Q) Q.length 0
theorem QO {Q:Tw}(N:Wf Q)(O:Small Q)(hg:AJ.Good Q){tl B im:List (List Nat)}(h:FD Q tl B 0)(X:Fv Q im tl):
  Sa Q (TG Q B) (osq Q B)/\(∀u∈TG Q B,El Q u)/\(∀o∈osq Q B,1<=o)/\sz (BM (osq Q B))<=sz Q:=by
 have R:=VB N (Ao B) Q.length 0 (by omega);have S:∀(i:Nat) (u:List Nat),(TG Q B)[i]?=some u->∃(j:Nat) (L:Lv),Q[j]?=some L/\(osq Q B)[i]?=some L.o/\A (El Q) fF j u/\fF j u=1:=λi u F=>by
  obtain⟨j,_,D,I,J⟩:=Ur (o:=oF Q) Q.length 0 i u F;rw[CK]at D;obtain⟨L,U⟩:∃L,Q[j]?=some L:=⟨_,AU D⟩;obtain⟨C,K⟩:=lead N hg h X I D;exact⟨j,L,U,by rw[<-He U];exact J,C,K⟩
 refine⟨⟨(Ti _ _).symm,Ae (ZE _ _) O.1,λi u F=>?_⟩,λu F=>?_,λo V=>by have:=(R.2 o V).1;omega,by simpa using R.1⟩
 .obtain⟨j,L,K,D,C,I⟩:=S i u F;obtain⟨J,W⟩:=ng C I;exact⟨j,L,K,D,J,W,by rw[Ad C.1];have:=O.1;omega⟩
 .obtain⟨i,hi⟩:=Eb F;obtain⟨j,L,_,_,C,_⟩:=S i u hi;exact C.1
theorem ny {Q:Tw}(C:Wf Q)(K:Small Q)(hg:AJ.Good Q){tl B im:List (List Nat)}(h:FD Q tl B 0)(I:Fv Q im tl){t:Nat}(J:t<sz Q):
  Ei (nk Q (TG Q B) (osq Q B)) (sz (BM (osq Q B))) t=true↔Gen.Gen (mul Q) (AJ.one Q) im (at_ Q t):=by
 have G:=BA C hg;have F:=(QO C K hg h I).2.1;rw[Us,rT C hg h I];constructor
 .rintro⟨k,D,e⟩;refine⟨k,D,?_⟩;unfold nk at e;rw[G.IJ F]at e;rw[<-e,EY C (G.ev F _)]
 .rintro⟨k,D,e⟩;refine⟨k,D,?_⟩;unfold nk;rw[G.IJ F,e,LX,EC J]
theorem remark (p:Nat->Bool)(n t:Nat)(F:t<n):Ei (λk=>(nums p n).getD k 0) (nums p n).length t=p t:=by
 cases h:p t with
 |true=>
  rw[Us];have B:t∈nums p n:=by unfold nums;rw[KG];exact⟨Cg.2 F,h⟩
  obtain⟨j,C,e⟩:=Ld B;exact⟨j,C,by rw[BG,AU C];exact e⟩
 |false=>
  cases D:Ei (λk=>(nums p n).getD k 0) (nums p n).length t with
  |false=>rfl
  |true=>
   rw[Us]at D;obtain⟨j,C,e⟩:=D;rw[BG,AU C]at e;have B:t∈nums p n:=by
    have:=Ho C;simp only[OM]at e;rwa[e]at this
   unfold nums at B;rw[KG]at B;rw[h]at B;simp at B
theorem rU {p:Nat->Bool}{n k t:Nat}(h:(nums p n)[k]?=some t):t<n:=by
 have:=Af h;unfold nums at this;exact Cg.1 (KG.1 this).1
theorem AQ.tail {S:Nat->Prop}{w:World}{g n c:Nat}{rows:List (List Nat)}(h:AQ S w (.slice (some ⟨g,0,none⟩) n c) (rows.map ints))(s:Nat)(Q:s<=n):AQ S w (.slice (some ⟨g,s,none⟩) (n-s) (c-s)) ((rows.drop s).map ints):=by
 obtain⟨R,L,e,K,O,N,J⟩:=h;simp only[Du]at e;obtain⟨rfl,rfl,rfl⟩:=e;rw[BC]at *;refine⟨some ⟨g,s,none⟩,c-s,by simp,by simp;omega,by omega,by simp,λi x B=>?_⟩;obtain⟨b,o,C,e2,I,u,D,F⟩:=J (s+i) x (by rw[Bh,Fa]at B;rw[Bh];exact B);simp only[EQ,Hr,and_true]at C;obtain⟨rfl,rfl⟩:=C;exact⟨g,s,rfl,e2,I,u,by rw[CK]at D;exact D,F⟩
end Ko
end Go.Proofs.YtgjadpmbnejaoaaGreat

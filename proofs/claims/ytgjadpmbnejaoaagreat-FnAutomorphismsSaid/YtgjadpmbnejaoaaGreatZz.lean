import Derived.Test.YtgjadpmbnejaoaaGreatZy
import Derived.Shelf.SlSortCmp.Insertion
/-
  Lemmas for the law FnAutomorphisms, in short spelling.
-/
set_option linter.unusedVariables false
set_option linter.unusedSimpArgs false
set_option maxRecDepth 100000
set_option maxHeartbeats 40000000
namespace Go.Proofs.YtgjadpmbnejaoaaGreat
namespace SE
open AJ BN CL QJ Ga
theorem V8 {α:Type}(p:Nat->Bool)(f:Nat->List α):∀l:List Nat,(l.flatMap λt=>if p t=true then f t else [])=(l.filter p).flatMap f
 |[]=>rfl
 |a::l=>by
  rw[IW,V8 p f l,List.filter_cons];by_cases h:p a=true
  .rw[BQ h,BQ h,IW]
  .rw[BF h,BF h,List.nil_append]
theorem Wp {Q T:Tw}{k:Nat}{L:Lv}(D:T[k]?=some L)(im:List (List Nat)):Bo Q T (k+1) im=(Ey Q L im).flatMap λx=>Bo Q T k (x::im):=by
 classical
 have B:T.getD k ⟨0,[],[]⟩=L:=by rw[BG,D];rfl
 rw[Bo,B];unfold Ey nums;rw[List.flatMap_map,<-V8];congr 1;funext t;by_cases h:may Q L im t=true
 .rw[BQ h,BQ (RQ.1 h)]
 .rw[BF h,BF (λC=>h (RQ.2 C))]
theorem WW {Q T:Tw}(B:sz Q<=27):∀(k:Nat),k<=T.length->∀im,(Bo Q T k im).length<=27^k
 |0,_,im=>by simp[Bo]
 |k+1,hk,im=>by
  obtain⟨L,D⟩:∃L,T[k]?=some L:=⟨_,AU (by omega)⟩;rw[Wp D];have C:(Ey Q L im).length<=27:=by unfold Ey;rw[BC];exact Ae (nums_length _ _) B
  have:∀l:List (List Nat),(l.flatMap λx=>Bo Q T k (x::im)).length<=l.length*27^k:=by
   intro l
   induction l with
   |nil=>simp
   |cons a l ih=>
    rw[IW,Bc,DX,Nat.succ_mul];rw[Gh (l.length*27^k)];exact Nat.add_le_add (WW B k (by omega) (a::im)) ih
  refine Ae (this _) ?_;rw[Ke,JC];exact Md _ C
end SE
open RowKit
theorem Rc:(Tryz.prog.info? 25).map (λi=>(i.zero,i.size,i.bytes))=some (some (.slice none 0 0),1,24):=by kernel_rfl
theorem Keep.ext {S:Nat->Prop}{w w':World}(h:Keep S w w'):Keep (λk=>k<w.heap.size->S k) w w':=⟨h.size,λk C B=>h.block k (C B) B⟩
theorem AP.bnd {S:Nat->Prop}{w:World}{v:Value}{l:List Int}(h:AP S w v l):AP (λk=>S k/\k<w.heap.size) w v l:=by
 obtain⟨L,c,Q,D,I,F,N⟩:=h;refine⟨L,c,Q,D,I,F,λi x J=>?_⟩;obtain⟨b,o,K,e2,B,u,O,C⟩:=N i x J;exact⟨b,o,K,⟨e2,B⟩,B,u,O,C⟩
theorem AQ.bnd {S:Nat->Prop}{w:World}{v:Value}{l:List (List Int)}(h:AQ S w v l):AQ (λk=>S k/\k<w.heap.size) w v l:=by
 obtain⟨L,c,Q,D,I,F,N⟩:=h;refine⟨L,c,Q,D,I,F,λi x J=>?_⟩;obtain⟨b,o,K,e2,B,u,O,C⟩:=N i x J;exact⟨b,o,K,⟨e2,B⟩,B,u,O,C.bnd⟩
theorem FR.bnd {S:Nat->Prop}{w:World}{v:Value}{l:List (List (List Int))}(h:FR S w v l):FR (λk=>S k/\k<w.heap.size) w v l:=by
 obtain⟨L,c,Q,D,I,F,N⟩:=h;refine⟨L,c,Q,D,I,F,λi x J=>?_⟩;obtain⟨b,o,K,e2,B,u,O,C⟩:=N i x J;exact⟨b,o,K,⟨e2,B⟩,B,u,O,AQ.bnd C⟩
theorem Av.bnd {S:Nat->Prop}{w:World}{C D B:Value}{P:BZ}(h:Av S w C D B P):Av (λk=>S k/\k<w.heap.size) w C D B P:=⟨h.os.bnd,h.ps.bnd,h.cs.bnd⟩
theorem AQ.put {S:Nat->Prop}{w:World}{g n c:Nat}{rows:List (List Nat)}(hn:rows.length=n)(h:Own2 24 2 0 w (.slice (some ⟨g,0,none⟩) n c) rows)(hS:AQ S w (.slice (some ⟨g,0,none⟩) n c) (rows.map ints))(k:Nat){u:Value}{r:List Nat}
  (hu:AP (λb=>S b/\b≠g) w u (ints r)):AQ S (w.setCell ⟨g,k,none⟩ u) (.slice (some ⟨g,0,none⟩) n c) ((rows.set k r).map ints):=by
 subst hn;obtain⟨us,I,h2,h3⟩:=h;have R:=Jz I k u;have Y:Keep (λb=>b≠g) w (w.setCell ⟨g,k,none⟩ u):=AL.setCell (by simp) _;obtain⟨O,c',e,l,g3,g0,g4⟩:=hS;simp only[Du]at e;obtain⟨rfl,-, rfl⟩:=e;refine⟨some ⟨g,0,none⟩,c,by simp,by simpa using l,g3,by simp,λi x B=>?_⟩;have hi:i<rows.length:=by
  have:=(Ak.1 B).1;simpa using this
 obtain⟨b,o,U,e2,W,v,K,Z⟩:=g4 i (ints rows[i]) (by rw[Bh,AU hi];rfl);simp only[EQ,Hr,and_true]at U;obtain⟨rfl,rfl⟩:=U;have V:us[i]?=some v:=by
  have:=FZ I i (by omega);rw[CK]at K;rw[this]at K;exact K
 by_cases J:i=k
 .subst J;rw[Bh,Jj hi]at B;injection B with B;subst B;refine⟨g,0,rfl,e2,by rw[World.size_setCell];exact W,u,?_,(hu.keep (Y.mono (λb C=>C.2))).mono (λb C=>C.1)⟩;have:=FZ R.1 i (by omega);rw[Jj (by omega)]at this;rw[CK];exact this
 .rw[Bh,KA (λh=>J h.symm),AU hi]at B;injection B with B;subst B;have X:=h3 i rows[i] v (AU hi) V;have q:∀k,v.ownBlock=some k->k≠g:=λk D hg=>by
   rcases Gq X.2 I (by decide)with h|h
   .rw[h]at D;cases D
   .rw[D,hg]at h;exact h rfl
  obtain⟨L,a,rfl⟩:=X.1;refine⟨g,0,rfl,e2,by rw[World.size_setCell];exact W,.slice (some ⟨L,0,none⟩) rows[i].length a,?_,?_⟩
  .have:=FZ R.1 i (by omega);rw[KA (λh=>J h.symm),V]at this;rw[CK];exact this
  .obtain⟨O,a1,F,f2,f3,d,f4⟩:=Z;refine⟨O,a1,F,f2,f3,d,λj y hy=>?_⟩;obtain⟨N,o',s,q2,Q,q4,z,p⟩:=f4 j y hy;subst s;simp only[Du,EQ,Hr,and_true]at F;have a2:N≠g:=λa0=>q L rfl (F.1.1.trans a0);exact⟨N,o',rfl,q2,by rw[World.size_setCell];exact Q,q4,by rw[Y.cell a2 Q];exact z,p⟩
def Own3 (B:Nat)(w:World)(v:Value)(L:List (List (List Nat))):Prop:=
 ∃us:List Value,w.ownsRow B 25 1 v L.length us/\us.length=L.length/\∀(i:Nat) (rows:List (List Nat)) (u:Value),L[i]?=some rows->us[i]?=some u->Own2 24 2 B w u rows
theorem Own2.apart {e2 e I:TypeId}(O:e2≠I)(R:e≠I){B B' s n:Nat}{w w':World}{v J:Value}{rows:List (List Nat)}{us:List Value}(h:Own2 e2 e B w v rows)(K:w.ownsRow B' I s J n us)(hg:w.grownBy w' J.ownBlock):Own2 e2 e B w' v rows:=by
 obtain⟨N,L,Q,C⟩:=h;exact⟨N,L.kept hg (Gq L K O),Q,λi r u D F=>⟨(C i r u D F).1,JB (C i r u D F).2 hg (Gq (C i r u D F).2 K R)⟩⟩
theorem Own3.nil (B:Nat)(w:World):Own3 B w (.slice none 0 0) []:=⟨[],FY _ _ _ _,rfl,by simp⟩
theorem gJ {w w':World}{B:Nat}{e:TypeId}{s n:Nat}{v:Value}{C:List Value}{S:Nat->Prop}(h:w.ownsRow B e s v n C)(D:Keep S w w')(F:∀k,B<=k->k<w.heap.size->S k):w'.ownsRow B e s v n C:=Aw h D.ext F
theorem Own2.keep' {e2 e:TypeId}{B:Nat}{S:Nat->Prop}{w w':World}{v:Value}{rows:List (List Nat)}(h:Own2 e2 e B w v rows)(C:Keep S w w')(D:∀k,B<=k->k<w.heap.size->S k):Own2 e2 e B w' v rows:=h.keep C.ext D
theorem Own3.keep {B:Nat}{S:Nat->Prop}{w w':World}{v:Value}{L:List (List (List Nat))}(h:Own3 B w v L)(C:Keep S w w')(D:∀k,B<=k->k<w.heap.size->S k):Own3 B w' v L:=by
 obtain⟨us,N,F,K⟩:=h;exact⟨us,gJ N C D,F,λi r u I J=>(K i r u I J).keep' C D⟩
theorem Own3.of_below {B:Nat}{w w':World}{v:Value}{L:List (List (List Nat))}(h:Own3 B w v L)(C:Below w.heap.size w w'):Own3 B w' v L:=h.keep (S:=λ_=>True) (AO C) (λ_ _ _=>trivial)
theorem Own3.form {B:Nat}{w:World}{v:Value}{L:List (List (List Nat))}(h:Own3 B w v L):∃a cap,v= .slice a L.length cap/\L.length<=cap/\cap<=maxLen:=by
 obtain⟨us,F,J,R⟩:=h;rcases F.2 with⟨rfl,C⟩|⟨g,cap,I,rfl,O,N,C,D,Q,K⟩
 .exact⟨none,0,by rw[C],by omega,by simp⟩
 .exact⟨_,cap,rfl,C,D⟩
theorem Own3.lt {B:Nat}{w:World}{v:Value}{L:List (List (List Nat))}(h:Own3 B w v L):∀k,v.ownBlock=some k->B<=k/\k<w.heap.size:=by
 obtain⟨us,C,D,F⟩:=h;exact Aq C
theorem Own3.push {B n:Nat}{w w':World}{v I u:Value}{L:List (List (List Nat))}{rows:List (List Nat)}{us:List Value}(S:L.length=n)
  (V:w.ownsRow B 25 1 v n us) (J:us.length=L.length) (U:∀(i:Nat) (rows:List (List Nat)) (u:Value),L[i]?=some rows->us[i]?=some u->Own2 24 2 B w u rows)
  (R:Own2 24 2 B w u rows) (Q:w'.ownsRow B 25 1 I (n+1) (us++[u])) (hg:w.grownBy w' v.ownBlock):Own3 B w' I (L++[rows]):=by
 subst S;refine⟨us++[u],by simpa using Q,by simp[J],λi F N C D=>?_⟩;have O:Own2 24 2 B w N F:=by
  rcases CU i L.length with hi|hi
  .rw[DK hi]at C;rw[DK (by omega)]at D;exact U i F N C D
  .rw[DC hi]at C;rw[DC (by omega)]at D;rw[J]at D;rcases K:i-L.length with _|j
   .rw[K]at C D;simp at C D;subst C;subst D;exact R
   .rw[K]at C;simp at C
 exact O.apart (by decide) (by decide) V hg
namespace Zw
open RowKit AJ BN CL SE BU Iy QJ Ga
def Vy (B:Nat)(w:World)(C:Value)(R:List (List (List Nat)))(e:Ending)(w':World):Prop:=
 ∃v,e= .returned v/\Own3 B w' v R/\Keep (λb=>some b≠C.ownBlock) w w'/\(v.ownBlock=C.ownBlock\/∀b,v.ownBlock=some b->w.heap.size<=b)/\Below B w w'
def Fq (Q:Tw)(k:Nat)(im:List (List Nat)):List (List Nat):=List.replicate k (AJ.one Q)++im
theorem rX (Q:Tw)(k:Nat)(im:List (List Nat))(x:List Nat):(Fq Q (k+1) im).set k x=Fq Q k (x::im):=by
 unfold Fq;rw[IK,Dy,List.set_append_right _ _ (by simp)];simp
theorem oD (Q:Tw)(k:Nat)(im:List (List Nat)):(Fq Q k im).drop k=im:=by simp[Fq]
theorem O9 (Q:Tw)(k:Nat)(im:List (List Nat)):(Fq Q k im).length=k+im.length:=by simp[Fq]
theorem Zu {Q:Tw}(C:Wf Q){k:Nat}{im:List (List Nat)}(h:∀x∈im,El Q x):∀x∈Fq Q k im,El Q x:=λx D=>by
 rcases DY.1 D with B|B
 .rw[(GL.1 B).2];exact CR C
 .exact h x B
theorem uG {Q:Tw}(C:Wf Q){L:Lv}{im:List (List Nat)}:∀x∈Ey Q L im,El Q x:=λx B=>by
 unfold Ey at B;obtain⟨t,_,rfl⟩:=BX.1 B;exact Cb C t
theorem Wq {Q:Tw}(B:sz Q<=27){L:Lv}{im:List (List Nat)}:(Ey Q L im).length<=27:=by
 unfold Ey;rw[BC];exact Ae (nums_length _ _) B
theorem Qq {Q T:Tw}(C:sz Q<=27){k:Nat}(B:k<=T.length)(im:List (List Nat)):∀l:List (List Nat),(l.flatMap λx=>Bo Q T k (x::im)).length<=l.length*27^k:=by
 intro l
 induction l with
 |nil=>simp
 |cons a l ih=>
  rw[IW,Bc,DX,Nat.succ_mul,Gh (l.length*27^k)];exact Nat.add_le_add (WW C k B (a::im)) ih
theorem kN {Q T:Tw}(I:sz Q<=27){k:Nat}(C:k<=T.length){im:List (List Nat)}{F:List (List (List Nat))}{l:List (List Nat)}{c N:Nat}(h:F.length+27^(k+1)<=N)(J:l.length<=27)(K:c<l.length):
  (F++(l.take c).flatMap λx=>Bo Q T k (x::im)).length+27^k<=N:=by
 have D:=Qq I C im (l.take c);rw[Ec,Nat.min_eq_left (by omega)]at D;rw[Bc];have B:(c+1)*27^k<=27*27^k:=Mr _ (by omega);rw[Ke,JC]at h;rw[Nat.succ_mul]at B;omega
def PW (T Q:Tw)(k:Nat):Prop:=∀(B:Nat) (w:World) (N J L D I O K C:Value) (im:List (List Nat)) (F:List (List (List Nat))),Av (λb=>some b≠C.ownBlock) w N J L (AZ T)->Av (λb=>some b≠C.ownBlock) w D I O (AZ Q)->
 AQ (λb=>some b≠C.ownBlock) w K ((Fq Q k im).map ints)->k+im.length=T.length->(∀x∈im,El Q x)->Own3 B w C F->B<=w.heap.size->F.length+27^k<=1000000000->
 Calls Tryz.prog 106 #[.agg #[N,J,L],.agg #[D,I,O],.int .i64 ((k:Int)-1),K,C] w (Vy B w C (F++Bo Q T k im))
theorem XQ (T Q:Tw)(a9:Small T)(hs:Small Q):PW T Q 0:=by
 intro B w pO pP pC qO qP qC vi q im F a2 a0 hi hl x hF hB y;obtain⟨i0,a4,a7,a8,a5⟩:=Bd Rc;have Z:AQ (λb=>some b≠q.ownBlock) w vi (im.map ints):=hi;have HI:=AB Z;have d:=AB (show F.length+1<=1000000000 from y);have HF:=AB hF;have a3:=AB (λW hv=>PU W vi im hv (by have:=a9.1;omega) (λr U=>by rw[Ad (x r U)];have:=hs.1;omega));rw[show(((0:Nat):Int)-1)= -1 from rfl];obtain⟨N,O⟩:∃N,N=(w.alloc (.cells #[pO,pP,pC] 28)).alloc (.cells #[qO,qP,qC] 28):=⟨_,rfl⟩;have D:=AB (show Below w.heap.size w N by rw[O];exact(AY.alloc AV _).alloc (by simp) _);clear a2 a0 hi Z x hF y hl;go_enter Tryz.func106,Tryz.ntmps106;go_upto_region 1 with fail;rw[<-O];clear O;go_wp2_with fail;refine(a3.AA _ ((HI.AA.keep (AO D.AA)).mono (λ_ _=>trivial))).mono ?_;rintro e p ⟨v1,rfl,R,z⟩;have l:=AB (R.mono (B':=B) (Ae hB D.AA.size));have C:=AB (D.AA.trans (z.mono D.AA.size));obtain⟨us,K,X,a⟩:=HF.AA.of_below C.AA;have V:=AB (And.intro X a);obtain⟨a1,c1,rfl,_,_⟩:=R.form;have b0:=AB C.AA.size;clear R z X a;go_wp2_with (at_builtin;(refine ER _ rfl _ _ 26 rfl B 25 i0 (.slice none 0 0) 1 24 Tryz.underlying26 a4 a7 a8 a5 rfl (by decide) _ _ _ rfl (K.alloc _) ⟨p.heap.size,0,none⟩ 1 1 [.slice a1 im.length c1] rfl rfl ?c1 ?c2 ?c3 ?c4 ?c5 ?c6 _ rfl ?_));case c1=>
  intro j u J
  match j,J with
  |0,J=>simp at J;subst J;simp[Addr.add]
 case c2=>intro u I;simp at I;subst I;rfl
 case c3=>omega
 case c4=>have:=d.AA;unfold maxLen;omega
 case c5=>have:=d.AA;omega
 case c6=>have:=C.AA.size;simp;omega
 .intro g cap w2 s L v a6;have HR:=AB (show Vy B w q (F++Bo Q T 0 im) (.returned (.slice (some ⟨g,0,none⟩) (F.length+1) cap)) w2 from by
   refine⟨_,rfl,?_,?_,?_,?_⟩
   .exact Own3.push (w:=p.alloc _) (us:=us) rfl (K.alloc _) V.AA.1 (λi r u U I=>(V.AA.2 i r u U I).keep (S:=λ_=>True) (AL.alloc _) (λ_ _=>trivial)) (l.AA.keep (S:=λ_=>True) (AL.alloc _) (λ_ _=>trivial)) s L
   .exact((AO C.AA).alloc _).trans (Keep.grown L (λk hk=>hk))
   .rcases v with h|h
    .exact .inl h.symm
    .refine .inr λb Y=>?_;simp only[Value.ownBlock,EQ]at Y;subst Y;rw[h];have:=C.AA.size;simp;omega
   .exact((C.AA.mono hB).alloc (by have:=C.AA.size;omega) _).grown L (by simp;have:=C.AA.size;omega) (λg hg=>(Aq K g hg).1))
  clear s L v a6 K V l;go_wp2_with fail;go_ret;exact HR.AA
theorem uH {S:Nat->Prop}{a b:World}(h:Keep (λk=>S k/\k<a.heap.size) a b):Keep S a b:=⟨h.size,λk C B=>h.block k ⟨C,B⟩ B⟩
open Classical in
theorem oG {L:Lv}{im:List (List Nat)}:Ey [] L im=[]:=by
 have B:∀t,may [] L im t=false:=λt=>by
  unfold may;refine ED λh=>h.1 ?_;have e:at_ [] t=AJ.one []:=rfl;rw[e];exact Gen.Gen.one
 unfold Ey nums;rw[List.filter_eq_nil_iff.2 (λt _=>by rw[B t];simp)];rfl
theorem XR (T Q:Tw)(hT:Wf T)(e3:Small T)(hQ:Wf Q)(hs:Small Q)(hg:AJ.Good Q)(hp:EN.Pr Q)(hz:sz Q<=27)(k:Nat)(hk:k<T.length)(a5:0<Q.length\/(Q=[]/\k+1=T.length))(b7:0<Q.length->PW T Q k):PW T Q (k+1):=by
 intro B w v pP g d u q vi J im F b1 d3 hi hl l hF hB hN;obtain⟨L,hL⟩:∃L,T[k]?=some L:=⟨_,AU hk⟩;have i9:=e3.1;have HI:=AB hi;have a6:=AB b1;have a4:=AB d3;have HN:=AB hN;have HF:=AB hF;have HE:=AB l;have d2:=AB hl;have h3:=AB b7;have g8:=AB (show∀x,x∈Ey Q L im->0<Q.length from λx U=>by
  rcases a5 with h|⟨h,_⟩
  .exact h
  .subst h;exact absurd U (by rw[oG];simp))
 have c1:=AB hF.lt;have g1:=AB (Wp (Q:=Q) hL im);have c0:=AB (λW hP h6 hv=>show Calls _ _ _ _ (Mv _ _ (Ey Q L im) W) from by
  have h:=iD T Q hT e3 hQ hs hg hp (by omega) W v pP g d u q vi k L hL (Fq Q (k+1) im) hP h6 hv (by rw[O9];omega) (Zu hQ l) a5;rwa[oD]at h)
 have g6:=AB (λW hv=>PU W vi (Fq Q (k+1) im) hv (by rw[O9];omega) (λr hr=>by rw[Ad (Zu hQ l r hr)];have:=hs.1;omega));have f7:=AB (uG hQ (L:=L) (im:=im));have i2:=AB (Wq hz (L:=L) (im:=im));have e8:=AB (λc hc=>kN (Q:=Q) (T:=T) hz (Ci hk) (im:=im) hN (Wq hz (L:=L) (im:=im)) (c:=c) hc);obtain⟨n,hn⟩:∃n,(Ey Q L im).length=n:=⟨_,rfl⟩;have a0:=AB hn;have i6:n<=27:=by rw[<-hn];exact i2.AA
 rw[show(((k+1:Nat):Int)-1)=(k:Int) by omega];obtain⟨W0,a7⟩:∃W0,W0=(w.alloc (.cells #[v,pP,g] 28)).alloc (.cells #[d,u,q] 28):=⟨_,rfl⟩;have d0:=AB (show Below (w.heap.size+2) ((w.alloc (.cells #[v,pP,g] 28)).alloc (.cells #[d,u,q] 28)) W0 by rw[a7];exact BB _ _);have j3:decide ((k:Int)<0)=false:=by simp
 clear b1 d3 hi l hF hN hl hn hL b7 a5;go_enter Tryz.func106,Tryz.ntmps106;go_upto_region 1 with fail;rw[<-a7];clear a7;obtain⟨⟨p0,p1,Y⟩,⟨q0,q1,q2⟩,a,g7,b4⟩:=bx d0.AA;go_wp2_with fail;refine(c0.AA _ ((a6.AA.keep (a.mono (λ_ _=>trivial))).mono (λ_ _=>trivial)) ((a4.AA.keep (a.mono (λ_ _=>trivial))).mono (λ_ _=>trivial)) ((HI.AA.keep (a.mono (λ_ _=>trivial))).mono (λ_ _=>trivial))).mono ?_;rintro e D ⟨vc,rfl,a8,e4⟩;have d5:=AB (d0.AA.trans (e4.mono b4));obtain⟨-, -, X,d8,i8⟩:=bx d5.AA;have b2:=AB X;have d7:=AB d8;have d4:∀b,J.ownBlock=some b->b<w.heap.size:=λb C=>(c1.AA b C).2;have e2:=AB d4;have i0:=AB (a6.AA.keep (X.mono (λ_ _=>trivial))).bnd;have f0:=AB (a4.AA.keep (X.mono (λ_ _=>trivial))).bnd;have f1:=AB (HI.AA.keep (X.mono (λ_ _=>trivial))).bnd;have f5:=AB (show AQ (λb=>some b≠J.ownBlock/\b<D.heap.size) D vc ((Ey Q L im).map ints) from(a8.sl.bnd).mono (λb C=>⟨λh=>by have:=e2.AA b h.symm;have:=C.1;omega,C.2⟩));obtain⟨ac,cc,d1,_,_⟩:=a8.form;rw[a0.AA]at d1;subst d1;have f2:=AB (show Own3 B D J (F++((Ey Q L im).take 0).flatMap λx=>Bo Q T k (x::im)) from by
  rw[List.take_zero,List.flatMap_nil,FP];exact HF.AA.of_below d7.AA)
 clear a8 e4 a g7 b4 X d8 p0 p1 Y q0 q1 q2 a6 a4 HI c0 HF c1 d4;go_wp2_with fail;go_loopw [4,12] (λvf iv wr=>∃c:Nat,c<=n/\iv= .int .i64 (c:Int)/\Hid (Own3 B wr vf (F++((Ey Q L im).take c).flatMap λx=>Bo Q T k (x::im)))/\Hid (Keep (λb=>some b≠J.ownBlock/\b<D.heap.size) D wr)/\Hid (vf.ownBlock=J.ownBlock\/∀b,vf.ownBlock=some b->D.heap.size<=b)/\Hid (Below B D wr)) (λ_ iv _=>n-(intOf iv).toNat);case atStart=>exact⟨0,AX _,rfl,f2,AB AL,AB (.inl rfl),AB AY⟩
 case round=>
  obtain⟨c,hc,rfl,hO,N,hW,e0⟩:=hrel;have j5:=N.AA.size;by_cases b9:c<n
  .have i4:decide ((c:Int)<(n:Int))=true:=by simp;omega
   obtain⟨x,U⟩:∃x,(Ey Q L im)[c]?=some x:=⟨_,AU (by rw[a0.AA];exact b9)⟩;have HX:=AB U;obtain⟨Z,oC,ux,e1,⟨g5,d6⟩,_,b3,b6⟩:=Am.get f5.AA (k:=c) (x:=ints x) (by rw[Bh,U];rfl);subst e1;have c6:=AB b6;have e7:Z<wr.heap.size:=by omega
   have b5:wr.cell? ⟨Z,oC+c,none⟩=some ux:=(N.AA.cell ⟨g5,d6⟩ d6).trans b3;have g0:=AB b5;clear U b6 b3 b5;go_wp2_with fail;refine(g6.AA _ ((f1.AA.keep N.AA).mono (λ_ _=>trivial))).mono ?_;rintro e s ⟨v4,rfl,a1,a2⟩;obtain⟨V,c4,_,c2,j4,j2,_,_⟩:=a1.at (i:=0) (r:=(Fq Q (k+1) im)[0]'(by rw[O9];omega)) (by rw[AU]);have b8:=AB (show(Fq Q (k+1) im).length=T.length by rw[O9];exact d2.AA);rw[b8.AA]at c2;subst c2;have c8:=AB a1;have z:=AB a2;have g9:=a2.size;obtain⟨⟨s4,f4⟩,e6⟩:=Own2.bD a1 (k:=k) (by rw[O9];omega);have h7:s.cell? ⟨Z,oC+c,none⟩=some ux:=(a2.cell (p:=⟨Z,oC+c,none⟩) e7).trans g0.AA;have j1:(k:Int)<(T.length:Int):=by omega
   have i5:(0:Int)<=(k:Int):=by omega
   have i3:(c:Int)<(n:Int):=by omega
   have j0:(0:Int)<=(c:Int):=by omega
   obtain⟨aR,cR,g3,_⟩:=AP.open c6.AA;subst g3;clear a1 a2;go_upto_region 9 with fail;obtain⟨I,K⟩:∃I,I=s.setCell ⟨V,k,none⟩ (.slice aR x.length cR):=⟨_,rfl⟩;rw[<-K];have f6:I.heap.size=s.heap.size:=by rw[K,World.size_setCell]
   have a3:Keep (λb=>b≠V) s I:=by rw[K];exact AL.setCell (by simp) _
   have O:Keep (λb=>some b≠J.ownBlock/\b<D.heap.size) D I:=(N.AA.trans (AO z.AA)).trans (a3.mono (λb C=>by omega));have R:∀b,some b≠J.ownBlock->b<D.heap.size->some b≠u4.ownBlock:=λb h1 h2=>by
    rcases hW.AA with h|h
    .rw[h];exact h1
    .intro e;have:=h b e.symm;omega
   have b0:∀b,u4.ownBlock=some b->b<wr.heap.size:=λb C=>(hO.AA.lt b C).2;have g2:=AB (show AQ (λb=>some b≠u4.ownBlock) I (.slice (some ⟨V,0,none⟩) T.length c4) ((Fq Q k (x::im)).map ints) from by
    rw[K,<-rX];exact AQ.put b8.AA (c8.AA.mono (AX _)) (c8.AA.sl.mono (λb C e=>by have:=b0 b e.symm;omega)) k ((c6.AA.keep (N.AA.trans (AO z.AA))).mono (λb C=>⟨R b C.1 C.2,by have:=C.2;omega⟩)))
   have f3:=AB (hO.AA.keep (S:=λb=>b<wr.heap.size) ((Keep.lt z.AA).trans (a3.mono (λb C=>by omega))) (λb _ C=>C));have h5:=AB ((i0.AA.keep O).mono (λb C=>R b C.1 C.2));have f9:=AB ((f0.AA.keep O).mono (λb C=>R b C.1 C.2));have h8:=AB (show Below B D I from by rw[K];exact(e0.AA.trans (z.AA.mono (by omega))).setCell (by show B<=V;omega) _);obtain⟨⟨p0,p1,Y⟩,⟨q0,q1,q2⟩,-, -, -⟩:=bx d5.AA;have c5:∀j o,w.heap.size<=j->j<D.heap.size->I.cell? ⟨j,o,none⟩=D.cell? ⟨j,o,none⟩:=λj o h1 h2=>O.cell ⟨λe=>by have:=e2.AA j e.symm;omega,h2⟩ h2;rw[<-c5 _ _ (by omega) (by omega)]at p0 p1 Y q0 q1 q2;have h9:=AB O;have h0:=AB R;have i7:(k:Int)<=6:=by omega
   have h4:=AB (show∀y∈x::im,El Q y from λy hy=>by
    rcases EE.1 hy with h|h
    .rw[h];exact f7.AA x (Af HX.AA)
    .exact HE.AA y h)
   have c7:=AB (show B<=I.heap.size/\D.heap.size<=I.heap.size by omega);clear K f6 a3 O R b0 c5 f4 e6 h7 g9;go_wp2_with fail;refine(h3.AA (g8.AA x (Af HX.AA)) B I v pP g d u q (.slice (some ⟨V,0,none⟩) T.length c4) u4 (x::im) _ h5.AA f9.AA g2.AA (by have:=d2.AA;simp;omega) h4.AA f3.AA c7.AA.1 (e8.AA c (by rw[a0.AA];exact b9))).mono ?_;rintro e w6 ⟨v6,rfl,d9,c3,a9,c9⟩;have f8:=AB (show Own3 B w6 v6 (F++((Ey Q L im).take (c+1)).flatMap λx=>Bo Q T k (x::im)) from by
    rw[take_succ HX.AA,List.flatMap_append,IW,List.flatMap_nil,FP,<-Dy];exact d9)
   have e5:=AB (h9.AA.trans (c3.mono (λb C=>h0.AA b C.1 C.2)));have e9:=AB (show v6.ownBlock=J.ownBlock\/∀b,v6.ownBlock=some b->D.heap.size<=b from by
    rcases a9 with h|h
    .rw[h];exact hW.AA
    .exact .inr (λb C=>Ae c7.AA.2 (h b C)))
   have i1:=AB (h8.AA.trans c9);clear d9 c3 a9 c9 p0 p1 Y q0 q1 q2;go_wp2_with fail;go_roundw;case rel=>exact⟨c+1,by omega,by go_num,f8,e5,e9,i1⟩
   case measure=>simp[intOf];omega
  .obtain rfl:c=n:=by omega
   have HR:=AB (show Vy B w J (F++Bo Q T (k+1) im) (.returned _) wr from by
    refine⟨_,rfl,?_,?_,?_,?_⟩
    .have h:=hO.AA;rw[<-a0.AA,FO,<-g1.AA]at h;exact h
    .exact(Keep.mono b2.AA (λ_ _=>trivial)).trans (uH N.AA)
    .rcases hW.AA with h|h
     .exact .inl h
     .exact .inr (λb C=>Ae b2.AA.size (h b C))
    .exact(d7.AA.mono hB).trans e0.AA)
   go_wp2_with fail;go_ret;exact HR.AA
theorem YH (T Q:Tw)(hT:Wf T)(B:Small T)(F:Wf Q)(C:Small Q)(hg:AJ.Good Q)(D:EN.Pr Q)(J:sz Q<=27)(I:0<T.length->0<Q.length):∀k,k<=T.length->PW T Q k
 |0,_=>XQ T Q B C
 |k+1,h=>XR T Q hT B F C hg D J k (by omega) (.inl (I (by omega))) (λ_=>YH T Q hT B F C hg D J I k (by omega))
theorem kT (T Q:Tw)(hT:Wf T)(B:Small T)(F:Wf Q)(C:Small Q)(hg:AJ.Good Q)(D:EN.Pr Q)(I:sz Q<=27):PW T Q T.length:=by
 rcases Nat.eq_zero_or_pos Q.length with h|h
 .obtain rfl:Q=[]:=Di h;cases J:T.length with
  |zero=>exact XQ T [] B C
  |succ k=>exact XR T [] hT B F C hg D I k (by omega) (.inr ⟨rfl,by omega⟩) (λh=>absurd h (by simp))
 .exact YH T Q hT B F C hg D I (λ_=>h) T.length AV
end Zw
namespace Ru
open RowKit AJ BN Gz Jc KD OP Mh IP
def wS (e:TypeId)(x:List Nat)(w:World)(e':Ending)(w':World):Prop:=∃v,e'= .returned v/\CZ e w.heap.size w' v x/\Below w.heap.size w w'
theorem jE (w:World)(B:Addr)(n c:Nat)(l:List Nat)(C:AP Any w (.slice (some B) n c) (ints l))(L:l.length<=1000000):
  Calls Tryz.prog 150 #[.slice (some B) n c] w (wS 3 l w):=by
 obtain⟨Z,hi,V,Y,b⟩:=Bd Rv;have d:n=l.length:=by obtain⟨_,_,e,_⟩:=C;simp only[Du]at e;rw[e.2.1,BK]
 subst d;have N:=AB L;clear L;have q:=AB C;have X:=DL (base:=w.heap.size) (e:=3) (size:=1) w #[] 0 AV (AX _) rfl;have j:=λ(w:World) (a:Option Addr) (n c R U:Nat)=>Lib.run_eql_slice_nil (P:=Tryz.prog) w 80 3 a n c R U Tryz.underlying80;have J:AP Any w (.slice (some B) (ints l).length c) (ints l):=by rw[BK];exact C
 have C1:=AB (AP.src (w':=w.alloc (.cells #[] 3)) J (AL.alloc _));have C2:=AB (LH (ints l));have C3:=AB (show 0+l.length<=maxLen from by have:=N.AA;unfold maxLen;omega);have C4:=AB (show(0+l.length)*8<=140737488355328 from by have:=N.AA;omega);have h:=AB (show(vals (ints l)).length=l.length*1 by simp[vals,ints]);clear C J;go_enter Tryz.func150,Tryz.ntmps150;go_wp2_with (at_builtin;refine DR _ rfl _ _ 80 rfl w.heap.size 3 Z (.int .i64 0) 1 8 Tryz.underlying80 hi V Y b rfl (by decide) _ _ _ rfl X B l.length c (vals (ints l)) rfl h.AA C1.AA C2.AA C3.AA C4.AA (by simp) ?_);intro I F O Q D;have S:I≠.slice none 0 0:=by first|exact D|(intro e;have:=D.1 e;simp at this)
 have K:F.ownsRow w.heap.size 3 1 I l.length (vals (ints l)):=by simpa using O
 have i:Below w.heap.size w F:=(AY.alloc AV _).grown Q (by simp) (by intro k W;simp[Value.ownBlock]at W;omega);clear O Q D;go_wp2_with fail;go_ret;refine⟨_,rfl,⟨?_,K⟩,i⟩;rcases K.2 with⟨e,_⟩|⟨g,cap,p,e,_⟩
 .exact absurd e S
 .exact⟨g,cap,e⟩
end Ru
namespace VD
open RowKit AJ BN Gz Jc KD OP Mh Ru IP Grow
def Sx (B D C:Nat):Nat->Prop:=λk=>k<B/\k≠D/\k≠C
structure FU (w:World)(bs bp op bg gi ci B:Nat)(T Q:Tw)(b:Bool)(Gn:List Nat)(F:List (List Nat))(vF:Value):Prop where
 hbs:bs<B
 hgi:gi<B
 hne:bs≠gi
 hB:B<=w.heap.size
 row:w.heap[bs]?=some (.cells #[.pointer (some ⟨bp,op,none⟩),.pointer (some ⟨bg,0,none⟩),.slice (some ⟨gi,0,none⟩) T.length ci,.bool b,vF] 111)
 pre:BH (Sx B bs gi) w bp op (AZ T)
 tab:KD.DU (Sx B bs gi) w bg Q
 len:Gn.length=T.length
 Gn:w.ownsRow 0 3 1 (.slice (some ⟨gi,0,none⟩) T.length ci) T.length (vals (ints Gn))
 QQ:Own2 80 3 B w vF F
theorem FU.fZ {w:World}{N R O K D C B:Nat}{T Q:Tw}{b:Bool}{I:List Nat}{F:List (List Nat)}{L:Value}(h:FU w N R O K D C B T Q b I F L):AP Any w (.slice (some ⟨D,0,none⟩) T.length C) (ints I):=by
 have J:=h.len;have:CZ 3 0 w (.slice (some ⟨D,0,none⟩) T.length C) I:=⟨⟨D,C,by rw[J]⟩,by rw[J];exact h.Gn⟩;exact this.sl.mono (λ_ _=>trivial)
theorem FU.cells {w:World}{C K D I N L B:Nat}{T Q:Tw}{b:Bool}{O:List Nat}{F:List (List Nat)}{J:Value}(h:FU w C K D I N L B T Q b O F J):
  w.cell? ⟨C,0,none⟩=some (.pointer (some ⟨K,D,none⟩))/\w.cell? ⟨C,1,none⟩=some (.pointer (some ⟨I,0,none⟩))/\w.cell? ⟨C,2,none⟩=some (.slice (some ⟨N,0,none⟩) T.length L)/\w.cell? ⟨C,3,none⟩=some (.bool b)/\w.cell? ⟨C,4,none⟩=some J:=by
 refine⟨?_,?_,?_,?_,?_⟩<;>exact(Ar w C _ _ _ (0,0) h.row).trans rfl
theorem FU.QP {w:World}{L J D I N K B:Nat}{T Q:Tw}{b:Bool}{C:List Nat}{F:List (List Nat)}{O:Value}(h:FU w L J D I N K B T Q b C F O):VZ w L J D I N K T Q C:=
 ⟨Ah h.hbs h.hB,h.cells.1,h.cells.2.1,h.cells.2.2.1,h.pre.mono (λ_ _=>trivial),OP.DU.mono h.tab (λ_ _=>trivial),h.len,h.fZ⟩
theorem FU.below {w w':World}{K O N D R J B:Nat}{T Q:Tw}{b:Bool}{L:List Nat}{F:List (List Nat)}{I:Value}(h:FU w K O N D R J B T Q b L F I)(C:Below w.heap.size w w'):FU w' K O N D R J B T Q b L F I:=
 ⟨h.hbs,h.hgi,h.hne,Ae h.hB C.size,by rw[C.block _ (Ah h.hbs h.hB)];exact h.row,h.pre.keep (AO C),h.tab.keep (AO C),h.len,Aw h.Gn (S:=Any) (AO C) (λ_ _=>trivial),h.QQ.of_below C⟩
def Ky (A B C D:Nat)(w w':World):Prop:=Below A w w'/\Keep (Sx B C D) w w'
def Vz (A D O N J I K B:Nat)(T Q:Tw)(b:Bool)(F G:List (List Nat))(k:Nat)(im:List Nat)(w:World)(e:Ending)(w':World):Prop:=
 e= .returned (.tuple #[])/\∃C L,FU w' D O N J I K B T Q b C (F++G) L/\C.drop k=im/\(∀y∈C,y<sz Q)/\Ky A B D I w w'
theorem bH {B D:Nat}{w w':World}(C:D<B/\B<=w.heap.size)(h:Keep (· <B) w w'):(∀o,w'.cell? ⟨D,o,none⟩=w.cell? ⟨D,o,none⟩)/\(∀o,w'.frozen? ⟨D,o,none⟩=w.frozen? ⟨D,o,none⟩)/\Keep (· <B) w w':=
 ⟨λo=>h.cell C.1 (Ah C.1 C.2),λo=>World.frozen?_of_block (h.block D C.1 (Ah C.1 C.2)),h⟩
theorem rY {w:World}{B:Nat}{cs:Array Value}{t:TypeId}(h:w.heap[B]?=some (.cells cs t))(j:Nat)(v:Value):(w.setCell ⟨B,j,none⟩ v).heap[B]?=some (.cells (cs.setIfInBounds j v) t):=by
 rw[Gf w B j cs t v h]
theorem oH {w w':World}{e:TypeId}{B g n c:Nat}{C:List Value}(h:w.ownsRow B e 1 (.slice (some ⟨g,0,none⟩) n c) n C)(I:w'.heap[g]?=w.heap[g]?):w'.ownsRow B e 1 (.slice (some ⟨g,0,none⟩) n c) n C:=by
 refine⟨h.1,?_⟩;rcases h.2 with J|⟨N,cap,D,L,K,F,rest⟩
 .exact .inl J
 .obtain⟨rfl,rfl⟩:g=N/\c=cap:=by simpa using L
  exact .inr ⟨g,c,D,rfl,K,by rw[I];exact F,rest⟩
theorem jF {A:Nat}{T Q:Tw}{w w6:World}{C U R N D O B:Nat}{b:Bool}{K:List Nat}{F:List (List Nat)}{V J:Value}(h:FU w C U R N D O B T Q b K F V)(d:A<=C/\A<=D)(X:∀y∈K,y<sz Q)
  (g:Below A w w6) (Z:Own2 80 3 B w6 J (F++[K])) (I:Keep (· <B) w w6):Vz A C U R N D O B T Q b F [K] 0 K w (.returned (.tuple #[])) (w6.setCell ⟨C,4,none⟩ J):=by
 have W:=Ah h.hbs h.hB;have L:Keep (Sx B C D) w (w6.setCell ⟨C,4,none⟩ J):=(I.mono (λk (I:Sx B C D k)=>I.1)).setCell (by simp[Sx]) _;refine⟨rfl,K,J,⟨h.hbs,h.hgi,h.hne,by have:=I.size;have:=h.hB;simp;omega,?_,h.pre.keep L,h.tab.keep L,h.len,?_,?_⟩,rfl,X,g.setCell (by simp;exact d.1) _,L⟩
 .have a:w6.heap[C]?=_:=(I.block C h.hbs W).trans h.row;exact rY a 4 J
 .refine oH h.Gn ?_;have Y:(w6.setCell ⟨C,4,none⟩ J).heap[D]?=w6.heap[D]?:=Below.heap_setCell _ _ _ D (λe=>h.hne e.symm);rw[Y];exact I.block D h.hgi (Ah h.hgi h.hB)
 .exact Z.keep (S:=(B<= ·)) (AL.setCell (by simp;exact h.hbs) _) (λk I=>I)
theorem iE (A:Nat)(T Q:Tw)(hs:T.length<=6)(hQ:Wf Q)(hz:sz Q<=27)(w:World)(I j op bg L R B:Nat)(b:Bool)(D:List Nat)(F:List (List Nat))(U:Value)(M:Nat)
  (h:FU w I j op bg L R B T Q b D F U) (hA:A<=I/\A<=L) (hF:F.length<=1000000000) (a0:∀y∈D,y<sz Q):
  Calls Tryz.prog 90 #[.pointer (some ⟨I,0,none⟩),.int .i64 (-1),.int .u64 (M:Int)] w (Vz A I j op bg L R B T Q b F [D] 0 D w):=by
 obtain⟨i0,hi,a9,b1,a5⟩:=Bd Z5;obtain⟨q0,q1,q2,q3,q4⟩:=h.cells;have z4:w.frozen? ⟨I,4,none⟩=false:=BP w I 4 _ _ h.row;have HI:=AB h;have a2:=Ah h.hbs h.hB;have b5:=AB (λW (hW:AP Any W (.slice (some ⟨L,0,none⟩) T.length R) (ints D))=>jE W ⟨L,0,none⟩ T.length R D hW (by rw[h.len];omega));have a4:=AB a0;have p:=AB hA;have HF:=AB hF;obtain⟨us,V,d,g⟩:=h.QQ;have N:=AB (And.intro V (And.intro d g));have X:=h.hB;have s:I<B/\B<=w.heap.size:=⟨h.hbs,h.hB⟩;have b4:∀k,k<B->some k≠U.ownBlock:=λk hk e=>by have:=(Aq V k e.symm).1;omega
 clear h a0 hA hF hz V d g;go_enter Tryz.func90,Tryz.ntmps90;go_upto_region 1 with fail;go_region_law
  (first|(go_simp;go_at_call 150;refine(b5.AA _ (HI.AA.fZ.keep (by first|exact AL.drew|exact AL))).mono ?_;rintro e J ⟨v5,rfl,⟨⟨Z,Y,rfl⟩,a⟩,C⟩;obtain⟨x,a7,b6⟩:=bH s (by first|exact AR AL.drew C|exact AO C:Keep (· <B) w J);have a6:=(x 4).trans q4;have c1:I<J.heap.size:=Ah a2 (by exact C.size))|(refine Ja _ (by rfl) _ _ _ (by rfl) B 80 i0 (.slice none 0 0) 1 24 Tryz.underlying71 hi a9 b1 a5 rfl (by omega) U F.length us (by rfl) ((Aw N.AA.1 (S:=Any) (by first|exact AR AL.drew C|exact AO C) (λ_ _=>trivial)).alloc _) ⟨J.heap.size,0,none⟩ 1 1 [.slice (some ⟨Z,0,none⟩) D.length Y] (by rfl) (by rfl) (Cw (cs:= #[.slice (some ⟨Z,0,none⟩) D.length Y]) (t:=80) (fr:=(0,0)) (Aj J _)) (by simp[Value.oneCell']) (by omega) (by have:=HF.AA;unfold maxLen;omega) (by have:=HF.AA;omega) (by have:=C.size;simp;exact Nat.le_succ_of_le (Ae X C.size)) _ rfl ?_;intro gg cap w6 q O b9 b7;obtain⟨z,a1,l⟩:=bH s (Keep.trans ((by first|exact AR AL.drew C|exact AO C:Keep (· <B) w J).alloc _) (Keep.grown O b4));have b2:=(z 4).trans q4;have a3:=(a1 4).trans z4))
 all_goals
  have K:Below w.heap.size w J:=by first|exact C|exact(AY.drew).trans C
  have c0:=K.size;have b8:=p.AA.1;have a8:=AB (show Below A w w6 from((K.mono (by omega)).alloc (by omega) _).grown O (by simp;omega) (λk hk=>by have:=(Aq N.AA.1 k hk).1;omega));have b3:=AB (show Own2 80 3 B w6 (.slice (some ⟨gg,0,none⟩) (F.length+1) cap) (F++[D]) from
   Own2.push (w:=J.alloc _) (us:=us) (by decide) rfl ((Aw N.AA.1 (S:=Any) (AO K) (λ_ _=>trivial)).alloc _) N.AA.2.1 (λi r u hr hu=>(N.AA.2.2 i r u hr hu).keep (S:=Any) ((AO K).alloc _) (λ_ _=>trivial)) (CZ.keep (S:=Any) ⟨⟨Z,Y,rfl⟩,Gp a (by first|exact X|exact Ae X AV)⟩ (AL.alloc _) (λ_ _=>trivial)) q O)
  have b0:=AB l;clear q O a C x a7 b6 z a1 l a6 K b2 a3;go_wp2_with fail;exact Au (v:=.tuple #[]) (by simp[results,Tryz.results90,go_sem]) rfl (jF HI.AA p.AA a4.AA a8.AA b3.AA b0.AA)
end VD
namespace Zv
open RowKit AJ BN Gz Jc KD OP Mh Ru VD IP Grow
def Ve (Q T:Tw)(im:List Nat)(M:Nat):Prop:=M<2^32/\∀c,M.testBit c=true↔FH Q T im c
theorem rZ {w:World}{I R O J C L B:Nat}{T Q:Tw}{b:Bool}{N:List Nat}{F:List (List Nat)}{K:Value}(h:FU w I R O J C L B T Q b N F K)(i x:Nat):
  FU (w.setCell ⟨C,i,none⟩ (.int .i64 (x:Int))) I R O J C L B T Q b (N.set i x) F K:=by
 have D:Keep (Sx B I C) w (w.setCell ⟨C,i,none⟩ (.int .i64 (x:Int))):=AL.setCell (by simp[Sx]) _;refine⟨h.hbs,h.hgi,h.hne,by simpa using h.hB,?_,h.pre.keep D,h.tab.keep D,by simpa using h.len,?_,?_⟩
 .rw[JA _ _ _ _ h.hne];exact h.row
 .have U:=(Jz h.Gn i (.int .i64 (x:Int))).1;rw[Xk,ints_set]at U;exact U
 .exact h.QQ.keep (S:=(B<= ·)) (AL.setCell (by simp;exact h.hgi) _) (λk D=>D)
theorem jG {w:World}{N R O I C L B:Nat}{T Q:Tw}{b:Bool}{D:List Nat}{F:List (List Nat)}{J:Value}(h:FU w N R O I C L B T Q b D F J){i:Nat}(hi:i<T.length):
  ∃y:Nat,w.cell? ⟨C,i,none⟩=some (.int .i64 (y:Int))/\w.frozen? ⟨C,i,none⟩=false:=by
 have S:=h.len;obtain⟨y,K⟩:∃y,D[i]?=some y:=⟨_,AU (by omega)⟩;refine⟨y,?_,Me h.Gn i⟩;rw[FZ h.Gn i (by omega)];simp[vals,ints,K]
theorem drop_set {l:List Nat}{i x:Nat}(h:i<l.length):(l.set i x).drop i=x::l.drop (i+1):=by
 rw[Dp (by simpa using h),List.getElem_set_self,List.drop_set_of_lt (Nat.lt_succ_self i)]
def QK (A D O N J I K B:Nat)(T Q:Tw)(b:Bool)(F:List (List Nat))(i:Nat)(im:List Nat)(x:Nat)(w wr:World):Prop:=
 ∃C L,FU wr D O N J I K B T Q b C (F++EJ Q T i im x) L/\(b=true->EJ Q T i im x=[])/\C.drop (i+1)=im/\(∀y∈C,y<sz Q)/\Ky A B D I w wr
theorem Ky.below {A B I J:Nat}{w C D:World}(h:Ky A B I J w C)(K:A<=C.heap.size)(F:Below C.heap.size C D):Ky A B I J w D:=
 ⟨h.1.trans (F.mono K),h.2.trans (AO F)⟩
theorem QK.no {A C R O I S K B:Nat}{T Q:Tw}{b:Bool}{F:List (List Nat)}{i:Nat}{im:List Nat}{x:Nat}{w wr J:World}(h:QK A C R O I S K B T Q b F i im x w wr)(a:A<=C)
  (N:¬(¬FH Q (T.drop (i+1)) im x/\Fits Q (T.getD i ⟨0,[],[]⟩) im x)) (L:Below wr.heap.size wr J):QK A C R O I S K B T Q b F i im (x+1) w J:=by
 obtain⟨X,W,D,U,V,Y,Z⟩:=h;refine⟨X,W,?_,?_,V,Y,Ky.below Z (by have:=D.hbs;have:=D.hB;omega) L⟩
 .rw[Qn N];exact D.below L
 .rw[Qn N];exact U
theorem iG (A:Nat)(T Q:Tw)(hT:Wf T)(R:Small T)(p:Wf Q)(hz:sz Q<=27)(K Y g U D Z B:Nat)(b:Bool)(hA:A<=K/\A<=D):∀k,k<=T.length->∀(w:World) (J:List Nat) (F:List (List Nat)) (vF:Value) (M:Nat),
  FU w K Y g U D Z B T Q b J F vF->(∀y∈J,y<sz Q)->Ve Q (T.drop k) (J.drop k) M->F.length+27^k<=1000000000->(b=true->F=[])->
  Calls Tryz.prog 90 #[.pointer (some ⟨K,0,none⟩),.int .i64 ((k:Int)-1),.int .u64 (M:Int)] w (Vz A K Y g U D Z B T Q b F (Ie b (grow Q T k (J.drop k))) k (J.drop k) w):=by
 intro k
 induction k with
 |zero=>
  intro _ w J F vF M h b9 hM hF N;have hc:=iE A T Q R.1 p hz w K Y g U D Z B b J F vF M h hA (by omega) b9;have e:Ie b (grow Q T 0 (J.drop 0))=[J]:=by cases b<;>rfl
  rw[e];exact hc
 |succ i ih=>
  intro hk w J F vF M h b9 hM hF N;obtain⟨L,hL⟩:∃L,T[i]?=some L:=⟨_,AU (by omega)⟩;have g2:i<T.length:=by omega
  have e5:L.o<=1000:=by have:=R.2 L (Af hL);omega
  have e4:=AB (show T.getD i ⟨0,[],[]⟩=L by rw[BG,hL];rfl);have e6:=AB (ih (by omega));obtain⟨im,c8⟩:∃im,im=J.drop (i+1):=⟨_,rfl⟩;rw[<-c8]at hM ⊢;have d8:=AB (λW C x (hS:VZ W K Y g U D Z T Q C) hx d=>mh T Q hT R p (by omega) W K Y g U D Z C i x L hL hS hx d);have f2:=AB (λW (X:KD.DU Any W U Q) x hx=>jA Q p hz W U X M x L.o ⟨hM.1,λc hc=>Ro p ((hM.2 c).1 hc)⟩ hx e5);have f0:=FM p;obtain⟨q0,q1,q2,q3,q4⟩:=h.cells;obtain⟨gt,ot,ct,g5,h7,f3,_⟩:=h.QP.tab.open f0;have H0:Hid (QK A K Y g U D Z B T Q b F i im 0 w w):=AB ⟨J,vF,by rw[TR,FP];exact h,λ_=>TR _ _ _ _,c8.symm,b9,BB _ _,AL⟩;have HM:=AB hM;have HF:=AB hF;have d9:=AB N;have a6:=AB hA;have HL:=AB hL;have HQ:=AB p;have HS:=AB R;have e3:(((i+1:Nat):Int)-1)=(i:Int):=by omega
  rw[e3];clear ih h b9 hM hF N c8 e5 e3 hA hL p R hT q0 q2 q3 q4;go_enter Tryz.func90,Tryz.ntmps90;go_wp2_with fail;go_loopw [31] (λiv wr=>∃x:Nat,x<=sz Q/\iv= .int .i64 (x:Int)/\Hid (QK A K Y g U D Z B T Q b F i im x w wr)) (λiv _=>sz Q-(intOf iv).toNat);case atStart=>exact⟨0,AX _,rfl,H0⟩
  case round=>
   obtain⟨x,hx,rfl,hR⟩:=hrel;clear q1 f3;by_cases b0:x<sz Q
   .have hd:decide ((x:Int)<(sz Q:Int))=true:=by simp;omega
    have I:=KI.Un M x (by omega) HM.AA.1;cases N:M.testBit x with
    |true=>
     have d1:=AB N;rw[N]at I;clear N;go_wp2_with fail;go_roundw;case rel=>exact⟨x+1,by omega,by go_num,AB (hR.AA.no a6.AA.1 (λhh=>hh.1 ((HM.AA.2 x).1 d1.AA)) AY)⟩
     case measure=>simp[intOf];omega
    |false=>
     have d1:=AB N;rw[N]at I;clear N;by_cases b5:Fits Q L im x
     .have a1:=AB b5;clear b5;obtain⟨C,a9,hI,b3,a4,d,b6⟩:=hR.AA;have S:=AB hI;have e1:=AB b3;have b7:=AB a4;have a8:=AB d;have d7:=AB b6;clear hI b3 a4 d b6;go_wp2_with fail;refine(d8.AA wr C x S.AA.QP b0 a8.AA).mono ?_;rintro e w1 ⟨r,rfl,q,V⟩;obtain rfl:=q.2 (by rw[b7.AA];exact a1.AA);obtain⟨r0,r1,r2,r3,r4⟩:=(S.AA.below V).cells;obtain⟨y0,s1,f1⟩:=jG (S.AA.below V) g2;have d5:=AB (S.AA.below V);have c0:=AB (Ky.below d7.AA (by have:=S.AA.hbs;have:=S.AA.hB;have:=a6.AA;omega) V);clear V q;go_upto_region 7 with fail;clear r0 r1 r2 r3 r4 s1 f1;have u:=AB (rZ d5.AA i x);have c2:Hid (Ky A B K D w (w1.setCell ⟨D,i,none⟩ (.int .i64 (x:Int)))):=AB ⟨c0.AA.1.setCell (by simp;exact a6.AA.2) _,c0.AA.2.setCell (by simp[Sx]) _⟩;generalize w1.setCell ⟨D,i,none⟩ (.int .i64 (x:Int))=w2 at u c2 ⊢;clear d5 c0 S d7;obtain⟨r0,r1,r2,r3,r4⟩:=u.AA.cells;obtain⟨_,g9,vO,vP,vC,g1,f9,f6,hV⟩:=u.AA.QP.pre;obtain⟨aO,cO,aP,cP,aC,cC,rfl,rfl,rfl,c7,f5,g3⟩:=hV.open;obtain⟨bO,oO,rfl,_,g8,e7⟩:=hV.ord HL.AA;have f4:i<C.length:=by have:=u.AA.len;simp at this;omega
      have a2:=AB (show(C.set i x).drop i=x::im by rw[drop_set f4,b7.AA]);have g0:Hid (∀y∈C.set i x,y<sz Q):=AB (λy hy=>by
       rcases List.mem_or_eq_of_mem_set hy with h|h
       .exact a8.AA y h
       .rw[h];exact b0)
      have f8:Hid (∀O,O<2^32->(∀c,O.testBit c=true↔∃j,j<L.o/\∃s,s<sz Q/\M.testBit s=true/\it (pr Q x) j s=c)->Ve Q (T.drop i) ((C.set i x).drop i) O):=AB (λO I z=>⟨I,λc=>by
       rw[z c,a2.AA,EB HL.AA];constructor
       .rintro⟨j,hj,s,_,R,e⟩;exact⟨j,hj,s,(HM.AA.2 s).1 R,e⟩
       .rintro⟨j,hj,s,R,e⟩;exact⟨j,hj,s,Ro HQ.AA R,(HM.AA.2 s).2 R,e⟩⟩)
      have e9:Hid ((F++EJ Q T i im x).length+27^i<=1000000000):=AB (by
       have I:=WA Q T hz i (TL Q T hz i) im x;have z:F.length+27*27^i<=1000000000:=by have h:=HF.AA;rw[Ke,JC (27^i)]at h;exact h
       have h3:(x+1)*27^i<=27*27^i:=Mr _ (by omega);rw[Nat.add_mul,Nat.one_mul]at h3;rw[Bc];refine Ae ?_ z;rw[Nat.add_assoc];exact Nat.add_le_add_left (Ae (Nat.add_le_add_right I _) h3) _)
      have f7:Hid (b=true->F++EJ Q T i im x=[]):=AB (λe=>by rw[d9.AA e,e1.AA e];rfl);have g4:=HS.AA.1;have g6:IntKind.i64.wrap ((i:Int)-1)=(i:Int)-1:=Ac _ (by omega);clear hV f9 f6 c7 f5 g3 r2 r3 r4 I;go_region_law
       (first|(go_simp;go_at_call 152;refine(f2.AA _ (u.AA.QP.tab.keep (by first|exact AL.drew|exact AL)) x b0).mono ?_;rintro e w4 ⟨O,rfl,c7,e8,rfl⟩)|(go_simp;go_at_call 90;refine(e6.AA _ (C.set i x) (F++EJ Q T i im x) a9 O (u.AA.below (by first|exact AY.drew|exact BB _ _)) g0.AA (f8.AA O c7 e8) e9.AA f7.AA).mono ?_;rintro e w5 ⟨rfl,c4,h0,b1,d6,e2,a3⟩))
      all_goals
       have c9:=AB (show Ky A B K D w w5 from⟨c2.AA.1.trans (by first|exact a3.1|exact(AY.drew).trans a3.1),c2.AA.2.trans (by first|exact a3.2|exact AL.drew.trans a3.2)⟩);have b8:=AB b1;have c6:=AB (d6.trans a2.AA);have c1:=AB e2;rw[a2.AA]at b8;obtain⟨t0,t1,t2,t3,t4⟩:=b1.cells;obtain⟨a5,c5,rfl,_,_⟩:=b1.QQ.form;clear b1 d6 e2 a3 r0 r1 g1 e7 t0 t1 t2;have b4:=AB (show¬FH Q (T.drop (i+1)) im x/\Fits Q (T.getD i ⟨0,[],[]⟩) im x from⟨λh=>by have:=(HM.AA.2 x).2 h;rw[d1.AA]at this;exact Bool.noConfusion this,by rw[e4.AA];exact a1.AA⟩);rw[a2.AA]at t4;generalize d4:(F++EJ Q T i im x++Ie b (grow Q T i (x::im))).length=N5 at t4;have e0:=AB d4;clear d4;cases b with
       |false=>
        go_wp2_with fail;go_roundw;case rel=>exact⟨x+1,by omega,by go_num,AB ⟨c4,_,by rw[NT b4.AA,<-Dy];exact b8.AA,λh=>Bool.noConfusion h,by rw[<-EK,c6.AA];rfl,c1.AA,c9.AA⟩⟩
        case measure=>simp[intOf];omega
       |true=>
        have a7:=d9.AA rfl;have a0:=e1.AA rfl;by_cases X:grow Q T i (x::im)=[]
        .have d3:(F++EJ Q T i im x++Ie true (grow Q T i (x::im))).length=0:=by rw[a7,a0,X];rfl
         have b2:=AB X;have d0:=AB a0;obtain rfl:N5=0:=by rw[<-e0.AA];exact d3
         clear d3 X a7 a0;go_wp2_with fail;go_roundw;case rel=>exact⟨x+1,by omega,by go_num,AB ⟨c4,_,by
          have e:F++EJ Q T i im (x+1)=F++EJ Q T i im x++Ie true (grow Q T i (x::im)):=by rw[NT b4.AA,b2.AA];simp[Ie]
          rw[e];exact b8.AA,λ_=>by rw[NT b4.AA,b2.AA,d0.AA];rfl,by rw[<-EK,c6.AA];rfl,c1.AA,c9.AA⟩⟩
         case measure=>simp[intOf];omega
        .have c3:0<(F++EJ Q T i im x++Ie true (grow Q T i (x::im))).length:=by
          rw[a7,a0];cases d2:grow Q T i (x::im)with
          |nil=>exact absurd d2 X
          |cons a l=>simp[Ie]
         rw[e0.AA]at c3;have g7:decide ((N5:Int)>0)=true:=by simp only[Ms];omega
         have h8:decide (0<N5)=true:=by simp only[Ms];omega
         have h6:=AB c3;have b2:=AB X;have d0:=AB a0;clear c3 X a7 a0;go_wp2_with fail;refine Au (v:=.tuple #[]) (by simp[results,Tryz.results90,go_sem]) rfl ⟨rfl,c4,.slice a5 (F++EJ Q T i im x++Ie true (grow Q T i (x::im))).length c5,?_,by rw[<-EK,c6.AA];rfl,c1.AA,c9.AA⟩;have h:=b8.AA;rw[a2.AA]at h;have e:Ie true (grow Q T (i+1) im)=EJ Q T i im x++Ie true (grow Q T i (x::im)):=by
          obtain⟨r,q⟩:=jB Q T i im (show x+1<=sz Q by omega);rw[<-Tf,q,NT b4.AA,d0.AA,List.nil_append,List.nil_append];cases d2:grow Q T i (x::im)with
          |nil=>exact absurd d2 b2.AA
          |cons a l=>simp[Ie]
         rw[e,<-Dy];exact h
     .have a1:=AB b5;clear b5;obtain⟨C,a9,hI,b3,a4,d,b6⟩:=hR.AA;have S:=AB hI;have b7:=AB a4;have a8:=AB d;clear hI b3 a4 d b6;go_wp2_with (go_at_call 151;refine(d8.AA wr C x S.AA.QP b0 a8.AA).mono ?_;rintro e w1 ⟨r,rfl,q,V⟩;obtain rfl:=(Bool.eq_false_iff.2 (λhh=>a1.AA (by have:=q.1 hh;rwa[b7.AA]at this)));replace V:=AB V;clear q);go_roundw;case rel=>exact⟨x+1,by omega,by go_num,AB (hR.AA.no a6.AA.1 (λhh=>a1.AA (by have:=hh.2;rwa[e4.AA]at this)) V.AA)⟩
      case measure=>simp[intOf];omega
   .obtain rfl:x=sz Q:=by omega
    have hd:decide ((sz Q:Int)<(sz Q:Int))=false:=by simp
    go_wp2_with fail;go_end0;obtain⟨C,a9,I,z,h3,h4,h5⟩:=hR.AA;refine⟨rfl,C,a9,?_,h3,h4,h5⟩;rw[Tf]at I z;cases b with
    |false=>exact I
    |true=>have e:=z rfl;rw[e]at I ⊢; exact I
end Zv
end Go.Proofs.YtgjadpmbnejaoaaGreat
namespace Go.Proofs
open Go.Shelf
def Tryz.srt_ren:Go.Shelf.Ren:=⟨λ|6=>91|15=>154|14=>153|28=>208|29=>209|20=>200|21=>201|22=>202|23=>203|24=>204|25=>205|26=>206|27=>207|46=>239|47=>240|48=>241|49=>242|50=>243|57=>264|n=>n,λ|22=>71|24=>80|25=>114|3=>3|39=>99|0=>0|53=>207|55=>41|4=>4|46=>200|45=>199|50=>204|5=>5|9=>9|66=>233|70=>237|76=>254|77=>255|n=>n,λ|n=>n⟩
theorem Tryz.srt:Go.Proofs.SlLaysF.n6 Tryz.prog Tryz.srt_ren:={
 mixed:=by kernel_rfl
 f6:=⟨Tryz.f91.name,by decide,Tryz.func91.trans (congrArg some (by kernel_rfl))⟩
 f14:=⟨Tryz.f153.name,by decide,Tryz.func153.trans (congrArg some (by kernel_rfl))⟩
 f15:=Tryz.func154.trans (congrArg some (by kernel_rfl))
 f20:=⟨Tryz.f200.name,by decide,Tryz.func200.trans (congrArg some (by kernel_rfl))⟩
 f21:=⟨Tryz.f201.name,by decide,Tryz.func201.trans (congrArg some (by kernel_rfl))⟩
 f22:=⟨Tryz.f202.name,by decide,Tryz.func202.trans (congrArg some (by kernel_rfl))⟩
 f23:=⟨Tryz.f203.name,by decide,Tryz.func203.trans (congrArg some (by kernel_rfl))⟩
 f24:=⟨Tryz.f204.name,by decide,Tryz.func204.trans (congrArg some (by kernel_rfl))⟩
 f25:=⟨Tryz.f205.name,by decide,Tryz.func205.trans (congrArg some (by kernel_rfl))⟩
 f26:=⟨Tryz.f206.name,by decide,Tryz.func206.trans (congrArg some (by kernel_rfl))⟩
 f27:=⟨Tryz.f207.name,by decide,Tryz.func207.trans (congrArg some (by kernel_rfl))⟩
 f28:=Tryz.func208.trans (congrArg some (by kernel_rfl))
 f29:=Tryz.func209.trans (congrArg some (by kernel_rfl))
 f46:=⟨Tryz.f239.name,by decide,Tryz.func239.trans (congrArg some (by kernel_rfl))⟩
 f47:=Tryz.func240.trans (congrArg some (by kernel_rfl))
 f48:=Tryz.func241.trans (congrArg some (by kernel_rfl))
 f49:=⟨Tryz.f242.name,by decide,Tryz.func242.trans (congrArg some (by kernel_rfl))⟩
 f50:=⟨Tryz.f243.name,by decide,Tryz.func243.trans (congrArg some (by kernel_rfl))⟩
 f57:=⟨Tryz.f264.name,by decide,Tryz.func264.trans (congrArg some (by kernel_rfl))⟩
 t0:=Tryz.underlying0
 a0:=Tryz.isAgg0
 z0:=Tryz.sizeOf0
 v0:=Tryz.zeroValue0
 t3:=Tryz.underlying3
 a3:=Tryz.isAgg3
 z3:=Tryz.sizeOf3
 v3:=Tryz.zeroValue3
 t4:=Tryz.underlying4
 a4:=Tryz.isAgg4
 z4:=Tryz.sizeOf4
 v4:=Tryz.zeroValue4
 t5:=Tryz.underlying5
 a5:=Tryz.isAgg5
 z5:=Tryz.sizeOf5
 v5:=Tryz.zeroValue5
 t9:=Tryz.underlying9
 a9:=Tryz.isAgg9
 z9:=Tryz.sizeOf9
 v9:=Tryz.zeroValue9
 t22:=Tryz.underlying71
 a22:=Tryz.isAgg71
 z22:=Tryz.sizeOf71
 v22:=Tryz.zeroValue71
 a24:=Tryz.isAgg80
 z24:=Tryz.sizeOf80
 t25:=Tryz.underlying114
 a25:=Tryz.isAgg114
 z25:=Tryz.sizeOf114
 v25:=Tryz.zeroValue114
 t39:=Tryz.underlying99
 a39:=Tryz.isAgg99
 z39:=Tryz.sizeOf99
 v39:=Tryz.zeroValue99
 t45:=Tryz.underlying199
 a45:=Tryz.isAgg199
 z45:=Tryz.sizeOf199
 v45:=Tryz.zeroValue199
 t46:=Tryz.underlying200
 a46:=Tryz.isAgg200
 z46:=Tryz.sizeOf200
 v46:=Tryz.zeroValue200
 t50:=Tryz.underlying204
 a50:=Tryz.isAgg204
 z50:=Tryz.sizeOf204
 v50:=Tryz.zeroValue204
 t53:=Tryz.underlying207
 a53:=Tryz.isAgg207
 z53:=Tryz.sizeOf207
 v53:=Tryz.zeroValue207
 t55:=Tryz.underlying41
 a55:=Tryz.isAgg41
 z55:=Tryz.sizeOf41
 v55:=Tryz.zeroValue41
 t66:=Tryz.underlying233
 a66:=Tryz.isAgg233
 z66:=Tryz.sizeOf233
 v66:=Tryz.zeroValue233
 t70:=Tryz.underlying237
 a70:=Tryz.isAgg237
 z70:=Tryz.sizeOf237
 v70:=Tryz.zeroValue237
 t76:=Tryz.underlying254
 a76:=Tryz.isAgg254
 z76:=Tryz.sizeOf254
 v76:=Tryz.zeroValue254
 t77:=Tryz.underlying255
 a77:=Tryz.isAgg255
 z77:=Tryz.sizeOf255
 v77:=Tryz.zeroValue255 }
end Go.Proofs

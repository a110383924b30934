import Derived.Test.YtgjadpmbnejaoaaGreatZw
import Derived.Test.YtgjadpmbnejaoaaGreatZx
/-
  Lemmas for the law FnAutomorphisms, in short spelling.
-/
set_option linter.unusedVariables false
set_option linter.unusedSimpArgs false
set_option maxRecDepth 100000
set_option maxHeartbeats 40000000
namespace Go.Proofs.YtgjadpmbnejaoaaGreat
namespace Ux
open RowKit AJ Gen CP Fe IB BU Ea Ml
theorem Kw {w wr:World}{C D F:Value}{t:TypeId}(B:Below (w.heap.size+1) (w.alloc (.cells #[C,D,F] t)) wr):
  (wr.cell? ⟨w.heap.size,0,none⟩=some C/\wr.cell? ⟨w.heap.size,1,none⟩=some D/\wr.cell? ⟨w.heap.size,2,none⟩=some F)/\
  Keep Any w wr/\Below w.heap.size w wr/\w.heap.size+1<=wr.heap.size:=⟨CY B,Cq B _,Cy B,by have:=B.size;simpa using this⟩
def Sb (w:World)(e:Ending)(w':World):Prop:=∃v,e= .returned v/\AQ Any w' v []/\Below w.heap.size w w'
theorem fV (w:World):(Instr.makeSlice 25 (.int .i64 0) (.int .i64 0)).run Tryz.prog w= .ok (.slice (some ⟨w.heap.size,0,none⟩) 0 0) (w.alloc (.cells (madeCells #[.slice none 0 0] 0) 24)):=SX 0 (by omega) w
theorem rV (w:World)(b o c:Nat)(B:c<=maxLen):AQ Any w (.slice (some ⟨b,o,none⟩) 0 c) []:=⟨_,c,rfl,AX _,B,λh=>(by cases h),λi x C=>(by simp at C)⟩
theorem kM (w:World)(C D B:Value)(R:Option Addr)(W:Nat):Calls Tryz.prog 139 #[.agg #[C,D,B],.slice R 0 W] w (Sb w):=by
 have Z:=fV;obtain⟨F,J⟩:∃F,F=w.alloc (.cells #[C,D,B] 28):=⟨_,rfl⟩;have I:=AB (show Below (w.heap.size+1) (w.alloc (.cells #[C,D,B] 28)) F by rw[J];exact BB _ _);have N:=AB (show Below (w.heap.size+1) (w.alloc (.cells #[C,D,B] 28)) (F.alloc (.cells (madeCells #[.slice none 0 0] 0) 24)) from I.AA.alloc (Kw I.AA).2.2.2 _);go_enter Tryz.func139,Tryz.ntmps139;go_upto_region 1 with fail;rw[<-J];clear J;obtain⟨g,hg⟩:∃g,F.heap.size=g:=⟨_,rfl⟩;go_wp2_with fail;go_loopw [6] (λS wr=>S= .int .i64 (-1)/\Hid (Below (w.heap.size+1) (w.alloc (.cells #[C,D,B] 28)) wr)) (λ_ _=>0);case atStart=>exact⟨by first|rfl|simp,N⟩
 case round=>
  obtain⟨rfl,K⟩:=hrel;have Y:decide ((-1:Int)>=0)=false:=by decide
  clear N I;have Q:=(Kw K.AA).2.2.2;go_wp2_with fail;rename World=>a;have O:=AB (K.AA.alloc Q (.cells #[] 24));go_loopw [9,10] (λU V wr=>(∃b,U= .slice (some ⟨b,0,none⟩) 0 0)/\V= .int .i64 0/\Hid (Below (w.heap.size+1) (w.alloc (.cells #[C,D,B] 28)) wr)) (λ_ _ _=>0);case atStart=>exact⟨⟨_,rfl⟩,rfl,O⟩
  case round=>
   obtain⟨⟨b,rfl⟩,rfl,L⟩:=hrel;have d:decide ((0:Int)<0)=false:=by decide
   have X:=AB (show Sb w (.returned (.slice (some ⟨b,0,none⟩) 0 0)) wr from⟨_,rfl,rV _ _ _ _ (AX _),(Kw L.AA).2.2.1⟩);clear L K O;go_wp2_with fail;go_ret;exact X.AA
theorem Wh (w:World)(F B L:Value)(D:Option Addr)(C:Nat)(hi:AQ Any w L []):Calls Tryz.prog 76 #[.agg #[.slice D 0 C,F,B],L] w (Sb w):=by
 have a0:=fV;have p:=AB (λW a c=>kM W (.slice D 0 C) F B a c);have r:=AB hi;have Z:=AB (λW (h:AQ Any W L [])=>Iy.PU W L [] h (by simp) (by simp));obtain⟨aI,cI,S,_,u,_,_⟩:=hi;simp only[List.length_nil]at S;subst S;obtain⟨I,N⟩:∃I,I=w.alloc (.cells #[.slice D 0 C,F,B] 28):=⟨_,rfl⟩;have J:=AB (show Below (w.heap.size+1) (w.alloc (.cells #[.slice D 0 C,F,B] 28)) I by rw[N];exact BB _ _);have K:=AB (show Below (w.heap.size+1) (w.alloc (.cells #[.slice D 0 C,F,B] 28)) (I.alloc (.cells (madeCells #[.slice none 0 0] 0) 24)) from J.AA.alloc (Kw J.AA).2.2.2 _);have Y:=AB (Z.AA _ (AQ.keep r.AA (Kw K.AA).2.1));clear u Z;go_enter Tryz.func76,Tryz.ntmps76;go_upto_region 1 with fail;rw[<-N];clear N;obtain⟨⟨O,b,e2⟩,s,j,q⟩:=Kw J.AA;go_wp2_with fail;refine Y.AA.mono ?_;rintro e z ⟨v1,rfl,U,d⟩;obtain⟨a1,c1,R,_,_⟩:=U.form;simp only[List.length_nil]at R;subst R;have X:=AB (K.AA.trans (d.mono (Kw K.AA).2.2.2));clear U d Y O b e2 s j q J K;go_wp2_with fail;go_loopw [7] (λx wr=>(∃a c,x= .slice a 0 c)/\Hid (Below (w.heap.size+1) (w.alloc (.cells #[.slice D 0 C,F,B] 28)) wr)) (λ_ _=>0);case atStart=>exact⟨⟨_,_,rfl⟩,X⟩
 case round=>
  obtain⟨⟨a,c,rfl⟩,g⟩:=hrel;have a2:decide ((0:Int)>0)=false:=by decide
  obtain⟨⟨O,b,e2⟩,-, -, y⟩:=Kw g.AA;have a3:w.heap.size<wr.heap.size:=by omega
  clear X;go_wp2_with fail;refine(p.AA _ _ _).mono ?_;rintro e l ⟨Q,rfl,V,i⟩;have v:=AB (show Sb w (.returned Q) l from⟨Q,rfl,V,(Kw (g.AA.trans (i.mono y))).2.2.1⟩);clear V i;go_wp2_with fail;go_ret;exact v.AA
theorem jD (w:World)(K L J B:Value)(Q:Av Any w K L J (AZ []))(hi:AQ Any w B []):Calls Tryz.prog 76 #[.agg #[K,L,J],B] w (Rq [] [] w):=by
 obtain⟨R,O,U,S,V,W,rfl,rfl,rfl,_,_,_⟩:=Q.open;refine(Wh w _ _ B R O hi).mono ?_;rintro e w' ⟨v,rfl,h,N⟩;have I:Ao ([]:List (List Nat))=λ_=>none:=ME 0;refine⟨v,[],[],rfl,?_,rfl,λd=>⟨λ_=>⟨λh=>h,λy D=>by rw[I]at D;cases D⟩,λh=>absurd h (CS _)⟩,h,N⟩;have F:=Ct (T:=[]) trivial trivial;have:=FE.Oo F (im:=[]) (λc C=>absurd C (by simp)) (FE.start F (λc C=>absurd C (by simp)));rw[<-I]at this;exact this
end Ux
namespace Ga
open RowKit AJ BN CP CL QN FN BU FX Hf EN Jf Iy SB QJ
theorem bx {w wr:World}{F J K I C D:Value}{t L:TypeId}(O:Below (w.heap.size+2) ((w.alloc (.cells #[F,J,K] t)).alloc (.cells #[I,C,D] L)) wr):
  (wr.cell? ⟨w.heap.size,0,none⟩=some F/\wr.cell? ⟨w.heap.size,1,none⟩=some J/\wr.cell? ⟨w.heap.size,2,none⟩=some K)/\
  (wr.cell? ⟨w.heap.size+1,0,none⟩=some I/\wr.cell? ⟨w.heap.size+1,1,none⟩=some C/\wr.cell? ⟨w.heap.size+1,2,none⟩=some D)/\
  Keep (λ_=>True) w wr/\Below w.heap.size w wr/\w.heap.size+2<=wr.heap.size:=by
 obtain⟨R,B,N,Q,S⟩:=SC.Fp O;exact⟨R,⟨(Ar _ _ _ _ _ (0,0) B).trans rfl,(Ar _ _ _ _ _ (0,0) B).trans rfl,(Ar _ _ _ _ _ (0,0) B).trans rfl⟩,N,Q,S⟩
theorem Own2.put {e2 e:TypeId}(L:e≠e2){B:Nat}{w:World}{g c:Nat}{rows:List (List Nat)}(h:Own2 e2 e B w (.slice (some ⟨g,0,none⟩) rows.length c) rows)(k:Nat){u:Value}{r:List Nat}(O:CZ e B w u r):
  Own2 e2 e B (w.setCell ⟨g,k,none⟩ u) (.slice (some ⟨g,0,none⟩) rows.length c) (rows.set k r):=by
 obtain⟨us,I,N,Q⟩:=h;have F:=Jz I k u;have J:∀v r,CZ e B w v r->CZ e B (w.setCell ⟨g,k,none⟩ u) v r:=λv r C=>⟨C.1,JB C.2 F.2 (Gq C.2 I L)⟩;refine⟨us.set k u,by simpa using F.1,by simp[N],λi K v C D=>?_⟩;by_cases hi:i=k
 .subst hi;have R:i<rows.length:=by
   have:=(Ak.1 C).1;simpa using this
  rw[Jj R]at C;rw[Jj (by omega)]at D;injection C with C;injection D with D;subst C;subst D;exact J _ _ O
 .rw[KA (λh=>hi h.symm)]at C D;exact J _ _ (Q i K v C D)
theorem Own2.wQ {e2 e:TypeId}(C:e≠e2){B n:Nat}{w:World}{g c:Nat}{rows:List (List Nat)}(F:rows.length=n)(h:Own2 e2 e B w (.slice (some ⟨g,0,none⟩) n c) rows)(k:Nat){u:Value}{r:List Nat}(D:CZ e B w u r):
  Own2 e2 e B (w.setCell ⟨g,k,none⟩ u) (.slice (some ⟨g,0,none⟩) n c) (rows.set k r):=by
 subst F;exact Own2.put C h k D
theorem Own2.bD {e2 e:TypeId}{B n:Nat}{w:World}{g c:Nat}{rows:List (List Nat)}(h:Own2 e2 e B w (.slice (some ⟨g,0,none⟩) n c) rows){k:Nat}(N:k<rows.length):(∃u,w.cell? ⟨g,k,none⟩=some u)/\w.frozen? ⟨g,k,none⟩=false:=by
 obtain⟨us,D,K,L⟩:=h;have I:n=rows.length:=by
  rcases D.2 with⟨C,_⟩|⟨O,cap,J,C,_⟩
  .cases C
  .simp only[Du]at C;exact C.2.1
 subst I;obtain⟨u,F⟩:∃u,us[k]?=some u:=⟨_,AU (by omega)⟩;exact⟨⟨u,by rw[FZ D k (by omega)];exact F⟩,Me D k⟩
theorem vM {B:Nat}{wr w':World}(D:B<=wr.heap.size)(h:Keep (λk=>k<B) wr w'):(∀b o,b<B->w'.cell? ⟨b,o,none⟩=wr.cell? ⟨b,o,none⟩)/\Keep (λk=>k<B) wr w':=⟨λb o C=>h.cell C (Ah C D),h⟩
def FT (Q:Tw)(L:Lv)(im:List (List Nat))(x:List Nat)(m:Nat):Prop:=
 npow (mul Q) (AJ.one Q) x L.o=ev (mul Q) (AJ.one Q) im L.w/\∀k,k<m->∀y,L.c[k]?=some y->mul Q (im.getD k (AJ.one Q)) x=mul Q x (ev (mul Q) (AJ.one Q) im y)
theorem uE {Q:Tw}{L:Lv}{im:List (List Nat)}{x:List Nat}:FT Q L im x L.c.length↔Gd Q L im x:=
 ⟨λh=>⟨h.1,λk y B=>h.2 k (Ak.1 B).1 y B⟩,λh=>⟨h.1,λk _ y B=>h.2 k y B⟩⟩
theorem vN {Q:Tw}{L:Lv}{im:List (List Nat)}{x:List Nat}{m:Nat}(h:Gd Q L im x):FT Q L im x m:=⟨h.1,λk _ y B=>h.2 k y B⟩
theorem rW {Q:Tw}{L:Lv}{im:List (List Nat)}{x y:List Nat}{m:Nat}(D:L.c[m]?=some y):FT Q L im x (m+1)↔FT Q L im x m/\mul Q (im.getD m (AJ.one Q)) x=mul Q x (ev (mul Q) (AJ.one Q) im y):=by
 constructor
 .intro h;exact⟨⟨h.1,λk C=>h.2 k (by omega)⟩,h.2 m (by omega) y D⟩
 .rintro⟨F,I⟩;refine⟨F.1,λk C z B=>?_⟩;rcases DF.1 C with h|h
  .exact F.2 k h z B
  .subst h;rw[D]at B;injection B with B;subst B;exact I
def kn (Q:Tw)(B:List (List Nat))(k:Nat):List (List Nat):=List.replicate k (AJ.one Q)++B.drop k
theorem T9 {Q:Tw}{B:List (List Nat)}{k:Nat}(h:k<=B.length):(kn Q B k).length=B.length:=by simp[kn];omega
theorem uF {Q:Tw}{B:List (List Nat)}{k:Nat}(h:k<B.length):(kn Q B k).set k (AJ.one Q)=kn Q B (k+1):=by
 unfold kn;rw[List.set_append_right _ _ (by simp),show k-(List.replicate k (AJ.one Q)).length=0 by simp,Dp h,Bq,IK,Dy];rfl
theorem vQ {Q:Tw}(D:Wf Q){C:List (List Nat)}(h:∀x∈C,El Q x)(k:Nat):∀x∈kn Q C k,El Q x:=λx F=>by
 rcases DY.1 F with B|B
 .rw[(GL.1 B).2];exact CR D
 .exact h x (Hl B)
theorem ZF {Q:Tw}{B:List (List Nat)}{k:Nat}:(kn Q B k).drop k=B.drop k:=by simp[kn]
open Classical in
noncomputable def may (Q:Tw)(L:Lv)(im:List (List Nat))(t:Nat):Bool:=decide (¬Gen.Gen (mul Q) (AJ.one Q) im (at_ Q t)/\Gd Q L im (at_ Q t))
open Classical in
theorem RQ {Q:Tw}{L:Lv}{im:List (List Nat)}{t:Nat}:may Q L im t=true↔¬Gen.Gen (mul Q) (AJ.one Q) im (at_ Q t)/\Gd Q L im (at_ Q t):=by
 unfold may;exact Lc
noncomputable def Ey (Q:Tw)(L:Lv)(im:List (List Nat)):List (List Nat):=(nums (may Q L im) (sz Q)).map (at_ Q)
theorem iD (T Q:Tw)(hT:Wf T)(j9:Small T)(hQ:Wf Q)(s:Small Q)(hg:AJ.Good Q)(hp:Pr Q)(hz:sz Q<=729)(w:World)(pO pP pC C I F vi:Value)(i:Nat)(L:Lv)(hL:T[i]?=some L)(N:List (List Nat))
  (h9:Av Any w pO pP pC (AZ T)) (v3:Av Any w C I F (AZ Q)) (hi:AQ Any w vi (N.map ints)) (r6:N.length=T.length) (e7:∀x∈N,El Q x) (f9:0<Q.length\/(Q=[]/\i+1=T.length)):
  Calls Tryz.prog 163 #[.agg #[pO,pP,pC],.agg #[C,I,F],.int .i64 (i:Int),vi] w (Mv 24 2 (Ey Q L (N.drop (i+1))) w):=by
 obtain⟨i0,p3,t6,x7,p5⟩:=Bd GJ;have K5:i<T.length:=(Ak.1 hL).1;have J9:=j9.1;obtain⟨aO,cO,aP,cP,aC,cC,rfl,rfl,rfl,M8,K2,O1⟩:=h9.open;have j1:=AB h9;have e9:=AB v3;have HI:=AB hi;have i5:=AB e7;have b4:=AB r6;have HG:=AB (BA hQ hg);have g9:=AB hL;have f0:=AB (Ca.NU Q);have e2:=AB hQ;have o9:=AB (λW hv=>PU W vi N hv (by omega) (λr hr=>by rw[Ad (e7 r hr)];have:=s.1;omega));have p6:=AB (λW hO=>Ca.PY Q s.1 W C I F hO);have q8:=AB (λW vu va us es hP hu ha hl D9 E7 E2=>PD Q hQ s hg W C I F vu va us es hP hu ha hl D9 E7 E2);have E3:∀x∈N.drop (i+1),El Q x:=λx hx=>e7 x (Hl hx);have p7:=AB (λW hO=>Ca.Gs Q (Ca.Os.of hQ s hz) W C I F hO);have f6:=AB (λW v (hP:Av Any W C I F (AZ Q)) (hi:AQ Any W v ((N.drop (i+1)).map ints))=>show Calls Tryz.prog 76 #[.agg #[C,I,F],v] W (Ml.Rq Q (N.drop (i+1)) W) from by
  rcases f9 with h|⟨z,h2⟩
  .exact Ml.Wx Q hQ s hg hp h W C I F v (N.drop (i+1)) hP hi E3 (by simp;omega)
  .subst z;have h3:N.drop (i+1)=[]:=P6 (by omega);rw[h3]at hi ⊢;exact Ux.jD W C I F v hP hi)
 have B3:=AB f9;have f3:=AB (λW v tl dn (a3:Ea.FD Q tl dn 0) (a1:Ea.Fv Q (N.drop (i+1)) tl) hP hu=>TK Q hQ s hg hz W C I F v _ _ hP hu (Ko.QO hQ s hg a3 a1).1 (Ko.QO hQ s hg a3 a1).2.1 (Ko.QO hQ s hg a3 a1).2.2.1 (Ae (Ko.QO hQ s hg a3 a1).2.2.2 hz));have e6:=AB (λtl dn (a3:Ea.FD Q tl dn 0) (a1:Ea.Fv Q (N.drop (i+1)) tl) t (ht:t<sz Q)=>Ko.ny hQ s hg a3 a1 ht);have B7:=AB (λW va x hO hx hE a0=>Ca.Qg Q (Ca.Os.of hQ s hz) W C I F va x hO hx hE a0);have F5:=AB (show L.o<=7 from j9.2 L (Af hL));have A7:=AB (λW q (hq:q<=1000000) hO=>Ca.Jw Q (Ca.Os.of hQ s hz) (λL h=>by have:=s.2 L h;omega) q hq W C I F hO);have I0:=AB (λW va a K hK hP ha hA=>Mo.TP Q hQ s hg W C I F va a K hK hP ha hA);have o6:=AB (λW va vb a b hP ha D hA hB=>KV Q hQ s W C I F va vb a b hP ha D hA hB);have K3:=aj (sz Q) hz;obtain⟨WB,k2⟩:∃WB,WB=(w.alloc (.cells #[.slice aO T.length cO,.slice aP T.length cP,.slice aC T.length cC] 28)).alloc (.cells #[C,I,F] 28):=⟨_,rfl⟩;have u9:=AB (show Below (w.heap.size+2) ((w.alloc (.cells #[.slice aO T.length cO,.slice aP T.length cP,.slice aC T.length cC] 28)).alloc (.cells #[C,I,F] 28)) WB by rw[k2];exact BB _ _);clear h9 v3 hi e7 r6 hL f9;go_enter Tryz.func163,Tryz.ntmps163;go_upto_region 1 with fail;rw[<-k2];clear k2;obtain⟨⟨X,Y,R⟩,⟨O,V,U⟩,hk,d8,c6⟩:=bx u9.AA;go_wp2_with fail;refine(o9.AA _ (HI.AA.keep hk)).mono ?_;rintro e w1 ⟨v1,rfl,v8,c7⟩;have i3:=AB (v8.mono (B':=w.heap.size+2) c6);have w4:=AB (u9.AA.trans (c7.mono c6));clear v8 c7 hk d8 c6 X Y R O V U o9 HI;obtain⟨g1,c1,_,t5,J7,K6,_,_⟩:=i3.AA.at (i:=0) (r:=N[0]'(by have:=b4.AA;omega)) (by rw[AU]);rw[b4.AA]at t5;subst t5;go_wp2_with fail;go_loopw [10] (λkv wr=>∃k:Nat,k<=i+1/\kv= .int .i64 (k:Int)/\Hid (Own2 24 2 (w.heap.size+2) wr (.slice (some ⟨g1,0,none⟩) T.length c1) (kn Q N k))/\Below (w.heap.size+2) ((w.alloc (.cells #[.slice aO T.length cO,.slice aP T.length cP,.slice aC T.length cC] 28)).alloc (.cells #[C,I,F] 28)) wr) (λkv _=>i+1-(intOf kv).toNat);case atStart=>exact⟨0,AX _,rfl,i3,w4.AA⟩
 case round=>
  obtain⟨k,hk,rfl,hO,hB⟩:=hrel;have l7:=AB hB;obtain⟨⟨X,Y,R⟩,⟨O,V,U⟩,Z,d8,c6⟩:=bx hB;have N2:w.heap.size+1<wr.heap.size:=by omega
  by_cases a0:k<i+1
  .have o8:k<N.length:=by have:=b4.AA;omega
   have u4:(k:Int)<=(i:Int):=by omega
   have M0:(k:Int)<(T.length:Int):=by omega
   have H3:(0:Int)<=(k:Int):=by omega
   have L1:decide ((k:Int)<=(i:Int))=true:=by simp;omega
   have n3:k<=i:=by omega
   have g6:=AB o8;have F6:=AB (show AP Any wr C (ints (Ca.Ed Q)) from by
    have h:=(e9.AA.keep Z).os;rwa[f0.AA]at h)
   clear hB Z d8 o8;go_wp2_with fail;refine(p6.AA _ F6.AA).mono ?_;rintro e w2 ⟨g2,c2,rfl,u5,b5⟩;have n9:=AB (hO.AA.of_below b5);obtain⟨⟨u2,s2⟩,f2⟩:=Own2.bD n9.AA (k:=k) (by rw[T9 (by have:=g6.AA;omega)];exact g6.AA);have B5:=AB (CX.row (u5.mono (B':=w.heap.size+2) c6));have a7:=AB (l7.AA.trans (b5.mono c6));have HN:=AB (show Own2 24 2 (w.heap.size+2) (w2.setCell ⟨g1,k,none⟩ (.slice (some ⟨g2,0,none⟩) (ints (AJ.one Q)).length c2)) (.slice (some ⟨g1,0,none⟩) T.length c1) (kn Q N (k+1)) from by
    have h:=Own2.wQ (by decide) (by rw[T9 (by have:=g6.AA;omega)];exact b4.AA) n9.AA k B5.AA;rwa[uF g6.AA]at h)
   have b9:=AB (a7.AA.setCell (p:=⟨g1,k,none⟩) J7 (.slice (some ⟨g2,0,none⟩) (ints (AJ.one Q)).length c2));clear u5 b5 hO;go_wp2_with fail;go_roundw;case rel=>exact⟨k+1,by omega,by go_num,HN,b9.AA⟩
   case measure=>simp[intOf]<;>omega
  .obtain rfl:k=i+1:=by omega
   have u4:¬((i+1:Nat):Int)<=(i:Int):=by omega
   have n3:¬i+1<=i:=by omega
   clear a0 i3 w4 p6;go_upto_region 6 with fail;obtain⟨bP,oP,uP,rfl,_,p9,t4,o4⟩:=j1.AA.pow g9.AA;obtain⟨bC,oC,a2,c2,rfl,_,x3,m6,K4,y8⟩:=j1.AA.JM g9.AA;have r7:=En hT g9.AA;have f4:(kn Q N (i+1)).length=T.length:=by rw[T9 (by have:=b4.AA;omega)];exact b4.AA
   have n4:=vQ e2.AA i5.AA (i+1);have l8:=AB (hO.AA.sl.mono (λ_ _=>trivial):AQ Any wr (.slice (some ⟨g1,0,none⟩) T.length c1) ((kn Q N (i+1)).map ints));have a4:=AB (e9.AA.keep Z);have I5:=(Z.cell (b:=bP) (o:=oP+i) trivial p9).trans t4;have s6:=(Z.cell (b:=bC) (o:=oC+i) trivial x3).trans m6;have r3:=AB (AP.keep o4 Z);have t3:=AB (λk y (d:L.c[k]?=some y)=>by
    obtain⟨b2,o2,u,z,h2,h3,h4,h5⟩:=y8 k y d;exact(⟨b2,o2,u,z,Ah h3 Z.size,(Z.cell trivial h3).trans h4,AP.keep h5 Z⟩:∃b2 o2 u,a2=some ⟨b2,o2,none⟩/\b2<wr.heap.size/\wr.cell? ⟨b2,o2+k,none⟩=some u/\AP Any wr u (ints (pad (i+1) y))))
   have p4:∀y,El (T.drop (i+1)) y->(kn Q N (i+1)).length<=(pad (i+1) y).length/\(∀a∈pad (i+1) y,a<=1000)/\BO (mul Q) (AJ.one Q) (kn Q N (i+1)) (pad (i+1) y)=ev (mul Q) (AJ.one Q) (N.drop (i+1)) y/\El Q (ev (mul Q) (AJ.one Q) (N.drop (i+1)) y):=λy d=>by
    have q9:∀x∈N.drop (i+1),El Q x:=λx hx=>i5.AA x (Hl hx);refine⟨by rw[f4,BS,Ad d];simp;omega,λa ha=>?_,?_,HG.AA.ev q9 y⟩
    .rcases DY.1 ha with h|h
     .rw[(GL.1 h).2];omega
     .obtain⟨j,hj⟩:=Eb h;obtain⟨L',E1,a0⟩:=Gb d hj;have:=j9.2 L' (Hl (Af E1));omega
    .rw[Tp _ _ _ _ _ (by rw[f4];omega),ZF,HG.AA.IJ q9]
   have c3:=AB p4;have a5:=AB r7;have v9:=AB n4;have l6:=AB f4;have k9:w.heap.size<wr.heap.size:=by omega
   have k5:w.heap.size+1<wr.heap.size:=by omega
   have M5:bP<wr.heap.size:=Ah p9 Z.size;have F7:bC<wr.heap.size:=Ah x3 Z.size;have L3:(i:Int)<(T.length:Int):=by omega
   have K8:(0:Int)<=(i:Int):=by omega
   have N7:=AB d8;clear p4 r7 f4 n4 o4 y8 t4 m6 hO hB d8;go_region_held3 (λw'=>(∀b o,b<wr.heap.size->w'.cell? ⟨b,o,none⟩=wr.cell? ⟨b,o,none⟩)/\Keep (λ_=>True) wr w')
    (first|exact Ap (by repeat(first|exact Ab|exact AL|refine Keep.drewN ?_ _|refine AR ?_ ‹_›)))
    (first|(go_at_call 60;refine(q8.AA _ (.slice (some ⟨g1,0,none⟩) T.length c1) uP _ _ (a4.AA.keep (by repeat(first|exact Ab|exact AL|refine Keep.drewN ?_ _|refine AR ?_ ‹_›))) (AQ.keep l8.AA (by repeat(first|exact Ab|exact AL|refine Keep.drewN ?_ _|refine AR ?_ ‹_›))) (r3.AA.keep (by repeat(first|exact Ab|exact AL|refine Keep.drewN ?_ _|refine AR ?_ ‹_›))) (c3.AA L.w a5.AA.2.2.2.1).1 (by rw[l6.AA];omega) v9.AA (c3.AA L.w a5.AA.2.2.2.1).2.1).mono ?_;rintro e w6 ⟨vp,rfl,a8,e3⟩))
   rw[(c3.AA L.w a5.AA.2.2.2.1).2.2.1]at a8;have b7:Below wr.heap.size wr w6:=(by repeat(first|exact BB _ _|exact AY.drew|refine Below.step ?_ AV ‹_›));have i8:=AB (a8.sl.mono (S':=Any) (λ_ _=>trivial));have m8:=AB b7;have k6:∀b o,b<wr.heap.size->w6.cell? ⟨b,o,none⟩=wr.cell? ⟨b,o,none⟩:=λb o h=>(AO (S:=Any) b7).cell trivial h;have G1:=b7.size;have t0:=(k6 _ 0 k9).trans X;have t1:=(k6 _ 2 k9).trans R;have r0:=(k6 _ 0 k5).trans O;have r1:=(k6 _ 1 k5).trans V;have r2:=(k6 _ 2 k5).trans U;have n0:=(k6 _ _ F7).trans s6;have r4:=AB (a4.AA.keep (AO b7));have k4:=AB (AQ.keep l8.AA (AO b7));have n5:=AB (λk y (d:L.c[k]?=some y)=>by
    obtain⟨b2,o2,u,z,h3,h4,h5⟩:=t3.AA k y d;exact(⟨b2,o2,u,z,Ah h3 G1,(k6 _ _ h3).trans h4,AP.keep h5 (AO b7)⟩:∃b2 o2 u,a2=some ⟨b2,o2,none⟩/\b2<w6.heap.size/\w6.cell? ⟨b2,o2+k,none⟩=some u/\AP Any w6 u (ints (pad (i+1) y))))
   have e4:=DL (base:=w6.heap.size) (e:=24) (size:=1) w6 #[] 0 AV (AX _) rfl;have C9:IntKind.i64.wrap ((i:Int)+1)=(i:Int)+1:=Ac _ (by omega);clear a8 e3 b7 k6 Z X Y R O V U I5 s6 r3 a4 l8 t3 u4 n3;go_wp2_with fail;rename World=>l;obtain⟨im,l3⟩:∃im,im=N.drop (i+1):=⟨_,rfl⟩;rw[<-l3]at i8 c3 f6 f3 e6;have c0:=AB l3;have G9:i+1<=T.length:=by omega
   clear l3;go_loopw [12,13] (λmv jv wr=>∃m:Nat,m<=L.c.length/\jv= .int .i64 ((i:Int)+1+(m:Int))/\Hid (Own2 24 2 l.heap.size wr mv ((L.c.take m).map (ev (mul Q) (AJ.one Q) im)))/\Below l.heap.size l wr) (λ_ jv _=>T.length-(intOf jv).toNat);case atStart=>exact⟨0,AX _,Ck (Value.int .i64) (by omega),AB ⟨[],e4,rfl,by simp⟩,AY.alloc AV _⟩
   case round=>
    obtain⟨m,hm,rfl,f7,D⟩:=hrel;have I9:=AB D;have i2:=D.size;have k7:∀b o,b<l.heap.size->wr.cell? ⟨b,o,none⟩=l.cell? ⟨b,o,none⟩:=λb o h=>(AO (S:=Any) D).cell trivial h;have s1:w.heap.size<l.heap.size:=by omega
    have j0:w.heap.size+1<l.heap.size:=by omega
    have E8:bC<l.heap.size:=by omega
    have x0:=(k7 _ 0 s1).trans t0;clear e4;by_cases a0:m<L.c.length
    .have x6:0<Q.length:=by
      rcases B3.AA with h|⟨_,h2⟩
      .exact h
      .have:=a5.AA.2.1;omega
     obtain⟨y,d⟩:∃y,L.c[m]?=some y:=⟨_,AU a0⟩;obtain⟨b2,o2,um,rfl,A9,r9,x4⟩:=n5.AA m y d;have x1:=(k7 _ 2 s1).trans t1;have y0:=(k7 _ 0 j0).trans r0;have y1:=(k7 _ 1 j0).trans r1;have y2:=(k7 _ 2 j0).trans r2;have z0:=(k7 _ _ E8).trans n0;have z1:=(k7 _ _ A9).trans r9;have a4:=AB (r4.AA.keep (AO D));have c9:=AB (AQ.keep k4.AA (AO D));have E6:=AB (AP.keep x4 (AO D));have i7:=a5.AA.2.2.1 y (Af d);have HA:=AB (c3.AA y i7);have t7:=AB i7;have z6:=AB (show(L.c.take (m+1)).map (ev (mul Q) (AJ.one Q) im)=(L.c.take m).map (ev (mul Q) (AJ.one Q) im)++[ev (mul Q) (AJ.one Q) im y] by rw[EL,d];simp);have u6:=AB (show((L.c.take m).map (ev (mul Q) (AJ.one Q) im)).length=m by simp;omega);obtain⟨g0,z,h2,h4⟩:=f7.AA;rw[u6.AA]at z;have y3:∀k,k<l.heap.size->some k≠Value.ownBlock _:=λk hk e=>by have:=(Aq z k e.symm).1;omega
     have a9:=AB (And.intro z (And.intro h2 h4));have H8:m<=6:=by have:=a5.AA.2.1;omega
     have w1:IntKind.i64.wrap (((i:Int)+1+(m:Int))-(i:Int))=(m:Int)+1:=by rw[Ac _ (by omega)];omega
     have D8:IntKind.i64.wrap (((m:Int)+1)-1)=(m:Int):=by rw[Ac _ (by omega)];omega
     have H2:IntKind.i64.wrap (m:Int)=(m:Int):=Ac _ (by omega);have E4:(m:Int)<(L.c.length:Int):=by omega
     have G7:(0:Int)<=(m:Int):=by omega
     have F8:(i:Int)+1+(m:Int)<(T.length:Int):=by have:=a5.AA.2.1;omega
     clear d x4 r9 i7 z h2 h4 f7 k7 D;go_wp2_with fail;go_region_held3 (λw'=>(∀b o,b<l.heap.size->w'.cell? ⟨b,o,none⟩=wr.cell? ⟨b,o,none⟩)/\Keep (λk=>k<l.heap.size) wr w')
      (first|exact vM i2 (by repeat(first|exact Ab|exact AL|refine Keep.alloc ?_ _|refine AR ?_ ‹_›|refine Keep.trans ?_ (Keep.grown ‹_› y3))))
      (first|(go_at_call 60;refine(q8.AA _ (.slice (some ⟨g1,0,none⟩) T.length c1) um _ _ (a4.AA.keep (by repeat(first|exact Ab|exact AL|refine Keep.drewN ?_ _|refine AR ?_ ‹_›))) (AQ.keep c9.AA (by repeat(first|exact Ab|exact AL|refine Keep.drewN ?_ _|refine AR ?_ ‹_›))) (E6.AA.keep (by repeat(first|exact Ab|exact AL|refine Keep.drewN ?_ _|refine AR ?_ ‹_›))) HA.AA.1 (by rw[l6.AA];omega) v9.AA HA.AA.2.1).mono ?_;rintro e w5 ⟨v5,rfl,e5,r5⟩;rw[HA.AA.2.2.1]at e5;obtain⟨g5,c5,u3⟩:=e5.form (by rw[BK,Ad HA.AA.2.2.2];exact x6);rw[BK,Ad HA.AA.2.2.2]at u3;subst u3;have A8:=r5.size;have I8:wr.heap.size<=w5.heap.size:=(show Keep (λ_=>True) wr w5 from(by repeat(first|exact Ab|exact AL|refine Keep.drewN ?_ _|refine AR ?_ ‹_›))).size)|(refine Ja _ (by rfl) _ _ _ (by rfl) l.heap.size 24 i0 (.slice none 0 0) 1 24 Tryz.underlying25 p3 t6 x7 p5 rfl (by omega) _ m g0 (by rfl) ((Aw a9.AA.1 (S:=Any) (by repeat(first|exact Ab|exact AL|refine Keep.drewN ?_ _|refine AR ?_ ‹_›)) (λ_ _=>trivial)).alloc _) ⟨w5.heap.size,0,none⟩ 1 1 [.slice (some ⟨g5,0,none⟩) Q.length c5] (by rfl) (by rfl) (Cw (cs:= #[.slice (some ⟨g5,0,none⟩) Q.length c5]) (t:=24) (fr:=(0,0)) (Aj w5 _)) (by simp[Value.oneCell']) (by omega) (by unfold maxLen;omega) (by omega) (by simp;omega) _ rfl ?_;intro gg cap q3 u0 l4 J5 z7))
     have HN:=AB (show Own2 24 2 l.heap.size q3 (.slice (some ⟨gg,0,none⟩) (m+1) cap) ((L.c.take (m+1)).map (ev (mul Q) (AJ.one Q) im)) from by
      rw[z6.AA];exact Own2.push (w:=w5.alloc _) (us:=g0) (by decide) u6.AA ((Aw a9.AA.1 (S:=Any) (by repeat(first|exact Ab|exact AL|refine Keep.drewN ?_ _|refine AR ?_ ‹_›)) (λ_ _=>trivial)).alloc _) a9.AA.2.1 (λi r u hr hu=>((a9.AA.2.2 i r u hr hu).keep (S:=Any) (by repeat(first|exact Ab|exact AL|refine Keep.drewN ?_ _|refine AR ?_ ‹_›)) (λ_ _=>trivial)).keep (S:=Any) (Keep.alloc AL _) (λ_ _=>trivial)) ((Ml.PV (e5.mono (B':=l.heap.size) i2) (by rw[Ad HA.AA.2.2.2];exact x6)).keep (S:=Any) (Keep.alloc AL _) (λ_ _=>trivial)) u0 l4)
     have b9:=AB (show Below l.heap.size l q3 from by
      have h5:Below wr.heap.size wr w5:=(by repeat(first|exact BB _ _|exact AY.drew|refine Below.step ?_ AV ‹_›));exact((I9.AA.trans (h5.mono i2)).alloc (by omega) _).grown l4 (by simp;omega) (λg hg=>(Aq a9.AA.1 g hg).1))
     clear u0 l4 J5 z7 e5 r5 A8 I8 y3 x0 x1 y0 y1 y2 z0 z1;go_wp2_with fail;go_roundw;case rel=>exact⟨m+1,by omega,Ck (Value.int .i64) (by omega),HN,b9.AA⟩
     case measure=>simp[intOf]<;>omega
    .obtain rfl:m=L.c.length:=by omega
     have L2:¬(i:Int)+1+(L.c.length:Int)<(T.length:Int):=by have:=a5.AA.2.1;omega
     have a6:Below (w.heap.size+2) ((w.alloc (.cells #[.slice aO T.length cO,.slice (some ⟨bP,oP,none⟩) T.length cP,.slice (some ⟨bC,oC,none⟩) T.length cC] 28)).alloc (.cells #[C,I,F] 28)) wr:=(l7.AA.trans (m8.AA.mono (by omega))).trans (D.mono (by omega));have g7:=AB a6;obtain⟨⟨X,Y,R⟩,⟨O,V,U⟩,Z,_,_⟩:=bx a6;have l9:=AB (show AQ Any wr _ ((L.c.map (ev (mul Q) (AJ.one Q) im)).map ints) from by
      have h:=f7.AA.sl;rw[FO]at h;exact h.mono (λ_ _=>trivial))
     have c9:=AB (AQ.keep k4.AA (AO D));have j7:=AB (AP.keep i8.AA (AO D));have a4:=AB (e9.AA.keep Z);have m5:=AB (show AP Any wr C (ints (Ca.Ed Q)) from by
      have h:=a4.AA.os;rwa[f0.AA]at h)
     have k9:w.heap.size<wr.heap.size:=by omega
     have M3:w.heap.size+1<wr.heap.size:=by omega
     clear f7 k7 D a6 Z t0 t1 r0 r1 r2 n0 n5 k4 i8 r4 m8 l7 a0;go_wp2_with fail;refine(p7.AA _ m5.AA).mono ?_;rintro e m3 ⟨rfl,v2⟩;have g4:=AB v2;clear v2 X Y R O V U;go_upto_region 13 with fail;obtain⟨J,d9⟩:∃J,J=m3.alloc (.cells (madeCells #[.bool false] (sz Q)) 4):=⟨_,rfl⟩;rw[<-d9];obtain⟨B,c8⟩:∃B,B=m3.heap.size:=⟨_,rfl⟩;rw[<-c8];have n1:=AB (show EU B J (.slice (some ⟨B,0,none⟩) (sz Q) (sz Q)) (List.replicate (sz Q) false) by rw[d9,c8];exact EU.made m3 (sz Q) AV (by unfold maxLen;omega));have h6:Below wr.heap.size wr J:=by rw[d9];exact g4.AA.alloc g4.AA.size _
     have M2:wr.heap.size<=B:=by rw[c8];exact g4.AA.size
     have M6:B<J.heap.size:=by rw[d9,c8];simp
     clear d9 c8;have a6:Below (w.heap.size+2) ((w.alloc (.cells #[.slice aO T.length cO,.slice (some ⟨bP,oP,none⟩) T.length cP,.slice (some ⟨bC,oC,none⟩) T.length cC] 28)).alloc (.cells #[C,I,F] 28)) J:=g7.AA.trans (h6.mono (by omega));have x2:=AB a6;obtain⟨⟨X,Y,R⟩,⟨O,V,U⟩,Z,_,M9⟩:=bx a6;have g8:=AO (S:=Any) h6;have C8:=AB (AQ.keep l9.AA g8);have k1:=AB (AQ.keep c9.AA g8);have B4:=AB (AP.keep j7.AA g8);have d7:=AB (e9.AA.keep Z);have d6:=AO (S:=λk=>k<wr.heap.size) h6;have s5:=AB (AQ.mono (S':=λk=>k≠B) (AQ.keep (Ea.AQ.FL l9.AA) d6) (λk (hk:k<wr.heap.size)=>by omega));have y4:=AB (AQ.mono (S':=λk=>k≠B) (AQ.keep (Ea.AQ.FL c9.AA) d6) (λk (hk:k<wr.heap.size)=>by omega));have u8:=AB (AP.mono (S':=λk=>k≠B) (AP.keep (Ea.AP.FL j7.AA) d6) (λk (hk:k<wr.heap.size)=>by omega));have y5:=AB (((Av.FL a4.AA).keep d6).mono (S':=λk=>k≠B) (λk (hk:k<wr.heap.size)=>by omega));clear d6;have N0:w.heap.size<J.heap.size:=by omega
     have N4:w.heap.size+1<J.heap.size:=by omega
     have L8:T.length<=c1:=by
      obtain⟨_,_,e,h2,_⟩:=k1.AA;simp only[Du]at e;rw[BC]at h2;have:=l6.AA;omega
     clear a6 Z h6 g8 l9 c9 j7 a4 m5 g7 g4;have B2:(0:Int)<=(i:Int)+1:=by omega
     have D0:(i:Int)+1<=(T.length:Int):=by omega
     have G2:(T.length:Int)<=(c1:Int):=by omega
     have D7:(i:Int)+1<=(c1:Int):=by omega
     have I4:((i:Int)+1).toNat=i+1:=by omega
     go_cut [15] (λiv W=>∃p:Nat->Bool,Hid (∀t,t<sz Q->(p t=true↔Gen.Gen (mul Q) (AJ.one Q) im (at_ Q t)))/\Hid (AQ (λk=>k≠B) W iv (((nums p (sz Q)).map (at_ Q)).map ints))/\Hid (Below J.heap.size J W));case first=>
      by_cases s4:c1=i+1
      .have i6:=AB (show AQ Any J (.slice (some ⟨g1,0,none⟩) 0 0) (im.map ints) from by
        have:im=[]:=by rw[c0.AA];exact P6 (by have:=b4.AA;omega)
        rw[this];exact⟨some ⟨g1,0,none⟩,0,rfl,Al _,by simp,by simp,λi x hx=>by simp at hx⟩)
       subst s4;go_region_held3 (λw'=>(∀b o,b<J.heap.size->w'.cell? ⟨b,o,none⟩=J.cell? ⟨b,o,none⟩)/\Keep (λ_=>True) J w')
        (first|exact Ap (by repeat(first|exact Ab|exact AL|refine Keep.drewN ?_ _|refine AR ?_ ‹_›)))
        (first|(go_at_call 76;refine(f6.AA _ _ (d7.AA.keep (by repeat(first|exact Ab|exact AL|refine Keep.drewN ?_ _|refine AR ?_ ‹_›))) (AQ.keep i6.AA (by repeat(first|exact Ab|exact AL|refine Keep.drewN ?_ _|refine AR ?_ ‹_›)))).mono ?_;rintro e b8 ⟨j5,tl,dn,rfl,a1,H6,a3,k8,H5⟩)|(go_at_call 213;refine(f3.AA _ j5 tl dn a3 a1 (d7.AA.keep (by repeat(first|exact Ab|exact AL|refine Keep.drewN ?_ _|refine AR ?_ ‹_›))) (AQ.keep k8 (by repeat(first|exact Ab|exact AL|refine Keep.drewN ?_ _|refine AR ?_ ‹_›)))).mono ?_;rintro e i9 ⟨z4,rfl,i4,E9⟩))
       have j2:Below J.heap.size J i9:=(by repeat(first|exact BB _ _|exact AY.drew|refine Below.step ?_ AV ‹_›));go_wp2_with fail;go_meet;exact⟨_,AB (λt ht=>e6.AA tl dn a3 a1 t ht),AB (i4.sl.mono (λk hk=>by have z3:J.heap.size<=b8.heap.size:=(show Keep (λ_=>True) J b8 from(by repeat(first|exact Ab|exact AL|refine Keep.drewN ?_ _|refine AR ?_ ‹_›))).size;have z5:b8.heap.size<=k:=hk;omega)),AB j2⟩
      .have L6:¬i+1=c1:=λe=>s4 e.symm;have i6:=AB (show AQ Any J (.slice (some ⟨g1,i+1,none⟩) (T.length-(i+1)) (c1-(i+1))) (im.map ints) from by
        have h:=Ko.AQ.tail k1.AA (i+1) G9;rw[ZF]at h;rw[c0.AA];exact h)
       go_region_held3 (λw'=>(∀b o,b<J.heap.size->w'.cell? ⟨b,o,none⟩=J.cell? ⟨b,o,none⟩)/\Keep (λ_=>True) J w')
        (first|exact Ap (by repeat(first|exact Ab|exact AL|refine Keep.drewN ?_ _|refine AR ?_ ‹_›)))
        (first|(go_at_call 76;refine(f6.AA _ _ (d7.AA.keep (by repeat(first|exact Ab|exact AL|refine Keep.drewN ?_ _|refine AR ?_ ‹_›))) (AQ.keep i6.AA (by repeat(first|exact Ab|exact AL|refine Keep.drewN ?_ _|refine AR ?_ ‹_›)))).mono ?_;rintro e b8 ⟨j5,tl,dn,rfl,a1,H6,a3,k8,H5⟩)|(go_at_call 213;refine(f3.AA _ j5 tl dn a3 a1 (d7.AA.keep (by repeat(first|exact Ab|exact AL|refine Keep.drewN ?_ _|refine AR ?_ ‹_›))) (AQ.keep k8 (by repeat(first|exact Ab|exact AL|refine Keep.drewN ?_ _|refine AR ?_ ‹_›)))).mono ?_;rintro e i9 ⟨z4,rfl,i4,E9⟩))
       have j2:Below J.heap.size J i9:=(by repeat(first|exact BB _ _|exact AY.drew|refine Below.step ?_ AV ‹_›));go_wp2_with fail;go_meet;exact⟨_,AB (λt ht=>e6.AA tl dn a3 a1 t ht),AB (i4.sl.mono (λk hk=>by have z3:J.heap.size<=b8.heap.size:=(show Keep (λ_=>True) J b8 from(by repeat(first|exact Ab|exact AL|refine Keep.drewN ?_ _|refine AR ?_ ‹_›))).size;have z5:b8.heap.size<=k:=hk;omega)),AB j2⟩
     case rest=>
      obtain⟨p,D2,f5,e0⟩:=hcut;obtain⟨aN,cN,y7⟩:=AQ.form f5.AA;obtain⟨ln,i1⟩:∃ln,((nums p (sz Q)).map (at_ Q)).length=ln:=⟨_,rfl⟩;rw[i1]at y7;subst y7;have a6:Below (w.heap.size+2) ((w.alloc (.cells #[.slice aO T.length cO,.slice (some ⟨bP,oP,none⟩) T.length cP,.slice (some ⟨bC,oC,none⟩) T.length cC] 28)).alloc (.cells #[C,I,F] 28)) wc:=x2.AA.trans (e0.AA.mono (by omega));have g7:=AB a6;have A4:=e0.AA.size;have kc:=AO (S:=λk=>k≠B) e0.AA;have y6:=AB (AQ.keep s5.AA kc);have u7:=AB (AQ.keep y4.AA kc);have v4:=AB (AP.keep u8.AA kc);have j8:=AB (y5.AA.keep kc);have y9:=AB (show EU B wc (.slice (some ⟨B,0,none⟩) (sz Q) (sz Q)) (Fy (λk=>(nums p (sz Q)).getD k 0) (sz Q) 0) by
       rw[YE];exact n1.AA.keep (S:=Any) (AO e0.AA) (λ_ _=>trivial))
      have D3:B<wc.heap.size:=by omega
      have M1:¬w.heap.size=B:=by omega
      have N8:¬w.heap.size+1=B:=by omega
      have C7:w.heap.size+2<=B:=by omega
      have l1:=AB (show(nums p (sz Q)).length=ln by rw[<-i1];simp);have N6:ln<=729:=by have:=nums_length p (sz Q);have:=l1.AA;omega
      clear a6 kc C8 k1 B4 d7 s5 y4 u8 y5 n1 x2 i1 f6 f3 e6 B2 D0 G2 D7 I4 X Y R O V U e0;go_wp2_with fail;go_loopw [16] (λkv wr=>∃k:Nat,k<=ln/\kv= .int .i64 (k:Int)/\Hid (EU B wr (.slice (some ⟨B,0,none⟩) (sz Q) (sz Q)) (Fy (λk=>(nums p (sz Q)).getD k 0) (sz Q) k))/\Hid (Keep (λk=>k≠B) wc wr)/\Below (w.heap.size+2) ((w.alloc (.cells #[.slice aO T.length cO,.slice (some ⟨bP,oP,none⟩) T.length cP,.slice (some ⟨bC,oC,none⟩) T.length cC] 28)).alloc (.cells #[C,I,F] 28)) wr) (λkv _=>ln-(intOf kv).toNat);case atStart=>exact⟨0,AX _,rfl,y9,AB AL,g7.AA⟩
      case round=>
       obtain⟨k,hk,rfl,l2,b3,hB⟩:=hrel;have b6:=AB hB;obtain⟨⟨X,Y,R⟩,⟨O,V,U⟩,_,_,_⟩:=bx hB;have B1:=b3.AA.size;have o5:w.heap.size<wr.heap.size:=by omega
       have r8:w.heap.size+1<wr.heap.size:=by omega
       have L9:B<wr.heap.size:=by omega
       clear hB;by_cases a0:k<ln
       .obtain⟨t,ht⟩:∃t,(nums p (sz Q))[k]?=some t:=⟨_,AU (by have:=l1.AA;omega)⟩;have s0:=Ko.rU ht;obtain⟨bN,oN,C5,vr,he,M7,N1,s7⟩:=AQ.Ka (AQ.keep f5.AA b3.AA) (k:=k) (r:=at_ Q t) (by rw[Bh,ht];rfl);obtain⟨rfl,rfl⟩:aN=some ⟨bN,oN,none⟩/\cN=C5:=by simp only[Du]at he;exact⟨he.1,he.2.2⟩
        have L5:¬bN=B:=by
         obtain⟨ao,c',e1,_,_,_,h4⟩:=f5.AA;obtain⟨b,o,f1,f2,_⟩:=h4 k (ints (at_ Q t)) (by simp[ht]);simp only[Du]at e1;obtain⟨e1,_,_⟩:=e1;rw[f1]at e1;simp only[EQ,Hr]at e1;rw[e1.1];exact f2
        have F4:=AB (j8.AA.keep b3.AA);have z8:=AB s7;have H7:=AB (λW (h:Keep (λk=>k≠B) wr W)=>show AP Any W C (ints (Ca.Ed Q)) from by
         have h2:=((F4.AA.keep h).mono (S':=Any) (λ_ _=>trivial)).os;rwa[f0.AA]at h2)
        have I2:=AB (λW va (hO:AP Any W C (ints (Ca.Ed Q))) (hx:AP Any W va (ints (at_ Q t)))=>(show Calls Tryz.prog 214 #[.agg #[C,I,F],va] W (Ca.Kn t W) from by
         have h:=B7.AA W va (at_ Q t) hO hx (Cb e2.AA t) (Em (Cb e2.AA t) e2.AA);rwa[LX,EC s0]at h))
        have K9:(t:Int)<(sz Q:Int):=by omega
        have f9:(0:Int)<=(t:Int):=by omega
        have L0:(k:Int)<(ln:Int):=by omega
        have H3:(0:Int)<=(k:Int):=by omega
        have G8:=AB (show Fy (λk=>(nums p (sz Q)).getD k 0) (sz Q) (k+1)=(Fy (λk=>(nums p (sz Q)).getD k 0) (sz Q) k).set t true by
         rw[YF,BG,ht];rfl)
        clear ht he s7;go_upto_region 17 with fail;go_region_held3 (λw'=>(∀b o,b<wr.heap.size->¬b=B->w'.cell? ⟨b,o,none⟩=wr.cell? ⟨b,o,none⟩)/\Keep (λk=>k≠B) wr w')
         (first|exact ak (by repeat(first|exact Ab|exact AL|refine Keep.setCell ?_ (by simp) _|refine AR ?_ ‹_›)))
         (first|(go_at_call 214;refine(I2.AA _ vr (H7.AA _ (by repeat(first|exact Ab|exact AL|refine Keep.drewN ?_ _|refine AR ?_ ‹_›))) (AP.mono (AP.keep z8.AA (by repeat(first|exact Ab|exact AL|refine Keep.drewN ?_ _|refine AR ?_ ‹_›))) (λ_ _=>trivial))).mono ?_;rintro e w8 ⟨rfl,G6⟩;have k0:=l2.AA.keep (S:=Any) (show Keep Any wr w8 from(by repeat(first|exact Ab|exact AL|refine Keep.drewN ?_ _|refine AR ?_ ‹_›))) (λ_ _=>trivial);obtain⟨s8,f8⟩:=k0.cell (RP s0);have B6:wr.heap.size<=w8.heap.size:=(show Keep Any wr w8 from(by repeat(first|exact Ab|exact AL|refine Keep.drewN ?_ _|refine AR ?_ ‹_›))).size))
        have J1:=AB (show EU B (w8.setCell ⟨B,t,none⟩ (.bool true)) (.slice (some ⟨B,0,none⟩) (sz Q) (sz Q)) (Fy (λk=>(nums p (sz Q)).getD k 0) (sz Q) (k+1)) by rw[G8.AA];exact k0.set t true);have E0:=AB (show Keep (λk=>k≠B) wc (w8.setCell ⟨B,t,none⟩ (.bool true)) from(b3.AA.trans (show Keep (λk=>k≠B) wr w8 from(by repeat(first|exact Ab|exact AL|refine Keep.drewN ?_ _|refine AR ?_ ‹_›)))).setCell (by simp) _);have b9:=AB ((show Below (w.heap.size+2) ((w.alloc (.cells #[.slice aO T.length cO,.slice (some ⟨bP,oP,none⟩) T.length cP,.slice (some ⟨bC,oC,none⟩) T.length cC] 28)).alloc (.cells #[C,I,F] 28)) w8 from(by repeat(first|exact b6.AA|exact b6.AA.drew|refine Cs ?_ _|refine Below.step ?_ (by simp) ‹_›))).setCell (p:=⟨B,t,none⟩) C7 (.bool true));clear G6 k0 s8 f8 B6 X Y R O V U;go_wp2_with fail;go_roundw;case rel=>exact⟨k+1,by omega,by go_num,J1,E0,b9.AA⟩
        case measure=>simp[intOf]<;>omega
       .obtain rfl:k=ln:=by omega
        have G4:=AB l2.AA;have m9:=AB ((AQ.keep y6.AA b3.AA).mono (λ_ _=>trivial):AQ Any wr _ ((L.c.map (ev (mul Q) (AJ.one Q) im)).map ints));have D1:=AB ((AQ.keep u7.AA b3.AA).mono (λ_ _=>trivial):AQ Any wr (.slice (some ⟨g1,0,none⟩) T.length c1) ((kn Q N (i+1)).map ints));have I1:=AB ((AP.keep v4.AA b3.AA).mono (λ_ _=>trivial):AP Any wr _ (ints (ev (mul Q) (AJ.one Q) im L.w)));have t8:=AB ((j8.AA.keep b3.AA).mono (S':=Any) (λ_ _=>trivial));have F1:=AB (bx b6.AA).2.2.2.1;have H4:=AB (bx b6.AA).2.2.1;obtain⟨aV,cV,p8,_⟩:=(⟨_,_,(AQ.form m9.AA).choose_spec.choose_spec,trivial⟩:∃a c,_=Value.slice a (L.c.map (ev (mul Q) (AJ.one Q) im)).length c/\True);rw[BC]at p8;subst p8;obtain⟨bO,oO,rfl,_,D6,m7⟩:=j1.AA.ord g9.AA;have D5:=(H4.AA.cell (b:=bO) (o:=oO+i) trivial D6).trans m7;have F0:bO<wr.heap.size:=by omega
        have e4:=DL (base:=wr.heap.size) (e:=24) (size:=1) wr #[] 0 AV (AX _) rfl;have O0:=F5.AA;have v0:=AB (show∀t,t<sz Q->(may Q L im t=true↔p t=false/\Gd Q L im (at_ Q t)) from λt ht=>by
         rw[RQ,<-D2.AA t ht];cases p t<;>simp)
        clear l2 b3 m7 X Y R O V U y6 u7 v4 j8 y9 D3 A4 f5 a0;go_wp2_with fail;rename World=>wd;go_loopw [17,18] (λov tv wr=>∃t:Nat,t<=sz Q/\tv= .int .i64 (t:Int)/\Hid (Own2 24 2 wd.heap.size wr ov ((nums (may Q L im) t).map (at_ Q)))/\Below wd.heap.size wd wr) (λ_ tv _=>sz Q-(intOf tv).toNat);case atStart=>exact⟨0,AX _,rfl,AB ⟨[],e4,rfl,by simp[nums]⟩,AY.alloc AV _⟩
        case round=>
         obtain⟨t,ht,rfl,o3,D⟩:=hrel;have E5:=AB D;have B0:=D.size;have q7:Below (w.heap.size+2) ((w.alloc (.cells #[.slice (some ⟨bO,oO,none⟩) T.length cO,.slice (some ⟨bP,oP,none⟩) T.length cP,.slice (some ⟨bC,oC,none⟩) T.length cC] 28)).alloc (.cells #[C,I,F] 28)) wr:=b6.AA.trans (D.mono (by omega));obtain⟨⟨X,Y,R⟩,⟨O,V,U⟩,_,_,_⟩:=bx q7;have q4:=AB (λW (h:Below wd.heap.size wd W)=>show AP Any W C (ints (Ca.Ed Q)) from by
          have h2:=(t8.AA.keep (AO h)).os;rwa[f0.AA]at h2)
         have o5:w.heap.size<wr.heap.size:=by omega
         have r8:w.heap.size+1<wr.heap.size:=by omega
         clear e4 q7;go_wp2_with fail;refine(p7.AA _ (q4.AA _ D)).mono ?_;rintro e w2 ⟨rfl,b5⟩;have a7:=AB (E5.AA.trans (b5.mono B0));have e8:=AB (o3.AA.of_below b5);have h7:Below (w.heap.size+2) ((w.alloc (.cells #[.slice (some ⟨bO,oO,none⟩) T.length cO,.slice (some ⟨bP,oP,none⟩) T.length cP,.slice (some ⟨bC,oC,none⟩) T.length cC] 28)).alloc (.cells #[C,I,F] 28)) w2:=b6.AA.trans (a7.AA.mono (by omega));have L4:=AB h7;have s9:=a7.AA.size;clear D b5 o3 X Y R O V U;obtain⟨⟨X,Y,R⟩,⟨O,V,U⟩,_,_,_⟩:=bx h7;clear h7;by_cases a0:t<sz Q
         .have N3:(t:Int)<(sz Q:Int):=by omega
          have K7:(0:Int)<=(t:Int):=by omega
          have G0:t<=1000000:=by omega
          have l5:=G4.AA.keep (S:=Any) (AO a7.AA) (λ_ _=>trivial);obtain⟨s2,_⟩:=l5.cell (RP (f:=λk=>(nums p (sz Q)).getD k 0) (k:=k) a0);rw[show Ei (λk=>(nums p (sz Q)).getD k 0) k t=p t from by rw[<-l1.AA];exact Ko.remark p (sz Q) t a0]at s2;have q6:=AB (XP (may Q L im) t);cases c4:p t with
          |true=>
           rw[c4]at s2;have HN:=AB (show(nums (may Q L im) (t+1))=nums (may Q L im) t by
            rw[q6.AA];cases hm:may Q L im t with
            |false=>simp
            |true=>have:=(v0.AA t a0).1 hm;rw[c4]at this;simp at this)
           clear l5 c4;go_wp2_with fail;go_roundw;case rel=>exact⟨t+1,by omega,by go_num,AB (by rw[HN.AA];exact e8.AA),a7.AA⟩
           case measure=>simp[intOf]<;>omega
          |false=>
           rw[c4]at s2;have I7:=AB c4;clear l5 c4;go_wp2_with fail;refine(A7.AA _ t G0 (q4.AA _ a7.AA)).mono ?_;rintro e w3 ⟨gx,cx,rfl,m0,j3⟩;have g3:=AB (a7.AA.trans (j3.mono s9));have o7:=AB (m0.sl.mono (S':=Any) (λ_ _=>trivial));have G3:=AB (CX.row (m0.mono (B':=wd.heap.size) s9));have B9:=AB (e8.AA.of_below j3);have z2:=g3.AA.size;have m2:=AB (show Below (w.heap.size+2) ((w.alloc (.cells #[.slice (some ⟨bO,oO,none⟩) T.length cO,.slice (some ⟨bP,oP,none⟩) T.length cP,.slice (some ⟨bC,oC,none⟩) T.length cC] 28)).alloc (.cells #[C,I,F] 28)) w3 from b6.AA.trans (g3.AA.mono (by omega)));have k3:=AO (S:=Any) g3.AA;have x9:=AB (t8.AA.keep k3);have I3:=AB (AQ.keep D1.AA k3);have A6:=AB (AQ.keep m9.AA k3);have A0:=AB (AP.keep I1.AA k3);have G5:=(k3.cell (b:=bO) (o:=oO+i) trivial F0).trans D5;have J8:bO<w3.heap.size:=by omega
           have K0:w.heap.size<w3.heap.size:=by omega
           have L7:w.heap.size+1<w3.heap.size:=by omega
           have j6:=AB (Cb e2.AA t);obtain⟨b0,l0⟩:∃b0,decide (ints (npow (mul Q) (AJ.one Q) (at_ Q t) L.o)=ints (ev (mul Q) (AJ.one Q) im L.w))=b0:=⟨_,rfl⟩;have J0:=AB l0;have D4:=AB (show b0=true↔FT Q L im (at_ Q t) 0 from by
            rw[<-l0,Lc,Km.LJ];exact⟨λh=>⟨h,λk hk=>absurd hk (CS _)⟩,λh=>h.1⟩)
           have C9:IntKind.i64.wrap ((i:Int)+1)=(i:Int)+1:=Ac _ (by omega);clear l0 m0 j3 k3 X Y R O V U e8 s2;obtain⟨⟨X,Y,R⟩,⟨O,V,U⟩,_,_,_⟩:=bx m2.AA;go_wp2_with fail;go_region_held3 (λw'=>(∀b o,b<w3.heap.size->w'.cell? ⟨b,o,none⟩=w3.cell? ⟨b,o,none⟩)/\Keep (λ_=>True) w3 w')
            (first|exact Ap (by repeat(first|exact Ab|exact AL|refine Keep.drewN ?_ _|refine AR ?_ ‹_›)))
            (first|(go_at_call 136;refine(I0.AA _ (.slice (some ⟨gx,0,none⟩) (ints (at_ Q t)).length cx) (at_ Q t) L.o (by omega) (x9.AA.keep (by repeat(first|exact Ab|exact AL|refine Keep.drewN ?_ _|refine AR ?_ ‹_›))) (o7.AA.keep (by repeat(first|exact Ab|exact AL|refine Keep.drewN ?_ _|refine AR ?_ ‹_›))) j6.AA).mono ?_;rintro e w6 ⟨v6,rfl,a8,e3⟩)|(go_at_call 212;refine(JV _ v6 _ _ _ ((a8.sl.mono (λ_ _=>trivial)).keep (by repeat(first|exact Ab|exact AL|refine Keep.drewN ?_ _|refine AR ?_ ‹_›))) (A0.AA.keep (by repeat(first|exact Ab|exact AL|refine Keep.drewN ?_ _|refine AR ?_ ‹_›)))).mono ?_;rintro e w7 ⟨rfl,n7,rfl⟩;rw[J0.AA]))
           have B8:=AB (show Below w3.heap.size w3 (w6.drewN n7) from Cs (by repeat(first|exact BB _ _|exact AY.drew|refine Below.step ?_ AV ‹_›)) _);clear a8 e3 X Y R O V U G5;go_wp2_with fail;go_loopw [20,21] (λbv jv wr=>∃(m:Nat) (b:Bool),m<=L.c.length/\jv= .int .i64 ((i:Int)+1+(m:Int))/\bv= .bool b/\Hid (b=true↔FT Q L im (at_ Q t) m)/\Below w3.heap.size w3 wr) (λ_ jv _=>T.length-(intOf jv).toNat);case atStart=>exact⟨0,b0,AX _,Ck (Value.int .i64) (by omega),rfl,D4,B8.AA⟩
           case round=>
            obtain⟨m,b,hm,rfl,rfl,m1,D⟩:=hrel;have I6:=(bx m2.AA).2.2.2.2;have B1:=D.size;have d0:=AB (g3.AA.trans (D.mono z2));have o0:=AB D;have H0:=AB (m2.AA.trans (D.mono I6));have kr:=AO (S:=Any) D;have n2:=AB (B9.AA.of_below D);obtain⟨⟨X,Y,R⟩,⟨O,V,U⟩,_,_,_⟩:=bx H0.AA;have o5:w.heap.size<wr.heap.size:=by omega
            have r8:w.heap.size+1<wr.heap.size:=by omega
            have t2:=AB q6.AA;cases b with
            |false=>
             have HN:=AB (show(nums (may Q L im) (t+1))=nums (may Q L im) t by
              rw[t2.AA];cases F9:may Q L im t with
              |false=>simp
              |true=>exact absurd (m1.AA.2 (vN ((RQ.1 F9).2))) (by simp))
             clear kr D X Y R O V U;go_wp2_with fail;go_roundw;case rel=>exact⟨t+1,by omega,by go_num,AB (by rw[HN.AA];exact n2.AA),d0.AA⟩
             case measure=>simp[intOf]<;>omega
            |true=>
             by_cases C0:m<L.c.length
             .obtain⟨y,d⟩:∃y,L.c[m]?=some y:=⟨_,AU C0⟩;obtain⟨r,hr⟩:∃r,im[m]?=some r:=⟨_,AU (by rw[c0.AA];have:=a5.AA.2.1;have:=b4.AA;rw[Cv];omega)⟩;have n6:El Q r:=i5.AA r (Hl (by rw[<-c0.AA];exact Af hr));obtain⟨bK,oK,cK,vr,he,J6,s3,m4⟩:=AQ.Ka (AQ.keep I3.AA kr) (k:=i+1+m) (r:=r) (by
               unfold kn;rw[DC (by rw[Bp];omega),Bp,show i+1+m-(i+1)=m by omega,<-c0.AA];exact hr)
              simp only[Du,EQ,Hr]at he;rw[<-he.1.1,<-he.1.2.1,CK]at s3;rw[<-he.1.1]at J6;obtain⟨bM,oM,cM,um,h0,M4,F3,w0⟩:=AQ.Ka (AQ.keep A6.AA kr) (k:=m) (r:=ev (mul Q) (AJ.one Q) im y) (by rw[Bh,d];rfl);obtain⟨rfl,rfl⟩:aV=some ⟨bM,oM,none⟩/\cV=cM:=by simp only[Du]at h0;exact⟨h0.1,h0.2.2⟩
              have a4:=AB (x9.AA.keep kr);have x5:=AB (AP.keep o7.AA kr);have J2:=AB m4;have H9:=AB w0;have F2:=AB n6;have t7:=AB (c3.AA y (a5.AA.2.2.1 y (Af d))).2.2.2;obtain⟨b1,c7⟩:∃b1,decide (ints (mul Q r (at_ Q t))=ints (mul Q (at_ Q t) (ev (mul Q) (AJ.one Q) im y)))=b1:=⟨_,rfl⟩;have J4:=AB c7;have A5:=AB (show b1=true↔FT Q L im (at_ Q t) (m+1) from by
               rw[rW d,<-c7,Lc,Km.LJ,BG,hr];exact⟨λh=>⟨m1.AA.1 rfl,h⟩,λh=>h.2⟩)
              have H8:m<=6:=by have:=a5.AA.2.1;omega
              have w1:IntKind.i64.wrap (((i:Int)+1+(m:Int))-(i:Int))=(m:Int)+1:=by rw[Ac _ (by omega)];omega
              have D8:IntKind.i64.wrap (((m:Int)+1)-1)=(m:Int):=by rw[Ac _ (by omega)];omega
              have H2:IntKind.i64.wrap (m:Int)=(m:Int):=Ac _ (by omega);have E4:(m:Int)<(L.c.length:Int):=by omega
              have G7:(0:Int)<=(m:Int):=by omega
              have F8:(i:Int)+1+(m:Int)<(T.length:Int):=by have:=a5.AA.2.1;omega
              have K1:(0:Int)<=(i:Int)+1+(m:Int):=by omega
              have N5:((i:Int)+1+(m:Int)).toNat=i+1+m:=by omega
              clear D c7 d hr n6 he h0 m4 w0 kr;go_wp2_with fail;go_region_held3 (λw'=>(∀b o,b<wr.heap.size->w'.cell? ⟨b,o,none⟩=wr.cell? ⟨b,o,none⟩)/\Keep (λ_=>True) wr w')
               (first|exact Ap (by repeat(first|exact Ab|exact AL|refine Keep.drewN ?_ _|refine AR ?_ ‹_›)))
               (first|(go_at_call_of 166 vr;refine(o6.AA _ vr (.slice (some ⟨gx,0,none⟩) (ints (at_ Q t)).length cx) _ _ (a4.AA.keep (by repeat(first|exact Ab|exact AL|refine Keep.drewN ?_ _|refine AR ?_ ‹_›))) (J2.AA.keep (by repeat(first|exact Ab|exact AL|refine Keep.drewN ?_ _|refine AR ?_ ‹_›))) (x5.AA.keep (by repeat(first|exact Ab|exact AL|refine Keep.drewN ?_ _|refine AR ?_ ‹_›))) F2.AA j6.AA).mono ?_;rintro e w6 ⟨v6,rfl,a8,e3⟩)|(go_at_call_of 166 um;refine(o6.AA _ (.slice (some ⟨gx,0,none⟩) (ints (at_ Q t)).length cx) um _ _ (a4.AA.keep (by repeat(first|exact Ab|exact AL|refine Keep.drewN ?_ _|refine AR ?_ ‹_›))) (x5.AA.keep (by repeat(first|exact Ab|exact AL|refine Keep.drewN ?_ _|refine AR ?_ ‹_›))) (H9.AA.keep (by repeat(first|exact Ab|exact AL|refine Keep.drewN ?_ _|refine AR ?_ ‹_›))) j6.AA t7.AA).mono ?_;rintro e w7 ⟨v7,rfl,t9,J3⟩)|(go_at_call 212;refine(JV _ v6 v7 _ _ ((a8.sl.mono (λ_ _=>trivial)).keep (by repeat(first|exact Ab|exact AL|refine Keep.drewN ?_ _|refine AR ?_ ‹_›))) ((t9.sl.mono (λ_ _=>trivial)).keep (by repeat(first|exact Ab|exact AL|refine Keep.drewN ?_ _|refine AR ?_ ‹_›)))).mono ?_;rintro e w8 ⟨rfl,n8,rfl⟩;rw[J4.AA]))
              have z9:=AB (show Below w3.heap.size w3 (w7.drewN n8) from Cs (by repeat(first|exact o0.AA|exact o0.AA.drew|refine Below.step ?_ AV ‹_›)) _);clear a8 e3 t9 J3 X Y R O V U s3 F3;go_wp2_with fail;go_roundw;case rel=>exact⟨m+1,b1,by omega,Ck (Value.int .i64) (by omega),rfl,A5,z9.AA⟩
              case measure=>simp[intOf]<;>omega
             .obtain rfl:m=L.c.length:=by omega
              have HN:=AB (show(nums (may Q L im) (t+1)).map (at_ Q)=(nums (may Q L im) t).map (at_ Q)++[at_ Q t] by
               rw[t2.AA,(v0.AA t a0).2 ⟨I7.AA,uE.1 (m1.AA.1 rfl)⟩];simp)
              obtain⟨nl,h8⟩:∃nl,((nums (may Q L im) t).map (at_ Q)).length=nl:=⟨_,rfl⟩;have N9:nl<=729:=by have:=nums_length (may Q L im) t;rw[<-h8,BC];omega
              have u1:=AB h8;have x8:=AB (G3.AA.keep (S:=Any) kr (λ_ _=>trivial):CZ 2 wd.heap.size wr (.slice (some ⟨gx,0,none⟩) (ints (at_ Q t)).length cx) (at_ Q t));obtain⟨g0,z,h2,h4⟩:=n2.AA;have a9:=AB (And.intro h2 h4);rw[u1.AA]at z;clear h8 h2 h4 kr D;go_wp2_with (at_builtin;(refine DR _ rfl _ _ 25 rfl wd.heap.size 24 i0 (.slice none 0 0) 1 24 Tryz.underlying25 p3 t6 x7 p5 rfl (by decide) _ _ _ rfl (z.alloc _) ⟨wr.heap.size,0,none⟩ 1 1 [.slice (some ⟨gx,0,none⟩) (ints (at_ Q t)).length cx] rfl rfl ?d1 ?d2 ?d3 ?d4 ?d5 ?_));case d2=>first|rfl|(intro u hu;simp at hu;subst hu;rfl)
              case d3=>first|(unfold maxLen;omega)|omega|(simp only[maxLen];omega)
              case d4=>first|omega|(simp;omega)
              case d5=>have:=d0.AA.size;first|omega|(simp;omega)
              .intro v' w9 q5 j4 _;have H1:=AB (show Own2 24 2 wd.heap.size w9 v' ((nums (may Q L im) (t+1)).map (at_ Q)) from by
                rw[HN.AA];exact Own2.push (w:=wr.alloc _) (us:=g0) (by decide) u1.AA (z.alloc _) a9.AA.1 (λi r u hr hu=>(a9.AA.2 i r u hr hu).keep (S:=λ_=>True) (AL.alloc _) (λ_ _=>trivial)) (x8.AA.keep (S:=λ_=>True) (AL.alloc _) (λ_ _=>trivial)) q5 j4)
               have b9:=AB (show Below wd.heap.size wd w9 from(d0.AA.alloc (by have:=d0.AA.size;omega) _).grown j4 (by simp;have:=d0.AA.size;omega) (λg hg=>(Aq z g hg).1));clear q5 j4 z a9 x8 X Y R O V U;go_wp2_with fail;go_roundw;case rel=>exact⟨t+1,by omega,by go_num,H1,b9.AA⟩
               case measure=>simp[intOf]<;>omega
         .obtain rfl:t=sz Q:=by omega
          have HR:=AB (show Mv 24 2 (Ey Q L im) w (.returned _) w2 from⟨_,rfl,e8.AA.mono (by omega),F1.AA.trans (a7.AA.mono (by omega))⟩);go_wp2_with fail;go_ret;have h:=HR.AA;rw[c0.AA]at h;exact h
end Ga
namespace bG
open RowKit AJ Val SC
abbrev Any:Nat->Prop:=λ_=>True
theorem Tx (T:Tw)(hT:Wf T)(hs:Small T)(w:World)(Z x vC:Value)(N:Av Any w Z x vC (AZ T)):
  Calls Tryz.prog 186 #[.agg #[Z,x,vC]] w (R9 (AJ.Good T) w):=by
 have b1:=hs.1;obtain⟨g,cO,Y,X,aC,u,rfl,rfl,rfl,a9,b0,b3⟩:=N.open;have HP:=AB N;have a7:=AB (λi L K hg W N=>kL T hT hs i L K hg W (.slice g T.length cO) (.slice Y T.length X) (.slice aC T.length u) N);clear N;go_enter Tryz.func186,Tryz.ntmps186;go_wp2_with fail;go_loopw [3] (λU wr=>∃k:Nat,k<=T.length/\U= .int .i64 ((k:Int)-1)/\Hid (AJ.Good (T.drop k))/\Below (w.heap.size+2) ((w.alloc (.cells #[.slice g T.length cO,.slice Y T.length X,.slice aC T.length u] 28)).alloc (.cells #[.int .i64 0,.int .i64 0,.int .i64 0,.int .i64 0] 166)) wr) (λU _=>(intOf U+1).toNat);case atStart=>exact⟨T.length,Al _,rfl,AB (by rw[JZ];trivial),BB _ _⟩
 case round=>
  obtain⟨k,hk,rfl,hg,R⟩:=hrel;obtain⟨⟨V,r,e2⟩,B,Q,J,j⟩:=Fp R;have HB:=AB R;have HK:=AB Q;have a6:=AB J;have F:=Ar _ (w.heap.size+1) 0 _ _ (0,0) B;have C:=Ar _ (w.heap.size+1) 1 _ _ (0,0) B;have D:=Ar _ (w.heap.size+1) 2 _ _ (0,0) B;have I:=Ar _ (w.heap.size+1) 3 _ _ (0,0) B;have q:=BP _ (w.heap.size+1) 0 _ _ B;have d:=BP _ (w.heap.size+1) 1 _ _ B;have z2:=BP _ (w.heap.size+1) 2 _ _ B;have z3:=BP _ (w.heap.size+1) 3 _ _ B;simp at F C D I;clear R Q J B;by_cases h0:k=0
  .subst h0;have hd:decide (((0:Nat):Int)-1>=0)=false:=by decide
   go_wp2_with fail;exact Au (v:=.agg #[.int .i64 0,.int .i64 0,.int .i64 0,.int .i64 0]) (by simp[results,Tryz.results186,go_sem,F,C,D,I]) rfl
    ⟨0,_,_,_,rfl,⟨λ_=>hg.AA,λ_=>rfl⟩,(((a6.AA.setCell (by simp) _).setCell (by simp) _).setCell (by simp) _).setCell (by simp) _⟩
  .obtain⟨i,rfl⟩:∃i,k=i+1:=⟨k-1,by omega⟩;obtain⟨L,K⟩:∃L,T[i]?=some L:=⟨_,AU (by omega)⟩;have HL:=AB K;have p:=AB (show AJ.Good (T.drop i)↔Ep L (T.drop (i+1)) from by
    rw[EB K,XA];exact⟨λh=>h.2,λh=>⟨hg.AA,h⟩⟩)
   have a0:(((i+1:Nat):Int)-1)=(i:Int):=by omega
   rw[a0];clear K h0 a0;go_wp2_with fail;refine(a7.AA i L HL.AA hg.AA _ (HP.AA.keep HK.AA)).mono ?_;rintro e z ⟨k,l,a,b,rfl,y,s⟩;have a1:=AB y;have S:=AB (HB.AA.trans (s.mono j));clear s F C D I q d z2 z3 V r e2 y;have b2:w.heap.size+2<=z.heap.size:=(Fp S.AA).2.2.2.2;by_cases O:k=0
   .subst O;have a2:=AB (p.AA.2 (a1.AA.1 rfl));go_wp2_with fail;go_roundw;case rel=>exact⟨i,by omega,rfl,a2,(S.AA.alloc (by omega) _)⟩
    case measure=>simp[intOf]<;>omega
   .have a8:(k !=0)=true:=by simpa using O
    have HN:=AB (show¬AJ.Good T from λh=>O (a1.AA.2 (p.AA.1 (KQ h i))));have a3:=AB O;clear O;obtain⟨⟨V,r,e2⟩,B,Q,J,j⟩:=Fp S.AA;have F:=Ar _ (w.heap.size+1) 0 _ _ (0,0) B;have C:=Ar _ (w.heap.size+1) 1 _ _ (0,0) B;have D:=Ar _ (w.heap.size+1) 2 _ _ (0,0) B;have I:=Ar _ (w.heap.size+1) 3 _ _ (0,0) B;have q:=BP _ (w.heap.size+1) 0 _ _ B;have d:=BP _ (w.heap.size+1) 1 _ _ B;have z2:=BP _ (w.heap.size+1) 2 _ _ B;have z3:=BP _ (w.heap.size+1) 3 _ _ B;simp at F C D I;have a4:=AB J;have a5:w.heap.size+1<z.heap.size:=by omega
    clear B Q J;go_wp2_with fail;exact Au (v:=.agg #[.int .i64 k,.int .i64 l,.int .i64 a,.int .i64 b]) (by simp[results,Tryz.results186,go_sem,F,C,D,I,a5]) rfl
     ⟨k,_,_,_,rfl,⟨λh=>absurd h a3.AA,λh=>absurd h HN.AA⟩,((((a4.AA.setCell (by simp) _).setCell (by simp) _).setCell (by simp) _).setCell (by simp) _).alloc (by simp;omega) _⟩
end bG
namespace Ry
open RowKit AJ Val SC IP Ba
theorem gD (T:Tw)(hT:Wf T)(K:Small T)(w:World)(F I C:Value)(D:Av (λ_=>True) w F I C (AZ T)):
  Calls Tryz.prog 129 #[.agg #[F,I,C]] w (Kv (AJ.Good T) w):=by
 have V:=AB D;have U:=AB (λW D=>bG.Tx T hT K W F I C D);clear D K hT;go_enter Tryz.func129,Tryz.ntmps129;go_wp2_with fail;have N:Hid (Below w.heap.size w (w.alloc (.cells #[F,I,C] 28))):=AB (AY.alloc (by simp) _);refine(U.AA _ (V.AA.keep (AO N.AA))).mono ?_;rintro e Y ⟨k,l,a,b,rfl,O,L⟩;have J:=AB (N.AA.trans (L.mono (by simp)));have Q:=AB O;have Z:∀w:World,(Instr.field 166 (.agg #[.int .i64 k,.int .i64 l,.int .i64 a,.int .i64 b]) 0).run Tryz.prog w= .ok (.int .i64 k) w:=λ_=>by kernel_rfl
 clear L O;by_cases B:k=0
 .subst B;have R:=AB (Q.AA.1 rfl);go_wp2_with fail;go_ret;exact Nc R.AA J.AA
 .have X:(k==0)=false:=by simpa using B
  have S:=AB (show¬AJ.Good T from λh=>B (Q.AA.2 h));clear B;go_wp2_with fail;go_ret;exact EI S.AA J.AA
theorem LA (w:World)(L O J:Value)(P:BZ)(d:Av (λ_=>True) w L O J P):
  Calls Tryz.prog 71 #[.agg #[L,O,J]] w (Kv (BR P) w):=by
 have Q:=AB d;have X:=AB (λW h=>QC.MG W L O J P h);have b:=AB (λT (hT:Wf T) (R:Small T) W h=>gD T hT R W L O J h);clear d;have I:Hid (Below w.heap.size w (w.alloc (.cells #[L,O,J] 28))):=AB (AY.alloc (by simp) _);by_cases N:Valid P
 .obtain⟨T,hT,R,rfl⟩:=N.tower;have U:=AB N;have Y:=AB hT;have V:=AB R;clear N hT R;by_cases hg:AJ.Good T
  .have K:=AB hg;clear hg;go_enter Tryz.func71,Tryz.ntmps71;go_wp2_with fail;refine(X.AA _ (Q.AA.keep (AO I.AA))).mono ?_;rintro e Z ⟨r,rfl,B,C⟩;obtain rfl:=B.2 U.AA;obtain⟨g,i,e2⟩:=CY ((AY.trans (C.mono (by simp))));have D:=AB (I.AA.trans (C.mono (by simp)));clear C B;go_wp2_with (go_at_call 129;refine(b.AA T Y.AA V.AA _ (Q.AA.keep (AO D.AA))).mono ?_;rintro e j ⟨r,rfl,B,F⟩;obtain rfl:=B.2 K.AA;replace F:=AB F);go_ret;exact Nc ⟨T,Y.AA,V.AA,rfl,U.AA,K.AA⟩ (D.AA.trans (F.AA.mono D.AA.size))
  .have K:=AB hg;clear hg;have S:Hid (¬BR (AZ T)):=AB (λh=>K.AA h.good);go_enter Tryz.func71,Tryz.ntmps71;go_wp2_with fail;refine(X.AA _ (Q.AA.keep (AO I.AA))).mono ?_;rintro e Z ⟨r,rfl,B,C⟩;obtain rfl:=B.2 U.AA;obtain⟨g,i,e2⟩:=CY ((AY.trans (C.mono (by simp))));have D:=AB (I.AA.trans (C.mono (by simp)));clear C B;go_wp2_with (go_at_call 129;refine(b.AA T Y.AA V.AA _ (Q.AA.keep (AO D.AA))).mono ?_;rintro e j ⟨r,rfl,B,F⟩;obtain rfl:=(Bool.eq_false_iff.2 (λh=>K.AA (B.1 h)));replace F:=AB F);go_ret;exact EI S.AA (D.AA.trans (F.AA.mono D.AA.size))
 .have a:=AB N;have S:Hid (¬BR P):=AB (by rintro⟨l,_,_,_,h,_⟩;exact a.AA h);clear N;go_enter Tryz.func71,Tryz.ntmps71;go_wp2_with fail;refine(X.AA _ (Q.AA.keep (AO I.AA))).mono ?_;rintro e Z ⟨r,rfl,B,C⟩;obtain rfl:=(Bool.eq_false_iff.2 (λh=>a.AA (B.1 h)));have D:=AB (I.AA.trans (C.mono (by simp)));clear C B;go_wp2_with fail;go_ret;exact EI S.AA D.AA
end Ry
end Go.Proofs.YtgjadpmbnejaoaaGreat

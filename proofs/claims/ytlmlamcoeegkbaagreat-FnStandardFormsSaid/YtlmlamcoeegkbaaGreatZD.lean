import Derived.Test.YtlmlamcoeegkbaaGreatZ0
import Derived.Test.YtlmlamcoeegkbaaGreatZm
import Derived.Test.YtlmlamcoeegkbaaGreatZC
import Derived.Test.YtlmlamcoeegkbaaGreatZj
import Derived.Test.YtlmlamcoeegkbaaGreatZB
/-
  Lemmas for the law FnStandardForms, in short spelling.
-/
open Go.Lib (hid)
set_option linter.unusedVariables false
set_option linter.unusedSimpArgs false
set_option maxRecDepth 100000
set_option maxHeartbeats 40000000
namespace Go.Proofs.YtlmlamcoeegkbaaGreat.DxD
open Go.RowKit Go.Proofs.YtlmlamcoeegkbaaGreat AJ CV DC CY DV DD Bv Fv M0 OG M4 QV SG
open Go.Proofs.YtlmlamcoeegkbaaGreat.SH (LH)
def Xr (T:Tw)(B:Nat)(W:World)(v:Value):Prop:=∃y,El T y∧Own B W v (ints y)
def It (T:Tw)(n B:Nat)(W:World)(v:Value):Prop:=∃X:List (List Nat),X.length=n∧(∀x∈X,El T x)∧Own2 24 2 B W v X
theorem Xr.keep {T:Tw}{B:Nat}{S:Nat→Prop}{W W':World}{v:Value}(h:Xr T B W v)(hk:AA S W W')(hS:∀k,B≤k→S k):Xr T B W' v:=by
 obtain⟨y,h1,h2⟩:=h;exact⟨y,h1,BM h2 hk hS⟩
theorem It.keep {T:Tw}{n B:Nat}{S:Nat→Prop}{W W':World}{v:Value}(h:It T n B W v)(hk:AA S W W')(hS:∀k,B≤k→S k):It T n B W' v:=by
 obtain⟨X,h1,h2,h3⟩:=h;exact⟨X,h1,h2,h3.keep hk hS⟩
theorem kg {w w':World}{g:Nat}(h:w.grownBy w' (some g)):AA (fun k=>k≠g) w w':=AA.grown h fun k hk e=>hk (by injection e)
theorem AGL {B:Nat}{w:World}{v:Value}{y:List Nat}(h:Own B w v (ints y))(h0:0<y.length):CL 2 B w v y:=by
 unfold Own at h;rw[A7]at h;obtain⟨g,cap,e,_⟩:=World.ownsRow.form h h0;exact⟨⟨g,cap,e⟩,h⟩
theorem It.set {T:Tw}{n B g c k:Nat}{W:World}{u:Value}(h:It T n B W (.slice (some ⟨g,0,none⟩) n c))(hu:Xr T B W u)(hn:0<T.length):It T n B (W.setCell ⟨g,k,none⟩ u) (.slice (some ⟨g,0,none⟩) n c):=by
 obtain⟨X,h1,h2,h3⟩:=h;obtain⟨y,h4,h5⟩:=hu;refine⟨X.set k y,by simp[h1],fun x hx=>?_,Go.Proofs.YtlmlamcoeegkbaaGreat.RL.Own2.ABg (by decide) h1 h3 k (AGL h5 (by rw[Af h4];exact hn))⟩;rcases List.mem_or_eq_of_mem_set hx with h|rfl
 ·exact h2 x h
 ·exact h4
theorem Xr.form {T:Tw}{n B:Nat}{W:World}{v:Value}(h:Xr T B W v)(hn:T.length=n):∃a c,v= .slice a n c:=by
 obtain⟨y,h1,h2⟩:=h;obtain⟨a,c,e⟩:=FI h2;rw[A7,Af h1,hn]at e;exact⟨a,c,e⟩
theorem It.form {T:Tw}{n B:Nat}{W:World}{v:Value}(h:It T n B W v)(hn:0<n):∃g c cur,v= .slice (some ⟨g,0,none⟩) n c∧W.heap[g]?=some (.cells cur 24 (0,0))∧B≤g∧g<W.heap.size∧∀k,k<n→∃u,cur[k]?=some u:=by
 obtain⟨X,h1,h2,us,h3,h4,h5⟩:=h;rw[h1]at h3;rcases id h3.2 with⟨h6,h7⟩|⟨g,cap,cur,h6,hB,hg,hc,hm,hsz,ht⟩
 ·omega
 ·exact⟨g,cap,cur,h6,hg,hB,(BX.1 hg).1,fun k hk=>⟨cur[k]'(by omega),Array.getElem?_eq_getElem (by omega)⟩⟩
theorem It.sl {T:Tw}{n B:Nat}{W:World}{v:Value}(h:It T n B W v):∃X:List (List Nat),X.length=n∧(∀x∈X,El T x)∧AV Any W v (X.map ints):=by
 obtain⟨X,h1,h2,h3⟩:=h;exact⟨X,h1,h2,(Own2.sl h3).mono fun _ _=>trivial⟩
theorem mkT (m:Nat)(hm:m≤729)(w:World):(Instr.makeSlice 25 (.int .i64 (m:Int)) (.int .i64 (m:Int))).run Tryz.prog w= .ok (.slice (some ⟨w.heap.size,0,none⟩) m m) (w.alloc (.cells (madeCells #[.slice none 0 0] m) 24)):=
 run_make_row' (P:=Tryz.prog) 25 24 (.slice none 0 0) 24 Tryz.underlying25 JC rfl .i64 .i64 m (by omega) (by omega) w
theorem AHv (B m:Nat)(hm:m≤729)(w:World)(hB:B≤w.heap.size):A2 B (w.alloc (.cells (madeCells #[.slice none 0 0] m) 24)) m (.slice (some ⟨w.heap.size,0,none⟩) m m):=by
 refine⟨List.replicate m (.slice none 0 0),by simp,?_,fun i u hu=>?_⟩
 ·have:=KT (base:=B) (e:=24) (size:=1) w (madeCells #[.slice none 0 0] m) m hB (by unfold maxLen;omega) (by simp[madeCells]);rwa[Ni]at this
 ·have hu:u= .slice none 0 0:=(IQ.1 (Ar hu)).2;exact⟨0,by omega,[],rfl,by rw[hu];exact Jc _ _ _ _⟩
theorem A2.slot {B k i:Nat}{w:World}{b c:Nat}(h:A2 B w k (.slice (some ⟨b,0,none⟩) k c))(hi:i<k):∃cur a n c',w.heap[b]?=some (.cells cur 24 (0,0))∧cur[i]?=some (.slice a n c')∧n≤100∧R1 B w n (.slice a n c')∧B≤b:=by
 obtain⟨us,h1,h2,h3⟩:=h;rcases id h2.2 with⟨h6,h7⟩|⟨g,cap,cur,h6,hB,hg,hc,hm,hsz,ht⟩
 ·omega
 ·simp only[C8,EN,IU,and_true,true_and]at h6;obtain⟨rfl,-⟩:=h6;obtain⟨n,hn,hr⟩:=h3 i _ (AP (by omega));obtain⟨a,c',e,-⟩:=hr.len;refine⟨cur,a,n,c',hg,?_,hn,by rw[←e];exact hr,hB⟩;have e1:us[i]?=some (.slice a n c'):=by rw[AP (by omega),e]
  rw[←ht,MQ]at e1;split at e1
  ·rwa[Oq]at e1
  ·cases e1
theorem A2.form {B k:Nat}{w:World}{a:Option Addr}{c:Nat}(h:A2 B w k (.slice a k c))(hk:0<k):∃b,a=some ⟨b,0,none⟩:=by
 obtain⟨us,h1,h2,h3⟩:=h;obtain⟨b,cur,e,_⟩:=Kg.lJ h2 hk;exact⟨b,e⟩
theorem A3.slot {B i k n c:Nat}{K:List Nat}{w:World}{a:Option Addr}(hn:K.length=n)(h:A3 B w K (.slice a n c))(hi:K[i]?=some k)(hk:0<k):∃b gr yr,a=some ⟨b,0,none⟩∧w.cell? ⟨b,i,none⟩=some (.slice (some ⟨gr,0,none⟩) k yr)∧b<w.heap.size∧A2 B w k (.slice (some ⟨gr,0,none⟩) k yr):=by
 subst hn;obtain⟨us,h1,h2,h3⟩:=h;have hl:=(Ak.1 hi).1;have hu:=h3 i _ k (AP (by omega)) hi;obtain⟨vs,h4,h5,h6⟩:=id hu;obtain⟨ar,cr,e⟩:=FI h5;rw[e]at hu;obtain⟨gr,rfl⟩:=A2.form hu hk;rcases id h2.2 with⟨h7,h8⟩|⟨g,cap,cur,h7,hB,hg,hc,hm,hsz,ht⟩
 ·omega
 ·simp only[C8]at h7;obtain⟨rfl,-, -⟩:=h7;have e1:us[i]?=some (.slice (some ⟨gr,0,none⟩) k cr):=by rw[AP (by omega),e]
  rw[←ht,MQ]at e1;split at e1
  ·rw[Oq]at e1;exact⟨g,gr,cr,rfl,(Aq w g i cur _ (0,0) hg).trans e1,(BX.1 hg).1,hu⟩
  ·cases e1
def QX (B n gq:Nat)(W:World)(x y z:Value):Prop:=W.heap[gq]?=some (.cells #[x,y,z] 28 (0,0))∧B≤gq∧A1 B W x∧A2 B W n y∧A3 B W ((List.range n).map fun i=>n-(i+1)) z
theorem QX.of {B n g:Nat}{w:World}{x y z:Value}(hn:n≤100)(h:PX B n w g x y z):QX B n g w x y z:=by
 obtain⟨h1,h2,h3,h4,h5⟩:=h;refine⟨h1,h2,⟨n,hn,h3⟩,?_,?_⟩
 ·have:=A2.of h4 fun m hm=>by rw[(IQ.1 hm).2];exact hn
  rwa[Cf]at this
 ·have:=A3.of h5 fun L hL m hm=>by
   obtain⟨i,_,rfl⟩:=CX.1 hL;rw[(IQ.1 hm).2];exact hn
  rw[List.map_map]at this;simpa[Function.comp_def]using this
theorem QX.ty {B n g:Nat}{w w':World}{x y z:Value}(h:QX B n g w x y z)(hb:w'.heap[g]?=w.heap[g]?)(ht:Bh B w w'):QX B n g w' x y z:=⟨hb.trans h.1,h.2.1,ht.one _ h.2.2.1,ht.two _ _ h.2.2.2.1,ht.three _ _ h.2.2.2.2⟩
theorem QX.below {B n g:Nat}{w w':World}{x y z:Value}(h:QX B n g w x y z)(hb:Below w.heap.size w w'):QX B n g w' x y z:=h.ty (hb.block g (BX.1 h.1).1) (Bh.keep (AA.of_below (S:=Any) hb) fun _ _=>trivial)
theorem QX.put {B n g b i:Nat}{w:World}{x y z u:Value}{cur:Array Value}(h:QX B n g w x y z)(hb:w.heap[b]?=some (.cells cur 24 (0,0)))(hu:A1 B w u):QX B n g (w.setCell ⟨b,i,none⟩ u) x y z:=
 h.ty (DT w ⟨b,i,none⟩ g u (fun e=>by have e:g=b:=e;rw[←e,h.1]at hb;simp at hb)) (Bh.set2 hb hu)
theorem AFU (T:Tw)(n:Nat)(hn:T.length=n)(hT:Wf T)(hs:Small T)(hg:AJ.Good T)(ho:Bf.Os T)(g:Nat)(a aO aP aC:Option Addr)(len cap cO cP cC:Nat)(w:World)(h:Sr g a len cap w w)(hP:Aw (fun k=>k≠g) w (.slice aO n cO) (.slice aP n cP) (.slice aC n cC) (AX T)):
  Calls Tryz.prog 53 #[.pointer (some ⟨g,0,none⟩),.agg #[.slice aO n cO,.slice aP n cP,.slice aC n cC]] w (Kg.JM g a len cap w):=by
 have M5:n≤6:=by rw[←hn];exact hs.1
 obtain⟨w0,hw0⟩:∃w0,w0=w.alloc (.cells #[.slice aO n cO,.slice aP n cP,.slice aC n cC] 28):=⟨_,rfl⟩;obtain⟨w1,hw1⟩:∃w1,w1=w0.alloc Bu:=⟨_,rfl⟩;obtain⟨g0,hg0⟩:∃g0,w.heap.size=g0:=⟨_,rfl⟩;have HX:=hid (show Bx g a len cap w0 w1 (g0+1) by
  have:=Bx.new (Sr.here (h.alloc (.cells #[.slice aO n cO,.slice aP n cP,.slice aC n cC] 28)));rw[World.size_alloc,←hw0,←hw1,hg0]at this;exact this)
 have hk1:AA Any w w1:=by rw[hw1,hw0];exact(AB.alloc _).alloc _
 have HV:=hid (fun(W:World) (hS:Sr g a len cap w1 W)=>(hP.keep (hk1.mono fun _ _=>trivial)).keep (kg hS.2.2));have FQ:=hid (fun(W W':World) (hS:Sr g a len cap w1 W) (hk:AA Any W W')=>((HV.out W hS).mono (S':=Any) fun _ _=>trivial).keep hk);have hp0:w1.heap[g0]?=some (.cells #[.slice aO n cO,.slice aP n cP,.slice aC n cC] 28 (0,0)):=by rw[hw1,EO _ _ _ (by rw[hw0,←hg0];simp),hw0,←hg0];exact Av _ _
 have hgg:g<g0:=by rw[←hg0];exact h.lt
 have Dj:=hid (fun(W:World) (hS:Sr g a len cap w1 W)=>show W.heap[g0]?=some (.cells #[.slice aO n cO,.slice aP n cP,.slice aC n cC] 28 (0,0))∧g0<W.heap.size from
  have e:=((kg hS.2.2).block g0 (by omega) (by rw[hw1,hw0];simp;omega)).trans hp0
  ⟨e,(BX.1 e).1⟩)
 have Cs:=hid (show g<w1.heap.size from HX.out.s.lt);have eu:=hid hn;have Ih:=hid (Bf.MJ T);have Gw:=hid ho;have J4:=hid (fun(W:World) (hS:Sr g a len cap w1 W) (j:Nat) (hj:j<n)=>show∃q:Nat,2≤q∧q≤7∧∃b o,aO=some ⟨b,o,none⟩∧b≠g∧b<w1.heap.size∧b<W.heap.size∧W.cell? ⟨b,o+j,none⟩=some (.int .i64 (q:Int)) from by
  obtain⟨L,hL⟩:∃L,T[j]?=some L:=⟨_,AP (by rw[hn];exact hj)⟩;have h1:=(HV.out w1 HX.out.s).os;rw[Ih.out]at h1;obtain⟨b,o,e1,e2,e3,e4⟩:=AL.at h1 (Bf.ZL hL);exact⟨L.o,(lvl' hT hL).2.2.2.2,hs.2 L (Ar hL),b,o,e1,e2,e3,Ad e3 hS.2.2.size,((kg hS.2.2).cell e2 e3).trans e4⟩)
 have HWH:=hid (show Calls Tryz.prog 91 #[.agg #[.slice aO n cO,.slice aP n cP,.slice aC n cC]] w1 (KU 24 2 (Dr T) w1) from by rw[←hn];exact rO.AEr T hs.1 w1 _ _ aO cO);have Xq:=hid (fun(W:World) (hS:Sr g a len cap w1 W)=>Bf.Vs T hs.1 W (.slice aO n cO) (.slice aP n cP) (.slice aC n cC) (by have:=(FQ.out W W hS AB).os;rwa[Ih.out]at this));have Lf:=hid (show(∀x∈Dr T,El T x)∧(Dr T).length=n∧El T (AJ.one T)∧(∀j,El T (unit T j)) from⟨Vt hT,by rw[jS,hn],Dm hT,fun j=>LB hT j⟩);have Cy:=hid (fun(W:World) vx x (K:Nat) (hK:K≤1000) (hV:Aw Any W (.slice aO n cO) (.slice aP n cP) (.slice aC n cC) (AX T)) (hx:AL Any W vx (ints x)) (hE:El T x)=>(P8.Y9 T hT hs hg W _ _ _ vx x K hK hV hx hE).mono (R':=fun e W'=>∃v,e= .returned v∧Xr T W.heap.size W' v∧Below W.heap.size W W') (by
  rintro e W' ⟨v,rfl,h1,h2⟩;exact⟨v,rfl,⟨_,(Ba hT hg).npow hE K,h1⟩,h2⟩))
 have HMU:=hid (fun(W:World) vx vy x y (hV:Aw Any W (.slice aO n cO) (.slice aP n cP) (.slice aC n cC) (AX T)) (hx:AL Any W vx (ints x)) (hy:AL Any W vy (ints y)) (hE:El T x) (hF:El T y)=>(JA.Q8 T hT hs W _ _ _ vx vy x y hV hx hy hE hF).mono (R':=fun e W'=>∃v,e= .returned v∧Xr T W.heap.size W' v∧Below W.heap.size W W') (by
  rintro e W' ⟨v,rfl,h1,h2⟩;exact⟨v,rfl,⟨_,Dl hT hE hF,h1⟩,h2⟩))
 have rR:=hid (fun(W:World) (j:Nat) (hj:j<n)=>(Bv.Vl n j (by omega) hj W).mono (R':=fun e W'=>∃v,e= .returned v∧AL Any W' v (ints (unit T j))∧Below W.heap.size W W') (by
  rintro e W' ⟨g5,c5,rfl,h1,h2⟩;refine⟨_,rfl,?_,h2⟩;have:=(Own.sl h1).mono (S':=Any) fun _ _=>trivial;unfold unit AJ.one;rw[hn];exact this))
 have Kh:=hid (fun e w' (hf:Kg.JM g a len cap w0 e w')=>show Kg.JM g a len cap w e w' by rw[hw0]at hf;exact Kg.JM.al h hf);have mD:=hid (fun(W:World) (hS:Sr g a len cap w1 W)=>Bf.I5 T ho W (.slice aO n cO) (.slice aP n cP) (.slice aC n cC) (by have:=(FQ.out W W hS AB).os;rwa[Ih.out]at this));have HAT:=hid (fun(W:World) (hS:Sr g a len cap w1 W) (q:Nat) (hq:q≤1000000)=>Bf.MO T ho (fun L hL=>Ab (hs.2 L hL) (by decide)) q hq W (.slice aO n cO) (.slice aP n cP) (.slice aC n cC) (by have:=(FQ.out W W hS AB).os;rwa[Ih.out]at this));have fA:=hid (fun(W:World) vx x (hV:Aw Any W (.slice aO n cO) (.slice aP n cP) (.slice aC n cC) (AX T)) (hx:AL Any W vx (ints x)) (hE:El T x)=>(Bf.Vd T ho W (.slice aO n cO) (.slice aP n cP) (.slice aC n cC) vx x (by have:=hV.os;rwa[Ih.out]at this) hx hE (He hE hT)).mono (R':=fun e W'=>∃q:Nat,e= .returned (.int .i64 (q:Int))∧q<sz T∧Below W.heap.size W W') (by
  rintro e W' ⟨rfl,h1⟩;exact⟨_,rfl,He hE hT,h1⟩))
 have Uq:=hid (fun(W:World) vu va (X:List (List Nat)) (y:List Nat) (hV:Aw Any W (.slice aO n cO) (.slice aP n cP) (.slice aC n cC) (AX T)) (hX:AV Any W vu (X.map ints)) (hl:X.length=n) (hE:∀x∈X,El T x) (hy:AL Any W va (ints y)) (hF:El T y)=>(LF.NU T hT hs hg W _ _ _ vu va X y hV hX hy (by rw[hl,Af hF,hn];exact Ap _) (by omega) hE (fun q hq=>by
  obtain⟨j,hj⟩:=IP hq;obtain⟨L,hL,h2⟩:=P7 hF hj;have:=hs.2 L (Ar hL);omega)).mono (R':=fun e W'=>∃v,e= .returned v∧Xr T W.heap.size W' v∧Below W.heap.size W W') (by
  rintro e W' ⟨v,rfl,h1,h2⟩;exact⟨v,rfl,⟨_,(Ba hT hg).BO hE y (Dm hT)▸Dl hT (Dm hT) ((Ba hT hg).ev hE y),h1⟩,h2⟩))
 have Xt:=hid (fun(W:World) vx vy x y (hV:Aw Any W (.slice aO n cO) (.slice aP n cP) (.slice aC n cC) (AX T)) (hx:AL Any W vx (ints x)) (hy:AL Any W vy (ints y)) (hE:El T x) (hF:El T y)=>(rO.AFT T hT hs hg W _ _ _ vx vy x y hV hx hy hE hF).mono (R':=fun e W'=>∃v,e= .returned v∧Xr T W.heap.size W' v∧Below W.heap.size W W') (by
  rintro e W' ⟨v,rfl,h1,h2⟩;exact⟨v,rfl,⟨_,Dl hT (Dq.FH hT hg hF).1 (Dl hT hE hF),h1⟩,h2⟩))
 have HAE:=hid (fun t=>Cu hT t);obtain⟨z,hz⟩:∃z,sz T=z:=⟨_,rfl⟩;have fB:z≤729:=by rw[←hz];exact ho.le
 have HZ:=hid hz;rw[hz]at mD fA;clear h hP hk1 hp0 hn ho hz;go_enter Tryz.func53,Tryz.ntmps53;go_upto_region 1 with fail;rw[←hw0,←hw1];clear hw1 hg0 hw0;obtain⟨⟨p0,p1,p2⟩,-⟩:=AO (Dj.out w1 HX.out.s).1;have hpl:=(Dj.out w1 HX.out.s).2;go_upto_region 3 with(go_at_call 91;refine HWH.out.mono ?_;rintro e w2 ⟨vI,rfl,hI,hb2⟩);have HI2:=hid (show It T n w1.heap.size w2 vI from⟨_,Lf.out.2.1,Lf.out.1,hI⟩);have HS2:=hid (HX.out.s.below hb2);clear hI hb2 p0 p1 p2 hpl HWH;go_wp2_with fail;go_loopw [7] (fun iv wr=>∃i:Nat,i≤n∧iv= .int .i64 (i:Int)∧Hid (It T n w1.heap.size wr vI)∧Hid (Sr g a len cap w1 wr)) (fun iv _=>n-(intOf iv).toNat);case atStart=>exact⟨0,AU _,rfl,HI2,HS2⟩
 case round=>
  clear HI2 HS2;obtain⟨i,hi,rfl,hI,hS⟩:=hrel;by_cases hlt:i<n
  ·have hki:(i:Int)<(n:Int):=by omega
   have EP:(0:Int)≤(i:Int):=by omega
   obtain⟨⟨p0,p1,p2⟩,-⟩:=AO (Dj.out wr hS.out).1;have hpl:=(Dj.out wr hS.out).2;go_upto_region 7 with(go_at_call 82;refine(Xq.out _ hS.out).mono ?_;rintro e w3 ⟨g3,c3,rfl,ho3,hb3⟩);have Ul:=hid (show Xr T w1.heap.size w3 (.slice (some ⟨g3,0,none⟩) (ints (AJ.one T)).length c3) from⟨_,Lf.out.2.2.1,EX ho3 hS.out.2.2.size⟩);have HI3:=hid (hI.out.keep (AA.of_below (S:=Any) hb3) fun _ _=>trivial);have Bo:=hid (hS.out.below hb3);obtain⟨vx,fD⟩:∃vx,vx=Value.slice (some ⟨g3,0,none⟩) (ints (AJ.one T)).length c3:=⟨_,rfl⟩;rw[←fD]at Ul ⊢;clear ho3 hb3 p0 p1 p2 hpl fD hI hS;go_wp2_with fail;go_loopw [8,9] (fun xv jv wq=>∃j:Nat,i≤j∧j≤n∧jv= .int .i64 (j:Int)∧Hid (Xr T w1.heap.size wq xv)∧Hid (It T n w1.heap.size wq vI)∧Hid (Sr g a len cap w1 wq)) (fun _ jv _=>n-(intOf jv).toNat);case atStart=>exact⟨i,Ap _,by omega,rfl,Ul,HI3,Bo⟩
   case round=>
    clear Ul HI3 Bo;obtain⟨j,hij,hj,rfl,Xu,hI,hS⟩:=hrel;rename World=>wq;by_cases hjt:j<n
    ·have hkj:(j:Int)<(n:Int):=by omega
     have Ww:(0:Int)≤(j:Int):=by omega
     obtain⟨⟨p0,p1,p2⟩,-⟩:=AO (Dj.out _ hS.out).1;have hpl:=(Dj.out _ hS.out).2;obtain⟨q,hq2,SI,b,o,e,hbg,-, hbl,hcq⟩:=J4.out _ hS.out j hjt;go_upto_if 44 with(go_at_call 52;subst e;refine(Ja _ g a len cap w1 _ hS.out).mono ?_;rintro e w4 ⟨r,rfl,hr,Fw⟩;have BR:=hid (hS.out.tr Fw);have Xv:=hid (Xu.out.keep (kg Fw.2.2) fun k hk e=>by have:=Cs.out;omega);have HI4:=hid (hI.out.keep (kg Fw.2.2) fun k hk e=>by have:=Cs.out;omega);have AI0:=((kg Fw.2.2).cell (o:=o+j) hbg hbl).trans hcq;have AI1:=Ad hbl Fw.2.2.size;clear Fw hcq hbl);have Ur:r≤7:=by omega
     clear hr p0 p1 p2 hpl Xu hI hS;obtain⟨⟨p0,p1,p2⟩,-⟩:=AO (Dj.out _ BR.out).1;have hpl:=(Dj.out _ BR.out).2;go_cut [8,10] (fun x v W=>∃kk:Nat,kk≤100∧v= .int .i64 (kk:Int)∧Hid (Xr T w1.heap.size W x)∧Hid (It T n w1.heap.size W vI)∧Hid (Sr g a len cap w1 W));case first=>
      by_cases hji:j=i
      ·subst hji;have hw1:IntKind.i64.wrap ((q:Int)-1)=(q:Int)-1:=AY _ (by omega);go_wp2_with (go_at_call 52;refine(Ja _ g a len cap w1 _ BR.out).mono ?_;rintro e w5 ⟨r5,rfl,Ll,hS5⟩;have Bi:=hid (BR.out.tr hS5);have M6:=hid (Xv.out.keep (kg hS5.2.2) fun k hk e=>by have:=Cs.out;omega);have JI:=hid (HI4.out.keep (kg hS5.2.2) fun k hk e=>by have:=Cs.out;omega);have ALK:r5≤7:=(by omega);have hw2:IntKind.i64.wrap (1+(r5:Int))=1+(r5:Int):=(AY _ (by omega));clear hS5 Ll);go_meet;exact⟨1+r5,by omega,by rw[Int.natCast_add];rfl,M6,JI,Bi⟩
      ·have ALM:((j:Int)==(i:Int))=false:=JG.2 (by omega);go_wp2_with fail;go_meet;exact⟨r,by omega,rfl,Xv,HI4,BR⟩
     case rest=>
      obtain⟨kk,hkk,rfl,M6,JI,Bi⟩:=hcut;rename World=>w5;clear AI0 AI1 p0 p1 p2 hpl Xv HI4 BR Ur;obtain⟨⟨p0,p1,p2⟩,-⟩:=AO (Dj.out _ Bi.out).1;have hpl:=(Dj.out _ Bi.out).2;obtain⟨y,hy,hoy⟩:=M6.out;have HY:=hid (And.intro hy (hoy.sl.mono (S':=Any) fun _ _=>trivial));have nK:=hid (fun(W:World) (hk:AA Any w5 W)=>FQ.out w5 W Bi.out hk);clear hy hoy M6;go_upto_region 13 with fail;go_region_held3 (fun w'=>(∀b o,b<w5.heap.size→w'.cell? ⟨b,o,none⟩=w5.cell? ⟨b,o,none⟩)∧AA (fun _=>True) w5 w')
       (first|exact Aj (by repeat(first|exact AB.drew|exact AA.refl _ _|refine AA.trans ?_ (AA.of_below (by assumption)))))
       (first|(go_at_call 92;refine(HMU.out _ _ v7 y z (nK.out _ (by repeat(first|exact AB.drew|exact AA.refl _ _|refine AA.trans ?_ (AA.of_below (by assumption))))) (HY.out.2.keep (by repeat(first|exact AB.drew|exact AA.refl _ _|refine AA.trans ?_ (AA.of_below (by assumption))))) ((hoz.sl.mono (S':=Any) fun _ _=>trivial).keep (by repeat(first|exact AB.drew|exact AA.refl _ _|refine AA.trans ?_ (AA.of_below (by assumption))))) HY.out.1 hz).mono ?_;rintro e w8 ⟨v8,rfl,fE,CP⟩)|(go_at_call 93;refine(Cy.out _ v6 _ kk (by omega) (nK.out _ (by repeat(first|exact AB.drew|exact AA.refl _ _|refine AA.trans ?_ (AA.of_below (by assumption))))) (hs6.keep (by repeat(first|exact AB.drew|exact AA.refl _ _|refine AA.trans ?_ (AA.of_below (by assumption))))) (Lf.out.2.2.2 j)).mono ?_;rintro e w7 ⟨v7,rfl,⟨z,hz,hoz⟩,Bd⟩)|(go_at_call 94;refine(rR.out _ j hjt).mono ?_;rintro e w6 ⟨v6,rfl,hs6,hb6⟩))
      have hs7:w1.heap.size≤w7.heap.size:=Ab Bi.out.2.2.size (show AA Any w5 w7 from(by repeat(first|exact AB.drew|exact AA.refl _ _|refine AA.trans ?_ (AA.of_below (by assumption))))).size;have rT:Below w5.heap.size w5 w8:=(by repeat(first|exact Ag _ _|exact AR.drew|refine LH ?_ AQ (by assumption)));have Dv:=hid (show Xr T w1.heap.size w8 v8 from by obtain⟨y',h1,h2⟩:=fE;exact⟨y',h1,EX h2 (by simpa using hs7)⟩);have HI8:=hid (JI.out.keep (AA.of_below (S:=Any) rT) fun _ _=>trivial);have EL:=hid (Bi.out.below rT);clear rT hs7 fE hb6 Bd CP hs6 hoz hz nK HY JI Bi;go_wp2_with fail;go_roundw;case rel=>exact⟨j+1,by omega,by omega,by go_num,Dv,HI8,EL⟩
      case measure=>simp[intOf];omega
    ·obtain rfl:n=j:=by omega
     have hjn:¬(n:Int)<(n:Int):=by omega
     obtain⟨ax,cx,hxe⟩:=Xu.out.form eu.out;subst hxe;obtain⟨gI,cI,cur,rfl,hh,hBI,hlI,hcI⟩:=hI.out.form (by omega);obtain⟨uI,huI⟩:=hcI i hlt;obtain⟨k1,k2,k3⟩:=KN hh huI;have Xw:=hid (hI.out.set (k:=i) Xu.out (by have:=eu.out;omega));have Ac:=hid (hS.out.set HX.out.s (i:=i) hBI (.slice ax n cx));clear hh hcI huI hI Xu hS;go_wp2_with fail;go_roundw;case rel=>exact⟨i+1,by omega,by go_num,Xw,Ac⟩
     case measure=>simp[intOf];omega
  ·obtain rfl:n=i:=by omega
   have hnl:¬(n:Int)<(n:Int):=by omega
   obtain⟨⟨p0,p1,p2⟩,-⟩:=AO (Dj.out wr hS.out).1;have hpl:=(Dj.out wr hS.out).2;have hmk:=fun W=>mkT z fB W;go_upto_region 16 with(go_at_call 43;refine(mD.out _ hS.out).mono ?_;rintro e w3 ⟨rfl,hb3⟩);obtain⟨gt,hgt⟩:∃gt,w3.heap.size=gt:=⟨_,rfl⟩;obtain⟨w4,hw4⟩:∃w4,w4=w3.alloc (.cells (madeCells #[.slice none 0 0] z) 24):=⟨_,rfl⟩;rw[←hw4,hgt];have CB:=hid (show Below wr.heap.size wr w4 by rw[hw4];exact hb3.alloc hb3.size _);have HT4:=hid (show A2 w1.heap.size w4 z (.slice (some ⟨gt,0,none⟩) z z) by rw[hw4,←hgt];exact AHv _ z fB w3 (Ab hS.out.2.2.size hb3.size));obtain⟨X,SK,hXE,hXs⟩:=(hI.out.keep (AA.of_below (S:=Any) hb3) fun _ _=>trivial).sl;have KD:=hid (And.intro SK hXE);have HI4:=hid (show AV (fun k=>k<gt) w4 vI (X.map ints) by rw[hw4];have:=Hf.AV.Gh hXs;rw[hgt]at this;exact this.keep (AB.alloc _));have QW:=hid (show w1.heap.size≤gt by rw[←hgt];exact Ab hS.out.2.2.size hb3.size);have BR:=hid (hS.out.below CB.out);clear SK hXE hXs hw4 hgt hb3 hmk p0 p1 p2 hpl hI hS CB hlt hi;go_wp2_with fail;go_loopw [12] (fun tv wr=>∃t:Nat,t≤z∧tv= .int .i64 (t:Int)∧Hid (A2 w1.heap.size wr z (.slice (some ⟨gt,0,none⟩) z z))∧Hid (AV (fun k=>k<gt) wr vI (X.map ints))∧Hid (Sr g a len cap w1 wr)) (fun tv _=>z-(intOf tv).toNat);case atStart=>exact⟨0,AU _,rfl,HT4,HI4,BR⟩
   case round=>
    clear HT4 HI4 BR;obtain⟨t,ht,rfl,hT2,hI,hS⟩:=hrel;rename World=>wq;obtain⟨⟨p0,p1,p2⟩,-⟩:=AO (Dj.out wq hS.out).1;have hpl:=(Dj.out wq hS.out).2;go_upto_if 73 with(go_at_call 43;refine(mD.out _ hS.out).mono ?_;rintro e w5 ⟨rfl,hb5⟩;have AZ:=hid hb5;clear hb5);have H9:=hid ((Bh.keep (AA.of_below (S:=Any) AZ.out) fun _ _=>trivial).two _ _ hT2.out);have JI:=hid (hI.out.keep (AA.of_below AZ.out));have Bi:=hid (hS.out.below AZ.out);clear p0 p1 p2 hpl hT2 hI hS AZ;obtain⟨⟨p0,p1,p2⟩,-⟩:=AO (Dj.out w5 Bi.out).1;have hpl:=(Dj.out w5 Bi.out).2;by_cases htz:t<z
    ·have hkt:(t:Int)<(z:Int):=by omega
     go_upto_region 20 with(go_at_call 46;refine(HAT.out _ Bi.out t (by omega)).mono ?_;rintro e w6 ⟨ge,ce,rfl,Al,hb6⟩);have hle:(ints (at_ T t)).length=n:=by rw[A7,TQ,eu.out]
     rw[hle]at Al ⊢;have QY:=hid (show AL Any w6 (.slice (some ⟨ge,0,none⟩) n ce) (ints (at_ T t)) from by
      have:=(Own.sl Al).mono (S':=Any) fun _ _=>trivial;exact this)
     have HA6:=hid (show A1 w1.heap.size w6 (.slice (some ⟨ge,0,none⟩) n ce) from⟨n,by omega,R1.mono (show R1 w5.heap.size w6 n (.slice (some ⟨ge,0,none⟩) n ce) from⟨_,hle,by have h:=Al;unfold Own at h;rw[hle]at h;exact h⟩) Bi.out.2.2.size⟩);have rU:=hid ((Bh.keep (AA.of_below (S:=Any) hb6) fun _ _=>trivial).two _ _ H9.out);have Xw:=hid (JI.out.keep (AA.of_below hb6));have Ac:=hid (Bi.out.below hb6);have nL:=hid (fun(W:World) (hk:AA Any w6 W)=>FQ.out w6 W Ac.out hk);have ACE:=hid (Xw.out.mono (S':=Any) fun _ _=>trivial);clear Al hb6 hle p0 p1 p2 hpl H9 JI Bi;obtain⟨⟨p0,p1,p2⟩,-⟩:=AO (Dj.out w6 Ac.out).1;have hpl:=(Dj.out w6 Ac.out).2;have hne:¬g0=gt:=by have h1:=HX.out.s1;have h2:=QW.out;omega
     go_region_held3 (fun w'=>(∀b o,b<w6.heap.size→¬b=gt→w'.cell? ⟨b,o,none⟩=w6.cell? ⟨b,o,none⟩)∧AA (fun k=>k≠gt) w6 w')
      (first|exact KO (by repeat(first|exact AB.drew|exact AA.refl _ _|refine AA.setCell ?_ (by simp) _|refine AA.trans ?_ (AA.of_below (by assumption)))))
      (first|(go_at_call 80;refine(fA.out _ v7 y (nL.out _ (by repeat(first|exact AB.drew|exact AA.refl _ _|refine AA.trans ?_ (AA.of_below (by assumption))))) ((hoy.sl.mono (S':=Any) fun _ _=>trivial).keep (by repeat(first|exact AB.drew|exact AA.refl _ _|refine AA.trans ?_ (AA.of_below (by assumption))))) hy).mono ?_;rintro e w8 ⟨q,rfl,hq,CP⟩;have K8:AA Any w6 w8:=(by repeat(first|exact AB.drew|exact AA.refl _ _|refine AA.trans ?_ (AA.of_below (by assumption))));obtain⟨cur,a',n',c',k1,k2,-, -, -⟩:=A2.slot ((Bh.keep (B:=w1.heap.size) K8 fun _ _=>trivial).two _ _ rU.out) hq;obtain⟨s1,s2,s3⟩:=KN k1 k2;have hqi:(q:Int)<(z:Int):=(by omega);have Wx:(0:Int)≤(q:Int):=(by omega))|(go_at_call 95;refine(Uq.out _ _ _ X _ (nL.out _ (by repeat(first|exact AB.drew|exact AA.refl _ _|refine AA.trans ?_ (AA.of_below (by assumption))))) (ACE.out.keep (by repeat(first|exact AB.drew|exact AA.refl _ _|refine AA.trans ?_ (AA.of_below (by assumption))))) KD.out.1 KD.out.2 (QY.out.keep (by repeat(first|exact AB.drew|exact AA.refl _ _|refine AA.trans ?_ (AA.of_below (by assumption))))) (HAE.out t)).mono ?_;rintro e w7 ⟨v7,rfl,⟨y,hy,hoy⟩,Bd⟩))
     rename_i hHd;clear hHd;have h68:Below w6.heap.size w6 w8:=(by repeat(first|exact Ag _ _|exact AR.drew|refine LH ?_ AQ (by assumption)));have t9:=(Bh.keep (B:=w1.heap.size) K8 fun _ _=>trivial).trans (Bh.set2 (i:=q) k1 ((Bh.keep K8 fun _ _=>trivial).one _ HA6.out));have Us:=hid (t9.two _ _ rU.out);have Ut:=hid ((Xw.out.keep (AA.of_below h68)).keep ((AA.refl _ w8).setCell (p:=⟨gt,q,none⟩) (by simp) (.slice (some ⟨ge,0,none⟩) n ce)));have EU:=hid ((Ac.out.below h68).set HX.out.s (i:=q) QW.out (.slice (some ⟨ge,0,none⟩) n ce));clear t9 h68 K8 k1 k2 s1 s2 s3 hqi Wx hq hy hoy Bd CP rU Xw Ac nL ACE HA6 QY p0 p1 p2 hpl;go_wp2_with fail;go_roundw;case rel=>exact⟨t+1,by omega,by go_num,Us,Ut,EU⟩
     case measure=>simp[intOf];omega
    ·have hkt:¬(t:Int)<(z:Int):=by omega
     have Ip:=hid (Tn n (by omega) (ints (Bf.Fg T)) (by rw[A7,Bf.TL,eu.out]) (.slice aO n cO) w5 (by have:=(FQ.out w5 w5 Bi.out AB).os;rwa[Ih.out]at this));go_upto_region 22 with(go_at_call 96;refine Ip.out.mono ?_;rintro e w6 ⟨x1,y1,x2,y2,x3,y3,rfl,Fx,hb6⟩);obtain⟨gq,Iq⟩:∃gq,w6.heap.size=gq:=⟨_,rfl⟩;obtain⟨w7,hw7⟩:∃w7,w7=w6.alloc (.cells #[.slice x1 n y1,.slice x2 n y2,.slice x3 n y3] 28):=⟨_,rfl⟩;rw[←hw7,Iq];have Bd:Below w5.heap.size w5 w7:=by rw[hw7];exact hb6.alloc hb6.size _
     have Uu:=hid (show QX w5.heap.size n gq w7 (.slice x1 n y1) (.slice x2 n y2) (.slice x3 n y3) by rw[hw7,←Iq];exact QX.of (by omega) (KJ Fx AQ hb6.size));have HT7:=hid ((Bh.keep (AA.of_below (S:=Any) Bd) fun _ _=>trivial).two _ _ H9.out);have HI7:=hid (JI.out.keep (AA.of_below Bd));have EB:=hid (Bi.out.below Bd);have Xx:=hid (show w5.heap.size≤w7.heap.size from Bd.size);have O7:=hid (show w1.heap.size≤w5.heap.size from Bi.out.2.2.size);have QZ:=hid (show gt<w5.heap.size from by
      obtain⟨cur,_,_,_,k1,_⟩:=A2.slot (i:=0) H9.out (by have:=F8 hT;have:=HZ.out;omega);exact(BX.1 k1).1)
     have HQG:=hid (show w5.heap.size≤gq from Uu.out.2.1);have hne0:¬gq=g0+1:=by have h1:=HX.out.s1;have h2:=HQG.out;have h3:=O7.out;omega
     clear Fx hb6 Bd Iq hw7 Ip p0 p1 p2 hpl H9 JI Bi ht hkt htz;go_wp2_with fail;go_loopw [15] (fun iv wr=>∃i:Nat,i≤n∧iv= .int .i64 (i:Int)∧Hid (QX w5.heap.size n gq wr (.slice x1 n y1) (.slice x2 n y2) (.slice x3 n y3))∧Hid (A2 w1.heap.size wr z (.slice (some ⟨gt,0,none⟩) z z))∧Hid (AV (fun k=>k<gt) wr vI (X.map ints))∧Hid (Sr g a len cap w1 wr)∧Hid (w5.heap.size≤wr.heap.size)) (fun iv _=>n-(intOf iv).toNat);case atStart=>exact⟨0,AU _,rfl,Uu,HT7,HI7,EB,Xx⟩
     case round=>
      clear Uu HT7 HI7 EB Xx;obtain⟨i,hi,rfl,HQ,HT,HI,HS,GL⟩:=hrel;rename World=>wq;obtain⟨⟨d0,d1,d2⟩,-⟩:=AO HQ.out.1;have Ki:=(BX.1 HQ.out.1).1;by_cases hlt:i<n
      ·have hki:(i:Int)<(n:Int):=by omega
       have EP:(0:Int)≤(i:Int):=by omega
       obtain⟨⟨p0,p1,p2⟩,-⟩:=AO (Dj.out wq HS.out).1;have hpl:=(Dj.out wq HS.out).2;obtain⟨gp,rfl⟩:=A2.form HQ.out.2.2.2.1 (by omega);obtain⟨Wy,ap,np,cp,OH,fG,-, -, Jl⟩:=A2.slot HQ.out.2.2.2.1 hlt;obtain⟨pc,-, pl⟩:=KN OH fG;obtain⟨xi,hxi⟩:∃xi,X[i]?=some xi:=⟨_,AP (by rw[KD.out.1];exact hlt)⟩;obtain⟨aI,cI,he,-, -⟩:=Ob HI.out;rw[Ce,KD.out.1]at he;subst he;obtain⟨bI,oI,vi,rfl,rV,rW,rX,QS⟩:=Ej HI.out (show(X.map ints)[i]?=some (ints xi) by simp[hxi]);obtain⟨qo,hq2,SI,bo,oo,he,hbg,hb1,hbl,hcq⟩:=J4.out wq HS.out i hlt;subst he;have bz:¬bI=gp:=by have h1:=QZ.out;omega
       have Wz:¬bo=gp:=by have h1:=O7.out;omega
       have hne5:¬gt=gp:=by have h1:=QZ.out;omega
       have Uv:=hid (And.intro QS (KD.out.2 xi (Ar hxi)));have RX:=hid (fun(W:World) (hk:AA Any wq W)=>FQ.out wq W HS.out hk);have hne1:¬gq=gp:=fun e=>by rw[←e,HQ.out.1]at OH;simp at OH
       have hne2:¬g0=gp:=by have h1:=HX.out.s1;have h2:=O7.out;omega
       have HBP:=hid Jl;have AI2:=hid hxi;clear QS hxi OH fG Jl;go_upto_region 25 with fail;go_region_held3 (fun w'=>(∀b o,b<wq.heap.size→¬b=gp→w'.cell? ⟨b,o,none⟩=wq.cell? ⟨b,o,none⟩)∧AA (fun k=>k≠gp) wq w')
        (first|exact KO (by repeat(first|exact AB.drew|exact AA.refl _ _|refine AA.setCell ?_ (by simp) _|refine AA.trans ?_ (AA.of_below (by assumption)))))
        (first|(go_at_call 97;refine(RO n7 Xy a7 c7 l7 M7 _ ((XA.mono (S':=Any) fun _ _=>trivial).keep (by repeat(first|exact AB.drew|exact AA.refl _ _|refine AA.trans ?_ (AA.of_below (by assumption)))))).mono ?_;rintro e w8 ⟨g8,c8,rfl,Cx,CP⟩;have K8:AA Any wq w8:=(by repeat(first|exact AB.drew|exact AA.refl _ _|refine AA.trans ?_ (AA.of_below (by assumption))));have K7:wq.heap.size≤w7.heap.size:=((by repeat(first|exact AB.drew|exact AA.refl _ _|refine AA.trans ?_ (AA.of_below (by assumption)))):AA Any wq w7).size;obtain⟨AI3,a8,n8,c8',m1,m2,-, -, Kj⟩:=A2.slot ((Bh.keep K8 fun _ _=>trivial).two _ _ HQ.out.2.2.2.1) hlt;obtain⟨r1,r2,r3⟩:=KN m1 m2)|(go_at_call 80;refine(fA.out _ v6 y (RX.out _ (by repeat(first|exact AB.drew|exact AA.refl _ _|refine AA.trans ?_ (AA.of_below (by assumption))))) ((hoy.sl.mono (S':=Any) fun _ _=>trivial).keep (by repeat(first|exact AB.drew|exact AA.refl _ _|refine AA.trans ?_ (AA.of_below (by assumption))))) hy).mono ?_;rintro e w7 ⟨q,rfl,hq,Bd⟩;obtain⟨AI4,a7,n7,c7,k1,k2,Xy,Jm,-⟩:=A2.slot HT.out hq;obtain⟨s1,s2,s3⟩:=KN k1 k2;have hqi:(q:Int)<(z:Int):=(by omega);have Wx:(0:Int)≤(q:Int):=(by omega);obtain⟨l7,M7,XA⟩:=Jm.sl)|(go_at_call 93;refine(Cy.out _ vi _ qo (by omega) (RX.out _ (by repeat(first|exact AB.drew|exact AA.refl _ _|refine AA.trans ?_ (AA.of_below (by assumption))))) ((Uv.out.1.mono (S':=Any) fun _ _=>trivial).keep (by repeat(first|exact AB.drew|exact AA.refl _ _|refine AA.trans ?_ (AA.of_below (by assumption))))) Uv.out.2).mono ?_;rintro e w6 ⟨v6,rfl,⟨y,hy,hoy⟩,hb6⟩))
       rename_i hHd;clear hHd;have M8:Below wq.heap.size wq w8:=(by repeat(first|exact Ag _ _|exact AR.drew|refine LH ?_ AQ (by assumption)));have Qa:A1 w5.heap.size w8 (.slice (some ⟨g8,0,none⟩) n7 c8):=⟨n7,Xy,l7,M7,EX Cx (by first|exact Ab GL.out K7|(simp;exact Ab GL.out K7))⟩;have PS:=hid ((HQ.out.below M8).put (i:=i) m1 Qa);have Us:=hid (((Bh.keep (B:=w1.heap.size) K8 fun _ _=>trivial).trans (Bh.set2 (i:=i) m1 (Qa.mono O7.out))).two _ _ HT.out);have Ut:=hid ((HI.out.keep (AA.of_below M8)).keep ((AA.refl _ w8).setCell (p:=⟨gp,i,none⟩) (by have:=QZ.out;show¬gp<gt;omega) (.slice (some ⟨g8,0,none⟩) n7 c8)));have EU:=hid ((HS.out.below M8).set HX.out.s (i:=i) (Ab O7.out Kj) (.slice (some ⟨g8,0,none⟩) n7 c8));have fH:=hid (show w5.heap.size≤(w8.setCell ⟨gp,i,none⟩ (.slice (some ⟨g8,0,none⟩) n7 c8)).heap.size by have h1:=GL.out;have h2:=M8.size;simp;omega);clear M8 Qa K8 K7 m1 m2 r1 r2 r3 k1 k2 s1 s2 s3 Jm XA M7 hqi Wx hq hy hoy hb6 Bd CP Cx HQ HT HI HS GL d0 d1 d2 Ki p0 p1 p2 hpl hcq hbl rW rX pc pl Kj RX hne1 hne2 bz Wz hne5 rV hb1;have hw1:IntKind.i64.wrap ((i:Int)+1)=(i:Int)+1:=AY _ (by omega);go_wp2_with fail;go_loopw [16] (fun jv wr=>∃k:Nat,i+1+k≤n∧jv= .int .i64 ((i:Int)+1+(k:Int))∧Hid (QX w5.heap.size n gq wr (.slice x1 n y1) (.slice (some ⟨gp,0,none⟩) n y2) (.slice x3 n y3))∧Hid (A2 w1.heap.size wr z (.slice (some ⟨gt,0,none⟩) z z))∧Hid (AV (fun k=>k<gt) wr (.slice (some ⟨bI,oI,none⟩) n cI) (X.map ints))∧Hid (Sr g a len cap w1 wr)∧Hid (w5.heap.size≤wr.heap.size)) (fun jv _=>n-(intOf jv).toNat);case atStart=>exact⟨0,by omega,by simp,PS,Us,Ut,EU,fH⟩
       case round=>
        clear PS Us Ut EU fH;obtain⟨k,hk,rfl,HQ,HT,HI,HS,GL⟩:=hrel;rename World=>wq;obtain⟨⟨d0,d1,d2⟩,-⟩:=AO HQ.out.1;have Ki:=(BX.1 HQ.out.1).1;obtain⟨j,hj⟩:∃j,i+1+k=j:=⟨_,rfl⟩;have hji:(i:Int)+1+(k:Int)=(j:Int):=by omega
        rw[hji];by_cases hjt:j<n
        ·have hkj:(j:Int)<(n:Int):=by omega
         have Ww:(0:Int)≤(j:Int):=by omega
         have hw2:IntKind.i64.wrap ((j:Int)-(i:Int))=(j:Int)-(i:Int):=AY _ (by omega);have hw3:IntKind.i64.wrap ((j:Int)-(i:Int)-1)=(k:Int):=by rw[AY _ (by omega)];omega
         have hw4:IntKind.i64.wrap ((j:Int)+1)=(j:Int)+1:=AY _ (by omega);obtain⟨⟨p0,p1,p2⟩,-⟩:=AO (Dj.out wq HS.out).1;have hpl:=(Dj.out wq HS.out).2;obtain⟨ln,hln⟩:∃ln,n-(i+1)=ln:=⟨_,rfl⟩;obtain⟨gc,gr,yr,rfl,cc,cl,hA2⟩:=A3.slot (i:=i) (k:=ln) (by simp) HQ.out.2.2.2.2 (by simp[hlt,hln]) (by omega);have HA2:=hid hA2;have hkk:k<ln:=by omega
         have ALN:(k:Int)<(ln:Int):=by omega
         have AKx:(0:Int)≤(k:Int):=by omega
         obtain⟨Wy,ap,np,cp,OH,fG,-, -, Jl⟩:=A2.slot hA2 hkk;obtain⟨xj,hxj⟩:∃xj,X[j]?=some xj:=⟨_,AP (by rw[KD.out.1];exact hjt)⟩;obtain⟨rY,rZ,vi,he,rV,rW,rX,QS⟩:=Ej HI.out (show(X.map ints)[i]?=some (ints xi) by simp[AI2.out]);obtain⟨rfl,rfl⟩:bI=rY∧oI=rZ:=by simpa using he
         obtain⟨rY,rZ,vj,he,-, -, jcc,hvj⟩:=Ej HI.out (show(X.map ints)[j]?=some (ints xj) by simp[hxj]);obtain⟨rfl,rfl⟩:bI=rY∧oI=rZ:=by simpa using he
         have RY:¬gc=gr:=fun e=>by
          obtain⟨us3,-, h3,-⟩:=HQ.out.2.2.2.2;obtain⟨b3,ALO,e3,h4,-⟩:=Kg.lJ (by simpa using h3) (show 0<n by omega);obtain rfl:gc=b3:=by simpa using e3
          rw[←e,h4]at OH;simp at OH
         have hne1:¬gq=gr:=fun e=>by rw[←e,HQ.out.1]at OH;simp at OH
         have hne2:¬g0=gr:=by have h1:=HX.out.s1;have h2:=O7.out;omega
         have bz:¬bI=gr:=by have h1:=QZ.out;omega
         have hne5:¬gt=gr:=by have h1:=QZ.out;omega
         have Uv:=hid (And.intro QS Uv.out.2);have HXJ:=hid (And.intro hvj (KD.out.2 xj (Ar hxj)));have RX:=hid (fun(W:World) (hk:AA Any wq W)=>FQ.out wq W HS.out hk);clear QS hvj hxj OH fG Jl hA2 hln he;go_upto_region 29 with fail;go_region_held3 (fun w'=>(∀b o,b<wq.heap.size→¬b=gr→w'.cell? ⟨b,o,none⟩=wq.cell? ⟨b,o,none⟩)∧AA (fun k=>k≠gr) wq w')
          (first|exact KO (by repeat(first|exact AB.drew|exact AA.refl _ _|refine AA.setCell ?_ (by simp) _|refine AA.trans ?_ (AA.of_below (by assumption)))))
          (first|(go_at_call 97;refine(RO n7 Xy a7 c7 l7 M7 _ ((XA.mono (S':=Any) fun _ _=>trivial).keep (by repeat(first|exact AB.drew|exact AA.refl _ _|refine AA.trans ?_ (AA.of_below (by assumption)))))).mono ?_;rintro e w8 ⟨g8,c8,rfl,Cx,CP⟩;have K8:AA Any wq w8:=(by repeat(first|exact AB.drew|exact AA.refl _ _|refine AA.trans ?_ (AA.of_below (by assumption))));have K7:wq.heap.size≤w7.heap.size:=((by repeat(first|exact AB.drew|exact AA.refl _ _|refine AA.trans ?_ (AA.of_below (by assumption)))):AA Any wq w7).size;obtain⟨AI3,a8,n8,c8',m1,m2,-, -, Kj⟩:=A2.slot ((Bh.keep K8 fun _ _=>trivial).two _ _ HA2.out) hkk;obtain⟨r1,r2,r3⟩:=KN m1 m2)|(go_at_call 80;refine(fA.out _ v6 y (RX.out _ (by repeat(first|exact AB.drew|exact AA.refl _ _|refine AA.trans ?_ (AA.of_below (by assumption))))) ((hoy.sl.mono (S':=Any) fun _ _=>trivial).keep (by repeat(first|exact AB.drew|exact AA.refl _ _|refine AA.trans ?_ (AA.of_below (by assumption))))) hy).mono ?_;rintro e w7 ⟨q,rfl,hq,Bd⟩;obtain⟨AI4,a7,n7,c7,k1,k2,Xy,Jm,-⟩:=A2.slot HT.out hq;obtain⟨s1,s2,s3⟩:=KN k1 k2;have hqi:(q:Int)<(z:Int):=(by omega);have Wx:(0:Int)≤(q:Int):=(by omega);obtain⟨l7,M7,XA⟩:=Jm.sl)|(go_at_call 98;refine(Xt.out _ vj vi _ _ (RX.out _ (by repeat(first|exact AB.drew|exact AA.refl _ _|refine AA.trans ?_ (AA.of_below (by assumption))))) ((HXJ.out.1.mono (S':=Any) fun _ _=>trivial).keep (by repeat(first|exact AB.drew|exact AA.refl _ _|refine AA.trans ?_ (AA.of_below (by assumption))))) ((Uv.out.1.mono (S':=Any) fun _ _=>trivial).keep (by repeat(first|exact AB.drew|exact AA.refl _ _|refine AA.trans ?_ (AA.of_below (by assumption))))) HXJ.out.2 Uv.out.2).mono ?_;rintro e w6 ⟨v6,rfl,⟨y,hy,hoy⟩,hb6⟩))
         rename_i hHd;clear hHd;have M8:Below wq.heap.size wq w8:=(by repeat(first|exact Ag _ _|exact AR.drew|refine LH ?_ AQ (by assumption)));have Qa:A1 w5.heap.size w8 (.slice (some ⟨g8,0,none⟩) n7 c8):=⟨n7,Xy,l7,M7,EX Cx (by first|exact Ab GL.out K7|(simp;exact Ab GL.out K7))⟩;have PS:=hid ((HQ.out.below M8).put (i:=k) m1 Qa);have Us:=hid (((Bh.keep (B:=w1.heap.size) K8 fun _ _=>trivial).trans (Bh.set2 (i:=k) m1 (Qa.mono O7.out))).two _ _ HT.out);have Ut:=hid ((HI.out.keep (AA.of_below M8)).keep ((AA.refl _ w8).setCell (p:=⟨gr,k,none⟩) (by have:=QZ.out;show¬gr<gt;omega) (.slice (some ⟨g8,0,none⟩) n7 c8)));have EU:=hid ((HS.out.below M8).set HX.out.s (i:=k) (Ab O7.out Kj) (.slice (some ⟨g8,0,none⟩) n7 c8));have fH:=hid (show w5.heap.size≤(w8.setCell ⟨gr,k,none⟩ (.slice (some ⟨g8,0,none⟩) n7 c8)).heap.size by have h1:=GL.out;have h2:=M8.size;simp;omega);clear M8 Qa K8 K7 m1 m2 r1 r2 r3 k1 k2 s1 s2 s3 Jm XA M7 hqi Wx hq hy hoy hb6 Bd CP Cx HQ HT HI HS GL d0 d1 d2 Ki p0 p1 p2 hpl rW rX jcc cc cl Kj RX hne1 hne2 bz hne5 rV RY;have HJ:=hid (show(j:Int)+1=(i:Int)+1+((k+1:Nat):Int) by omega);have Lh:=hid (show i+1+(k+1)≤n by omega);clear hj hji;go_wp2_with fail;go_roundw;case rel=>exact⟨k+1,Lh.out,Bp (Value.int .i64) HJ.out,PS,Us,Ut,EU,fH⟩
         case measure=>simp[intOf];omega
        ·obtain rfl:n=j:=by omega
         have hjn:¬(n:Int)<(n:Int):=by omega
         clear hj hji;go_wp2_with fail;go_roundw;case rel=>exact⟨i+1,by omega,by go_num,HQ,HT,HI,HS,GL⟩
         case measure=>simp[intOf];omega
      ·obtain rfl:n=i:=by omega
       have hnl:¬(n:Int)<(n:Int):=by omega
       obtain⟨⟨e0,e1,e2⟩,f0,f1,f2⟩:=AO (HX.out.k HS.out).1;have hgr:=(HX.out.k HS.out).2;have rq:=hid (show PA w1.heap.size wq (.slice x1 n y1) (.slice x2 n y2) (.slice x3 n y3) from PA.mono ⟨HQ.out.2.2.1,⟨_,HQ.out.2.2.2.1⟩,_,HQ.out.2.2.2.2⟩ O7.out);go_wp2_with fail;obtain⟨⟨z0,z1,z2⟩,-⟩:=AO (BL (x:=.slice x1 n y1) (y:=.slice x2 n y2) (z:=.slice x3 n y3) (HX.out.k HS.out).1);exact Am (v:=.agg #[.slice x1 n y1,.slice x2 n y2,.slice x3 n y3]) (by simp[results,Tryz.results53,go_sem,z0,z1,z2]) rfl (Kh.out _ _ (Kg.Bx.XB HX.out HS.out rq.out))
end Go.Proofs.YtlmlamcoeegkbaaGreat.DxD

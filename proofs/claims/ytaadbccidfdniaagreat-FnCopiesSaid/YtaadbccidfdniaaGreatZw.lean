import Derived.Test.YtaadbccidfdniaaGreatZ0
import Derived.Test.YtaadbccidfdniaaGreatZv
import Derived.Test.YtaadbccidfdniaaGreatZp
import Derived.Test.YtaadbccidfdniaaGreatZo
import Derived.Test.YtaadbccidfdniaaGreatZm
import Derived.Deep.AppendLies
import Derived.Test.YtaadbccidfdniaaGreatZf
import Derived.Test.YtaadbccidfdniaaGreatZa
import Derived.Test.YtaadbccidfdniaaGreatZn
/-
  Lemmas for the law FnCopies, in short spelling.
-/
open Go.Lib (hid)
set_option linter.unusedVariables false
set_option linter.unusedSimpArgs false
set_option maxRecDepth 100000
set_option maxHeartbeats 40000000
namespace Go.Proofs.YtaadbccidfdniaaGreat.QH
open Go.RowKit Go.Proofs.YtaadbccidfdniaaGreat AB Gen Cu Gf ZQ KS CU FZ jH Yn
abbrev nS (Q:Tw)(dn:List (List Nat)):List (List Nat):=BU (Al dn) Q.length 0
abbrev osq (Q:Tw)(dn:List (List Nat)):List Nat:=Hw (Al dn) (oF Q) Q.length 0
theorem ZT {Q:Tw}(hQ:Wf Q)(hs:Small Q)(hg:AB.Good Q){tl dn im:List (List Nat)}(h:FD Q tl dn 0)(hc:Jo Q im tl):
  kJ Q (nS Q dn) (osq Q dn)∧(∀u∈nS Q dn,El Q u)∧(∀o∈osq Q dn,1≤o)∧sz (BK (osq Q dn))≤sz Q:=by
 have hos:=ry hQ (Al dn) Q.length 0 (by omega);have hget:∀(i:Nat) (u:List Nat),(nS Q dn)[i]?=some u→∃(j:Nat) (L:Lv),Q[j]?=some L∧(osq Q dn)[i]?=some L.o∧A (El Q) fF j u∧fF j u=1:=fun i u hu=>by
  obtain⟨j,_,h2,h3,h4⟩:=qz (o:=oF Q) Q.length 0 i u hu;rw[Cg]at h2;obtain⟨L,hL⟩:∃L,Q[j]?=some L:=⟨_,AO h2⟩;obtain⟨hA,h1⟩:=lead hQ hg h hc h3 h2;exact⟨j,L,hL,by rw[←J7 hL];exact h4,hA,h1⟩
 refine⟨⟨(o8 _ _).symm,Ad (ACc _ _) hs.1,fun i u hu=>?_⟩,fun u hu=>?_,fun o ho=>by have:=(hos.2 o ho).1;omega,by simpa using hos.1⟩
 ·obtain⟨j,L,h1,h2,hA,h3⟩:=hget i u hu;obtain⟨h4,h5⟩:=AJM hA h3;exact⟨j,L,h1,h2,h4,h5,by rw[AZ hA.1];have:=hs.1;omega⟩
 ·obtain⟨i,hi⟩:=GM hu;obtain⟨j,L,_,_,hA,_⟩:=hget i u hi;exact hA.1
theorem AJO {Q:Tw}(hQ:Wf Q)(hs:Small Q)(hg:AB.Good Q){tl dn im:List (List Nat)}(h:FD Q tl dn 0)(hc:Jo Q im tl){t:Nat}(ht:t<sz Q):
  Gn (nk Q (nS Q dn) (osq Q dn)) (sz (BK (osq Q dn))) t=true↔Gen.Gen (mul Q) (AB.one Q) im (at_ Q t):=by
 have G:=BO hQ hg;have ES:=(ZT hQ hs hg h hc).2.1;rw[rA,AKc hQ hg h hc];constructor
 ·rintro⟨k,hk,e⟩;refine⟨k,hk,?_⟩;unfold nk at e;rw[G.Pg ES]at e;rw[←e,J4 hQ (G.ev ES _)]
 ·rintro⟨k,hk,e⟩;refine⟨k,hk,?_⟩;unfold nk;rw[G.Pg ES,e,Q5,Ez ht]
theorem remark (p:Nat→Bool)(n t:Nat)(ht:t<n):Gn (fun k=>(nums p n).getD k 0) (nums p n).length t=p t:=by
 cases h:p t with
 |true=>
  rw[rA];have hm:t∈nums p n:=by unfold nums;rw[Nn];exact⟨JW.2 ht,h⟩
  obtain⟨j,hj,e⟩:=RJ hm;exact⟨j,hj,by rw[BV,AO hj];exact e⟩
 |false=>
  cases h2:Gn (fun k=>(nums p n).getD k 0) (nums p n).length t with
  |false=>rfl
  |true=>
   rw[rA]at h2;obtain⟨j,hj,e⟩:=h2;rw[BV,AO hj]at e;have hm:t∈nums p n:=by
    have:=Ke hj;simp only[Vn]at e;rwa[e]at this
   unfold nums at hm;rw[Nn]at hm;rw[h]at hm;simp at hm
theorem AKd {p:Nat→Bool}{n k t:Nat}(h:(nums p n)[k]?=some t):t<n:=by
 have:=Ak h;unfold nums at this;exact JW.1 (Nn.1 this).1
theorem AP.tail {S:Nat→Prop}{w:World}{g n c:Nat}{rows:List (List Nat)}(h:AP S w (.slice (some ⟨g,0,none⟩) n c) (rows.map ints))(s:Nat)(hs:s≤n):AP S w (.slice (some ⟨g,s,none⟩) (n-s) (c-s)) ((rows.drop s).map ints):=by
 obtain⟨ao,c',e,h2,h3,h0,h4⟩:=h;simp only[EY]at e;obtain⟨rfl,rfl,rfl⟩:=e;rw[Bh]at *;refine⟨some ⟨g,s,none⟩,c-s,by simp,by simp;omega,by omega,by simp,fun i x hx=>?_⟩;obtain⟨b,o,e1,e2,e3,u,e4,e5⟩:=h4 (s+i) x (by rw[Bn,Ho]at hx;rw[Bn];exact hx);simp only[Eg,Kj,and_true]at e1;obtain⟨rfl,rfl⟩:=e1;exact⟨g,s,rfl,e2,e3,u,by rw[Cg]at e4;exact e4,e5⟩
end Go.Proofs.YtaadbccidfdniaaGreat.QH
namespace Go.Proofs.YtaadbccidfdniaaGreat.ADG
open Go.RowKit Go.Proofs.YtaadbccidfdniaaGreat AB Gen Cu Gt KS Dr FZ V5
theorem Qt {w wr:World}{a0 a1 a2:Value}{t:TypeId}(hb:Below (w.heap.size+1) (w.alloc (.cells #[a0,a1,a2] t)) wr):
  (wr.cell? ⟨w.heap.size,0,none⟩=some a0∧wr.cell? ⟨w.heap.size,1,none⟩=some a1∧wr.cell? ⟨w.heap.size,2,none⟩=some a2)∧
  AA Any w wr∧Below w.heap.size w wr∧w.heap.size+1≤wr.heap.size:=⟨Cq hb,Dc hb _,Dq hb,by have:=hb.size;simpa using this⟩
def kM (w:World)(e:Ending)(w':World):Prop:=∃v,e= .returned v∧AP Any w' v []∧Below w.heap.size w w'
theorem mk0 (w:World):(Instr.makeSlice 25 (.int .i64 0) (.int .i64 0)).run Tryz.prog w= .ok (.slice (some ⟨w.heap.size,0,none⟩) 0 0) (w.alloc (.cells (madeCells #[.slice none 0 0] 0) 24)):=jf 0 (by omega) w
theorem AKe (w:World)(b o c:Nat)(hc:c≤maxLen):AP Any w (.slice (some ⟨b,o,none⟩) 0 c) []:=⟨_,c,rfl,AU _,hc,fun h=>(by cases h),fun i x hx=>(by simp at hx)⟩
theorem AIA (w:World)(vO vP vC:Value)(aT:Option Addr)(cT:Nat):Calls Tryz.prog 165 #[.agg #[vO,vP,vC],.slice aT 0 cT] w (kM w):=by
 have hmk:=mk0;obtain⟨W0,hW0⟩:∃W0,W0=w.alloc (.cells #[vO,vP,vC] 28):=⟨_,rfl⟩;have HB0:=hid (show Below (w.heap.size+1) (w.alloc (.cells #[vO,vP,vC] 28)) W0 by rw[hW0];exact A7 _ _);have HB1:=hid (show Below (w.heap.size+1) (w.alloc (.cells #[vO,vP,vC] 28)) (W0.alloc (.cells (madeCells #[.slice none 0 0] 0) 24)) from HB0.out.alloc (Qt HB0.out).2.2.2 _);go_enter Tryz.func165,Tryz.ntmps165;go_upto_region 1 with fail;rw[←hW0];clear hW0;obtain⟨g,hg⟩:∃g,W0.heap.size=g:=⟨_,rfl⟩;go_wp2_with fail;go_loopw [6] (fun dv wr=>dv= .int .i64 (-1)∧Hid (Below (w.heap.size+1) (w.alloc (.cells #[vO,vP,vC] 28)) wr)) (fun _ _=>0);case atStart=>exact⟨by first|rfl|simp,HB1⟩
 case round=>
  obtain⟨rfl,hB⟩:=hrel;have hd:decide ((-1:Int)≥0)=false:=by decide
  clear HB1 HB0;have hsB:=(Qt hB.out).2.2.2;go_wp2_with fail;rename World=>wo;have HB2:=hid (hB.out.alloc hsB (.cells #[] 24));go_loopw [9,10] (fun ov iv wr=>(∃b,ov= .slice (some ⟨b,0,none⟩) 0 0)∧iv= .int .i64 0∧Hid (Below (w.heap.size+1) (w.alloc (.cells #[vO,vP,vC] 28)) wr)) (fun _ _ _=>0);case atStart=>exact⟨⟨_,rfl⟩,rfl,HB2⟩
  case round=>
   obtain⟨⟨b,rfl⟩,rfl,hB'⟩:=hrel;have hd0:decide ((0:Int)<0)=false:=by decide
   have HR:=hid (show kM w (.returned (.slice (some ⟨b,0,none⟩) 0 0)) wr from⟨_,rfl,AKe _ _ _ _ (AU _),(Qt hB'.out).2.2.1⟩);clear hB' hB HB2;go_wp2_with fail;go_ret;exact HR.out
theorem AHe (w:World)(vP vC vi:Value)(aO:Option Addr)(cO:Nat)(hi:AP Any w vi []):Calls Tryz.prog 138 #[.agg #[.slice aO 0 cO,vP,vC],vi] w (kM w):=by
 have hmk:=mk0;have HF:=hid (fun W a c=>AIA W (.slice aO 0 cO) vP vC a c);have HI:=hid hi;have HOW:=hid (fun W (h:AP Any W vi [])=>Oe.X5 W vi [] h (by simp) (by simp));obtain⟨aI,cI,hvi,_,hmI,_,_⟩:=hi;simp only[List.length_nil]at hvi;subst hvi;obtain⟨W0,hW0⟩:∃W0,W0=w.alloc (.cells #[.slice aO 0 cO,vP,vC] 28):=⟨_,rfl⟩;have HB0:=hid (show Below (w.heap.size+1) (w.alloc (.cells #[.slice aO 0 cO,vP,vC] 28)) W0 by rw[hW0];exact A7 _ _);have HB1:=hid (show Below (w.heap.size+1) (w.alloc (.cells #[.slice aO 0 cO,vP,vC] 28)) (W0.alloc (.cells (madeCells #[.slice none 0 0] 0) 24)) from HB0.out.alloc (Qt HB0.out).2.2.2 _);have dG:=hid (HOW.out _ (AP.keep HI.out (Qt HB1.out).2.1));clear hmI HOW;go_enter Tryz.func138,Tryz.ntmps138;go_upto_region 1 with fail;rw[←hW0];clear hW0;obtain⟨⟨e0,e1,e2⟩,hk0,hbw0,hs0⟩:=Qt HB0.out;go_wp2_with fail;refine dG.out.mono ?_;rintro e w1 ⟨v1,rfl,ho1,hb1⟩;obtain⟨a1,c1,hv1,_,_⟩:=ho1.form;simp only[List.length_nil]at hv1;subst hv1;have HB2:=hid (HB1.out.trans (hb1.mono (Qt HB1.out).2.2.2));clear ho1 hb1 dG e0 e1 e2 hk0 hbw0 hs0 HB0 HB1;go_wp2_with fail;go_loopw [7] (fun qv wr=>(∃a c,qv= .slice a 0 c)∧Hid (Below (w.heap.size+1) (w.alloc (.cells #[.slice aO 0 cO,vP,vC] 28)) wr)) (fun _ _=>0);case atStart=>exact⟨⟨_,_,rfl⟩,HB2⟩
 case round=>
  obtain⟨⟨a,c,rfl⟩,hB⟩:=hrel;have hd0:decide ((0:Int)>0)=false:=by decide
  obtain⟨⟨e0,e1,e2⟩,-, -, hsB⟩:=Qt hB.out;have hw0:w.heap.size<wr.heap.size:=by omega
  clear HB2;go_wp2_with fail;refine(HF.out _ _ _).mono ?_;rintro e w3 ⟨v3,rfl,h3,hb3⟩;have HR:=hid (show kM w (.returned v3) w3 from⟨v3,rfl,h3,(Qt (hB.out.trans (hb3.mono hsB))).2.2.1⟩);clear h3 hb3;go_wp2_with fail;go_ret;exact HR.out
theorem AHf (w:World)(vO vP vC vi:Value)(hP:BC Any w vO vP vC (AQ []))(hi:AP Any w vi []):Calls Tryz.prog 138 #[.agg #[vO,vP,vC],vi] w (iK [] [] w):=by
 obtain⟨aO,cO,aP,cP,aC,cC,rfl,rfl,rfl,_,_,_⟩:=hP.open;refine(AHe w _ _ vi aO cO hi).mono ?_;rintro e w' ⟨v,rfl,h,hb⟩;have htab:Al ([]:List (List Nat))=fun _=>none:=VF 0;refine⟨v,[],[],rfl,?_,rfl,fun d=>⟨fun _=>⟨fun h=>h,fun y hy=>by rw[htab]at hy;cases hy⟩,fun h=>absurd h (CO _)⟩,h,hb⟩;have F:=Em (T:=[]) trivial trivial;have:=JZ.Ze F (im:=[]) (fun c hc=>absurd hc (by simp)) (JZ.start F (fun c hc=>absurd hc (by simp)));rw[←htab]at this;exact this
end Go.Proofs.YtaadbccidfdniaaGreat.ADG
namespace Go.Proofs.YtaadbccidfdniaaGreat.RH
open Go.RowKit Go.Proofs.YtaadbccidfdniaaGreat AB CU Cu Gf ZQ JU Dr Kc Nk Hg Pz Oe jH Yn
theorem bx {w wr:World}{a0 a1 a2 b0 b1 b2:Value}{t t2:TypeId}(hb:Below (w.heap.size+2) ((w.alloc (.cells #[a0,a1,a2] t)).alloc (.cells #[b0,b1,b2] t2)) wr):
  (wr.cell? ⟨w.heap.size,0,none⟩=some a0∧wr.cell? ⟨w.heap.size,1,none⟩=some a1∧wr.cell? ⟨w.heap.size,2,none⟩=some a2)∧
  (wr.cell? ⟨w.heap.size+1,0,none⟩=some b0∧wr.cell? ⟨w.heap.size+1,1,none⟩=some b1∧wr.cell? ⟨w.heap.size+1,2,none⟩=some b2)∧
  AA (fun _=>True) w wr∧Below w.heap.size w wr∧w.heap.size+2≤wr.heap.size:=by
 obtain⟨h1,h2,h3,h4,h5⟩:=jB.Il hb;exact⟨h1,⟨(Ah _ _ _ _ _ (0,0) h2).trans rfl,(Ah _ _ _ _ _ (0,0) h2).trans rfl,(Ah _ _ _ _ _ (0,0) h2).trans rfl⟩,h3,h4,h5⟩
theorem Own2.put {e2 e:TypeId}(hne:e≠e2){B:Nat}{w:World}{g c:Nat}{rows:List (List Nat)}(h:Own2 e2 e B w (.slice (some ⟨g,0,none⟩) rows.length c) rows)(k:Nat){u:Value}{r:List Nat}(hu:Ck e B w u r):
  Own2 e2 e B (w.setCell ⟨g,k,none⟩ u) (.slice (some ⟨g,0,none⟩) rows.length c) (rows.set k r):=by
 obtain⟨us,h1,h2,h3⟩:=h;have hs:=Q8 h1 k u;have hkp:∀v r,Ck e B w v r→Ck e B (w.setCell ⟨g,k,none⟩ u) v r:=fun v r hr=>⟨hr.1,Np hr.2 hs.2 (LF hr.2 h1 hne)⟩;refine⟨us.set k u,by simpa using hs.1,by simp[h2],fun i r' v hr hv=>?_⟩;by_cases hi:i=k
 ·subst hi;have hil:i<rows.length:=by
   have:=(Ag.1 hr).1;simpa using this
  rw[P7 hil]at hr;rw[P7 (by omega)]at hv;injection hr with hr;injection hv with hv;subst hr;subst hv;exact hkp _ _ hu
 ·rw[Q9 (fun h=>hi h.symm)]at hr hv;exact hkp _ _ (h3 i r' v hr hv)
theorem Own2.AOV {e2 e:TypeId}(hne:e≠e2){B n:Nat}{w:World}{g c:Nat}{rows:List (List Nat)}(hn:rows.length=n)(h:Own2 e2 e B w (.slice (some ⟨g,0,none⟩) n c) rows)(k:Nat){u:Value}{r:List Nat}(hu:Ck e B w u r):
  Own2 e2 e B (w.setCell ⟨g,k,none⟩ u) (.slice (some ⟨g,0,none⟩) n c) (rows.set k r):=by
 subst hn;exact Own2.put hne h k hu
theorem Own2.AD2 {e2 e:TypeId}{B n:Nat}{w:World}{g c:Nat}{rows:List (List Nat)}(h:Own2 e2 e B w (.slice (some ⟨g,0,none⟩) n c) rows){k:Nat}(hk:k<rows.length):(∃u,w.cell? ⟨g,k,none⟩=some u)∧w.frozen? ⟨g,k,none⟩=false:=by
 obtain⟨us,h1,h2,h3⟩:=h;have hn:n=rows.length:=by
  rcases h1.2 with⟨h',_⟩|⟨g',cap,cur,h',_⟩
  ·cases h'
  ·simp only[EY]at h';exact h'.2.1
 subst hn;obtain⟨u,hu⟩:∃u,us[k]?=some u:=⟨_,AO (by omega)⟩;exact⟨⟨u,by rw[Ig h1 k (by omega)];exact hu⟩,YR h1 k⟩
theorem AL5 {B:Nat}{wr w':World}(hB:B≤wr.heap.size)(h:AA (fun k=>k<B) wr w'):(∀b o,b<B→w'.cell? ⟨b,o,none⟩=wr.cell? ⟨b,o,none⟩)∧AA (fun k=>k<B) wr w':=⟨fun b o hb=>h.cell hb (Ai hb hB),h⟩
def FT (Q:Tw)(L:Lv)(im:List (List Nat))(x:List Nat)(m:Nat):Prop:=
 npow (mul Q) (AB.one Q) x L.o=ev (mul Q) (AB.one Q) im L.w∧∀k,k<m→∀y,L.c[k]?=some y→mul Q (im.getD k (AB.one Q)) x=mul Q x (ev (mul Q) (AB.one Q) im y)
theorem ALK {Q:Tw}{L:Lv}{im:List (List Nat)}{x:List Nat}:FT Q L im x L.c.length↔J8 Q L im x:=
 ⟨fun h=>⟨h.1,fun k y hy=>h.2 k (Ag.1 hy).1 y hy⟩,fun h=>⟨h.1,fun k _ y hy=>h.2 k y hy⟩⟩
theorem AL6 {Q:Tw}{L:Lv}{im:List (List Nat)}{x:List Nat}{m:Nat}(h:J8 Q L im x):FT Q L im x m:=⟨h.1,fun k _ y hy=>h.2 k y hy⟩
theorem AKf {Q:Tw}{L:Lv}{im:List (List Nat)}{x y:List Nat}{m:Nat}(hy:L.c[m]?=some y):FT Q L im x (m+1)↔FT Q L im x m∧mul Q (im.getD m (AB.one Q)) x=mul Q x (ev (mul Q) (AB.one Q) im y):=by
 constructor
 ·intro h;exact⟨⟨h.1,fun k hk=>h.2 k (by omega)⟩,h.2 m (by omega) y hy⟩
 ·rintro⟨h1,h2⟩;refine⟨h1.1,fun k hk z hz=>?_⟩;rcases EB.1 hk with h|h
  ·exact h1.2 k h z hz
  ·subst h;rw[hy]at hz;injection hz with hz;subst hz;exact h2
def kn (Q:Tw)(Ae:List (List Nat))(k:Nat):List (List Nat):=List.replicate k (AB.one Q)++Ae.drop k
theorem pW {Q:Tw}{Ae:List (List Nat)}{k:Nat}(h:k≤Ae.length):(kn Q Ae k).length=Ae.length:=by simp[kn];omega
theorem ALM {Q:Tw}{Ae:List (List Nat)}{k:Nat}(h:k<Ae.length):(kn Q Ae k).set k (AB.one Q)=kn Q Ae (k+1):=by
 unfold kn;rw[List.set_append_right _ _ (by simp),show k-(List.replicate k (AB.one Q)).length=0 by simp,EX h,CE,Pp,Ih];rfl
theorem AL7 {Q:Tw}(hQ:Wf Q){Ae:List (List Nat)}(h:∀x∈Ae,El Q x)(k:Nat):∀x∈kn Q Ae k,El Q x:=fun x hx=>by
 rcases GY.1 hx with h1|h1
 ·rw[(Kh.1 h1).2];exact D5 hQ
 ·exact h x (KA h1)
theorem ACd {Q:Tw}{Ae:List (List Nat)}{k:Nat}:(kn Q Ae k).drop k=Ae.drop k:=by simp[kn]
open Classical in
noncomputable def may (Q:Tw)(L:Lv)(im:List (List Nat))(t:Nat):Bool:=decide (¬Gen.Gen (mul Q) (AB.one Q) im (at_ Q t)∧J8 Q L im (at_ Q t))
open Classical in
theorem iA {Q:Tw}{L:Lv}{im:List (List Nat)}{t:Nat}:may Q L im t=true↔¬Gen.Gen (mul Q) (AB.one Q) im (at_ Q t)∧J8 Q L im (at_ Q t):=by
 unfold may;exact Yp
noncomputable def He (Q:Tw)(L:Lv)(im:List (List Nat)):List (List Nat):=(nums (may Q L im) (sz Q)).map (at_ Q)
theorem AHC (T Q:Tw)(hT:Wf T)(CK:Small T)(hQ:Wf Q)(hs:Small Q)(hg:AB.Good Q)(hp:Pr Q)(hz:sz Q≤729)(w:World)(pO pP pC qO qP qC vi:Value)(i:Nat)(L:Lv)(hL:T[i]?=some L)(Ae:List (List Nat))
  (KW:BC Any w pO pP pC (AQ T)) (hPQ:BC Any w qO qP qC (AQ Q)) (hi:AP Any w vi (Ae.map ints)) (hil:Ae.length=T.length) (hie:∀x∈Ae,El Q x) (hq0:0<Q.length∨(Q=[]∧i+1=T.length)):
  Calls Tryz.prog 94 #[.agg #[pO,pP,pC],.agg #[qO,qP,qC],.int .i64 (i:Int),vi] w (TZ 24 2 (He Q L (Ae.drop (i+1))) w):=by
 obtain⟨i0,WY,hz0,hz1,hz2⟩:=Bt Ie;have hiT:i<T.length:=(Ag.1 hL).1;have Sj:=CK.1;obtain⟨aO,cO,aP,cP,aC,cC,rfl,rfl,rfl,Eo,hP1,FC⟩:=KW.open;have IP:=hid KW;have IQ:=hid hPQ;have HI:=hid hi;have Ky:=hid hie;have Jp:=hid hil;have HG:=hid (BO hQ hg);have EN:=hid hL;have PW:=hid (Cm.VN Q);have KQ:=hid hQ;have HOWN:=hid (fun W hv=>X5 W vi Ae hv (by omega) (fun r hr=>by rw[AZ (hie r hr)];have:=hs.1;omega));have WO:=hid (fun W hO=>Cm.gH Q hs.1 W qO qP qC hO);have UX:=hid (fun W vu va us es hP hu ha hl Gj ES hes=>AHz Q hQ hs hg W qO qP qC vu va us es hP hu ha hl Gj ES hes);have AOW:∀x∈Ae.drop (i+1),El Q x:=fun x hx=>hie x (KA hx);have Bv:=hid (fun W hO=>Cm.LJ Q (Cm.Os.of hQ hs hz) W qO qP qC hO);have Ec:=hid (fun W v (hP:BC Any W qO qP qC (AQ Q)) (hi:AP Any W v ((Ae.drop (i+1)).map ints))=>show Calls Tryz.prog 138 #[.agg #[qO,qP,qC],v] W (V5.iK Q (Ae.drop (i+1)) W) from by
  rcases hq0 with h|⟨h1,h2⟩
  ·exact V5.AH1 Q hQ hs hg hp h W qO qP qC v (Ae.drop (i+1)) hP hi AOW (by simp;omega)
  ·subst h1;have h3:Ae.drop (i+1)=[]:=TJ (by omega);rw[h3]at hi ⊢;exact ADG.AHf W qO qP qC v hP hi)
 have AOX:=hid hq0;have Qg:=hid (fun W v tl dn (MQ:FZ.FD Q tl dn 0) (Mr:FZ.Jo Q (Ae.drop (i+1)) tl) hP hu=>AG1 Q hQ hs hg hz W qO qP qC v _ _ hP hu (QH.ZT hQ hs hg MQ Mr).1 (QH.ZT hQ hs hg MQ Mr).2.1 (QH.ZT hQ hs hg MQ Mr).2.2.1 (Ad (QH.ZT hQ hs hg MQ Mr).2.2.2 hz));have KM:=hid (fun tl dn (MQ:FZ.FD Q tl dn 0) (Mr:FZ.Jo Q (Ae.drop (i+1)) tl) t (ht:t<sz Q)=>QH.AJO hQ hs hg MQ Mr ht);have zW:=hid (fun W va x hO hx hE hlt=>Cm.eB Q (Cm.Os.of hQ hs hz) W qO qP qC va x hO hx hE hlt);have AOY:=hid (show L.o≤7 from CK.2 L (Ak hL));have HAT:=hid (fun W q (hq:q≤1000000) hO=>Cm.MZ Q (Cm.Os.of hQ hs hz) (fun L h=>by have:=hs.2 L h;omega) q hq W qO qP qC hO);have jN:=hid (fun W va a K hK hP ha hA=>V4.ny Q hQ hs hg W qO qP qC va a K hK hP ha hA);have AF7:=hid (fun W va vb a b hP ha hb hA hB=>YC Q hQ hs W qO qP qC va vb a b hP ha hb hA hB);have AQS:=ADz (sz Q) hz;obtain⟨WB,zh⟩:∃WB,WB=(w.alloc (.cells #[.slice aO T.length cO,.slice aP T.length cP,.slice aC T.length cC] 28)).alloc (.cells #[qO,qP,qC] 28):=⟨_,rfl⟩;have HB0:=hid (show Below (w.heap.size+2) ((w.alloc (.cells #[.slice aO T.length cO,.slice aP T.length cP,.slice aC T.length cC] 28)).alloc (.cells #[qO,qP,qC] 28)) WB by rw[zh];exact A7 _ _);clear KW hPQ hi hie hil hL hq0;go_enter Tryz.func94,Tryz.ntmps94;go_upto_region 1 with fail;rw[←zh];clear zh;obtain⟨⟨p0,p1,p2⟩,⟨q0,q1,q2⟩,hk,hbw,hsz⟩:=bx HB0.out;go_wp2_with fail;refine(HOWN.out _ (HI.out.keep hk)).mono ?_;rintro e w1 ⟨v1,rfl,ho1,hb1⟩;have DD:=hid (ho1.mono (B':=w.heap.size+2) hsz);have HB1:=hid (HB0.out.trans (hb1.mono hsz));clear ho1 hb1 hk hbw hsz p0 p1 p2 q0 q1 q2 HOWN HI;obtain⟨g1,c1,_,hv1,hgB,AQT,_,_⟩:=DD.out.at (i:=0) (r:=Ae[0]'(by have:=Jp.out;omega)) (by rw[AO]);rw[Jp.out]at hv1;subst hv1;go_wp2_with fail;go_loopw [10] (fun kv wr=>∃k:Nat,k≤i+1∧kv= .int .i64 (k:Int)∧Hid (Own2 24 2 (w.heap.size+2) wr (.slice (some ⟨g1,0,none⟩) T.length c1) (kn Q Ae k))∧Below (w.heap.size+2) ((w.alloc (.cells #[.slice aO T.length cO,.slice aP T.length cP,.slice aC T.length cC] 28)).alloc (.cells #[qO,qP,qC] 28)) wr) (fun kv _=>i+1-(intOf kv).toNat);case atStart=>exact⟨0,AU _,rfl,DD,HB1.out⟩
 case round=>
  obtain⟨k,hk,rfl,hO,hB⟩:=hrel;have zi:=hid hB;obtain⟨⟨p0,p1,p2⟩,⟨q0,q1,q2⟩,hkk,hbw,hsz⟩:=bx hB;have hqb:w.heap.size+1<wr.heap.size:=by omega
  by_cases hlt:k<i+1
  ·have zk:k<Ae.length:=by have:=Jp.out;omega
   have hle:(k:Int)≤(i:Int):=by omega
   have hkn:(k:Int)<(T.length:Int):=by omega
   have hk0:(0:Int)≤(k:Int):=by omega
   have hks:decide ((k:Int)≤(i:Int))=true:=by simp;omega
   have hki:k≤i:=by omega
   have Ry:=hid zk;have NU:=hid (show AL Any wr qO (ints (Cm.Gd Q)) from by
    have h:=(IQ.out.keep hkk).os;rwa[PW.out]at h)
   clear hB hkk hbw zk;go_wp2_with fail;refine(WO.out _ NU.out).mono ?_;rintro e w2 ⟨g2,c2,rfl,ho2,hb2⟩;have EM:=hid (hO.out.of_below hb2);obtain⟨⟨u2,s2⟩,f2⟩:=Own2.AD2 EM.out (k:=k) (by rw[pW (by have:=Ry.out;omega)];exact Ry.out);have HR2:=hid (Ej.row (ho2.mono (B':=w.heap.size+2) hsz));have HB2:=hid (zi.out.trans (hb2.mono hsz));have HN:=hid (show Own2 24 2 (w.heap.size+2) (w2.setCell ⟨g1,k,none⟩ (.slice (some ⟨g2,0,none⟩) (ints (AB.one Q)).length c2)) (.slice (some ⟨g1,0,none⟩) T.length c1) (kn Q Ae (k+1)) from by
    have h:=Own2.AOV (by decide) (by rw[pW (by have:=Ry.out;omega)];exact Jp.out) EM.out k HR2.out;rwa[ALM Ry.out]at h)
   have G6:=hid (HB2.out.setCell (p:=⟨g1,k,none⟩) hgB (.slice (some ⟨g2,0,none⟩) (ints (AB.one Q)).length c2));clear ho2 hb2 hO;go_wp2_with fail;go_roundw;case rel=>exact⟨k+1,by omega,by go_num,HN,G6.out⟩
   case measure=>simp[intOf]<;>omega
  ·obtain rfl:k=i+1:=by omega
   have hle:¬((i+1:Nat):Int)≤(i:Int):=by omega
   have hki:¬i+1≤i:=by omega
   clear hlt DD HB1 WO;go_upto_region 6 with fail;obtain⟨bP,oP,uP,rfl,_,FE,hcP,Et⟩:=IP.out.pow EN.out;obtain⟨bC,oC,a2,c2,rfl,_,hbC,hcC,h21,Ir⟩:=IP.out.Mt EN.out;have hlv:=lvl' hT EN.out;have nT:(kn Q Ae (i+1)).length=T.length:=by rw[pW (by have:=Jp.out;omega)];exact Jp.out
   have hKE:=AL7 KQ.out Ky.out (i+1);have zl:=hid (hO.out.sl.mono (fun _ _=>trivial):AP Any wr (.slice (some ⟨g1,0,none⟩) T.length c1) ((kn Q Ae (i+1)).map ints));have Ms:=hid (IQ.out.keep hkk);have AOZ:=(hkk.cell (b:=bP) (o:=oP+i) trivial FE).trans hcP;have ZU:=(hkk.cell (b:=bC) (o:=oC+i) trivial hbC).trans hcC;have AF8:=hid (AL.keep Et hkk);have Gg:=hid (fun k y (hy:L.c[k]?=some y)=>by
    obtain⟨b2,o2,u,h1,h2,h3,h4,h5⟩:=Ir k y hy;exact(⟨b2,o2,u,h1,Ai h3 hkk.size,(hkk.cell trivial h3).trans h4,AL.keep h5 hkk⟩:∃b2 o2 u,a2=some ⟨b2,o2,none⟩∧b2<wr.heap.size∧wr.cell? ⟨b2,o2+k,none⟩=some u∧AL Any wr u (ints (pad (i+1) y))))
   have hap:∀y,El (T.drop (i+1)) y→(kn Q Ae (i+1)).length≤(pad (i+1) y).length∧(∀a∈pad (i+1) y,a≤1000)∧BX (mul Q) (AB.one Q) (kn Q Ae (i+1)) (pad (i+1) y)=ev (mul Q) (AB.one Q) (Ae.drop (i+1)) y∧El Q (ev (mul Q) (AB.one Q) (Ae.drop (i+1)) y):=fun y hy=>by
    have hdE:∀x∈Ae.drop (i+1),El Q x:=fun x hx=>Ky.out x (KA hx);refine⟨by rw[nT,Bg,AZ hy];simp;omega,fun a ha=>?_,?_,HG.out.ev hdE y⟩
    ·rcases GY.1 ha with h|h
     ·rw[(Kh.1 h).2];omega
     ·obtain⟨j,hj⟩:=GM h;obtain⟨L',hL',hlt⟩:=LP hy hj;have:=CK.2 L' (KA (Ak hL'));omega
    ·rw[o9 _ _ _ _ _ (by rw[nT];omega),ACd,HG.out.Pg hdE]
   have WZ:=hid hap;have I8:=hid hlv;have HKE:=hid hKE;have zm:=hid nT;have wN:w.heap.size<wr.heap.size:=by omega
   have wO:w.heap.size+1<wr.heap.size:=by omega
   have AQU:bP<wr.heap.size:=Ai FE hkk.size;have AOa:bC<wr.heap.size:=Ai hbC hkk.size;have hii:(i:Int)<(T.length:Int):=by omega
   have hi0:(0:Int)≤(i:Int):=by omega
   have A9:=hid hbw;clear hap hlv nT hKE Et Ir hcP hcC hO hB hbw;go_region_held3 (fun w'=>(∀b o,b<wr.heap.size→w'.cell? ⟨b,o,none⟩=wr.cell? ⟨b,o,none⟩)∧AA (fun _=>True) wr w')
    (first|exact Au (by repeat(first|exact AJ.drew|exact AA.refl _ _|refine AA.drewN ?_ _|refine AA.trans ?_ (AA.of_below (by assumption)))))
    (first|(go_at_call 136;refine(UX.out _ (.slice (some ⟨g1,0,none⟩) T.length c1) uP _ _ (Ms.out.keep (by repeat(first|exact AJ.drew|exact AA.refl _ _|exact AJ.alloc _|exact(AJ.alloc _).drew|refine AA.drewN ?_ _|refine AA.trans ?_ (AA.of_below (by assumption))))) (AP.keep zl.out (by repeat(first|exact AJ.drew|exact AA.refl _ _|exact AJ.alloc _|exact(AJ.alloc _).drew|refine AA.drewN ?_ _|refine AA.trans ?_ (AA.of_below (by assumption))))) (AF8.out.keep (by repeat(first|exact AJ.drew|exact AA.refl _ _|exact AJ.alloc _|exact(AJ.alloc _).drew|refine AA.drewN ?_ _|refine AA.trans ?_ (AA.of_below (by assumption))))) (WZ.out L.w I8.out.2.2.2.1).1 (by rw[zm.out];omega) HKE.out (WZ.out L.w I8.out.2.2.2.1).2.1).mono ?_;rintro e w6 ⟨vp,rfl,A8,hb6⟩))
   rw[(WZ.out L.w I8.out.2.2.2.1).2.2.1]at A8;have UG:Below wr.heap.size wr w6:=(by repeat(first|exact A7 _ _|exact AX.drew|refine Below.step ?_ AR (by assumption)));have Sc:=hid (A8.sl.mono (S':=Any) (fun _ _=>trivial));have AF9:=hid UG;have k6:∀b o,b<wr.heap.size→w6.cell? ⟨b,o,none⟩=wr.cell? ⟨b,o,none⟩:=fun b o h=>(AA.of_below (S:=Any) UG).cell trivial h;have hs6:=UG.size;have t0:=(k6 _ 0 wN).trans p0;have t1:=(k6 _ 2 wN).trans p2;have r0:=(k6 _ 0 wO).trans q0;have r1:=(k6 _ 1 wO).trans q1;have r2:=(k6 _ 2 wO).trans q2;have AGA:=(k6 _ _ AOa).trans ZU;have AGB:=hid (Ms.out.keep (AA.of_below UG));have wP:=hid (AP.keep zl.out (AA.of_below UG));have AGC:=hid (fun k y (hy:L.c[k]?=some y)=>by
    obtain⟨b2,o2,u,h1,h3,h4,h5⟩:=Gg.out k y hy;exact(⟨b2,o2,u,h1,Ai h3 hs6,(k6 _ _ h3).trans h4,AL.keep h5 (AA.of_below UG)⟩:∃b2 o2 u,a2=some ⟨b2,o2,none⟩∧b2<w6.heap.size∧w6.cell? ⟨b2,o2+k,none⟩=some u∧AL Any w6 u (ints (pad (i+1) y))))
   have h00:=Fb (base:=w6.heap.size) (e:=24) (size:=1) w6 #[] 0 AR (AU _) rfl;have hwi:IntKind.i64.wrap ((i:Int)+1)=(i:Int)+1:=AY _ (by omega);clear A8 hb6 UG k6 hkk p0 p1 p2 q0 q1 q2 AOZ ZU AF8 Ms zl Gg hle hki;go_wp2_with fail;rename World=>wo;obtain⟨im,him⟩:∃im,im=Ae.drop (i+1):=⟨_,rfl⟩;rw[←him]at Sc WZ Ec Qg KM;have Wd:=hid him;have hiA:i+1≤T.length:=by omega
   clear him;go_loopw [12,13] (fun mv jv wr=>∃m:Nat,m≤L.c.length∧jv= .int .i64 ((i:Int)+1+(m:Int))∧Hid (Own2 24 2 wo.heap.size wr mv ((L.c.take m).map (ev (mul Q) (AB.one Q) im)))∧Below wo.heap.size wo wr) (fun _ jv _=>T.length-(intOf jv).toNat);case atStart=>exact⟨0,AU _,BM (Value.int .i64) (by omega),hid ⟨[],h00,rfl,by simp⟩,AX.alloc AR _⟩
   case round=>
    obtain⟨m,hm,rfl,nU,hb⟩:=hrel;have HBm:=hid hb;have hsm:=hb.size;have k7:∀b o,b<wo.heap.size→wr.cell? ⟨b,o,none⟩=wo.cell? ⟨b,o,none⟩:=fun b o h=>(AA.of_below (S:=Any) hb).cell trivial h;have AGD:w.heap.size<wo.heap.size:=by omega
    have sP:w.heap.size+1<wo.heap.size:=by omega
    have AOb:bC<wo.heap.size:=by omega
    have x0:=(k7 _ 0 AGD).trans t0;clear h00;by_cases hlt:m<L.c.length
    ·have dR:0<Q.length:=by
      rcases AOX.out with h|⟨_,h2⟩
      ·exact h
      ·have:=I8.out.2.1;omega
     obtain⟨y,hy⟩:∃y,L.c[m]?=some y:=⟨_,AO hlt⟩;obtain⟨b2,o2,um,rfl,AFZ,AGE,hum⟩:=AGC.out m y hy;have x1:=(k7 _ 2 AGD).trans t1;have y0:=(k7 _ 0 sP).trans r0;have y1:=(k7 _ 1 sP).trans r1;have y2:=(k7 _ 2 sP).trans r2;have z0:=(k7 _ _ AOb).trans AGA;have z1:=(k7 _ _ AFZ).trans AGE;have Ms:=hid (AGB.out.keep (AA.of_below hb));have ZV:=hid (AP.keep wP.out (AA.of_below hb));have AOc:=hid (AL.keep hum (AA.of_below hb));have EF:=I8.out.2.2.1 y (Ak hy);have HA:=hid (WZ.out y EF);have FN:=hid EF;have Qc:=hid (show(L.c.take (m+1)).map (ev (mul Q) (AB.one Q) im)=(L.c.take m).map (ev (mul Q) (AB.one Q) im)++[ev (mul Q) (AB.one Q) im y] by rw[IJ,hy];simp);have NL:=hid (show((L.c.take m).map (ev (mul Q) (AB.one Q) im)).length=m by simp;omega);obtain⟨Jq,h1,h2,h4⟩:=nU.out;rw[NL.out]at h1;have hgr:∀k,k<wo.heap.size→some k≠Value.ownBlock _:=fun k hk e=>by have:=(Af h1 k e.symm).1;omega
     have G9:=hid (And.intro h1 (And.intro h2 h4));have yA:m≤6:=by have:=I8.out.2.1;omega
     have w1:IntKind.i64.wrap (((i:Int)+1+(m:Int))-(i:Int))=(m:Int)+1:=by rw[AY _ (by omega)];omega
     have w2':IntKind.i64.wrap (((m:Int)+1)-1)=(m:Int):=by rw[AY _ (by omega)];omega
     have w8':IntKind.i64.wrap (m:Int)=(m:Int):=AY _ (by omega);have w4':(m:Int)<(L.c.length:Int):=by omega
     have w5':(0:Int)≤(m:Int):=by omega
     have w9':(i:Int)+1+(m:Int)<(T.length:Int):=by have:=I8.out.2.1;omega
     clear hy hum AGE EF h1 h2 h4 nU k7 hb;go_wp2_with fail;go_region_held3 (fun w'=>(∀b o,b<wo.heap.size→w'.cell? ⟨b,o,none⟩=wr.cell? ⟨b,o,none⟩)∧AA (fun k=>k<wo.heap.size) wr w')
      (first|exact AL5 hsm (by repeat(first|exact AJ.drew|exact AA.refl _ _|refine AA.alloc ?_ _|refine AA.trans ?_ (AA.of_below (by assumption))|refine AA.trans ?_ (AA.grown (by assumption) hgr))))
      (first|(go_at_call 136;refine(UX.out _ (.slice (some ⟨g1,0,none⟩) T.length c1) um _ _ (Ms.out.keep (by repeat(first|exact AJ.drew|exact AA.refl _ _|exact AJ.alloc _|exact(AJ.alloc _).drew|refine AA.drewN ?_ _|refine AA.trans ?_ (AA.of_below (by assumption))))) (AP.keep ZV.out (by repeat(first|exact AJ.drew|exact AA.refl _ _|exact AJ.alloc _|exact(AJ.alloc _).drew|refine AA.drewN ?_ _|refine AA.trans ?_ (AA.of_below (by assumption))))) (AOc.out.keep (by repeat(first|exact AJ.drew|exact AA.refl _ _|exact AJ.alloc _|exact(AJ.alloc _).drew|refine AA.drewN ?_ _|refine AA.trans ?_ (AA.of_below (by assumption))))) HA.out.1 (by rw[zm.out];omega) HKE.out HA.out.2.1).mono ?_;rintro e w5 ⟨v5,rfl,Aw,hb5⟩;rw[HA.out.2.2.1]at Aw;obtain⟨g5,c5,hv5⟩:=Aw.form (by rw[BL,AZ HA.out.2.2.2];exact dR);rw[BL,AZ HA.out.2.2.2]at hv5;subst hv5;have hs5:=hb5.size;have AOd:wr.heap.size≤w5.heap.size:=(show AA (fun _=>True) wr w5 from(by repeat(first|exact AJ.drew|exact AA.refl _ _|exact AJ.alloc _|exact(AJ.alloc _).drew|refine AA.drewN ?_ _|refine AA.trans ?_ (AA.of_below (by assumption))))).size)|(refine Pv _ (by rfl) _ _ _ (by rfl) wo.heap.size 24 i0 (.slice none 0 0) 1 24 Tryz.underlying25 WY hz0 hz1 hz2 rfl (by omega) _ m Jq (by rfl) ((Br G9.out.1 (S:=Any) (by repeat(first|exact AJ.drew|exact AA.refl _ _|exact AJ.alloc _|exact(AJ.alloc _).drew|refine AA.drewN ?_ _|refine AA.trans ?_ (AA.of_below (by assumption)))) (fun _ _=>trivial)).alloc _) ⟨w5.heap.size,0,none⟩ 1 1 [.slice (some ⟨g5,0,none⟩) Q.length c5] (by rfl) (by rfl) (GN (cs:= #[.slice (some ⟨g5,0,none⟩) Q.length c5]) (t:=24) (fr:=(0,0)) (BA w5 _)) (by simp[Value.oneCell']) (by omega) (by unfold maxLen;omega) (by omega) (by simp;omega) _ rfl ?_;intro gg cap Bj IG Ef LW Me))
     have HN:=hid (show Own2 24 2 wo.heap.size Bj (.slice (some ⟨gg,0,none⟩) (m+1) cap) ((L.c.take (m+1)).map (ev (mul Q) (AB.one Q) im)) from by
      rw[Qc.out];exact Own2.push (w:=w5.alloc _) (us:=Jq) (by decide) NL.out ((Br G9.out.1 (S:=Any) (by repeat(first|exact AJ.drew|exact AA.refl _ _|exact AJ.alloc _|exact(AJ.alloc _).drew|refine AA.drewN ?_ _|refine AA.trans ?_ (AA.of_below (by assumption)))) (fun _ _=>trivial)).alloc _) G9.out.2.1 (fun i r u hr hu=>((G9.out.2.2 i r u hr hu).keep (S:=Any) (by repeat(first|exact AJ.drew|exact AA.refl _ _|exact AJ.alloc _|exact(AJ.alloc _).drew|refine AA.drewN ?_ _|refine AA.trans ?_ (AA.of_below (by assumption)))) (fun _ _=>trivial)).keep (S:=Any) (AA.alloc AJ _) (fun _ _=>trivial)) ((V5.X6 (Aw.mono (B':=wo.heap.size) hsm) (by rw[AZ HA.out.2.2.2];exact dR)).keep (S:=Any) (AA.alloc AJ _) (fun _ _=>trivial)) IG Ef)
     have G6:=hid (show Below wo.heap.size wo Bj from by
      have h5:Below wr.heap.size wr w5:=(by repeat(first|exact A7 _ _|exact AX.drew|refine Below.step ?_ AR (by assumption)));exact((HBm.out.trans (h5.mono hsm)).alloc (by omega) _).grown Ef (by simp;omega) (fun g hg=>(Af G9.out.1 g hg).1))
     clear IG Ef LW Me Aw hb5 hs5 AOd hgr x0 x1 y0 y1 y2 z0 z1;go_wp2_with fail;go_roundw;case rel=>exact⟨m+1,by omega,BM (Value.int .i64) (by omega),HN,G6.out⟩
     case measure=>simp[intOf]<;>omega
    ·obtain rfl:m=L.c.length:=by omega
     have hnl:¬(i:Int)+1+(L.c.length:Int)<(T.length:Int):=by have:=I8.out.2.1;omega
     have Ji:Below (w.heap.size+2) ((w.alloc (.cells #[.slice aO T.length cO,.slice (some ⟨bP,oP,none⟩) T.length cP,.slice (some ⟨bC,oC,none⟩) T.length cC] 28)).alloc (.cells #[qO,qP,qC] 28)) wr:=(zi.out.trans (AF9.out.mono (by omega))).trans (hb.mono (by omega));have EE:=hid Ji;obtain⟨⟨p0,p1,p2⟩,⟨q0,q1,q2⟩,hkk,_,_⟩:=bx Ji;have wQ:=hid (show AP Any wr _ ((L.c.map (ev (mul Q) (AB.one Q) im)).map ints) from by
      have h:=nU.out.sl;rw[KC]at h;exact h.mono (fun _ _=>trivial))
     have ZV:=hid (AP.keep wP.out (AA.of_below hb));have wR:=hid (AL.keep Sc.out (AA.of_below hb));have Ms:=hid (IQ.out.keep hkk);have AGF:=hid (show AL Any wr qO (ints (Cm.Gd Q)) from by
      have h:=Ms.out.os;rwa[PW.out]at h)
     have wN:w.heap.size<wr.heap.size:=by omega
     have APD:w.heap.size+1<wr.heap.size:=by omega
     clear nU k7 hb Ji hkk t0 t1 r0 r1 r2 AGA AGC wP Sc AGB AF9 zi hlt;go_wp2_with fail;refine(Bv.out _ AGF.out).mono ?_;rintro e XY ⟨rfl,WU⟩;have QE:=hid WU;clear WU p0 p1 p2 q0 q1 q2;go_upto_region 13 with fail;obtain⟨Cw,ZW⟩:∃Cw,Cw=XY.alloc (.cells (madeCells #[.bool false] (sz Q)) 4):=⟨_,rfl⟩;rw[←ZW];obtain⟨gS,Cv⟩:∃gS,gS=XY.heap.size:=⟨_,rfl⟩;rw[←Cv];have AGG:=hid (show F9 gS Cw (.slice (some ⟨gS,0,none⟩) (sz Q) (sz Q)) (List.replicate (sz Q) false) by rw[ZW,Cv];exact F9.made XY (sz Q) AR (by unfold maxLen;omega));have Ot:Below wr.heap.size wr Cw:=by rw[ZW];exact QE.out.alloc QE.out.size _
     have AQV:wr.heap.size≤gS:=by rw[Cv];exact QE.out.size
     have AQW:gS<Cw.heap.size:=by rw[ZW,Cv];simp
     clear ZW Cv;have Ji:Below (w.heap.size+2) ((w.alloc (.cells #[.slice aO T.length cO,.slice (some ⟨bP,oP,none⟩) T.length cP,.slice (some ⟨bC,oC,none⟩) T.length cC] 28)).alloc (.cells #[qO,qP,qC] 28)) Cw:=EE.out.trans (Ot.mono (by omega));have AD3:=hid Ji;obtain⟨⟨p0,p1,p2⟩,⟨q0,q1,q2⟩,hkk,_,APE⟩:=bx Ji;have k13:=AA.of_below (S:=Any) Ot;have AL8:=hid (AP.keep wQ.out k13);have sQ:=hid (AP.keep ZV.out k13);have AL9:=hid (AL.keep wR.out k13);have Yo:=hid (IQ.out.keep hkk);have ZX:=AA.of_below (S:=fun k=>k<wr.heap.size) Ot;have AGH:=hid (AP.mono (S':=fun k=>k≠gS) (AP.keep (FZ.AP.IE wQ.out) ZX) (fun k (hk:k<wr.heap.size)=>by omega));have AGI:=hid (AP.mono (S':=fun k=>k≠gS) (AP.keep (FZ.AP.IE ZV.out) ZX) (fun k (hk:k<wr.heap.size)=>by omega));have AGJ:=hid (AL.mono (S':=fun k=>k≠gS) (AL.keep (FZ.AL.IE wR.out) ZX) (fun k (hk:k<wr.heap.size)=>by omega));have AGK:=hid (((BC.IE Ms.out).keep ZX).mono (S':=fun k=>k≠gS) (fun k (hk:k<wr.heap.size)=>by omega));clear ZX;have APF:w.heap.size<Cw.heap.size:=by omega
     have AO5:w.heap.size+1<Cw.heap.size:=by omega
     have hc1:T.length≤c1:=by
      obtain⟨_,_,e,h2,_⟩:=sQ.out;simp only[EY]at e;rw[Bh]at h2;have:=zm.out;omega
     clear Ji hkk Ot k13 wQ ZV wR Ms AGF EE QE;have We:(0:Int)≤(i:Int)+1:=by omega
     have hA1:(i:Int)+1≤(T.length:Int):=by omega
     have hA2:(T.length:Int)≤(c1:Int):=by omega
     have hA3:(i:Int)+1≤(c1:Int):=by omega
     have hA4:((i:Int)+1).toNat=i+1:=by omega
     go_cut [15] (fun iv W=>∃p:Nat→Bool,Hid (∀t,t<sz Q→(p t=true↔Gen.Gen (mul Q) (AB.one Q) im (at_ Q t)))∧Hid (AP (fun k=>k≠gS) W iv (((nums p (sz Q)).map (at_ Q)).map ints))∧Hid (Below Cw.heap.size Cw W));case first=>
      by_cases hcap:c1=i+1
      ·have sS:=hid (show AP Any Cw (.slice (some ⟨g1,0,none⟩) 0 0) (im.map ints) from by
        have:im=[]:=by rw[Wd.out];exact TJ (by have:=Jp.out;omega)
        rw[this];exact⟨some ⟨g1,0,none⟩,0,rfl,Av _,by simp,by simp,fun i x hx=>by simp at hx⟩)
       subst hcap;go_region_held3 (fun w'=>(∀b o,b<Cw.heap.size→w'.cell? ⟨b,o,none⟩=Cw.cell? ⟨b,o,none⟩)∧AA (fun _=>True) Cw w')
        (first|exact Au (by repeat(first|exact AJ.drew|exact AA.refl _ _|refine AA.drewN ?_ _|refine AA.trans ?_ (AA.of_below (by assumption)))))
        (first|(go_at_call 138;refine(Ec.out _ _ (Yo.out.keep (by repeat(first|exact AJ.drew|exact AA.refl _ _|exact AJ.alloc _|exact(AJ.alloc _).drew|refine AA.drewN ?_ _|refine AA.trans ?_ (AA.of_below (by assumption))))) (AP.keep sS.out (by repeat(first|exact AJ.drew|exact AA.refl _ _|exact AJ.alloc _|exact(AJ.alloc _).drew|refine AA.drewN ?_ _|refine AA.trans ?_ (AA.of_below (by assumption)))))).mono ?_;rintro e Ju ⟨v14,tl,dn,rfl,Mr,hdl,MQ,hsl,UD⟩)|(go_at_call 137;refine(Qg.out _ v14 tl dn MQ Mr (Yo.out.keep (by repeat(first|exact AJ.drew|exact AA.refl _ _|exact AJ.alloc _|exact(AJ.alloc _).drew|refine AA.drewN ?_ _|refine AA.trans ?_ (AA.of_below (by assumption))))) (AP.keep hsl (by repeat(first|exact AJ.drew|exact AA.refl _ _|exact AJ.alloc _|exact(AJ.alloc _).drew|refine AA.drewN ?_ _|refine AA.trans ?_ (AA.of_below (by assumption)))))).mono ?_;rintro e JD ⟨v15,rfl,wS,ZP⟩))
       have rz:Below Cw.heap.size Cw JD:=(by repeat(first|exact A7 _ _|exact AX.drew|refine Below.step ?_ AR (by assumption)));go_wp2_with fail;go_meet;exact⟨_,hid (fun t ht=>KM.out tl dn MQ Mr t ht),hid (wS.sl.mono (fun k hk=>by have h14:Cw.heap.size≤Ju.heap.size:=(show AA (fun _=>True) Cw Ju from(by repeat(first|exact AJ.drew|exact AA.refl _ _|exact AJ.alloc _|exact(AJ.alloc _).drew|refine AA.drewN ?_ _|refine AA.trans ?_ (AA.of_below (by assumption))))).size;have hk':Ju.heap.size≤k:=hk;omega)),hid rz⟩
      ·have hcap2:¬i+1=c1:=fun e=>hcap e.symm;have sS:=hid (show AP Any Cw (.slice (some ⟨g1,i+1,none⟩) (T.length-(i+1)) (c1-(i+1))) (im.map ints) from by
        have h:=QH.AP.tail sQ.out (i+1) hiA;rw[ACd]at h;rw[Wd.out];exact h)
       go_region_held3 (fun w'=>(∀b o,b<Cw.heap.size→w'.cell? ⟨b,o,none⟩=Cw.cell? ⟨b,o,none⟩)∧AA (fun _=>True) Cw w')
        (first|exact Au (by repeat(first|exact AJ.drew|exact AA.refl _ _|refine AA.drewN ?_ _|refine AA.trans ?_ (AA.of_below (by assumption)))))
        (first|(go_at_call 138;refine(Ec.out _ _ (Yo.out.keep (by repeat(first|exact AJ.drew|exact AA.refl _ _|exact AJ.alloc _|exact(AJ.alloc _).drew|refine AA.drewN ?_ _|refine AA.trans ?_ (AA.of_below (by assumption))))) (AP.keep sS.out (by repeat(first|exact AJ.drew|exact AA.refl _ _|exact AJ.alloc _|exact(AJ.alloc _).drew|refine AA.drewN ?_ _|refine AA.trans ?_ (AA.of_below (by assumption)))))).mono ?_;rintro e Ju ⟨v14,tl,dn,rfl,Mr,hdl,MQ,hsl,UD⟩)|(go_at_call 137;refine(Qg.out _ v14 tl dn MQ Mr (Yo.out.keep (by repeat(first|exact AJ.drew|exact AA.refl _ _|exact AJ.alloc _|exact(AJ.alloc _).drew|refine AA.drewN ?_ _|refine AA.trans ?_ (AA.of_below (by assumption))))) (AP.keep hsl (by repeat(first|exact AJ.drew|exact AA.refl _ _|exact AJ.alloc _|exact(AJ.alloc _).drew|refine AA.drewN ?_ _|refine AA.trans ?_ (AA.of_below (by assumption)))))).mono ?_;rintro e JD ⟨v15,rfl,wS,ZP⟩))
       have rz:Below Cw.heap.size Cw JD:=(by repeat(first|exact A7 _ _|exact AX.drew|refine Below.step ?_ AR (by assumption)));go_wp2_with fail;go_meet;exact⟨_,hid (fun t ht=>KM.out tl dn MQ Mr t ht),hid (wS.sl.mono (fun k hk=>by have h14:Cw.heap.size≤Ju.heap.size:=(show AA (fun _=>True) Cw Ju from(by repeat(first|exact AJ.drew|exact AA.refl _ _|exact AJ.alloc _|exact(AJ.alloc _).drew|refine AA.drewN ?_ _|refine AA.trans ?_ (AA.of_below (by assumption))))).size;have hk':Ju.heap.size≤k:=hk;omega)),hid rz⟩
     case rest=>
      obtain⟨p,AOe,ME,OD⟩:=hcut;obtain⟨aN,cN,hiv⟩:=AP.form ME.out;obtain⟨ln,hln⟩:∃ln,((nums p (sz Q)).map (at_ Q)).length=ln:=⟨_,rfl⟩;rw[hln]at hiv;subst hiv;have Ji:Below (w.heap.size+2) ((w.alloc (.cells #[.slice aO T.length cO,.slice (some ⟨bP,oP,none⟩) T.length cP,.slice (some ⟨bC,oC,none⟩) T.length cC] 28)).alloc (.cells #[qO,qP,qC] 28)) wc:=AD3.out.trans (OD.out.mono (by omega));have EE:=hid Ji;have hsc:=OD.out.size;have kc:=AA.of_below (S:=fun k=>k≠gS) OD.out;have AGL:=hid (AP.keep AGH.out kc);have AGM:=hid (AP.keep AGI.out kc);have AGN:=hid (AL.keep AGJ.out kc);have wT:=hid (AGK.out.keep kc);have HSc:=hid (show F9 gS wc (.slice (some ⟨gS,0,none⟩) (sz Q) (sz Q)) (JF (fun k=>(nums p (sz Q)).getD k 0) (sz Q) 0) by
       rw[ABu];exact AGG.out.keep (S:=Any) (AA.of_below OD.out) (fun _ _=>trivial))
      have AOf:gS<wc.heap.size:=by omega
      have hn1:¬w.heap.size=gS:=by omega
      have hn2:¬w.heap.size+1=gS:=by omega
      have AOg:w.heap.size+2≤gS:=by omega
      have DV:=hid (show(nums p (sz Q)).length=ln by rw[←hln];simp);have AQX:ln≤729:=by have:=nums_length p (sz Q);have:=DV.out;omega
      clear Ji kc AL8 sQ AL9 Yo AGH AGI AGJ AGK AGG AD3 hln Ec Qg KM We hA1 hA2 hA3 hA4 p0 p1 p2 q0 q1 q2 OD;go_wp2_with fail;go_loopw [16] (fun kv wr=>∃k:Nat,k≤ln∧kv= .int .i64 (k:Int)∧Hid (F9 gS wr (.slice (some ⟨gS,0,none⟩) (sz Q) (sz Q)) (JF (fun k=>(nums p (sz Q)).getD k 0) (sz Q) k))∧Hid (AA (fun k=>k≠gS) wc wr)∧Below (w.heap.size+2) ((w.alloc (.cells #[.slice aO T.length cO,.slice (some ⟨bP,oP,none⟩) T.length cP,.slice (some ⟨bC,oC,none⟩) T.length cC] 28)).alloc (.cells #[qO,qP,qC] 28)) wr) (fun kv _=>ln-(intOf kv).toNat);case atStart=>exact⟨0,AU _,rfl,HSc,hid AJ,EE.out⟩
      case round=>
       obtain⟨k,hk,rfl,Xl,hKr,hB⟩:=hrel;have Aa:=hid hB;obtain⟨⟨p0,p1,p2⟩,⟨q0,q1,q2⟩,_,_,_⟩:=bx hB;have OG:=hKr.out.size;have hwr:w.heap.size<wr.heap.size:=by omega
       have AGO:w.heap.size+1<wr.heap.size:=by omega
       have AOS:gS<wr.heap.size:=by omega
       clear hB;by_cases hlt:k<ln
       ·obtain⟨t,ht⟩:∃t,(nums p (sz Q))[k]?=some t:=⟨_,AO (by have:=DV.out;omega)⟩;have htz:=QH.AKd ht;obtain⟨bN,oN,cN',vr,he,hbN,zn,hrN⟩:=AP.Pn (AP.keep ME.out hKr.out) (k:=k) (r:=at_ Q t) (by rw[Bn,ht];rfl);obtain⟨rfl,rfl⟩:aN=some ⟨bN,oN,none⟩∧cN=cN':=by simp only[EY]at he;exact⟨he.1,he.2.2⟩
        have hbn:¬bN=gS:=by
         obtain⟨ao,c',e1,_,_,_,h4⟩:=ME.out;obtain⟨b,o,f1,f2,_⟩:=h4 k (ints (at_ Q t)) (by simp[ht]);simp only[EY]at e1;obtain⟨e1,_,_⟩:=e1;rw[f1]at e1;simp only[Eg,Kj]at e1;rw[e1.1];exact f2
        have Bc:=hid (wT.out.keep hKr.out);have HRr:=hid hrN;have wM:=hid (fun W (h:AA (fun k=>k≠gS) wr W)=>show AL Any W qO (ints (Cm.Gd Q)) from by
         have h2:=((Bc.out.keep h).mono (S':=Any) (fun _ _=>trivial)).os;rwa[PW.out]at h2)
        have zY:=hid (fun W va (hO:AL Any W qO (ints (Cm.Gd Q))) (hx:AL Any W va (ints (at_ Q t)))=>(show Calls Tryz.prog 139 #[.agg #[qO,qP,qC],va] W (Cm.QB t W) from by
         have h:=zW.out W va (at_ Q t) hO hx (D7 KQ.out t) (KZ (D7 KQ.out t) KQ.out);rwa[Q5,Ez htz]at h))
        have hq1:(t:Int)<(sz Q:Int):=by omega
        have hq0:(0:Int)≤(t:Int):=by omega
        have hkl:(k:Int)<(ln:Int):=by omega
        have hk0:(0:Int)≤(k:Int):=by omega
        have HIS:=hid (show JF (fun k=>(nums p (sz Q)).getD k 0) (sz Q) (k+1)=(JF (fun k=>(nums p (sz Q)).getD k 0) (sz Q) k).set t true by
         rw[ABv,BV,ht];rfl)
        clear ht he hrN;go_upto_region 17 with fail;go_region_held3 (fun w'=>(∀b o,b<wr.heap.size→¬b=gS→w'.cell? ⟨b,o,none⟩=wr.cell? ⟨b,o,none⟩)∧AA (fun k=>k≠gS) wr w')
         (first|exact AD0 (by repeat(first|exact AJ.drew|exact AA.refl _ _|refine AA.setCell ?_ (by simp) _|refine AA.trans ?_ (AA.of_below (by assumption)))))
         (first|(go_at_call 139;refine(zY.out _ vr (wM.out _ (by repeat(first|exact AJ.drew|exact AA.refl _ _|exact AJ.alloc _|exact(AJ.alloc _).drew|refine AA.drewN ?_ _|refine AA.trans ?_ (AA.of_below (by assumption))))) (AL.mono (AL.keep HRr.out (by repeat(first|exact AJ.drew|exact AA.refl _ _|exact AJ.alloc _|exact(AJ.alloc _).drew|refine AA.drewN ?_ _|refine AA.trans ?_ (AA.of_below (by assumption))))) (fun _ _=>trivial))).mono ?_;rintro e w8 ⟨rfl,CJ⟩;have MO:=Xl.out.keep (S:=Any) (show AA Any wr w8 from(by repeat(first|exact AJ.drew|exact AA.refl _ _|exact AJ.alloc _|exact(AJ.alloc _).drew|refine AA.drewN ?_ _|refine AA.trans ?_ (AA.of_below (by assumption))))) (fun _ _=>trivial);obtain⟨s8,f8⟩:=MO.cell (gz htz);have K7:wr.heap.size≤w8.heap.size:=(show AA Any wr w8 from(by repeat(first|exact AJ.drew|exact AA.refl _ _|exact AJ.alloc _|exact(AJ.alloc _).drew|refine AA.drewN ?_ _|refine AA.trans ?_ (AA.of_below (by assumption))))).size))
        have zZ:=hid (show F9 gS (w8.setCell ⟨gS,t,none⟩ (.bool true)) (.slice (some ⟨gS,0,none⟩) (sz Q) (sz Q)) (JF (fun k=>(nums p (sz Q)).getD k 0) (sz Q) (k+1)) by rw[HIS.out];exact MO.set t true);have za:=hid (show AA (fun k=>k≠gS) wc (w8.setCell ⟨gS,t,none⟩ (.bool true)) from(hKr.out.trans (show AA (fun k=>k≠gS) wr w8 from(by repeat(first|exact AJ.drew|exact AA.refl _ _|exact AJ.alloc _|exact(AJ.alloc _).drew|refine AA.drewN ?_ _|refine AA.trans ?_ (AA.of_below (by assumption)))))).setCell (by simp) _);have G6:=hid ((show Below (w.heap.size+2) ((w.alloc (.cells #[.slice aO T.length cO,.slice (some ⟨bP,oP,none⟩) T.length cP,.slice (some ⟨bC,oC,none⟩) T.length cC] 28)).alloc (.cells #[qO,qP,qC] 28)) w8 from(by repeat(first|exact Aa.out|exact Aa.out.drew|refine Dk ?_ _|refine Below.step ?_ (by simp) (by assumption)))).setCell (p:=⟨gS,t,none⟩) AOg (.bool true));clear CJ MO s8 f8 K7 p0 p1 p2 q0 q1 q2;go_wp2_with fail;go_roundw;case rel=>exact⟨k+1,by omega,by go_num,zZ,za,G6.out⟩
        case measure=>simp[intOf]<;>omega
       ·obtain rfl:k=ln:=by omega
        have HSd:=hid Xl.out;have AGP:=hid ((AP.keep AGL.out hKr.out).mono (fun _ _=>trivial):AP Any wr _ ((L.c.map (ev (mul Q) (AB.one Q) im)).map ints));have AOh:=hid ((AP.keep AGM.out hKr.out).mono (fun _ _=>trivial):AP Any wr (.slice (some ⟨g1,0,none⟩) T.length c1) ((kn Q Ae (i+1)).map ints));have AOi:=hid ((AL.keep AGN.out hKr.out).mono (fun _ _=>trivial):AL Any wr _ (ints (ev (mul Q) (AB.one Q) im L.w)));have AGQ:=hid ((wT.out.keep hKr.out).mono (S':=Any) (fun _ _=>trivial));have HBd:=hid (bx Aa.out).2.2.2.1;have HPK:=hid (bx Aa.out).2.2.1;obtain⟨aV,cV,AGR,_⟩:=(⟨_,_,(AP.form AGP.out).choose_spec.choose_spec,trivial⟩:∃a c,_=Value.slice a (L.c.map (ev (mul Q) (AB.one Q) im)).length c∧True);rw[Bh]at AGR;subst AGR;obtain⟨bO,oO,rfl,_,CQ,BS⟩:=IP.out.ord EN.out;have AOj:=(HPK.out.cell (b:=bO) (o:=oO+i) trivial CQ).trans BS;have AOk:bO<wr.heap.size:=by omega
        have h00:=Fb (base:=wr.heap.size) (e:=24) (size:=1) wr #[] 0 AR (AU _) rfl;have hLo:=AOY.out;have AGS:=hid (show∀t,t<sz Q→(may Q L im t=true↔p t=false∧J8 Q L im (at_ Q t)) from fun t ht=>by
         rw[iA,←AOe.out t ht];cases p t<;>simp)
        clear Xl hKr BS p0 p1 p2 q0 q1 q2 AGL AGM AGN wT HSc AOf hsc ME hlt;go_wp2_with fail;rename World=>wd;go_loopw [17,18] (fun ov tv wr=>∃t:Nat,t≤sz Q∧tv= .int .i64 (t:Int)∧Hid (Own2 24 2 wd.heap.size wr ov ((nums (may Q L im) t).map (at_ Q)))∧Below wd.heap.size wd wr) (fun _ tv _=>sz Q-(intOf tv).toNat);case atStart=>exact⟨0,AU _,rfl,hid ⟨[],h00,rfl,by simp[nums]⟩,AX.alloc AR _⟩
        case round=>
         obtain⟨t,ht,rfl,AGT,hb⟩:=hrel;have HBt:=hid hb;have hst:=hb.size;have AGU:Below (w.heap.size+2) ((w.alloc (.cells #[.slice (some ⟨bO,oO,none⟩) T.length cO,.slice (some ⟨bP,oP,none⟩) T.length cP,.slice (some ⟨bC,oC,none⟩) T.length cC] 28)).alloc (.cells #[qO,qP,qC] 28)) wr:=Aa.out.trans (hb.mono (by omega));obtain⟨⟨p0,p1,p2⟩,⟨q0,q1,q2⟩,_,_,_⟩:=bx AGU;have AGV:=hid (fun W (h:Below wd.heap.size wd W)=>show AL Any W qO (ints (Cm.Gd Q)) from by
          have h2:=(AGQ.out.keep (AA.of_below h)).os;rwa[PW.out]at h2)
         have hwr:w.heap.size<wr.heap.size:=by omega
         have AGO:w.heap.size+1<wr.heap.size:=by omega
         clear h00 AGU;go_wp2_with fail;refine(Bv.out _ (AGV.out _ hb)).mono ?_;rintro e w2 ⟨rfl,hb2⟩;have HB2:=hid (HBt.out.trans (hb2.mono hst));have jI:=hid (AGT.out.of_below hb2);have wU:Below (w.heap.size+2) ((w.alloc (.cells #[.slice (some ⟨bO,oO,none⟩) T.length cO,.slice (some ⟨bP,oP,none⟩) T.length cP,.slice (some ⟨bC,oC,none⟩) T.length cC] 28)).alloc (.cells #[qO,qP,qC] 28)) w2:=Aa.out.trans (HB2.out.mono (by omega));have AQY:=hid wU;have hs2:=HB2.out.size;clear hb hb2 AGT p0 p1 p2 q0 q1 q2;obtain⟨⟨p0,p1,p2⟩,⟨q0,q1,q2⟩,_,_,_⟩:=bx wU;clear wU;by_cases hlt:t<sz Q
         ·have ht1:(t:Int)<(sz Q:Int):=by omega
          have ht0:(0:Int)≤(t:Int):=by omega
          have zg:t≤1000000:=by omega
          have hS2:=HSd.out.keep (S:=Any) (AA.of_below HB2.out) (fun _ _=>trivial);obtain⟨s2,_⟩:=hS2.cell (gz (f:=fun k=>(nums p (sz Q)).getD k 0) (k:=k) hlt);rw[show Gn (fun k=>(nums p (sz Q)).getD k 0) k t=p t from by rw[←DV.out];exact QH.remark p (sz Q) t hlt]at s2;have Xm:=hid (ABB (may Q L im) t);cases hpt:p t with
          |true=>
           rw[hpt]at s2;have HN:=hid (show(nums (may Q L im) (t+1))=nums (may Q L im) t by
            rw[Xm.out];cases hm:may Q L im t with
            |false=>simp
            |true=>have:=(AGS.out t hlt).1 hm;rw[hpt]at this;simp at this)
           clear hS2 hpt;go_wp2_with fail;go_roundw;case rel=>exact⟨t+1,by omega,by go_num,hid (by rw[HN.out];exact jI.out),HB2.out⟩
           case measure=>simp[intOf]<;>omega
          |false=>
           rw[hpt]at s2;have AOl:=hid hpt;clear hS2 hpt;go_wp2_with fail;refine(HAT.out _ t zg (AGV.out _ HB2.out)).mono ?_;rintro e w3 ⟨gx,cx,rfl,hox,hb3⟩;have HB3:=hid (HB2.out.trans (hb3.mono hs2));have HX3:=hid (hox.sl.mono (S':=Any) (fun _ _=>trivial));have HXR:=hid (Ej.row (hox.mono (B':=wd.heap.size) hs2));have AMA:=hid (jI.out.of_below hb3);have hs3:=HB3.out.size;have wV:=hid (show Below (w.heap.size+2) ((w.alloc (.cells #[.slice (some ⟨bO,oO,none⟩) T.length cO,.slice (some ⟨bP,oP,none⟩) T.length cP,.slice (some ⟨bC,oC,none⟩) T.length cC] 28)).alloc (.cells #[qO,qP,qC] 28)) w3 from Aa.out.trans (HB3.out.mono (by omega)));have k3:=AA.of_below (S:=Any) HB3.out;have AGW:=hid (AGQ.out.keep k3);have AOm:=hid (AP.keep AOh.out k3);have AOn:=hid (AP.keep AGP.out k3);have AOo:=hid (AL.keep AOi.out k3);have je:=(k3.cell (b:=bO) (o:=oO+i) trivial AOk).trans AOj;have AEj:bO<w3.heap.size:=by omega
           have hw3:w.heap.size<w3.heap.size:=by omega
           have APG:w.heap.size+1<w3.heap.size:=by omega
           have DN:=hid (D7 KQ.out t);obtain⟨b0,hb0⟩:∃b0,decide (ints (npow (mul Q) (AB.one Q) (at_ Q t) L.o)=ints (ev (mul Q) (AB.one Q) im L.w))=b0:=⟨_,rfl⟩;have AOp:=hid hb0;have HF0:=hid (show b0=true↔FT Q L im (at_ Q t) 0 from by
            rw[←hb0,Yp,RL.Sw];exact⟨fun h=>⟨h,fun k hk=>absurd hk (CO _)⟩,fun h=>h.1⟩)
           have hwi:IntKind.i64.wrap ((i:Int)+1)=(i:Int)+1:=AY _ (by omega);clear hb0 hox hb3 k3 p0 p1 p2 q0 q1 q2 jI s2;obtain⟨⟨p0,p1,p2⟩,⟨q0,q1,q2⟩,_,_,_⟩:=bx wV.out;go_wp2_with fail;go_region_held3 (fun w'=>(∀b o,b<w3.heap.size→w'.cell? ⟨b,o,none⟩=w3.cell? ⟨b,o,none⟩)∧AA (fun _=>True) w3 w')
            (first|exact Au (by repeat(first|exact AJ.drew|exact AA.refl _ _|refine AA.drewN ?_ _|refine AA.trans ?_ (AA.of_below (by assumption)))))
            (first|(go_at_call 142;refine(jN.out _ (.slice (some ⟨gx,0,none⟩) (ints (at_ Q t)).length cx) (at_ Q t) L.o (by omega) (AGW.out.keep (by repeat(first|exact AJ.drew|exact AA.refl _ _|exact AJ.alloc _|exact(AJ.alloc _).drew|refine AA.drewN ?_ _|refine AA.trans ?_ (AA.of_below (by assumption))))) (HX3.out.keep (by repeat(first|exact AJ.drew|exact AA.refl _ _|exact AJ.alloc _|exact(AJ.alloc _).drew|refine AA.drewN ?_ _|refine AA.trans ?_ (AA.of_below (by assumption))))) DN.out).mono ?_;rintro e w6 ⟨v6,rfl,A8,hb6⟩)|(go_at_call 141;refine(NW _ v6 _ _ _ ((A8.sl.mono (fun _ _=>trivial)).keep (by repeat(first|exact AJ.drew|exact AA.refl _ _|exact AJ.alloc _|exact(AJ.alloc _).drew|refine AA.drewN ?_ _|refine AA.trans ?_ (AA.of_below (by assumption))))) (AOo.out.keep (by repeat(first|exact AJ.drew|exact AA.refl _ _|exact AJ.alloc _|exact(AJ.alloc _).drew|refine AA.drewN ?_ _|refine AA.trans ?_ (AA.of_below (by assumption)))))).mono ?_;rintro e w7 ⟨rfl,n7,rfl⟩;rw[AOp.out]))
           have uB:=hid (show Below w3.heap.size w3 (w6.drewN n7) from Dk (by repeat(first|exact A7 _ _|exact AX.drew|refine Below.step ?_ AR (by assumption))) _);clear A8 hb6 p0 p1 p2 q0 q1 q2 je;go_wp2_with fail;go_loopw [20,21] (fun bv jv wr=>∃(m:Nat) (b:Bool),m≤L.c.length∧jv= .int .i64 ((i:Int)+1+(m:Int))∧bv= .bool b∧Hid (b=true↔FT Q L im (at_ Q t) m)∧Below w3.heap.size w3 wr) (fun _ jv _=>T.length-(intOf jv).toNat);case atStart=>exact⟨0,b0,AU _,BM (Value.int .i64) (by omega),rfl,HF0,uB.out⟩
           case round=>
            obtain⟨m,b,hm,rfl,rfl,zo,hb⟩:=hrel;have AOq:=(bx wV.out).2.2.2.2;have OG:=hb.size;have Bi:=hid (HB3.out.trans (hb.mono hs3));have HBL:=hid hb;have AOr:=hid (wV.out.trans (hb.mono AOq));have kr:=AA.of_below (S:=Any) hb;have AD4:=hid (AMA.out.of_below hb);obtain⟨⟨p0,p1,p2⟩,⟨q0,q1,q2⟩,_,_,_⟩:=bx AOr.out;have hwr:w.heap.size<wr.heap.size:=by omega
            have AGO:w.heap.size+1<wr.heap.size:=by omega
            have AGX:=hid Xm.out;cases b with
            |false=>
             have HN:=hid (show(nums (may Q L im) (t+1))=nums (may Q L im) t by
              rw[AGX.out];cases hmy:may Q L im t with
              |false=>simp
              |true=>exact absurd (zo.out.2 (AL6 ((iA.1 hmy).2))) (by simp))
             clear kr hb p0 p1 p2 q0 q1 q2;go_wp2_with fail;go_roundw;case rel=>exact⟨t+1,by omega,by go_num,hid (by rw[HN.out];exact AD4.out),Bi.out⟩
             case measure=>simp[intOf]<;>omega
            |true=>
             by_cases hlm:m<L.c.length
             ·obtain⟨y,hy⟩:∃y,L.c[m]?=some y:=⟨_,AO hlm⟩;obtain⟨r,hr⟩:∃r,im[m]?=some r:=⟨_,AO (by rw[Wd.out];have:=I8.out.2.1;have:=Jp.out;rw[Cx];omega)⟩;have U5:El Q r:=Ky.out r (KA (by rw[←Wd.out];exact Ak hr));obtain⟨bK,oK,cK,vr,he,hbK,hcK,hrK⟩:=AP.Pn (AP.keep AOm.out kr) (k:=i+1+m) (r:=r) (by
               unfold kn;rw[D9 (by rw[DK];omega),DK,show i+1+m-(i+1)=m by omega,←Wd.out];exact hr)
              simp only[EY,Eg,Kj]at he;rw[←he.1.1,←he.1.2.1,Cg]at hcK;rw[←he.1.1]at hbK;obtain⟨bM,oM,cM,um,he2,kU,Wl,hrM⟩:=AP.Pn (AP.keep AOn.out kr) (k:=m) (r:=ev (mul Q) (AB.one Q) im y) (by rw[Bn,hy];rfl);obtain⟨rfl,rfl⟩:aV=some ⟨bM,oM,none⟩∧cV=cM:=by simp only[EY]at he2;exact⟨he2.1,he2.2.2⟩
              have Ms:=hid (AGW.out.keep kr);have HXr:=hid (AL.keep HX3.out kr);have UO:=hid hrK;have HMr:=hid hrM;have IU:=hid U5;have FN:=hid (WZ.out y (I8.out.2.2.1 y (Ak hy))).2.2.2;obtain⟨b1,hb1⟩:∃b1,decide (ints (mul Q r (at_ Q t))=ints (mul Q (at_ Q t) (ev (mul Q) (AB.one Q) im y)))=b1:=⟨_,rfl⟩;have QA:=hid hb1;have K4:=hid (show b1=true↔FT Q L im (at_ Q t) (m+1) from by
               rw[AKf hy,←hb1,Yp,RL.Sw,BV,hr];exact⟨fun h=>⟨zo.out.1 rfl,h⟩,fun h=>h.2⟩)
              have yA:m≤6:=by have:=I8.out.2.1;omega
              have w1:IntKind.i64.wrap (((i:Int)+1+(m:Int))-(i:Int))=(m:Int)+1:=by rw[AY _ (by omega)];omega
              have w2':IntKind.i64.wrap (((m:Int)+1)-1)=(m:Int):=by rw[AY _ (by omega)];omega
              have w8':IntKind.i64.wrap (m:Int)=(m:Int):=AY _ (by omega);have w4':(m:Int)<(L.c.length:Int):=by omega
              have w5':(0:Int)≤(m:Int):=by omega
              have w9':(i:Int)+1+(m:Int)<(T.length:Int):=by have:=I8.out.2.1;omega
              have AQZ:(0:Int)≤(i:Int)+1+(m:Int):=by omega
              have AQa:((i:Int)+1+(m:Int)).toNat=i+1+m:=by omega
              clear hb hb1 hy hr U5 he he2 hrK hrM kr;go_wp2_with fail;go_region_held3 (fun w'=>(∀b o,b<wr.heap.size→w'.cell? ⟨b,o,none⟩=wr.cell? ⟨b,o,none⟩)∧AA (fun _=>True) wr w')
               (first|exact Au (by repeat(first|exact AJ.drew|exact AA.refl _ _|refine AA.drewN ?_ _|refine AA.trans ?_ (AA.of_below (by assumption)))))
               (first|(go_at_call_of 143 vr;refine(AF7.out _ vr (.slice (some ⟨gx,0,none⟩) (ints (at_ Q t)).length cx) _ _ (Ms.out.keep (by repeat(first|exact AJ.drew|exact AA.refl _ _|exact AJ.alloc _|exact(AJ.alloc _).drew|refine AA.drewN ?_ _|refine AA.trans ?_ (AA.of_below (by assumption))))) (UO.out.keep (by repeat(first|exact AJ.drew|exact AA.refl _ _|exact AJ.alloc _|exact(AJ.alloc _).drew|refine AA.drewN ?_ _|refine AA.trans ?_ (AA.of_below (by assumption))))) (HXr.out.keep (by repeat(first|exact AJ.drew|exact AA.refl _ _|exact AJ.alloc _|exact(AJ.alloc _).drew|refine AA.drewN ?_ _|refine AA.trans ?_ (AA.of_below (by assumption))))) IU.out DN.out).mono ?_;rintro e w6 ⟨v6,rfl,A8,hb6⟩)|(go_at_call_of 143 um;refine(AF7.out _ (.slice (some ⟨gx,0,none⟩) (ints (at_ Q t)).length cx) um _ _ (Ms.out.keep (by repeat(first|exact AJ.drew|exact AA.refl _ _|exact AJ.alloc _|exact(AJ.alloc _).drew|refine AA.drewN ?_ _|refine AA.trans ?_ (AA.of_below (by assumption))))) (HXr.out.keep (by repeat(first|exact AJ.drew|exact AA.refl _ _|exact AJ.alloc _|exact(AJ.alloc _).drew|refine AA.drewN ?_ _|refine AA.trans ?_ (AA.of_below (by assumption))))) (HMr.out.keep (by repeat(first|exact AJ.drew|exact AA.refl _ _|exact AJ.alloc _|exact(AJ.alloc _).drew|refine AA.drewN ?_ _|refine AA.trans ?_ (AA.of_below (by assumption))))) DN.out FN.out).mono ?_;rintro e w7 ⟨v7,rfl,Cr,Cz⟩)|(go_at_call 141;refine(NW _ v6 v7 _ _ ((A8.sl.mono (fun _ _=>trivial)).keep (by repeat(first|exact AJ.drew|exact AA.refl _ _|exact AJ.alloc _|exact(AJ.alloc _).drew|refine AA.drewN ?_ _|refine AA.trans ?_ (AA.of_below (by assumption))))) ((Cr.sl.mono (fun _ _=>trivial)).keep (by repeat(first|exact AJ.drew|exact AA.refl _ _|exact AJ.alloc _|exact(AJ.alloc _).drew|refine AA.drewN ?_ _|refine AA.trans ?_ (AA.of_below (by assumption)))))).mono ?_;rintro e w8 ⟨rfl,n8,rfl⟩;rw[QA.out]))
              have AOs:=hid (show Below w3.heap.size w3 (w7.drewN n8) from Dk (by repeat(first|exact HBL.out|exact HBL.out.drew|refine Below.step ?_ AR (by assumption))) _);clear A8 hb6 Cr Cz p0 p1 p2 q0 q1 q2 hcK Wl;go_wp2_with fail;go_roundw;case rel=>exact⟨m+1,b1,by omega,BM (Value.int .i64) (by omega),rfl,K4,AOs.out⟩
              case measure=>simp[intOf]<;>omega
             ·obtain rfl:m=L.c.length:=by omega
              have HN:=hid (show(nums (may Q L im) (t+1)).map (at_ Q)=(nums (may Q L im) t).map (at_ Q)++[at_ Q t] by
               rw[AGX.out,(AGS.out t hlt).2 ⟨AOl.out,ALK.1 (zo.out.1 rfl)⟩];simp)
              obtain⟨nl,Rc⟩:∃nl,((nums (may Q L im) t).map (at_ Q)).length=nl:=⟨_,rfl⟩;have AOU:nl≤729:=by have:=nums_length (may Q L im) t;rw[←Rc,Bh];omega
              have ZR:=hid Rc;have AGY:=hid (HXR.out.keep (S:=Any) kr (fun _ _=>trivial):Ck 2 wd.heap.size wr (.slice (some ⟨gx,0,none⟩) (ints (at_ Q t)).length cx) (at_ Q t));obtain⟨Jq,h1,h2,h4⟩:=AD4.out;have G9:=hid (And.intro h2 h4);rw[ZR.out]at h1;clear Rc h2 h4 kr hb;go_wp2_with (at_builtin;(refine Fz _ rfl _ _ 25 rfl wd.heap.size 24 i0 (.slice none 0 0) 1 24 Tryz.underlying25 WY hz0 hz1 hz2 rfl (by decide) _ _ _ rfl (h1.alloc _) ⟨wr.heap.size,0,none⟩ 1 1 [.slice (some ⟨gx,0,none⟩) (ints (at_ Q t)).length cx] rfl rfl ?d1 ?d2 ?d3 ?d4 ?d5 ?_));case d2=>first|rfl|(intro u hu;simp at hu;subst hu;rfl)
              case d3=>first|(unfold maxLen;omega)|omega|(simp only[maxLen];omega)
              case d4=>first|omega|(simp;omega)
              case d5=>have:=Bi.out.size;first|omega|(simp;omega)
              ·intro v' w9 hown hgrow _;have H6:=hid (show Own2 24 2 wd.heap.size w9 v' ((nums (may Q L im) (t+1)).map (at_ Q)) from by
                rw[HN.out];exact Own2.push (w:=wr.alloc _) (us:=Jq) (by decide) ZR.out (h1.alloc _) G9.out.1 (fun i r u hr hu=>(G9.out.2 i r u hr hu).keep (S:=fun _=>True) (AJ.alloc _) (fun _ _=>trivial)) (AGY.out.keep (S:=fun _=>True) (AJ.alloc _) (fun _ _=>trivial)) hown hgrow)
               have G6:=hid (show Below wd.heap.size wd w9 from(Bi.out.alloc (by have:=Bi.out.size;omega) _).grown hgrow (by simp;have:=Bi.out.size;omega) (fun g hg=>(Af h1 g hg).1));clear hown hgrow h1 G9 AGY p0 p1 p2 q0 q1 q2;go_wp2_with fail;go_roundw;case rel=>exact⟨t+1,by omega,by go_num,H6,G6.out⟩
               case measure=>simp[intOf]<;>omega
         ·obtain rfl:t=sz Q:=by omega
          have HR:=hid (show TZ 24 2 (He Q L im) w (.returned _) w2 from⟨_,rfl,jI.out.mono (by omega),HBd.out.trans (HB2.out.mono (by omega))⟩);go_wp2_with fail;go_ret;have h:=HR.out;rw[Wd.out]at h;exact h
end Go.Proofs.YtaadbccidfdniaaGreat.RH
namespace Go.Proofs.YtaadbccidfdniaaGreat.AD5
open Go.RowKit Go.Proofs.YtaadbccidfdniaaGreat AB Val jB
abbrev Any:Nat→Prop:=fun _=>True
theorem pI (T:Tw)(hT:Wf T)(hs:Small T)(w:World)(vO vP vC:Value)(hP:BC Any w vO vP vC (AQ T)):
  Calls Tryz.prog 135 #[.agg #[vO,vP,vC]] w (ig (AB.Good T) w):=by
 have hs6:=hs.1;obtain⟨aO,cO,aP,cP,aC,cC,rfl,rfl,rfl,Eo,hP1,FC⟩:=hP.open;have HP:=hid hP;have I8:=hid (fun i L hL hg W hP=>AHx T hT hs i L hL hg W (.slice aO T.length cO) (.slice aP T.length cP) (.slice aC T.length cC) hP);clear hP;go_enter Tryz.func135,Tryz.ntmps135;go_wp2_with fail;go_loopw [3] (fun iv wr=>∃k:Nat,k≤T.length∧iv= .int .i64 ((k:Int)-1)∧Hid (AB.Good (T.drop k))∧Below (w.heap.size+2) ((w.alloc (.cells #[.slice aO T.length cO,.slice aP T.length cP,.slice aC T.length cC] 28)).alloc (.cells #[.int .i64 0,.int .i64 0,.int .i64 0,.int .i64 0] 112)) wr) (fun iv _=>(intOf iv+1).toNat);case atStart=>exact⟨T.length,Av _,rfl,hid (by rw[Nb];trivial),A7 _ _⟩
 case round=>
  obtain⟨k,hk,rfl,hg,hb⟩:=hrel;obtain⟨⟨e0,e1,e2⟩,hf,hkk,hbw,hsz⟩:=Il hb;have HB:=hid hb;have HK:=hid hkk;have A9:=hid hbw;have f0:=Ah _ (w.heap.size+1) 0 _ _ (0,0) hf;have f1:=Ah _ (w.heap.size+1) 1 _ _ (0,0) hf;have f2:=Ah _ (w.heap.size+1) 2 _ _ (0,0) hf;have f3:=Ah _ (w.heap.size+1) 3 _ _ (0,0) hf;have z0:=BQ _ (w.heap.size+1) 0 _ _ hf;have z1:=BQ _ (w.heap.size+1) 1 _ _ hf;have z2:=BQ _ (w.heap.size+1) 2 _ _ hf;have z3:=BQ _ (w.heap.size+1) 3 _ _ hf;simp at f0 f1 f2 f3;clear hb hkk hbw hf;by_cases h0:k=0
  ·subst h0;have hd:decide (((0:Nat):Int)-1≥0)=false:=by decide
   go_wp2_with fail;exact Aj (v:=.agg #[.int .i64 0,.int .i64 0,.int .i64 0,.int .i64 0]) (by simp[results,Tryz.results135,go_sem,f0,f1,f2,f3]) rfl
    ⟨0,_,_,_,rfl,⟨fun _=>hg.out,fun _=>rfl⟩,(((A9.out.setCell (by simp) _).setCell (by simp) _).setCell (by simp) _).setCell (by simp) _⟩
  ·obtain⟨i,rfl⟩:∃i,k=i+1:=⟨k-1,by omega⟩;obtain⟨L,hL⟩:∃L,T[i]?=some L:=⟨_,AO (by omega)⟩;have HL:=hid hL;have GH:=hid (show AB.Good (T.drop i)↔Gq L (T.drop (i+1)) from by
    rw[Fw hL,AAp];exact⟨fun h=>h.2,fun h=>⟨hg.out,h⟩⟩)
   have hii:(((i+1:Nat):Int)-1)=(i:Int):=by omega
   rw[hii];clear hL h0 hii;go_wp2_with fail;refine(I8.out i L HL.out hg.out _ (HP.out.keep HK.out)).mono ?_;rintro e w1 ⟨k,l,a,b,rfl,hif,hbel⟩;have AGZ:=hid hif;have HB1:=hid (HB.out.trans (hbel.mono hsz));clear hbel f0 f1 f2 f3 z0 z1 z2 z3 e0 e1 e2 hif;have hsz1:w.heap.size+2≤w1.heap.size:=(Il HB1.out).2.2.2.2;by_cases hk0:k=0
   ·subst hk0;have HGI:=hid (GH.out.2 (AGZ.out.1 rfl));go_wp2_with fail;go_roundw;case rel=>exact⟨i,by omega,rfl,HGI,(HB1.out.alloc (by omega) _)⟩
    case measure=>simp[intOf]<;>omega
   ·have hkn:(k !=0)=true:=by simpa using hk0
    have HN:=hid (show¬AB.Good T from fun h=>hk0 (AGZ.out.2 (GH.out.1 (PZ h i))));have HK0:=hid hk0;clear hk0;obtain⟨⟨e0,e1,e2⟩,hf,hkk,hbw,hsz⟩:=Il HB1.out;have f0:=Ah _ (w.heap.size+1) 0 _ _ (0,0) hf;have f1:=Ah _ (w.heap.size+1) 1 _ _ (0,0) hf;have f2:=Ah _ (w.heap.size+1) 2 _ _ (0,0) hf;have f3:=Ah _ (w.heap.size+1) 3 _ _ (0,0) hf;have z0:=BQ _ (w.heap.size+1) 0 _ _ hf;have z1:=BQ _ (w.heap.size+1) 1 _ _ hf;have z2:=BQ _ (w.heap.size+1) 2 _ _ hf;have z3:=BQ _ (w.heap.size+1) 3 _ _ hf;simp at f0 f1 f2 f3;have QC:=hid hbw;have hlt1:w.heap.size+1<w1.heap.size:=by omega
    clear hf hkk hbw;go_wp2_with fail;exact Aj (v:=.agg #[.int .i64 k,.int .i64 l,.int .i64 a,.int .i64 b]) (by simp[results,Tryz.results135,go_sem,f0,f1,f2,f3,hlt1]) rfl
     ⟨k,_,_,_,rfl,⟨fun h=>absurd h HK0.out,fun h=>absurd h HN.out⟩,((((QC.out.setCell (by simp) _).setCell (by simp) _).setCell (by simp) _).setCell (by simp) _).alloc (by simp;omega) _⟩
end Go.Proofs.YtaadbccidfdniaaGreat.AD5
namespace Go.Proofs.YtaadbccidfdniaaGreat.sU
open Go.RowKit Go.Proofs.YtaadbccidfdniaaGreat AB Val jB Ni Ct
theorem AGt (T:Tw)(hT:Wf T)(hs:Small T)(w:World)(vO vP vC:Value)(hP:BC (fun _=>True) w vO vP vC (AQ T)):
  Calls Tryz.prog 93 #[.agg #[vO,vP,vC]] w (QN (AB.Good T) w):=by
 have HP:=hid hP;have HF:=hid (fun W hP=>AD5.pI T hT hs W vO vP vC hP);clear hP hs hT;go_enter Tryz.func93,Tryz.ntmps93;go_wp2_with fail;have HB:Hid (Below w.heap.size w (w.alloc (.cells #[vO,vP,vC] 28))):=hid (AX.alloc (by simp) _);refine(HF.out _ (HP.out.keep (AA.of_below HB.out))).mono ?_;rintro e w1 ⟨k,l,a,b,rfl,hif,hbel⟩;have A9:=hid (HB.out.trans (hbel.mono (by simp)));have GH:=hid hif;have MQ:∀w:World,(Instr.field 112 (.agg #[.int .i64 k,.int .i64 l,.int .i64 a,.int .i64 b]) 0).run Tryz.prog w= .ok (.int .i64 k) w:=fun _=>by kernel_rfl
 clear hbel hif;by_cases hk:k=0
 ·subst hk;have HY:=hid (GH.out.1 rfl);go_wp2_with fail;go_ret;exact VS HY.out A9.out
 ·have hd:(k==0)=false:=by simpa using hk
  have HN:=hid (show¬AB.Good T from fun h=>hk (GH.out.2 h));clear hk;go_wp2_with fail;go_ret;exact FV HN.out A9.out
theorem Su (w:World)(vO vP vC:Value)(P:Bu)(hP:BC (fun _=>True) w vO vP vC P):
  Calls Tryz.prog 50 #[.agg #[vO,vP,vC]] w (QN (Bb P) w):=by
 have HP:=hid hP;have HV:=hid (fun W h=>Yc.VI W vO vP vC P h);have HC:=hid (fun T (hT:Wf T) (hs:Small T) W h=>AGt T hT hs W vO vP vC h);clear hP;have HB:Hid (Below w.heap.size w (w.alloc (.cells #[vO,vP,vC] 28))):=hid (AX.alloc (by simp) _);by_cases hv:Valid P
 ·obtain⟨T,hT,hs,rfl⟩:=hv.tower;have NB:=hid hv;have HT:=hid hT;have HS:=hid hs;clear hv hT hs;by_cases hg:AB.Good T
  ·have HG:=hid hg;clear hg;go_enter Tryz.func50,Tryz.ntmps50;go_wp2_with fail;refine(HV.out _ (HP.out.keep (AA.of_below HB.out))).mono ?_;rintro e w1 ⟨r,rfl,hr,hb1⟩;obtain rfl:=hr.2 NB.out;obtain⟨e0,e1,e2⟩:=Cq ((AX.trans (hb1.mono (by simp))));have HB1:=hid (HB.out.trans (hb1.mono (by simp)));clear hb1 hr;go_wp2_with (go_at_call 93;refine(HC.out T HT.out HS.out _ (HP.out.keep (AA.of_below HB1.out))).mono ?_;rintro e w2 ⟨r,rfl,hr,hb2⟩;obtain rfl:=hr.2 HG.out;replace hb2:=hid hb2);go_ret;exact VS ⟨T,HT.out,HS.out,rfl,NB.out,HG.out⟩ (HB1.out.trans (hb2.out.mono HB1.out.size))
  ·have HG:=hid hg;clear hg;have Uy:Hid (¬Bb (AQ T)):=hid (fun h=>HG.out h.good);go_enter Tryz.func50,Tryz.ntmps50;go_wp2_with fail;refine(HV.out _ (HP.out.keep (AA.of_below HB.out))).mono ?_;rintro e w1 ⟨r,rfl,hr,hb1⟩;obtain rfl:=hr.2 NB.out;obtain⟨e0,e1,e2⟩:=Cq ((AX.trans (hb1.mono (by simp))));have HB1:=hid (HB.out.trans (hb1.mono (by simp)));clear hb1 hr;go_wp2_with (go_at_call 93;refine(HC.out T HT.out HS.out _ (HP.out.keep (AA.of_below HB1.out))).mono ?_;rintro e w2 ⟨r,rfl,hr,hb2⟩;obtain rfl:=(Bool.eq_false_iff.2 (fun h=>HG.out (hr.1 h)));replace hb2:=hid hb2);go_ret;exact FV Uy.out (HB1.out.trans (hb2.out.mono HB1.out.size))
 ·have HN:=hid hv;have Uy:Hid (¬Bb P):=hid (by rintro⟨T',_,_,_,h,_⟩;exact HN.out h);clear hv;go_enter Tryz.func50,Tryz.ntmps50;go_wp2_with fail;refine(HV.out _ (HP.out.keep (AA.of_below HB.out))).mono ?_;rintro e w1 ⟨r,rfl,hr,hb1⟩;obtain rfl:=(Bool.eq_false_iff.2 (fun h=>HN.out (hr.1 h)));have HB1:=hid (HB.out.trans (hb1.mono (by simp)));clear hb1 hr;go_wp2_with fail;go_ret;exact FV Uy.out HB1.out
end Go.Proofs.YtaadbccidfdniaaGreat.sU

import Derived.Test.YtlmlamcoeegkbaaGreatZ0
import Derived.Test.YtlmlamcoeegkbaaGreatZA
import Derived.Test.YtlmlamcoeegkbaaGreatZp
import Derived.Deep.AppendLies
import Derived.Test.YtlmlamcoeegkbaaGreatZf
import Derived.Test.YtlmlamcoeegkbaaGreatZa
import Derived.Test.YtlmlamcoeegkbaaGreatZq
/-
  Lemmas for the law FnStandardForms, in short spelling.
-/
open Go.Lib (hid)
set_option linter.unusedVariables false
set_option linter.unusedSimpArgs false
set_option maxRecDepth 100000
set_option maxHeartbeats 40000000
namespace Go.Proofs.YtlmlamcoeegkbaaGreat.RL
open Go.RowKit Go.Proofs.YtlmlamcoeegkbaaGreat AJ CV Dq F9 Wl IK DL JA LD JB Nj LF Z8 WM
theorem bx {w wr:World}{a0 a1 a2 b0 b1 b2:Value}{t t2:TypeId}(hb:Below (w.heap.size+2) ((w.alloc (.cells #[a0,a1,a2] t)).alloc (.cells #[b0,b1,b2] t2)) wr):
  (wr.cell? ⟨w.heap.size,0,none⟩=some a0∧wr.cell? ⟨w.heap.size,1,none⟩=some a1∧wr.cell? ⟨w.heap.size,2,none⟩=some a2)∧
  (wr.cell? ⟨w.heap.size+1,0,none⟩=some b0∧wr.cell? ⟨w.heap.size+1,1,none⟩=some b1∧wr.cell? ⟨w.heap.size+1,2,none⟩=some b2)∧
  AA (fun _=>True) w wr∧Below w.heap.size w wr∧w.heap.size+2≤wr.heap.size:=by
 obtain⟨h1,h2,h3,h4,h5⟩:=Z9.IV hb;exact⟨h1,⟨(Aq _ _ _ _ _ (0,0) h2).trans rfl,(Aq _ _ _ _ _ (0,0) h2).trans rfl,(Aq _ _ _ _ _ (0,0) h2).trans rfl⟩,h3,h4,h5⟩
theorem Own2.put {e2 e:TypeId}(hne:e≠e2){B:Nat}{w:World}{g c:Nat}{rows:List (List Nat)}(h:Own2 e2 e B w (.slice (some ⟨g,0,none⟩) rows.length c) rows)(k:Nat){u:Value}{r:List Nat}(hu:CL e B w u r):
  Own2 e2 e B (w.setCell ⟨g,k,none⟩ u) (.slice (some ⟨g,0,none⟩) rows.length c) (rows.set k r):=by
 obtain⟨us,h1,h2,h3⟩:=h;have hs:=Py h1 k u;have hkp:∀v r,CL e B w v r→CL e B (w.setCell ⟨g,k,none⟩ u) v r:=fun v r hr=>⟨hr.1,Nr hr.2 hs.2 (JY hr.2 h1 hne)⟩;refine⟨us.set k u,by simpa using hs.1,by simp[h2],fun i r' v hr hv=>?_⟩;by_cases hi:i=k
 ·subst hi;have hil:i<rows.length:=by
   have:=(Ak.1 hr).1;simpa using this
  rw[Oz hil]at hr;rw[Oz (by omega)]at hv;injection hr with hr;injection hv with hv;subst hr;subst hv;exact hkp _ _ hu
 ·rw[Pz (fun h=>hi h.symm)]at hr hv;exact hkp _ _ (h3 i r' v hr hv)
theorem Own2.ABg {e2 e:TypeId}(hne:e≠e2){B n:Nat}{w:World}{g c:Nat}{rows:List (List Nat)}(hn:rows.length=n)(h:Own2 e2 e B w (.slice (some ⟨g,0,none⟩) n c) rows)(k:Nat){u:Value}{r:List Nat}(hu:CL e B w u r):
  Own2 e2 e B (w.setCell ⟨g,k,none⟩ u) (.slice (some ⟨g,0,none⟩) n c) (rows.set k r):=by
 subst hn;exact Own2.put hne h k hu
theorem Own2.AA5 {e2 e:TypeId}{B n:Nat}{w:World}{g c:Nat}{rows:List (List Nat)}(h:Own2 e2 e B w (.slice (some ⟨g,0,none⟩) n c) rows){k:Nat}(hk:k<rows.length):(∃u,w.cell? ⟨g,k,none⟩=some u)∧w.frozen? ⟨g,k,none⟩=false:=by
 obtain⟨us,h1,h2,h3⟩:=h;have hn:n=rows.length:=by
  rcases h1.2 with⟨h',_⟩|⟨g',cap,cur,h',_⟩
  ·cases h'
  ·simp only[C8]at h';exact h'.2.1
 subst hn;obtain⟨u,hu⟩:∃u,us[k]?=some u:=⟨_,AP (by omega)⟩;exact⟨⟨u,by rw[Ma h1 k (by omega)];exact hu⟩,WH h1 k⟩
theorem AHo {B:Nat}{wr w':World}(hB:B≤wr.heap.size)(h:AA (fun k=>k<B) wr w'):(∀b o,b<B→w'.cell? ⟨b,o,none⟩=wr.cell? ⟨b,o,none⟩)∧AA (fun k=>k<B) wr w':=⟨fun b o hb=>h.cell hb (Ad hb hB),h⟩
def FT (Q:Tw)(L:Lv)(im:List (List Nat))(x:List Nat)(m:Nat):Prop:=
 npow (mul Q) (AJ.one Q) x L.o=ev (mul Q) (AJ.one Q) im L.w∧∀k,k<m→∀y,L.c[k]?=some y→mul Q (im.getD k (AJ.one Q)) x=mul Q x (ev (mul Q) (AJ.one Q) im y)
theorem AHM {Q:Tw}{L:Lv}{im:List (List Nat)}{x:List Nat}:FT Q L im x L.c.length↔IL Q L im x:=
 ⟨fun h=>⟨h.1,fun k y hy=>h.2 k (Ak.1 hy).1 y hy⟩,fun h=>⟨h.1,fun k _ y hy=>h.2 k y hy⟩⟩
theorem AHp {Q:Tw}{L:Lv}{im:List (List Nat)}{x:List Nat}{m:Nat}(h:IL Q L im x):FT Q L im x m:=⟨h.1,fun k _ y hy=>h.2 k y hy⟩
theorem AGH {Q:Tw}{L:Lv}{im:List (List Nat)}{x y:List Nat}{m:Nat}(hy:L.c[m]?=some y):FT Q L im x (m+1)↔FT Q L im x m∧mul Q (im.getD m (AJ.one Q)) x=mul Q x (ev (mul Q) (AJ.one Q) im y):=by
 constructor
 ·intro h;exact⟨⟨h.1,fun k hk=>h.2 k (by omega)⟩,h.2 m (by omega) y hy⟩
 ·rintro⟨h1,h2⟩;refine⟨h1.1,fun k hk z hz=>?_⟩;rcases FK.1 hk with h|h
  ·exact h1.2 k h z hz
  ·subst h;rw[hy]at hz;injection hz with hz;subst hz;exact h2
def kn (Q:Tw)(Aa:List (List Nat))(k:Nat):List (List Nat):=List.replicate k (AJ.one Q)++Aa.drop k
theorem jf {Q:Tw}{Aa:List (List Nat)}{k:Nat}(h:k≤Aa.length):(kn Q Aa k).length=Aa.length:=by simp[kn];omega
theorem AHN {Q:Tw}{Aa:List (List Nat)}{k:Nat}(h:k<Aa.length):(kn Q Aa k).set k (AJ.one Q)=kn Q Aa (k+1):=by
 unfold kn;rw[List.set_append_right _ _ (by simp),show k-(List.replicate k (AJ.one Q)).length=0 by simp,EZ h,Az,Om,JF];rfl
theorem AHq {Q:Tw}(hQ:Wf Q){Aa:List (List Nat)}(h:∀x∈Aa,El Q x)(k:Nat):∀x∈kn Q Aa k,El Q x:=fun x hx=>by
 rcases Hr.1 hx with h1|h1
 ·rw[(IQ.1 h1).2];exact Dm hQ
 ·exact h x (LJ h1)
theorem zh {Q:Tw}{Aa:List (List Nat)}{k:Nat}:(kn Q Aa k).drop k=Aa.drop k:=by simp[kn]
open Classical in
noncomputable def may (Q:Tw)(L:Lv)(im:List (List Nat))(t:Nat):Bool:=decide (¬Gen.Gen (mul Q) (AJ.one Q) im (at_ Q t)∧IL Q L im (at_ Q t))
open Classical in
theorem ZU {Q:Tw}{L:Lv}{im:List (List Nat)}{t:Nat}:may Q L im t=true↔¬Gen.Gen (mul Q) (AJ.one Q) im (at_ Q t)∧IL Q L im (at_ Q t):=by
 unfold may;exact Ht
noncomputable def Gb (Q:Tw)(L:Lv)(im:List (List Nat)):List (List Nat):=(nums (may Q L im) (sz Q)).map (at_ Q)
theorem AD0 (T Q:Tw)(hT:Wf T)(D8:Small T)(hQ:Wf Q)(hs:Small Q)(hg:AJ.Good Q)(hp:Pr Q)(hz:sz Q≤729)(w:World)(pO pP pC qO qP qC vi:Value)(i:Nat)(L:Lv)(hL:T[i]?=some L)(Aa:List (List Nat))
  (Le:Aw Any w pO pP pC (AX T)) (hPQ:Aw Any w qO qP qC (AX Q)) (hi:AV Any w vi (Aa.map ints)) (hil:Aa.length=T.length) (hie:∀x∈Aa,El Q x) (hq0:0<Q.length∨(Q=[]∧i+1=T.length)):
  Calls Tryz.prog 135 #[.agg #[pO,pP,pC],.agg #[qO,qP,qC],.int .i64 (i:Int),vi] w (KU 24 2 (Gb Q L (Aa.drop (i+1))) w):=by
 obtain⟨i0,UN,hz0,hz1,hz2⟩:=CO JC;have hiT:i<T.length:=(Ak.1 hL).1;have R9:=D8.1;obtain⟨aO,cO,aP,cP,aC,cC,rfl,rfl,rfl,Er,hP1,FP⟩:=Le.open;have J6:=hid Le;have H6:=hid hPQ;have HI:=hid hi;have J7:=hid hie;have Ms:=hid hil;have HG:=hid (Ba hQ hg);have Et:=hid hL;have Ih:=hid (Bf.MJ Q);have Jj:=hid hQ;have HOWN:=hid (fun W hv=>Vi W vi Aa hv (by omega) (fun r hr=>by rw[Af (hie r hr)];have:=hs.1;omega));have UO:=hid (fun W hO=>Bf.Vs Q hs.1 W qO qP qC hO);have SA:=hid (fun W vu va us es hP hu ha hl Es GI hes=>AEj Q hQ hs hg W qO qP qC vu va us es hP hu ha hl Es GI hes);have AIX:∀x∈Aa.drop (i+1),El Q x:=fun x hx=>hie x (LJ hx);have Bn:=hid (fun W hO=>Bf.I5 Q (Bf.Os.of hQ hs hz) W qO qP qC hO);have Fp:=hid (fun W v (hP:Aw Any W qO qP qC (AX Q)) (hi:AV Any W v ((Aa.drop (i+1)).map ints))=>show Calls Tryz.prog 182 #[.agg #[qO,qP,qC],v] W (WN.Zg Q (Aa.drop (i+1)) W) from by
  rcases hq0 with h|⟨h1,h2⟩
  ·exact WN.AEk Q hQ hs hg hp h W qO qP qC v (Aa.drop (i+1)) hP hi AIX (by simp;omega)
  ·subst h1;have h3:Aa.drop (i+1)=[]:=WE (by omega);rw[h3]at hi ⊢;exact AAW.AEG W qO qP qC v hP hi)
 have AIY:=hid hq0;have Lf:=hid (fun W v tl dn (Ka:Hf.FD Q tl dn 0) (LP:Hf.N8 Q (Aa.drop (i+1)) tl) hP hu=>ADw Q hQ hs hg hz W qO qP qC v _ _ hP hu (O1.Wo hQ hs hg Ka LP).1 (O1.Wo hQ hs hg Ka LP).2.1 (O1.Wo hQ hs hg Ka LP).2.2.1 (Ab (O1.Wo hQ hs hg Ka LP).2.2.2 hz));have Gt:=hid (fun tl dn (Ka:Hf.FD Q tl dn 0) (LP:Hf.N8 Q (Aa.drop (i+1)) tl) t (ht:t<sz Q)=>O1.AFN hQ hs hg Ka LP ht);have OA:=hid (fun W va x hO hx hE hlt=>Bf.Vd Q (Bf.Os.of hQ hs hz) W qO qP qC va x hO hx hE hlt);have AIZ:=hid (show L.o≤7 from D8.2 L (Ar hL));have HAT:=hid (fun W q (hq:q≤1000000) hO=>Bf.MO Q (Bf.Os.of hQ hs hz) (fun L h=>by have:=hs.2 L h;omega) q hq W qO qP qC hO);have bV:=hid (fun W va a K hK hP ha hA=>P8.Y9 Q hQ hs hg W qO qP qC va a K hK hP ha hA);have ABh:=hid (fun W va vb a b hP ha hb hA hB=>Q8 Q hQ hs W qO qP qC va vb a b hP ha hb hA hB);have AK6:=AA2 (sz Q) hz;obtain⟨WB,ql⟩:∃WB,WB=(w.alloc (.cells #[.slice aO T.length cO,.slice aP T.length cP,.slice aC T.length cC] 28)).alloc (.cells #[qO,qP,qC] 28):=⟨_,rfl⟩;have HB0:=hid (show Below (w.heap.size+2) ((w.alloc (.cells #[.slice aO T.length cO,.slice aP T.length cP,.slice aC T.length cC] 28)).alloc (.cells #[qO,qP,qC] 28)) WB by rw[ql];exact Ag _ _);clear Le hPQ hi hie hil hL hq0;go_enter Tryz.func135,Tryz.ntmps135;go_upto_region 1 with fail;rw[←ql];clear ql;obtain⟨⟨p0,p1,p2⟩,⟨q0,q1,q2⟩,hk,hbw,hsz⟩:=bx HB0.out;go_wp2_with fail;refine(HOWN.out _ (HI.out.keep hk)).mono ?_;rintro e w1 ⟨v1,rfl,ho1,hb1⟩;have Db:=hid (ho1.mono (B':=w.heap.size+2) hsz);have HB1:=hid (HB0.out.trans (hb1.mono hsz));clear ho1 hb1 hk hbw hsz p0 p1 p2 q0 q1 q2 HOWN HI;obtain⟨g1,c1,_,hv1,hgB,AK7,_,_⟩:=Db.out.at (i:=0) (r:=Aa[0]'(by have:=Ms.out;omega)) (by rw[AP]);rw[Ms.out]at hv1;subst hv1;go_wp2_with fail;go_loopw [10] (fun kv wr=>∃k:Nat,k≤i+1∧kv= .int .i64 (k:Int)∧Hid (Own2 24 2 (w.heap.size+2) wr (.slice (some ⟨g1,0,none⟩) T.length c1) (kn Q Aa k))∧Below (w.heap.size+2) ((w.alloc (.cells #[.slice aO T.length cO,.slice aP T.length cP,.slice aC T.length cC] 28)).alloc (.cells #[qO,qP,qC] 28)) wr) (fun kv _=>i+1-(intOf kv).toNat);case atStart=>exact⟨0,AU _,rfl,Db,HB1.out⟩
 case round=>
  obtain⟨k,hk,rfl,hO,hB⟩:=hrel;have qm:=hid hB;obtain⟨⟨p0,p1,p2⟩,⟨q0,q1,q2⟩,hkk,hbw,hsz⟩:=bx hB;have hqb:w.heap.size+1<wr.heap.size:=by omega
  by_cases hlt:k<i+1
  ·have qp:k<Aa.length:=by have:=Ms.out;omega
   have hle:(k:Int)≤(i:Int):=by omega
   have hkn:(k:Int)<(T.length:Int):=by omega
   have hk0:(0:Int)≤(k:Int):=by omega
   have hks:decide ((k:Int)≤(i:Int))=true:=by simp;omega
   have hki:k≤i:=by omega
   have QT:=hid qp;have Mt:=hid (show AL Any wr qO (ints (Bf.Fg Q)) from by
    have h:=(H6.out.keep hkk).os;rwa[Ih.out]at h)
   clear hB hkk hbw qp;go_wp2_with fail;refine(UO.out _ Mt.out).mono ?_;rintro e w2 ⟨g2,c2,rfl,ho2,hb2⟩;have Di:=hid (hO.out.of_below hb2);obtain⟨⟨u2,s2⟩,f2⟩:=Own2.AA5 Di.out (k:=k) (by rw[jf (by have:=QT.out;omega)];exact QT.out);have HR2:=hid (Ec.row (ho2.mono (B':=w.heap.size+2) hsz));have HB2:=hid (qm.out.trans (hb2.mono hsz));have HN:=hid (show Own2 24 2 (w.heap.size+2) (w2.setCell ⟨g1,k,none⟩ (.slice (some ⟨g2,0,none⟩) (ints (AJ.one Q)).length c2)) (.slice (some ⟨g1,0,none⟩) T.length c1) (kn Q Aa (k+1)) from by
    have h:=Own2.ABg (by decide) (by rw[jf (by have:=QT.out;omega)];exact Ms.out) Di.out k HR2.out;rwa[AHN QT.out]at h)
   have Ld:=hid (HB2.out.setCell (p:=⟨g1,k,none⟩) hgB (.slice (some ⟨g2,0,none⟩) (ints (AJ.one Q)).length c2));clear ho2 hb2 hO;go_wp2_with fail;go_roundw;case rel=>exact⟨k+1,by omega,by go_num,HN,Ld.out⟩
   case measure=>simp[intOf]<;>omega
  ·obtain rfl:k=i+1:=by omega
   have hle:¬((i+1:Nat):Int)≤(i:Int):=by omega
   have hki:¬i+1≤i:=by omega
   clear hlt Db HB1 UO;go_upto_region 6 with fail;obtain⟨bP,oP,uP,rfl,_,EK,hcP,EA⟩:=J6.out.pow Et.out;obtain⟨bC,oC,a2,c2,rfl,_,hbC,hcC,h21,GJ⟩:=J6.out.J8 Et.out;have hlv:=lvl' hT Et.out;have eH:(kn Q Aa (i+1)).length=T.length:=by rw[jf (by have:=Ms.out;omega)];exact Ms.out
   have hKE:=AHq Jj.out J7.out (i+1);have qw:=hid (hO.out.sl.mono (fun _ _=>trivial):AV Any wr (.slice (some ⟨g1,0,none⟩) T.length c1) ((kn Q Aa (i+1)).map ints));have LQ:=hid (H6.out.keep hkk);have AIa:=(hkk.cell (b:=bP) (o:=oP+i) trivial EK).trans hcP;have Wp:=(hkk.cell (b:=bC) (o:=oC+i) trivial hbC).trans hcC;have ABi:=hid (AL.keep EA hkk);have Ij:=hid (fun k y (hy:L.c[k]?=some y)=>by
    obtain⟨b2,o2,u,h1,h2,h3,h4,h5⟩:=GJ k y hy;exact(⟨b2,o2,u,h1,Ad h3 hkk.size,(hkk.cell trivial h3).trans h4,AL.keep h5 hkk⟩:∃b2 o2 u,a2=some ⟨b2,o2,none⟩∧b2<wr.heap.size∧wr.cell? ⟨b2,o2+k,none⟩=some u∧AL Any wr u (ints (pad (i+1) y))))
   have hap:∀y,El (T.drop (i+1)) y→(kn Q Aa (i+1)).length≤(pad (i+1) y).length∧(∀a∈pad (i+1) y,a≤1000)∧BO (mul Q) (AJ.one Q) (kn Q Aa (i+1)) (pad (i+1) y)=ev (mul Q) (AJ.one Q) (Aa.drop (i+1)) y∧El Q (ev (mul Q) (AJ.one Q) (Aa.drop (i+1)) y):=fun y hy=>by
    have hdE:∀x∈Aa.drop (i+1),El Q x:=fun x hx=>J7.out x (LJ hx);refine⟨by rw[eH,BZ,Af hy];simp;omega,fun a ha=>?_,?_,HG.out.ev hdE y⟩
    ·rcases Hr.1 ha with h|h
     ·rw[(IQ.1 h).2];omega
     ·obtain⟨j,hj⟩:=IP h;obtain⟨L',hL',hlt⟩:=P7 hy hj;have:=D8.2 L' (LJ (Ar hL'));omega
    ·rw[jg _ _ _ _ _ (by rw[eH];omega),zh,HG.out.Na hdE]
   have UQ:=hid hap;have Ik:=hid hlv;have PK:=hid hKE;have qx:=hid eH;have mY:w.heap.size<wr.heap.size:=by omega
   have mZ:w.heap.size+1<wr.heap.size:=by omega
   have AK8:bP<wr.heap.size:=Ad EK hkk.size;have AIb:bC<wr.heap.size:=Ad hbC hkk.size;have hii:(i:Int)<(T.length:Int):=by omega
   have hi0:(0:Int)≤(i:Int):=by omega
   have Au:=hid hbw;clear hap hlv eH hKE EA GJ hcP hcC hO hB hbw;go_region_held3 (fun w'=>(∀b o,b<wr.heap.size→w'.cell? ⟨b,o,none⟩=wr.cell? ⟨b,o,none⟩)∧AA (fun _=>True) wr w')
    (first|exact Aj (by repeat(first|exact AB.drew|exact AA.refl _ _|refine AA.drewN ?_ _|refine AA.trans ?_ (AA.of_below (by assumption)))))
    (first|(go_at_call 81;refine(SA.out _ (.slice (some ⟨g1,0,none⟩) T.length c1) uP _ _ (LQ.out.keep (by repeat(first|exact AB.drew|exact AA.refl _ _|exact AB.alloc _|exact(AB.alloc _).drew|refine AA.drewN ?_ _|refine AA.trans ?_ (AA.of_below (by assumption))))) (AV.keep qw.out (by repeat(first|exact AB.drew|exact AA.refl _ _|exact AB.alloc _|exact(AB.alloc _).drew|refine AA.drewN ?_ _|refine AA.trans ?_ (AA.of_below (by assumption))))) (ABi.out.keep (by repeat(first|exact AB.drew|exact AA.refl _ _|exact AB.alloc _|exact(AB.alloc _).drew|refine AA.drewN ?_ _|refine AA.trans ?_ (AA.of_below (by assumption))))) (UQ.out L.w Ik.out.2.2.2.1).1 (by rw[qx.out];omega) PK.out (UQ.out L.w Ik.out.2.2.2.1).2.1).mono ?_;rintro e w6 ⟨vp,rfl,Al,hb6⟩))
   rw[(UQ.out L.w Ik.out.2.2.2.1).2.2.1]at Al;have RU:Below wr.heap.size wr w6:=(by repeat(first|exact Ag _ _|exact AR.drew|refine Below.step ?_ AQ (by assumption)));have Xi:=hid (Al.sl.mono (S':=Any) (fun _ _=>trivial));have ABj:=hid RU;have k6:∀b o,b<wr.heap.size→w6.cell? ⟨b,o,none⟩=wr.cell? ⟨b,o,none⟩:=fun b o h=>(AA.of_below (S:=Any) RU).cell trivial h;have hs6:=RU.size;have t0:=(k6 _ 0 mY).trans p0;have t1:=(k6 _ 2 mY).trans p2;have r0:=(k6 _ 0 mZ).trans q0;have r1:=(k6 _ 1 mZ).trans q1;have r2:=(k6 _ 2 mZ).trans q2;have ABk:=(k6 _ _ AIb).trans Wp;have ABl:=hid (LQ.out.keep (AA.of_below RU));have mg:=hid (AV.keep qw.out (AA.of_below RU));have ABm:=hid (fun k y (hy:L.c[k]?=some y)=>by
    obtain⟨b2,o2,u,h1,h3,h4,h5⟩:=Ij.out k y hy;exact(⟨b2,o2,u,h1,Ad h3 hs6,(k6 _ _ h3).trans h4,AL.keep h5 (AA.of_below RU)⟩:∃b2 o2 u,a2=some ⟨b2,o2,none⟩∧b2<w6.heap.size∧w6.cell? ⟨b2,o2+k,none⟩=some u∧AL Any w6 u (ints (pad (i+1) y))))
   have h00:=FL (base:=w6.heap.size) (e:=24) (size:=1) w6 #[] 0 AQ (AU _) rfl;have hwi:IntKind.i64.wrap ((i:Int)+1)=(i:Int)+1:=AY _ (by omega);clear Al hb6 RU k6 hkk p0 p1 p2 q0 q1 q2 AIa Wp ABi LQ qw Ij hle hki;go_wp2_with fail;rename World=>wo;obtain⟨im,him⟩:∃im,im=Aa.drop (i+1):=⟨_,rfl⟩;rw[←him]at Xi UQ Fp Lf Gt;have UR:=hid him;have hiA:i+1≤T.length:=by omega
   clear him;go_loopw [12,13] (fun mv jv wr=>∃m:Nat,m≤L.c.length∧jv= .int .i64 ((i:Int)+1+(m:Int))∧Hid (Own2 24 2 wo.heap.size wr mv ((L.c.take m).map (ev (mul Q) (AJ.one Q) im)))∧Below wo.heap.size wo wr) (fun _ jv _=>T.length-(intOf jv).toNat);case atStart=>exact⟨0,AU _,Bp (Value.int .i64) (by omega),hid ⟨[],h00,rfl,by simp⟩,AR.alloc AQ _⟩
   case round=>
    obtain⟨m,hm,rfl,eT,hb⟩:=hrel;have HBm:=hid hb;have hsm:=hb.size;have k7:∀b o,b<wo.heap.size→wr.cell? ⟨b,o,none⟩=wo.cell? ⟨b,o,none⟩:=fun b o h=>(AA.of_below (S:=Any) hb).cell trivial h;have ABn:w.heap.size<wo.heap.size:=by omega
    have lu:w.heap.size+1<wo.heap.size:=by omega
    have AIc:bC<wo.heap.size:=by omega
    have x0:=(k7 _ 0 ABn).trans t0;clear h00;by_cases hlt:m<L.c.length
    ·have Xj:0<Q.length:=by
      rcases AIY.out with h|⟨_,h2⟩
      ·exact h
      ·have:=Ik.out.2.1;omega
     obtain⟨y,hy⟩:∃y,L.c[m]?=some y:=⟨_,AP hlt⟩;obtain⟨b2,o2,um,rfl,AId,ABo,hum⟩:=ABm.out m y hy;have x1:=(k7 _ 2 ABn).trans t1;have y0:=(k7 _ 0 lu).trans r0;have y1:=(k7 _ 1 lu).trans r1;have y2:=(k7 _ 2 lu).trans r2;have z0:=(k7 _ _ AIc).trans ABk;have z1:=(k7 _ _ AId).trans ABo;have LQ:=hid (ABl.out.keep (AA.of_below hb));have Wq:=hid (AV.keep mg.out (AA.of_below hb));have AIe:=hid (AL.keep hum (AA.of_below hb));have Gc:=Ik.out.2.2.1 y (Ar hy);have HA:=hid (UQ.out y Gc);have ET:=hid Gc;have Ga:=hid (show(L.c.take (m+1)).map (ev (mul Q) (AJ.one Q) im)=(L.c.take m).map (ev (mul Q) (AJ.one Q) im)++[ev (mul Q) (AJ.one Q) im y] by rw[Jd,hy];simp);have qy:=hid (show((L.c.take m).map (ev (mul Q) (AJ.one Q) im)).length=m by simp;omega);obtain⟨OC,h1,h2,h4⟩:=eT.out;rw[qy.out]at h1;have hgr:∀k,k<wo.heap.size→some k≠Value.ownBlock _:=fun k hk e=>by have:=(BH h1 k e.symm).1;omega
     have Gs:=hid (And.intro h1 (And.intro h2 h4));have qz:m≤6:=by have:=Ik.out.2.1;omega
     have w1:IntKind.i64.wrap (((i:Int)+1+(m:Int))-(i:Int))=(m:Int)+1:=by rw[AY _ (by omega)];omega
     have w2':IntKind.i64.wrap (((m:Int)+1)-1)=(m:Int):=by rw[AY _ (by omega)];omega
     have w8':IntKind.i64.wrap (m:Int)=(m:Int):=AY _ (by omega);have w4':(m:Int)<(L.c.length:Int):=by omega
     have w5':(0:Int)≤(m:Int):=by omega
     have w9':(i:Int)+1+(m:Int)<(T.length:Int):=by have:=Ik.out.2.1;omega
     clear hy hum ABo Gc h1 h2 h4 eT k7 hb;go_wp2_with fail;go_region_held3 (fun w'=>(∀b o,b<wo.heap.size→w'.cell? ⟨b,o,none⟩=wr.cell? ⟨b,o,none⟩)∧AA (fun k=>k<wo.heap.size) wr w')
      (first|exact AHo hsm (by repeat(first|exact AB.drew|exact AA.refl _ _|refine AA.alloc ?_ _|refine AA.trans ?_ (AA.of_below (by assumption))|refine AA.trans ?_ (AA.grown (by assumption) hgr))))
      (first|(go_at_call 81;refine(SA.out _ (.slice (some ⟨g1,0,none⟩) T.length c1) um _ _ (LQ.out.keep (by repeat(first|exact AB.drew|exact AA.refl _ _|exact AB.alloc _|exact(AB.alloc _).drew|refine AA.drewN ?_ _|refine AA.trans ?_ (AA.of_below (by assumption))))) (AV.keep Wq.out (by repeat(first|exact AB.drew|exact AA.refl _ _|exact AB.alloc _|exact(AB.alloc _).drew|refine AA.drewN ?_ _|refine AA.trans ?_ (AA.of_below (by assumption))))) (AIe.out.keep (by repeat(first|exact AB.drew|exact AA.refl _ _|exact AB.alloc _|exact(AB.alloc _).drew|refine AA.drewN ?_ _|refine AA.trans ?_ (AA.of_below (by assumption))))) HA.out.1 (by rw[qx.out];omega) PK.out HA.out.2.1).mono ?_;rintro e w5 ⟨v5,rfl,BF,hb5⟩;rw[HA.out.2.2.1]at BF;obtain⟨g5,c5,hv5⟩:=BF.form (by rw[A7,Af HA.out.2.2.2];exact Xj);rw[A7,Af HA.out.2.2.2]at hv5;subst hv5;have hs5:=hb5.size;have AIf:wr.heap.size≤w5.heap.size:=(show AA (fun _=>True) wr w5 from(by repeat(first|exact AB.drew|exact AA.refl _ _|exact AB.alloc _|exact(AB.alloc _).drew|refine AA.drewN ?_ _|refine AA.trans ?_ (AA.of_below (by assumption))))).size)|(refine Ot _ (by rfl) _ _ _ (by rfl) wo.heap.size 24 i0 (.slice none 0 0) 1 24 Tryz.underlying25 UN hz0 hz1 hz2 rfl (by omega) _ m OC (by rfl) ((BM Gs.out.1 (S:=Any) (by repeat(first|exact AB.drew|exact AA.refl _ _|exact AB.alloc _|exact(AB.alloc _).drew|refine AA.drewN ?_ _|refine AA.trans ?_ (AA.of_below (by assumption)))) (fun _ _=>trivial)).alloc _) ⟨w5.heap.size,0,none⟩ 1 1 [.slice (some ⟨g5,0,none⟩) Q.length c5] (by rfl) (by rfl) (Ea (cs:= #[.slice (some ⟨g5,0,none⟩) Q.length c5]) (t:=24) (fr:=(0,0)) (Av w5 _)) (by simp[Value.oneCell']) (by omega) (by unfold maxLen;omega) (by omega) (by simp;omega) _ rfl ?_;intro gg cap Co IJ EF MR Nk))
     have HN:=hid (show Own2 24 2 wo.heap.size Co (.slice (some ⟨gg,0,none⟩) (m+1) cap) ((L.c.take (m+1)).map (ev (mul Q) (AJ.one Q) im)) from by
      rw[Ga.out];exact Own2.push (w:=w5.alloc _) (us:=OC) (by decide) qy.out ((BM Gs.out.1 (S:=Any) (by repeat(first|exact AB.drew|exact AA.refl _ _|exact AB.alloc _|exact(AB.alloc _).drew|refine AA.drewN ?_ _|refine AA.trans ?_ (AA.of_below (by assumption)))) (fun _ _=>trivial)).alloc _) Gs.out.2.1 (fun i r u hr hu=>((Gs.out.2.2 i r u hr hu).keep (S:=Any) (by repeat(first|exact AB.drew|exact AA.refl _ _|exact AB.alloc _|exact(AB.alloc _).drew|refine AA.drewN ?_ _|refine AA.trans ?_ (AA.of_below (by assumption)))) (fun _ _=>trivial)).keep (S:=Any) (AA.alloc AB _) (fun _ _=>trivial)) ((WN.Vj (BF.mono (B':=wo.heap.size) hsm) (by rw[Af HA.out.2.2.2];exact Xj)).keep (S:=Any) (AA.alloc AB _) (fun _ _=>trivial)) IJ EF)
     have Ld:=hid (show Below wo.heap.size wo Co from by
      have h5:Below wr.heap.size wr w5:=(by repeat(first|exact Ag _ _|exact AR.drew|refine Below.step ?_ AQ (by assumption)));exact((HBm.out.trans (h5.mono hsm)).alloc (by omega) _).grown EF (by simp;omega) (fun g hg=>(BH Gs.out.1 g hg).1))
     clear IJ EF MR Nk BF hb5 hs5 AIf hgr x0 x1 y0 y1 y2 z0 z1;go_wp2_with fail;go_roundw;case rel=>exact⟨m+1,by omega,Bp (Value.int .i64) (by omega),HN,Ld.out⟩
     case measure=>simp[intOf]<;>omega
    ·obtain rfl:m=L.c.length:=by omega
     have hnl:¬(i:Int)+1+(L.c.length:Int)<(T.length:Int):=by have:=Ik.out.2.1;omega
     have JJ:Below (w.heap.size+2) ((w.alloc (.cells #[.slice aO T.length cO,.slice (some ⟨bP,oP,none⟩) T.length cP,.slice (some ⟨bC,oC,none⟩) T.length cC] 28)).alloc (.cells #[qO,qP,qC] 28)) wr:=(qm.out.trans (ABj.out.mono (by omega))).trans (hb.mono (by omega));have Cb:=hid JJ;obtain⟨⟨p0,p1,p2⟩,⟨q0,q1,q2⟩,hkk,_,_⟩:=bx JJ;have mh:=hid (show AV Any wr _ ((L.c.map (ev (mul Q) (AJ.one Q) im)).map ints) from by
      have h:=eT.out.sl;rw[Me]at h;exact h.mono (fun _ _=>trivial))
     have Wq:=hid (AV.keep mg.out (AA.of_below hb));have mo:=hid (AL.keep Xi.out (AA.of_below hb));have LQ:=hid (H6.out.keep hkk);have ABp:=hid (show AL Any wr qO (ints (Bf.Fg Q)) from by
      have h:=LQ.out.os;rwa[Ih.out]at h)
     have mY:w.heap.size<wr.heap.size:=by omega
     have AKt:w.heap.size+1<wr.heap.size:=by omega
     clear eT k7 hb JJ hkk t0 t1 r0 r1 r2 ABk ABm mg Xi ABl ABj qm hlt;go_wp2_with fail;refine(Bn.out _ ABp.out).mono ?_;rintro e rA ⟨rfl,ABq⟩;have bW:=hid ABq;clear ABq p0 p1 p2 q0 q1 q2;go_upto_region 13 with fail;obtain⟨Ee,Ws⟩:∃Ee,Ee=rA.alloc (.cells (madeCells #[.bool false] (sz Q)) 4):=⟨_,rfl⟩;rw[←Ws];obtain⟨gS,Ef⟩:∃gS,gS=rA.heap.size:=⟨_,rfl⟩;rw[←Ef];have ABr:=hid (show Ff gS Ee (.slice (some ⟨gS,0,none⟩) (sz Q) (sz Q)) (List.replicate (sz Q) false) by rw[Ws,Ef];exact Ff.made rA (sz Q) AQ (by unfold maxLen;omega));have Ns:Below wr.heap.size wr Ee:=by rw[Ws];exact bW.out.alloc bW.out.size _
     have AK9:wr.heap.size≤gS:=by rw[Ef];exact bW.out.size
     have ALA:gS<Ee.heap.size:=by rw[Ws,Ef];simp
     clear Ws Ef;have JJ:Below (w.heap.size+2) ((w.alloc (.cells #[.slice aO T.length cO,.slice (some ⟨bP,oP,none⟩) T.length cP,.slice (some ⟨bC,oC,none⟩) T.length cC] 28)).alloc (.cells #[qO,qP,qC] 28)) Ee:=Cb.out.trans (Ns.mono (by omega));have AA6:=hid JJ;obtain⟨⟨p0,p1,p2⟩,⟨q0,q1,q2⟩,hkk,_,AKu⟩:=bx JJ;have k13:=AA.of_below (S:=Any) Ns;have AHr:=hid (AV.keep mh.out k13);have l8:=hid (AV.keep Wq.out k13);have AHs:=hid (AL.keep mo.out k13);have WO:=hid (H6.out.keep hkk);have Wt:=AA.of_below (S:=fun k=>k<wr.heap.size) Ns;have ABs:=hid (AV.mono (S':=fun k=>k≠gS) (AV.keep (Hf.AV.Gh mh.out) Wt) (fun k (hk:k<wr.heap.size)=>by omega));have ABt:=hid (AV.mono (S':=fun k=>k≠gS) (AV.keep (Hf.AV.Gh Wq.out) Wt) (fun k (hk:k<wr.heap.size)=>by omega));have ABu:=hid (AL.mono (S':=fun k=>k≠gS) (AL.keep (Hf.AL.Gh mo.out) Wt) (fun k (hk:k<wr.heap.size)=>by omega));have ABv:=hid (((Aw.Gh LQ.out).keep Wt).mono (S':=fun k=>k≠gS) (fun k (hk:k<wr.heap.size)=>by omega));clear Wt;have AKv:w.heap.size<Ee.heap.size:=by omega
     have AKr:w.heap.size+1<Ee.heap.size:=by omega
     have hc1:T.length≤c1:=by
      obtain⟨_,_,e,h2,_⟩:=l8.out;simp only[C8]at e;rw[Ce]at h2;have:=qx.out;omega
     clear JJ hkk Ns k13 mh Wq mo LQ ABp Cb bW;have qU:(0:Int)≤(i:Int)+1:=by omega
     have hA1:(i:Int)+1≤(T.length:Int):=by omega
     have hA2:(T.length:Int)≤(c1:Int):=by omega
     have hA3:(i:Int)+1≤(c1:Int):=by omega
     have hA4:((i:Int)+1).toNat=i+1:=by omega
     go_cut [15] (fun iv W=>∃p:Nat→Bool,Hid (∀t,t<sz Q→(p t=true↔Gen.Gen (mul Q) (AJ.one Q) im (at_ Q t)))∧Hid (AV (fun k=>k≠gS) W iv (((nums p (sz Q)).map (at_ Q)).map ints))∧Hid (Below Ee.heap.size Ee W));case first=>
      by_cases hcap:c1=i+1
      ·have l9:=hid (show AV Any Ee (.slice (some ⟨g1,0,none⟩) 0 0) (im.map ints) from by
        have:im=[]:=by rw[UR.out];exact WE (by have:=Ms.out;omega)
        rw[this];exact⟨some ⟨g1,0,none⟩,0,rfl,Ap _,by simp,by simp,fun i x hx=>by simp at hx⟩)
       subst hcap;go_region_held3 (fun w'=>(∀b o,b<Ee.heap.size→w'.cell? ⟨b,o,none⟩=Ee.cell? ⟨b,o,none⟩)∧AA (fun _=>True) Ee w')
        (first|exact Aj (by repeat(first|exact AB.drew|exact AA.refl _ _|refine AA.drewN ?_ _|refine AA.trans ?_ (AA.of_below (by assumption)))))
        (first|(go_at_call 182;refine(Fp.out _ _ (WO.out.keep (by repeat(first|exact AB.drew|exact AA.refl _ _|exact AB.alloc _|exact(AB.alloc _).drew|refine AA.drewN ?_ _|refine AA.trans ?_ (AA.of_below (by assumption))))) (AV.keep l9.out (by repeat(first|exact AB.drew|exact AA.refl _ _|exact AB.alloc _|exact(AB.alloc _).drew|refine AA.drewN ?_ _|refine AA.trans ?_ (AA.of_below (by assumption)))))).mono ?_;rintro e SB ⟨v14,tl,dn,rfl,LP,hdl,Ka,hsl,UT⟩)|(go_at_call 181;refine(Lf.out _ v14 tl dn Ka LP (WO.out.keep (by repeat(first|exact AB.drew|exact AA.refl _ _|exact AB.alloc _|exact(AB.alloc _).drew|refine AA.drewN ?_ _|refine AA.trans ?_ (AA.of_below (by assumption))))) (AV.keep hsl (by repeat(first|exact AB.drew|exact AA.refl _ _|exact AB.alloc _|exact(AB.alloc _).drew|refine AA.drewN ?_ _|refine AA.trans ?_ (AA.of_below (by assumption)))))).mono ?_;rintro e rD ⟨v15,rfl,mq,AIg⟩))
       have lI:Below Ee.heap.size Ee rD:=(by repeat(first|exact Ag _ _|exact AR.drew|refine Below.step ?_ AQ (by assumption)));go_wp2_with fail;go_meet;exact⟨_,hid (fun t ht=>Gt.out tl dn Ka LP t ht),hid (mq.sl.mono (fun k hk=>by have h14:Ee.heap.size≤SB.heap.size:=(show AA (fun _=>True) Ee SB from(by repeat(first|exact AB.drew|exact AA.refl _ _|exact AB.alloc _|exact(AB.alloc _).drew|refine AA.drewN ?_ _|refine AA.trans ?_ (AA.of_below (by assumption))))).size;have hk':SB.heap.size≤k:=hk;omega)),hid lI⟩
      ·have hcap2:¬i+1=c1:=fun e=>hcap e.symm;have l9:=hid (show AV Any Ee (.slice (some ⟨g1,i+1,none⟩) (T.length-(i+1)) (c1-(i+1))) (im.map ints) from by
        have h:=O1.AV.tail l8.out (i+1) hiA;rw[zh]at h;rw[UR.out];exact h)
       go_region_held3 (fun w'=>(∀b o,b<Ee.heap.size→w'.cell? ⟨b,o,none⟩=Ee.cell? ⟨b,o,none⟩)∧AA (fun _=>True) Ee w')
        (first|exact Aj (by repeat(first|exact AB.drew|exact AA.refl _ _|refine AA.drewN ?_ _|refine AA.trans ?_ (AA.of_below (by assumption)))))
        (first|(go_at_call 182;refine(Fp.out _ _ (WO.out.keep (by repeat(first|exact AB.drew|exact AA.refl _ _|exact AB.alloc _|exact(AB.alloc _).drew|refine AA.drewN ?_ _|refine AA.trans ?_ (AA.of_below (by assumption))))) (AV.keep l9.out (by repeat(first|exact AB.drew|exact AA.refl _ _|exact AB.alloc _|exact(AB.alloc _).drew|refine AA.drewN ?_ _|refine AA.trans ?_ (AA.of_below (by assumption)))))).mono ?_;rintro e SB ⟨v14,tl,dn,rfl,LP,hdl,Ka,hsl,UT⟩)|(go_at_call 181;refine(Lf.out _ v14 tl dn Ka LP (WO.out.keep (by repeat(first|exact AB.drew|exact AA.refl _ _|exact AB.alloc _|exact(AB.alloc _).drew|refine AA.drewN ?_ _|refine AA.trans ?_ (AA.of_below (by assumption))))) (AV.keep hsl (by repeat(first|exact AB.drew|exact AA.refl _ _|exact AB.alloc _|exact(AB.alloc _).drew|refine AA.drewN ?_ _|refine AA.trans ?_ (AA.of_below (by assumption)))))).mono ?_;rintro e rD ⟨v15,rfl,mq,AIg⟩))
       have lI:Below Ee.heap.size Ee rD:=(by repeat(first|exact Ag _ _|exact AR.drew|refine Below.step ?_ AQ (by assumption)));go_wp2_with fail;go_meet;exact⟨_,hid (fun t ht=>Gt.out tl dn Ka LP t ht),hid (mq.sl.mono (fun k hk=>by have h14:Ee.heap.size≤SB.heap.size:=(show AA (fun _=>True) Ee SB from(by repeat(first|exact AB.drew|exact AA.refl _ _|exact AB.alloc _|exact(AB.alloc _).drew|refine AA.drewN ?_ _|refine AA.trans ?_ (AA.of_below (by assumption))))).size;have hk':SB.heap.size≤k:=hk;omega)),hid lI⟩
     case rest=>
      obtain⟨p,AIh,Kb,PL⟩:=hcut;obtain⟨aN,cN,hiv⟩:=AV.form Kb.out;obtain⟨ln,hln⟩:∃ln,((nums p (sz Q)).map (at_ Q)).length=ln:=⟨_,rfl⟩;rw[hln]at hiv;subst hiv;have JJ:Below (w.heap.size+2) ((w.alloc (.cells #[.slice aO T.length cO,.slice (some ⟨bP,oP,none⟩) T.length cP,.slice (some ⟨bC,oC,none⟩) T.length cC] 28)).alloc (.cells #[qO,qP,qC] 28)) wc:=AA6.out.trans (PL.out.mono (by omega));have Cb:=hid JJ;have hsc:=PL.out.size;have kc:=AA.of_below (S:=fun k=>k≠gS) PL.out;have ABw:=hid (AV.keep ABs.out kc);have ABx:=hid (AV.keep ABt.out kc);have ABy:=hid (AL.keep ABu.out kc);have nA:=hid (ABv.out.keep kc);have HSc:=hid (show Ff gS wc (.slice (some ⟨gS,0,none⟩) (sz Q) (sz Q)) (Ig (fun k=>(nums p (sz Q)).getD k 0) (sz Q) 0) by
       rw[yX];exact ABr.out.keep (S:=Any) (AA.of_below PL.out) (fun _ _=>trivial))
      have AIi:gS<wc.heap.size:=by omega
      have hn1:¬w.heap.size=gS:=by omega
      have hn2:¬w.heap.size+1=gS:=by omega
      have AIj:w.heap.size+2≤gS:=by omega
      have Cj:=hid (show(nums p (sz Q)).length=ln by rw[←hln];simp);have ALB:ln≤729:=by have:=nums_length p (sz Q);have:=Cj.out;omega
      clear JJ kc AHr l8 AHs WO ABs ABt ABu ABv ABr AA6 hln Fp Lf Gt qU hA1 hA2 hA3 hA4 p0 p1 p2 q0 q1 q2 PL;go_wp2_with fail;go_loopw [16] (fun kv wr=>∃k:Nat,k≤ln∧kv= .int .i64 (k:Int)∧Hid (Ff gS wr (.slice (some ⟨gS,0,none⟩) (sz Q) (sz Q)) (Ig (fun k=>(nums p (sz Q)).getD k 0) (sz Q) k))∧Hid (AA (fun k=>k≠gS) wc wr)∧Below (w.heap.size+2) ((w.alloc (.cells #[.slice aO T.length cO,.slice (some ⟨bP,oP,none⟩) T.length cP,.slice (some ⟨bC,oC,none⟩) T.length cC] 28)).alloc (.cells #[qO,qP,qC] 28)) wr) (fun kv _=>ln-(intOf kv).toNat);case atStart=>exact⟨0,AU _,rfl,HSc,hid AB,Cb.out⟩
      case round=>
       obtain⟨k,hk,rfl,Uj,hKr,hB⟩:=hrel;have AZ:=hid hB;obtain⟨⟨p0,p1,p2⟩,⟨q0,q1,q2⟩,_,_,_⟩:=bx hB;have Xg:=hKr.out.size;have hwr:w.heap.size<wr.heap.size:=by omega
       have ABz:w.heap.size+1<wr.heap.size:=by omega
       have AIU:gS<wr.heap.size:=by omega
       clear hB;by_cases hlt:k<ln
       ·obtain⟨t,ht⟩:∃t,(nums p (sz Q))[k]?=some t:=⟨_,AP (by have:=Cj.out;omega)⟩;have htz:=O1.kS ht;obtain⟨bN,oN,cN',vr,he,hbN,hcN,hrN⟩:=AV.Og (AV.keep Kb.out hKr.out) (k:=k) (r:=at_ Q t) (by rw[Em,ht];rfl);obtain⟨rfl,rfl⟩:aN=some ⟨bN,oN,none⟩∧cN=cN':=by simp only[C8]at he;exact⟨he.1,he.2.2⟩
        have hbn:¬bN=gS:=by
         obtain⟨ao,c',e1,_,_,_,h4⟩:=Kb.out;obtain⟨b,o,f1,f2,_⟩:=h4 k (ints (at_ Q t)) (by simp[ht]);simp only[C8]at e1;obtain⟨e1,_,_⟩:=e1;rw[f1]at e1;simp only[EN,IU]at e1;rw[e1.1];exact f2
        have Bj:=hid (nA.out.keep hKr.out);have HRr:=hid hrN;have mW:=hid (fun W (h:AA (fun k=>k≠gS) wr W)=>show AL Any W qO (ints (Bf.Fg Q)) from by
         have h2:=((Bj.out.keep h).mono (S':=Any) (fun _ _=>trivial)).os;rwa[Ih.out]at h2)
        have qd:=hid (fun W va (hO:AL Any W qO (ints (Bf.Fg Q))) (hx:AL Any W va (ints (at_ Q t)))=>(show Calls Tryz.prog 80 #[.agg #[qO,qP,qC],va] W (Bf.O0 t W) from by
         have h:=OA.out W va (at_ Q t) hO hx (Cu Jj.out t) (He (Cu Jj.out t) Jj.out);rwa[Vz,J3 htz]at h))
        have hq1:(t:Int)<(sz Q:Int):=by omega
        have hq0:(0:Int)≤(t:Int):=by omega
        have hkl:(k:Int)<(ln:Int):=by omega
        have hk0:(0:Int)≤(k:Int):=by omega
        have HIS:=hid (show Ig (fun k=>(nums p (sz Q)).getD k 0) (sz Q) (k+1)=(Ig (fun k=>(nums p (sz Q)).getD k 0) (sz Q) k).set t true by
         rw[yY,Bg,ht];rfl)
        clear ht he hrN;go_upto_region 17 with fail;go_region_held3 (fun w'=>(∀b o,b<wr.heap.size→¬b=gS→w'.cell? ⟨b,o,none⟩=wr.cell? ⟨b,o,none⟩)∧AA (fun k=>k≠gS) wr w')
         (first|exact AA3 (by repeat(first|exact AB.drew|exact AA.refl _ _|refine AA.setCell ?_ (by simp) _|refine AA.trans ?_ (AA.of_below (by assumption)))))
         (first|(go_at_call 80;refine(qd.out _ vr (mW.out _ (by repeat(first|exact AB.drew|exact AA.refl _ _|exact AB.alloc _|exact(AB.alloc _).drew|refine AA.drewN ?_ _|refine AA.trans ?_ (AA.of_below (by assumption))))) (AL.mono (AL.keep HRr.out (by repeat(first|exact AB.drew|exact AA.refl _ _|exact AB.alloc _|exact(AB.alloc _).drew|refine AA.drewN ?_ _|refine AA.trans ?_ (AA.of_below (by assumption))))) (fun _ _=>trivial))).mono ?_;rintro e w8 ⟨rfl,CP⟩;have KZ:=Uj.out.keep (S:=Any) (show AA Any wr w8 from(by repeat(first|exact AB.drew|exact AA.refl _ _|exact AB.alloc _|exact(AB.alloc _).drew|refine AA.drewN ?_ _|refine AA.trans ?_ (AA.of_below (by assumption))))) (fun _ _=>trivial);obtain⟨s8,f8⟩:=KZ.cell (ZT htz);have Mr:wr.heap.size≤w8.heap.size:=(show AA Any wr w8 from(by repeat(first|exact AB.drew|exact AA.refl _ _|exact AB.alloc _|exact(AB.alloc _).drew|refine AA.drewN ?_ _|refine AA.trans ?_ (AA.of_below (by assumption))))).size))
        have Xh:=hid (show Ff gS (w8.setCell ⟨gS,t,none⟩ (.bool true)) (.slice (some ⟨gS,0,none⟩) (sz Q) (sz Q)) (Ig (fun k=>(nums p (sz Q)).getD k 0) (sz Q) (k+1)) by rw[HIS.out];exact KZ.set t true);have qg:=hid (show AA (fun k=>k≠gS) wc (w8.setCell ⟨gS,t,none⟩ (.bool true)) from(hKr.out.trans (show AA (fun k=>k≠gS) wr w8 from(by repeat(first|exact AB.drew|exact AA.refl _ _|exact AB.alloc _|exact(AB.alloc _).drew|refine AA.drewN ?_ _|refine AA.trans ?_ (AA.of_below (by assumption)))))).setCell (by simp) _);have Ld:=hid ((show Below (w.heap.size+2) ((w.alloc (.cells #[.slice aO T.length cO,.slice (some ⟨bP,oP,none⟩) T.length cP,.slice (some ⟨bC,oC,none⟩) T.length cC] 28)).alloc (.cells #[qO,qP,qC] 28)) w8 from(by repeat(first|exact AZ.out|exact AZ.out.drew|refine Dp ?_ _|refine Below.step ?_ (by simp) (by assumption)))).setCell (p:=⟨gS,t,none⟩) AIj (.bool true));clear CP KZ s8 f8 Mr p0 p1 p2 q0 q1 q2;go_wp2_with fail;go_roundw;case rel=>exact⟨k+1,by omega,by go_num,Xh,qg,Ld.out⟩
        case measure=>simp[intOf]<;>omega
       ·obtain rfl:k=ln:=by omega
        have HSd:=hid Uj.out;have AB0:=hid ((AV.keep ABw.out hKr.out).mono (fun _ _=>trivial):AV Any wr _ ((L.c.map (ev (mul Q) (AJ.one Q) im)).map ints));have AIk:=hid ((AV.keep ABx.out hKr.out).mono (fun _ _=>trivial):AV Any wr (.slice (some ⟨g1,0,none⟩) T.length c1) ((kn Q Aa (i+1)).map ints));have AIl:=hid ((AL.keep ABy.out hKr.out).mono (fun _ _=>trivial):AL Any wr _ (ints (ev (mul Q) (AJ.one Q) im L.w)));have AB1:=hid ((nA.out.keep hKr.out).mono (S':=Any) (fun _ _=>trivial));have HBd:=hid (bx AZ.out).2.2.2.1;have HPK:=hid (bx AZ.out).2.2.1;obtain⟨aV,cV,AB2,_⟩:=(⟨_,_,(AV.form AB0.out).choose_spec.choose_spec,trivial⟩:∃a c,_=Value.slice a (L.c.map (ev (mul Q) (AJ.one Q) im)).length c∧True);rw[Ce]at AB2;subst AB2;obtain⟨bO,oO,rfl,_,Ch,Bc⟩:=J6.out.ord Et.out;have AIm:=(HPK.out.cell (b:=bO) (o:=oO+i) trivial Ch).trans Bc;have AIn:bO<wr.heap.size:=by omega
        have h00:=FL (base:=wr.heap.size) (e:=24) (size:=1) wr #[] 0 AQ (AU _) rfl;have hLo:=AIZ.out;have AB3:=hid (show∀t,t<sz Q→(may Q L im t=true↔p t=false∧IL Q L im (at_ Q t)) from fun t ht=>by
         rw[ZU,←AIh.out t ht];cases p t<;>simp)
        clear Uj hKr Bc p0 p1 p2 q0 q1 q2 ABw ABx ABy nA HSc AIi hsc Kb hlt;go_wp2_with fail;rename World=>wd;go_loopw [17,18] (fun ov tv wr=>∃t:Nat,t≤sz Q∧tv= .int .i64 (t:Int)∧Hid (Own2 24 2 wd.heap.size wr ov ((nums (may Q L im) t).map (at_ Q)))∧Below wd.heap.size wd wr) (fun _ tv _=>sz Q-(intOf tv).toNat);case atStart=>exact⟨0,AU _,rfl,hid ⟨[],h00,rfl,by simp[nums]⟩,AR.alloc AQ _⟩
        case round=>
         obtain⟨t,ht,rfl,AB4,hb⟩:=hrel;have HBt:=hid hb;have hst:=hb.size;have AB5:Below (w.heap.size+2) ((w.alloc (.cells #[.slice (some ⟨bO,oO,none⟩) T.length cO,.slice (some ⟨bP,oP,none⟩) T.length cP,.slice (some ⟨bC,oC,none⟩) T.length cC] 28)).alloc (.cells #[qO,qP,qC] 28)) wr:=AZ.out.trans (hb.mono (by omega));obtain⟨⟨p0,p1,p2⟩,⟨q0,q1,q2⟩,_,_,_⟩:=bx AB5;have AB6:=hid (fun W (h:Below wd.heap.size wd W)=>show AL Any W qO (ints (Bf.Fg Q)) from by
          have h2:=(AB1.out.keep (AA.of_below h)).os;rwa[Ih.out]at h2)
         have hwr:w.heap.size<wr.heap.size:=by omega
         have ABz:w.heap.size+1<wr.heap.size:=by omega
         clear h00 AB5;go_wp2_with fail;refine(Bn.out _ (AB6.out _ hb)).mono ?_;rintro e w2 ⟨rfl,hb2⟩;have HB2:=hid (HBt.out.trans (hb2.mono hst));have aD:=hid (AB4.out.of_below hb2);have nC:Below (w.heap.size+2) ((w.alloc (.cells #[.slice (some ⟨bO,oO,none⟩) T.length cO,.slice (some ⟨bP,oP,none⟩) T.length cP,.slice (some ⟨bC,oC,none⟩) T.length cC] 28)).alloc (.cells #[qO,qP,qC] 28)) w2:=AZ.out.trans (HB2.out.mono (by omega));have ALC:=hid nC;have hs2:=HB2.out.size;clear hb hb2 AB4 p0 p1 p2 q0 q1 q2;obtain⟨⟨p0,p1,p2⟩,⟨q0,q1,q2⟩,_,_,_⟩:=bx nC;clear nC;by_cases hlt:t<sz Q
         ·have ht1:(t:Int)<(sz Q:Int):=by omega
          have ht0:(0:Int)≤(t:Int):=by omega
          have qi:t≤1000000:=by omega
          have hS2:=HSd.out.keep (S:=Any) (AA.of_below HB2.out) (fun _ _=>trivial);obtain⟨s2,_⟩:=hS2.cell (ZT (f:=fun k=>(nums p (sz Q)).getD k 0) (k:=k) hlt);rw[show GH (fun k=>(nums p (sz Q)).getD k 0) k t=p t from by rw[←Cj.out];exact O1.remark p (sz Q) t hlt]at s2;have Uk:=hid (xx (may Q L im) t);cases hpt:p t with
          |true=>
           rw[hpt]at s2;have HN:=hid (show(nums (may Q L im) (t+1))=nums (may Q L im) t by
            rw[Uk.out];cases hm:may Q L im t with
            |false=>simp
            |true=>have:=(AB3.out t hlt).1 hm;rw[hpt]at this;simp at this)
           clear hS2 hpt;go_wp2_with fail;go_roundw;case rel=>exact⟨t+1,by omega,by go_num,hid (by rw[HN.out];exact aD.out),HB2.out⟩
           case measure=>simp[intOf]<;>omega
          |false=>
           rw[hpt]at s2;have AIo:=hid hpt;clear hS2 hpt;go_wp2_with fail;refine(HAT.out _ t qi (AB6.out _ HB2.out)).mono ?_;rintro e w3 ⟨gx,cx,rfl,hox,hb3⟩;have HB3:=hid (HB2.out.trans (hb3.mono hs2));have Ul:=hid (hox.sl.mono (S':=Any) (fun _ _=>trivial));have HXR:=hid (Ec.row (hox.mono (B':=wd.heap.size) hs2));have AHt:=hid (aD.out.of_below hb3);have hs3:=HB3.out.size;have nD:=hid (show Below (w.heap.size+2) ((w.alloc (.cells #[.slice (some ⟨bO,oO,none⟩) T.length cO,.slice (some ⟨bP,oP,none⟩) T.length cP,.slice (some ⟨bC,oC,none⟩) T.length cC] 28)).alloc (.cells #[qO,qP,qC] 28)) w3 from AZ.out.trans (HB3.out.mono (by omega)));have k3:=AA.of_below (S:=Any) HB3.out;have AB7:=hid (AB1.out.keep k3);have AIp:=hid (AV.keep AIk.out k3);have AIq:=hid (AV.keep AB0.out k3);have AIr:=hid (AL.keep AIl.out k3);have bZ:=(k3.cell (b:=bO) (o:=oO+i) trivial AIn).trans AIm;have AB8:bO<w3.heap.size:=by omega
           have hw3:w.heap.size<w3.heap.size:=by omega
           have AKw:w.heap.size+1<w3.heap.size:=by omega
           have Cw:=hid (Cu Jj.out t);obtain⟨b0,hb0⟩:∃b0,decide (ints (npow (mul Q) (AJ.one Q) (at_ Q t) L.o)=ints (ev (mul Q) (AJ.one Q) im L.w))=b0:=⟨_,rfl⟩;have AIs:=hid hb0;have HF0:=hid (show b0=true↔FT Q L im (at_ Q t) 0 from by
            rw[←hb0,Ht,RV.TS];exact⟨fun h=>⟨h,fun k hk=>absurd hk (DX _)⟩,fun h=>h.1⟩)
           have hwi:IntKind.i64.wrap ((i:Int)+1)=(i:Int)+1:=AY _ (by omega);clear hb0 hox hb3 k3 p0 p1 p2 q0 q1 q2 aD s2;obtain⟨⟨p0,p1,p2⟩,⟨q0,q1,q2⟩,_,_,_⟩:=bx nD.out;go_wp2_with fail;go_region_held3 (fun w'=>(∀b o,b<w3.heap.size→w'.cell? ⟨b,o,none⟩=w3.cell? ⟨b,o,none⟩)∧AA (fun _=>True) w3 w')
            (first|exact Aj (by repeat(first|exact AB.drew|exact AA.refl _ _|refine AA.drewN ?_ _|refine AA.trans ?_ (AA.of_below (by assumption)))))
            (first|(go_at_call 93;refine(bV.out _ (.slice (some ⟨gx,0,none⟩) (ints (at_ Q t)).length cx) (at_ Q t) L.o (by omega) (AB7.out.keep (by repeat(first|exact AB.drew|exact AA.refl _ _|exact AB.alloc _|exact(AB.alloc _).drew|refine AA.drewN ?_ _|refine AA.trans ?_ (AA.of_below (by assumption))))) (Ul.out.keep (by repeat(first|exact AB.drew|exact AA.refl _ _|exact AB.alloc _|exact(AB.alloc _).drew|refine AA.drewN ?_ _|refine AA.trans ?_ (AA.of_below (by assumption))))) Cw.out).mono ?_;rintro e w6 ⟨v6,rfl,Al,hb6⟩)|(go_at_call 183;refine(MK _ v6 _ _ _ ((Al.sl.mono (fun _ _=>trivial)).keep (by repeat(first|exact AB.drew|exact AA.refl _ _|exact AB.alloc _|exact(AB.alloc _).drew|refine AA.drewN ?_ _|refine AA.trans ?_ (AA.of_below (by assumption))))) (AIr.out.keep (by repeat(first|exact AB.drew|exact AA.refl _ _|exact AB.alloc _|exact(AB.alloc _).drew|refine AA.drewN ?_ _|refine AA.trans ?_ (AA.of_below (by assumption)))))).mono ?_;rintro e w7 ⟨rfl,n7,rfl⟩;rw[AIs.out]))
           have nE:=hid (show Below w3.heap.size w3 (w6.drewN n7) from Dp (by repeat(first|exact Ag _ _|exact AR.drew|refine Below.step ?_ AQ (by assumption))) _);clear Al hb6 p0 p1 p2 q0 q1 q2 bZ;go_wp2_with fail;go_loopw [20,21] (fun bv jv wr=>∃(m:Nat) (b:Bool),m≤L.c.length∧jv= .int .i64 ((i:Int)+1+(m:Int))∧bv= .bool b∧Hid (b=true↔FT Q L im (at_ Q t) m)∧Below w3.heap.size w3 wr) (fun _ jv _=>T.length-(intOf jv).toNat);case atStart=>exact⟨0,b0,AU _,Bp (Value.int .i64) (by omega),rfl,HF0,nE.out⟩
           case round=>
            obtain⟨m,b,hm,rfl,rfl,rE,hb⟩:=hrel;have AIt:=(bx nD.out).2.2.2.2;have Xg:=hb.size;have Cq:=hid (HB3.out.trans (hb.mono hs3));have HBL:=hid hb;have AIu:=hid (nD.out.trans (hb.mono AIt));have kr:=AA.of_below (S:=Any) hb;have AA7:=hid (AHt.out.of_below hb);obtain⟨⟨p0,p1,p2⟩,⟨q0,q1,q2⟩,_,_,_⟩:=bx AIu.out;have hwr:w.heap.size<wr.heap.size:=by omega
            have ABz:w.heap.size+1<wr.heap.size:=by omega
            have AB9:=hid Uk.out;cases b with
            |false=>
             have HN:=hid (show(nums (may Q L im) (t+1))=nums (may Q L im) t by
              rw[AB9.out];cases hmy:may Q L im t with
              |false=>simp
              |true=>exact absurd (rE.out.2 (AHp ((ZU.1 hmy).2))) (by simp))
             clear kr hb p0 p1 p2 q0 q1 q2;go_wp2_with fail;go_roundw;case rel=>exact⟨t+1,by omega,by go_num,hid (by rw[HN.out];exact AA7.out),Cq.out⟩
             case measure=>simp[intOf]<;>omega
            |true=>
             by_cases hlm:m<L.c.length
             ·obtain⟨y,hy⟩:∃y,L.c[m]?=some y:=⟨_,AP hlm⟩;obtain⟨r,hr⟩:∃r,im[m]?=some r:=⟨_,AP (by rw[UR.out];have:=Ik.out.2.1;have:=Ms.out;rw[Ct];omega)⟩;have hrE:El Q r:=J7.out r (LJ (by rw[←UR.out];exact Ar hr));obtain⟨bK,oK,cK,vr,he,hbK,hcK,hrK⟩:=AV.Og (AV.keep AIp.out kr) (k:=i+1+m) (r:=r) (by
               unfold kn;rw[Fb (by rw[Cf];omega),Cf,show i+1+m-(i+1)=m by omega,←UR.out];exact hr)
              simp only[C8,EN,IU]at he;rw[←he.1.1,←he.1.2.1,D5]at hcK;rw[←he.1.1]at hbK;obtain⟨bM,oM,cM,um,he2,eU,eX,hrM⟩:=AV.Og (AV.keep AIq.out kr) (k:=m) (r:=ev (mul Q) (AJ.one Q) im y) (by rw[Em,hy];rfl);obtain⟨rfl,rfl⟩:aV=some ⟨bM,oM,none⟩∧cV=cM:=by simp only[C8]at he2;exact⟨he2.1,he2.2.2⟩
              have LQ:=hid (AB7.out.keep kr);have HXr:=hid (AL.keep Ul.out kr);have Xk:=hid hrK;have HMr:=hid hrM;have Mv:=hid hrE;have ET:=hid (UQ.out y (Ik.out.2.2.1 y (Ar hy))).2.2.2;obtain⟨b1,hb1⟩:∃b1,decide (ints (mul Q r (at_ Q t))=ints (mul Q (at_ Q t) (ev (mul Q) (AJ.one Q) im y)))=b1:=⟨_,rfl⟩;have O4:=hid hb1;have J9:=hid (show b1=true↔FT Q L im (at_ Q t) (m+1) from by
               rw[AGH hy,←hb1,Ht,RV.TS,Bg,hr];exact⟨fun h=>⟨rE.out.1 rfl,h⟩,fun h=>h.2⟩)
              have qz:m≤6:=by have:=Ik.out.2.1;omega
              have w1:IntKind.i64.wrap (((i:Int)+1+(m:Int))-(i:Int))=(m:Int)+1:=by rw[AY _ (by omega)];omega
              have w2':IntKind.i64.wrap (((m:Int)+1)-1)=(m:Int):=by rw[AY _ (by omega)];omega
              have w8':IntKind.i64.wrap (m:Int)=(m:Int):=AY _ (by omega);have w4':(m:Int)<(L.c.length:Int):=by omega
              have w5':(0:Int)≤(m:Int):=by omega
              have w9':(i:Int)+1+(m:Int)<(T.length:Int):=by have:=Ik.out.2.1;omega
              have ALD:(0:Int)≤(i:Int)+1+(m:Int):=by omega
              have ALE:((i:Int)+1+(m:Int)).toNat=i+1+m:=by omega
              clear hb hb1 hy hr hrE he he2 hrK hrM kr;go_wp2_with fail;go_region_held3 (fun w'=>(∀b o,b<wr.heap.size→w'.cell? ⟨b,o,none⟩=wr.cell? ⟨b,o,none⟩)∧AA (fun _=>True) wr w')
               (first|exact Aj (by repeat(first|exact AB.drew|exact AA.refl _ _|refine AA.drewN ?_ _|refine AA.trans ?_ (AA.of_below (by assumption)))))
               (first|(go_at_call_of 92 vr;refine(ABh.out _ vr (.slice (some ⟨gx,0,none⟩) (ints (at_ Q t)).length cx) _ _ (LQ.out.keep (by repeat(first|exact AB.drew|exact AA.refl _ _|exact AB.alloc _|exact(AB.alloc _).drew|refine AA.drewN ?_ _|refine AA.trans ?_ (AA.of_below (by assumption))))) (Xk.out.keep (by repeat(first|exact AB.drew|exact AA.refl _ _|exact AB.alloc _|exact(AB.alloc _).drew|refine AA.drewN ?_ _|refine AA.trans ?_ (AA.of_below (by assumption))))) (HXr.out.keep (by repeat(first|exact AB.drew|exact AA.refl _ _|exact AB.alloc _|exact(AB.alloc _).drew|refine AA.drewN ?_ _|refine AA.trans ?_ (AA.of_below (by assumption))))) Mv.out Cw.out).mono ?_;rintro e w6 ⟨v6,rfl,Al,hb6⟩)|(go_at_call_of 92 um;refine(ABh.out _ (.slice (some ⟨gx,0,none⟩) (ints (at_ Q t)).length cx) um _ _ (LQ.out.keep (by repeat(first|exact AB.drew|exact AA.refl _ _|exact AB.alloc _|exact(AB.alloc _).drew|refine AA.drewN ?_ _|refine AA.trans ?_ (AA.of_below (by assumption))))) (HXr.out.keep (by repeat(first|exact AB.drew|exact AA.refl _ _|exact AB.alloc _|exact(AB.alloc _).drew|refine AA.drewN ?_ _|refine AA.trans ?_ (AA.of_below (by assumption))))) (HMr.out.keep (by repeat(first|exact AB.drew|exact AA.refl _ _|exact AB.alloc _|exact(AB.alloc _).drew|refine AA.drewN ?_ _|refine AA.trans ?_ (AA.of_below (by assumption))))) Cw.out ET.out).mono ?_;rintro e w7 ⟨v7,rfl,Bz,Bd⟩)|(go_at_call 183;refine(MK _ v6 v7 _ _ ((Al.sl.mono (fun _ _=>trivial)).keep (by repeat(first|exact AB.drew|exact AA.refl _ _|exact AB.alloc _|exact(AB.alloc _).drew|refine AA.drewN ?_ _|refine AA.trans ?_ (AA.of_below (by assumption))))) ((Bz.sl.mono (fun _ _=>trivial)).keep (by repeat(first|exact AB.drew|exact AA.refl _ _|exact AB.alloc _|exact(AB.alloc _).drew|refine AA.drewN ?_ _|refine AA.trans ?_ (AA.of_below (by assumption)))))).mono ?_;rintro e w8 ⟨rfl,n8,rfl⟩;rw[O4.out]))
              have AIv:=hid (show Below w3.heap.size w3 (w7.drewN n8) from Dp (by repeat(first|exact HBL.out|exact HBL.out.drew|refine Below.step ?_ AQ (by assumption))) _);clear Al hb6 Bz Bd p0 p1 p2 q0 q1 q2 hcK eX;go_wp2_with fail;go_roundw;case rel=>exact⟨m+1,b1,by omega,Bp (Value.int .i64) (by omega),rfl,J9,AIv.out⟩
              case measure=>simp[intOf]<;>omega
             ·obtain rfl:m=L.c.length:=by omega
              have HN:=hid (show(nums (may Q L im) (t+1)).map (at_ Q)=(nums (may Q L im) t).map (at_ Q)++[at_ Q t] by
               rw[AB9.out,(AB3.out t hlt).2 ⟨AIo.out,AHM.1 (rE.out.1 rfl)⟩];simp)
              obtain⟨nl,QE⟩:∃nl,((nums (may Q L im) t).map (at_ Q)).length=nl:=⟨_,rfl⟩;have AIW:nl≤729:=by have:=nums_length (may Q L im) t;rw[←QE,Ce];omega
              have Wn:=hid QE;have ACA:=hid (HXR.out.keep (S:=Any) kr (fun _ _=>trivial):CL 2 wd.heap.size wr (.slice (some ⟨gx,0,none⟩) (ints (at_ Q t)).length cx) (at_ Q t));obtain⟨OC,h1,h2,h4⟩:=AA7.out;have Gs:=hid (And.intro h2 h4);rw[Wn.out]at h1;clear QE h2 h4 kr hb;go_wp2_with (at_builtin;(refine GQ _ rfl _ _ 25 rfl wd.heap.size 24 i0 (.slice none 0 0) 1 24 Tryz.underlying25 UN hz0 hz1 hz2 rfl (by decide) _ _ _ rfl (h1.alloc _) ⟨wr.heap.size,0,none⟩ 1 1 [.slice (some ⟨gx,0,none⟩) (ints (at_ Q t)).length cx] rfl rfl ?d1 ?d2 ?d3 ?d4 ?d5 ?_));case d2=>first|rfl|(intro u hu;simp at hu;subst hu;rfl)
              case d3=>first|(unfold maxLen;omega)|omega|(simp only[maxLen];omega)
              case d4=>first|omega|(simp;omega)
              case d5=>have:=Cq.out.size;first|omega|(simp;omega)
              ·intro v' w9 hown hgrow _;have Il:=hid (show Own2 24 2 wd.heap.size w9 v' ((nums (may Q L im) (t+1)).map (at_ Q)) from by
                rw[HN.out];exact Own2.push (w:=wr.alloc _) (us:=OC) (by decide) Wn.out (h1.alloc _) Gs.out.1 (fun i r u hr hu=>(Gs.out.2 i r u hr hu).keep (S:=fun _=>True) (AB.alloc _) (fun _ _=>trivial)) (ACA.out.keep (S:=fun _=>True) (AB.alloc _) (fun _ _=>trivial)) hown hgrow)
               have Ld:=hid (show Below wd.heap.size wd w9 from(Cq.out.alloc (by have:=Cq.out.size;omega) _).grown hgrow (by simp;have:=Cq.out.size;omega) (fun g hg=>(BH h1 g hg).1));clear hown hgrow h1 Gs ACA p0 p1 p2 q0 q1 q2;go_wp2_with fail;go_roundw;case rel=>exact⟨t+1,by omega,by go_num,Il,Ld.out⟩
               case measure=>simp[intOf]<;>omega
         ·obtain rfl:t=sz Q:=by omega
          have HR:=hid (show KU 24 2 (Gb Q L im) w (.returned _) w2 from⟨_,rfl,aD.out.mono (by omega),HBd.out.trans (HB2.out.mono (by omega))⟩);go_wp2_with fail;go_ret;have h:=HR.out;rw[UR.out]at h;exact h
end Go.Proofs.YtlmlamcoeegkbaaGreat.RL
namespace Go.Proofs.YtlmlamcoeegkbaaGreat.AA8
open Go.RowKit Go.Proofs.YtlmlamcoeegkbaaGreat AJ Val Z9
abbrev Any:Nat→Prop:=fun _=>True
theorem jh (T:Tw)(hT:Wf T)(hs:Small T)(w:World)(vO vP vC:Value)(hP:Aw Any w vO vP vC (AX T)):
  Calls Tryz.prog 150 #[.agg #[vO,vP,vC]] w (aG (AJ.Good T) w):=by
 have hs6:=hs.1;obtain⟨aO,cO,aP,cP,aC,cC,rfl,rfl,rfl,Er,hP1,FP⟩:=hP.open;have HP:=hid hP;have Ik:=hid (fun i L hL hg W hP=>AEl T hT hs i L hL hg W (.slice aO T.length cO) (.slice aP T.length cP) (.slice aC T.length cC) hP);clear hP;go_enter Tryz.func150,Tryz.ntmps150;go_wp2_with fail;go_loopw [3] (fun iv wr=>∃k:Nat,k≤T.length∧iv= .int .i64 ((k:Int)-1)∧Hid (AJ.Good (T.drop k))∧Below (w.heap.size+2) ((w.alloc (.cells #[.slice aO T.length cO,.slice aP T.length cP,.slice aC T.length cC] 28)).alloc (.cells #[.int .i64 0,.int .i64 0,.int .i64 0,.int .i64 0] 147)) wr) (fun iv _=>(intOf iv+1).toNat);case atStart=>exact⟨T.length,Ap _,rfl,hid (by rw[MP];trivial),Ag _ _⟩
 case round=>
  obtain⟨k,hk,rfl,hg,hb⟩:=hrel;obtain⟨⟨e0,e1,e2⟩,hf,hkk,hbw,hsz⟩:=IV hb;have HB:=hid hb;have HK:=hid hkk;have Au:=hid hbw;have f0:=Aq _ (w.heap.size+1) 0 _ _ (0,0) hf;have f1:=Aq _ (w.heap.size+1) 1 _ _ (0,0) hf;have f2:=Aq _ (w.heap.size+1) 2 _ _ (0,0) hf;have f3:=Aq _ (w.heap.size+1) 3 _ _ (0,0) hf;have z0:=BP _ (w.heap.size+1) 0 _ _ hf;have z1:=BP _ (w.heap.size+1) 1 _ _ hf;have z2:=BP _ (w.heap.size+1) 2 _ _ hf;have z3:=BP _ (w.heap.size+1) 3 _ _ hf;simp at f0 f1 f2 f3;clear hb hkk hbw hf;by_cases h0:k=0
  ·subst h0;have hd:decide (((0:Nat):Int)-1≥0)=false:=by decide
   go_wp2_with fail;exact Am (v:=.agg #[.int .i64 0,.int .i64 0,.int .i64 0,.int .i64 0]) (by simp[results,Tryz.results150,go_sem,f0,f1,f2,f3]) rfl
    ⟨0,_,_,_,rfl,⟨fun _=>hg.out,fun _=>rfl⟩,(((Au.out.setCell (by simp) _).setCell (by simp) _).setCell (by simp) _).setCell (by simp) _⟩
  ·obtain⟨i,rfl⟩:∃i,k=i+1:=⟨k-1,by omega⟩;obtain⟨L,hL⟩:∃L,T[i]?=some L:=⟨_,AP (by omega)⟩;have HL:=hid hL;have Fq:=hid (show AJ.Good (T.drop i)↔GV L (T.drop (i+1)) from by
    rw[FZ hL,xy];exact⟨fun h=>h.2,fun h=>⟨hg.out,h⟩⟩)
   have hii:(((i+1:Nat):Int)-1)=(i:Int):=by omega
   rw[hii];clear hL h0 hii;go_wp2_with fail;refine(Ik.out i L HL.out hg.out _ (HP.out.keep HK.out)).mono ?_;rintro e w1 ⟨k,l,a,b,rfl,hif,hbel⟩;have ACB:=hid hif;have HB1:=hid (HB.out.trans (hbel.mono hsz));clear hbel f0 f1 f2 f3 z0 z1 z2 z3 e0 e1 e2 hif;have hsz1:w.heap.size+2≤w1.heap.size:=(IV HB1.out).2.2.2.2;by_cases hk0:k=0
   ·subst hk0;have HGI:=hid (Fq.out.2 (ACB.out.1 rfl));go_wp2_with fail;go_roundw;case rel=>exact⟨i,by omega,rfl,HGI,(HB1.out.alloc (by omega) _)⟩
    case measure=>simp[intOf]<;>omega
   ·have hkn:(k !=0)=true:=by simpa using hk0
    have HN:=hid (show¬AJ.Good T from fun h=>hk0 (ACB.out.2 (Fq.out.1 (OZ h i))));have HK0:=hid hk0;clear hk0;obtain⟨⟨e0,e1,e2⟩,hf,hkk,hbw,hsz⟩:=IV HB1.out;have f0:=Aq _ (w.heap.size+1) 0 _ _ (0,0) hf;have f1:=Aq _ (w.heap.size+1) 1 _ _ (0,0) hf;have f2:=Aq _ (w.heap.size+1) 2 _ _ (0,0) hf;have f3:=Aq _ (w.heap.size+1) 3 _ _ (0,0) hf;have z0:=BP _ (w.heap.size+1) 0 _ _ hf;have z1:=BP _ (w.heap.size+1) 1 _ _ hf;have z2:=BP _ (w.heap.size+1) 2 _ _ hf;have z3:=BP _ (w.heap.size+1) 3 _ _ hf;simp at f0 f1 f2 f3;have O5:=hid hbw;have hlt1:w.heap.size+1<w1.heap.size:=by omega
    clear hf hkk hbw;go_wp2_with fail;exact Am (v:=.agg #[.int .i64 k,.int .i64 l,.int .i64 a,.int .i64 b]) (by simp[results,Tryz.results150,go_sem,f0,f1,f2,f3,hlt1]) rfl
     ⟨k,_,_,_,rfl,⟨fun h=>absurd h HK0.out,fun h=>absurd h HN.out⟩,((((O5.out.setCell (by simp) _).setCell (by simp) _).setCell (by simp) _).setCell (by simp) _).alloc (by simp;omega) _⟩
end Go.Proofs.YtlmlamcoeegkbaaGreat.AA8
namespace Go.Proofs.YtlmlamcoeegkbaaGreat.UA
open Go.RowKit Go.Proofs.YtlmlamcoeegkbaaGreat AJ Val Z9 MS Cg
theorem ADp (T:Tw)(hT:Wf T)(hs:Small T)(w:World)(vO vP vC:Value)(hP:Aw (fun _=>True) w vO vP vC (AX T)):
  Calls Tryz.prog 102 #[.agg #[vO,vP,vC]] w (PM (AJ.Good T) w):=by
 have HP:=hid hP;have HF:=hid (fun W hP=>AA8.jh T hT hs W vO vP vC hP);clear hP hs hT;go_enter Tryz.func102,Tryz.ntmps102;go_wp2_with fail;have HB:Hid (Below w.heap.size w (w.alloc (.cells #[vO,vP,vC] 28))):=hid (AR.alloc (by simp) _);refine(HF.out _ (HP.out.keep (AA.of_below HB.out))).mono ?_;rintro e w1 ⟨k,l,a,b,rfl,hif,hbel⟩;have Au:=hid (HB.out.trans (hbel.mono (by simp)));have Fq:=hid hif;have Ka:∀w:World,(Instr.field 147 (.agg #[.int .i64 k,.int .i64 l,.int .i64 a,.int .i64 b]) 0).run Tryz.prog w= .ok (.int .i64 k) w:=fun _=>by kernel_rfl
 clear hbel hif;by_cases hk:k=0
 ·subst hk;have HY:=hid (Fq.out.1 rfl);go_wp2_with fail;go_ret;exact TU HY.out Au.out
 ·have hd:(k==0)=false:=by simpa using hk
  have HN:=hid (show¬AJ.Good T from fun h=>hk (Fq.out.2 h));clear hk;go_wp2_with fail;go_ret;exact FE HN.out Au.out
theorem Pn (w:World)(vO vP vC:Value)(P:Bq)(hP:Aw (fun _=>True) w vO vP vC P):
  Calls Tryz.prog 55 #[.agg #[vO,vP,vC]] w (PM (CQ P) w):=by
 have HP:=hid hP;have HV:=hid (fun W h=>aH.Ve W vO vP vC P h);have HC:=hid (fun T (hT:Wf T) (hs:Small T) W h=>ADp T hT hs W vO vP vC h);clear hP;have HB:Hid (Below w.heap.size w (w.alloc (.cells #[vO,vP,vC] 28))):=hid (AR.alloc (by simp) _);by_cases hv:Valid P
 ·obtain⟨T,hT,hs,rfl⟩:=hv.tower;have FQ:=hid hv;have HT:=hid hT;have HS:=hid hs;clear hv hT hs;by_cases hg:AJ.Good T
  ·have HG:=hid hg;clear hg;go_enter Tryz.func55,Tryz.ntmps55;go_wp2_with fail;refine(HV.out _ (HP.out.keep (AA.of_below HB.out))).mono ?_;rintro e w1 ⟨r,rfl,hr,hb1⟩;obtain rfl:=hr.2 FQ.out;obtain⟨e0,e1,e2⟩:=Cc ((AR.trans (hb1.mono (by simp))));have HB1:=hid (HB.out.trans (hb1.mono (by simp)));clear hb1 hr;go_wp2_with (go_at_call 102;refine(HC.out T HT.out HS.out _ (HP.out.keep (AA.of_below HB1.out))).mono ?_;rintro e w2 ⟨r,rfl,hr,hb2⟩;obtain rfl:=hr.2 HG.out;replace hb2:=hid hb2);go_ret;exact TU ⟨T,HT.out,HS.out,rfl,FQ.out,HG.out⟩ (HB1.out.trans (hb2.out.mono HB1.out.size))
  ·have HG:=hid hg;clear hg;have SC:Hid (¬CQ (AX T)):=hid (fun h=>HG.out h.good);go_enter Tryz.func55,Tryz.ntmps55;go_wp2_with fail;refine(HV.out _ (HP.out.keep (AA.of_below HB.out))).mono ?_;rintro e w1 ⟨r,rfl,hr,hb1⟩;obtain rfl:=hr.2 FQ.out;obtain⟨e0,e1,e2⟩:=Cc ((AR.trans (hb1.mono (by simp))));have HB1:=hid (HB.out.trans (hb1.mono (by simp)));clear hb1 hr;go_wp2_with (go_at_call 102;refine(HC.out T HT.out HS.out _ (HP.out.keep (AA.of_below HB1.out))).mono ?_;rintro e w2 ⟨r,rfl,hr,hb2⟩;obtain rfl:=(Bool.eq_false_iff.2 (fun h=>HG.out (hr.1 h)));replace hb2:=hid hb2);go_ret;exact FE SC.out (HB1.out.trans (hb2.out.mono HB1.out.size))
 ·have HN:=hid hv;have SC:Hid (¬CQ P):=hid (by rintro⟨T',_,_,_,h,_⟩;exact HN.out h);clear hv;go_enter Tryz.func55,Tryz.ntmps55;go_wp2_with fail;refine(HV.out _ (HP.out.keep (AA.of_below HB.out))).mono ?_;rintro e w1 ⟨r,rfl,hr,hb1⟩;obtain rfl:=(Bool.eq_false_iff.2 (fun h=>HN.out (hr.1 h)));have HB1:=hid (HB.out.trans (hb1.mono (by simp)));clear hb1 hr;go_wp2_with fail;go_ret;exact FE SC.out HB1.out
end Go.Proofs.YtlmlamcoeegkbaaGreat.UA

import Derived.Test.YtlmlamcoeegkbaaGreatZ0
import Derived.Test.YtlmlamcoeegkbaaGreatZw
import Derived.Test.YtlmlamcoeegkbaaGreatZp
import Derived.Deep.AppendLies
import Derived.Test.YtlmlamcoeegkbaaGreatZf
import Derived.Test.YtlmlamcoeegkbaaGreatZa
import Derived.Test.YtlmlamcoeegkbaaGreatZq
/-
  Lemmas for the law FnOrbits, in short spelling.
-/
open Go.Lib (hid)
set_option linter.unusedVariables false
set_option linter.unusedSimpArgs false
set_option maxRecDepth 100000
set_option maxHeartbeats 40000000
namespace Go.Proofs.YtlmlamcoeegkbaaGreat.SpecS
open Go.RowKit Go.Proofs.YtlmlamcoeegkbaaGreat Tow NumT GenC GenD GenE SpecA SpecB SpecD SpecE SpecI SpecJ SpecL SpecQ SpecR
theorem bx {w wr:World}{a0 a1 a2 b0 b1 b2:Value}{t t2:TypeId}(hb:Below (w.heap.size+2) ((w.alloc (.cells #[a0,a1,a2] t)).alloc (.cells #[b0,b1,b2] t2)) wr):
  (wr.cell? ⟨w.heap.size,0,none⟩=some a0∧wr.cell? ⟨w.heap.size,1,none⟩=some a1∧wr.cell? ⟨w.heap.size,2,none⟩=some a2)∧
  (wr.cell? ⟨w.heap.size+1,0,none⟩=some b0∧wr.cell? ⟨w.heap.size+1,1,none⟩=some b1∧wr.cell? ⟨w.heap.size+1,2,none⟩=some b2)∧
  Keep (fun _=>True) w wr∧Below w.heap.size w wr∧w.heap.size+2≤wr.heap.size:=by
 obtain⟨h1,h2,h3,h4,h5⟩:=SpecF.box2 hb;exact⟨h1,⟨(zq15 _ _ _ _ _ (0,0) h2).trans rfl,(zq15 _ _ _ _ _ (0,0) h2).trans rfl,(zq15 _ _ _ _ _ (0,0) h2).trans rfl⟩,h3,h4,h5⟩
theorem Own2.put {e2 e:TypeId}(hne:e≠e2){B:Nat}{w:World}{g c:Nat}{rows:List (List Nat)}(h:Own2 e2 e B w (.slice (some ⟨g,0,none⟩) rows.length c) rows)(k:Nat){u:Value}{r:List Nat}(hu:RowOk e B w u r):
  Own2 e2 e B (w.setCell ⟨g,k,none⟩ u) (.slice (some ⟨g,0,none⟩) rows.length c) (rows.set k r):=by
 obtain⟨us,h1,h2,h3⟩:=h;have hs:=zq109 h1 k u;have hkp:∀v r,RowOk e B w v r→RowOk e B (w.setCell ⟨g,k,none⟩ u) v r:=fun v r hr=>⟨hr.1,zq93 hr.2 hs.2 (rows_apart hr.2 h1 hne)⟩;refine⟨us.set k u,by simpa using hs.1,by simp[h2],fun i r' v hr hv=>?_⟩;by_cases hi:i=k
 ·subst hi;have hil:i<rows.length:=by
   have:=(zq2.1 hr).1;simpa using this
  rw[zq94 hil]at hr;rw[zq94 (by omega)]at hv;injection hr with hr;injection hv with hv;subst hr;subst hv;exact hkp _ _ hu
 ·rw[zq111 (fun h=>hi h.symm)]at hr hv;exact hkp _ _ (h3 i r' v hr hv)
theorem Own2.putN {e2 e:TypeId}(hne:e≠e2){B n:Nat}{w:World}{g c:Nat}{rows:List (List Nat)}(hn:rows.length=n)(h:Own2 e2 e B w (.slice (some ⟨g,0,none⟩) n c) rows)(k:Nat){u:Value}{r:List Nat}(hu:RowOk e B w u r):
  Own2 e2 e B (w.setCell ⟨g,k,none⟩ u) (.slice (some ⟨g,0,none⟩) n c) (rows.set k r):=by
 subst hn;exact Own2.put hne h k hu
theorem Own2.cellF {e2 e:TypeId}{B n:Nat}{w:World}{g c:Nat}{rows:List (List Nat)}(h:Own2 e2 e B w (.slice (some ⟨g,0,none⟩) n c) rows){k:Nat}(hk:k<rows.length):(∃u,w.cell? ⟨g,k,none⟩=some u)∧w.frozen? ⟨g,k,none⟩=false:=by
 obtain⟨us,h1,h2,h3⟩:=h;have hn:n=rows.length:=by
  rcases h1.2 with⟨h',_⟩|⟨g',cap,cur,h',_⟩
  ·cases h'
  ·simp only[zq40]at h';exact h'.2.1
 subst hn;obtain⟨u,hu⟩:∃u,us[k]?=some u:=⟨_,zq0 (by omega)⟩;exact⟨⟨u,by rw[zq59 h1 k (by omega)];exact hu⟩,zq130 h1 k⟩
theorem kS_mk {B:Nat}{wr w':World}(hB:B≤wr.heap.size)(h:Keep (fun k=>k<B) wr w'):(∀b o,b<B→w'.cell? ⟨b,o,none⟩=wr.cell? ⟨b,o,none⟩)∧Keep (fun k=>k<B) wr w':=⟨fun b o hb=>h.cell hb (zq7 hb hB),h⟩
def FT (Q:Tw)(L:Lv)(im:List (List Nat))(x:List Nat)(m:Nat):Prop:=
 npow (mul Q) (Tow.one Q) x L.o=ev (mul Q) (Tow.one Q) im L.w∧∀k,k<m→∀y,L.c[k]?=some y→mul Q (im.getD k (Tow.one Q)) x=mul Q x (ev (mul Q) (Tow.one Q) im y)
theorem FT_all {Q:Tw}{L:Lv}{im:List (List Nat)}{x:List Nat}:FT Q L im x L.c.length↔FitsV Q L im x:=
 ⟨fun h=>⟨h.1,fun k y hy=>h.2 k (zq2.1 hy).1 y hy⟩,fun h=>⟨h.1,fun k _ y hy=>h.2 k y hy⟩⟩
theorem FT_le {Q:Tw}{L:Lv}{im:List (List Nat)}{x:List Nat}{m:Nat}(h:FitsV Q L im x):FT Q L im x m:=⟨h.1,fun k _ y hy=>h.2 k y hy⟩
theorem FT_succ {Q:Tw}{L:Lv}{im:List (List Nat)}{x y:List Nat}{m:Nat}(hy:L.c[m]?=some y):FT Q L im x (m+1)↔FT Q L im x m∧mul Q (im.getD m (Tow.one Q)) x=mul Q x (ev (mul Q) (Tow.one Q) im y):=by
 constructor
 ·intro h;exact⟨⟨h.1,fun k hk=>h.2 k (by omega)⟩,h.2 m (by omega) y hy⟩
 ·rintro⟨h1,h2⟩;refine⟨h1.1,fun k hk z hz=>?_⟩;rcases zq30.1 hk with h|h
  ·exact h1.2 k h z hz
  ·subst h;rw[hy]at hz;injection hz with hz;subst hz;exact h2
def kn (Q:Tw)(ims:List (List Nat))(k:Nat):List (List Nat):=List.replicate k (Tow.one Q)++ims.drop k
theorem kn_length {Q:Tw}{ims:List (List Nat)}{k:Nat}(h:k≤ims.length):(kn Q ims k).length=ims.length:=by simp[kn];omega
theorem kn_set {Q:Tw}{ims:List (List Nat)}{k:Nat}(h:k<ims.length):(kn Q ims k).set k (Tow.one Q)=kn Q ims (k+1):=by
 unfold kn;rw[List.set_append_right _ _ (by simp),show k-(List.replicate k (Tow.one Q)).length=0 by simp,zq32 h,zq22,zq101,zq74];rfl
theorem kn_El {Q:Tw}(hQ:Wf Q){ims:List (List Nat)}(h:∀x∈ims,El Q x)(k:Nat):∀x∈kn Q ims k,El Q x:=fun x hx=>by
 rcases zq68.1 hx with h1|h1
 ·rw[(zq82.1 h1).2];exact El_one hQ
 ·exact h x (zq72 h1)
theorem kn_drop {Q:Tw}{ims:List (List Nat)}{k:Nat}:(kn Q ims k).drop k=ims.drop k:=by simp[kn]
open Classical in
noncomputable def may (Q:Tw)(L:Lv)(im:List (List Nat))(t:Nat):Bool:=decide (¬Gen.Gen (mul Q) (Tow.one Q) im (at_ Q t)∧FitsV Q L im (at_ Q t))
open Classical in
theorem may_iff {Q:Tw}{L:Lv}{im:List (List Nat)}{t:Nat}:may Q L im t=true↔¬Gen.Gen (mul Q) (Tow.one Q) im (at_ Q t)∧FitsV Q L im (at_ Q t):=by
 unfold may;exact zq78
noncomputable def ChL (Q:Tw)(L:Lv)(im:List (List Nat)):List (List Nat):=(nums (may Q L im) (sz Q)).map (at_ Q)
theorem choices_any (T Q:Tw)(hT:Wf T)(hsT:Small T)(hQ:Wf Q)(hs:Small Q)(hg:Tow.Good Q)(hp:Pr Q)(hz:sz Q≤729)(w:World)(pO pP pC qO qP qC vi:Value)(i:Nat)(L:Lv)(hL:T[i]?=some L)(ims:List (List Nat))
  (hPT:ValP Any w pO pP pC (ofTw T)) (hPQ:ValP Any w qO qP qC (ofTw Q)) (hi:Sl2 Any w vi (ims.map ints)) (hil:ims.length=T.length) (hie:∀x∈ims,El Q x) (hq0:0<Q.length∨(Q=[]∧i+1=T.length)):
  Calls Tryz.prog 135 #[.agg #[pO,pP,pC],.agg #[qO,qP,qC],.int .i64 (i:Int),vi] w (New2 24 2 (ChL Q L (ims.drop (i+1))) w):=by
 obtain⟨i0,hinf,hz0,hz1,hz2⟩:=zq41 infoR;have hiT:i<T.length:=(zq2.1 hL).1;have hT6:=hsT.1;obtain⟨aO,cO,aP,cP,aC,cC,rfl,rfl,rfl,hO1,hP1,hC1⟩:=hPT.open;have HPT:=hid hPT;have HPQ:=hid hPQ;have HI:=hid hi;have HIE:=hid hie;have HIL:=hid hil;have HG:=hid (grp hQ hg);have HLL:=hid hL;have HOT:=hid (SpecN.ofTw_ords Q);have HQW:=hid hQ;have HOWN:=hid (fun W hv=>own2_any W vi ims hv (by omega) (fun r hr=>by rw[El_length (hie r hr)];have:=hs.1;omega));have HONE:=hid (fun W hO=>SpecN.one_any Q hs.1 W qO qP qC hO);have HAP:=hid (fun W vu va us es hP hu ha hl hl6 hus hes=>apply_any Q hQ hs hg W qO qP qC vu va us es hP hu ha hl hl6 hus hes);have HIMS:∀x∈ims.drop (i+1),El Q x:=fun x hx=>hie x (zq72 hx);have HSZ:=hid (fun W hO=>SpecN.order_any Q (SpecN.Os.of hQ hs hz) W qO qP qC hO);have HCL:=hid (fun W v (hP:ValP Any W qO qP qC (ofTw Q)) (hi:Sl2 Any W v ((ims.drop (i+1)).map ints))=>show Calls Tryz.prog 182 #[.agg #[qO,qP,qC],v] W (SpecP.CloseR Q (ims.drop (i+1)) W) from by
  rcases hq0 with h|⟨h1,h2⟩
  ·exact SpecP.close_any Q hQ hs hg hp h W qO qP qC v (ims.drop (i+1)) hP hi HIMS (by simp;omega)
  ·subst h1;have h3:ims.drop (i+1)=[]:=zq114 (by omega);rw[h3]at hi ⊢;exact SpecPZ.closeZ_any W qO qP qC v hP hi)
 have HQ00:=hid hq0;have HEL:=hid (fun W v tl dn (hfd:SpecO.FD Q tl dn 0) (hclo:SpecO.CLO Q (ims.drop (i+1)) tl) hP hu=>elements_any Q hQ hs hg hz W qO qP qC v _ _ hP hu (GenF.ldok hQ hs hg hfd hclo).1 (GenF.ldok hQ hs hg hfd hclo).2.1 (GenF.ldok hQ hs hg hfd hclo).2.2.1 (zq11 (GenF.ldok hQ hs hg hfd hclo).2.2.2 hz));have HSP:=hid (fun tl dn (hfd:SpecO.FD Q tl dn 0) (hclo:SpecO.CLO Q (ims.drop (i+1)) tl) t (ht:t<sz Q)=>GenF.span_iff hQ hs hg hfd hclo ht);have HNM:=hid (fun W va x hO hx hE hlt=>SpecN.number_any Q (SpecN.Os.of hQ hs hz) W qO qP qC va x hO hx hE hlt);have HPR7:=hid (show L.o≤7 from hsT.2 L (zq5 hL));have HAT:=hid (fun W q (hq:q≤1000000) hO=>SpecN.at_any Q (SpecN.Os.of hQ hs hz) (fun L h=>by have:=hs.2 L h;omega) q hq W qO qP qC hO);have HPOW:=hid (fun W va a K hK hP ha hA=>SpecK.pow_pos_any Q hQ hs hg W qO qP qC va a K hK hP ha hA);have HMUL:=hid (fun W va vb a b hP ha hb hA hB=>mul_any Q hQ hs W qO qP qC va vb a b hP ha hb hA hB);have hmkb:=mkB66 (sz Q) hz;obtain⟨WB,hWB⟩:∃WB,WB=(w.alloc (.cells #[.slice aO T.length cO,.slice aP T.length cP,.slice aC T.length cC] 28)).alloc (.cells #[qO,qP,qC] 28):=⟨_,rfl⟩;have HB0:=hid (show Below (w.heap.size+2) ((w.alloc (.cells #[.slice aO T.length cO,.slice aP T.length cP,.slice aC T.length cC] 28)).alloc (.cells #[qO,qP,qC] 28)) WB by rw[hWB];exact zq3 _ _);clear hPT hPQ hi hie hil hL hq0;go_enter Tryz.func135,Tryz.ntmps135;go_upto_region 1 with fail;rw[←hWB];clear hWB;obtain⟨⟨p0,p1,p2⟩,⟨q0,q1,q2⟩,hk,hbw,hsz⟩:=bx HB0.out;go_wp2_with fail;refine(HOWN.out _ (HI.out.keep hk)).mono ?_;rintro e w1 ⟨v1,rfl,ho1,hb1⟩;have HO1:=hid (ho1.mono (B':=w.heap.size+2) hsz);have HB1:=hid (HB0.out.trans (hb1.mono hsz));clear ho1 hb1 hk hbw hsz p0 p1 p2 q0 q1 q2 HOWN HI;obtain⟨g1,c1,_,hv1,hgB,hg1l,_,_⟩:=HO1.out.at (i:=0) (r:=ims[0]'(by have:=HIL.out;omega)) (by rw[zq0]);rw[HIL.out]at hv1;subst hv1;go_wp2_with fail;go_loopw [10] (fun kv wr=>∃k:Nat,k≤i+1∧kv= .int .i64 (k:Int)∧Hid (Own2 24 2 (w.heap.size+2) wr (.slice (some ⟨g1,0,none⟩) T.length c1) (kn Q ims k))∧Below (w.heap.size+2) ((w.alloc (.cells #[.slice aO T.length cO,.slice aP T.length cP,.slice aC T.length cC] 28)).alloc (.cells #[qO,qP,qC] 28)) wr) (fun kv _=>i+1-(intOf kv).toNat);case atStart=>exact⟨0,zq4 _,rfl,HO1,HB1.out⟩
 case round=>
  obtain⟨k,hk,rfl,hO,hB⟩:=hrel;have HBk:=hid hB;obtain⟨⟨p0,p1,p2⟩,⟨q0,q1,q2⟩,hkk,hbw,hsz⟩:=bx hB;have hqb:w.heap.size+1<wr.heap.size:=by omega
  by_cases hlt:k<i+1
  ·have hkT:k<ims.length:=by have:=HIL.out;omega
   have hle:(k:Int)≤(i:Int):=by omega
   have hkn:(k:Int)<(T.length:Int):=by omega
   have hk0:(0:Int)≤(k:Int):=by omega
   have hks:decide ((k:Int)≤(i:Int))=true:=by simp;omega
   have hki:k≤i:=by omega
   have HKT:=hid hkT;have HOQ:=hid (show SlI Any wr qO (ints (SpecN.ords Q)) from by
    have h:=(HPQ.out.keep hkk).os;rwa[HOT.out]at h)
   clear hB hkk hbw hkT;go_wp2_with fail;refine(HONE.out _ HOQ.out).mono ?_;rintro e w2 ⟨g2,c2,rfl,ho2,hb2⟩;have HO2:=hid (hO.out.of_below hb2);obtain⟨⟨u2,s2⟩,f2⟩:=Own2.cellF HO2.out (k:=k) (by rw[kn_length (by have:=HKT.out;omega)];exact HKT.out);have HR2:=hid (NewS.row (ho2.mono (B':=w.heap.size+2) hsz));have HB2:=hid (HBk.out.trans (hb2.mono hsz));have HN:=hid (show Own2 24 2 (w.heap.size+2) (w2.setCell ⟨g1,k,none⟩ (.slice (some ⟨g2,0,none⟩) (ints (Tow.one Q)).length c2)) (.slice (some ⟨g1,0,none⟩) T.length c1) (kn Q ims (k+1)) from by
    have h:=Own2.putN (by decide) (by rw[kn_length (by have:=HKT.out;omega)];exact HIL.out) HO2.out k HR2.out;rwa[kn_set HKT.out]at h)
   have HNB:=hid (HB2.out.setCell (p:=⟨g1,k,none⟩) hgB (.slice (some ⟨g2,0,none⟩) (ints (Tow.one Q)).length c2));clear ho2 hb2 hO;go_wp2_with fail;go_roundw;case rel=>exact⟨k+1,by omega,by go_num,HN,HNB.out⟩
   case measure=>simp[intOf]<;>omega
  ·obtain rfl:k=i+1:=by omega
   have hle:¬((i+1:Nat):Int)≤(i:Int):=by omega
   have hki:¬i+1≤i:=by omega
   clear hlt HO1 HB1 HONE;go_upto_region 6 with fail;obtain⟨bP,oP,uP,rfl,_,hbP,hcP,huP⟩:=HPT.out.pow HLL.out;obtain⟨bC,oC,a2,c2,rfl,_,hbC,hcC,h21,hC4⟩:=HPT.out.con HLL.out;have hlv:=lvl' hT HLL.out;have hKl:(kn Q ims (i+1)).length=T.length:=by rw[kn_length (by have:=HIL.out;omega)];exact HIL.out
   have hKE:=kn_El HQW.out HIE.out (i+1);have HSK:=hid (hO.out.sl.mono (fun _ _=>trivial):Sl2 Any wr (.slice (some ⟨g1,0,none⟩) T.length c1) ((kn Q ims (i+1)).map ints));have HPQr:=hid (HPQ.out.keep hkk);have hcPr:=(hkk.cell (b:=bP) (o:=oP+i) trivial hbP).trans hcP;have hcCr:=(hkk.cell (b:=bC) (o:=oC+i) trivial hbC).trans hcC;have HUPr:=hid (SlI.keep huP hkk);have HC4:=hid (fun k y (hy:L.c[k]?=some y)=>by
    obtain⟨b2,o2,u,h1,h2,h3,h4,h5⟩:=hC4 k y hy;exact(⟨b2,o2,u,h1,zq7 h3 hkk.size,(hkk.cell trivial h3).trans h4,SlI.keep h5 hkk⟩:∃b2 o2 u,a2=some ⟨b2,o2,none⟩∧b2<wr.heap.size∧wr.cell? ⟨b2,o2+k,none⟩=some u∧SlI Any wr u (ints (pad (i+1) y))))
   have hap:∀y,El (T.drop (i+1)) y→(kn Q ims (i+1)).length≤(pad (i+1) y).length∧(∀a∈pad (i+1) y,a≤1000)∧prodL (mul Q) (Tow.one Q) (kn Q ims (i+1)) (pad (i+1) y)=ev (mul Q) (Tow.one Q) (ims.drop (i+1)) y∧El Q (ev (mul Q) (Tow.one Q) (ims.drop (i+1)) y):=fun y hy=>by
    have hdE:∀x∈ims.drop (i+1),El Q x:=fun x hx=>HIE.out x (zq72 hx);refine⟨by rw[hKl,pad_length,El_length hy];simp;omega,fun a ha=>?_,?_,HG.out.ev hdE y⟩
    ·rcases zq68.1 ha with h|h
     ·rw[(zq82.1 h).2];omega
     ·obtain⟨j,hj⟩:=zq45 h;obtain⟨L',hL',hlt⟩:=El_lt hy hj;have:=hsT.2 L' (zq72 (zq5 hL'));omega
    ·rw[prodL_pad _ _ _ _ _ (by rw[hKl];omega),kn_drop,HG.out.prodL_e hdE]
   have HAPP:=hid hap;have HLV:=hid hlv;have HKE:=hid hKE;have HKL:=hid hKl;have hwwr:w.heap.size<wr.heap.size:=by omega
   have hww1:w.heap.size+1<wr.heap.size:=by omega
   have hbPr:bP<wr.heap.size:=zq7 hbP hkk.size;have hbCr:bC<wr.heap.size:=zq7 hbC hkk.size;have hii:(i:Int)<(T.length:Int):=by omega
   have hi0:(0:Int)≤(i:Int):=by omega
   have HBW:=hid hbw;clear hap hlv hKl hKE huP hC4 hcP hcC hO hB hbw;go_region_held3 (fun w'=>(∀b o,b<wr.heap.size→w'.cell? ⟨b,o,none⟩=wr.cell? ⟨b,o,none⟩)∧Keep (fun _=>True) wr w')
    (first|exact ks_mk (by repeat(first|exact zqK.drew|exact Keep.refl _ _|refine Keep.drewN ?_ _|refine Keep.trans ?_ (Keep.of_below (by assumption)))))
    (first|(go_at_call 81;refine(HAP.out _ (.slice (some ⟨g1,0,none⟩) T.length c1) uP _ _ (HPQr.out.keep (by repeat(first|exact zqK.drew|exact Keep.refl _ _|exact zqK.alloc _|exact(zqK.alloc _).drew|refine Keep.drewN ?_ _|refine Keep.trans ?_ (Keep.of_below (by assumption))))) (Sl2.keep HSK.out (by repeat(first|exact zqK.drew|exact Keep.refl _ _|exact zqK.alloc _|exact(zqK.alloc _).drew|refine Keep.drewN ?_ _|refine Keep.trans ?_ (Keep.of_below (by assumption))))) (HUPr.out.keep (by repeat(first|exact zqK.drew|exact Keep.refl _ _|exact zqK.alloc _|exact(zqK.alloc _).drew|refine Keep.drewN ?_ _|refine Keep.trans ?_ (Keep.of_below (by assumption))))) (HAPP.out L.w HLV.out.2.2.2.1).1 (by rw[HKL.out];omega) HKE.out (HAPP.out L.w HLV.out.2.2.2.1).2.1).mono ?_;rintro e w6 ⟨vp,rfl,ho6,hb6⟩))
   rw[(HAPP.out L.w HLV.out.2.2.2.1).2.2.1]at ho6;have hbr6:Below wr.heap.size wr w6:=(by repeat(first|exact zq3 _ _|exact zqB.drew|refine Below.step ?_ zqN (by assumption)));have HVP:=hid (ho6.sl.mono (S':=Any) (fun _ _=>trivial));have HBR6:=hid hbr6;have k6:∀b o,b<wr.heap.size→w6.cell? ⟨b,o,none⟩=wr.cell? ⟨b,o,none⟩:=fun b o h=>(Keep.of_below (S:=Any) hbr6).cell trivial h;have hs6:=hbr6.size;have t0:=(k6 _ 0 hwwr).trans p0;have t1:=(k6 _ 2 hwwr).trans p2;have r0:=(k6 _ 0 hww1).trans q0;have r1:=(k6 _ 1 hww1).trans q1;have r2:=(k6 _ 2 hww1).trans q2;have hcC6:=(k6 _ _ hbCr).trans hcCr;have HPQ6:=hid (HPQr.out.keep (Keep.of_below hbr6));have HSK6:=hid (Sl2.keep HSK.out (Keep.of_below hbr6));have HC46:=hid (fun k y (hy:L.c[k]?=some y)=>by
    obtain⟨b2,o2,u,h1,h3,h4,h5⟩:=HC4.out k y hy;exact(⟨b2,o2,u,h1,zq7 h3 hs6,(k6 _ _ h3).trans h4,SlI.keep h5 (Keep.of_below hbr6)⟩:∃b2 o2 u,a2=some ⟨b2,o2,none⟩∧b2<w6.heap.size∧w6.cell? ⟨b2,o2+k,none⟩=some u∧SlI Any w6 u (ints (pad (i+1) y))))
   have h00:=zq47 (base:=w6.heap.size) (e:=24) (size:=1) w6 #[] 0 zqN (zq4 _) rfl;have hwi:IntKind.i64.wrap ((i:Int)+1)=(i:Int)+1:=zq6 _ (by omega);clear ho6 hb6 hbr6 k6 hkk p0 p1 p2 q0 q1 q2 hcPr hcCr HUPr HPQr HSK HC4 hle hki;go_wp2_with fail;rename World=>wo;obtain⟨im,him⟩:∃im,im=ims.drop (i+1):=⟨_,rfl⟩;rw[←him]at HVP HAPP HCL HEL HSP;have HIMD:=hid him;have hiA:i+1≤T.length:=by omega
   clear him;go_loopw [12,13] (fun mv jv wr=>∃m:Nat,m≤L.c.length∧jv= .int .i64 ((i:Int)+1+(m:Int))∧Hid (Own2 24 2 wo.heap.size wr mv ((L.c.take m).map (ev (mul Q) (Tow.one Q) im)))∧Below wo.heap.size wo wr) (fun _ jv _=>T.length-(intOf jv).toNat);case atStart=>exact⟨0,zq4 _,zq38 (Value.int .i64) (by omega),hid ⟨[],h00,rfl,by simp⟩,zqB.alloc zqN _⟩
   case round=>
    obtain⟨m,hm,rfl,hMV,hb⟩:=hrel;have HBm:=hid hb;have hsm:=hb.size;have k7:∀b o,b<wo.heap.size→wr.cell? ⟨b,o,none⟩=wo.cell? ⟨b,o,none⟩:=fun b o h=>(Keep.of_below (S:=Any) hb).cell trivial h;have hwwo:w.heap.size<wo.heap.size:=by omega
    have hww1o:w.heap.size+1<wo.heap.size:=by omega
    have hbCo:bC<wo.heap.size:=by omega
    have x0:=(k7 _ 0 hwwo).trans t0;clear h00;by_cases hlt:m<L.c.length
    ·have hQ0:0<Q.length:=by
      rcases HQ00.out with h|⟨_,h2⟩
      ·exact h
      ·have:=HLV.out.2.1;omega
     obtain⟨y,hy⟩:∃y,L.c[m]?=some y:=⟨_,zq0 hlt⟩;obtain⟨b2,o2,um,rfl,hb2l,hcum,hum⟩:=HC46.out m y hy;have x1:=(k7 _ 2 hwwo).trans t1;have y0:=(k7 _ 0 hww1o).trans r0;have y1:=(k7 _ 1 hww1o).trans r1;have y2:=(k7 _ 2 hww1o).trans r2;have z0:=(k7 _ _ hbCo).trans hcC6;have z1:=(k7 _ _ hb2l).trans hcum;have HPQr:=hid (HPQ6.out.keep (Keep.of_below hb));have HSKr:=hid (Sl2.keep HSK6.out (Keep.of_below hb));have HUMr:=hid (SlI.keep hum (Keep.of_below hb));have hyE:=HLV.out.2.2.1 y (zq5 hy);have HA:=hid (HAPP.out y hyE);have HYE:=hid hyE;have HTK:=hid (show(L.c.take (m+1)).map (ev (mul Q) (Tow.one Q) im)=(L.c.take m).map (ev (mul Q) (Tow.one Q) im)++[ev (mul Q) (Tow.one Q) im y] by rw[zq69,hy];simp);have HML:=hid (show((L.c.take m).map (ev (mul Q) (Tow.one Q) im)).length=m by simp;omega);obtain⟨us2,h1,h2,h4⟩:=hMV.out;rw[HML.out]at h1;have hgr:∀k,k<wo.heap.size→some k≠Value.ownBlock _:=fun k hk e=>by have:=(zq8 h1 k e.symm).1;omega
     have HUU:=hid (And.intro h1 (And.intro h2 h4));have hm6:m≤6:=by have:=HLV.out.2.1;omega
     have w1:IntKind.i64.wrap (((i:Int)+1+(m:Int))-(i:Int))=(m:Int)+1:=by rw[zq6 _ (by omega)];omega
     have w2':IntKind.i64.wrap (((m:Int)+1)-1)=(m:Int):=by rw[zq6 _ (by omega)];omega
     have w8':IntKind.i64.wrap (m:Int)=(m:Int):=zq6 _ (by omega);have w4':(m:Int)<(L.c.length:Int):=by omega
     have w5':(0:Int)≤(m:Int):=by omega
     have w9':(i:Int)+1+(m:Int)<(T.length:Int):=by have:=HLV.out.2.1;omega
     clear hy hum hcum hyE h1 h2 h4 hMV k7 hb;go_wp2_with fail;go_region_held3 (fun w'=>(∀b o,b<wo.heap.size→w'.cell? ⟨b,o,none⟩=wr.cell? ⟨b,o,none⟩)∧Keep (fun k=>k<wo.heap.size) wr w')
      (first|exact kS_mk hsm (by repeat(first|exact zqK.drew|exact Keep.refl _ _|refine Keep.alloc ?_ _|refine Keep.trans ?_ (Keep.of_below (by assumption))|refine Keep.trans ?_ (Keep.grown (by assumption) hgr))))
      (first|(go_at_call 81;refine(HAP.out _ (.slice (some ⟨g1,0,none⟩) T.length c1) um _ _ (HPQr.out.keep (by repeat(first|exact zqK.drew|exact Keep.refl _ _|exact zqK.alloc _|exact(zqK.alloc _).drew|refine Keep.drewN ?_ _|refine Keep.trans ?_ (Keep.of_below (by assumption))))) (Sl2.keep HSKr.out (by repeat(first|exact zqK.drew|exact Keep.refl _ _|exact zqK.alloc _|exact(zqK.alloc _).drew|refine Keep.drewN ?_ _|refine Keep.trans ?_ (Keep.of_below (by assumption))))) (HUMr.out.keep (by repeat(first|exact zqK.drew|exact Keep.refl _ _|exact zqK.alloc _|exact(zqK.alloc _).drew|refine Keep.drewN ?_ _|refine Keep.trans ?_ (Keep.of_below (by assumption))))) HA.out.1 (by rw[HKL.out];omega) HKE.out HA.out.2.1).mono ?_;rintro e w5 ⟨v5,rfl,ho5,hb5⟩;rw[HA.out.2.2.1]at ho5;obtain⟨g5,c5,hv5⟩:=ho5.form (by rw[ints_length,El_length HA.out.2.2.2];exact hQ0);rw[ints_length,El_length HA.out.2.2.2]at hv5;subst hv5;have hs5:=hb5.size;have hs58:wr.heap.size≤w5.heap.size:=(show Keep (fun _=>True) wr w5 from(by repeat(first|exact zqK.drew|exact Keep.refl _ _|exact zqK.alloc _|exact(zqK.alloc _).drew|refine Keep.drewN ?_ _|refine Keep.trans ?_ (Keep.of_below (by assumption))))).size)|(refine zq119 _ (by rfl) _ _ _ (by rfl) wo.heap.size 24 i0 (.slice none 0 0) 1 24 Tryz.underlying25 hinf hz0 hz1 hz2 rfl (by omega) _ m us2 (by rfl) ((ownsRow_keep HUU.out.1 (S:=Any) (by repeat(first|exact zqK.drew|exact Keep.refl _ _|exact zqK.alloc _|exact(zqK.alloc _).drew|refine Keep.drewN ?_ _|refine Keep.trans ?_ (Keep.of_below (by assumption)))) (fun _ _=>trivial)).alloc _) ⟨w5.heap.size,0,none⟩ 1 1 [.slice (some ⟨g5,0,none⟩) Q.length c5] (by rfl) (by rfl) (zq50 (cs:= #[.slice (some ⟨g5,0,none⟩) Q.length c5]) (t:=24) (fr:=(0,0)) (zq17 w5 _)) (by simp[Value.oneCell']) (by omega) (by unfold maxLen;omega) (by omega) (by simp;omega) _ rfl ?_;intro gg cap w10 hown10 hgrow10 hat10 hlt10))
     have HN:=hid (show Own2 24 2 wo.heap.size w10 (.slice (some ⟨gg,0,none⟩) (m+1) cap) ((L.c.take (m+1)).map (ev (mul Q) (Tow.one Q) im)) from by
      rw[HTK.out];exact Own2.push (w:=w5.alloc _) (us:=us2) (by decide) HML.out ((ownsRow_keep HUU.out.1 (S:=Any) (by repeat(first|exact zqK.drew|exact Keep.refl _ _|exact zqK.alloc _|exact(zqK.alloc _).drew|refine Keep.drewN ?_ _|refine Keep.trans ?_ (Keep.of_below (by assumption)))) (fun _ _=>trivial)).alloc _) HUU.out.2.1 (fun i r u hr hu=>((HUU.out.2.2 i r u hr hu).keep (S:=Any) (by repeat(first|exact zqK.drew|exact Keep.refl _ _|exact zqK.alloc _|exact(zqK.alloc _).drew|refine Keep.drewN ?_ _|refine Keep.trans ?_ (Keep.of_below (by assumption)))) (fun _ _=>trivial)).keep (S:=Any) (Keep.alloc zqK _) (fun _ _=>trivial)) ((SpecP.rowOk_of (ho5.mono (B':=wo.heap.size) hsm) (by rw[El_length HA.out.2.2.2];exact hQ0)).keep (S:=Any) (Keep.alloc zqK _) (fun _ _=>trivial)) hown10 hgrow10)
     have HNB:=hid (show Below wo.heap.size wo w10 from by
      have h5:Below wr.heap.size wr w5:=(by repeat(first|exact zq3 _ _|exact zqB.drew|refine Below.step ?_ zqN (by assumption)));exact((HBm.out.trans (h5.mono hsm)).alloc (by omega) _).grown hgrow10 (by simp;omega) (fun g hg=>(zq8 HUU.out.1 g hg).1))
     clear hown10 hgrow10 hat10 hlt10 ho5 hb5 hs5 hs58 hgr x0 x1 y0 y1 y2 z0 z1;go_wp2_with fail;go_roundw;case rel=>exact⟨m+1,by omega,zq38 (Value.int .i64) (by omega),HN,HNB.out⟩
     case measure=>simp[intOf]<;>omega
    ·obtain rfl:m=L.c.length:=by omega
     have hnl:¬(i:Int)+1+(L.c.length:Int)<(T.length:Int):=by have:=HLV.out.2.1;omega
     have hBX:Below (w.heap.size+2) ((w.alloc (.cells #[.slice aO T.length cO,.slice (some ⟨bP,oP,none⟩) T.length cP,.slice (some ⟨bC,oC,none⟩) T.length cC] 28)).alloc (.cells #[qO,qP,qC] 28)) wr:=(HBk.out.trans (HBR6.out.mono (by omega))).trans (hb.mono (by omega));have HBX:=hid hBX;obtain⟨⟨p0,p1,p2⟩,⟨q0,q1,q2⟩,hkk,_,_⟩:=bx hBX;have HMVr:=hid (show Sl2 Any wr _ ((L.c.map (ev (mul Q) (Tow.one Q) im)).map ints) from by
      have h:=hMV.out.sl;rw[zq88]at h;exact h.mono (fun _ _=>trivial))
     have HSKr:=hid (Sl2.keep HSK6.out (Keep.of_below hb));have HVPr:=hid (SlI.keep HVP.out (Keep.of_below hb));have HPQr:=hid (HPQ.out.keep hkk);have HOQr:=hid (show SlI Any wr qO (ints (SpecN.ords Q)) from by
      have h:=HPQr.out.os;rwa[HOT.out]at h)
     have hwwr:w.heap.size<wr.heap.size:=by omega
     have hww1r:w.heap.size+1<wr.heap.size:=by omega
     clear hMV k7 hb hBX hkk t0 t1 r0 r1 r2 hcC6 HC46 HSK6 HVP HPQ6 HBR6 HBk hlt;go_wp2_with fail;refine(HSZ.out _ HOQr.out).mono ?_;rintro e w12 ⟨rfl,hb12⟩;have HB12:=hid hb12;clear hb12 p0 p1 p2 q0 q1 q2;go_upto_region 13 with fail;obtain⟨w13,hw13⟩:∃w13,w13=w12.alloc (.cells (madeCells #[.bool false] (sz Q)) 4):=⟨_,rfl⟩;rw[←hw13];obtain⟨gS,hgS⟩:∃gS,gS=w12.heap.size:=⟨_,rfl⟩;rw[←hgS];have HS13:=hid (show OwnB gS w13 (.slice (some ⟨gS,0,none⟩) (sz Q) (sz Q)) (List.replicate (sz Q) false) by rw[hw13,hgS];exact OwnB.made w12 (sz Q) zqN (by unfold maxLen;omega));have hb13:Below wr.heap.size wr w13:=by rw[hw13];exact HB12.out.alloc HB12.out.size _
     have hgS1:wr.heap.size≤gS:=by rw[hgS];exact HB12.out.size
     have hgS2:gS<w13.heap.size:=by rw[hw13,hgS];simp
     clear hw13 hgS;have hBX:Below (w.heap.size+2) ((w.alloc (.cells #[.slice aO T.length cO,.slice (some ⟨bP,oP,none⟩) T.length cP,.slice (some ⟨bC,oC,none⟩) T.length cC] 28)).alloc (.cells #[qO,qP,qC] 28)) w13:=HBX.out.trans (hb13.mono (by omega));have HBX13:=hid hBX;obtain⟨⟨p0,p1,p2⟩,⟨q0,q1,q2⟩,hkk,_,hsz13⟩:=bx hBX;have k13:=Keep.of_below (S:=Any) hb13;have HMV13:=hid (Sl2.keep HMVr.out k13);have HSK13:=hid (Sl2.keep HSKr.out k13);have HVP13:=hid (SlI.keep HVPr.out k13);have HPQ13:=hid (HPQ.out.keep hkk);have kn13:=Keep.of_below (S:=fun k=>k<wr.heap.size) hb13;have HMVn:=hid (Sl2.mono (S':=fun k=>k≠gS) (Sl2.keep (SpecO.Sl2.strongS HMVr.out) kn13) (fun k (hk:k<wr.heap.size)=>by omega));have HSKn:=hid (Sl2.mono (S':=fun k=>k≠gS) (Sl2.keep (SpecO.Sl2.strongS HSKr.out) kn13) (fun k (hk:k<wr.heap.size)=>by omega));have HVPn:=hid (SlI.mono (S':=fun k=>k≠gS) (SlI.keep (SpecO.SlI.strongS HVPr.out) kn13) (fun k (hk:k<wr.heap.size)=>by omega));have HPQn:=hid (((ValP.strongS HPQr.out).keep kn13).mono (S':=fun k=>k≠gS) (fun k (hk:k<wr.heap.size)=>by omega));clear kn13;have hww13:w.heap.size<w13.heap.size:=by omega
     have hww113:w.heap.size+1<w13.heap.size:=by omega
     have hc1:T.length≤c1:=by
      obtain⟨_,_,e,h2,_⟩:=HSK13.out;simp only[zq40]at e;rw[zq18]at h2;have:=HKL.out;omega
     clear hBX hkk hb13 k13 HMVr HSKr HVPr HPQr HOQr HBX HB12;have hA0:(0:Int)≤(i:Int)+1:=by omega
     have hA1:(i:Int)+1≤(T.length:Int):=by omega
     have hA2:(T.length:Int)≤(c1:Int):=by omega
     have hA3:(i:Int)+1≤(c1:Int):=by omega
     have hA4:((i:Int)+1).toNat=i+1:=by omega
     go_cut [15] (fun iv W=>∃p:Nat→Bool,Hid (∀t,t<sz Q→(p t=true↔Gen.Gen (mul Q) (Tow.one Q) im (at_ Q t)))∧Hid (Sl2 (fun k=>k≠gS) W iv (((nums p (sz Q)).map (at_ Q)).map ints))∧Hid (Below w13.heap.size w13 W));case first=>
      by_cases hcap:c1=i+1
      ·have HTAIL:=hid (show Sl2 Any w13 (.slice (some ⟨g1,0,none⟩) 0 0) (im.map ints) from by
        have:im=[]:=by rw[HIMD.out];exact zq114 (by have:=HIL.out;omega)
        rw[this];exact⟨some ⟨g1,0,none⟩,0,rfl,zq1 _,by simp,by simp,fun i x hx=>by simp at hx⟩)
       subst hcap;go_region_held3 (fun w'=>(∀b o,b<w13.heap.size→w'.cell? ⟨b,o,none⟩=w13.cell? ⟨b,o,none⟩)∧Keep (fun _=>True) w13 w')
        (first|exact ks_mk (by repeat(first|exact zqK.drew|exact Keep.refl _ _|refine Keep.drewN ?_ _|refine Keep.trans ?_ (Keep.of_below (by assumption)))))
        (first|(go_at_call 182;refine(HCL.out _ _ (HPQ13.out.keep (by repeat(first|exact zqK.drew|exact Keep.refl _ _|exact zqK.alloc _|exact(zqK.alloc _).drew|refine Keep.drewN ?_ _|refine Keep.trans ?_ (Keep.of_below (by assumption))))) (Sl2.keep HTAIL.out (by repeat(first|exact zqK.drew|exact Keep.refl _ _|exact zqK.alloc _|exact(zqK.alloc _).drew|refine Keep.drewN ?_ _|refine Keep.trans ?_ (Keep.of_below (by assumption)))))).mono ?_;rintro e w14 ⟨v14,tl,dn,rfl,hclo,hdl,hfd,hsl,hb14⟩)|(go_at_call 181;refine(HEL.out _ v14 tl dn hfd hclo (HPQ13.out.keep (by repeat(first|exact zqK.drew|exact Keep.refl _ _|exact zqK.alloc _|exact(zqK.alloc _).drew|refine Keep.drewN ?_ _|refine Keep.trans ?_ (Keep.of_below (by assumption))))) (Sl2.keep hsl (by repeat(first|exact zqK.drew|exact Keep.refl _ _|exact zqK.alloc _|exact(zqK.alloc _).drew|refine Keep.drewN ?_ _|refine Keep.trans ?_ (Keep.of_below (by assumption)))))).mono ?_;rintro e w15 ⟨v15,rfl,ho15,hb15⟩))
       have hb1315:Below w13.heap.size w13 w15:=(by repeat(first|exact zq3 _ _|exact zqB.drew|refine Below.step ?_ zqN (by assumption)));go_wp2_with fail;go_meet;exact⟨_,hid (fun t ht=>HSP.out tl dn hfd hclo t ht),hid (ho15.sl.mono (fun k hk=>by have h14:w13.heap.size≤w14.heap.size:=(show Keep (fun _=>True) w13 w14 from(by repeat(first|exact zqK.drew|exact Keep.refl _ _|exact zqK.alloc _|exact(zqK.alloc _).drew|refine Keep.drewN ?_ _|refine Keep.trans ?_ (Keep.of_below (by assumption))))).size;have hk':w14.heap.size≤k:=hk;omega)),hid hb1315⟩
      ·have hcap2:¬i+1=c1:=fun e=>hcap e.symm;have HTAIL:=hid (show Sl2 Any w13 (.slice (some ⟨g1,i+1,none⟩) (T.length-(i+1)) (c1-(i+1))) (im.map ints) from by
        have h:=GenF.Sl2.tail HSK13.out (i+1) hiA;rw[kn_drop]at h;rw[HIMD.out];exact h)
       go_region_held3 (fun w'=>(∀b o,b<w13.heap.size→w'.cell? ⟨b,o,none⟩=w13.cell? ⟨b,o,none⟩)∧Keep (fun _=>True) w13 w')
        (first|exact ks_mk (by repeat(first|exact zqK.drew|exact Keep.refl _ _|refine Keep.drewN ?_ _|refine Keep.trans ?_ (Keep.of_below (by assumption)))))
        (first|(go_at_call 182;refine(HCL.out _ _ (HPQ13.out.keep (by repeat(first|exact zqK.drew|exact Keep.refl _ _|exact zqK.alloc _|exact(zqK.alloc _).drew|refine Keep.drewN ?_ _|refine Keep.trans ?_ (Keep.of_below (by assumption))))) (Sl2.keep HTAIL.out (by repeat(first|exact zqK.drew|exact Keep.refl _ _|exact zqK.alloc _|exact(zqK.alloc _).drew|refine Keep.drewN ?_ _|refine Keep.trans ?_ (Keep.of_below (by assumption)))))).mono ?_;rintro e w14 ⟨v14,tl,dn,rfl,hclo,hdl,hfd,hsl,hb14⟩)|(go_at_call 181;refine(HEL.out _ v14 tl dn hfd hclo (HPQ13.out.keep (by repeat(first|exact zqK.drew|exact Keep.refl _ _|exact zqK.alloc _|exact(zqK.alloc _).drew|refine Keep.drewN ?_ _|refine Keep.trans ?_ (Keep.of_below (by assumption))))) (Sl2.keep hsl (by repeat(first|exact zqK.drew|exact Keep.refl _ _|exact zqK.alloc _|exact(zqK.alloc _).drew|refine Keep.drewN ?_ _|refine Keep.trans ?_ (Keep.of_below (by assumption)))))).mono ?_;rintro e w15 ⟨v15,rfl,ho15,hb15⟩))
       have hb1315:Below w13.heap.size w13 w15:=(by repeat(first|exact zq3 _ _|exact zqB.drew|refine Below.step ?_ zqN (by assumption)));go_wp2_with fail;go_meet;exact⟨_,hid (fun t ht=>HSP.out tl dn hfd hclo t ht),hid (ho15.sl.mono (fun k hk=>by have h14:w13.heap.size≤w14.heap.size:=(show Keep (fun _=>True) w13 w14 from(by repeat(first|exact zqK.drew|exact Keep.refl _ _|exact zqK.alloc _|exact(zqK.alloc _).drew|refine Keep.drewN ?_ _|refine Keep.trans ?_ (Keep.of_below (by assumption))))).size;have hk':w14.heap.size≤k:=hk;omega)),hid hb1315⟩
     case rest=>
      obtain⟨p,HSPp,HIN,HBc⟩:=hcut;obtain⟨aN,cN,hiv⟩:=Sl2.form HIN.out;obtain⟨ln,hln⟩:∃ln,((nums p (sz Q)).map (at_ Q)).length=ln:=⟨_,rfl⟩;rw[hln]at hiv;subst hiv;have hBX:Below (w.heap.size+2) ((w.alloc (.cells #[.slice aO T.length cO,.slice (some ⟨bP,oP,none⟩) T.length cP,.slice (some ⟨bC,oC,none⟩) T.length cC] 28)).alloc (.cells #[qO,qP,qC] 28)) wc:=HBX13.out.trans (HBc.out.mono (by omega));have HBX:=hid hBX;have hsc:=HBc.out.size;have kc:=Keep.of_below (S:=fun k=>k≠gS) HBc.out;have HMVc:=hid (Sl2.keep HMVn.out kc);have HSKc:=hid (Sl2.keep HSKn.out kc);have HVPc:=hid (SlI.keep HVPn.out kc);have HPQc:=hid (HPQn.out.keep kc);have HSc:=hid (show OwnB gS wc (.slice (some ⟨gS,0,none⟩) (sz Q) (sz Q)) (mkl (fun k=>(nums p (sz Q)).getD k 0) (sz Q) 0) by
       rw[mkl_zero];exact HS13.out.keep (S:=Any) (Keep.of_below HBc.out) (fun _ _=>trivial))
      have hgSc:gS<wc.heap.size:=by omega
      have hn1:¬w.heap.size=gS:=by omega
      have hn2:¬w.heap.size+1=gS:=by omega
      have hgSB:w.heap.size+2≤gS:=by omega
      have HLN:=hid (show(nums p (sz Q)).length=ln by rw[←hln];simp);have hln7:ln≤729:=by have:=nums_length p (sz Q);have:=HLN.out;omega
      clear hBX kc HMV13 HSK13 HVP13 HPQ13 HMVn HSKn HVPn HPQn HS13 HBX13 hln HCL HEL HSP hA0 hA1 hA2 hA3 hA4 p0 p1 p2 q0 q1 q2 HBc;go_wp2_with fail;go_loopw [16] (fun kv wr=>∃k:Nat,k≤ln∧kv= .int .i64 (k:Int)∧Hid (OwnB gS wr (.slice (some ⟨gS,0,none⟩) (sz Q) (sz Q)) (mkl (fun k=>(nums p (sz Q)).getD k 0) (sz Q) k))∧Hid (Keep (fun k=>k≠gS) wc wr)∧Below (w.heap.size+2) ((w.alloc (.cells #[.slice aO T.length cO,.slice (some ⟨bP,oP,none⟩) T.length cP,.slice (some ⟨bC,oC,none⟩) T.length cC] 28)).alloc (.cells #[qO,qP,qC] 28)) wr) (fun kv _=>ln-(intOf kv).toNat);case atStart=>exact⟨0,zq4 _,rfl,HSc,hid zqK,HBX.out⟩
      case round=>
       obtain⟨k,hk,rfl,hIr,hKr,hB⟩:=hrel;have HB5:=hid hB;obtain⟨⟨p0,p1,p2⟩,⟨q0,q1,q2⟩,_,_,_⟩:=bx hB;have hsr:=hKr.out.size;have hwr:w.heap.size<wr.heap.size:=by omega
       have hw1r:w.heap.size+1<wr.heap.size:=by omega
       have hIrr:gS<wr.heap.size:=by omega
       clear hB;by_cases hlt:k<ln
       ·obtain⟨t,ht⟩:∃t,(nums p (sz Q))[k]?=some t:=⟨_,zq0 (by have:=HLN.out;omega)⟩;have htz:=GenF.nums_lt ht;obtain⟨bN,oN,cN',vr,he,hbN,hcN,hrN⟩:=Sl2.at_row (Sl2.keep HIN.out hKr.out) (k:=k) (r:=at_ Q t) (by rw[zq20,ht];rfl);obtain⟨rfl,rfl⟩:aN=some ⟨bN,oN,none⟩∧cN=cN':=by simp only[zq40]at he;exact⟨he.1,he.2.2⟩
        have hbn:¬bN=gS:=by
         obtain⟨ao,c',e1,_,_,_,h4⟩:=HIN.out;obtain⟨b,o,f1,f2,_⟩:=h4 k (ints (at_ Q t)) (by simp[ht]);simp only[zq40]at e1;obtain⟨e1,_,_⟩:=e1;rw[f1]at e1;simp only[zq42,zq96]at e1;rw[e1.1];exact f2
        have HPr:=hid (HPQc.out.keep hKr.out);have HRr:=hid hrN;have HOSr:=hid (fun W (h:Keep (fun k=>k≠gS) wr W)=>show SlI Any W qO (ints (SpecN.ords Q)) from by
         have h2:=((HPr.out.keep h).mono (S':=Any) (fun _ _=>trivial)).os;rwa[HOT.out]at h2)
        have HNQ:=hid (fun W va (hO:SlI Any W qO (ints (SpecN.ords Q))) (hx:SlI Any W va (ints (at_ Q t)))=>(show Calls Tryz.prog 80 #[.agg #[qO,qP,qC],va] W (SpecN.IntR t W) from by
         have h:=HNM.out W va (at_ Q t) hO hx (at_El HQW.out t) (num_lt (at_El HQW.out t) HQW.out);rwa[num_at,zq43 htz]at h))
        have hq1:(t:Int)<(sz Q:Int):=by omega
        have hq0:(0:Int)≤(t:Int):=by omega
        have hkl:(k:Int)<(ln:Int):=by omega
        have hk0:(0:Int)≤(k:Int):=by omega
        have HIS:=hid (show mkl (fun k=>(nums p (sz Q)).getD k 0) (sz Q) (k+1)=(mkl (fun k=>(nums p (sz Q)).getD k 0) (sz Q) k).set t true by
         rw[mkl_succ,zq9,ht];rfl)
        clear ht he hrN;go_upto_region 17 with fail;go_region_held3 (fun w'=>(∀b o,b<wr.heap.size→¬b=gS→w'.cell? ⟨b,o,none⟩=wr.cell? ⟨b,o,none⟩)∧Keep (fun k=>k≠gS) wr w')
         (first|exact kI_mk (by repeat(first|exact zqK.drew|exact Keep.refl _ _|refine Keep.setCell ?_ (by simp) _|refine Keep.trans ?_ (Keep.of_below (by assumption)))))
         (first|(go_at_call 80;refine(HNQ.out _ vr (HOSr.out _ (by repeat(first|exact zqK.drew|exact Keep.refl _ _|exact zqK.alloc _|exact(zqK.alloc _).drew|refine Keep.drewN ?_ _|refine Keep.trans ?_ (Keep.of_below (by assumption))))) (SlI.mono (SlI.keep HRr.out (by repeat(first|exact zqK.drew|exact Keep.refl _ _|exact zqK.alloc _|exact(zqK.alloc _).drew|refine Keep.drewN ?_ _|refine Keep.trans ?_ (Keep.of_below (by assumption))))) (fun _ _=>trivial))).mono ?_;rintro e w8 ⟨rfl,hb8⟩;have hI8:=hIr.out.keep (S:=Any) (show Keep Any wr w8 from(by repeat(first|exact zqK.drew|exact Keep.refl _ _|exact zqK.alloc _|exact(zqK.alloc _).drew|refine Keep.drewN ?_ _|refine Keep.trans ?_ (Keep.of_below (by assumption))))) (fun _ _=>trivial);obtain⟨s8,f8⟩:=hI8.cell (mkl_get htz);have hs8:wr.heap.size≤w8.heap.size:=(show Keep Any wr w8 from(by repeat(first|exact zqK.drew|exact Keep.refl _ _|exact zqK.alloc _|exact(zqK.alloc _).drew|refine Keep.drewN ?_ _|refine Keep.trans ?_ (Keep.of_below (by assumption))))).size))
        have HNI:=hid (show OwnB gS (w8.setCell ⟨gS,t,none⟩ (.bool true)) (.slice (some ⟨gS,0,none⟩) (sz Q) (sz Q)) (mkl (fun k=>(nums p (sz Q)).getD k 0) (sz Q) (k+1)) by rw[HIS.out];exact hI8.set t true);have HNK:=hid (show Keep (fun k=>k≠gS) wc (w8.setCell ⟨gS,t,none⟩ (.bool true)) from(hKr.out.trans (show Keep (fun k=>k≠gS) wr w8 from(by repeat(first|exact zqK.drew|exact Keep.refl _ _|exact zqK.alloc _|exact(zqK.alloc _).drew|refine Keep.drewN ?_ _|refine Keep.trans ?_ (Keep.of_below (by assumption)))))).setCell (by simp) _);have HNB:=hid ((show Below (w.heap.size+2) ((w.alloc (.cells #[.slice aO T.length cO,.slice (some ⟨bP,oP,none⟩) T.length cP,.slice (some ⟨bC,oC,none⟩) T.length cC] 28)).alloc (.cells #[qO,qP,qC] 28)) w8 from(by repeat(first|exact HB5.out|exact HB5.out.drew|refine zq61 ?_ _|refine Below.step ?_ (by simp) (by assumption)))).setCell (p:=⟨gS,t,none⟩) hgSB (.bool true));clear hb8 hI8 s8 f8 hs8 p0 p1 p2 q0 q1 q2;go_wp2_with fail;go_roundw;case rel=>exact⟨k+1,by omega,by go_num,HNI,HNK,HNB.out⟩
        case measure=>simp[intOf]<;>omega
       ·obtain rfl:k=ln:=by omega
        have HSd:=hid hIr.out;have HMVd:=hid ((Sl2.keep HMVc.out hKr.out).mono (fun _ _=>trivial):Sl2 Any wr _ ((L.c.map (ev (mul Q) (Tow.one Q) im)).map ints));have HSKd:=hid ((Sl2.keep HSKc.out hKr.out).mono (fun _ _=>trivial):Sl2 Any wr (.slice (some ⟨g1,0,none⟩) T.length c1) ((kn Q ims (i+1)).map ints));have HVPd:=hid ((SlI.keep HVPc.out hKr.out).mono (fun _ _=>trivial):SlI Any wr _ (ints (ev (mul Q) (Tow.one Q) im L.w)));have HPQd:=hid ((HPQc.out.keep hKr.out).mono (S':=Any) (fun _ _=>trivial));have HBd:=hid (bx HB5.out).2.2.2.1;have HPK:=hid (bx HB5.out).2.2.1;obtain⟨aV,cV,hmvv,_⟩:=(⟨_,_,(Sl2.form HMVd.out).choose_spec.choose_spec,trivial⟩:∃a c,_=Value.slice a (L.c.map (ev (mul Q) (Tow.one Q) im)).length c∧True);rw[zq18]at hmvv;subst hmvv;obtain⟨bO,oO,rfl,_,hbO,hcO⟩:=HPT.out.ord HLL.out;have hcOd:=(HPK.out.cell (b:=bO) (o:=oO+i) trivial hbO).trans hcO;have hbOd:bO<wr.heap.size:=by omega
        have h00:=zq47 (base:=wr.heap.size) (e:=24) (size:=1) wr #[] 0 zqN (zq4 _) rfl;have hLo:=HPR7.out;have HMAY:=hid (show∀t,t<sz Q→(may Q L im t=true↔p t=false∧FitsV Q L im (at_ Q t)) from fun t ht=>by
         rw[may_iff,←HSPp.out t ht];cases p t<;>simp)
        clear hIr hKr hcO p0 p1 p2 q0 q1 q2 HMVc HSKc HVPc HPQc HSc hgSc hsc HIN hlt;go_wp2_with fail;rename World=>wd;go_loopw [17,18] (fun ov tv wr=>∃t:Nat,t≤sz Q∧tv= .int .i64 (t:Int)∧Hid (Own2 24 2 wd.heap.size wr ov ((nums (may Q L im) t).map (at_ Q)))∧Below wd.heap.size wd wr) (fun _ tv _=>sz Q-(intOf tv).toNat);case atStart=>exact⟨0,zq4 _,rfl,hid ⟨[],h00,rfl,by simp[nums]⟩,zqB.alloc zqN _⟩
        case round=>
         obtain⟨t,ht,rfl,hOUT,hb⟩:=hrel;have HBt:=hid hb;have hst:=hb.size;have hBXt:Below (w.heap.size+2) ((w.alloc (.cells #[.slice (some ⟨bO,oO,none⟩) T.length cO,.slice (some ⟨bP,oP,none⟩) T.length cP,.slice (some ⟨bC,oC,none⟩) T.length cC] 28)).alloc (.cells #[qO,qP,qC] 28)) wr:=HB5.out.trans (hb.mono (by omega));obtain⟨⟨p0,p1,p2⟩,⟨q0,q1,q2⟩,_,_,_⟩:=bx hBXt;have HOQt:=hid (fun W (h:Below wd.heap.size wd W)=>show SlI Any W qO (ints (SpecN.ords Q)) from by
          have h2:=(HPQd.out.keep (Keep.of_below h)).os;rwa[HOT.out]at h2)
         have hwr:w.heap.size<wr.heap.size:=by omega
         have hw1r:w.heap.size+1<wr.heap.size:=by omega
         clear h00 hBXt;go_wp2_with fail;refine(HSZ.out _ (HOQt.out _ hb)).mono ?_;rintro e w2 ⟨rfl,hb2⟩;have HB2:=hid (HBt.out.trans (hb2.mono hst));have HOUT2:=hid (hOUT.out.of_below hb2);have hBX2:Below (w.heap.size+2) ((w.alloc (.cells #[.slice (some ⟨bO,oO,none⟩) T.length cO,.slice (some ⟨bP,oP,none⟩) T.length cP,.slice (some ⟨bC,oC,none⟩) T.length cC] 28)).alloc (.cells #[qO,qP,qC] 28)) w2:=HB5.out.trans (HB2.out.mono (by omega));have HBX2:=hid hBX2;have hs2:=HB2.out.size;clear hb hb2 hOUT p0 p1 p2 q0 q1 q2;obtain⟨⟨p0,p1,p2⟩,⟨q0,q1,q2⟩,_,_,_⟩:=bx hBX2;clear hBX2;by_cases hlt:t<sz Q
         ·have ht1:(t:Int)<(sz Q:Int):=by omega
          have ht0:(0:Int)≤(t:Int):=by omega
          have ht6:t≤1000000:=by omega
          have hS2:=HSd.out.keep (S:=Any) (Keep.of_below HB2.out) (fun _ _=>trivial);obtain⟨s2,_⟩:=hS2.cell (mkl_get (f:=fun k=>(nums p (sz Q)).getD k 0) (k:=k) hlt);rw[show mks (fun k=>(nums p (sz Q)).getD k 0) k t=p t from by rw[←HLN.out];exact GenF.remark p (sz Q) t hlt]at s2;have HNS:=hid (nums_succ (may Q L im) t);cases hpt:p t with
          |true=>
           rw[hpt]at s2;have HN:=hid (show(nums (may Q L im) (t+1))=nums (may Q L im) t by
            rw[HNS.out];cases hm:may Q L im t with
            |false=>simp
            |true=>have:=(HMAY.out t hlt).1 hm;rw[hpt]at this;simp at this)
           clear hS2 hpt;go_wp2_with fail;go_roundw;case rel=>exact⟨t+1,by omega,by go_num,hid (by rw[HN.out];exact HOUT2.out),HB2.out⟩
           case measure=>simp[intOf]<;>omega
          |false=>
           rw[hpt]at s2;have HPT0:=hid hpt;clear hS2 hpt;go_wp2_with fail;refine(HAT.out _ t ht6 (HOQt.out _ HB2.out)).mono ?_;rintro e w3 ⟨gx,cx,rfl,hox,hb3⟩;have HB3:=hid (HB2.out.trans (hb3.mono hs2));have HX3:=hid (hox.sl.mono (S':=Any) (fun _ _=>trivial));have HXR:=hid (NewS.row (hox.mono (B':=wd.heap.size) hs2));have HOUT3:=hid (HOUT2.out.of_below hb3);have hs3:=HB3.out.size;have HBX3:=hid (show Below (w.heap.size+2) ((w.alloc (.cells #[.slice (some ⟨bO,oO,none⟩) T.length cO,.slice (some ⟨bP,oP,none⟩) T.length cP,.slice (some ⟨bC,oC,none⟩) T.length cC] 28)).alloc (.cells #[qO,qP,qC] 28)) w3 from HB5.out.trans (HB3.out.mono (by omega)));have k3:=Keep.of_below (S:=Any) HB3.out;have HPQ3:=hid (HPQd.out.keep k3);have HSK3:=hid (Sl2.keep HSKd.out k3);have HMV3:=hid (Sl2.keep HMVd.out k3);have HVP3:=hid (SlI.keep HVPd.out k3);have hcO3:=(k3.cell (b:=bO) (o:=oO+i) trivial hbOd).trans hcOd;have hbO3:bO<w3.heap.size:=by omega
           have hw3:w.heap.size<w3.heap.size:=by omega
           have hw13':w.heap.size+1<w3.heap.size:=by omega
           have HXE:=hid (at_El HQW.out t);obtain⟨b0,hb0⟩:∃b0,decide (ints (npow (mul Q) (Tow.one Q) (at_ Q t) L.o)=ints (ev (mul Q) (Tow.one Q) im L.w))=b0:=⟨_,rfl⟩;have HB0':=hid hb0;have HF0:=hid (show b0=true↔FT Q L im (at_ Q t) 0 from by
            rw[←hb0,zq78,TowD.ints_inj];exact⟨fun h=>⟨h,fun k hk=>absurd hk (zq33 _)⟩,fun h=>h.1⟩)
           have hwi:IntKind.i64.wrap ((i:Int)+1)=(i:Int)+1:=zq6 _ (by omega);clear hb0 hox hb3 k3 p0 p1 p2 q0 q1 q2 HOUT2 s2;obtain⟨⟨p0,p1,p2⟩,⟨q0,q1,q2⟩,_,_,_⟩:=bx HBX3.out;go_wp2_with fail;go_region_held3 (fun w'=>(∀b o,b<w3.heap.size→w'.cell? ⟨b,o,none⟩=w3.cell? ⟨b,o,none⟩)∧Keep (fun _=>True) w3 w')
            (first|exact ks_mk (by repeat(first|exact zqK.drew|exact Keep.refl _ _|refine Keep.drewN ?_ _|refine Keep.trans ?_ (Keep.of_below (by assumption)))))
            (first|(go_at_call 93;refine(HPOW.out _ (.slice (some ⟨gx,0,none⟩) (ints (at_ Q t)).length cx) (at_ Q t) L.o (by omega) (HPQ3.out.keep (by repeat(first|exact zqK.drew|exact Keep.refl _ _|exact zqK.alloc _|exact(zqK.alloc _).drew|refine Keep.drewN ?_ _|refine Keep.trans ?_ (Keep.of_below (by assumption))))) (HX3.out.keep (by repeat(first|exact zqK.drew|exact Keep.refl _ _|exact zqK.alloc _|exact(zqK.alloc _).drew|refine Keep.drewN ?_ _|refine Keep.trans ?_ (Keep.of_below (by assumption))))) HXE.out).mono ?_;rintro e w6 ⟨v6,rfl,ho6,hb6⟩)|(go_at_call 183;refine(same_any _ v6 _ _ _ ((ho6.sl.mono (fun _ _=>trivial)).keep (by repeat(first|exact zqK.drew|exact Keep.refl _ _|exact zqK.alloc _|exact(zqK.alloc _).drew|refine Keep.drewN ?_ _|refine Keep.trans ?_ (Keep.of_below (by assumption))))) (HVP3.out.keep (by repeat(first|exact zqK.drew|exact Keep.refl _ _|exact zqK.alloc _|exact(zqK.alloc _).drew|refine Keep.drewN ?_ _|refine Keep.trans ?_ (Keep.of_below (by assumption)))))).mono ?_;rintro e w7 ⟨rfl,n7,rfl⟩;rw[HB0'.out]))
           have HB37:=hid (show Below w3.heap.size w3 (w6.drewN n7) from zq61 (by repeat(first|exact zq3 _ _|exact zqB.drew|refine Below.step ?_ zqN (by assumption))) _);clear ho6 hb6 p0 p1 p2 q0 q1 q2 hcO3;go_wp2_with fail;go_loopw [20,21] (fun bv jv wr=>∃(m:Nat) (b:Bool),m≤L.c.length∧jv= .int .i64 ((i:Int)+1+(m:Int))∧bv= .bool b∧Hid (b=true↔FT Q L im (at_ Q t) m)∧Below w3.heap.size w3 wr) (fun _ jv _=>T.length-(intOf jv).toNat);case atStart=>exact⟨0,b0,zq4 _,zq38 (Value.int .i64) (by omega),rfl,HF0,HB37.out⟩
           case round=>
            obtain⟨m,b,hm,rfl,rfl,hFT,hb⟩:=hrel;have hs23:=(bx HBX3.out).2.2.2.2;have hsr:=hb.size;have HBr:=hid (HB3.out.trans (hb.mono hs3));have HBL:=hid hb;have HBXr:=hid (HBX3.out.trans (hb.mono hs23));have kr:=Keep.of_below (S:=Any) hb;have HOUTr:=hid (HOUT3.out.of_below hb);obtain⟨⟨p0,p1,p2⟩,⟨q0,q1,q2⟩,_,_,_⟩:=bx HBXr.out;have hwr:w.heap.size<wr.heap.size:=by omega
            have hw1r:w.heap.size+1<wr.heap.size:=by omega
            have HNS':=hid HNS.out;cases b with
            |false=>
             have HN:=hid (show(nums (may Q L im) (t+1))=nums (may Q L im) t by
              rw[HNS'.out];cases hmy:may Q L im t with
              |false=>simp
              |true=>exact absurd (hFT.out.2 (FT_le ((may_iff.1 hmy).2))) (by simp))
             clear kr hb p0 p1 p2 q0 q1 q2;go_wp2_with fail;go_roundw;case rel=>exact⟨t+1,by omega,by go_num,hid (by rw[HN.out];exact HOUTr.out),HBr.out⟩
             case measure=>simp[intOf]<;>omega
            |true=>
             by_cases hlm:m<L.c.length
             ·obtain⟨y,hy⟩:∃y,L.c[m]?=some y:=⟨_,zq0 hlm⟩;obtain⟨r,hr⟩:∃r,im[m]?=some r:=⟨_,zq0 (by rw[HIMD.out];have:=HLV.out.2.1;have:=HIL.out;rw[zq34];omega)⟩;have hrE:El Q r:=HIE.out r (zq72 (by rw[←HIMD.out];exact zq5 hr));obtain⟨bK,oK,cK,vr,he,hbK,hcK,hrK⟩:=Sl2.at_row (Sl2.keep HSK3.out kr) (k:=i+1+m) (r:=r) (by
               unfold kn;rw[zq27 (by rw[zq29];omega),zq29,show i+1+m-(i+1)=m by omega,←HIMD.out];exact hr)
              simp only[zq40,zq42,zq96]at he;rw[←he.1.1,←he.1.2.1,zq39]at hcK;rw[←he.1.1]at hbK;obtain⟨bM,oM,cM,um,he2,hbM,hcM,hrM⟩:=Sl2.at_row (Sl2.keep HMV3.out kr) (k:=m) (r:=ev (mul Q) (Tow.one Q) im y) (by rw[zq20,hy];rfl);obtain⟨rfl,rfl⟩:aV=some ⟨bM,oM,none⟩∧cV=cM:=by simp only[zq40]at he2;exact⟨he2.1,he2.2.2⟩
              have HPQr:=hid (HPQ3.out.keep kr);have HXr:=hid (SlI.keep HX3.out kr);have HKr:=hid hrK;have HMr:=hid hrM;have HRE:=hid hrE;have HYE:=hid (HAPP.out y (HLV.out.2.2.1 y (zq5 hy))).2.2.2;obtain⟨b1,hb1⟩:∃b1,decide (ints (mul Q r (at_ Q t))=ints (mul Q (at_ Q t) (ev (mul Q) (Tow.one Q) im y)))=b1:=⟨_,rfl⟩;have HB1':=hid hb1;have HF1:=hid (show b1=true↔FT Q L im (at_ Q t) (m+1) from by
               rw[FT_succ hy,←hb1,zq78,TowD.ints_inj,zq9,hr];exact⟨fun h=>⟨hFT.out.1 rfl,h⟩,fun h=>h.2⟩)
              have hm6:m≤6:=by have:=HLV.out.2.1;omega
              have w1:IntKind.i64.wrap (((i:Int)+1+(m:Int))-(i:Int))=(m:Int)+1:=by rw[zq6 _ (by omega)];omega
              have w2':IntKind.i64.wrap (((m:Int)+1)-1)=(m:Int):=by rw[zq6 _ (by omega)];omega
              have w8':IntKind.i64.wrap (m:Int)=(m:Int):=zq6 _ (by omega);have w4':(m:Int)<(L.c.length:Int):=by omega
              have w5':(0:Int)≤(m:Int):=by omega
              have w9':(i:Int)+1+(m:Int)<(T.length:Int):=by have:=HLV.out.2.1;omega
              have w10':(0:Int)≤(i:Int)+1+(m:Int):=by omega
              have w11':((i:Int)+1+(m:Int)).toNat=i+1+m:=by omega
              clear hb hb1 hy hr hrE he he2 hrK hrM kr;go_wp2_with fail;go_region_held3 (fun w'=>(∀b o,b<wr.heap.size→w'.cell? ⟨b,o,none⟩=wr.cell? ⟨b,o,none⟩)∧Keep (fun _=>True) wr w')
               (first|exact ks_mk (by repeat(first|exact zqK.drew|exact Keep.refl _ _|refine Keep.drewN ?_ _|refine Keep.trans ?_ (Keep.of_below (by assumption)))))
               (first|(go_at_call_of 92 vr;refine(HMUL.out _ vr (.slice (some ⟨gx,0,none⟩) (ints (at_ Q t)).length cx) _ _ (HPQr.out.keep (by repeat(first|exact zqK.drew|exact Keep.refl _ _|exact zqK.alloc _|exact(zqK.alloc _).drew|refine Keep.drewN ?_ _|refine Keep.trans ?_ (Keep.of_below (by assumption))))) (HKr.out.keep (by repeat(first|exact zqK.drew|exact Keep.refl _ _|exact zqK.alloc _|exact(zqK.alloc _).drew|refine Keep.drewN ?_ _|refine Keep.trans ?_ (Keep.of_below (by assumption))))) (HXr.out.keep (by repeat(first|exact zqK.drew|exact Keep.refl _ _|exact zqK.alloc _|exact(zqK.alloc _).drew|refine Keep.drewN ?_ _|refine Keep.trans ?_ (Keep.of_below (by assumption))))) HRE.out HXE.out).mono ?_;rintro e w6 ⟨v6,rfl,ho6,hb6⟩)|(go_at_call_of 92 um;refine(HMUL.out _ (.slice (some ⟨gx,0,none⟩) (ints (at_ Q t)).length cx) um _ _ (HPQr.out.keep (by repeat(first|exact zqK.drew|exact Keep.refl _ _|exact zqK.alloc _|exact(zqK.alloc _).drew|refine Keep.drewN ?_ _|refine Keep.trans ?_ (Keep.of_below (by assumption))))) (HXr.out.keep (by repeat(first|exact zqK.drew|exact Keep.refl _ _|exact zqK.alloc _|exact(zqK.alloc _).drew|refine Keep.drewN ?_ _|refine Keep.trans ?_ (Keep.of_below (by assumption))))) (HMr.out.keep (by repeat(first|exact zqK.drew|exact Keep.refl _ _|exact zqK.alloc _|exact(zqK.alloc _).drew|refine Keep.drewN ?_ _|refine Keep.trans ?_ (Keep.of_below (by assumption))))) HXE.out HYE.out).mono ?_;rintro e w7 ⟨v7,rfl,ho7,hb7⟩)|(go_at_call 183;refine(same_any _ v6 v7 _ _ ((ho6.sl.mono (fun _ _=>trivial)).keep (by repeat(first|exact zqK.drew|exact Keep.refl _ _|exact zqK.alloc _|exact(zqK.alloc _).drew|refine Keep.drewN ?_ _|refine Keep.trans ?_ (Keep.of_below (by assumption))))) ((ho7.sl.mono (fun _ _=>trivial)).keep (by repeat(first|exact zqK.drew|exact Keep.refl _ _|exact zqK.alloc _|exact(zqK.alloc _).drew|refine Keep.drewN ?_ _|refine Keep.trans ?_ (Keep.of_below (by assumption)))))).mono ?_;rintro e w8 ⟨rfl,n8,rfl⟩;rw[HB1'.out]))
              have HB38:=hid (show Below w3.heap.size w3 (w7.drewN n8) from zq61 (by repeat(first|exact HBL.out|exact HBL.out.drew|refine Below.step ?_ zqN (by assumption))) _);clear ho6 hb6 ho7 hb7 p0 p1 p2 q0 q1 q2 hcK hcM;go_wp2_with fail;go_roundw;case rel=>exact⟨m+1,b1,by omega,zq38 (Value.int .i64) (by omega),rfl,HF1,HB38.out⟩
              case measure=>simp[intOf]<;>omega
             ·obtain rfl:m=L.c.length:=by omega
              have HN:=hid (show(nums (may Q L im) (t+1)).map (at_ Q)=(nums (may Q L im) t).map (at_ Q)++[at_ Q t] by
               rw[HNS'.out,(HMAY.out t hlt).2 ⟨HPT0.out,FT_all.1 (hFT.out.1 rfl)⟩];simp)
              obtain⟨nl,hnl2⟩:∃nl,((nums (may Q L im) t).map (at_ Q)).length=nl:=⟨_,rfl⟩;have hnl7:nl≤729:=by have:=nums_length (may Q L im) t;rw[←hnl2,zq18];omega
              have HNL2:=hid hnl2;have HXRr:=hid (HXR.out.keep (S:=Any) kr (fun _ _=>trivial):RowOk 2 wd.heap.size wr (.slice (some ⟨gx,0,none⟩) (ints (at_ Q t)).length cx) (at_ Q t));obtain⟨us2,h1,h2,h4⟩:=HOUTr.out;have HUU:=hid (And.intro h2 h4);rw[HNL2.out]at h1;clear hnl2 h2 h4 kr hb;go_wp2_with (at_builtin;(refine zq55 _ rfl _ _ 25 rfl wd.heap.size 24 i0 (.slice none 0 0) 1 24 Tryz.underlying25 hinf hz0 hz1 hz2 rfl (by decide) _ _ _ rfl (h1.alloc _) ⟨wr.heap.size,0,none⟩ 1 1 [.slice (some ⟨gx,0,none⟩) (ints (at_ Q t)).length cx] rfl rfl ?d1 ?d2 ?d3 ?d4 ?d5 ?_));case d2=>first|rfl|(intro u hu;simp at hu;subst hu;rfl)
              case d3=>first|(unfold maxLen;omega)|omega|(simp only[maxLen];omega)
              case d4=>first|omega|(simp;omega)
              case d5=>have:=HBr.out.size;first|omega|(simp;omega)
              ·intro v' w9 hown hgrow _;have HNO:=hid (show Own2 24 2 wd.heap.size w9 v' ((nums (may Q L im) (t+1)).map (at_ Q)) from by
                rw[HN.out];exact Own2.push (w:=wr.alloc _) (us:=us2) (by decide) HNL2.out (h1.alloc _) HUU.out.1 (fun i r u hr hu=>(HUU.out.2 i r u hr hu).keep (S:=fun _=>True) (zqK.alloc _) (fun _ _=>trivial)) (HXRr.out.keep (S:=fun _=>True) (zqK.alloc _) (fun _ _=>trivial)) hown hgrow)
               have HNB:=hid (show Below wd.heap.size wd w9 from(HBr.out.alloc (by have:=HBr.out.size;omega) _).grown hgrow (by simp;have:=HBr.out.size;omega) (fun g hg=>(zq8 h1 g hg).1));clear hown hgrow h1 HUU HXRr p0 p1 p2 q0 q1 q2;go_wp2_with fail;go_roundw;case rel=>exact⟨t+1,by omega,by go_num,HNO,HNB.out⟩
               case measure=>simp[intOf]<;>omega
         ·obtain rfl:t=sz Q:=by omega
          have HR:=hid (show New2 24 2 (ChL Q L im) w (.returned _) w2 from⟨_,rfl,HOUT2.out.mono (by omega),HBd.out.trans (HB2.out.mono (by omega))⟩);go_wp2_with fail;go_ret;have h:=HR.out;rw[HIMD.out]at h;exact h
end Go.Proofs.YtlmlamcoeegkbaaGreat.SpecS
namespace Go.Proofs.YtlmlamcoeegkbaaGreat.SpecG
open Go.RowKit Go.Proofs.YtlmlamcoeegkbaaGreat Tow Val SpecF
abbrev Any:Nat→Prop:=fun _=>True
theorem fault_any (T:Tw)(hT:Wf T)(hs:Small T)(w:World)(vO vP vC:Value)(hP:ValP Any w vO vP vC (ofTw T)):
  Calls Tryz.prog 150 #[.agg #[vO,vP,vC]] w (LvRes (Tow.Good T) w):=by
 have hs6:=hs.1;obtain⟨aO,cO,aP,cP,aC,cC,rfl,rfl,rfl,hO1,hP1,hC1⟩:=hP.open;have HP:=hid hP;have HLV:=hid (fun i L hL hg W hP=>level_any T hT hs i L hL hg W (.slice aO T.length cO) (.slice aP T.length cP) (.slice aC T.length cC) hP);clear hP;go_enter Tryz.func150,Tryz.ntmps150;go_wp2_with fail;go_loopw [3] (fun iv wr=>∃k:Nat,k≤T.length∧iv= .int .i64 ((k:Int)-1)∧Hid (Tow.Good (T.drop k))∧Below (w.heap.size+2) ((w.alloc (.cells #[.slice aO T.length cO,.slice aP T.length cP,.slice aC T.length cC] 28)).alloc (.cells #[.int .i64 0,.int .i64 0,.int .i64 0,.int .i64 0] 147)) wr) (fun iv _=>(intOf iv+1).toNat);case atStart=>exact⟨T.length,zq1 _,rfl,hid (by rw[zq104];trivial),zq3 _ _⟩
 case round=>
  obtain⟨k,hk,rfl,hg,hb⟩:=hrel;obtain⟨⟨e0,e1,e2⟩,hf,hkk,hbw,hsz⟩:=box2 hb;have HB:=hid hb;have HK:=hid hkk;have HBW:=hid hbw;have f0:=zq15 _ (w.heap.size+1) 0 _ _ (0,0) hf;have f1:=zq15 _ (w.heap.size+1) 1 _ _ (0,0) hf;have f2:=zq15 _ (w.heap.size+1) 2 _ _ (0,0) hf;have f3:=zq15 _ (w.heap.size+1) 3 _ _ (0,0) hf;have z0:=zq25 _ (w.heap.size+1) 0 _ _ hf;have z1:=zq25 _ (w.heap.size+1) 1 _ _ hf;have z2:=zq25 _ (w.heap.size+1) 2 _ _ hf;have z3:=zq25 _ (w.heap.size+1) 3 _ _ hf;simp at f0 f1 f2 f3;clear hb hkk hbw hf;by_cases h0:k=0
  ·subst h0;have hd:decide (((0:Nat):Int)-1≥0)=false:=by decide
   go_wp2_with fail;exact zq12 (v:=.agg #[.int .i64 0,.int .i64 0,.int .i64 0,.int .i64 0]) (by simp[results,Tryz.results150,go_sem,f0,f1,f2,f3]) rfl
    ⟨0,_,_,_,rfl,⟨fun _=>hg.out,fun _=>rfl⟩,(((HBW.out.setCell (by simp) _).setCell (by simp) _).setCell (by simp) _).setCell (by simp) _⟩
  ·obtain⟨i,rfl⟩:∃i,k=i+1:=⟨k-1,by omega⟩;obtain⟨L,hL⟩:∃L,T[i]?=some L:=⟨_,zq0 (by omega)⟩;have HL:=hid hL;have HIF:=hid (show Tow.Good (T.drop i)↔LvOk L (T.drop (i+1)) from by
    rw[drop_cons' hL,Good_cons];exact⟨fun h=>h.2,fun h=>⟨hg.out,h⟩⟩)
   have hii:(((i+1:Nat):Int)-1)=(i:Int):=by omega
   rw[hii];clear hL h0 hii;go_wp2_with fail;refine(HLV.out i L HL.out hg.out _ (HP.out.keep HK.out)).mono ?_;rintro e w1 ⟨k,l,a,b,rfl,hif,hbel⟩;have HIF1:=hid hif;have HB1:=hid (HB.out.trans (hbel.mono hsz));clear hbel f0 f1 f2 f3 z0 z1 z2 z3 e0 e1 e2 hif;have hsz1:w.heap.size+2≤w1.heap.size:=(box2 HB1.out).2.2.2.2;by_cases hk0:k=0
   ·subst hk0;have HGI:=hid (HIF.out.2 (HIF1.out.1 rfl));go_wp2_with fail;go_roundw;case rel=>exact⟨i,by omega,rfl,HGI,(HB1.out.alloc (by omega) _)⟩
    case measure=>simp[intOf]<;>omega
   ·have hkn:(k !=0)=true:=by simpa using hk0
    have HN:=hid (show¬Tow.Good T from fun h=>hk0 (HIF1.out.2 (HIF.out.1 (Good_drop h i))));have HK0:=hid hk0;clear hk0;obtain⟨⟨e0,e1,e2⟩,hf,hkk,hbw,hsz⟩:=box2 HB1.out;have f0:=zq15 _ (w.heap.size+1) 0 _ _ (0,0) hf;have f1:=zq15 _ (w.heap.size+1) 1 _ _ (0,0) hf;have f2:=zq15 _ (w.heap.size+1) 2 _ _ (0,0) hf;have f3:=zq15 _ (w.heap.size+1) 3 _ _ (0,0) hf;have z0:=zq25 _ (w.heap.size+1) 0 _ _ hf;have z1:=zq25 _ (w.heap.size+1) 1 _ _ hf;have z2:=zq25 _ (w.heap.size+1) 2 _ _ hf;have z3:=zq25 _ (w.heap.size+1) 3 _ _ hf;simp at f0 f1 f2 f3;have HBW1:=hid hbw;have hlt1:w.heap.size+1<w1.heap.size:=by omega
    clear hf hkk hbw;go_wp2_with fail;exact zq12 (v:=.agg #[.int .i64 k,.int .i64 l,.int .i64 a,.int .i64 b]) (by simp[results,Tryz.results150,go_sem,f0,f1,f2,f3,hlt1]) rfl
     ⟨k,_,_,_,rfl,⟨fun h=>absurd h HK0.out,fun h=>absurd h HN.out⟩,((((HBW1.out.setCell (by simp) _).setCell (by simp) _).setCell (by simp) _).setCell (by simp) _).alloc (by simp;omega) _⟩
end Go.Proofs.YtlmlamcoeegkbaaGreat.SpecG
namespace Go.Proofs.YtlmlamcoeegkbaaGreat.SpecH
open Go.RowKit Go.Proofs.YtlmlamcoeegkbaaGreat Tow Val SpecF ImplW Grps
theorem consistent_any (T:Tw)(hT:Wf T)(hs:Small T)(w:World)(vO vP vC:Value)(hP:ValP (fun _=>True) w vO vP vC (ofTw T)):
  Calls Tryz.prog 102 #[.agg #[vO,vP,vC]] w (ExB (Tow.Good T) w):=by
 have HP:=hid hP;have HF:=hid (fun W hP=>SpecG.fault_any T hT hs W vO vP vC hP);clear hP hs hT;go_enter Tryz.func102,Tryz.ntmps102;go_wp2_with fail;have HB:Hid (Below w.heap.size w (w.alloc (.cells #[vO,vP,vC] 28))):=hid (zqB.alloc (by simp) _);refine(HF.out _ (HP.out.keep (Keep.of_below HB.out))).mono ?_;rintro e w1 ⟨k,l,a,b,rfl,hif,hbel⟩;have HBW:=hid (HB.out.trans (hbel.mono (by simp)));have HIF:=hid hif;have hfd:∀w:World,(Instr.field 147 (.agg #[.int .i64 k,.int .i64 l,.int .i64 a,.int .i64 b]) 0).run Tryz.prog w= .ok (.int .i64 k) w:=fun _=>by kernel_rfl
 clear hbel hif;by_cases hk:k=0
 ·subst hk;have HY:=hid (HIF.out.1 rfl);go_wp2_with fail;go_ret;exact ExB_true HY.out HBW.out
 ·have hd:(k==0)=false:=by simpa using hk
  have HN:=hid (show¬Tow.Good T from fun h=>hk (HIF.out.2 h));clear hk;go_wp2_with fail;go_ret;exact ExB_false HN.out HBW.out
theorem group_any (w:World)(vO vP vC:Value)(P:Pres)(hP:ValP (fun _=>True) w vO vP vC P):
  Calls Tryz.prog 55 #[.agg #[vO,vP,vC]] w (ExB (Grp P) w):=by
 have HP:=hid hP;have HV:=hid (fun W h=>SpecW.isPres_any W vO vP vC P h);have HC:=hid (fun T (hT:Wf T) (hs:Small T) W h=>consistent_any T hT hs W vO vP vC h);clear hP;have HB:Hid (Below w.heap.size w (w.alloc (.cells #[vO,vP,vC] 28))):=hid (zqB.alloc (by simp) _);by_cases hv:Valid P
 ·obtain⟨T,hT,hs,rfl⟩:=hv.tower;have HVA:=hid hv;have HT:=hid hT;have HS:=hid hs;clear hv hT hs;by_cases hg:Tow.Good T
  ·have HG:=hid hg;clear hg;go_enter Tryz.func55,Tryz.ntmps55;go_wp2_with fail;refine(HV.out _ (HP.out.keep (Keep.of_below HB.out))).mono ?_;rintro e w1 ⟨r,rfl,hr,hb1⟩;obtain rfl:=hr.2 HVA.out;obtain⟨e0,e1,e2⟩:=box_cells ((zqB.trans (hb1.mono (by simp))));have HB1:=hid (HB.out.trans (hb1.mono (by simp)));clear hb1 hr;go_wp2_with (go_at_call 102;refine(HC.out T HT.out HS.out _ (HP.out.keep (Keep.of_below HB1.out))).mono ?_;rintro e w2 ⟨r,rfl,hr,hb2⟩;obtain rfl:=hr.2 HG.out;replace hb2:=hid hb2);go_ret;exact ExB_true ⟨T,HT.out,HS.out,rfl,HVA.out,HG.out⟩ (HB1.out.trans (hb2.out.mono HB1.out.size))
  ·have HG:=hid hg;clear hg;have HNG:Hid (¬Grp (ofTw T)):=hid (fun h=>HG.out h.good);go_enter Tryz.func55,Tryz.ntmps55;go_wp2_with fail;refine(HV.out _ (HP.out.keep (Keep.of_below HB.out))).mono ?_;rintro e w1 ⟨r,rfl,hr,hb1⟩;obtain rfl:=hr.2 HVA.out;obtain⟨e0,e1,e2⟩:=box_cells ((zqB.trans (hb1.mono (by simp))));have HB1:=hid (HB.out.trans (hb1.mono (by simp)));clear hb1 hr;go_wp2_with (go_at_call 102;refine(HC.out T HT.out HS.out _ (HP.out.keep (Keep.of_below HB1.out))).mono ?_;rintro e w2 ⟨r,rfl,hr,hb2⟩;obtain rfl:=(Bool.eq_false_iff.2 (fun h=>HG.out (hr.1 h)));replace hb2:=hid hb2);go_ret;exact ExB_false HNG.out (HB1.out.trans (hb2.out.mono HB1.out.size))
 ·have HN:=hid hv;have HNG:Hid (¬Grp P):=hid (by rintro⟨T',_,_,_,h,_⟩;exact HN.out h);clear hv;go_enter Tryz.func55,Tryz.ntmps55;go_wp2_with fail;refine(HV.out _ (HP.out.keep (Keep.of_below HB.out))).mono ?_;rintro e w1 ⟨r,rfl,hr,hb1⟩;obtain rfl:=(Bool.eq_false_iff.2 (fun h=>HN.out (hr.1 h)));have HB1:=hid (HB.out.trans (hb1.mono (by simp)));clear hb1 hr;go_wp2_with fail;go_ret;exact ExB_false HNG.out HB1.out
end Go.Proofs.YtlmlamcoeegkbaaGreat.SpecH

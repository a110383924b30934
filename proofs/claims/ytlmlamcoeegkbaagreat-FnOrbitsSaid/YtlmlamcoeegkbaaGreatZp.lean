import Derived.Test.YtlmlamcoeegkbaaGreatZ0
import Derived.Test.YtlmlamcoeegkbaaGreatZo
import Derived.Laws.ResultCell
/-
  Lemmas for the law FnOrbits, in short spelling.
-/
open Go.Lib (hid)
set_option linter.unusedVariables false
set_option linter.unusedSimpArgs false
set_option maxRecDepth 100000
set_option maxHeartbeats 40000000
namespace Go.Proofs.YtlmlamcoeegkbaaGreat.SpecF
open Go.RowKit Go.Proofs.YtlmlamcoeegkbaaGreat Tow SpecA SpecB SpecC SpecD SpecE
def C1 (L:Lv)(T':Tw)(j:Nat):Prop:=npow (mul T') (Tow.one T') (L.c.getD j (Tow.one T')) (T'.getD j default).o=img T' L.c (pad (j+1) (T'.getD j default).w)
def C2 (L:Lv)(T':Tw)(j k:Nat):Prop:=mul T' (L.c.getD k (Tow.one T')) (L.c.getD j (Tow.one T'))=mul T' (L.c.getD j (Tow.one T')) (img T' L.c (pad (j+1) ((T'.getD j default).c.getD (k-j-1) [])))
def C4 (L:Lv)(T':Tw)(j:Nat):Prop:=mul T' L.w (it (img T' L.c) L.o (unit T' j))=mul T' (unit T' j) L.w
def C3 (L:Lv)(T':Tw):Prop:=img T' L.c L.w=L.w
theorem lvOk_iff {L:Lv}{T':Tw}(h:Wf (L::T'))(hg:Tow.Good T'):LvOk L T'↔(∀j<T'.length,C1 L T' j)∧(∀j<T'.length,∀k,j<k→k<T'.length→C2 L T' j k)∧C3 L T'∧∀j<T'.length,C4 L T' j:=LvOk_iff h hg
theorem ints_inj {a b:List Nat}:ints a=ints b↔a=b:=by
 constructor
 ·intro h;exact(List.map_inj_right (fun x y e=>Int.ofNat.inj e)).1 h
 ·intro h;rw[h]
theorem pad_inj {s:Nat}{a b:List Nat}:pad s a=pad s b↔a=b:=by simp[pad]
theorem dec_pads (s:Nat)(a b:List Nat):decide (ints (pad s a)=ints (pad s b))=decide (a=b):=by
 apply decide_eq_decide.2;rw[ints_inj,pad_inj]
def LvRes (p:Prop)(w:World)(e:Ending)(w':World):Prop:=∃k l a b:Int,e= .returned (.agg #[.int .i64 k,.int .i64 l,.int .i64 a,.int .i64 b])∧(k=0↔p)∧Below w.heap.size w w'
theorem box2 {w wr:World}{c0 c1 c2:Value}{t t2:TypeId}{d:Array Value}(hb:Below (w.heap.size+2) ((w.alloc (.cells #[c0,c1,c2] t)).alloc (.cells d t2)) wr):
  (wr.cell? ⟨w.heap.size,0,none⟩=some c0∧wr.cell? ⟨w.heap.size,1,none⟩=some c1∧wr.cell? ⟨w.heap.size,2,none⟩=some c2)∧wr.heap[w.heap.size+1]?=some (.cells d t2)∧Keep (fun _=>True) w wr∧Below w.heap.size w wr∧w.heap.size+2≤wr.heap.size:=by
 have hs:=hb.size;simp at hs;have hB:Below (w.heap.size+1) (w.alloc (.cells #[c0,c1,c2] t)) wr:=(zqB.alloc (by simp) _).trans (hb.mono (by omega));refine⟨box_cells hB,?_,keep_boxed hB _,below_unboxed hB,by omega⟩;have:=hb.block (w.heap.size+1) (by omega);rw[this];have:=zq17 (w.alloc (.cells #[c0,c1,c2] t)) (.cells d t2);simpa using this
theorem level_any (T:Tw)(hT:Wf T)(hs:Small T)(i:Nat)(L:Lv)(hL:T[i]?=some L)(hg:Tow.Good (T.drop (i+1)))(w:World)(vO vP vC:Value)(hP:ValP Any w vO vP vC (ofTw T)):
  Calls Tryz.prog 193 #[.agg #[vO,vP,vC],.int .i64 (i:Int)] w (LvRes (LvOk L (T.drop (i+1))) w):=by
 have hi:i<T.length:=(zq2.1 hL).1;have hs6:=hs.1;have HK:=hid (lvl hT hL);obtain⟨aO,cO,aP,cP,aC,cC,rfl,rfl,rfl,hO1,hP1,hC1⟩:=hP.open;have hw:=Wf_drop hT i;rw[drop_cons hL]at hw;have HIF:=hid (lvOk_iff hw hg);obtain⟨bC,oC,a2,c2,rfl,_,hbC,hcC,h21,hC4⟩:=hP.con hL;obtain⟨bO,oO,rfl,_,hbO,hcOi⟩:=hP.ord hL;obtain⟨bP,oP,uW,rfl,_,hbP,hcPi,huW⟩:=hP.pow hL;have hcl:L.c.length=T.length-(i+1):=HK.out.2.1;have ho7i:L.o≤7:=hs.2 L (zq5 hL);have HP:=hid hP;have HL:=hid hL;have HG:=hid hg;have HT:=hid hT;have HS:=hid hs;have HCC:=hid hcC;have HCOI:=hid hcOi;have HCPI:=hid hcPi;have HUW:=hid huW;have HC4:=hid hC4;have HREP:=hid (fun K (hK:K≤1000)=>repeat_any T hT hs (i+1) K (by omega) hg hK);have HIMG:=hid (img_any T hT hs i L hL);have HAT:=hid (at_any T hT hs (i+1) (by omega));clear hP hL hg hT hs hw hcC hC4 hcOi hcPi huW;go_enter Tryz.func193,Tryz.ntmps193;go_wp2_with fail;go_loopw [7] (fun j wr=>∃m:Nat,m≤T.length-(i+1)∧j= .int .i64 ((i:Int)+1+(m:Int))∧Hid (∀t,t<m→C1 L (T.drop (i+1)) t)∧Below (w.heap.size+2) ((w.alloc (.cells #[.slice (some ⟨bO,oO,none⟩) T.length cO,.slice (some ⟨bP,oP,none⟩) T.length cP,.slice (some ⟨bC,oC,none⟩) T.length cC] 28)).alloc (.cells #[.int .i64 0,.int .i64 0,.int .i64 0,.int .i64 0] 147)) wr) (fun j _=>T.length-(intOf j).toNat);case atStart=>exact⟨0,zq4 _,by go_num,hid (fun t h=>absurd h (zq33 _)),zq3 _ _⟩
 case round=>
  obtain⟨m,hm,rfl,hR,hb⟩:=hrel;have HB:=hid hb;clear hb;by_cases hlt:m<T.length-(i+1)
  ·skip
   obtain⟨⟨e0,e1,e2⟩,hf,hk,hbw,hsz⟩:=box2 HB.out;have HKW:=hid hk;have HF:=hid hf;have HBW:=hid hbw;have hszw:w.heap.size<wr.heap.size:=by omega
   have HPr:=hid (HP.out.keep hk);clear hf hbw;obtain⟨y,hy⟩:∃y,L.c[m]?=some y:=⟨_,zq0 (by omega)⟩;obtain⟨b2,o2,uy,rfl,_,hb2,hcy,huy⟩:=HC4.out m y hy;obtain⟨Lj,hLj⟩:∃Lj,T[i+1+m]?=some Lj:=⟨_,zq0 (by omega)⟩;obtain⟨bO',oO',eO,_,_,hcO⟩:=HP.out.ord hLj;obtain⟨rfl,rfl⟩:bO=bO'∧oO=oO':=by simpa using eO
   obtain⟨bP',oP',uP,eP,_,_,hcP,huP⟩:=HP.out.pow hLj;obtain⟨rfl,rfl⟩:bP=bP'∧oP=oP':=by simpa using eP
   have ho7:Lj.o≤7:=HS.out.2 Lj (zq5 hLj);have HCO:=hid hcO;have HCP:=hid hcP;have HCY:=hid hcy;have HUP:=hid huP;have HUY:=hid huy;have HYE:=hid (HK.out.2.2.1 y (zq5 hy));have HLE:=hid (show El (T.drop (i+1)) (pad (m+1) Lj.w) from El_pad HK.out.1 (m+1) (by rw[zq66,show i+1+(m+1)=i+1+m+1 by omega];exact(lvl HT.out hLj).2.2.2.1) (by simp;omega));have HLW:=hid (show(pad (i+1+m+1) Lj.w).length=T.length∧El (T.drop (i+1)) ((pad (i+1+m+1) Lj.w).drop (i+1))∧(pad (i+1+m+1) Lj.w).drop (i+1)=pad (m+1) Lj.w from by
    have e:pad (i+1+m+1) Lj.w=pad (i+1) (pad (m+1) Lj.w):=by rw[pad_add];congr 1
    rw[e,pad_drop];exact⟨by rw[pad_length,El_length HLE.out];simp;omega,HLE.out,rfl⟩)
   have HC1:=hid (show C1 L (T.drop (i+1)) m↔npow (mul (T.drop (i+1))) (Tow.one (T.drop (i+1))) y Lj.o=img (T.drop (i+1)) L.c (pad (m+1) Lj.w) from by
    unfold C1;rw[zq9,hy,zq9,zq63,hLj];rfl)
   clear eO eP hcO hcP hcy huP huy hLj hy;have hcC:wr.cell? ⟨bC,oC+i,none⟩=some (.slice (some ⟨b2,o2,none⟩) L.c.length c2):=by rw[hk.cell trivial hbC];exact HCC.out
   have hbC2:bC<wr.heap.size:=by omega
   have hcy:wr.cell? ⟨b2,o2+m,none⟩=some (uy):=by rw[hk.cell trivial hb2];exact HCY.out
   have hb22:b2<wr.heap.size:=by omega
   have hcO:wr.cell? ⟨bO,oO+(i+1+m),none⟩=some (.int .i64 (Lj.o:Int)):=by rw[hk.cell trivial hbO];exact HCO.out
   have hbO2:bO<wr.heap.size:=by omega
   have w3:IntKind.i64.wrap ((i:Int)+1)=(i:Int)+1:=zq6 _ (by omega);have w6:(i:Int)<(T.length:Int):=by omega
   have w7:(0:Int)≤(i:Int):=by omega
   have w1:IntKind.i64.wrap (((i:Int)+1+(m:Int))-(i:Int))=(m:Int)+1:=by rw[zq6 _ (by omega)];omega
   have w2:IntKind.i64.wrap (((m:Int)+1)-1)=(m:Int):=by rw[zq6 _ (by omega)];omega
   have w8:IntKind.i64.wrap (m:Int)=(m:Int):=zq6 _ (by omega);have w4:(m:Int)<(L.c.length:Int):=by omega
   have w5:(0:Int)≤(m:Int):=by omega
   have w9:(i:Int)+1+(m:Int)<(T.length:Int):=by omega
   have w10:(0:Int)≤(i:Int)+1+(m:Int):=by omega
   have w11:((i:Int)+1+(m:Int)).toNat=i+1+m:=by omega
   have HUY2:=hid (HUY.out.keep hk);clear hk;go_wp2_with fail;go_region_held3 (fun w'=>(∀b o,b<wr.heap.size→w'.cell? ⟨b,o,none⟩=wr.cell? ⟨b,o,none⟩)∧Keep (fun _=>True) wr w')
    (first|exact ks_mk (zqK.drew)|exact ks_mk (Keep.trans (zqK.drew) (Keep.of_below (by assumption)))|exact ks_mk (Keep.drewN (Keep.trans (zqK.drew) (Keep.of_below (by assumption))) _)|exact ks_mk (Keep.trans (Keep.trans (zqK.drew) (Keep.of_below (by assumption))) (Keep.of_below (by assumption)))|exact ks_mk (Keep.drewN (Keep.trans (Keep.trans (zqK.drew) (Keep.of_below (by assumption))) (Keep.of_below (by assumption))) _))
    (first|(go_at_call 144;refine(HREP.out Lj.o (by omega) _ _ _ _ _ (pad (i+1) y) (HPr.out.keep (zqK.drew)) (HUY2.out.keep (zqK.drew)) (by rw[pad_length,El_length HYE.out];simp;omega) (by rw[pad_drop];exact HYE.out)).mono ?_;rintro e w5 ⟨v5,rfl,ho5,hb5⟩))
   rw[pad_drop]at ho5;have HB5:=hid (HB.out.trans ((zqB.drew).trans (hb5.mono (by show w.heap.size+2≤wr.heap.size;omega))));have HO5:=hid ho5;clear ho5 hb5 e0 e1 e2 hszw hsz hcC hcy hcO hbC2 hb22 hbO2;obtain⟨⟨e0,e1,e2⟩,hf,hk,hbw,hsz⟩:=box2 HB5.out;have HKW:=hid hk;have HF:=hid hf;have HBW:=hid hbw;have hszw:w.heap.size<w5.heap.size:=by omega
   have HPr:=hid (HP.out.keep hk);clear hf hbw;have hcP:w5.cell? ⟨bP,oP+(i+1+m),none⟩=some (uP):=by rw[hk.cell trivial hbP];exact HCP.out
   have hbP2:bP<w5.heap.size:=by omega
   have HUP2:=hid (HUP.out.keep hk);clear hk;by_cases hc:C1 L (T.drop (i+1)) m
   ·skip
    have hdec:=hid (show decide (ints (pad (i+1) (npow (mul (T.drop (i+1))) (Tow.one (T.drop (i+1))) y Lj.o))=ints (pad (i+1) (img (T.drop (i+1)) L.c (pad (m+1) Lj.w))))=true by
     rw[dec_pads];exact zq83 (HC1.out.1 hc))
    have HCM:=hid hc;clear hc;go_wp2_with fail;go_region_held3 (fun w'=>(∀b o,b<w5.heap.size→w'.cell? ⟨b,o,none⟩=w5.cell? ⟨b,o,none⟩)∧Keep (fun _=>True) w5 w')
     (first|exact ks_mk (zqK.drew)|exact ks_mk (Keep.trans (zqK.drew) (Keep.of_below (by assumption)))|exact ks_mk (Keep.drewN (Keep.trans (zqK.drew) (Keep.of_below (by assumption))) _)|exact ks_mk (Keep.trans (Keep.trans (zqK.drew) (Keep.of_below (by assumption))) (Keep.of_below (by assumption)))|exact ks_mk (Keep.drewN (Keep.trans (Keep.trans (zqK.drew) (Keep.of_below (by assumption))) (Keep.of_below (by assumption))) _))
     (first|(go_at_call 185;refine(HIMG.out _ _ _ _ _ (pad (i+1+m+1) Lj.w) (HPr.out.keep (zqK.drew)) (HUP2.out.keep (zqK.drew)) HLW.out.1 HLW.out.2.1).mono ?_;rintro e w6 ⟨v6,rfl,ho6,hb6⟩;rw[HLW.out.2.2]at ho6)|(go_at_call 183;refine(same_any _ _ _ _ _ ((HO5.out.sl.mono (fun _ _=>trivial)).keep (Keep.trans (zqK.drew) (Keep.of_below (by assumption)))) (ho6.sl.mono (fun _ _=>trivial))).mono ?_;rintro e w7 ⟨rfl,n7,rfl⟩;rw[hdec.out]))
    have HB7:=hid (HB5.out.trans ((zqB.drew).trans ((zq61 hb6 n7).mono (by show w.heap.size+2≤w5.heap.size;omega))));clear ho6 hb6;go_wp2_with fail;go_roundw;case rel=>exact⟨m+1,by omega,by go_num,hid (fun t ht=>by
     rcases zq30.1 ht with h|h
     ·exact hR.out t h
     ·subst h;exact HCM.out),HB7.out⟩
    case measure=>simp[intOf];omega
   ·skip
    have hdec:=hid (show decide (ints (pad (i+1) (npow (mul (T.drop (i+1))) (Tow.one (T.drop (i+1))) y Lj.o))=ints (pad (i+1) (img (T.drop (i+1)) L.c (pad (m+1) Lj.w))))=false by
     rw[dec_pads];exact zq67 (fun h=>hc (HC1.out.2 h)))
    have HNO:=hid (show¬LvOk L (T.drop (i+1)) from fun h=>hc ((HIF.out.1 h).1 m (by simp;omega)));clear hc;go_wp2_with fail;go_region_held3 (fun w'=>(∀b o,b<w5.heap.size→w'.cell? ⟨b,o,none⟩=w5.cell? ⟨b,o,none⟩)∧Keep (fun _=>True) w5 w')
     (first|exact ks_mk (zqK.drew)|exact ks_mk (Keep.trans (zqK.drew) (Keep.of_below (by assumption)))|exact ks_mk (Keep.drewN (Keep.trans (zqK.drew) (Keep.of_below (by assumption))) _)|exact ks_mk (Keep.trans (Keep.trans (zqK.drew) (Keep.of_below (by assumption))) (Keep.of_below (by assumption)))|exact ks_mk (Keep.drewN (Keep.trans (Keep.trans (zqK.drew) (Keep.of_below (by assumption))) (Keep.of_below (by assumption))) _))
     (first|(go_at_call 185;refine(HIMG.out _ _ _ _ _ (pad (i+1+m+1) Lj.w) (HPr.out.keep (zqK.drew)) (HUP2.out.keep (zqK.drew)) HLW.out.1 HLW.out.2.1).mono ?_;rintro e w6 ⟨v6,rfl,ho6,hb6⟩;rw[HLW.out.2.2]at ho6)|(go_at_call 183;refine(same_any _ _ _ _ _ ((HO5.out.sl.mono (fun _ _=>trivial)).keep (Keep.trans (zqK.drew) (Keep.of_below (by assumption)))) (ho6.sl.mono (fun _ _=>trivial))).mono ?_;rintro e w7 ⟨rfl,n7,rfl⟩;rw[hdec.out]))
    have HB7:=hid (HB5.out.trans ((zqB.drew).trans ((zq61 hb6 n7).mono (by show w.heap.size+2≤w5.heap.size;omega))));clear ho6 hb6;obtain⟨_,hf7,_,hbw7,hsz7⟩:=box2 HB7.out;have f0:=zq15 _ (w.heap.size+1) 0 _ _ (0,0) hf7;have f1:=zq15 _ (w.heap.size+1) 1 _ _ (0,0) hf7;have f2:=zq15 _ (w.heap.size+1) 2 _ _ (0,0) hf7;have f3:=zq15 _ (w.heap.size+1) 3 _ _ (0,0) hf7;have z0:=zq25 _ (w.heap.size+1) 0 _ _ hf7;have z1:=zq25 _ (w.heap.size+1) 1 _ _ hf7;have z2:=zq25 _ (w.heap.size+1) 2 _ _ hf7;have z3:=zq25 _ (w.heap.size+1) 3 _ _ hf7;have HBW7:=hid hbw7;clear hf7 hbw7 hsz7;simp at f0 f1 f2 f3;go_wp2_with fail;exact zq12 (v:=.agg #[.int .i64 1,.int .i64 (i),.int .i64 ((i:Int)+1+(m:Int)),.int .i64 (0)]) (by simp[results,Tryz.results193,go_sem,f0,f1,f2,f3]) rfl
     ⟨1,_,_,_,rfl,⟨fun h=>absurd h (by decide),fun h=>absurd h HNO.out⟩,(((HBW7.out.setCell (by simp) _).setCell (by simp) _).setCell (by simp) _).setCell (by simp) _⟩
  ·skip
   obtain rfl:m=T.length-(i+1):=by omega
   have H1:=hid (show∀j<(T.drop (i+1)).length,C1 L (T.drop (i+1)) j from fun j hj=>hR.out j (by simpa using hj));clear hR hlt hm;go_wp2_with fail;go_loopw [9] (fun j wr=>∃m:Nat,m≤T.length-(i+1)∧j= .int .i64 ((i:Int)+1+(m:Int))∧Hid (∀t,t<m→∀k,t<k→k<T.length-(i+1)→C2 L (T.drop (i+1)) t k)∧Below (w.heap.size+2) ((w.alloc (.cells #[.slice (some ⟨bO,oO,none⟩) T.length cO,.slice (some ⟨bP,oP,none⟩) T.length cP,.slice (some ⟨bC,oC,none⟩) T.length cC] 28)).alloc (.cells #[.int .i64 0,.int .i64 0,.int .i64 0,.int .i64 0] 147)) wr) (fun j _=>T.length-(intOf j).toNat);case atStart=>exact⟨0,zq4 _,by go_num,hid (fun t h=>absurd h (zq33 _)),HB.out⟩
   case round=>
    clear HB;obtain⟨m,hm,rfl,hR,hb⟩:=hrel;have HB:=hid hb;clear hb;by_cases hlt:m<T.length-(i+1)
    ·skip
     have hd:decide ((i:Int)+1+(m:Int)<(T.length:Int))=true:=by simp;omega
     obtain⟨x,hx⟩:∃x,L.c[m]?=some x:=⟨_,zq0 (by omega)⟩;obtain⟨b2,o2,ux,rfl,_,hb2,hcx,hux⟩:=HC4.out m x hx;obtain⟨Lj,hLj⟩:∃Lj,T[i+1+m]?=some Lj:=⟨_,zq0 (by omega)⟩;obtain⟨bC',oC',aJ,cJ,eC,_,_,hcJ,hJ1,hJ4⟩:=HP.out.con hLj;obtain⟨rfl,rfl⟩:bC=bC'∧oC=oC':=by simpa using eC
     have HCX:=hid hcx;have HUX:=hid hux;have HCJ:=hid hcJ;have HJ4:=hid hJ4;have HX:=hid hx;have HLJ:=hid hLj;have HXE:=hid (HK.out.2.2.1 x (zq5 hx));have HJL:=hid (lvl HT.out hLj).2.1;clear hx hcx hux eC hcJ hJ4 hLj;go_wp2_with fail;go_loopw [10] (fun kv wr=>∃q:Nat,m+1≤q∧q≤T.length-(i+1)∧kv= .int .i64 ((i:Int)+1+(q:Int))∧Hid (∀k,m<k→k<q→C2 L (T.drop (i+1)) m k)∧Below (w.heap.size+2) ((w.alloc (.cells #[.slice (some ⟨bO,oO,none⟩) T.length cO,.slice (some ⟨bP,oP,none⟩) T.length cP,.slice (some ⟨bC,oC,none⟩) T.length cC] 28)).alloc (.cells #[.int .i64 0,.int .i64 0,.int .i64 0,.int .i64 0] 147)) wr) (fun kv _=>T.length-(intOf kv).toNat);case atStart=>exact⟨m+1,zq1 _,by omega,by go_num,hid (fun k h1 h2=>absurd h2 (by omega)),HB.out⟩
     case round=>
      clear HB;obtain⟨q,hq1,hq,rfl,hQ,hb⟩:=hrel;have HB:=hid hb;clear hb;by_cases hqt:q<T.length-(i+1)
      ·skip
       obtain⟨⟨e0,e1,e2⟩,hf,hk,hbw,hsz⟩:=box2 HB.out;have HKW:=hid hk;have HF:=hid hf;have HBW:=hid hbw;have hszw:w.heap.size<wr.heap.size:=by omega
       have HPr:=hid (HP.out.keep hk);clear hf hbw;obtain⟨y,hy⟩:∃y,L.c[q]?=some y:=⟨_,zq0 (by omega)⟩;obtain⟨b2',o2',uy,e2',_,_,hcy,huy⟩:=HC4.out q y hy;obtain⟨rfl,rfl⟩:b2=b2'∧o2=o2':=by simpa using e2'
       obtain⟨d,hd'⟩:∃d,q=m+1+d:=⟨q-(m+1),by omega⟩;have hdl:d<Lj.c.length:=by rw[HJL.out];omega
       obtain⟨z,hz⟩:∃z,Lj.c[d]?=some z:=⟨_,zq0 hdl⟩;obtain⟨bJ,oJ,uz,rfl,_,hbJ,hcz,huz⟩:=HJ4.out d z hz;have HCY:=hid hcy;have HUY:=hid huy;have HCZ:=hid hcz;have HUZ:=hid huz;have HYE:=hid (HK.out.2.2.1 y (zq5 hy));have HZE:=hid (show El (T.drop (i+1)) (pad (m+1) z) from El_pad HK.out.1 (m+1) (by rw[zq66,show i+1+(m+1)=i+1+m+1 by omega];exact(lvl HT.out HLJ.out).2.2.1 z (zq5 hz)) (by simp;omega));have HZW:=hid (show(pad (i+1+m+1) z).length=T.length∧El (T.drop (i+1)) ((pad (i+1+m+1) z).drop (i+1))∧(pad (i+1+m+1) z).drop (i+1)=pad (m+1) z from by
        have e:pad (i+1+m+1) z=pad (i+1) (pad (m+1) z):=by rw[pad_add];congr 1
        rw[e,pad_drop];exact⟨by rw[pad_length,El_length HZE.out];simp;omega,HZE.out,rfl⟩)
       have HC2:=hid (show C2 L (T.drop (i+1)) m q↔mul (T.drop (i+1)) y x=mul (T.drop (i+1)) x (img (T.drop (i+1)) L.c (pad (m+1) z)) from by
        unfold C2;rw[zq9,hy,zq9,HX.out,zq9 (l:=T.drop (i+1)),zq63,HLJ.out,zq9,show q-m-1=d by omega];simp only[zq131];rw[hz];rfl)
       clear e2' hcy huy hcz huz hy hz;have hcC:wr.cell? ⟨bC,oC+i,none⟩=some (.slice (some ⟨b2,o2,none⟩) L.c.length c2):=by rw[hk.cell trivial hbC];exact HCC.out
       have hbC2:bC<wr.heap.size:=by omega
       have hcx:wr.cell? ⟨b2,o2+m,none⟩=some (ux):=by rw[hk.cell trivial hb2];exact HCX.out
       have hb22:b2<wr.heap.size:=by omega
       have hcy:wr.cell? ⟨b2,o2+q,none⟩=some uy:=by rw[hk.cell trivial hb2];exact HCY.out
       have w3:IntKind.i64.wrap ((i:Int)+1)=(i:Int)+1:=zq6 _ (by omega);have w6:(i:Int)<(T.length:Int):=by omega
       have w7:(0:Int)≤(i:Int):=by omega
       have w1:IntKind.i64.wrap (((i:Int)+1+(m:Int))-(i:Int))=(m:Int)+1:=by rw[zq6 _ (by omega)];omega
       have w2:IntKind.i64.wrap (((m:Int)+1)-1)=(m:Int):=by rw[zq6 _ (by omega)];omega
       have w8:IntKind.i64.wrap (m:Int)=(m:Int):=zq6 _ (by omega);have w4:(m:Int)<(L.c.length:Int):=by omega
       have w5:(0:Int)≤(m:Int):=by omega
       have w9:(i:Int)+1+(m:Int)<(T.length:Int):=by omega
       have w10:(0:Int)≤(i:Int)+1+(m:Int):=by omega
       have w11:((i:Int)+1+(m:Int)).toNat=i+1+m:=by omega
       have w1q:IntKind.i64.wrap (((i:Int)+1+(q:Int))-(i:Int))=(q:Int)+1:=by rw[zq6 _ (by omega)];omega
       have w2q:IntKind.i64.wrap (((q:Int)+1)-1)=(q:Int):=by rw[zq6 _ (by omega)];omega
       have w8q:IntKind.i64.wrap (q:Int)=(q:Int):=zq6 _ (by omega);have w4q:(q:Int)<(L.c.length:Int):=by omega
       have w5q:(0:Int)≤(q:Int):=by omega
       have w9q:(i:Int)+1+(q:Int)<(T.length:Int):=by omega
       have w10q:(0:Int)≤(i:Int)+1+(q:Int):=by omega
       have w11q:((i:Int)+1+(q:Int)).toNat=i+1+q:=by omega
       have HUX2:=hid (HUX.out.keep hk);have HUY2:=hid (HUY.out.keep hk);have wA:IntKind.i64.wrap (((i:Int)+1+(q:Int))-((i:Int)+1+(m:Int)))=(d:Int)+1:=by rw[zq6 _ (by omega)];omega
       have wA':IntKind.i64.wrap ((q:Int)-(m:Int))=(d:Int)+1:=by rw[zq6 _ (by omega)];omega
       have wB:IntKind.i64.wrap (((d:Int)+1)-1)=(d:Int):=by rw[zq6 _ (by omega)];omega
       have wD:IntKind.i64.wrap (d:Int)=(d:Int):=zq6 _ (by omega);have wE:(d:Int)<(Lj.c.length:Int):=by omega
       have wF:(0:Int)≤(d:Int):=by omega
       clear hk hd';go_wp2_with fail;go_region_held3 (fun w'=>(∀b o,b<wr.heap.size→w'.cell? ⟨b,o,none⟩=wr.cell? ⟨b,o,none⟩)∧Keep (fun _=>True) wr w')
        (first|exact ks_mk (zqK.drew)|exact ks_mk (Keep.trans (zqK.drew) (Keep.of_below (by assumption)))|exact ks_mk (Keep.drewN (Keep.trans (zqK.drew) (Keep.of_below (by assumption))) _)|exact ks_mk (Keep.trans (Keep.trans (zqK.drew) (Keep.of_below (by assumption))) (Keep.of_below (by assumption)))|exact ks_mk (Keep.drewN (Keep.trans (Keep.trans (zqK.drew) (Keep.of_below (by assumption))) (Keep.of_below (by assumption))) _))
        (first|(fail))
       obtain⟨w4,hw4⟩:∃w4,w4=wr.drew:=⟨_,rfl⟩;rw[←hw4];have HB4:=hid (show Below (w.heap.size+2) ((w.alloc (.cells #[.slice (some ⟨bO,oO,none⟩) T.length cO,.slice (some ⟨bP,oP,none⟩) T.length cP,.slice (some ⟨bC,oC,none⟩) T.length cC] 28)).alloc (.cells #[.int .i64 0,.int .i64 0,.int .i64 0,.int .i64 0] 147)) w4 by rw[hw4];exact HB.out.drew);clear hw4 e0 e1 e2 hszw hsz hcC hcx hcy hbC2 hb22;obtain⟨⟨e0,e1,e2⟩,hf,hk,hbw,hsz⟩:=box2 HB4.out;have HKW:=hid hk;have HF:=hid hf;have HBW:=hid hbw;have hszw:w.heap.size<w4.heap.size:=by omega
       have HPr:=hid (HP.out.keep hk);clear hf hbw;have hcC:w4.cell? ⟨bC,oC+(i+1+m),none⟩=some (.slice (some ⟨bJ,oJ,none⟩) Lj.c.length cJ):=by rw[hk.cell trivial hbC];exact HCJ.out
       have hbC2:bC<w4.heap.size:=by omega
       have hcz:w4.cell? ⟨bJ,oJ+d,none⟩=some (uz):=by rw[hk.cell trivial hbJ];exact HCZ.out
       have hbJ2:bJ<w4.heap.size:=by omega
       have HUZ2:=hid (HUZ.out.keep hk);have HUX3:=hid (HUX.out.keep hk);have HUY3:=hid (HUY.out.keep hk);clear hk;go_wp2_with fail;go_region_held3 (fun w'=>(∀b o,b<w4.heap.size→w'.cell? ⟨b,o,none⟩=w4.cell? ⟨b,o,none⟩)∧Keep (fun _=>True) w4 w')
        (first|exact ks_mk (zqK.drew)|exact ks_mk (Keep.trans (zqK.drew) (Keep.of_below (by assumption)))|exact ks_mk (Keep.drewN (Keep.trans (zqK.drew) (Keep.of_below (by assumption))) _)|exact ks_mk (Keep.trans (Keep.trans (zqK.drew) (Keep.of_below (by assumption))) (Keep.of_below (by assumption)))|exact ks_mk (Keep.drewN (Keep.trans (Keep.trans (zqK.drew) (Keep.of_below (by assumption))) (Keep.of_below (by assumption))) _))
        (first|(go_at_call 185;refine(HIMG.out _ _ _ _ _ (pad (i+1+m+1) z) (HPr.out.keep (zqK.drew)) (HUZ2.out.keep (zqK.drew)) HZW.out.1 HZW.out.2.1).mono ?_;rintro e w5 ⟨v5,rfl,ho5,hb5⟩;rw[HZW.out.2.2]at ho5))
       have HB5:=hid (HB4.out.trans ((zqB.drew).trans (hb5.mono (by show w.heap.size+2≤w4.heap.size;omega))));have HO5:=hid ho5;have HK45:=hid (Keep.trans (zqK.drew) (Keep.of_below (S:=fun _=>True) hb5));clear ho5 hb5 e0 e1 e2 hszw hsz hcC hcz hbC2 hbJ2;obtain⟨⟨e0,e1,e2⟩,hf,hk,hbw,hsz⟩:=box2 HB5.out;have HKW:=hid hk;have HF:=hid hf;have HBW:=hid hbw;have hszw:w.heap.size<w5.heap.size:=by omega
       have HPr:=hid (HP.out.keep hk);clear hf hbw;have HUX4:=hid (HUX.out.keep hk);have HUY4:=hid (HUY.out.keep hk);have HZI:=hid (show El (T.drop (i+1)) (img (T.drop (i+1)) L.c (pad (m+1) z)) from El_img HK.out.1 HK.out.2.2.1 _);clear hk;by_cases hc:C2 L (T.drop (i+1)) m q
       ·skip
        have hdec:=hid (show decide (ints (pad (i+1) (mul (T.drop (i+1)) y x))=ints (pad (i+1) (mul (T.drop (i+1)) x (img (T.drop (i+1)) L.c (pad (m+1) z)))))=true by
         rw[dec_pads];exact zq83 (HC2.out.1 hc))
        have HCM:=hid hc;clear hc;go_wp2_with fail;go_region_held3 (fun w'=>(∀b o,b<w5.heap.size→w'.cell? ⟨b,o,none⟩=w5.cell? ⟨b,o,none⟩)∧Keep (fun _=>True) w5 w')
         (first|exact ks_mk (zqK.drew)|exact ks_mk (Keep.trans (zqK.drew) (Keep.of_below (by assumption)))|exact ks_mk (Keep.drewN (Keep.trans (zqK.drew) (Keep.of_below (by assumption))) _)|exact ks_mk (Keep.trans (Keep.trans (zqK.drew) (Keep.of_below (by assumption))) (Keep.of_below (by assumption)))|exact ks_mk (Keep.drewN (Keep.trans (Keep.trans (zqK.drew) (Keep.of_below (by assumption))) (Keep.of_below (by assumption))) _))
         (first|(go_at_call_of 143 uy;refine(HAT.out _ _ _ _ uy ux (pad (i+1) y) (pad (i+1) x) (HPr.out.keep (by first|exact(zqK.drew)|exact Keep.trans (zqK.drew) (Keep.of_below (by assumption)))) (HUY4.out.keep (by first|exact(zqK.drew)|exact Keep.trans (zqK.drew) (Keep.of_below (by assumption)))) (HUX4.out.keep (by first|exact(zqK.drew)|exact Keep.trans (zqK.drew) (Keep.of_below (by assumption)))) (by rw[pad_length,El_length HYE.out];simp;omega) (by rw[pad_length,El_length HXE.out];simp;omega) (by rw[pad_drop];exact HYE.out) (by rw[pad_drop];exact HXE.out)).mono ?_;rintro e wa ⟨va,rfl,hoa,hba⟩;rw[pad_drop,pad_drop]at hoa)|(go_at_call_of 143 v5;refine(HAT.out _ _ _ _ ux v5 (pad (i+1) x) (pad (i+1) (img (T.drop (i+1)) L.c (pad (m+1) z))) (HPr.out.keep (by first|exact(zqK.drew)|exact Keep.trans (zqK.drew) (Keep.of_below (by assumption)))) (HUX4.out.keep (by first|exact(zqK.drew)|exact Keep.trans (zqK.drew) (Keep.of_below (by assumption)))) ((HO5.out.sl.mono (fun _ _=>trivial)).keep (by first|exact(zqK.drew)|exact Keep.trans (zqK.drew) (Keep.of_below (by assumption)))) (by rw[pad_length,El_length HXE.out];simp;omega) (by rw[pad_length,El_length HZI.out];simp;omega) (by rw[pad_drop];exact HXE.out) (by rw[pad_drop];exact HZI.out)).mono ?_;rintro e wb ⟨vb,rfl,hob,hbb⟩;rw[pad_drop,pad_drop]at hob)|(go_at_call 183;refine(same_any _ va vb _ _ (by first|exact hoa.sl.mono (fun _ _=>trivial)|exact(hoa.sl.mono (fun _ _=>trivial)).keep (Keep.of_below hbb)) (by first|exact hob.sl.mono (fun _ _=>trivial)|exact(hob.sl.mono (fun _ _=>trivial)).keep (Keep.of_below hba))).mono ?_;rintro e w7 ⟨rfl,n7,rfl⟩;rw[hdec.out]))
        all_goals
         have hs5:w.heap.size+2≤w5.heap.size:=hsz;have HB7:=hid (HB5.out.trans ((zqB.drew).trans (zq61 (by first|exact(hba.mono hs5).trans (hbb.mono (zq11 hs5 hba.size))|exact(hbb.mono hs5).trans (hba.mono (zq11 hs5 hbb.size))) n7)));clear hoa hba hob hbb;go_wp2_with fail;go_roundw;case rel=>exact⟨q+1,by omega,by omega,by go_num,hid (fun t h1 ht=>by
          rcases zq30.1 ht with h|h
          ·exact hQ.out t h1 h
          ·subst h;exact HCM.out),HB7.out⟩
         case measure=>simp[intOf];omega
       ·skip
        have hdec:=hid (show decide (ints (pad (i+1) (mul (T.drop (i+1)) y x))=ints (pad (i+1) (mul (T.drop (i+1)) x (img (T.drop (i+1)) L.c (pad (m+1) z)))))=false by
         rw[dec_pads];exact zq67 (fun h=>hc (HC2.out.2 h)))
        have HNO:=hid (show¬LvOk L (T.drop (i+1)) from fun h=>hc ((HIF.out.1 h).2.1 m (by simp;omega) q (by omega) (by simp;omega)));clear hc;go_wp2_with fail;go_region_held3 (fun w'=>(∀b o,b<w5.heap.size→w'.cell? ⟨b,o,none⟩=w5.cell? ⟨b,o,none⟩)∧Keep (fun _=>True) w5 w')
         (first|exact ks_mk (zqK.drew)|exact ks_mk (Keep.trans (zqK.drew) (Keep.of_below (by assumption)))|exact ks_mk (Keep.drewN (Keep.trans (zqK.drew) (Keep.of_below (by assumption))) _)|exact ks_mk (Keep.trans (Keep.trans (zqK.drew) (Keep.of_below (by assumption))) (Keep.of_below (by assumption)))|exact ks_mk (Keep.drewN (Keep.trans (Keep.trans (zqK.drew) (Keep.of_below (by assumption))) (Keep.of_below (by assumption))) _))
         (first|(go_at_call_of 143 uy;refine(HAT.out _ _ _ _ uy ux (pad (i+1) y) (pad (i+1) x) (HPr.out.keep (by first|exact(zqK.drew)|exact Keep.trans (zqK.drew) (Keep.of_below (by assumption)))) (HUY4.out.keep (by first|exact(zqK.drew)|exact Keep.trans (zqK.drew) (Keep.of_below (by assumption)))) (HUX4.out.keep (by first|exact(zqK.drew)|exact Keep.trans (zqK.drew) (Keep.of_below (by assumption)))) (by rw[pad_length,El_length HYE.out];simp;omega) (by rw[pad_length,El_length HXE.out];simp;omega) (by rw[pad_drop];exact HYE.out) (by rw[pad_drop];exact HXE.out)).mono ?_;rintro e wa ⟨va,rfl,hoa,hba⟩;rw[pad_drop,pad_drop]at hoa)|(go_at_call_of 143 v5;refine(HAT.out _ _ _ _ ux v5 (pad (i+1) x) (pad (i+1) (img (T.drop (i+1)) L.c (pad (m+1) z))) (HPr.out.keep (by first|exact(zqK.drew)|exact Keep.trans (zqK.drew) (Keep.of_below (by assumption)))) (HUX4.out.keep (by first|exact(zqK.drew)|exact Keep.trans (zqK.drew) (Keep.of_below (by assumption)))) ((HO5.out.sl.mono (fun _ _=>trivial)).keep (by first|exact(zqK.drew)|exact Keep.trans (zqK.drew) (Keep.of_below (by assumption)))) (by rw[pad_length,El_length HXE.out];simp;omega) (by rw[pad_length,El_length HZI.out];simp;omega) (by rw[pad_drop];exact HXE.out) (by rw[pad_drop];exact HZI.out)).mono ?_;rintro e wb ⟨vb,rfl,hob,hbb⟩;rw[pad_drop,pad_drop]at hob)|(go_at_call 183;refine(same_any _ va vb _ _ (by first|exact hoa.sl.mono (fun _ _=>trivial)|exact(hoa.sl.mono (fun _ _=>trivial)).keep (Keep.of_below hbb)) (by first|exact hob.sl.mono (fun _ _=>trivial)|exact(hob.sl.mono (fun _ _=>trivial)).keep (Keep.of_below hba))).mono ?_;rintro e w7 ⟨rfl,n7,rfl⟩;rw[hdec.out]))
        all_goals
         have hs5:w.heap.size+2≤w5.heap.size:=hsz;have HB7:=hid (HB5.out.trans ((zqB.drew).trans (zq61 (by first|exact(hba.mono hs5).trans (hbb.mono (zq11 hs5 hba.size))|exact(hbb.mono hs5).trans (hba.mono (zq11 hs5 hbb.size))) n7)));clear hoa hba hob hbb;obtain⟨_,hf7,_,hbw7,hsz7⟩:=box2 HB7.out;have f0:=zq15 _ (w.heap.size+1) 0 _ _ (0,0) hf7;have f1:=zq15 _ (w.heap.size+1) 1 _ _ (0,0) hf7;have f2:=zq15 _ (w.heap.size+1) 2 _ _ (0,0) hf7;have f3:=zq15 _ (w.heap.size+1) 3 _ _ (0,0) hf7;have z0:=zq25 _ (w.heap.size+1) 0 _ _ hf7;have z1:=zq25 _ (w.heap.size+1) 1 _ _ hf7;have z2:=zq25 _ (w.heap.size+1) 2 _ _ hf7;have z3:=zq25 _ (w.heap.size+1) 3 _ _ hf7;have HBW7:=hid hbw7;clear hf7 hbw7 hsz7;simp at f0 f1 f2 f3;go_wp2_with fail;exact zq12 (v:=.agg #[.int .i64 2,.int .i64 (i),.int .i64 ((i:Int)+1+(m:Int)),.int .i64 ((i:Int)+1+(q:Int))]) (by simp[results,Tryz.results193,go_sem,f0,f1,f2,f3]) rfl
          ⟨2,_,_,_,rfl,⟨fun h=>absurd h (by decide),fun h=>absurd h HNO.out⟩,(((HBW7.out.setCell (by simp) _).setCell (by simp) _).setCell (by simp) _).setCell (by simp) _⟩
      ·skip
       obtain rfl:q=T.length-(i+1):=by omega
       clear hqt hq hq1;go_wp2_with fail;go_roundw;case rel=>exact⟨m+1,by omega,by go_num,hid (fun t ht=>by
        rcases zq30.1 ht with h|h
        ·exact hR.out t h
        ·subst h;exact hQ.out),HB.out⟩
       case measure=>simp[intOf];omega
    ·skip
     obtain rfl:m=T.length-(i+1):=by omega
     have H2:=hid (show∀j<(T.drop (i+1)).length,∀k,j<k→k<(T.drop (i+1)).length→C2 L (T.drop (i+1)) j k from fun j hj k h1 h2=>hR.out j (by simpa using hj) k h1 (by simpa using h2));clear hR hlt hm;obtain⟨⟨e0,e1,e2⟩,hf,hk,hbw,hsz⟩:=box2 HB.out;have HKW:=hid hk;have HF:=hid hf;have HBW:=hid hbw;have hszw:w.heap.size<wr.heap.size:=by omega
     have HPr:=hid (HP.out.keep hk);clear hf hbw;have hcW:wr.cell? ⟨bP,oP+i,none⟩=some (uW):=by rw[hk.cell trivial hbP];exact HCPI.out
     have hbP2:bP<wr.heap.size:=by omega
     have HUW2:=hid (HUW.out.keep hk);clear hk;go_wp2_with fail;refine(HIMG.out _ _ _ _ _ (pad (i+1) L.w) HPr.out HUW2.out (by rw[pad_length,El_length HK.out.2.2.2.1];simp;omega) (by rw[pad_drop];exact HK.out.2.2.2.1)).mono ?_;rintro e w5 ⟨v5,rfl,ho5,hb5⟩;rw[pad_drop]at ho5;have HO5:=hid ho5;have HUW5:=hid (HUW2.out.keep (Keep.of_below hb5));have HB5:=hid (HB.out.trans (hb5.mono hsz));clear ho5 hb5 e0 e1 e2 hszw hsz hcW hbP2;by_cases hc:C3 L (T.drop (i+1))
     ·skip
      have hdec:=hid (show decide (ints (pad (i+1) (img (T.drop (i+1)) L.c L.w))=ints (pad (i+1) L.w))=true by
       rw[dec_pads];exact zq83 hc)
      have H3:=hid hc;clear hc;go_wp2_with fail;refine(same_any _ _ _ _ _ (HO5.out.sl.mono (fun _ _=>trivial)) HUW5.out).mono ?_;rintro e w7 ⟨rfl,n7,rfl⟩;rw[hdec.out];have HB7:=hid (zq61 HB5.out n7);go_wp2_with fail;go_loopw [15] (fun j wr=>∃m:Nat,m≤T.length-(i+1)∧j= .int .i64 ((i:Int)+1+(m:Int))∧Hid (∀t,t<m→C4 L (T.drop (i+1)) t)∧Below (w.heap.size+2) ((w.alloc (.cells #[.slice (some ⟨bO,oO,none⟩) T.length cO,.slice (some ⟨bP,oP,none⟩) T.length cP,.slice (some ⟨bC,oC,none⟩) T.length cC] 28)).alloc (.cells #[.int .i64 0,.int .i64 0,.int .i64 0,.int .i64 0] 147)) wr) (fun j _=>T.length-(intOf j).toNat);case atStart=>exact⟨0,zq4 _,by go_num,hid (fun t h=>absurd h (zq33 _)),HB7.out⟩
      case round=>
       clear HB HB5 HB7 HO5 HUW2 HUW5 HPr;obtain⟨m,hm,rfl,hR,hb⟩:=hrel;have HB:=hid hb;clear hb;by_cases hlt:m<T.length-(i+1)
       ·skip
        obtain⟨⟨e0,e1,e2⟩,hf,hk,hbw,hsz⟩:=box2 HB.out;have HKW:=hid hk;have HF:=hid hf;have HBW:=hid hbw;have hszw:w.heap.size<wr.heap.size:=by omega
        have HPr:=hid (HP.out.keep hk);clear hf hbw;have hd:decide ((i:Int)+1+(m:Int)<(T.length:Int))=true:=by simp;omega
        have HU:=hid (show(List.replicate T.length 0).set (i+1+m) 1=pad (i+1) (unit (T.drop (i+1)) m) from(unit_pad T (i+1) m (by omega)).symm);have HUE:=hid (show El (T.drop (i+1)) (unit (T.drop (i+1)) m) from El_unit HK.out.1 m);have HIE:=hid (show∀k,El (T.drop (i+1)) (it (img (T.drop (i+1)) L.c) k (unit (T.drop (i+1)) m)) from fun k=>it_inv (El _) _ (fun z _=>El_img HK.out.1 HK.out.2.2.1 z) k _ HUE.out);clear hk;go_wp2_with fail;refine(unit_any T.length (i+1+m) hs6 (by omega) _).mono ?_;rintro e w5 ⟨ug,rfl,ho5,hb5⟩;rw[HU.out]at ho5;have HG5:=hid (ho5.sl.mono (S':=fun _=>True) (fun _ _=>trivial));have HB5:=hid (HB.out.trans (hb5.mono hsz));clear ho5 hb5 e0 e1 e2 hszw hsz;go_wp2_with fail;go_loopw [17,18] (fun xv kv wr=>∃κ:Nat,κ≤L.o∧kv= .int .i64 (κ:Int)∧SlI (fun _=>True) wr xv (ints (pad (i+1) (it (img (T.drop (i+1)) L.c) κ (unit (T.drop (i+1)) m))))∧SlI (fun _=>True) wr ug (ints (pad (i+1) (unit (T.drop (i+1)) m)))∧Below (w.heap.size+2) ((w.alloc (.cells #[.slice (some ⟨bO,oO,none⟩) T.length cO,.slice (some ⟨bP,oP,none⟩) T.length cP,.slice (some ⟨bC,oC,none⟩) T.length cC] 28)).alloc (.cells #[.int .i64 0,.int .i64 0,.int .i64 0,.int .i64 0] 147)) wr) (fun _ kv _=>L.o-(intOf kv).toNat);case atStart=>exact⟨0,zq4 _,rfl,HG5.out,HG5.out,HB5.out⟩
        case round=>
         clear HB HB5 HG5 HPr;obtain⟨κ,hκ,rfl,hx,hgv,hb⟩:=hrel;have HB:=hid hb;have HX:=hid hx;have HGV:=hid hgv;clear hb hx hgv;obtain⟨⟨e0,e1,e2⟩,hf,hk,hbw,hsz⟩:=box2 HB.out;have HKW:=hid hk;have HF:=hid hf;have HBW:=hid hbw;have hszw:w.heap.size<wr.heap.size:=by omega
         have HPr:=hid (HP.out.keep hk);clear hf hbw;have hcO:wr.cell? ⟨bO,oO+i,none⟩=some (.int .i64 (L.o:Int)):=by rw[hk.cell trivial hbO];exact HCOI.out
         have hbO2:bO<wr.heap.size:=by omega
         have HUW2:=hid (HUW.out.keep hk);clear hk;by_cases hκt:κ<L.o
         ·skip
          go_wp2_with fail;refine(HIMG.out _ _ _ _ _ (pad (i+1) (it (img (T.drop (i+1)) L.c) κ (unit (T.drop (i+1)) m))) HPr.out HX.out (by rw[pad_length,El_length (HIE.out κ)];simp;omega) (by rw[pad_drop];exact HIE.out κ)).mono ?_;rintro e w6 ⟨v6,rfl,ho6,hb6⟩;rw[pad_drop,←it_succ' (img (T.drop (i+1)) L.c)]at ho6;have HX6:=hid (ho6.sl.mono (S':=fun _=>True) (fun _ _=>trivial));have HG6:=hid (HGV.out.keep (Keep.of_below hb6));have HB6:=hid (HB.out.trans (hb6.mono hsz));clear ho6 hb6 e0 e1 e2 hszw hsz hcO hbO2;go_wp2_with fail;go_roundw;case rel=>exact⟨κ+1,by omega,by go_num,HX6.out,HG6.out,HB6.out⟩
          case measure=>simp[intOf];omega
         ·skip
          obtain rfl:κ=L.o:=by omega
          clear hκt hκ;have w3:IntKind.i64.wrap ((i:Int)+1)=(i:Int)+1:=zq6 _ (by omega);have w6:(i:Int)<(T.length:Int):=by omega
          have w7:(0:Int)≤(i:Int):=by omega
          by_cases hc:C4 L (T.drop (i+1)) m
          ·skip
           have hdec:=hid (show decide (ints (pad (i+1) (mul (T.drop (i+1)) L.w (it (img (T.drop (i+1)) L.c) L.o (unit (T.drop (i+1)) m))))=ints (pad (i+1) (mul (T.drop (i+1)) (unit (T.drop (i+1)) m) L.w)))=true by
            rw[dec_pads];exact zq83 hc)
           have HCM:=hid hc;clear hc;obtain⟨ux,hux⟩:∃ux,ux=u17:=⟨_,rfl⟩;rw[←hux]at HX ⊢;clear hux;go_wp2_with fail;go_region_held3 (fun w'=>(∀b o,b<wr.heap.size→w'.cell? ⟨b,o,none⟩=wr.cell? ⟨b,o,none⟩)∧Keep (fun _=>True) wr w')
            (first|exact ks_mk (zqK.drew)|exact ks_mk (Keep.trans (zqK.drew) (Keep.of_below (by assumption)))|exact ks_mk (Keep.drewN (Keep.trans (zqK.drew) (Keep.of_below (by assumption))) _)|exact ks_mk (Keep.trans (Keep.trans (zqK.drew) (Keep.of_below (by assumption))) (Keep.of_below (by assumption)))|exact ks_mk (Keep.drewN (Keep.trans (Keep.trans (zqK.drew) (Keep.of_below (by assumption))) (Keep.of_below (by assumption))) _))
            (first|(go_at_call_of 143 ux;refine(HAT.out _ _ _ _ uW ux (pad (i+1) L.w) (pad (i+1) (it (img (T.drop (i+1)) L.c) L.o (unit (T.drop (i+1)) m))) (HPr.out.keep (by first|exact(zqK.drew)|exact Keep.trans (zqK.drew) (Keep.of_below (by assumption)))) (HUW2.out.keep (by first|exact(zqK.drew)|exact Keep.trans (zqK.drew) (Keep.of_below (by assumption)))) (HX.out.keep (by first|exact(zqK.drew)|exact Keep.trans (zqK.drew) (Keep.of_below (by assumption)))) (by rw[pad_length,El_length HK.out.2.2.2.1];simp;omega) (by rw[pad_length,El_length (HIE.out L.o)];simp;omega) (by rw[pad_drop];exact HK.out.2.2.2.1) (by rw[pad_drop];exact HIE.out L.o)).mono ?_;rintro e wa ⟨va,rfl,hoa,hba⟩;rw[pad_drop,pad_drop]at hoa)|(go_at_call_of 143 ug;refine(HAT.out _ _ _ _ ug uW (pad (i+1) (unit (T.drop (i+1)) m)) (pad (i+1) L.w) (HPr.out.keep (by first|exact(zqK.drew)|exact Keep.trans (zqK.drew) (Keep.of_below (by assumption)))) (HGV.out.keep (by first|exact(zqK.drew)|exact Keep.trans (zqK.drew) (Keep.of_below (by assumption)))) (HUW2.out.keep (by first|exact(zqK.drew)|exact Keep.trans (zqK.drew) (Keep.of_below (by assumption)))) (by rw[pad_length,El_length HUE.out];simp;omega) (by rw[pad_length,El_length HK.out.2.2.2.1];simp;omega) (by rw[pad_drop];exact HUE.out) (by rw[pad_drop];exact HK.out.2.2.2.1)).mono ?_;rintro e wb ⟨vb,rfl,hob,hbb⟩;rw[pad_drop,pad_drop]at hob)|(go_at_call 183;refine(same_any _ va vb _ _ (by first|exact hoa.sl.mono (fun _ _=>trivial)|exact(hoa.sl.mono (fun _ _=>trivial)).keep (Keep.of_below hbb)) (by first|exact hob.sl.mono (fun _ _=>trivial)|exact(hob.sl.mono (fun _ _=>trivial)).keep (Keep.of_below hba))).mono ?_;rintro e w7 ⟨rfl,n7,rfl⟩;rw[hdec.out]))
           all_goals
            have hs5:w.heap.size+2≤wr.heap.size:=hsz;have HB7:=hid (HB.out.trans ((zqB.drew).trans (zq61 (by first|exact(hba.mono hs5).trans (hbb.mono (zq11 hs5 hba.size))|exact(hbb.mono hs5).trans (hba.mono (zq11 hs5 hbb.size))) n7)));clear hoa hba hob hbb;go_wp2_with fail;go_roundw;case rel=>exact⟨m+1,by omega,by go_num,hid (fun t ht=>by
             rcases zq30.1 ht with h|h
             ·exact hR.out t h
             ·subst h;exact HCM.out),HB7.out⟩
            case measure=>simp[intOf];omega
          ·skip
           have hdec:=hid (show decide (ints (pad (i+1) (mul (T.drop (i+1)) L.w (it (img (T.drop (i+1)) L.c) L.o (unit (T.drop (i+1)) m))))=ints (pad (i+1) (mul (T.drop (i+1)) (unit (T.drop (i+1)) m) L.w)))=false by
            rw[dec_pads];exact zq67 hc)
           have HNO:=hid (show¬LvOk L (T.drop (i+1)) from fun h=>hc ((HIF.out.1 h).2.2.2 m (by simp;omega)));clear hc;obtain⟨ux,hux⟩:∃ux,ux=u17:=⟨_,rfl⟩;rw[←hux]at HX ⊢;clear hux;go_wp2_with fail;go_region_held3 (fun w'=>(∀b o,b<wr.heap.size→w'.cell? ⟨b,o,none⟩=wr.cell? ⟨b,o,none⟩)∧Keep (fun _=>True) wr w')
            (first|exact ks_mk (zqK.drew)|exact ks_mk (Keep.trans (zqK.drew) (Keep.of_below (by assumption)))|exact ks_mk (Keep.drewN (Keep.trans (zqK.drew) (Keep.of_below (by assumption))) _)|exact ks_mk (Keep.trans (Keep.trans (zqK.drew) (Keep.of_below (by assumption))) (Keep.of_below (by assumption)))|exact ks_mk (Keep.drewN (Keep.trans (Keep.trans (zqK.drew) (Keep.of_below (by assumption))) (Keep.of_below (by assumption))) _))
            (first|(go_at_call_of 143 ux;refine(HAT.out _ _ _ _ uW ux (pad (i+1) L.w) (pad (i+1) (it (img (T.drop (i+1)) L.c) L.o (unit (T.drop (i+1)) m))) (HPr.out.keep (by first|exact(zqK.drew)|exact Keep.trans (zqK.drew) (Keep.of_below (by assumption)))) (HUW2.out.keep (by first|exact(zqK.drew)|exact Keep.trans (zqK.drew) (Keep.of_below (by assumption)))) (HX.out.keep (by first|exact(zqK.drew)|exact Keep.trans (zqK.drew) (Keep.of_below (by assumption)))) (by rw[pad_length,El_length HK.out.2.2.2.1];simp;omega) (by rw[pad_length,El_length (HIE.out L.o)];simp;omega) (by rw[pad_drop];exact HK.out.2.2.2.1) (by rw[pad_drop];exact HIE.out L.o)).mono ?_;rintro e wa ⟨va,rfl,hoa,hba⟩;rw[pad_drop,pad_drop]at hoa)|(go_at_call_of 143 ug;refine(HAT.out _ _ _ _ ug uW (pad (i+1) (unit (T.drop (i+1)) m)) (pad (i+1) L.w) (HPr.out.keep (by first|exact(zqK.drew)|exact Keep.trans (zqK.drew) (Keep.of_below (by assumption)))) (HGV.out.keep (by first|exact(zqK.drew)|exact Keep.trans (zqK.drew) (Keep.of_below (by assumption)))) (HUW2.out.keep (by first|exact(zqK.drew)|exact Keep.trans (zqK.drew) (Keep.of_below (by assumption)))) (by rw[pad_length,El_length HUE.out];simp;omega) (by rw[pad_length,El_length HK.out.2.2.2.1];simp;omega) (by rw[pad_drop];exact HUE.out) (by rw[pad_drop];exact HK.out.2.2.2.1)).mono ?_;rintro e wb ⟨vb,rfl,hob,hbb⟩;rw[pad_drop,pad_drop]at hob)|(go_at_call 183;refine(same_any _ va vb _ _ (by first|exact hoa.sl.mono (fun _ _=>trivial)|exact(hoa.sl.mono (fun _ _=>trivial)).keep (Keep.of_below hbb)) (by first|exact hob.sl.mono (fun _ _=>trivial)|exact(hob.sl.mono (fun _ _=>trivial)).keep (Keep.of_below hba))).mono ?_;rintro e w7 ⟨rfl,n7,rfl⟩;rw[hdec.out]))
           all_goals
            have hs5:w.heap.size+2≤wr.heap.size:=hsz;have HB7:=hid (HB.out.trans ((zqB.drew).trans (zq61 (by first|exact(hba.mono hs5).trans (hbb.mono (zq11 hs5 hba.size))|exact(hbb.mono hs5).trans (hba.mono (zq11 hs5 hbb.size))) n7)));clear hoa hba hob hbb;obtain⟨_,hf7,_,hbw7,hsz7⟩:=box2 HB7.out;have f0:=zq15 _ (w.heap.size+1) 0 _ _ (0,0) hf7;have f1:=zq15 _ (w.heap.size+1) 1 _ _ (0,0) hf7;have f2:=zq15 _ (w.heap.size+1) 2 _ _ (0,0) hf7;have f3:=zq15 _ (w.heap.size+1) 3 _ _ (0,0) hf7;have z0:=zq25 _ (w.heap.size+1) 0 _ _ hf7;have z1:=zq25 _ (w.heap.size+1) 1 _ _ hf7;have z2:=zq25 _ (w.heap.size+1) 2 _ _ hf7;have z3:=zq25 _ (w.heap.size+1) 3 _ _ hf7;have HBW7:=hid hbw7;clear hf7 hbw7 hsz7;simp at f0 f1 f2 f3;go_wp2_with fail;exact zq12 (v:=.agg #[.int .i64 4,.int .i64 (i),.int .i64 ((i:Int)+1+(m:Int)),.int .i64 (0)]) (by simp[results,Tryz.results193,go_sem,f0,f1,f2,f3]) rfl
             ⟨4,_,_,_,rfl,⟨fun h=>absurd h (by decide),fun h=>absurd h HNO.out⟩,(((HBW7.out.setCell (by simp) _).setCell (by simp) _).setCell (by simp) _).setCell (by simp) _⟩
       ·skip
        obtain rfl:m=T.length-(i+1):=by omega
        have HYES:=hid (show LvOk L (T.drop (i+1)) from HIF.out.2 ⟨H1.out,H2.out,H3.out,fun j hj=>hR.out j (by simpa using hj)⟩);obtain⟨_,hf7,_,hbw7,hsz7⟩:=box2 HB.out;have f0:=zq15 _ (w.heap.size+1) 0 _ _ (0,0) hf7;have f1:=zq15 _ (w.heap.size+1) 1 _ _ (0,0) hf7;have f2:=zq15 _ (w.heap.size+1) 2 _ _ (0,0) hf7;have f3:=zq15 _ (w.heap.size+1) 3 _ _ (0,0) hf7;have z0:=zq25 _ (w.heap.size+1) 0 _ _ hf7;have z1:=zq25 _ (w.heap.size+1) 1 _ _ hf7;have z2:=zq25 _ (w.heap.size+1) 2 _ _ hf7;have z3:=zq25 _ (w.heap.size+1) 3 _ _ hf7;have HBW7:=hid hbw7;clear hf7 hbw7 hsz7;simp at f0 f1 f2 f3;go_wp2_with fail;exact zq12 (v:=.agg #[.int .i64 0,.int .i64 (0),.int .i64 (0),.int .i64 (0)]) (by simp[results,Tryz.results193,go_sem,f0,f1,f2,f3]) rfl
         ⟨0,_,_,_,rfl,⟨fun _=>HYES.out,fun _=>rfl⟩,(((HBW7.out.setCell (by simp) _).setCell (by simp) _).setCell (by simp) _).setCell (by simp) _⟩
     ·skip
      have hdec:=hid (show decide (ints (pad (i+1) (img (T.drop (i+1)) L.c L.w))=ints (pad (i+1) L.w))=false by
       rw[dec_pads];exact zq67 hc)
      have HNO:=hid (show¬LvOk L (T.drop (i+1)) from fun h=>hc (HIF.out.1 h).2.2.1);clear hc;go_wp2_with fail;refine(same_any _ _ _ _ _ (HO5.out.sl.mono (fun _ _=>trivial)) HUW5.out).mono ?_;rintro e w7 ⟨rfl,n7,rfl⟩;rw[hdec.out];have HB7:=hid (zq61 HB5.out n7);obtain⟨_,hf7,_,hbw7,hsz7⟩:=box2 HB7.out;have f0:=zq15 _ (w.heap.size+1) 0 _ _ (0,0) hf7;have f1:=zq15 _ (w.heap.size+1) 1 _ _ (0,0) hf7;have f2:=zq15 _ (w.heap.size+1) 2 _ _ (0,0) hf7;have f3:=zq15 _ (w.heap.size+1) 3 _ _ (0,0) hf7;have z0:=zq25 _ (w.heap.size+1) 0 _ _ hf7;have z1:=zq25 _ (w.heap.size+1) 1 _ _ hf7;have z2:=zq25 _ (w.heap.size+1) 2 _ _ hf7;have z3:=zq25 _ (w.heap.size+1) 3 _ _ hf7;have HBW7:=hid hbw7;clear hf7 hbw7 hsz7;simp at f0 f1 f2 f3;go_wp2_with fail;exact zq12 (v:=.agg #[.int .i64 3,.int .i64 (i),.int .i64 (0),.int .i64 (0)]) (by simp[results,Tryz.results193,go_sem,f0,f1,f2,f3]) rfl
       ⟨3,_,_,_,rfl,⟨fun h=>absurd h (by decide),fun h=>absurd h HNO.out⟩,(((HBW7.out.setCell (by simp) _).setCell (by simp) _).setCell (by simp) _).setCell (by simp) _⟩
end Go.Proofs.YtlmlamcoeegkbaaGreat.SpecF

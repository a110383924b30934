import Derived.Test.YtlmlamcoeegkbaaGreatZ0
import Derived.Test.YtlmlamcoeegkbaaGreatZd
import Derived.Test.YtlmlamcoeegkbaaGreatZf
import Derived.Test.YtlmlamcoeegkbaaGreatZa
import Derived.Test.YtlmlamcoeegkbaaGreatZb
import Derived.Laws.BitsLemmas
import Derived.Laws.Bits64
/-
  Lemmas for the law FnOrbits, in short spelling.
-/
open Go.Lib (hid)
set_option linter.unusedVariables false
set_option linter.unusedSimpArgs false
set_option maxRecDepth 100000
set_option maxHeartbeats 40000000
namespace Go.Proofs.YtlmlamcoeegkbaaGreat.ImplI
open Go.RowKit Go.Proofs.YtlmlamcoeegkbaaGreat Tow TowD Val ImplV ImplW ImplH Grps
def FromR (T:Tw)(w:World)(e:Ending)(w':World):Prop:=∃r:Nat,e= .returned (.int .i64 (r:Int))∧(r=0↔Tow.Good T)∧Below w.heap.size w w'
theorem from_any (T:Tw)(hT:Wf T)(hs:Small T)(w:World)(b o:Nat)(hP:PtrP Any w b o (ofTw T)):
  Calls Tryz.prog 59 #[.pointer (some ⟨b,o,none⟩)] w (FromR T w):=by
 have hs6:=hs.1;have HP:=hid hP;obtain⟨_,hbl,vO,vP,vC,hp0,hp1,hp2,hV⟩:=hP;obtain⟨aO,cO,aP,cP,aC,cC,rfl,rfl,rfl,hO1,hP1,hC1⟩:=hV.open;have HF:=hid (fun i L hL hg W hP=>fault_any T hT hs i L hL hg W b o hP);clear hV hp1 hp2;go_enter Tryz.func59,Tryz.ntmps59;go_wp2_with fail;clear hp0;go_loopw [3] (fun i wr=>∃k:Nat,k≤T.length∧i= .int .i64 (k:Int)∧Hid (Tow.Good (T.drop k))∧Below w.heap.size w wr) (fun i _=>(intOf i).toNat);case atStart=>exact⟨T.length,zq1 _,rfl,hid (by rw[zq104];trivial),zq3 _ _⟩
 case round=>
  obtain⟨k,hk,rfl,hg,hb⟩:=hrel;have HB:=hid hb;clear hb;by_cases h0:k=0
  ·subst h0;go_wp2_with fail;go_ret;exact⟨0,rfl,⟨fun _=>hg.out,fun _=>rfl⟩,HB.out⟩
  ·obtain⟨i,rfl⟩:∃i,k=i+1:=⟨k-1,by omega⟩;have hd:decide (((i+1:Nat):Int)>0)=true:=by first|(simp;omega)|simp
   obtain⟨L,hL⟩:∃L,T[i]?=some L:=⟨_,zq0 (by omega)⟩;have HL:=hid hL;have HIF:=hid (show Tow.Good (T.drop i)↔LvOk L (T.drop (i+1)) from by
    rw[drop_cons' hL,Good_cons];exact⟨fun h=>h.2,fun h=>⟨hg.out,h⟩⟩)
   clear hL h0;by_cases hok:LvOk L (T.drop (i+1))
   ·have HOK:=hid hok;clear hok;go_wp2_with (go_at_call 108;refine(HF.out i L HL.out hg.out _ (HP.out.keep (Keep.of_below HB.out))).mono ?_;rintro e w1 ⟨k,l,a,b,rfl,hif,hbel⟩;obtain⟨rfl,rfl,rfl,rfl⟩:=hif.2 HOK.out;replace hbel:=hid hbel);go_roundw;case rel=>exact⟨i,by omega,rfl,hid (HIF.out.2 HOK.out),HB.out.trans (hbel.out.mono HB.out.size)⟩
    case measure=>simp[intOf]<;>omega
   ·have HOK:=hid hok;clear hok;go_wp2_with (go_at_call 108;refine(HF.out i L HL.out hg.out _ (HP.out.keep (Keep.of_below HB.out))).mono ?_;rintro e w1 ⟨k,l,a,b,rfl,hif,hbel⟩;replace hif:=hid (fun h=>HOK.out (hif.1 h));replace hbel:=hid hbel);all_goals first
     |(go_ret;exact⟨i+1,rfl,⟨fun h=>absurd h (by omega),fun h=>absurd (HIF.out.1 (Good_drop h i)) HOK.out⟩,HB.out.trans (hbel.out.mono HB.out.size)⟩)
     |exact(hif.out ⟨by assumption,by assumption,by assumption,by assumption⟩).elim
     |trace_state
theorem ptr_of_box {w W:World}{vO vP vC:Value}{t:TypeId}{P:Pres}(h:ValP Any w vO vP vC P)(hb:Below (w.heap.size+1) (w.alloc (.cells #[vO,vP,vC] t)) W):PtrP Any W w.heap.size 0 P:=by
 have hs:=hb.size;simp at hs;obtain⟨e0,e1,e2⟩:=box_cells hb;exact⟨trivial,by omega,vO,vP,vC,e0,e1,e2,h.keep (Keep.of_below (below_unboxed hb))⟩
theorem group_any (w:World)(vO vP vC:Value)(P:Pres)(hP:ValP Any w vO vP vC P):
  Calls Tryz.prog 28 #[.agg #[vO,vP,vC]] w (ExB (Grp P) w):=by
 have HP:=hid hP;have HV:=hid (fun W h=>ImplW.isPres_any W vO vP vC P h);have HC:=hid (fun T (hT:Wf T) (hs:Small T) W b o h=>from_any T hT hs W b o h);clear hP;have HB:Hid (Below w.heap.size w (w.alloc (.cells #[vO,vP,vC] 28))):=hid (zqB.alloc (by simp) _);by_cases hv:Valid P
 ·obtain⟨T,hT,hs,rfl⟩:=hv.tower;have HVA:=hid hv;have HT:=hid hT;have HS:=hid hs;clear hv hT hs;have HNG:Hid (¬Tow.Good T→¬Grp (ofTw T)):=hid (fun hg h=>hg h.good);go_enter Tryz.func28,Tryz.ntmps28;go_wp2_with fail;refine(HV.out _ (HP.out.keep (Keep.of_below HB.out))).mono ?_;rintro e w1 ⟨r,rfl,hr,hb1⟩;obtain rfl:=hr.2 HVA.out;have HB1':=hid (zqB.trans (hb1.mono (show w.heap.size+1≤_ by simp)));have HB1:=hid (below_unboxed HB1'.out);have hsz:=HB1'.out.size;simp at hsz;clear hb1 hr;go_wp2_with (go_at_call 59;refine(HC.out T HT.out HS.out _ _ _ (ptr_of_box HP.out HB1'.out)).mono ?_;rintro e w2 ⟨r,rfl,hr,hb2⟩;replace hb2:=hid hb2;by_cases hr0:r=0)
  ·subst hr0;have HG:=hid (hr.1 rfl);clear hr;go_wp2_with fail;go_ret;exact ExB_true ⟨T,HT.out,HS.out,rfl,HVA.out,HG.out⟩ (HB1.out.trans (hb2.out.mono HB1.out.size))
  ·have HG:=hid (show¬Tow.Good T from fun h=>hr0 (hr.2 h));have hd:((r:Int)==0)=false:=by simpa using hr0
   clear hr hr0;go_wp2_with fail;go_ret;refine(show∀{v},v=Value.bool false→ExB (Grp (ofTw T)) w (.returned v) w2 from fun hv=>hv▸ExB_false (HNG.out HG.out) (HB1.out.trans (hb2.out.mono HB1.out.size))) (zq38 Value.bool hd)
 ·have HN:=hid hv;have HNG:Hid (¬Grp P):=hid (by rintro⟨T',_,_,_,h,_⟩;exact HN.out h);clear hv;go_enter Tryz.func28,Tryz.ntmps28;go_wp2_with fail;refine(HV.out _ (HP.out.keep (Keep.of_below HB.out))).mono ?_;rintro e w1 ⟨r,rfl,hr,hb1⟩;obtain rfl:=(Bool.eq_false_iff.2 (fun h=>HN.out (hr.1 h)));have HB1:=hid (HB.out.trans (hb1.mono (by simp)));clear hb1 hr;go_wp2_with fail;go_ret;exact ExB_false HNG.out HB1.out
end Go.Proofs.YtlmlamcoeegkbaaGreat.ImplI
namespace Go.Proofs.YtlmlamcoeegkbaaGreat.ImplN
open Go.RowKit Go.Proofs.YtlmlamcoeegkbaaGreat Tow NumT ImplE
abbrev Any:Nat→Prop:=fun _=>True
theorem o_le {T:Tw}(hT:Wf T)(hz:sz T≤729){i:Nat}{L:Lv}(hL:T[i]?=some L):1≤L.o∧L.o≤729:=by
 have h2:=sz_drop_dvd T hT i;have h1:=(lvl' hT hL).2.2.2.2;have h4:=sz_pos (lvl' hT hL).1;rw[sz_step hL]at h2;have h3:L.o*1≤L.o*sz (T.drop (i+1)):=zq125 _ h4;omega
theorem pad_set (i a:Nat)(y:List Nat):(pad (i+1) y).set i a=pad i (a::y):=by
 unfold pad;rw[List.set_append_left _ _ (by simp),zq101];simp[List.set_append]
theorem wrap_i64 {x:Int}(h1:0≤x)(h2:x≤1000000):wrap64 x=x:=by unfold wrap64;omega
def IntR (n:Nat)(w:World)(e:Ending)(w':World):Prop:=e= .returned (.int .i64 (n:Int))∧Below w.heap.size w w'
theorem order_any (T:Tw)(hT:Wf T)(hs:T.length≤6)(hz:sz T≤729)(w:World)(b o:Nat)(hP:PtrP Any w b o (ofTw T)):
  Calls Tryz.prog 35 #[.pointer (some ⟨b,o,none⟩)] w (IntR (sz T) w):=by
 obtain⟨_,hbl,vO,vP,vC,hp0,hp1,hp2,hV⟩:=hP;obtain⟨aO,cO,aP,cP,aC,cC,rfl,rfl,rfl,hO1,hP1,hC1⟩:=hV.open;have HV:=hid hV;have HT:=hid hT;have HZ:=hid hz;clear hV hp1 hp2 hz hT;go_enter Tryz.func35,Tryz.ntmps35;go_wp2_with fail;clear hp0;go_loopw [3,11] (fun q i wr=>∃k:Nat,k≤T.length∧i= .int .i64 (k:Int)∧∃z:Int,q= .int .i64 z∧0≤z∧z≤729∧Hid (z*(sz (T.drop k):Int)=(sz T:Int))∧Below w.heap.size w wr) (fun _ i _=>T.length-(intOf i).toNat);case atStart=>exact⟨0,zq4 _,rfl,1,rfl,by omega,by omega,hid (by simp),zq3 _ _⟩
 case round=>
  obtain⟨k,hk,rfl,z,rfl,hz1,hz2,hR,hb⟩:=hrel;have HB:=hid hb;clear hb;by_cases hlt:k<T.length
  ·obtain⟨L,hL⟩:∃L,T[k]?=some L:=⟨_,zq0 hlt⟩;obtain⟨bO,oO,rfl,_,hbO,hcO⟩:=(HV.out.keep (Keep.of_below HB.out)).ord hL;have hd:decide ((k:Int)<(T.length:Int))=true:=by simp;omega
   have hE:z*(L.o:Int)*(sz (T.drop (k+1)):Int)=(sz T:Int):=by
    rw[←hR.out,sz_step hL];push_cast;rw[Int.mul_assoc]
   have b1:0≤z*(L.o:Int):=Int.mul_nonneg hz1 (by omega);have b2:z*(L.o:Int)≤729:=by
    have h1:=sz_pos (lvl' HT.out hL).1;have h2:z*(L.o:Int)*1≤z*(L.o:Int)*(sz (T.drop (k+1)):Int):=Int.mul_le_mul_of_nonneg_left (by omega) b1;have h3:=HZ.out;omega
   have HE:=hid hE;clear hE hL;go_wp2_with fail;go_roundw;case rel=>exact⟨k+1,by omega,by go_num,_,rfl,b1,b2,HE,HB.out⟩
   case measure=>simp[intOf];omega
  ·obtain rfl:k=T.length:=by omega
   have hd:decide ((T.length:Int)<(T.length:Int))=false:=by simp
   have hzz:z=(sz T:Int):=by have:=hR.out;rw[sz_end]at this;simpa using this
   subst hzz;go_wp2_with fail;go_ret;exact⟨rfl,HB.out⟩
theorem number_any (T:Tw)(hT:Wf T)(hs:T.length≤6)(hz:sz T≤729)(w:World)(b o:Nat)(vx:Value)(x:List Nat)(hP:PtrP Any w b o (ofTw T))(hx:SlI Any w vx (ints x))(hE:El T x):
  Calls Tryz.prog 49 #[.pointer (some ⟨b,o,none⟩),vx] w (IntR (num T x) w):=by
 obtain⟨_,hbl,vO,vP,vC,hp0,hp1,hp2,hV⟩:=hP;obtain⟨aO,cO,aP,cP,aC,cC,rfl,rfl,rfl,hO1,hP1,hC1⟩:=hV.open;obtain⟨aX,cX,rfl,hcx⟩:=hx.open;have hxl:=El_length hE;rw[hxl]at hcx hx ⊢;have HC:Hid (∀W,Below w.heap.size w W→W.cell? ⟨b,o,none⟩=some (.slice aO T.length cO)):=hid (fun W h=>((h.cell (p:=⟨b,o,none⟩) hbl).trans hp0));have HV:=hid hV;have HX:=hid hx;have HT:=hid hT;have HZ:=hid hz;have HE:=hid hE;clear hV hp1 hp2 hz hT hE hx hp0;go_enter Tryz.func49,Tryz.ntmps49;go_wp2_with fail;go_loopw [5,10] (fun q i wr=>∃k:Nat,k≤T.length∧i= .int .i64 (k:Int)∧∃z:Int,q= .int .i64 z∧0≤z∧Hid (z*(sz (T.drop k):Int)+(num (T.drop k) (x.drop k):Int)=(num T x:Int))∧Below w.heap.size w wr) (fun _ i _=>T.length-(intOf i).toNat);case atStart=>exact⟨0,zq4 _,rfl,0,rfl,by omega,hid (by simp),zq3 _ _⟩
 case round=>
  obtain⟨k,hk,rfl,z,rfl,hz1,hR,hb⟩:=hrel;have HB:=hid hb;have hp0:=HC.out _ hb;clear hb;by_cases hlt:k<T.length
  ·obtain⟨L,hL⟩:∃L,T[k]?=some L:=⟨_,zq0 hlt⟩;obtain⟨a,ha⟩:∃a,x[k]?=some a:=⟨_,zq0 (by omega)⟩;obtain⟨bO,oO,rfl,_,hbO,hcO⟩:=(HV.out.keep (Keep.of_below HB.out)).ord hL;obtain⟨bX,oX,rfl,_,hbX,hcX⟩:=(HX.out.keep (Keep.of_below HB.out)).at ha;have hd:decide ((k:Int)<(T.length:Int))=true:=by simp;omega
   have hE:(z*(L.o:Int)+(a:Int))*(sz (T.drop (k+1)):Int)+(num (T.drop (k+1)) (x.drop (k+1)):Int)=(num T x:Int):=by
    rw[←hR.out,sz_step hL,num_step hL ha];push_cast;rw[Int.add_mul,Int.mul_assoc];omega
   have b1:0≤z*(L.o:Int):=Int.mul_nonneg hz1 (by omega);have b2:z*(L.o:Int)+(a:Int)≤729:=by
    have h1:=sz_pos (lvl' HT.out hL).1;have h2:(z*(L.o:Int)+(a:Int))*1≤(z*(L.o:Int)+(a:Int))*(sz (T.drop (k+1)):Int):=Int.mul_le_mul_of_nonneg_left (by omega) (by omega);have h3:=HZ.out;have h4:=num_lt HE.out HT.out;omega
   have HE2:=hid hE;clear hE hL ha;go_wp2_with fail;go_roundw;case rel=>exact⟨k+1,by omega,by go_num,_,rfl,by omega,HE2,HB.out⟩
   case measure=>simp[intOf];omega
  ·obtain rfl:k=T.length:=by omega
   have hd:decide ((T.length:Int)<(T.length:Int))=false:=by simp
   have hzz:z=(num T x:Int):=by have:=hR.out;rw[sz_end,num_end]at this;simpa using this
   subst hzz;go_wp2_with fail;go_ret;exact⟨rfl,HB.out⟩
theorem at_any (T:Tw)(hT:Wf T)(hs:T.length≤6)(hz:sz T≤729)(q:Nat)(hq:q≤1000000)(w:World)(b o:Nat)(hP:PtrP Any w b o (ofTw T)):
  Calls Tryz.prog 86 #[.pointer (some ⟨b,o,none⟩),.int .i64 (q:Int)] w (NewS (ints (at_ T q)) w):=by
 obtain⟨_,hbl,vO,vP,vC,hp0,hp1,hp2,hV⟩:=hP;obtain⟨aO,cO,aP,cP,aC,cC,rfl,rfl,rfl,hO1,hP1,hC1⟩:=hV.open;have hmk:=mk22 T.length hs;have HC:Hid (∀W,Below w.heap.size w W→W.cell? ⟨b,o,none⟩=some (.slice aO T.length cO)):=hid (fun W h=>((h.cell (p:=⟨b,o,none⟩) hbl).trans hp0));have HO1:=hid (Own.made (B:=w.heap.size) w T.length zqN (by unfold maxLen;omega));have HB1:=hid ((zq3 w.heap.size w).alloc zqN (.cells (madeCells #[.int .i64 0] T.length) 2));have HV:=hid hV;have HT:=hid hT;have HZ:=hid hz;have HQ:=hid hq;clear hV hp1 hp2 hz hT hq;go_enter Tryz.func86,Tryz.ntmps86;go_wp2_with fail;clear hp0;go_loopw [1,6] (fun qv iv wr=>∃k:Nat,k≤T.length∧iv= .int .i64 ((k:Int)-1)∧∃z:Nat,qv= .int .i64 (z:Int)∧Hid (z=q/sz (T.drop k)∧z≤1000000)∧∃x:List Nat,Own w.heap.size wr (.slice (some ⟨w.heap.size,0,none⟩) T.length T.length) (ints x)∧Hid (x=pad k (at_ (T.drop k) q))∧Below w.heap.size w wr) (fun _ iv _=>(intOf iv+1).toNat);case atStart=>exact⟨T.length,zq1 _,rfl,q,rfl,hid ⟨by rw[sz_end];simp,HQ.out⟩,Tow.one T,by have:=HO1.out;rw[ints_replicate]at this;exact this,hid (by simp[at_,pad,Tow.one]),HB1.out⟩
 case round=>
  obtain⟨k,hk,rfl,z,rfl,hzz,x,hox,hx,hb⟩:=hrel;have HB:=hid hb;have HOX:=hid hox;have hp0:=HC.out _ hb;have hp0s:∀u i,(wr.setCell ⟨w.heap.size,i,none⟩ u).cell? ⟨b,o,none⟩=some (.slice aO T.length cO):=fun u i=>HC.out _ (hb.setCell (p:=⟨w.heap.size,i,none⟩) zqN u);clear hb hox;by_cases h0:k=0
  ·subst h0;have hd:decide (((0:Nat):Int)-1≥0)=false:=by decide
   go_wp2_with fail;go_ret;have hxx:x=at_ T q:=by have:=hx.out;simpa[pad]using this
   subst hxx;have hl:(ints (at_ T q)).length=T.length:=by rw[ints_length,at_length]
   refine⟨w.heap.size,T.length,by rw[hl];rfl,?_,HB.out⟩;rw[hl];exact HOX.out
  ·obtain⟨i,rfl⟩:∃i,k=i+1:=⟨k-1,by omega⟩;obtain⟨L,hL⟩:∃L,T[i]?=some L:=⟨_,zq0 (by omega)⟩;have hii:(((i+1:Nat):Int)-1)=(i:Int):=by omega
   rw[hii];obtain⟨bO,oO,rfl,_,hbO,hcO0⟩:=HV.out.ord hL;have hcO:wr.cell? ⟨bO,oO+i,none⟩=some (.int .i64 (L.o:Int)):=by rw[HB.out.cell hbO];exact hcO0
   have hgw:=HOX.out.lt;have hng:bO≠w.heap.size:=by omega
   have ho12:=o_le HT.out HZ.out hL;have ho1:=ho12.1;have hxl:x.length=T.length:=by rw[hx.out,pad_length,at_length,zq34];omega
   obtain⟨xi,hxi⟩:∃a,x[i]?=some a:=⟨_,zq0 (by omega)⟩;obtain⟨s1,f1⟩:=HOX.out.cell (j:=i) (a:=(xi:Int)) (by rw[ints_get,hxi];rfl);have k1:∀u,(wr.setCell ⟨w.heap.size,i,none⟩ u).cell? ⟨bO,oO+i,none⟩=some (.int .i64 (L.o:Int)):=fun u=>by rw[(HB.out.setCell (p:=⟨w.heap.size,i,none⟩) zqN u).cell hbO];exact hcO0
   have k2:∀u,(wr.setCell ⟨w.heap.size,i,none⟩ u).cell? ⟨b,o,none⟩=some (.slice (some ⟨bO,oO,none⟩) T.length cO):=fun u=>hp0s u i;have hb1:(0:Int)≤(z:Int)%(L.o:Int):=Int.emod_nonneg _ (by omega);have hne:((L.o:Int)==0)=false:=by simp;omega
   have HLL:=hid hL;have HQW:=hid (show wrap64 ((z:Int)/(L.o:Int))=(z:Int)/(L.o:Int) from by
    have h1:(0:Int)≤(z:Int)/(L.o:Int):=Int.ediv_nonneg (by omega) (by omega);have h2:(z:Int)/(L.o:Int)≤(z:Int):=Int.ediv_le_self _ (by omega);have h3:=hzz.out.2;exact wrap_i64 h1 (by omega))
   clear hL h0 hii hcO0 ho12 hp0s;go_wp2_with fail;go_roundw;case rel=>
    refine⟨i,by omega,rfl,z/L.o,by rw[HQW.out];simp,hid ⟨?_,?_⟩,pad i (at_ (T.drop i) q),?_,hid rfl,HB.out.setCell (by simp) _⟩
    ·rw[hzz.out.1,quo_step HLL.out]
    ·exact zq11 (Nat.div_le_self _ _) hzz.out.2
    ·have h:=HOX.out.set_n i (z%L.o);have e:x.set i (z%L.o)=pad i (at_ (T.drop i) q):=by
      rw[hx.out,at_step HLL.out,hzz.out.1,pad_set]
     rw[e]at h;simpa using h.1
   case measure=>simp[intOf]<;>omega
end Go.Proofs.YtlmlamcoeegkbaaGreat.ImplN
namespace Go.Proofs.YtlmlamcoeegkbaaGreat.ImplO
open Go.RowKit Go.Proofs.YtlmlamcoeegkbaaGreat Tow NumT ImplN
def allE (T:Tw)(k:Nat):List (List Nat):=(List.range k).map (at_ T)
theorem allE_succ (T:Tw)(k:Nat):allE T (k+1)=allE T k++[at_ T k]:=by simp[allE,zq124]
theorem allE_length (T:Tw)(k:Nat):(allE T k).length=k:=by simp[allE]
theorem all_any (T:Tw)(hT:Wf T)(hs:T.length≤6)(hz:sz T≤729)(w:World)(b o:Nat)(hP:PtrP Any w b o (ofTw T)):
  Calls Tryz.prog 48 #[.pointer (some ⟨b,o,none⟩)] w (New2 24 2 (allE T (sz T)) w):=by
 obtain⟨i0,hi,hz0,hz1,hz2⟩:=zq41 infoR;have HO:=hid (fun W h=>order_any T hT hs hz W b o h);have HA:=hid (fun q hq W h=>at_any T hT hs hz q hq W b o h);have HP:=hid hP;have HZ:=hid hz;clear hP hT hz;go_enter Tryz.func48,Tryz.ntmps48;go_wp2_with fail;refine(HO.out _ HP.out).mono ?_;rintro e w0 ⟨rfl,hb0⟩;have HB0:=hid hb0;clear hb0;go_wp2_with fail;go_loopw [3,7] (fun ov i wr=>∃k:Nat,k≤sz T∧i= .int .i64 (k:Int)∧Hid (Own2 24 2 w.heap.size wr ov (allE T k))∧Below w.heap.size w wr) (fun _ i _=>sz T-(intOf i).toNat);case atStart=>exact⟨0,zq4 _,rfl,hid (Own2.nil _ _ _ _),HB0.out⟩
 case round=>
  obtain⟨k,hk,rfl,ho2,hb⟩:=hrel;have HB:=hid hb;clear hb;by_cases hlt:k<sz T
  ·have hd:decide ((k:Int)<(sz T:Int))=true:=by simp;omega
   go_wp2_with fail;refine(HA.out k (by have:=HZ.out;omega) _ (HP.out.keep (Keep.of_below HB.out))).mono ?_;rintro e w1 ⟨g,c,rfl,ho,hb1⟩;have HB1:=hid (HB.out.trans (hb1.mono HB.out.size));have HR:=hid (NewS.row (ho.mono (B':=w.heap.size) HB.out.size));obtain⟨us,h1,h2,h4⟩:=ho2.out.of_below hb1;have HU:=hid (And.intro h2 h4);rw[allE_length]at h1;clear ho hb1 h2 h4 ho2;go_wp2_with (at_builtin;(refine zq55 _ rfl _ _ 25 rfl w.heap.size 24 i0 (.slice none 0 0) 1 24 Tryz.underlying25 hi hz0 hz1 hz2 rfl (by decide) _ _ _ rfl (h1.alloc _) ⟨w1.heap.size,0,none⟩ 1 1 [.slice (some ⟨g,0,none⟩) (ints (at_ T k)).length c] rfl rfl ?c1 ?c2 ?c3 ?c4 ?c5 ?_));case c1=>
    intro j u hj
    match j,hj with
    |0,hj=>simp at hj;subst hj;simp[Addr.add]
   case c2=>intro u hu;simp at hu;subst hu;rfl
   case c3=>have:=HZ.out;unfold maxLen;omega
   case c4=>have:=HZ.out;omega
   case c5=>have:=HB1.out.size;simp;omega
   ·intro v' w2 hown hgrow _;have HN:=hid (show Own2 24 2 w.heap.size w2 v' (allE T (k+1)) from by
     rw[allE_succ];exact Own2.push (w:=w1.alloc _) (us:=us) (by decide) (allE_length T k) (h1.alloc _) HU.out.1 (fun i r u hr hu=>(HU.out.2 i r u hr hu).keep (S:=fun _=>True) (zqK.alloc _) (fun _ _=>trivial)) (HR.out.keep (S:=fun _=>True) (zqK.alloc _) (fun _ _=>trivial)) hown hgrow)
    have HB2:=hid (show Below w.heap.size w w2 from(HB1.out.alloc (by have:=HB1.out.size;omega) _).grown hgrow (by simp;have:=HB1.out.size;omega) (fun g hg=>(zq8 h1 g hg).1));have hk729:(k:Int)≤729:=by have:=HZ.out;omega
    clear hown hgrow h1 HU HR;go_wp2_with fail;go_roundw;case rel=>exact⟨k+1,by omega,by go_num,HN,HB2.out⟩
    case measure=>simp[intOf];omega
  ·obtain rfl:k=sz T:=by omega
   have hd:decide ((sz T:Int)<(sz T:Int))=false:=by simp
   go_wp2_with fail;go_ret;exact⟨_,rfl,ho2.out,HB.out⟩
end Go.Proofs.YtlmlamcoeegkbaaGreat.ImplO
namespace Go.Proofs.YtlmlamcoeegkbaaGreat.SfA
structure Gr (α:Type)[Mul α] where
 e:α
 i:α→α
 asc:∀a b c:α,a*b*c=a*(b*c)
 l:∀a:α,e*a=a
 r:∀a:α,a*e=a
 il:∀a:α,i a*a=e
 ir:∀a:α,a*i a=e
variable {α:Type} [Mul α] (G:Gr α)
theorem Gr.ilc (a b:α):G.i a*(a*b)=b:=by rw[←G.asc,G.il,G.l]
theorem Gr.irc (a b:α):a*(G.i a*b)=b:=by rw[←G.asc,G.ir,G.l]
theorem Gr.can (G:Gr α){a b c:α}(h:a*b=a*c):b=c:=by rw[←G.ilc a b,h,G.ilc]
theorem Gr.im (a b:α):G.i (a*b)=G.i b*G.i a:=G.can (a:=a*b) (by rw[G.ir];simp only[G.asc,G.irc,G.ir])
theorem Gr.ii (a:α):G.i (G.i a)=a:=G.can (a:=G.i a) (by rw[G.ir,G.il])
structure Sg (H:α→Prop):Prop where
 e:H G.e
 m:∀{a b},H a→H b→H (a*b)
 i:∀{a},H a→H (G.i a)
variable {G} {H:α→Prop}
theorem Sg.cj (h:Sg G H)(g:α):Sg G fun u=>H (G.i g*u*g):=
 ⟨by rw[G.r,G.il];exact h.e,fun {a b} ha hb=>by
  have:=h.m ha hb;simp only[G.asc,G.irc]at this ⊢;exact this,fun {a} ha=>by
  have:=h.i ha;simp only[G.im,G.ii,G.asc]at this ⊢;exact this⟩
variable (G)
def Mk (U:List α)(u:α):Prop:=∀S:α→Prop,Sg G S→(∀c∈U,S c)→S u
def Nm (H:α→Prop)(U:List α)(g:α):Prop:=∀h∈U,H (G.i g*h*g)
variable {G}
theorem Nm.mk {U:List α}{g:α}(hH:Sg G H)(h:Nm G H U g){u:α}(hu:Mk G U u):H (G.i g*u*g):=hu _ (hH.cj g) h
theorem Nm.right {U:List α}{g v:α}(hH:Sg G H)(h:Nm G H U g)(hv:H v):Nm G H U (g*v):=fun k hk=>by
 have:=hH.m (hH.i hv) (hH.m (h k hk) hv);simp only[G.im,G.asc]at this ⊢;exact this
theorem Nm.left {U:List α}{g h:α}(hH:Sg G H)(hg:Nm G H U g)(hc:∀k∈U,Mk G U (G.i h*k*h)):Nm G H U (h*g):=fun k hk=>by
 have:=hg.mk hH (hc k hk);simp only[G.im,G.asc]at this ⊢;exact this
theorem inv_small {o d:Nat}(ho:o=2∨o=3∨o=5∨o=7)(h0:0<d)(hd:d<o):∃m n,d*m=1+o*n:=by
 have h:∀o∈[2,3,5,7],∀d,d<o→0<d→∃m,m<8∧∃n,n<8∧d*m=1+o*n:=by decide
 obtain⟨m,_,n,_,e⟩:=h o (by rcases ho with rfl|rfl|rfl|rfl<;>simp) d hd h0;exact⟨m,n,e⟩
variable [DecidableEq α]
end Go.Proofs.YtlmlamcoeegkbaaGreat.SfA
namespace Go.Proofs.YtlmlamcoeegkbaaGreat.ImplP
open Go.RowKit Go.Proofs.YtlmlamcoeegkbaaGreat Tow NumT ImplN ImplO
def pr (T:Tw)(i j:Nat):Nat:=num T (mul T (at_ T i) (at_ T j))
def trow (T:Tw)(i k:Nat):List Nat:=(List.range k).map (pr T i)
def tabl (T:Tw)(k:Nat):List (List Nat):=(List.range k).map fun i=>trow T i (sz T)
theorem trow_succ (T:Tw)(i k:Nat):trow T i (k+1)=trow T i k++[pr T i k]:=by simp[trow,zq124]
theorem tabl_succ (T:Tw)(k:Nat):tabl T (k+1)=tabl T k++[trow T k (sz T)]:=by simp[tabl,zq124]
theorem trow_length (T:Tw)(i k:Nat):(trow T i k).length=k:=by simp[trow]
theorem tabl_length (T:Tw)(k:Nat):(tabl T k).length=k:=by simp[tabl]
theorem allE_get {T:Tw}{n i:Nat}(h:i<n):(allE T n)[i]?=some (at_ T i):=by simp[allE,h]
def OwnN (e:TypeId)(B:Nat)(w:World)(v:Value)(x:List Nat):Prop:=w.ownsRow B e 1 v x.length (vals (ints x))∧(v= .slice none 0 0↔x=[])
theorem OwnN.row {e:TypeId}{B:Nat}{w:World}{v:Value}{x:List Nat}(h:OwnN e B w v x)(hx:0<x.length):RowOk e B w v x:=by
 refine⟨?_,h.1⟩;rcases h.1.2 with⟨_,hn⟩|⟨g,cap,cur,e,_⟩
 ·omega
 ·exact⟨g,cap,e⟩
theorem OwnN.keep {e:TypeId}{B:Nat}{S:Nat→Prop}{w w':World}{v:Value}{x:List Nat}(h:OwnN e B w v x)(hk:Keep S w w')(hS:∀k,B≤k→S k):OwnN e B w' v x:=⟨ownsRow_keep h.1 hk hS,h.2⟩
theorem table_any (T:Tw)(hT:Wf T)(hs:Small T)(hg:Tow.Good T)(hz:sz T≤729)(w:World)(b o:Nat)(hP:PtrP Any w b o (ofTw T)):
  Calls Tryz.prog 65 #[.pointer (some ⟨b,o,none⟩)] w (New2 91 3 (tabl T (sz T)) w):=by
 obtain⟨i0,hi,hz0,hz1,hz2⟩:=zq41 infoM;obtain⟨j0,hj,hj0,hj1,hj2⟩:=zq41 infoN;have HE:=hid (fun W h=>all_any T hT hs.1 hz W b o h);have HM:Hid (∀W va vb x y,PtrP Any W b o (ofTw T)→SlI Any W va (ints x)→ImplD.NN va→SlI Any W vb (ints y)→El T x→El T y→Calls Tryz.prog 89 #[.pointer (some ⟨b,o,none⟩),va,vb] W (NewS (ints (mul T x y)) W)):=
  hid (fun W va vb x y hP ha hn hb hx hy=>ImplD.multiply_any T hT hs 0 (zq4 _) hg W b o va vb x y hP ha hn hb hx hy)
 have HN:=hid (fun W vx x hP hx hE=>number_any T hT hs.1 hz W b o vx x hP hx hE);have HP:=hid hP;have HZ:=hid hz;have HT:=hid hT;have HG:=hid hg;clear hP hT hz hs hg;go_enter Tryz.func65,Tryz.ntmps65;go_wp2_with fail;refine(HE.out _ HP.out).mono ?_;rintro e w0 ⟨v3,rfl,hE,hb0⟩;obtain⟨a3,c3,rfl,hl3,hm3⟩:=hE.form;rw[allE_length]at hl3 ⊢;rw[allE_length]at hE;have HB0:=hid hb0;have HEL:=hid hE;clear hb0 hE hm3 hl3;go_wp2_with fail;go_loopw [4,14] (fun ov i wr=>∃k:Nat,k≤sz T∧i= .int .i64 (k:Int)∧Hid (Own2 91 3 w0.heap.size wr ov (tabl T k))∧Below w0.heap.size w0 wr) (fun _ i _=>sz T-(intOf i).toNat);case atStart=>exact⟨0,zq4 _,rfl,hid (Own2.nil _ _ _ _),zq3 _ _⟩
 case round=>
  obtain⟨k,hk,rfl,ho2,hb⟩:=hrel;rename World=>wo;have HB:=hid hb;clear hb;by_cases hlt:k<sz T
  ·have hd:decide ((k:Int)<(sz T:Int))=true:=by simp;omega
   obtain⟨gE,cE,ux,he,hbE,hgE,hcx,hrx⟩:=(HEL.out.of_below HB.out).at (allE_get hlt);obtain⟨rfl,_,rfl⟩:a3=some ⟨gE,0,none⟩∧True∧c3=cE:=by have h:=he;simp[allE_length]at h;exact⟨h.1,trivial,h.2⟩
   have HRX:=hid hrx;obtain⟨⟨gx,cx,rfl⟩,hrx⟩:=hrx;clear hrx he;go_wp2_with fail;go_loopw [7,20] (fun rv j wq=>∃m:Nat,m≤sz T∧j= .int .i64 (m:Int)∧Hid (OwnN 3 wo.heap.size wq rv (trow T k m))∧Below wo.heap.size wo wq) (fun _ j _=>sz T-(intOf j).toNat);case atStart=>exact⟨0,zq4 _,rfl,hid ⟨zq56 _ _ _ _,by simp[trow]⟩,zq3 _ _⟩
   case round=>
    obtain⟨m,hm,rfl,hrow,hbq⟩:=hrel;have HBQ:=hid hbq;have HBW:=hid (HB.out.trans (hbq.mono HB.out.size));clear hbq;by_cases hmt:m<sz T
    ·have hd2:decide ((m:Int)<(sz T:Int))=true:=by simp;omega
     obtain⟨gE',cE',uy,he,hbE',hgE',hcy,hry⟩:=(HEL.out.of_below HBW.out).at (allE_get hmt);obtain⟨rfl,_,rfl⟩:gE=gE'∧True∧c3=cE':=by have h:=he;simp[allE_length]at h;exact⟨h.1,trivial,h.2⟩
     have HRY:=hid hry;obtain⟨⟨gy,cy,rfl⟩,hry⟩:=hry;clear hry he hbE' hgE';go_wp2_with fail;refine(HM.out _ _ _ _ _ (HP.out.keep (Keep.of_below (HB0.out.trans (HBW.out.mono HB0.out.size)))) ((HRX.out.keep (S:=fun _=>True) (Keep.of_below HBQ.out) (fun _ _=>trivial)).sl.mono (fun _ _=>trivial)) (fun n c=>by simp) (HRY.out.sl.mono (fun _ _=>trivial)) (at_El HT.out k) (at_El HT.out m)).mono ?_;rintro e w1 ⟨g1,c1,rfl,ho1,hb1⟩;have HO1:=hid (ho1.sl.mono (S':=fun _=>True) (fun _ _=>trivial));have HBQ1:=hid (HBQ.out.trans (hb1.mono HBQ.out.size));have HBW1:=hid (HBW.out.trans (hb1.mono HBW.out.size));have HR1:=hid (hrow.out.keep (S:=fun _=>True) (Keep.of_below hb1) (fun _ _=>trivial));clear ho1 hb1 hrow HRY HBQ HBW;go_wp2_with fail;refine(HN.out _ _ _ (HP.out.keep (Keep.of_below (HB0.out.trans (HBW1.out.mono HB0.out.size)))) HO1.out (El_mul HT.out (at_El HT.out k) (at_El HT.out m))).mono ?_;rintro e w2 ⟨rfl,hb2⟩;have HBQ2:=hid (HBQ1.out.trans (hb2.mono HBQ1.out.size));have HBW2:=hid (HBW1.out.trans (hb2.mono HBW1.out.size));have HR2:=hid (HR1.out.keep (S:=fun _=>True) (Keep.of_below hb2) (fun _ _=>trivial));have h1:=HR2.out.1;rw[trow_length]at h1;clear hb2 HR1 HBQ1 HBW1 HO1;go_wp2_with (at_builtin;refine zq55 _ rfl _ _ 91 rfl wo.heap.size 3 j0 (.int .i64 0) 1 8 Tryz.underlying91 hj hj0 hj1 hj2 rfl (by decide) _ _ _ rfl (h1.alloc _) ⟨w2.heap.size,0,none⟩ 1 1 [.int .i64 ((pr T k m:Nat):Int)] rfl rfl ?c1 ?c2 ?c3 ?c4 ?c5 ?_);case c1=>
      intro j u hj
      match j,hj with
      |0,hj=>simp at hj;subst hj;simp[Addr.add,pr]
     case c2=>intro u hu;simp at hu;subst hu;rfl
     case c3=>have:=HZ.out;unfold maxLen;omega
     case c4=>have:=HZ.out;omega
     case c5=>have:=HBQ2.out.size;simp;omega
     ·intro v' w3 hown hgrow hnil;have HNR:=hid (show OwnN 3 wo.heap.size w3 v' (trow T k (m+1)) from by
       refine⟨?_,?_⟩
       ·rw[trow_length,trow_succ];simpa[ints,vals]using hown
       ·rw[trow_succ];simp;simpa using hnil)
      have HB3:=hid (show Below wo.heap.size wo w3 from(HBQ2.out.alloc (by have:=HBQ2.out.size;omega) _).grown hgrow (by simp;have:=HBQ2.out.size;omega) (fun g hg=>(zq8 h1 g hg).1));have hk729:(m:Int)≤729:=by have:=HZ.out;omega
      clear hown hgrow h1 HR2 hnil HBQ2 HBW2;go_wp2_with fail;go_roundw;case rel=>exact⟨m+1,by omega,by go_num,HNR,HB3.out⟩
      case measure=>simp[intOf];omega
    ·obtain rfl:m=sz T:=by omega
     have hd2:decide ((sz T:Int)<(sz T:Int))=false:=by simp
     have HRR:=hid ((hrow.out.row (by rw[trow_length];omega)));obtain⟨⟨gr,cr,rfl⟩,_⟩:=hrow.out.row (by rw[trow_length];omega);obtain⟨us,h1,h2,h4⟩:=ho2.out.of_below HBQ.out;rw[tabl_length]at h1;have HU:=hid (And.intro h2 h4);clear h2 h4 hrow;go_wp2_with (at_builtin;refine zq55 _ rfl _ _ 59 rfl w0.heap.size 91 i0 (.slice none 0 0) 1 24 Tryz.underlying59 hi hz0 hz1 hz2 rfl (by decide) _ _ _ rfl (h1.alloc _) ⟨wr.heap.size,0,none⟩ 1 1 [.slice (some ⟨gr,0,none⟩) (trow T k (sz T)).length cr] rfl rfl ?c1 ?c2 ?c3 ?c4 ?c5 ?_);case c1=>
      intro j u hj
      match j,hj with
      |0,hj=>simp at hj;subst hj;simp[Addr.add]
     case c2=>intro u hu;simp at hu;subst hu;rfl
     case c3=>have:=HZ.out;unfold maxLen;omega
     case c4=>have:=HZ.out;omega
     case c5=>have:=HBW.out.size;simp;omega
     ·intro v' w2 hown hgrow _;have HN2:=hid (show Own2 91 3 w0.heap.size w2 v' (tabl T (k+1)) from by
       rw[tabl_succ];exact Own2.push (w:=wr.alloc _) (us:=us) (by decide) (tabl_length T k) (h1.alloc _) HU.out.1 (fun i r u hr hu=>(HU.out.2 i r u hr hu).keep (S:=fun _=>True) (zqK.alloc _) (fun _ _=>trivial)) (⟨HRR.out.1,ownsRow_mono (HRR.out.keep (S:=fun _=>True) (zqK.alloc _) (fun _ _=>trivial)).2 HB.out.size⟩) hown hgrow)
      have HB2:=hid (show Below w0.heap.size w0 w2 from(HBW.out.alloc (by have:=HBW.out.size;omega) _).grown hgrow (by simp;have:=HBW.out.size;omega) (fun g hg=>(zq8 h1 g hg).1));have hk729:(k:Int)≤729:=by have:=HZ.out;omega
      clear hown hgrow h1 HU HRR;go_wp2_with fail;go_roundw;case rel=>exact⟨k+1,by omega,by go_num,HN2,HB2.out⟩
      case measure=>simp[intOf];omega
  ·obtain rfl:k=sz T:=by omega
   have hd:decide ((sz T:Int)<(sz T:Int))=false:=by simp
   go_wp2_with fail;go_ret;exact⟨_,rfl,ho2.out.mono HB0.out.size,HB0.out.trans (HB.out.mono HB0.out.size)⟩
end Go.Proofs.YtlmlamcoeegkbaaGreat.ImplP
namespace Go.Proofs.YtlmlamcoeegkbaaGreat.ImplQ
open Go.RowKit Go.Proofs.YtlmlamcoeegkbaaGreat Tow NumT ImplN ImplP
def TabG (S:Nat→Prop)(w:World)(bg:Nat)(T:Tw):Prop:=S bg∧bg<w.heap.size∧∃v,w.cell? ⟨bg,0,none⟩=some v∧Sl2 S w v ((tabl T (sz T)).map ints)
theorem TabG.keep {S:Nat→Prop}{w w':World}{bg:Nat}{T:Tw}(h:TabG S w bg T)(hk:Keep S w w'):TabG S w' bg T:=by
 obtain⟨h1,h2,v,hc,hs⟩:=h;exact⟨h1,zq7 h2 hk.size,v,by rw[hk.cell h1 h2];exact hc,hs.keep hk⟩
theorem tabl_get {T:Tw}{i:Nat}(h:i<sz T):(tabl T (sz T))[i]?=some (trow T i (sz T)):=by simp[tabl,h]
theorem trow_get {T:Tw}{i j:Nat}(h:j<sz T):(trow T i (sz T))[j]?=some (pr T i j):=by simp[trow,h]
theorem TabG.open {S:Nat→Prop}{w:World}{bg:Nat}{T:Tw}(h:TabG S w bg T)(hz:0<sz T):∃gt ot ct,bg<w.heap.size∧sz T≤ct∧w.cell? ⟨bg,0,none⟩=some (.slice (some ⟨gt,ot,none⟩) (sz T) ct)∧
  ∀i,i<sz T→∃gr or cr,sz T≤cr∧w.cell? ⟨gt,ot+i,none⟩=some (.slice (some ⟨gr,or,none⟩) (sz T) cr)∧∀j,j<sz T→w.cell? ⟨gr,or+j,none⟩=some (.int .i64 (pr T i j:Int)):=by
 obtain⟨h1,h2,v,hc,a,cap,rfl,hl,hm,hn,hx⟩:=h;have hl':((tabl T (sz T)).map ints).length=sz T:=by simp[tabl_length]
 rw[hl']at hc hl;obtain⟨gt,ot,rfl,hS,hlt,u,hu,hsl⟩:=hx 0 (ints (trow T 0 (sz T))) (by rw[zq20,tabl_get hz];rfl);refine⟨gt,ot,cap,h2,hl,hc,fun i hi=>?_⟩;obtain⟨gt',ot',he,hS',hlt',u,hu,hsl⟩:=hx i (ints (trow T i (sz T))) (by rw[zq20,tabl_get hi];rfl);obtain⟨rfl,rfl⟩:gt=gt'∧ot=ot':=by simpa using he
 obtain⟨a2,c2,rfl,hl2,hm2,hn2,hx2⟩:=hsl;have hr':(ints (trow T i (sz T))).length=sz T:=by rw[ints_length,trow_length]
 rw[hr']at hu hl2;obtain⟨gr,or,rfl,_,_,u,hu',rfl⟩:=hx2 0 (pr T i 0:Int) (by rw[ints_get,trow_get hz];rfl);refine⟨gr,or,c2,hl2,hu,fun j hj=>?_⟩;obtain⟨gr',or',he',_,_,u,hu'',rfl⟩:=hx2 j (pr T i j:Int) (by rw[ints_get,trow_get hj];rfl);obtain⟨rfl,rfl⟩:gr=gr'∧or=or':=by simpa using he'
 exact hu''
theorem pr_lt {T:Tw}(hT:Wf T)(i j:Nat):pr T i j<sz T:=num_lt (El_mul hT (at_El hT i) (at_El hT j)) hT
def NumD (n:Nat)(w:World)(e:Ending)(w':World):Prop:=e= .returned (.int .i64 (n:Int))∧∃k,w'=w.drewN k
theorem product_any (T:Tw)(hT:Wf T)(hz:sz T≤729)(S:Nat→Prop)(w:World)(bg:Nat)(hG:TabG S w bg T)(vx ve:Value)(xs es:List Nat)(hx:SlI S w vx (ints xs))(he:SlI S w ve (ints es))(hl:xs.length=es.length)(hl6:es.length≤1000)
  (hxn:∀x∈xs,x<sz T) (hen:∀e∈es,e≤1000):
  Calls Tryz.prog 165 #[.pointer (some ⟨bg,0,none⟩),vx,ve] w (NumD (prodL (pr T) 0 xs es) w):=by
 have hpos:=sz_pos hT;obtain⟨gt,ot,ct,hbg,hct,hc0,HR⟩:=hG.open hpos;obtain⟨aX,cX,rfl,hcx⟩:=hx.open;obtain⟨aE,cE,rfl,hce⟩:=he.open;rw[hl]at hcx hx ⊢;have HX:=hid hx;have HE:=hid he;have HRR:=hid HR;have HL:=hid hl;have HXN:=hid hxn;have HEN:=hid hen;have HT:=hid hT;have HZ:=hid hz;have HIN:Hid (∀j k,prR (pr T) 0 0 xs es j k<sz T):=hid (fun j k=>prR_inv (· <sz T) (pr T) (fun _ _ _ _=>pr_lt hT _ _) 0 0 xs es hpos hpos hxn j k);clear hx he HR hl hxn hen hT hG;go_enter Tryz.func165,Tryz.ntmps165;go_wp2_with fail;go_loopw [7,12] (fun ov i wr=>∃k:Nat,k≤es.length∧i= .int .i64 (k:Int)∧∃z:Nat,ov= .int .i64 (z:Int)∧Hid (z=prR (pr T) 0 0 xs es k 0∧∃m,wr=w.drewN m)) (fun _ i _=>es.length-(intOf i).toNat);case atStart=>exact⟨0,zq4 _,rfl,0,rfl,hid ⟨(prR_zero _ _ _ _ _).symm,0,rfl⟩⟩
 case round=>
  obtain⟨k,hk,rfl,z,rfl,hR⟩:=hrel;obtain⟨m0,hw0⟩:=hR.out.2;subst hw0;by_cases hlt:k<es.length
  ·obtain⟨e,hek⟩:∃e,es[k]?=some e:=⟨_,zq0 hlt⟩;obtain⟨x,hxk⟩:∃x,xs[k]?=some x:=⟨_,zq0 (by rw[HL.out];exact hlt)⟩;obtain⟨bE,oE,rfl,_,hbE,hcE⟩:=HE.out.at hek;obtain⟨bX,oX,rfl,_,hbX,hcX⟩:=HX.out.at hxk;have hxlt:=HXN.out x (zq5 hxk);have helt:=HEN.out e (zq5 hek);have hd:decide ((k:Int)<(es.length:Int))=true:=by simp;omega
   have HXK:=hid hxk;have HEK:=hid hek;clear hxk hek;go_wp2_with fail;go_loopw [7,18] (fun ov j wr=>∃q:Nat,q≤e∧j= .int .i64 (q:Int)∧∃z:Nat,ov= .int .i64 (z:Int)∧Hid (z=prR (pr T) 0 0 xs es k q∧∃m,wr=w.drewN m)) (fun _ j _=>e-(intOf j).toNat);case atStart=>exact⟨0,zq4 _,rfl,z,rfl,hid ⟨hR.out.1,m0,rfl⟩⟩
   case round=>
    obtain⟨q,hq,rfl,z,rfl,hR2⟩:=hrel;obtain⟨m1,hw1⟩:=hR2.out.2;subst hw1;by_cases hqe:q<e
    ·have hd2:decide ((q:Int)<(e:Int))=true:=by simp;omega
     have hzlt:z<sz T:=by rw[hR2.out.1];exact HIN.out _ _
     obtain⟨gr,or,cr,hcr,hcr1,hcr2⟩:=HRR.out z hzlt;have hcr3:=hcr2 x hxlt;have hgD:xs.getD k 0=x:=by rw[zq9,HXK.out];rfl
     have HGD:=hid hgD;clear hcr2 hgD;go_wp2_with fail;go_quiet (fail);go_wp2_with fail;go_roundw;case rel=>exact⟨q+1,by omega,by go_num,pr T z x,rfl,hid ⟨by rw[prR_step,HGD.out,←hR2.out.1],m1+nq,by first|rfl|rw[zq113]⟩⟩
     case measure=>simp[intOf];omega
    ·obtain rfl:q=e:=by omega
     have hd2:decide ((q:Int)<(q:Int))=false:=by simp
     go_wp2_with fail;go_roundw;case rel=>exact⟨k+1,by omega,by go_num,z,rfl,hid ⟨by rw[hR2.out.1,prR_next _ _ _ _ _ _ _ (by rw[HL.out];exact hlt) HEK.out],m1,rfl⟩⟩
     case measure=>simp[intOf];omega
  ·obtain rfl:k=es.length:=by omega
   have hd:decide ((es.length:Int)<(es.length:Int))=false:=by simp
   go_wp2_with fail;go_ret;refine⟨ret_i ?_,m0,rfl⟩;rw[hR.out.1,prR_end _ _ _ _ _ _ (by rw[HL.out];exact zq1 _) zqN]
end Go.Proofs.YtlmlamcoeegkbaaGreat.ImplQ
namespace Go.Proofs.YtlmlamcoeegkbaaGreat.Mask
open Go
theorem wraps63 (n:Int)(h0:0≤n)(h1:n<2^63):IntKind.u64.wrap n=n:=by rw[IntKind.wrap_u64];omega
theorem test_eq (M a:Nat)(_ha:a≤31)(hM:M<2^32):(bits .and .u64 ((M:Int)/2^a) 1==1)=M.testBit a:=by
 have e1:((M:Int)/2^a)=((M/2^a:Nat):Int):=by push_cast;rfl
 have hlt:M/2^a<2^63:=Nat.lt_of_le_of_lt (Nat.div_le_self _ _) (zq7 hM (by decide));have h:=(bits_nat .u64 63 (by decide) wraps63 (M/2^a) 1 hlt (by decide)).1;rw[e1];have e2:bits .and .u64 ((M/2^a:Nat):Int) 1=((M/2^a &&& 1:Nat):Int):=h;rw[e2,Nat.testBit,Nat.shiftRight_eq_div_pow,Nat.and_comm 1];have h01:=Nat.and_one_is_mod (M/2^a);rw[h01];rcases Nat.mod_two_eq_zero_or_one (M/2^a)with h|h<;>rw[h]<;>rfl
theorem pow_lt (a:Nat)(ha:a≤31):2^a<2^32:=Nat.pow_lt_pow_right (by decide) (by omega)
theorem set_eq (O a:Nat)(ha:a≤31)(hO:O<2^32):bits .or .u64 (O:Int) (IntKind.u64.wrap (2^a))=((O ||| 2^a:Nat):Int):=by
 have e1:((2:Int)^a)=((2^a:Nat):Int):=by push_cast;rfl
 have hp:=pow_lt a ha;have h63:(2:Nat)^32<2^63:=by decide
 have hlt:((2^a:Nat):Int)<((2^63:Nat):Int):=Int.ofNat_lt.2 (Nat.lt_trans hp h63);rw[e1,wraps63 _ (Int.natCast_nonneg _) (by simpa using hlt)];exact(bits_nat .u64 63 (by decide) wraps63 O (2^a) (Nat.lt_trans hO h63) (Nat.lt_trans hp h63)).2
theorem set_lt (O a:Nat)(ha:a≤31)(hO:O<2^32):O ||| 2^a<2^32:=Nat.or_lt_two_pow hO (pow_lt a ha)
theorem set_test (O a c:Nat):(O ||| 2^a).testBit c=(O.testBit c||decide (a=c)):=by rw[Nat.testBit_or,Nat.testBit_two_pow]
end Go.Proofs.YtlmlamcoeegkbaaGreat.Mask
namespace Go.Proofs.YtlmlamcoeegkbaaGreat.ImplR
open Go.RowKit Go.Proofs.YtlmlamcoeegkbaaGreat Tow NumT ImplN ImplP ImplQ
theorem sl_one (g x:Nat)(o:World)(h:o.cell? ⟨g,0,none⟩=some (.int .i64 (x:Int)))(hs:g<o.heap.size):SlI Any o (.slice (some ⟨g,0,none⟩) 1 1) (ints [x]):=by
 refine⟨some ⟨g,0,none⟩,1,rfl,by simp[ints],by simp[maxLen],by simp,fun i y hy=>?_⟩
 match i,hy with
 |0,hy=>simp[ints]at hy;subst hy;exact⟨g,0,rfl,trivial,hs,_,h,rfl⟩
 |i+1,hy=>simp[ints]at hy
theorem TabG.mono {S S':Nat→Prop}{w:World}{bg:Nat}{T:Tw}(h:TabG S w bg T)(hS:∀k,S k→S' k):TabG S' w bg T:=by
 obtain⟨h1,h2,v,hc,hs⟩:=h;exact⟨hS _ h1,h2,v,hc,hs.mono hS⟩
theorem power_any (T:Tw)(hT:Wf T)(hz:sz T≤729)(w:World)(bg:Nat)(hG:TabG Any w bg T)(x k:Nat)(hx:x<sz T)(hk:k≤1000):
  Calls Tryz.prog 127 #[.pointer (some ⟨bg,0,none⟩),.int .i64 (x:Int),.int .i64 (k:Int)] w (IntR (it (fun z=>pr T z x) k 0) w):=by
 have HP:=hid (fun W vx ve hG h1 h2=>product_any T hT hz Any W bg hG vx ve [x] [k] h1 h2 rfl (by simp) (by simpa using hx) (by simpa using hk));have HG:=hid hG;clear hG hx hk hz;go_enter Tryz.func127,Tryz.ntmps127;go_wp2_with fail;have hA:((w.alloc (.cells #[.int .i64 (x:Int)] 3)).alloc (.cells #[.int .i64 (k:Int)] 2)).heap[w.heap.size]?=some (.cells #[.int .i64 (x:Int)] 3):=(zq91 _ _ (by simp)).trans (zq17 w _);have hB:((w.alloc (.cells #[.int .i64 (x:Int)] 3)).alloc (.cells #[.int .i64 (k:Int)] 2)).heap[w.heap.size+1]?=some (.cells #[.int .i64 (k:Int)] 2):=by
  have h:=zq17 (w.alloc (.cells #[.int .i64 (x:Int)] 3)) (.cells #[.int .i64 (k:Int)] 2);have e:(w.alloc (.cells #[.int .i64 (x:Int)] 3)).heap.size=w.heap.size+1:=by simp
  rw[e]at h;exact h
 have h1:=sl_one w.heap.size x _ ((zq15 _ w.heap.size 0 _ _ (0,0) hA).trans rfl) (by simp;omega);have h2:=sl_one (w.heap.size+1) k _ ((zq15 _ (w.heap.size+1) 0 _ _ (0,0) hB).trans rfl) (by simp);refine(HP.out _ _ _ (HG.out.keep (((Keep.refl _ w).alloc _).alloc _)) h1 h2).mono ?_;clear hA hB h1 h2;rintro e w1 ⟨rfl,m,rfl⟩;go_wp2_with fail;go_ret;exact⟨rfl,zq61 ((zqB.alloc zqN _).alloc (by simp) _) m⟩
def ExtR (T:Tw)(M x k:Nat)(w:World)(e:Ending)(w':World):Prop:=
 ∃O:Nat,e= .returned (.int .u64 (O:Int))∧O<2^32∧(∀c,O.testBit c=true↔∃j,j<k∧∃s,s<sz T∧M.testBit s=true∧it (pr T x) j s=c)∧w'=w
theorem extend_any (T:Tw)(hT:Wf T)(hz:sz T≤27)(w:World)(bg:Nat)(hG:TabG Any w bg T)(M x k:Nat)(hM:M<2^32∧∀c,M.testBit c=true→c<sz T)(hx:x<sz T)(hk:k≤1000):
  Calls Tryz.prog 121 #[.pointer (some ⟨bg,0,none⟩),.int .u64 (M:Int),.int .i64 (x:Int),.int .i64 (k:Int)] w (ExtR T M x k w):=by
 have hpos:=sz_pos hT;obtain⟨gt,ot,ct,hbg,hct,hc0,HR⟩:=hG.open hpos;obtain⟨gr,or,cr,hcr,hcr1,HR2⟩:=HR x hx;have HRR:=hid HR2;have HM:=hid hM;have HPL:=hid (pr_lt hT);clear HR HR2 hG hM hT;go_enter Tryz.func121,Tryz.ntmps121;go_wp2_with fail;go_loop [1,9,14] (fun mv ov i=>∃q:Nat,q≤k∧i= .int .i64 (q:Int)∧∃M' O:Nat,mv= .int .u64 (M':Int)∧ov= .int .u64 (O:Int)∧
  Hid (M'<2^32∧O<2^32∧(∀c,M'.testBit c=true→c<sz T)∧(∀c,c<sz T→(M'.testBit c=true↔∃s,s<sz T∧M.testBit s=true∧it (pr T x) q s=c))∧(∀c,O.testBit c=true↔∃j,j<q∧∃s,s<sz T∧M.testBit s=true∧it (pr T x) j s=c))) (fun _ _ i=>k-(intOf i).toNat)
 case atStart=>exact⟨0,zq4 _,rfl,M,0,rfl,rfl,hid ⟨HM.out.1,by decide,HM.out.2,fun c hc=>⟨fun h=>⟨c,hc,h,rfl⟩,fun⟨s,_,h,e⟩=>by rw[←e];exact h⟩,fun c=>by simp⟩⟩
 case round=>
  obtain⟨q,hq,rfl,M',O',rfl,rfl,hR⟩:=hrel;by_cases hlt:q<k
  ·have hd:decide ((q:Int)<(k:Int))=true:=by simp;omega
   go_wp2_with fail;go_loop [9,21] (fun ov i=>∃a:Nat,a≤sz T∧i= .int .i64 (a:Int)∧∃O:Nat,ov= .int .u64 (O:Int)∧Hid (O<2^32∧∀c,O.testBit c=(O'.testBit c||(decide (c<a)&&M'.testBit c)))) (fun _ i=>sz T-(intOf i).toNat);case atStart=>exact⟨0,zq4 _,rfl,O',rfl,hid ⟨hR.out.2.1,fun c=>by simp⟩⟩
   case round=>
    obtain⟨a,ha,rfl,O,rfl,hO⟩:=hrel;by_cases halt:a<sz T
    ·have hd2:decide ((a:Int)<(sz T:Int))=true:=by simp;omega
     have h1:=Mask.test_eq M' a (by omega) hR.out.1;have h2:=Mask.set_eq O a (by omega) hO.out.1;have H2:=hid (Mask.set_lt O a (by omega) hO.out.1);cases hb:M'.testBit a with
     |true=>
      have HBB:=hid hb;rw[hb]at h1;clear hb;go_wp2_with fail;go_round;case rel=>exact⟨a+1,by omega,by go_num,O ||| 2^a,rfl,hid ⟨H2.out,fun c=>by
       rw[Mask.set_test,hO.out.2 c];by_cases hca:a=c
       ·subst hca;simp[HBB.out]
       ·have:decide (c<a+1)=decide (c<a):=by apply decide_eq_decide.2;omega
        simp[hca,this]⟩⟩
      case measure=>simp[intOf];omega
     |false=>
      have HBB:=hid hb;rw[hb]at h1;clear hb;go_wp2_with fail;go_round;case rel=>exact⟨a+1,by omega,by go_num,O,rfl,hid ⟨hO.out.1,fun c=>by
       rw[hO.out.2 c];by_cases hca:a=c
       ·subst hca;simp[HBB.out]
       ·have:decide (c<a+1)=decide (c<a):=by apply decide_eq_decide.2;omega
        simp[this]⟩⟩
      case measure=>simp[intOf];omega
    ·obtain rfl:a=sz T:=by omega
     have hd2:decide ((sz T:Int)<(sz T:Int))=false:=by simp
     have HO2:Hid (O<2^32∧∀c,O.testBit c=true↔∃j,j<q+1∧∃s,s<sz T∧M.testBit s=true∧it (pr T x) j s=c):=hid ⟨hO.out.1,fun c=>by
      rw[hO.out.2 c];constructor
      ·intro h;rw[zq135]at h;rcases h with h|h
       ·obtain⟨j,hj,s,hs⟩:=(hR.out.2.2.2.2 c).1 h;exact⟨j,by omega,s,hs⟩
       ·rw[zq71]at h;obtain⟨s,hs⟩:=(hR.out.2.2.2.1 c (by simpa using h.1)).1 h.2;exact⟨q,by omega,s,hs⟩
      ·rintro⟨j,hj,s,hs⟩;rw[zq135];rcases zq36 j q with h|h
       ·exact .inl ((hR.out.2.2.2.2 c).2 ⟨j,h,s,hs⟩)
       ·obtain rfl:j=q:=by omega
        have hc:c<sz T:=by
         rw[←hs.2.2];cases j with
         |zero=>exact hs.1
         |succ j=>rw[it_succ'];exact HPL.out _ _
        rw[zq71];exact .inr ⟨by simpa using hc,(hR.out.2.2.2.1 c hc).2 ⟨s,hs⟩⟩⟩
     clear hO;go_wp2_with fail;go_loop [11,39] (fun ov i=>∃a:Nat,a≤sz T∧i= .int .i64 (a:Int)∧∃N:Nat,ov= .int .u64 (N:Int)∧Hid (N<2^32∧∀c,N.testBit c=true↔∃d,d<a∧M'.testBit d=true∧pr T x d=c)) (fun _ i=>sz T-(intOf i).toNat);case atStart=>exact⟨0,zq4 _,rfl,0,rfl,hid ⟨by decide,fun c=>by simp⟩⟩
     case round=>
      obtain⟨a,ha,rfl,N,rfl,hN⟩:=hrel;by_cases halt:a<sz T
      ·have hd2:decide ((a:Int)<(sz T:Int))=true:=by simp;omega
       have h1:=Mask.test_eq M' a (by omega) hR.out.1;have hpl:=HPL.out x a;have h2:=Mask.set_eq N (pr T x a) (by omega) hN.out.1;have H2:=hid (Mask.set_lt N (pr T x a) (by omega) hN.out.1);have hcc:=HRR.out a halt;cases hb:M'.testBit a with
       |true=>
        have HBB:=hid hb;rw[hb]at h1;clear hb;go_wp2_with fail;go_round;case rel=>exact⟨a+1,by omega,by go_num,N ||| 2^pr T x a,rfl,hid ⟨H2.out,fun c=>by
         rw[Mask.set_test,zq135,hN.out.2 c];constructor
         ·rintro(⟨d,hd,h⟩|h)
          ·exact⟨d,by omega,h⟩
          ·exact⟨a,by omega,HBB.out,by simpa using h⟩
         ·rintro⟨d,hd,h⟩;rcases zq36 d a with hda|hda
          ·exact .inl ⟨d,hda,h⟩
          ·obtain rfl:d=a:=by omega
           exact .inr (by simpa using h.2)⟩⟩
        case measure=>simp[intOf];omega
       |false=>
        have HBB:=hid hb;rw[hb]at h1;clear hb;go_wp2_with fail;go_round;case rel=>exact⟨a+1,by omega,by go_num,N,rfl,hid ⟨hN.out.1,fun c=>by
         rw[hN.out.2 c];constructor
         ·rintro⟨d,hd,h⟩;exact⟨d,by omega,h⟩
         ·rintro⟨d,hd,h⟩;rcases zq36 d a with hda|hda
          ·exact⟨d,hda,h⟩
          ·obtain rfl:d=a:=by omega
           exact absurd (HBB.out.symm.trans h.1) (by decide)⟩⟩
        case measure=>simp[intOf];omega
      ·obtain rfl:a=sz T:=by omega
       have hd2:decide ((sz T:Int)<(sz T:Int))=false:=by simp
       go_wp2_with fail;go_round;case rel=>exact⟨q+1,by omega,by go_num,N,O,rfl,rfl,hid ⟨hN.out.1,HO2.out.1,fun c h=>by
         obtain⟨d,hd,h⟩:=(hN.out.2 c).1 h;rw[←h.2];exact HPL.out _ _,fun c hc=>by
         rw[hN.out.2 c];constructor
         ·rintro⟨d,hd,h,h'⟩;obtain⟨s,hs,hm,e⟩:=(hR.out.2.2.2.1 d hd).1 h;exact⟨s,hs,hm,by rw[it_succ',e,h']⟩
         ·rintro⟨s,hs,hm,e⟩;rw[it_succ']at e;have hlt:it (pr T x) q s<sz T:=by
           cases q with
           |zero=>exact hs
           |succ q=>rw[it_succ'];exact HPL.out _ _
          exact⟨it (pr T x) q s,hlt,(hR.out.2.2.2.1 _ hlt).2 ⟨s,hs,hm,rfl⟩,e⟩,HO2.out.2⟩⟩
       case measure=>simp[intOf];omega
  ·obtain rfl:q=k:=by omega
   have hd:decide ((q:Int)<(q:Int))=false:=by simp
   go_wp2_with fail;go_ret;exact⟨O',rfl,hR.out.2.1,hR.out.2.2.2.2,rfl⟩
end Go.Proofs.YtlmlamcoeegkbaaGreat.ImplR
namespace Go.Proofs.YtlmlamcoeegkbaaGreat.ImplS
open Go.RowKit Go.Proofs.YtlmlamcoeegkbaaGreat Tow NumT ImplN ImplP ImplQ ImplR ImplW
def Fits (Q:Tw)(L:Lv)(im:List Nat)(x:Nat):Prop:=
 it (fun z=>pr Q z x) L.o 0=prodL (pr Q) 0 im L.w∧∀k y,L.c[k]?=some y→pr Q (im.getD k 0) x=pr Q x (prodL (pr Q) 0 im y)
structure IsoS (w:World)(bs bp op bg gi ci:Nat)(T Q:Tw)(ims:List Nat):Prop where
 lt:bs<w.heap.size
 p:w.cell? ⟨bs,0,none⟩=some (.pointer (some ⟨bp,op,none⟩))
 g:w.cell? ⟨bs,1,none⟩=some (.pointer (some ⟨bg,0,none⟩))
 im:w.cell? ⟨bs,2,none⟩=some (.slice (some ⟨gi,0,none⟩) T.length ci)
 pre:PtrP Any w bp op (ofTw T)
 tab:TabG Any w bg Q
 len:ims.length=T.length
 ims:SlI Any w (.slice (some ⟨gi,0,none⟩) T.length ci) (ints ims)
theorem fits_any (T Q:Tw)(hT:Wf T)(hs:Small T)(hQ:Wf Q)(hz:sz Q≤729)(w:World)(bs bp op bg gi ci:Nat)(ims:List Nat)(i x:Nat)(L:Lv)(hL:T[i]?=some L)(h:IsoS w bs bp op bg gi ci T Q ims)(hx:x<sz Q)(hin:∀y∈ims,y<sz Q):
  Calls Tryz.prog 120 #[.pointer (some ⟨bs,0,none⟩),.int .i64 (i:Int),.int .i64 (x:Int)] w (ExB (Fits Q L (ims.drop (i+1)) x) w):=by
 have hil:=(zq2.1 hL).1;have hs6:=hs.1;obtain⟨_,hbl,vO,vP,vC,hp0,hp1,hp2,hV⟩:=h.pre;obtain⟨aO,cO,aP,cP,aC,cC,rfl,rfl,rfl,hO1,hP1,hC1⟩:=hV.open;obtain⟨bO,oO,rfl,_,hbO,hcO⟩:=hV.ord hL;obtain⟨bP,oP,uP,rfl,_,hbP,hcP,huP⟩:=hV.pow hL;obtain⟨bC,oC,a2,c2,rfl,_,hbC,hcC,hc2,hcy⟩:=hV.con hL;have hpos:=sz_pos hQ;obtain⟨gt,ot,ct,hgl,hct,hct0,HRT⟩:=h.tab.open hpos;obtain⟨_,_,vt,hvt,hslt⟩:=h.tab;have q:∀(b o:Nat) (v:Value),b<w.heap.size→w.cell? ⟨b,o,none⟩=some v→∀x:BW w.heap.size w,x.1.cell? ⟨b,o,none⟩=some v:=fun b o v hb hc x=>(x.2.cell (p:=⟨b,o,none⟩) hb).trans hc;have q0:=q _ _ _ h.lt h.p;have q1:=q _ _ _ h.lt h.g;have q2:=q _ _ _ h.lt h.im;have q3:=q _ _ _ hbl hp0;have q4:=q _ _ _ hbl hp1;have q5:=q _ _ _ hbl hp2;have q6:=q _ _ _ hbO hcO;have q7:=q _ _ _ hbP hcP;have q8:=q _ _ _ hbC hcC;have q9:=q _ _ _ hgl hct0;have HTR:Hid (∀a,a<sz Q→∃gr or cr,sz Q≤cr∧(∀x1:BW w.heap.size w,x1.1.cell? ⟨gt,ot+a,none⟩=some (.slice (some ⟨gr,or,none⟩) (sz Q) cr))∧∀j,j<sz Q→∀x1:BW w.heap.size w,x1.1.cell? ⟨gr,or+j,none⟩=some (.int .i64 (pr Q a j:Int))):=hid (fun a ha=>by
  obtain⟨gr,or,cr,h1,h2,h3⟩:=HRT a ha;exact⟨gr,or,cr,h1,q _ _ _ (World.block_lt_of_cell? w _ h2) h2,fun j hj=>q _ _ _ (World.block_lt_of_cell? w _ (h3 j hj)) (h3 j hj)⟩)
 have HIM:Hid (∀(j a:Nat),ims[j]?=some a→∀x1:BW w.heap.size w,x1.1.cell? ⟨gi,j,none⟩=some (.int .i64 (a:Int))):=hid (fun j a hj=>by
  obtain⟨b,o,he,_,hb,hc⟩:=h.ims.at hj;obtain⟨rfl,rfl⟩:gi=b∧0=o:=by simpa using he
  rw[zq39]at hc;exact q _ _ _ hb hc)
 have HPD:Hid (∀y,prodL (pr Q) 0 (ims.drop (i+1)) y<sz Q):=hid (fun y=>prodL_inv (· <sz Q) (pr Q) (fun _ _ _ _=>pr_lt hQ _ _) _ (fun c hc=>hin c (zq72 hc)) y 0 hpos);have HIN:=hid hin;have hlenI:=h.len;have hxx:=hx;have HI:=hid h;have hLv:=lvl' hT hL;have hcl:L.c.length=T.length-(i+1):=hLv.2.1;have HPW:=hid (fun(x1:BW w.heap.size w)=>power_any Q hQ hz x1.1 bg (h.tab.keep (Keep.of_below x1.2)) x L.o hx (by have:=hs.2 L (zq5 hL);omega));have hOL:=Nat.le_of_lt_succ (Nat.lt_succ_of_le (hs.2 L (zq5 hL)));have HPR:Hid (∀(x1:BW w.heap.size w) (y:List Nat) (vy:Value),El (T.drop (i+1)) y→SlI Any w vy (ints (pad (i+1) y))→Calls Tryz.prog 165 #[.pointer (some ⟨bg,0,none⟩),.slice (some ⟨gi,0,none⟩) T.length ci,vy] x1.1 (NumD (prodL (pr Q) 0 (ims.drop (i+1)) y) x1.1)):=
  hid (fun x1 y vy hy hv=>by
   have hp:=product_any Q hQ hz Any x1.1 bg (h.tab.keep (Keep.of_below x1.2)) _ vy ims (pad (i+1) y) (h.ims.keep (Keep.of_below x1.2)) (hv.keep (Keep.of_below x1.2)) (by rw[h.len,pad_length,El_length hy,zq34];omega) (by rw[pad_length,El_length hy,zq34];omega) hin (by
    intro e he;simp only[pad,zq68,zq82]at he;rcases he with⟨_,rfl⟩|he
    ·omega
    ·obtain⟨j,hj,rfl⟩:=zq87 he;obtain⟨M,hM,hlt⟩:=El_lt hy (zq0 hj);have:=hs.2 M (zq72 (zq5 hM));omega)
   rwa[prodL_pad _ _ _ _ _ (by rw[h.len];omega)]at hp)
 have HUP:=hid huP;have HLV:=hid hLv;have HCY:=hid hcy;clear q hcO hcP hcC huP hp0 hp1 hp2 hV h hLv hcy hL hin hT hs hQ hz hx HRT hvt hslt hct0;go_enter Tryz.func120,Tryz.ntmps120;go_upto_region 1 with fail;refine wp_region_below w.heap.size w zqB (by kernel_rfl) (by kernel_rfl) ?_;repeat(go_big_quiet_step ((first|(go_at_call 127;exact calls_below zqN (HPW.out _))|(go_at_call 165;exact calls_drawn (HPR.out _ L.w _ HLV.out.2.2.2.1 HUP.out)))))
 refine wpQuiet_nil ?_;intro wx hw';have hbx:Below w.heap.size w wx:=by obtain⟨x1,rfl⟩:=hw';exact x1.2
 clear hw';have HBX:=hid hbx;have r0:wx.cell? ⟨bs,0,none⟩=_:=q0 ⟨wx,hbx⟩;have r3:wx.cell? ⟨bp,op+2,none⟩=_:=q5 ⟨wx,hbx⟩;have r8:wx.cell? ⟨bC,oC+i,none⟩=_:=q8 ⟨wx,hbx⟩;clear hbx;by_cases h1:it (fun z=>pr Q z x) L.o 0=prodL (pr Q) 0 (ims.drop (i+1)) L.w
 ·have hd:(((it (fun z=>pr Q z x) L.o 0:Nat):Int) !=((prodL (pr Q) 0 (ims.drop (i+1)) L.w:Nat):Int))=false:=by rw[h1];simp
  have H1:=hid h1;clear h1;go_wp2_with fail;go_loopw [56] (fun iv wr=>∃k:Nat,k≤L.c.length∧iv= .int .i64 (k:Int)∧Hid (∀j y,j<k→L.c[j]?=some y→pr Q ((ims.drop (i+1)).getD j 0) x=pr Q x (prodL (pr Q) 0 (ims.drop (i+1)) y))∧Below w.heap.size w wr) (fun iv _=>L.c.length-(intOf iv).toNat);case atStart=>exact⟨0,zq4 _,rfl,hid (fun j y h=>absurd h (zq33 _)),HBX.out⟩
  case round=>
   obtain⟨k,hk,rfl,hR,hb⟩:=hrel;have HB:=hid hb;by_cases hlt:k<L.c.length
   ·obtain⟨y,hy⟩:∃y,L.c[k]?=some y:=⟨_,zq0 hlt⟩;obtain⟨b2,o2,uy,rfl,_,hb2,hcy2,huy⟩:=HCY.out k y hy;have r10:wr.cell? ⟨b2,o2+k,none⟩=some uy:=(hb.cell (p:=⟨b2,o2+k,none⟩) hb2).trans hcy2;obtain⟨a,ha⟩:∃a,ims[i+1+k]?=some a:=⟨_,zq0 (by omega)⟩;have hgetD:(ims.drop (i+1)).getD k 0=a:=by rw[zq9,zq63,ha];rfl
    have halt:=HIN.out a (zq5 ha);have HYE:=hid (HLV.out.2.2.1 y (zq5 hy));have q10:=HIM.out _ _ ha;obtain⟨gr,or,cr,hcr,q11,q12'⟩:=HTR.out a halt;have q12:=q12' x hxx;obtain⟨gr2,or2,cr2,hcr2,q13,q14'⟩:=HTR.out x hxx;have hpd:=HPD.out y;have q14:=q14' _ hpd;have HUY:=hid huy;have HY:=hid hy;have HGD:=hid hgetD;have hd2:decide ((k:Int)<(L.c.length:Int))=true:=by simp;omega
    have w1:IntKind.i64.wrap ((i:Int)+1)=(i:Int)+1:=zq6 _ (by omega);have w2:IntKind.i64.wrap ((i:Int)+1+(k:Int))=(i:Int)+1+(k:Int):=zq6 _ (by omega);have w9:(i:Int)+1+(k:Int)<(T.length:Int):=by omega
    have w10:(0:Int)≤(i:Int)+1+(k:Int):=by omega
    have w11:((i:Int)+1+(k:Int)).toNat=i+1+k:=by omega
    clear hb ha hgetD q12' q14' huy hy hcy2;go_upto_region 6 with fail;refine wp_region_below w.heap.size w HB.out (by kernel_rfl) (by kernel_rfl) ?_;repeat(go_big_quiet_step ((first|(go_at_call 165;exact calls_drawn (HPR.out _ y _ HYE.out HUY.out)))))
    refine wpQuiet_nil ?_;intro wy hw';have hby:Below w.heap.size w wy:=by obtain⟨x1,rfl⟩:=hw';exact x1.2
    clear hw';have HBY:=hid hby;clear hby;by_cases h2:pr Q a x=pr Q x (prodL (pr Q) 0 (ims.drop (i+1)) y)
    ·have hd3:((pr Q a x:Int) !=(pr Q x (prodL (pr Q) 0 (ims.drop (i+1)) y):Int))=false:=by rw[h2];simp
     have H2:=hid h2;clear h2;go_wp2_with fail;go_roundw;case rel=>exact⟨k+1,by omega,by go_num,hid (fun j y' hj hy'=>by
      rcases zq36 j k with h|h
      ·exact hR.out j y' h hy'
      ·obtain rfl:j=k:=by omega
       obtain rfl:y=y':=zq102 (HY.out.symm.trans hy');rw[HGD.out];exact H2.out),HBY.out⟩
     case measure=>simp[intOf];omega
    ·have hd3:((pr Q a x:Int) !=(pr Q x (prodL (pr Q) 0 (ims.drop (i+1)) y):Int))=true:=by
      have:(pr Q a x:Int)≠(pr Q x (prodL (pr Q) 0 (ims.drop (i+1)) y):Int):=fun h=>h2 (by exact_mod_cast h);simpa using this
     have H2:=hid h2;clear h2;go_wp2_with fail;go_ret;exact ExB_false (fun h=>H2.out (by have:=h.2 k y HY.out;rwa[HGD.out]at this)) HBY.out
   ·obtain rfl:k=L.c.length:=by omega
    have hd2:decide ((L.c.length:Int)<(L.c.length:Int))=false:=by simp
    go_wp2_with fail;go_ret;exact ExB_true ⟨H1.out,fun j y hy=>hR.out j y (zq2.1 hy).1 hy⟩ HB.out
 ·have hd:(((it (fun z=>pr Q z x) L.o 0:Nat):Int) !=((prodL (pr Q) 0 (ims.drop (i+1)) L.w:Nat):Int))=true:=by
   have:((it (fun z=>pr Q z x) L.o 0:Nat):Int)≠((prodL (pr Q) 0 (ims.drop (i+1)) L.w:Nat):Int):=fun h=>h1 (by exact_mod_cast h);simpa using this
  have H1:=hid h1;clear h1;go_wp2_with fail;go_ret;exact ExB_false (fun h=>H1.out h.1) HBX.out
end Go.Proofs.YtlmlamcoeegkbaaGreat.ImplS
namespace Go.Proofs.YtlmlamcoeegkbaaGreat.Grow
open Go.Proofs.YtlmlamcoeegkbaaGreat Tow NumT ImplP ImplQ ImplS
def inS (Q:Tw):Tw→List Nat→Nat→Prop
 |L::T,x::im,c=>∃j,j<L.o∧∃s,inS Q T im s∧it (pr Q x) j s=c
 |_,_,c=>c=0
theorem inS_lt {Q:Tw}(hQ:Wf Q):∀{T:Tw} {im:List Nat} {c:Nat},inS Q T im c→c<sz Q
 |[],_,c,h=>by simp only[inS]at h;rw[h];exact sz_pos hQ
 |_::_,[],c,h=>by simp only[inS]at h;rw[h];exact sz_pos hQ
 |L::T,x::im,c,⟨j,hj,s,hs,e⟩=>by
  cases j with
  |zero=>rw[←e];exact inS_lt hQ hs
  |succ j=>rw[←e,it_succ'];exact pr_lt hQ _ _
open Classical in
noncomputable def grow (Q T:Tw):Nat→List Nat→List (List Nat)
 |0,im=>[im]
 |k+1,im=>(List.range (sz Q)).flatMap fun x=>if¬inS Q (T.drop (k+1)) im x∧Fits Q (T.getD k ⟨0,[],[]⟩) im x then grow Q T k (x::im)else []
open Classical in
noncomputable def growTo (Q T:Tw)(k:Nat)(im:List Nat)(n:Nat):List (List Nat):=
 (List.range n).flatMap fun x=>if¬inS Q (T.drop (k+1)) im x∧Fits Q (T.getD k ⟨0,[],[]⟩) im x then grow Q T k (x::im)else []
theorem growTo_zero (Q T:Tw)(k:Nat)(im:List Nat):growTo Q T k im 0=[]:=rfl
theorem growTo_end (Q T:Tw)(k:Nat)(im:List Nat):growTo Q T k im (sz Q)=grow Q T (k+1) im:=rfl
theorem growTo_yes {Q T:Tw}{k:Nat}{im:List Nat}{x:Nat}(h:¬inS Q (T.drop (k+1)) im x∧Fits Q (T.getD k ⟨0,[],[]⟩) im x):growTo Q T k im (x+1)=growTo Q T k im x++grow Q T k (x::im):=by
 simp only[growTo,zq124,List.flatMap_append,zq92,List.flatMap_nil,zq95];rw[zq57 h]
theorem growTo_no {Q T:Tw}{k:Nat}{im:List Nat}{x:Nat}(h:¬(¬inS Q (T.drop (k+1)) im x∧Fits Q (T.getD k ⟨0,[],[]⟩) im x)):growTo Q T k im (x+1)=growTo Q T k im x:=by
 simp only[growTo,zq124,List.flatMap_append,zq92,List.flatMap_nil,zq95];rw[zq37 h,zq95]
theorem growTo_pre (Q T:Tw)(k:Nat)(im:List Nat){m n:Nat}(h:m≤n):∃r,growTo Q T k im n=growTo Q T k im m++r:=by
 induction n with
 |zero=>
  obtain rfl:m=0:=by omega
  exact⟨[],by simp⟩
 |succ n ih=>
  rcases zq36 n m with h'|h'
  ·obtain rfl:m=n+1:=by omega
   exact⟨[],by simp⟩
  ·obtain⟨r,hr⟩:=ih h';by_cases hc:¬inS Q (T.drop (k+1)) im n∧Fits Q (T.getD k ⟨0,[],[]⟩) im n
   ·rw[growTo_yes hc,hr];exact⟨r++grow Q T k (n::im),by simp⟩
   ·rw[growTo_no hc];exact⟨r,hr⟩
def cutB (b:Bool)(l:List (List Nat)):List (List Nat):=if b then l.take 1 else l
theorem cutB_false (l:List (List Nat)):cutB false l=l:=rfl
theorem growTo_length (Q T:Tw)(hz:sz Q≤27)(k:Nat)(hk:∀im,(grow Q T k im).length≤27^k)(im:List Nat)(n:Nat):(growTo Q T k im n).length≤n*27^k:=by
 induction n with
 |zero=>simp[growTo_zero]
 |succ n ih=>
  by_cases hc:¬inS Q (T.drop (k+1)) im n∧Fits Q (T.getD k ⟨0,[],[]⟩) im n
  ·rw[growTo_yes hc,zq31,Nat.add_mul,Nat.one_mul];exact Nat.add_le_add ih (hk _)
  ·rw[growTo_no hc];exact zq11 ih (zq84 _ (by omega))
theorem grow_length (Q T:Tw)(hz:sz Q≤27)(k:Nat):∀im,(grow Q T k im).length≤27^k:=by
 induction k with
 |zero=>intro im;simp[grow]
 |succ k ih=>
  intro im;rw[←growTo_end];refine zq11 (growTo_length Q T hz k ih im (sz Q)) ?_;rw[zq112,zq97];exact zq125 _ hz
end Go.Proofs.YtlmlamcoeegkbaaGreat.Grow
namespace Go.Proofs.YtlmlamcoeegkbaaGreat.GenD
open Go.Proofs.YtlmlamcoeegkbaaGreat Tow Gen GenC NumT ImplP ImplQ ImplS Grow
theorem at_pr {Q:Tw}(hQ:Wf Q)(i j:Nat):at_ Q (pr Q i j)=mul Q (at_ Q i) (at_ Q j):=at_num hQ (El_mul hQ (at_El hQ i) (at_El hQ j))
theorem at_zero {Q:Tw}(hQ:Wf Q):at_ Q 0=Tow.one Q:=by
 rw[←num_one (T:=Q)];exact at_num hQ (El_one hQ)
theorem at_itR {Q:Tw}(hQ:Wf Q)(c a u:Nat):at_ Q (it (fun z=>pr Q z c) a u)=it (fun z=>mul Q z (at_ Q c)) a (at_ Q u):=by
 induction a generalizing u with
 |zero=>rfl
 |succ a ih=>rw[it,it,ih,at_pr hQ]
theorem at_itL {Q:Tw}(hQ:Wf Q)(c a u:Nat):at_ Q (it (pr Q c) a u)=it (mul Q (at_ Q c)) a (at_ Q u):=by
 induction a generalizing u with
 |zero=>rfl
 |succ a ih=>rw[it,it,ih,at_pr hQ]
theorem at_prodL {Q:Tw}(hQ:Wf Q)(im es:List Nat)(u:Nat):at_ Q (prodL (pr Q) u im es)=prodL (mul Q) (at_ Q u) (im.map (at_ Q)) es:=by
 induction im generalizing u es with
 |nil=>cases es<;>rfl
 |cons c im ih=>cases es with
  |nil=>rfl
  |cons a es=>rw[zq81,prodL,prodL,ih,at_itR hQ]
theorem itL_npow {Q:Tw}(hQ:Wf Q)(hg:Tow.Good Q){x u:List Nat}(hx:El Q x)(hu:El Q u)(a:Nat):it (mul Q x) a u=mul Q (npow (mul Q) (Tow.one Q) x a) u:=by
 have G:=grp hQ hg
 induction a generalizing u with
 |zero=>exact(G.eL hu).symm
 |succ a ih=>rw[it,ih (G.cl hx hu),npow_succ,G.asc (G.npow hx a) hx hu]
theorem num_inj' {Q:Tw}{i j:Nat}(hi:i<sz Q)(hj:j<sz Q):i=j↔at_ Q i=at_ Q j:=⟨fun h=>by rw[h],fun h=>at_inj hi hj h⟩
theorem it_lt {Q:Tw}(hQ:Wf Q){f:Nat→Nat}(hf:∀z,f z<sz Q)(a u:Nat)(hu:u<sz Q):it f a u<sz Q:=it_inv (· <sz Q) f (fun z _=>hf z) a u hu
theorem prodL_lt {Q:Tw}(hQ:Wf Q)(im es:List Nat)(u:Nat)(hu:u<sz Q):prodL (pr Q) u im es<sz Q:=by
 induction im generalizing u es with
 |nil=>cases es<;>exact hu
 |cons c im ih=>cases es with
  |nil=>exact hu
  |cons a es=>exact ih es _ (it_lt hQ (fun z=>pr_lt hQ _ _) a u hu)
def FitsV (Q:Tw)(L:Lv)(im:List (List Nat))(x:List Nat):Prop:=
 npow (mul Q) (Tow.one Q) x L.o=ev (mul Q) (Tow.one Q) im L.w∧∀k y,L.c[k]?=some y→mul Q (im.getD k (Tow.one Q)) x=mul Q x (ev (mul Q) (Tow.one Q) im y)
theorem fits_iff {Q:Tw}(hQ:Wf Q)(hg:Tow.Good Q)(L:Lv)(im:List Nat)(x:Nat):Fits Q L im x↔FitsV Q L (im.map (at_ Q)) (at_ Q x):=by
 have G:=grp hQ hg;have h0:=sz_pos hQ;have hme:∀c∈im.map (at_ Q),El Q c:=by intro c hc;obtain⟨i,_,rfl⟩:=zq35.1 hc;exact at_El hQ i
 have hev:∀es,at_ Q (prodL (pr Q) 0 im es)=ev (mul Q) (Tow.one Q) (im.map (at_ Q)) es:=fun es=>by rw[at_prodL hQ,at_zero hQ,G.prodL_e hme]
 have hgd:∀k,at_ Q (im.getD k 0)=(im.map (at_ Q)).getD k (Tow.one Q):=fun k=>by
  rw[zq9,zq9,zq20];cases im[k]? with
  |none=>exact at_zero hQ
  |some i=>rfl
 unfold Fits FitsV;refine and_congr ?_ (forall_congr' fun k=>forall_congr' fun y=>imp_congr_right fun _=>?_)
 ·rw[num_inj' (it_lt hQ (fun z=>pr_lt hQ _ _) _ _ h0) (prodL_lt hQ _ _ _ h0),at_itR hQ,at_zero hQ,hev];rfl
 ·rw[num_inj' (pr_lt hQ _ _) (pr_lt hQ _ _),at_pr hQ,at_pr hQ,hev,hgd]
theorem inS_iff {Q:Tw}(hQ:Wf Q)(hg:Tow.Good Q):∀{T:Tw} {im:List Nat} {c:Nat},im.length=T.length→c<sz Q→(inS Q T im c↔∃z,El T z∧ev (mul Q) (Tow.one Q) (im.map (at_ Q)) z=at_ Q c)
 |[],[],c,_,hc=>by
  simp only[inS];constructor
  ·rintro rfl;exact⟨[],trivial,(at_zero hQ).symm⟩
  ·rintro⟨z,_,h⟩;refine(num_inj' hc (sz_pos hQ)).2 ?_;rw[at_zero hQ];cases z<;>exact h.symm
 |[],_::_,c,h,hc=>by simp at h
 |_::_,[],c,h,hc=>by simp at h
 |L::T,x::im,c,h,hc=>by
  have G:=grp hQ hg;have ih:=fun {s:Nat} (hs:s<sz Q)=>inS_iff hQ hg (T:=T) (im:=im) (c:=s) (by simpa using h) hs;simp only[inS];constructor
  ·rintro⟨j,hj,s,hs,rfl⟩;obtain⟨z,hz,e⟩:=(ih (inS_lt hQ hs)).1 hs;refine⟨j::z,⟨hj,hz⟩,?_⟩;rw[at_itL hQ,itL_npow hQ hg (at_El hQ x) (at_El hQ s),←e];rfl
  ·rintro⟨z,hz,e⟩;cases z with
   |nil=>exact hz.elim
   |cons j z=>
    have hE:El Q (ev (mul Q) (Tow.one Q) (im.map (at_ Q)) z):=G.ev (by intro c hc;obtain⟨i,_,rfl⟩:=zq35.1 hc;exact at_El hQ i) z;have hlt:=num_lt hE hQ;refine⟨j,hz.1,num Q (ev (mul Q) (Tow.one Q) (im.map (at_ Q)) z),(ih hlt).2 ⟨z,hz.2,(at_num hQ hE).symm⟩,?_⟩;have hl:it (pr Q x) j (num Q (ev (mul Q) (Tow.one Q) (im.map (at_ Q)) z))<sz Q:=it_lt hQ (fun z=>pr_lt hQ _ _) _ _ hlt;refine(num_inj' hl hc).2 ?_;rw[at_itL hQ,itL_npow hQ hg (at_El hQ x) (at_El hQ _),at_num hQ hE,←e];rfl
open Classical in
noncomputable def growV (Q T:Tw):Nat→List (List Nat)→List (List (List Nat))
 |0,im=>[im]
 |k+1,im=>(List.range (sz Q)).flatMap fun t=>if¬Gen (mul Q) (Tow.one Q) im (at_ Q t)∧FitsV Q (T.getD k ⟨0,[],[]⟩) im (at_ Q t)then growV Q T k (at_ Q t::im)else []
theorem rel_cons {Q:Tw}{L:Lv}{T:Tw}(hL:L.c.length=T.length){im:List (List Nat)}{x:List Nat}(hR:Rel (mul Q) (Tow.one Q) T im)(h:FitsV Q L im x):Rel (mul Q) (Tow.one Q) (L::T) (x::im):=by
 refine⟨h.1,fun j h1 h2=>?_,hR⟩;have:=h.2 j L.c[j] (zq0 h2);rw[zq9,zq0 h1]at this;exact this
theorem grow_growV {Q T:Tw}(hQ:Wf Q)(hg:Tow.Good Q)(hT:Wf T):∀k,k≤T.length→∀im:List Nat,Rel (mul Q) (Tow.one Q) (T.drop k) (im.map (at_ Q))→
  (grow Q T k im).map (fun l=>l.map (at_ Q))=growV Q T k (im.map (at_ Q))
 |0,_,im,_=>rfl
 |k+1,hk,im,hR=>by
  classical
  obtain⟨L,hL⟩:∃L,T[k]?=some L:=⟨_,zq0 (by omega)⟩;have hLd:T.getD k ⟨0,[],[]⟩=L:=by rw[zq9,hL];rfl
  have hl:=lvl' hT hL;have hme:∀c∈im.map (at_ Q),El Q c:=by intro c hc;obtain⟨i,_,rfl⟩:=zq35.1 hc;exact at_El hQ i
  have hlen:im.length=(T.drop (k+1)).length:=by have:=Rel_length hR;simpa using this
  rw[grow,growV,List.map_flatMap];have hcg:∀t∈List.range (sz Q),List.map (fun l=>l.map (at_ Q)) (if¬inS Q (T.drop (k+1)) im t∧Fits Q (T.getD k ⟨0,[],[]⟩) im t then grow Q T k (t::im)else [])=
    if¬Gen (mul Q) (Tow.one Q) (im.map (at_ Q)) (at_ Q t)∧FitsV Q (T.getD k ⟨0,[],[]⟩) (im.map (at_ Q)) (at_ Q t)then growV Q T k (at_ Q t::im.map (at_ Q))else []:=fun t ht=>by
   have ht':t<sz Q:=zq62.1 ht;have e1:=inS_iff hQ hg hlen ht';have e2:=gen_ev hQ hg hl.1 hme hR (at_ Q t);have e3:=fits_iff hQ hg (T.getD k ⟨0,[],[]⟩) im t;by_cases hc:¬inS Q (T.drop (k+1)) im t∧Fits Q (T.getD k ⟨0,[],[]⟩) im t
   ·have hc':¬Gen (mul Q) (Tow.one Q) (im.map (at_ Q)) (at_ Q t)∧FitsV Q (T.getD k ⟨0,[],[]⟩) (im.map (at_ Q)) (at_ Q t):=⟨fun h=>hc.1 (e1.2 (e2.1 h)),e3.1 hc.2⟩;rw[zq57 hc,zq57 hc'];refine grow_growV hQ hg hT k (by omega) (t::im) ?_;rw[drop_cons' hL];refine rel_cons (by rw[hl.2.1];simp) hR ?_;rw[←hLd];exact hc'.2
   ·have hc':¬(¬Gen (mul Q) (Tow.one Q) (im.map (at_ Q)) (at_ Q t)∧FitsV Q (T.getD k ⟨0,[],[]⟩) (im.map (at_ Q)) (at_ Q t)):=fun h=>hc ⟨fun h'=>h.1 (e2.2 (e1.1 h')),e3.2 h.2⟩;rw[zq37 hc,zq37 hc'];rfl
  have hfm:∀(l:List Nat) (F H:Nat→List (List (List Nat))),(∀t∈l,F t=H t)→l.flatMap F=l.flatMap H:=by
   intro l F H h
   induction l with
   |nil=>rfl
   |cons a l ih=>rw[zq92,zq92,h a zq24,ih (fun t ht=>h t (zq23 _ ht))]
  exact hfm _ _ _ hcg
end Go.Proofs.YtlmlamcoeegkbaaGreat.GenD

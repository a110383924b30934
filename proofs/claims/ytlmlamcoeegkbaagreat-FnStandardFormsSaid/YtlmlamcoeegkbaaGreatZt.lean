import Derived.Test.YtlmlamcoeegkbaaGreatZ0
import Derived.Test.YtlmlamcoeegkbaaGreatZd
import Derived.Test.YtlmlamcoeegkbaaGreatZf
import Derived.Test.YtlmlamcoeegkbaaGreatZa
import Derived.Test.YtlmlamcoeegkbaaGreatZb
import Derived.Laws.BitsLemmas
import Derived.Laws.Bits64
/-
  Lemmas for the law FnStandardForms, in short spelling.
-/
open Go.Lib (hid)
set_option linter.unusedVariables false
set_option linter.unusedSimpArgs false
set_option maxRecDepth 100000
set_option maxHeartbeats 40000000
namespace Go.Proofs.YtlmlamcoeegkbaaGreat.mE
open Go.RowKit Go.Proofs.YtlmlamcoeegkbaaGreat AJ RV Val WW MS ABD Cg
def WV (T:Tw)(w:World)(e:Ending)(w':World):Prop:=∃r:Nat,e= .returned (.int .i64 (r:Int))∧(r=0↔AJ.Good T)∧Below w.heap.size w w'
theorem Vm (T:Tw)(hT:Wf T)(hs:Small T)(w:World)(b o:Nat)(hP:Cn Any w b o (AX T)):
  Calls Tryz.prog 59 #[.pointer (some ⟨b,o,none⟩)] w (WV T w):=by
 have hs6:=hs.1;have HP:=hid hP;obtain⟨_,hbl,vO,vP,vC,hp0,hp1,hp2,hV⟩:=hP;obtain⟨aO,cO,aP,cP,aC,cC,rfl,rfl,rfl,Er,hP1,FP⟩:=hV.open;have HF:=hid (fun i L hL hg W hP=>jh T hT hs i L hL hg W b o hP);clear hV hp1 hp2;go_enter Tryz.func59,Tryz.ntmps59;go_wp2_with fail;clear hp0;go_loopw [3] (fun i wr=>∃k:Nat,k≤T.length∧i= .int .i64 (k:Int)∧Hid (AJ.Good (T.drop k))∧Below w.heap.size w wr) (fun i _=>(intOf i).toNat);case atStart=>exact⟨T.length,Ap _,rfl,hid (by rw[MP];trivial),Ag _ _⟩
 case round=>
  obtain⟨k,hk,rfl,hg,hb⟩:=hrel;have HB:=hid hb;clear hb;by_cases h0:k=0
  ·subst h0;go_wp2_with fail;go_ret;exact⟨0,rfl,⟨fun _=>hg.out,fun _=>rfl⟩,HB.out⟩
  ·obtain⟨i,rfl⟩:∃i,k=i+1:=⟨k-1,by omega⟩;have hd:decide (((i+1:Nat):Int)>0)=true:=by first|(simp;omega)|simp
   obtain⟨L,hL⟩:∃L,T[i]?=some L:=⟨_,AP (by omega)⟩;have HL:=hid hL;have Fq:=hid (show AJ.Good (T.drop i)↔GV L (T.drop (i+1)) from by
    rw[FZ hL,xy];exact⟨fun h=>h.2,fun h=>⟨hg.out,h⟩⟩)
   clear hL h0;by_cases hok:GV L (T.drop (i+1))
   ·have OX:=hid hok;clear hok;go_wp2_with (go_at_call 108;refine(HF.out i L HL.out hg.out _ (HP.out.keep (AA.of_below HB.out))).mono ?_;rintro e w1 ⟨k,l,a,b,rfl,hif,hbel⟩;obtain⟨rfl,rfl,rfl,rfl⟩:=hif.2 OX.out;replace hbel:=hid hbel);go_roundw;case rel=>exact⟨i,by omega,rfl,hid (Fq.out.2 OX.out),HB.out.trans (hbel.out.mono HB.out.size)⟩
    case measure=>simp[intOf]<;>omega
   ·have OX:=hid hok;clear hok;go_wp2_with (go_at_call 108;refine(HF.out i L HL.out hg.out _ (HP.out.keep (AA.of_below HB.out))).mono ?_;rintro e w1 ⟨k,l,a,b,rfl,hif,hbel⟩;replace hif:=hid (fun h=>OX.out (hif.1 h));replace hbel:=hid hbel);all_goals first
     |(go_ret;exact⟨i+1,rfl,⟨fun h=>absurd h (by omega),fun h=>absurd (Fq.out.1 (OZ h i)) OX.out⟩,HB.out.trans (hbel.out.mono HB.out.size)⟩)
     |exact(hif.out ⟨by assumption,by assumption,by assumption,by assumption⟩).elim
     |trace_state
theorem AEX {w W:World}{vO vP vC:Value}{t:TypeId}{P:Bq}(h:Aw Any w vO vP vC P)(hb:Below (w.heap.size+1) (w.alloc (.cells #[vO,vP,vC] t)) W):Cn Any W w.heap.size 0 P:=by
 have hs:=hb.size;simp at hs;obtain⟨e0,e1,e2⟩:=Cc hb;exact⟨trivial,by omega,vO,vP,vC,e0,e1,e2,h.keep (AA.of_below (Dx hb))⟩
theorem Pn (w:World)(vO vP vC:Value)(P:Bq)(hP:Aw Any w vO vP vC P):
  Calls Tryz.prog 28 #[.agg #[vO,vP,vC]] w (PM (CQ P) w):=by
 have HP:=hid hP;have HV:=hid (fun W h=>MS.Ve W vO vP vC P h);have HC:=hid (fun T (hT:Wf T) (hs:Small T) W b o h=>Vm T hT hs W b o h);clear hP;have HB:Hid (Below w.heap.size w (w.alloc (.cells #[vO,vP,vC] 28))):=hid (AR.alloc (by simp) _);by_cases hv:Valid P
 ·obtain⟨T,hT,hs,rfl⟩:=hv.tower;have FQ:=hid hv;have HT:=hid hT;have HS:=hid hs;clear hv hT hs;have SC:Hid (¬AJ.Good T→¬CQ (AX T)):=hid (fun hg h=>hg h.good);go_enter Tryz.func28,Tryz.ntmps28;go_wp2_with fail;refine(HV.out _ (HP.out.keep (AA.of_below HB.out))).mono ?_;rintro e w1 ⟨r,rfl,hr,hb1⟩;obtain rfl:=hr.2 FQ.out;have O4:=hid (AR.trans (hb1.mono (show w.heap.size+1≤_ by simp)));have HB1:=hid (Dx O4.out);have hsz:=O4.out.size;simp at hsz;clear hb1 hr;go_wp2_with (go_at_call 59;refine(HC.out T HT.out HS.out _ _ _ (AEX HP.out O4.out)).mono ?_;rintro e w2 ⟨r,rfl,hr,hb2⟩;replace hb2:=hid hb2;by_cases hr0:r=0)
  ·subst hr0;have HG:=hid (hr.1 rfl);clear hr;go_wp2_with fail;go_ret;exact TU ⟨T,HT.out,HS.out,rfl,FQ.out,HG.out⟩ (HB1.out.trans (hb2.out.mono HB1.out.size))
  ·have HG:=hid (show¬AJ.Good T from fun h=>hr0 (hr.2 h));have hd:((r:Int)==0)=false:=by simpa using hr0
   clear hr hr0;go_wp2_with fail;go_ret;refine(show∀{v},v=Value.bool false→PM (CQ (AX T)) w (.returned v) w2 from fun hv=>hv▸FE (SC.out HG.out) (HB1.out.trans (hb2.out.mono HB1.out.size))) (Bp Value.bool hd)
 ·have HN:=hid hv;have SC:Hid (¬CQ P):=hid (by rintro⟨T',_,_,_,h,_⟩;exact HN.out h);clear hv;go_enter Tryz.func28,Tryz.ntmps28;go_wp2_with fail;refine(HV.out _ (HP.out.keep (AA.of_below HB.out))).mono ?_;rintro e w1 ⟨r,rfl,hr,hb1⟩;obtain rfl:=(Bool.eq_false_iff.2 (fun h=>HN.out (hr.1 h)));have HB1:=hid (HB.out.trans (hb1.mono (by simp)));clear hb1 hr;go_wp2_with fail;go_ret;exact FE SC.out HB1.out
end Go.Proofs.YtlmlamcoeegkbaaGreat.mE
namespace Go.Proofs.YtlmlamcoeegkbaaGreat.MU
open Go.RowKit Go.Proofs.YtlmlamcoeegkbaaGreat AJ CV WS
abbrev Any:Nat→Prop:=fun _=>True
theorem AKK {T:Tw}(hT:Wf T)(hz:sz T≤729){i:Nat}{L:Lv}(hL:T[i]?=some L):1≤L.o∧L.o≤729:=by
 have h2:=xL T hT i;have h1:=(lvl' hT hL).2.2.2.2;have h4:=F8 (lvl' hT hL).1;rw[Q7 hL]at h2;have h3:L.o*1≤L.o*sz (T.drop (i+1)):=Z5 _ h4;omega
theorem ku (i a:Nat)(y:List Nat):(pad (i+1) y).set i a=pad i (a::y):=by
 unfold pad;rw[List.set_append_left _ _ (by simp),Om];simp[List.set_append]
theorem wrap_i64 {x:Int}(h1:0≤x)(h2:x≤1000000):wrap64 x=x:=by unfold wrap64;omega
def O0 (n:Nat)(w:World)(e:Ending)(w':World):Prop:=e= .returned (.int .i64 (n:Int))∧Below w.heap.size w w'
theorem I5 (T:Tw)(hT:Wf T)(hs:T.length≤6)(hz:sz T≤729)(w:World)(b o:Nat)(hP:Cn Any w b o (AX T)):
  Calls Tryz.prog 35 #[.pointer (some ⟨b,o,none⟩)] w (O0 (sz T) w):=by
 obtain⟨_,hbl,vO,vP,vC,hp0,hp1,hp2,hV⟩:=hP;obtain⟨aO,cO,aP,cP,aC,cC,rfl,rfl,rfl,Er,hP1,FP⟩:=hV.open;have HV:=hid hV;have HT:=hid hT;have HZ:=hid hz;clear hV hp1 hp2 hz hT;go_enter Tryz.func35,Tryz.ntmps35;go_wp2_with fail;clear hp0;go_loopw [3,11] (fun q i wr=>∃k:Nat,k≤T.length∧i= .int .i64 (k:Int)∧∃z:Int,q= .int .i64 z∧0≤z∧z≤729∧Hid (z*(sz (T.drop k):Int)=(sz T:Int))∧Below w.heap.size w wr) (fun _ i _=>T.length-(intOf i).toNat);case atStart=>exact⟨0,AU _,rfl,1,rfl,by omega,by omega,hid (by simp),Ag _ _⟩
 case round=>
  obtain⟨k,hk,rfl,z,rfl,hz1,hz2,hR,hb⟩:=hrel;have HB:=hid hb;clear hb;by_cases hlt:k<T.length
  ·obtain⟨L,hL⟩:∃L,T[k]?=some L:=⟨_,AP hlt⟩;obtain⟨bO,oO,rfl,_,Ch,Bc⟩:=(HV.out.keep (AA.of_below HB.out)).ord hL;have hd:decide ((k:Int)<(T.length:Int))=true:=by simp;omega
   have hE:z*(L.o:Int)*(sz (T.drop (k+1)):Int)=(sz T:Int):=by
    rw[←hR.out,Q7 hL];push_cast;rw[Int.mul_assoc]
   have b1:0≤z*(L.o:Int):=Int.mul_nonneg hz1 (by omega);have b2:z*(L.o:Int)≤729:=by
    have h1:=F8 (lvl' HT.out hL).1;have h2:z*(L.o:Int)*1≤z*(L.o:Int)*(sz (T.drop (k+1)):Int):=Int.mul_le_mul_of_nonneg_left (by omega) b1;have h3:=HZ.out;omega
   have HE:=hid hE;clear hE hL;go_wp2_with fail;go_roundw;case rel=>exact⟨k+1,by omega,by go_num,_,rfl,b1,b2,HE,HB.out⟩
   case measure=>simp[intOf];omega
  ·obtain rfl:k=T.length:=by omega
   have hd:decide ((T.length:Int)<(T.length:Int))=false:=by simp
   have hzz:z=(sz T:Int):=by have:=hR.out;rw[Tp]at this;simpa using this
   subst hzz;go_wp2_with fail;go_ret;exact⟨rfl,HB.out⟩
theorem Vd (T:Tw)(hT:Wf T)(hs:T.length≤6)(hz:sz T≤729)(w:World)(b o:Nat)(vx:Value)(x:List Nat)(hP:Cn Any w b o (AX T))(hx:AL Any w vx (ints x))(hE:El T x):
  Calls Tryz.prog 49 #[.pointer (some ⟨b,o,none⟩),vx] w (O0 (num T x) w):=by
 obtain⟨_,hbl,vO,vP,vC,hp0,hp1,hp2,hV⟩:=hP;obtain⟨aO,cO,aP,cP,aC,cC,rfl,rfl,rfl,Er,hP1,FP⟩:=hV.open;obtain⟨aX,cX,rfl,hcx⟩:=hx.open;have hxl:=Af hE;rw[hxl]at hcx hx ⊢;have HC:Hid (∀W,Below w.heap.size w W→W.cell? ⟨b,o,none⟩=some (.slice aO T.length cO)):=hid (fun W h=>((h.cell (p:=⟨b,o,none⟩) hbl).trans hp0));have HV:=hid hV;have HX:=hid hx;have HT:=hid hT;have HZ:=hid hz;have HE:=hid hE;clear hV hp1 hp2 hz hT hE hx hp0;go_enter Tryz.func49,Tryz.ntmps49;go_wp2_with fail;go_loopw [5,10] (fun q i wr=>∃k:Nat,k≤T.length∧i= .int .i64 (k:Int)∧∃z:Int,q= .int .i64 z∧0≤z∧Hid (z*(sz (T.drop k):Int)+(num (T.drop k) (x.drop k):Int)=(num T x:Int))∧Below w.heap.size w wr) (fun _ i _=>T.length-(intOf i).toNat);case atStart=>exact⟨0,AU _,rfl,0,rfl,by omega,hid (by simp),Ag _ _⟩
 case round=>
  obtain⟨k,hk,rfl,z,rfl,hz1,hR,hb⟩:=hrel;have HB:=hid hb;have hp0:=HC.out _ hb;clear hb;by_cases hlt:k<T.length
  ·obtain⟨L,hL⟩:∃L,T[k]?=some L:=⟨_,AP hlt⟩;obtain⟨a,ha⟩:∃a,x[k]?=some a:=⟨_,AP (by omega)⟩;obtain⟨bO,oO,rfl,_,Ch,Bc⟩:=(HV.out.keep (AA.of_below HB.out)).ord hL;obtain⟨bX,oX,rfl,_,hbX,FV⟩:=(HX.out.keep (AA.of_below HB.out)).at ha;have hd:decide ((k:Int)<(T.length:Int))=true:=by simp;omega
   have hE:(z*(L.o:Int)+(a:Int))*(sz (T.drop (k+1)):Int)+(num (T.drop (k+1)) (x.drop (k+1)):Int)=(num T x:Int):=by
    rw[←hR.out,Q7 hL,yw hL ha];push_cast;rw[Int.add_mul,Int.mul_assoc];omega
   have b1:0≤z*(L.o:Int):=Int.mul_nonneg hz1 (by omega);have b2:z*(L.o:Int)+(a:Int)≤729:=by
    have h1:=F8 (lvl' HT.out hL).1;have h2:(z*(L.o:Int)+(a:Int))*1≤(z*(L.o:Int)+(a:Int))*(sz (T.drop (k+1)):Int):=Int.mul_le_mul_of_nonneg_left (by omega) (by omega);have h3:=HZ.out;have h4:=He HE.out HT.out;omega
   have HE2:=hid hE;clear hE hL ha;go_wp2_with fail;go_roundw;case rel=>exact⟨k+1,by omega,by go_num,_,rfl,by omega,HE2,HB.out⟩
   case measure=>simp[intOf];omega
  ·obtain rfl:k=T.length:=by omega
   have hd:decide ((T.length:Int)<(T.length:Int))=false:=by simp
   have hzz:z=(num T x:Int):=by have:=hR.out;rw[Tp,zw]at this;simpa using this
   subst hzz;go_wp2_with fail;go_ret;exact⟨rfl,HB.out⟩
theorem MO (T:Tw)(hT:Wf T)(hs:T.length≤6)(hz:sz T≤729)(q:Nat)(hq:q≤1000000)(w:World)(b o:Nat)(hP:Cn Any w b o (AX T)):
  Calls Tryz.prog 86 #[.pointer (some ⟨b,o,none⟩),.int .i64 (q:Int)] w (Ec (ints (at_ T q)) w):=by
 obtain⟨_,hbl,vO,vP,vC,hp0,hp1,hp2,hV⟩:=hP;obtain⟨aO,cO,aP,cP,aC,cC,rfl,rfl,rfl,Er,hP1,FP⟩:=hV.open;have hmk:=Jg T.length hs;have HC:Hid (∀W,Below w.heap.size w W→W.cell? ⟨b,o,none⟩=some (.slice aO T.length cO)):=hid (fun W h=>((h.cell (p:=⟨b,o,none⟩) hbl).trans hp0));have Db:=hid (Own.made (B:=w.heap.size) w T.length AQ (by unfold maxLen;omega));have HB1:=hid ((Ag w.heap.size w).alloc AQ (.cells (madeCells #[.int .i64 0] T.length) 2));have HV:=hid hV;have HT:=hid hT;have HZ:=hid hz;have HQ:=hid hq;clear hV hp1 hp2 hz hT hq;go_enter Tryz.func86,Tryz.ntmps86;go_wp2_with fail;clear hp0;go_loopw [1,6] (fun qv iv wr=>∃k:Nat,k≤T.length∧iv= .int .i64 ((k:Int)-1)∧∃z:Nat,qv= .int .i64 (z:Int)∧Hid (z=q/sz (T.drop k)∧z≤1000000)∧∃x:List Nat,Own w.heap.size wr (.slice (some ⟨w.heap.size,0,none⟩) T.length T.length) (ints x)∧Hid (x=pad k (at_ (T.drop k) q))∧Below w.heap.size w wr) (fun _ iv _=>(intOf iv+1).toNat);case atStart=>exact⟨T.length,Ap _,rfl,q,rfl,hid ⟨by rw[Tp];simp,HQ.out⟩,AJ.one T,by have:=Db.out;rw[NT]at this;exact this,hid (by simp[at_,pad,AJ.one]),HB1.out⟩
 case round=>
  obtain⟨k,hk,rfl,z,rfl,hzz,x,hox,hx,hb⟩:=hrel;have HB:=hid hb;have Pe:=hid hox;have hp0:=HC.out _ hb;have AC5:∀u i,(wr.setCell ⟨w.heap.size,i,none⟩ u).cell? ⟨b,o,none⟩=some (.slice aO T.length cO):=fun u i=>HC.out _ (hb.setCell (p:=⟨w.heap.size,i,none⟩) AQ u);clear hb hox;by_cases h0:k=0
  ·subst h0;have hd:decide (((0:Nat):Int)-1≥0)=false:=by decide
   go_wp2_with fail;go_ret;have NB:x=at_ T q:=by have:=hx.out;simpa[pad]using this
   subst NB;have hl:(ints (at_ T q)).length=T.length:=by rw[A7,TQ]
   refine⟨w.heap.size,T.length,by rw[hl];rfl,?_,HB.out⟩;rw[hl];exact Pe.out
  ·obtain⟨i,rfl⟩:∃i,k=i+1:=⟨k-1,by omega⟩;obtain⟨L,hL⟩:∃L,T[i]?=some L:=⟨_,AP (by omega)⟩;have hii:(((i+1:Nat):Int)-1)=(i:Int):=by omega
   rw[hii];obtain⟨bO,oO,rfl,_,Ch,Ug⟩:=HV.out.ord hL;have Bc:wr.cell? ⟨bO,oO+i,none⟩=some (.int .i64 (L.o:Int)):=by rw[HB.out.cell Ch];exact Ug
   have hgw:=Pe.out.lt;have hng:bO≠w.heap.size:=by omega
   have AC6:=AKK HT.out HZ.out hL;have ho1:=AC6.1;have hxl:x.length=T.length:=by rw[hx.out,BZ,TQ,Ct];omega
   obtain⟨xi,hxi⟩:∃a,x[i]?=some a:=⟨_,AP (by omega)⟩;obtain⟨s1,f1⟩:=Pe.out.cell (j:=i) (a:=(xi:Int)) (by rw[Gg,hxi];rfl);have k1:∀u,(wr.setCell ⟨w.heap.size,i,none⟩ u).cell? ⟨bO,oO+i,none⟩=some (.int .i64 (L.o:Int)):=fun u=>by rw[(HB.out.setCell (p:=⟨w.heap.size,i,none⟩) AQ u).cell Ch];exact Ug
   have k2:∀u,(wr.setCell ⟨w.heap.size,i,none⟩ u).cell? ⟨b,o,none⟩=some (.slice (some ⟨bO,oO,none⟩) T.length cO):=fun u=>AC5 u i;have hb1:(0:Int)≤(z:Int)%(L.o:Int):=Int.emod_nonneg _ (by omega);have hne:((L.o:Int)==0)=false:=by simp;omega
   have Et:=hid hL;have Jj:=hid (show wrap64 ((z:Int)/(L.o:Int))=(z:Int)/(L.o:Int) from by
    have h1:(0:Int)≤(z:Int)/(L.o:Int):=Int.ediv_nonneg (by omega) (by omega);have h2:(z:Int)/(L.o:Int)≤(z:Int):=Int.ediv_le_self _ (by omega);have h3:=hzz.out.2;exact wrap_i64 h1 (by omega))
   clear hL h0 hii Ug AC6 AC5;go_wp2_with fail;go_roundw;case rel=>
    refine⟨i,by omega,rfl,z/L.o,by rw[Jj.out];simp,hid ⟨?_,?_⟩,pad i (at_ (T.drop i) q),?_,hid rfl,HB.out.setCell (by simp) _⟩
    ·rw[hzz.out.1,yx Et.out]
    ·exact Ab (Nat.div_le_self _ _) hzz.out.2
    ·have h:=Pe.out.MW i (z%L.o);have e:x.set i (z%L.o)=pad i (at_ (T.drop i) q):=by
      rw[hx.out,zx Et.out,hzz.out.1,ku]
     rw[e]at h;simpa using h.1
   case measure=>simp[intOf]<;>omega
end Go.Proofs.YtlmlamcoeegkbaaGreat.MU
namespace Go.Proofs.YtlmlamcoeegkbaaGreat.ABT
open Go.RowKit Go.Proofs.YtlmlamcoeegkbaaGreat AJ CV MU
def N7 (T:Tw)(k:Nat):List (List Nat):=(List.range k).map (at_ T)
theorem AE9 (T:Tw)(k:Nat):N7 T (k+1)=N7 T k++[at_ T k]:=by simp[N7,Tz]
theorem TM (T:Tw)(k:Nat):(N7 T k).length=k:=by simp[N7]
theorem AG4 (T:Tw)(hT:Wf T)(hs:T.length≤6)(hz:sz T≤729)(w:World)(b o:Nat)(hP:Cn Any w b o (AX T)):
  Calls Tryz.prog 48 #[.pointer (some ⟨b,o,none⟩)] w (KU 24 2 (N7 T (sz T)) w):=by
 obtain⟨i0,hi,hz0,hz1,hz2⟩:=CO JC;have HO:=hid (fun W h=>I5 T hT hs hz W b o h);have HA:=hid (fun q hq W h=>MO T hT hs hz q hq W b o h);have HP:=hid hP;have HZ:=hid hz;clear hP hT hz;go_enter Tryz.func48,Tryz.ntmps48;go_wp2_with fail;refine(HO.out _ HP.out).mono ?_;rintro e w0 ⟨rfl,hb0⟩;have HB0:=hid hb0;clear hb0;go_wp2_with fail;go_loopw [3,7] (fun ov i wr=>∃k:Nat,k≤sz T∧i= .int .i64 (k:Int)∧Hid (Own2 24 2 w.heap.size wr ov (N7 T k))∧Below w.heap.size w wr) (fun _ i _=>sz T-(intOf i).toNat);case atStart=>exact⟨0,AU _,rfl,hid (Own2.nil _ _ _ _),HB0.out⟩
 case round=>
  obtain⟨k,hk,rfl,ho2,hb⟩:=hrel;have HB:=hid hb;clear hb;by_cases hlt:k<sz T
  ·have hd:decide ((k:Int)<(sz T:Int))=true:=by simp;omega
   go_wp2_with fail;refine(HA.out k (by have:=HZ.out;omega) _ (HP.out.keep (AA.of_below HB.out))).mono ?_;rintro e w1 ⟨g,c,rfl,ho,hb1⟩;have HB1:=hid (HB.out.trans (hb1.mono HB.out.size));have HR:=hid (Ec.row (ho.mono (B':=w.heap.size) HB.out.size));obtain⟨us,h1,h2,h4⟩:=ho2.out.of_below hb1;have HU:=hid (And.intro h2 h4);rw[TM]at h1;clear ho hb1 h2 h4 ho2;go_wp2_with (at_builtin;(refine GQ _ rfl _ _ 25 rfl w.heap.size 24 i0 (.slice none 0 0) 1 24 Tryz.underlying25 hi hz0 hz1 hz2 rfl (by decide) _ _ _ rfl (h1.alloc _) ⟨w1.heap.size,0,none⟩ 1 1 [.slice (some ⟨g,0,none⟩) (ints (at_ T k)).length c] rfl rfl ?c1 ?c2 ?c3 ?c4 ?c5 ?_));case c1=>
    intro j u hj
    match j,hj with
    |0,hj=>simp at hj;subst hj;simp[Addr.add]
   case c2=>intro u hu;simp at hu;subst hu;rfl
   case c3=>have:=HZ.out;unfold maxLen;omega
   case c4=>have:=HZ.out;omega
   case c5=>have:=HB1.out.size;simp;omega
   ·intro v' w2 hown hgrow _;have HN:=hid (show Own2 24 2 w.heap.size w2 v' (N7 T (k+1)) from by
     rw[AE9];exact Own2.push (w:=w1.alloc _) (us:=us) (by decide) (TM T k) (h1.alloc _) HU.out.1 (fun i r u hr hu=>(HU.out.2 i r u hr hu).keep (S:=fun _=>True) (AB.alloc _) (fun _ _=>trivial)) (HR.out.keep (S:=fun _=>True) (AB.alloc _) (fun _ _=>trivial)) hown hgrow)
    have HB2:=hid (show Below w.heap.size w w2 from(HB1.out.alloc (by have:=HB1.out.size;omega) _).grown hgrow (by simp;have:=HB1.out.size;omega) (fun g hg=>(BH h1 g hg).1));have mO:(k:Int)≤729:=by have:=HZ.out;omega
    clear hown hgrow h1 HU HR;go_wp2_with fail;go_roundw;case rel=>exact⟨k+1,by omega,by go_num,HN,HB2.out⟩
    case measure=>simp[intOf];omega
  ·obtain rfl:k=sz T:=by omega
   have hd:decide ((sz T:Int)<(sz T:Int))=false:=by simp
   go_wp2_with fail;go_ret;exact⟨_,rfl,ho2.out,HB.out⟩
end Go.Proofs.YtlmlamcoeegkbaaGreat.ABT
namespace Go.Proofs.YtlmlamcoeegkbaaGreat.vR
theorem classes {α:Type}[DecidableEq α](c:Nat)(cls:α→List α):∀(n:Nat) (F:List α),F.length≤n→F.Nodup→
  (∀g∈F,g∈cls g∧(cls g).Nodup∧(cls g).length=c∧∀y∈cls g,y∈F)→(∀g∈F,∀y∈F,∀z,z∈cls g→z∈cls y→∀u,u∈cls g→u∈cls y)→c∣F.length
 |_,[],_,_,_,_=>⟨0,by simp⟩
 |0,_::_,h,_,_,_=>by simp at h
 |n+1,g::F,hl,hd,h1,h2=>by
  obtain⟨F0,TG⟩:∃F0,F0=g::F:=⟨_,rfl⟩;rw[←TG]at h1 h2 hd hl ⊢;have hg:g∈F0:=by rw[TG];exact CE
  obtain⟨a1,a2,a3,a4⟩:=h1 g hg;have e1:(F0.filter fun y=>decide (y∈cls g)).length=c:=by
   rw[←a3];refine List.Perm.length_eq ((List.perm_ext_iff_of_nodup (hd.filter _) a2).2 fun y=>?_);rw[Mc,Ht];exact⟨fun h=>h.2,fun h=>⟨a4 y h,h⟩⟩
  have e2:=List.length_eq_countP_add_countP (fun y=>decide (y∈cls g)) (l:=F0);rw[List.countP_eq_length_filter,List.countP_eq_length_filter,e1]at e2;have hpos:0<c:=by rw[←a3];exact List.length_pos_of_mem a1
  have ih:=classes c cls n (F0.filter fun y=>¬decide (y∈cls g)) (by omega) (hd.filter _) (fun y hy=>by
   rw[Mc]at hy;obtain⟨b1,b2,b3,b4⟩:=h1 y hy.1;refine⟨b1,b2,b3,fun z hz=>?_⟩;rw[Mc];refine⟨b4 z hz,?_⟩;have hn:¬y∈cls g:=by simpa using hy.2
   have:¬z∈cls g:=fun hzg=>hn (h2 y hy.1 g hg z hz hzg y b1);simpa using this) (fun a ha b hb=>h2 a (Mc.1 ha).1 b (Mc.1 hb).1)
  rw[e2];exact Nat.dvd_add ⟨1,by simp⟩ ih
structure Gr (α:Type)[Mul α] where
 e:α
 i:α→α
 Ae:∀a b c:α,a*b*c=a*(b*c)
 l:∀a:α,e*a=a
 r:∀a:α,a*e=a
 il:∀a:α,i a*a=e
 ir:∀a:α,a*i a=e
variable {α:Type} [Mul α] (G:Gr α)
theorem Gr.Yo (a b:α):G.i a*(a*b)=b:=by rw[←G.Ae,G.il,G.l]
theorem Gr.TH (a b:α):a*(G.i a*b)=b:=by rw[←G.Ae,G.ir,G.l]
theorem Gr.can (G:Gr α){a b c:α}(h:a*b=a*c):b=c:=by rw[←G.Yo a b,h,G.Yo]
theorem Gr.im (a b:α):G.i (a*b)=G.i b*G.i a:=G.can (a:=a*b) (by rw[G.ir];simp only[G.Ae,G.TH,G.ir])
theorem Gr.ii (a:α):G.i (G.i a)=a:=G.can (a:=G.i a) (by rw[G.ir,G.il])
def Gr.pw (a:α):Nat→α
 |0=>G.e
 |n+1=>Gr.pw a n*a
theorem Gr.pa (a:α)(m:Nat):∀n,G.pw a (m+n)=G.pw a m*G.pw a n
 |0=>(G.r _).symm
 |n+1=>by rw[←Nat.add_assoc,Gr.pw,Gr.pa a m n,Gr.pw,G.Ae]
theorem Gr.p1 (a:α):G.pw a 1=a:=G.l a
theorem Gr.pm (a:α)(m:Nat):∀n,G.pw a (m*n)=G.pw (G.pw a m) n
 |0=>rfl
 |n+1=>by rw[Nat.mul_succ,G.pa,Gr.pm a m n,Gr.pw]
structure Sg (H:α→Prop):Prop where
 e:H G.e
 m:∀{a b},H a→H b→H (a*b)
 i:∀{a},H a→H (G.i a)
variable {G} {H:α→Prop}
theorem Sg.pw (h:Sg G H){a:α}(ha:H a):∀n,H (G.pw a n)
 |0=>h.e
 |n+1=>h.m (Sg.pw h ha n) ha
theorem Sg.cj (h:Sg G H)(g:α):Sg G fun u=>H (G.i g*u*g):=
 ⟨by rw[G.r,G.il];exact h.e,fun {a b} ha hb=>by
  have:=h.m ha hb;simp only[G.Ae,G.TH]at this ⊢;exact this,fun {a} ha=>by
  have:=h.i ha;simp only[G.im,G.ii,G.Ae]at this ⊢;exact this⟩
variable (G)
def Mk (U:List α)(u:α):Prop:=∀S:α→Prop,Sg G S→(∀c∈U,S c)→S u
def iq (H:α→Prop)(q:Nat):List α→Prop
 |[]=>True
 |h::U=>H h∧Mk G U (G.pw h q)∧(∀k∈U,Mk G U (G.i h*k*h))∧iq H q U
def Nm (H:α→Prop)(U:List α)(g:α):Prop:=∀h∈U,H (G.i g*h*g)
variable {G}
theorem Nm.mk {U:List α}{g:α}(hH:Sg G H)(h:Nm G H U g){u:α}(hu:Mk G U u):H (G.i g*u*g):=hu _ (hH.cj g) h
theorem Nm.right {U:List α}{g v:α}(hH:Sg G H)(h:Nm G H U g)(hv:H v):Nm G H U (g*v):=fun k hk=>by
 have:=hH.m (hH.i hv) (hH.m (h k hk) hv);simp only[G.im,G.Ae]at this ⊢;exact this
theorem Nm.left {U:List α}{g h:α}(hH:Sg G H)(hg:Nm G H U g)(hc:∀k∈U,Mk G U (G.i h*k*h)):Nm G H U (h*g):=fun k hk=>by
 have:=hg.mk hH (hc k hk);simp only[G.im,G.Ae]at this ⊢;exact this
theorem Nm.pw {U:List α}{g h:α}(hH:Sg G H)(hg:Nm G H U g)(hc:∀k∈U,Mk G U (G.i h*k*h)):∀n,Nm G H U (G.pw h n*g)
 |0=>by rw[Gr.pw,G.l];exact hg
 |n+1=>by
  have hp:G.pw h (n+1)=h*G.pw h n:=by rw[GU,G.pa,G.p1]
  rw[hp,G.Ae];exact(Nm.pw hH hg hc n).left hH hc
theorem AHj {h g:α}(hH:Sg G H)(n:Nat)(v:α)(hv:H v):H (G.i (G.pw h n*g*v)*h*(G.pw h n*g*v))↔H (G.i g*h*g):=by
 have hc:h*G.pw h n=G.pw h n*h:=by
  have:=G.pa h 1 n;rw[G.p1,GU]at this;rw[←this,Gr.pw]
 have e:G.i (G.pw h n*g*v)*h*(G.pw h n*g*v)=G.i v*((G.i g*h*g)*v):=by
  have:∀z,h*(G.pw h n*z)=G.pw h n*(h*z):=fun z=>by rw[←G.Ae,hc,G.Ae]
  simp only[G.im,G.Ae,this,G.Yo]
 rw[e];constructor
 ·intro h1;have:=hH.m hv (hH.m h1 (hH.i hv));simp only[G.Ae,G.TH,G.ir,G.r]at this ⊢;exact this
 ·exact fun h1=>hH.m (hH.i hv) (hH.m h1 hv)
theorem j3 {o d:Nat}(ho:o=2∨o=3∨o=5∨o=7)(h0:0<d)(hd:d<o):∃m n,d*m=1+o*n:=by
 have h:∀o∈[2,3,5,7],∀d,d<o→0<d→∃m,m<8∧∃n,n<8∧d*m=1+o*n:=by decide
 obtain⟨m,_,n,_,e⟩:=h o (by rcases ho with rfl|rfl|rfl|rfl<;>simp) d hd h0;exact⟨m,n,e⟩
theorem root {h g:α}{q d:Nat}(hH:Sg G H)(hq:q=2∨q=3∨q=5∨q=7)(h0:0<d)(hd:d<q)(h1:H (G.i g*G.pw h q*g))(h2:H (G.i g*G.pw h d*g)):H (G.i g*h*g):=by
 obtain⟨m,n,e⟩:=j3 hq h0 hd;have a1:H (G.i g*G.pw h (d*m)*g):=by rw[G.pm];exact(hH.cj g).pw h2 m
 have a2:H (G.i g*G.pw h (q*n)*g):=by rw[G.pm];exact(hH.cj g).pw h1 n
 rw[e,G.pa,G.p1]at a1;have:=hH.m a1 (hH.i a2);simp only[G.im,G.ii,G.Ae,G.TH]at this ⊢;exact this
variable [DecidableEq α]
open Classical in
theorem step {q:Nat}(hq:q=2∨q=3∨q=5∨q=7)(hH:Sg G H)(Hl:List α)(hl:Hl.Nodup)(hm:∀v,v∈Hl↔H v)(A:List α)(hA:A.Nodup)(Yp:∀g:α,g∈A):
  ∀U,iq G H q U→q*Hl.length∣A.length→q*Hl.length∣(A.filter fun g=>decide (Nm G H U g)).length
 |[],_,hd=>by
  rw[List.filter_eq_self.2 fun a _=>by rw[Ht];exact fun h hh=>by simp at hh];exact hd
 |h::U,⟨c1,c2,c3,c4⟩,hd=>by
  have ih:=step hq hH Hl hl hm A hA Yp U c4 hd;have e2:=List.length_eq_countP_add_countP (fun g=>decide (H (G.i g*h*g))) (l:=A.filter fun g=>decide (Nm G H U g));rw[List.countP_eq_length_filter,List.countP_eq_length_filter,List.filter_filter,List.filter_filter]at e2;have e3:(A.filter fun g=>decide (Nm G H (h::U) g))=A.filter fun a=>decide (H (G.i a*h*a))&&decide (Nm G H U a):=List.filter_congr fun g _=>by
   rw[Bool.eq_iff_iff,RS,Ht,Ht,Ht];exact⟨fun hh=>⟨hh h CE,fun k hk=>hh k (Ca _ hk)⟩,fun hh k hk=>by
    rcases GR.1 hk with rfl|hk
    ·exact hh.1
    ·exact hh.2 k hk⟩
  rw[←e3]at e2;have hmem:∀g,g∈(A.filter fun a=>decide (¬decide (H (G.i a*h*a))=true)&&decide (Nm G H U a))↔¬H (G.i g*h*g)∧Nm G H U g:=fun g=>by
   rw[Mc,RS,Ht,Ht,Ht];exact⟨fun h=>h.2,fun h=>⟨Yp g,h⟩⟩
  have hq0:0<q:=by omega
  have hcm:∀g y,(y∈(List.range q).flatMap fun a=>Hl.map fun v=>G.pw h a*g*v)↔∃a,a<q∧∃v,H v∧y=G.pw h a*g*v:=fun g y=>by
   rw[List.mem_flatMap];constructor
   ·rintro⟨a,ha,hy⟩;obtain⟨v,hv,rfl⟩:=CX.1 hy;exact⟨a,Hq.1 ha,v,(hm v).1 hv,rfl⟩
   ·rintro⟨a,ha,v,hv,rfl⟩;exact⟨a,Hq.2 ha,CX.2 ⟨v,(hm v).2 hv,rfl⟩⟩
  have hca:∀g,Nm G H U g→∀n v,H v→∃a,a<q∧∃v',H v'∧G.pw h n*g*v=G.pw h a*g*v':=fun g hg n v hv=>by
   refine⟨n%q,Nat.mod_lt _ hq0,(G.i g*G.pw h (q*(n/q))*g)*v,hH.m ?_ hv,?_⟩
   ·rw[G.pm];exact(hH.cj g).pw (hg.mk hH c2) _
   ·have:G.pw h n=G.pw h (n%q)*G.pw h (q*(n/q)):=by rw[←G.pa,Nat.mod_add_div]
    rw[this];simp only[G.Ae,G.TH]
  have hcl:=classes (q*Hl.length) (fun g=>(List.range q).flatMap fun a=>Hl.map fun v=>G.pw h a*g*v) _ _ AQ (hA.filter fun a=>decide (¬decide (H (G.i a*h*a))=true)&&decide (Nm G H U a)) (fun g hg=>by
   obtain⟨g1,g2⟩:=(hmem g).1 hg;refine⟨(hcm g g).2 ⟨0,hq0,G.e,hH.e,by rw[Gr.pw,G.l,G.r]⟩,?_,?_,fun y hy=>?_⟩
   ·refine List.pairwise_flatMap.2 ⟨fun a _=>?_,?_⟩
    ·exact List.pairwise_map.2 (hl.imp fun {v v'} e hh=>e (G.can hh))
    ·refine Z7 ?_ (List.pairwise_lt_range (n:=q));intro a b ha hb hab x hx x' hx' NB;subst NB;obtain⟨v,hv,rfl⟩:=CX.1 hx;obtain⟨v',hv',e⟩:=CX.1 hx';have hbq:=Hq.1 hb;refine g1 (root hH hq (d:=b-a) (by omega) (by omega) (g2.mk hH c2) ?_);rw[show b=a+(b-a) by omega,G.pa,G.Ae,G.Ae,G.Ae]at e;have e4:=G.can e;have:G.i g*G.pw h (b-a)*g=v*G.i v':=by
      refine G.can (a:=g) ?_;simp only[G.Ae,G.TH];rw[←G.Ae g v,←e4];simp only[G.Ae,G.ir,G.r]
     rw[this];exact hH.m ((hm v).1 hv) (hH.i ((hm v').1 hv'))
   ·rw[List.length_flatMap];have:((List.range q).map fun a=>(Hl.map fun v=>G.pw h a*g*v).length)=List.replicate q Hl.length:=by
     refine List.eq_replicate_iff.2 ⟨by simp,fun b hb=>?_⟩;obtain⟨a,_,rfl⟩:=CX.1 hb;rw[Ce]
    rw[this,List.sum_replicate_nat]
   ·obtain⟨a,ha,v,hv,rfl⟩:=(hcm g y).1 hy;exact(hmem _).2 ⟨fun hh=>g1 ((AHj hH a v hv).1 hh),(g2.pw hH c3 a).right hH hv⟩) (fun g hg y hy z hz hz' u hu=>by
   obtain⟨g1,g2⟩:=(hmem g).1 hg;obtain⟨y1,y2⟩:=(hmem y).1 hy;obtain⟨a,ha,v,hv,rfl⟩:=(hcm g z).1 hz;obtain⟨b,hb,v',hv',e⟩:=(hcm y _).1 hz';obtain⟨c,hc,v'',AKL,rfl⟩:=(hcm g u).1 hu;have hk:=g2.mk hH c2;have e5:g=G.pw h (q-a+b)*y*(v'*G.i v*G.i (G.i g*G.pw h q*g)):=by
    rw[G.pa];have e6:G.pw h (q-a)*(G.pw h a*g*v)=G.pw h (q-a)*(G.pw h b*y*v'):=by rw[e]
    rw[←G.Ae,←G.Ae,←G.pa,Nat.sub_add_cancel (EG ha)]at e6;have e7:G.pw h (q-a)*G.pw h b*y*(v'*G.i v*G.i (G.i g*G.pw h q*g))=G.pw h (q-a)*(G.pw h b*y*v')*(G.i v*G.i (G.i g*G.pw h q*g)):=by simp only[G.Ae]
    rw[e7,←e6];simp only[G.im,G.ii,G.Ae,G.TH,G.Yo]
   have hw:=hH.m (hH.m hv' (hH.i hv)) (hH.i hk);refine(hcm y _).2 ?_;obtain⟨a',h1,v1,h2,h3⟩:=hca y y2 (c+(q-a+b)) ((v'*G.i v*G.i (G.i g*G.pw h q*g))*v'') (hH.m hw AKL);refine⟨a',h1,v1,h2,?_⟩;rw[←h3]
   conv=>lhs;rw[e5]
   rw[G.pa h c];simp only[G.Ae])
  have:=(Nat.dvd_add_right hcl).1 (a:=_) (by rw[GU,←e2];exact ih);exact this
theorem edge {P:Nat→Prop}(h0:¬P 0):∀n,P n→∃k,¬P k∧P (k+1)
 |0,h=>absurd h h0
 |n+1,h=>by
  by_cases hn:P n
  ·exact edge h0 n hn
  ·exact⟨n,hn,h⟩
open Classical in
theorem grows {q:Nat}(hq:q=2∨q=3∨q=5∨q=7)(hH:Sg G H)(Hl:List α)(hl:Hl.Nodup)(hm:∀v,v∈Hl↔H v)(A:List α)(hA:A.Nodup)(Yp:∀g:α,g∈A)
  (U:List α) (hc:iq G H q U) (hU:∀u,H u→Mk G U u) (Yq:∀u∈U,H u) (hd:q*Hl.length∣A.length) (hp:∀g,∃n,G.pw g (q^n)=G.e):
  ∃x,¬H x∧H (G.pw x q)∧∀h∈U,H (G.i x*h*x):=by
 have hs:=step hq hH Hl hl hm A hA Yp U hc hd;have hF:=hA.filter fun g=>decide (Nm G H U g);have hsub:Hl.length≤(A.filter fun g=>decide (Nm G H U g)).length:=Z4 hl (fun v hv=>by
  rw[Mc,Ht];have hv:=(hm v).1 hv;exact⟨Yp v,fun h hh=>hH.m (hH.m (hH.i hv) (Yq h hh)) hv⟩)
 have hpos:0<Hl.length:=List.length_pos_of_mem ((hm G.e).2 hH.e);have hlt:Hl.length<(A.filter fun g=>decide (Nm G H U g)).length:=by
  have h1:=Nat.le_of_dvd (by omega) hs;have h2:2*Hl.length≤q*Hl.length:=Nn _ (by omega);omega
 obtain⟨g,hg,hgn⟩:∃g∈A.filter fun g=>decide (Nm G H U g),¬g∈Hl:=by
  apply Classical.byContradiction;intro hh;have:=Z4 hF (l₂:=Hl) (fun x hx=>Classical.byContradiction fun hn=>hh ⟨x,hx,hn⟩);omega
 rw[Mc,Ht]at hg;have hN:=hg.2;obtain⟨n,hn⟩:=hp g;obtain⟨k,h1,h2⟩:=edge (P:=fun n=>H (G.pw g (q^n))) (by rw[Nat.pow_zero,G.p1];exact fun h=>hgn ((hm g).2 h)) n (by show H _;rw[hn];exact hH.e);refine⟨G.pw g (q^k),h1,by rw[←G.pm,←LC];exact h2,fun h hh=>?_⟩;have:∀n u,H u→H (G.i (G.pw g n)*u*G.pw g n):=fun n=>by
  induction n with
  |zero=>intro u hu;exact hH.m (hH.m (hH.i hH.e) hu) hH.e
  |succ n ih=>
   intro u hu;have:=hN.mk hH (hU _ (ih u hu));rw[Gr.pw];simp only[G.im,G.Ae]at this ⊢;exact this
 exact this _ h (Yq h hh)
end Go.Proofs.YtlmlamcoeegkbaaGreat.vR
namespace Go.Proofs.YtlmlamcoeegkbaaGreat.IM
open Go.RowKit Go.Proofs.YtlmlamcoeegkbaaGreat AJ CV MU ABT
def pr (T:Tw)(i j:Nat):Nat:=num T (mul T (at_ T i) (at_ T j))
def IZ (T:Tw)(i k:Nat):List Nat:=(List.range k).map (pr T i)
def Hy (T:Tw)(k:Nat):List (List Nat):=(List.range k).map fun i=>IZ T i (sz T)
theorem yL (T:Tw)(i k:Nat):IZ T i (k+1)=IZ T i k++[pr T i k]:=by simp[IZ,Tz]
theorem AFA (T:Tw)(k:Nat):Hy T (k+1)=Hy T k++[IZ T k (sz T)]:=by simp[Hy,Tz]
theorem Vb (T:Tw)(i k:Nat):(IZ T i k).length=k:=by simp[IZ]
theorem ZA (T:Tw)(k:Nat):(Hy T k).length=k:=by simp[Hy]
theorem zK {T:Tw}{n i:Nat}(h:i<n):(N7 T n)[i]?=some (at_ T i):=by simp[N7,h]
def Rq (e:TypeId)(B:Nat)(w:World)(v:Value)(x:List Nat):Prop:=w.ownsRow B e 1 v x.length (vals (ints x))∧(v= .slice none 0 0↔x=[])
theorem Rq.row {e:TypeId}{B:Nat}{w:World}{v:Value}{x:List Nat}(h:Rq e B w v x)(hx:0<x.length):CL e B w v x:=by
 refine⟨?_,h.1⟩;rcases h.1.2 with⟨_,hn⟩|⟨g,cap,cur,e,_⟩
 ·omega
 ·exact⟨g,cap,e⟩
theorem Rq.keep {e:TypeId}{B:Nat}{S:Nat→Prop}{w w':World}{v:Value}{x:List Nat}(h:Rq e B w v x)(hk:AA S w w')(hS:∀k,B≤k→S k):Rq e B w' v x:=⟨BM h.1 hk hS,h.2⟩
theorem yM (T:Tw)(hT:Wf T)(hs:Small T)(hg:AJ.Good T)(hz:sz T≤729)(w:World)(b o:Nat)(hP:Cn Any w b o (AX T)):
  Calls Tryz.prog 65 #[.pointer (some ⟨b,o,none⟩)] w (KU 91 3 (Hy T (sz T)) w):=by
 obtain⟨i0,hi,hz0,hz1,hz2⟩:=CO ABB;obtain⟨j0,hj,hj0,hj1,hj2⟩:=CO aZ;have HE:=hid (fun W h=>AG4 T hT hs.1 hz W b o h);have HM:Hid (∀W va vb x y,Cn Any W b o (AX T)→AL Any W va (ints x)→Ov.NN va→AL Any W vb (ints y)→El T x→El T y→Calls Tryz.prog 89 #[.pointer (some ⟨b,o,none⟩),va,vb] W (Ec (ints (mul T x y)) W)):=
  hid (fun W va vb x y hP ha hn hb hx hy=>Ov.xH T hT hs 0 (AU _) hg W b o va vb x y hP ha hn hb hx hy)
 have HN:=hid (fun W vx x hP hx hE=>Vd T hT hs.1 hz W b o vx x hP hx hE);have HP:=hid hP;have HZ:=hid hz;have HT:=hid hT;have HG:=hid hg;clear hP hT hz hs hg;go_enter Tryz.func65,Tryz.ntmps65;go_wp2_with fail;refine(HE.out _ HP.out).mono ?_;rintro e w0 ⟨v3,rfl,hE,hb0⟩;obtain⟨a3,c3,rfl,hl3,iG⟩:=hE.form;rw[TM]at hl3 ⊢;rw[TM]at hE;have HB0:=hid hb0;have Lf:=hid hE;clear hb0 hE iG hl3;go_wp2_with fail;go_loopw [4,14] (fun ov i wr=>∃k:Nat,k≤sz T∧i= .int .i64 (k:Int)∧Hid (Own2 91 3 w0.heap.size wr ov (Hy T k))∧Below w0.heap.size w0 wr) (fun _ i _=>sz T-(intOf i).toNat);case atStart=>exact⟨0,AU _,rfl,hid (Own2.nil _ _ _ _),Ag _ _⟩
 case round=>
  obtain⟨k,hk,rfl,ho2,hb⟩:=hrel;rename World=>wo;have HB:=hid hb;clear hb;by_cases hlt:k<sz T
  ·have hd:decide ((k:Int)<(sz T:Int))=true:=by simp;omega
   obtain⟨gE,cE,ux,he,OU,hgE,hcx,hrx⟩:=(Lf.out.of_below HB.out).at (zK hlt);obtain⟨rfl,_,rfl⟩:a3=some ⟨gE,0,none⟩∧True∧c3=cE:=by have h:=he;simp[TM]at h;exact⟨h.1,trivial,h.2⟩
   have HRX:=hid hrx;obtain⟨⟨gx,cx,rfl⟩,hrx⟩:=hrx;clear hrx he;go_wp2_with fail;go_loopw [7,20] (fun rv j wq=>∃m:Nat,m≤sz T∧j= .int .i64 (m:Int)∧Hid (Rq 3 wo.heap.size wq rv (IZ T k m))∧Below wo.heap.size wo wq) (fun _ j _=>sz T-(intOf j).toNat);case atStart=>exact⟨0,AU _,rfl,hid ⟨Jc _ _ _ _,by simp[IZ]⟩,Ag _ _⟩
   case round=>
    obtain⟨m,hm,rfl,hrow,hbq⟩:=hrel;have TD:=hid hbq;have Au:=hid (HB.out.trans (hbq.mono HB.out.size));clear hbq;by_cases hmt:m<sz T
    ·have hd2:decide ((m:Int)<(sz T:Int))=true:=by simp;omega
     obtain⟨gE',cE',uy,he,AKM,AKN,hcy,iw⟩:=(Lf.out.of_below Au.out).at (zK hmt);obtain⟨rfl,_,rfl⟩:gE=gE'∧True∧c3=cE':=by have h:=he;simp[TM]at h;exact⟨h.1,trivial,h.2⟩
     have VQ:=hid iw;obtain⟨⟨gy,cy,rfl⟩,iw⟩:=iw;clear iw he AKM AKN;go_wp2_with fail;refine(HM.out _ _ _ _ _ (HP.out.keep (AA.of_below (HB0.out.trans (Au.out.mono HB0.out.size)))) ((HRX.out.keep (S:=fun _=>True) (AA.of_below TD.out) (fun _ _=>trivial)).sl.mono (fun _ _=>trivial)) (fun n c=>by simp) (VQ.out.sl.mono (fun _ _=>trivial)) (Cu HT.out k) (Cu HT.out m)).mono ?_;rintro e w1 ⟨g1,c1,rfl,ho1,hb1⟩;have Db:=hid (ho1.sl.mono (S':=fun _=>True) (fun _ _=>trivial));have pW:=hid (TD.out.trans (hb1.mono TD.out.size));have O5:=hid (Au.out.trans (hb1.mono Au.out.size));have HR1:=hid (hrow.out.keep (S:=fun _=>True) (AA.of_below hb1) (fun _ _=>trivial));clear ho1 hb1 hrow VQ TD Au;go_wp2_with fail;refine(HN.out _ _ _ (HP.out.keep (AA.of_below (HB0.out.trans (O5.out.mono HB0.out.size)))) Db.out (Dl HT.out (Cu HT.out k) (Cu HT.out m))).mono ?_;rintro e w2 ⟨rfl,hb2⟩;have XU:=hid (pW.out.trans (hb2.mono pW.out.size));have AKO:=hid (O5.out.trans (hb2.mono O5.out.size));have HR2:=hid (HR1.out.keep (S:=fun _=>True) (AA.of_below hb2) (fun _ _=>trivial));have h1:=HR2.out.1;rw[Vb]at h1;clear hb2 HR1 pW O5 Db;go_wp2_with (at_builtin;refine GQ _ rfl _ _ 91 rfl wo.heap.size 3 j0 (.int .i64 0) 1 8 Tryz.underlying91 hj hj0 hj1 hj2 rfl (by decide) _ _ _ rfl (h1.alloc _) ⟨w2.heap.size,0,none⟩ 1 1 [.int .i64 ((pr T k m:Nat):Int)] rfl rfl ?c1 ?c2 ?c3 ?c4 ?c5 ?_);case c1=>
      intro j u hj
      match j,hj with
      |0,hj=>simp at hj;subst hj;simp[Addr.add,pr]
     case c2=>intro u hu;simp at hu;subst hu;rfl
     case c3=>have:=HZ.out;unfold maxLen;omega
     case c4=>have:=HZ.out;omega
     case c5=>have:=XU.out.size;simp;omega
     ·intro v' w3 hown hgrow hnil;have HNR:=hid (show Rq 3 wo.heap.size w3 v' (IZ T k (m+1)) from by
       refine⟨?_,?_⟩
       ·rw[Vb,yL];simpa[ints,vals]using hown
       ·rw[yL];simp;simpa using hnil)
      have HB3:=hid (show Below wo.heap.size wo w3 from(XU.out.alloc (by have:=XU.out.size;omega) _).grown hgrow (by simp;have:=XU.out.size;omega) (fun g hg=>(BH h1 g hg).1));have mO:(m:Int)≤729:=by have:=HZ.out;omega
      clear hown hgrow h1 HR2 hnil XU AKO;go_wp2_with fail;go_roundw;case rel=>exact⟨m+1,by omega,by go_num,HNR,HB3.out⟩
      case measure=>simp[intOf];omega
    ·obtain rfl:m=sz T:=by omega
     have hd2:decide ((sz T:Int)<(sz T:Int))=false:=by simp
     have HRR:=hid ((hrow.out.row (by rw[Vb];omega)));obtain⟨⟨gr,cr,rfl⟩,_⟩:=hrow.out.row (by rw[Vb];omega);obtain⟨us,h1,h2,h4⟩:=ho2.out.of_below TD.out;rw[ZA]at h1;have HU:=hid (And.intro h2 h4);clear h2 h4 hrow;go_wp2_with (at_builtin;refine GQ _ rfl _ _ 59 rfl w0.heap.size 91 i0 (.slice none 0 0) 1 24 Tryz.underlying59 hi hz0 hz1 hz2 rfl (by decide) _ _ _ rfl (h1.alloc _) ⟨wr.heap.size,0,none⟩ 1 1 [.slice (some ⟨gr,0,none⟩) (IZ T k (sz T)).length cr] rfl rfl ?c1 ?c2 ?c3 ?c4 ?c5 ?_);case c1=>
      intro j u hj
      match j,hj with
      |0,hj=>simp at hj;subst hj;simp[Addr.add]
     case c2=>intro u hu;simp at hu;subst hu;rfl
     case c3=>have:=HZ.out;unfold maxLen;omega
     case c4=>have:=HZ.out;omega
     case c5=>have:=Au.out.size;simp;omega
     ·intro v' w2 hown hgrow _;have VI:=hid (show Own2 91 3 w0.heap.size w2 v' (Hy T (k+1)) from by
       rw[AFA];exact Own2.push (w:=wr.alloc _) (us:=us) (by decide) (ZA T k) (h1.alloc _) HU.out.1 (fun i r u hr hu=>(HU.out.2 i r u hr hu).keep (S:=fun _=>True) (AB.alloc _) (fun _ _=>trivial)) (⟨HRR.out.1,EX (HRR.out.keep (S:=fun _=>True) (AB.alloc _) (fun _ _=>trivial)).2 HB.out.size⟩) hown hgrow)
      have HB2:=hid (show Below w0.heap.size w0 w2 from(Au.out.alloc (by have:=Au.out.size;omega) _).grown hgrow (by simp;have:=Au.out.size;omega) (fun g hg=>(BH h1 g hg).1));have mO:(k:Int)≤729:=by have:=HZ.out;omega
      clear hown hgrow h1 HU HRR;go_wp2_with fail;go_roundw;case rel=>exact⟨k+1,by omega,by go_num,VI,HB2.out⟩
      case measure=>simp[intOf];omega
  ·obtain rfl:k=sz T:=by omega
   have hd:decide ((sz T:Int)<(sz T:Int))=false:=by simp
   go_wp2_with fail;go_ret;exact⟨_,rfl,ho2.out.mono HB0.out.size,HB0.out.trans (HB.out.mono HB0.out.size)⟩
end Go.Proofs.YtlmlamcoeegkbaaGreat.IM
namespace Go.Proofs.YtlmlamcoeegkbaaGreat.JD
open Go.RowKit Go.Proofs.YtlmlamcoeegkbaaGreat AJ CV MU IM
def Cv (S:Nat→Prop)(w:World)(bg:Nat)(T:Tw):Prop:=S bg∧bg<w.heap.size∧∃v,w.cell? ⟨bg,0,none⟩=some v∧AV S w v ((Hy T (sz T)).map ints)
theorem Cv.keep {S:Nat→Prop}{w w':World}{bg:Nat}{T:Tw}(h:Cv S w bg T)(hk:AA S w w'):Cv S w' bg T:=by
 obtain⟨h1,h2,v,hc,hs⟩:=h;exact⟨h1,Ad h2 hk.size,v,by rw[hk.cell h1 h2];exact hc,hs.keep hk⟩
theorem zL {T:Tw}{i:Nat}(h:i<sz T):(Hy T (sz T))[i]?=some (IZ T i (sz T)):=by simp[Hy,h]
theorem zM {T:Tw}{i j:Nat}(h:j<sz T):(IZ T i (sz T))[j]?=some (pr T i j):=by simp[IZ,h]
theorem Cv.open {S:Nat→Prop}{w:World}{bg:Nat}{T:Tw}(h:Cv S w bg T)(hz:0<sz T):∃gt ot ct,bg<w.heap.size∧sz T≤ct∧w.cell? ⟨bg,0,none⟩=some (.slice (some ⟨gt,ot,none⟩) (sz T) ct)∧
  ∀i,i<sz T→∃gr or cr,sz T≤cr∧w.cell? ⟨gt,ot+i,none⟩=some (.slice (some ⟨gr,or,none⟩) (sz T) cr)∧∀j,j<sz T→w.cell? ⟨gr,or+j,none⟩=some (.int .i64 (pr T i j:Int)):=by
 obtain⟨h1,h2,v,hc,a,cap,rfl,hl,hm,hn,hx⟩:=h;have hl':((Hy T (sz T)).map ints).length=sz T:=by simp[ZA]
 rw[hl']at hc hl;obtain⟨gt,ot,rfl,hS,hlt,u,hu,hsl⟩:=hx 0 (ints (IZ T 0 (sz T))) (by rw[Em,zL hz];rfl);refine⟨gt,ot,cap,h2,hl,hc,fun i hi=>?_⟩;obtain⟨gt',ot',he,hS',hlt',u,hu,hsl⟩:=hx i (ints (IZ T i (sz T))) (by rw[Em,zL hi];rfl);obtain⟨rfl,rfl⟩:gt=gt'∧ot=ot':=by simpa using he
 obtain⟨a2,c2,rfl,hl2,hm2,hn2,hx2⟩:=hsl;have hr':(ints (IZ T i (sz T))).length=sz T:=by rw[A7,Vb]
 rw[hr']at hu hl2;obtain⟨gr,or,rfl,_,_,u,hu',rfl⟩:=hx2 0 (pr T i 0:Int) (by rw[Gg,zM hz];rfl);refine⟨gr,or,c2,hl2,hu,fun j hj=>?_⟩;obtain⟨gr',or',he',_,_,u,AKP,rfl⟩:=hx2 j (pr T i j:Int) (by rw[Gg,zM hj];rfl);obtain⟨rfl,rfl⟩:gr=gr'∧or=or':=by simpa using he'
 exact AKP
theorem J2 {T:Tw}(hT:Wf T)(i j:Nat):pr T i j<sz T:=He (Dl hT (Cu hT i) (Cu hT j)) hT
def XO (n:Nat)(w:World)(e:Ending)(w':World):Prop:=e= .returned (.int .i64 (n:Int))∧∃k,w'=w.drewN k
theorem NU (T:Tw)(hT:Wf T)(hz:sz T≤729)(S:Nat→Prop)(w:World)(bg:Nat)(hG:Cv S w bg T)(vx ve:Value)(xs es:List Nat)(hx:AL S w vx (ints xs))(he:AL S w ve (ints es))(hl:xs.length=es.length)(Es:es.length≤1000)
  (iN:∀x∈xs,x<sz T) (hen:∀e∈es,e≤1000):
  Calls Tryz.prog 165 #[.pointer (some ⟨bg,0,none⟩),vx,ve] w (XO (BO (pr T) 0 xs es) w):=by
 have hpos:=F8 hT;obtain⟨gt,ot,ct,hbg,hct,hc0,HR⟩:=hG.open hpos;obtain⟨aX,cX,rfl,hcx⟩:=hx.open;obtain⟨aE,cE,rfl,hce⟩:=he.open;rw[hl]at hcx hx ⊢;have HX:=hid hx;have HE:=hid he;have HRR:=hid HR;have HL:=hid hl;have HXN:=hid iN;have HEN:=hid hen;have HT:=hid hT;have HZ:=hid hz;have Kb:Hid (∀j k,Ir (pr T) 0 0 xs es j k<sz T):=hid (fun j k=>Td (· <sz T) (pr T) (fun _ _ _ _=>J2 hT _ _) 0 0 xs es hpos hpos iN j k);clear hx he HR hl iN hen hT hG;go_enter Tryz.func165,Tryz.ntmps165;go_wp2_with fail;go_loopw [7,12] (fun ov i wr=>∃k:Nat,k≤es.length∧i= .int .i64 (k:Int)∧∃z:Nat,ov= .int .i64 (z:Int)∧Hid (z=Ir (pr T) 0 0 xs es k 0∧∃m,wr=w.drewN m)) (fun _ i _=>es.length-(intOf i).toNat);case atStart=>exact⟨0,AU _,rfl,0,rfl,hid ⟨(Q5 _ _ _ _ _).symm,0,rfl⟩⟩
 case round=>
  obtain⟨k,hk,rfl,z,rfl,hR⟩:=hrel;obtain⟨m0,hw0⟩:=hR.out.2;subst hw0;by_cases hlt:k<es.length
  ·obtain⟨e,iy⟩:∃e,es[k]?=some e:=⟨_,AP hlt⟩;obtain⟨x,hxk⟩:∃x,xs[k]?=some x:=⟨_,AP (by rw[HL.out];exact hlt)⟩;obtain⟨bE,oE,rfl,_,OU,Qs⟩:=HE.out.at iy;obtain⟨bX,oX,rfl,_,hbX,FV⟩:=HX.out.at hxk;have AKQ:=HXN.out x (Ar hxk);have AMN:=HEN.out e (Ar iy);have hd:decide ((k:Int)<(es.length:Int))=true:=by simp;omega
   have HXK:=hid hxk;have HEK:=hid iy;clear hxk iy;go_wp2_with fail;go_loopw [7,18] (fun ov j wr=>∃q:Nat,q≤e∧j= .int .i64 (q:Int)∧∃z:Nat,ov= .int .i64 (z:Int)∧Hid (z=Ir (pr T) 0 0 xs es k q∧∃m,wr=w.drewN m)) (fun _ j _=>e-(intOf j).toNat);case atStart=>exact⟨0,AU _,rfl,z,rfl,hid ⟨hR.out.1,m0,rfl⟩⟩
   case round=>
    obtain⟨q,hq,rfl,z,rfl,hR2⟩:=hrel;obtain⟨m1,hw1⟩:=hR2.out.2;subst hw1;by_cases hqe:q<e
    ·have hd2:decide ((q:Int)<(e:Int))=true:=by simp;omega
     have AKR:z<sz T:=by rw[hR2.out.1];exact Kb.out _ _
     obtain⟨gr,or,cr,hcr,AKS,pX⟩:=HRR.out z AKR;have AMO:=pX x AKQ;have hgD:xs.getD k 0=x:=by rw[Bg,HXK.out];rfl
     have NP:=hid hgD;clear pX hgD;go_wp2_with fail;go_quiet (fail);go_wp2_with fail;go_roundw;case rel=>exact⟨q+1,by omega,by go_num,pr T z x,rfl,hid ⟨by rw[TV,NP.out,←hR2.out.1],m1+nq,by first|rfl|rw[Oo]⟩⟩
     case measure=>simp[intOf];omega
    ·obtain rfl:q=e:=by omega
     have hd2:decide ((q:Int)<(q:Int))=false:=by simp
     go_wp2_with fail;go_roundw;case rel=>exact⟨k+1,by omega,by go_num,z,rfl,hid ⟨by rw[hR2.out.1,TW _ _ _ _ _ _ _ (by rw[HL.out];exact hlt) HEK.out],m1,rfl⟩⟩
     case measure=>simp[intOf];omega
  ·obtain rfl:k=es.length:=by omega
   have hd:decide ((es.length:Int)<(es.length:Int))=false:=by simp
   go_wp2_with fail;go_ret;refine⟨AHy ?_,m0,rfl⟩;rw[hR.out.1,Tc _ _ _ _ _ _ (by rw[HL.out];exact Ap _) AQ]
end Go.Proofs.YtlmlamcoeegkbaaGreat.JD
namespace Go.Proofs.YtlmlamcoeegkbaaGreat.Mask
open Go
theorem lC (n:Int)(h0:0≤n)(h1:n<2^63):IntKind.u64.wrap n=n:=by rw[IntKind.wrap_u64];omega
theorem test_eq (M a:Nat)(_ha:a≤31)(hM:M<2^32):(bits .and .u64 ((M:Int)/2^a) 1==1)=M.testBit a:=by
 have e1:((M:Int)/2^a)=((M/2^a:Nat):Int):=by push_cast;rfl
 have hlt:M/2^a<2^63:=Nat.lt_of_le_of_lt (Nat.div_le_self _ _) (Ad hM (by decide));have h:=(bits_nat .u64 63 (by decide) lC (M/2^a) 1 hlt (by decide)).1;rw[e1];have e2:bits .and .u64 ((M/2^a:Nat):Int) 1=((M/2^a &&& 1:Nat):Int):=h;rw[e2,Nat.testBit,Nat.shiftRight_eq_div_pow,Nat.and_comm 1];have h01:=Nat.and_one_is_mod (M/2^a);rw[h01];rcases Nat.mod_two_eq_zero_or_one (M/2^a)with h|h<;>rw[h]<;>rfl
theorem AAp (a:Nat)(ha:a≤31):2^a<2^32:=Nat.pow_lt_pow_right (by decide) (by omega)
theorem set_eq (O a:Nat)(ha:a≤31)(hO:O<2^32):bits .or .u64 (O:Int) (IntKind.u64.wrap (2^a))=((O ||| 2^a:Nat):Int):=by
 have e1:((2:Int)^a)=((2^a:Nat):Int):=by push_cast;rfl
 have hp:=AAp a ha;have h63:(2:Nat)^32<2^63:=by decide
 have hlt:((2^a:Nat):Int)<((2^63:Nat):Int):=Int.ofNat_lt.2 (Nat.lt_trans hp h63);rw[e1,lC _ (Int.natCast_nonneg _) (by simpa using hlt)];exact(bits_nat .u64 63 (by decide) lC O (2^a) (Nat.lt_trans hO h63) (Nat.lt_trans hp h63)).2
theorem AAq (O a:Nat)(ha:a≤31)(hO:O<2^32):O ||| 2^a<2^32:=Nat.or_lt_two_pow hO (AAp a ha)
theorem zN (O a c:Nat):(O ||| 2^a).testBit c=(O.testBit c||decide (a=c)):=by rw[Nat.testBit_or,Nat.testBit_two_pow]
end Go.Proofs.YtlmlamcoeegkbaaGreat.Mask

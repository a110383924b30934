import Derived.Test.YtaadbccidfdniaaGreatZ0
import Derived.Test.YtaadbccidfdniaaGreatZd
import Derived.Test.YtaadbccidfdniaaGreatZe
import Derived.Test.YtaadbccidfdniaaGreatZa
import Derived.Test.YtaadbccidfdniaaGreatZb
import Derived.Laws.BitsLemmas
import Derived.Laws.Bits64
/-
  Lemmas for the law FnCopies, in short spelling.
-/
open Go.Lib (hid)
set_option linter.unusedVariables false
set_option linter.unusedSimpArgs false
set_option maxRecDepth 100000
set_option maxHeartbeats 40000000
namespace Go.Proofs.YtaadbccidfdniaaGreat.Yj
open Go.RowKit Go.Proofs.YtaadbccidfdniaaGreat AB RL Val Vu Ni ADP Ct
def Yb (T:Tw)(w:World)(e:Ending)(w':World):Prop:=∃r:Nat,e= .returned (.int .i64 (r:Int))∧(r=0↔AB.Good T)∧Below w.heap.size w w'
theorem Xy (T:Tw)(hT:Wf T)(hs:Small T)(w:World)(b o:Nat)(hP:BN Any w b o (AQ T)):
  Calls Tryz.prog 32 #[.pointer (some ⟨b,o,none⟩)] w (Yb T w):=by
 have hs6:=hs.1;have HP:=hid hP;obtain⟨_,hbl,vO,vP,vC,hp0,hp1,hp2,hV⟩:=hP;obtain⟨aO,cO,aP,cP,aC,cC,rfl,rfl,rfl,Eo,hP1,FC⟩:=hV.open;have HF:=hid (fun i L hL hg W hP=>pI T hT hs i L hL hg W b o hP);clear hV hp1 hp2;go_enter Tryz.func32,Tryz.ntmps32;go_wp2_with fail;clear hp0;go_loopw [3] (fun i wr=>∃k:Nat,k≤T.length∧i= .int .i64 (k:Int)∧Hid (AB.Good (T.drop k))∧Below w.heap.size w wr) (fun i _=>(intOf i).toNat);case atStart=>exact⟨T.length,Av _,rfl,hid (by rw[Nb];trivial),A7 _ _⟩
 case round=>
  obtain⟨k,hk,rfl,hg,hb⟩:=hrel;have HB:=hid hb;clear hb;by_cases h0:k=0
  ·subst h0;go_wp2_with fail;go_ret;exact⟨0,rfl,⟨fun _=>hg.out,fun _=>rfl⟩,HB.out⟩
  ·obtain⟨i,rfl⟩:∃i,k=i+1:=⟨k-1,by omega⟩;have hd:decide (((i+1:Nat):Int)>0)=true:=by first|(simp;omega)|simp
   obtain⟨L,hL⟩:∃L,T[i]?=some L:=⟨_,AO (by omega)⟩;have HL:=hid hL;have GH:=hid (show AB.Good (T.drop i)↔Gq L (T.drop (i+1)) from by
    rw[Fw hL,AAp];exact⟨fun h=>h.2,fun h=>⟨hg.out,h⟩⟩)
   clear hL h0;by_cases hok:Gq L (T.drop (i+1))
   ·have NM:=hid hok;clear hok;go_wp2_with (go_at_call 67;refine(HF.out i L HL.out hg.out _ (HP.out.keep (AA.of_below HB.out))).mono ?_;rintro e w1 ⟨k,l,a,b,rfl,hif,hbel⟩;obtain⟨rfl,rfl,rfl,rfl⟩:=hif.2 NM.out;replace hbel:=hid hbel);go_roundw;case rel=>exact⟨i,by omega,rfl,hid (GH.out.2 NM.out),HB.out.trans (hbel.out.mono HB.out.size)⟩
    case measure=>simp[intOf]<;>omega
   ·have NM:=hid hok;clear hok;go_wp2_with (go_at_call 67;refine(HF.out i L HL.out hg.out _ (HP.out.keep (AA.of_below HB.out))).mono ?_;rintro e w1 ⟨k,l,a,b,rfl,hif,hbel⟩;replace hif:=hid (fun h=>NM.out (hif.1 h));replace hbel:=hid hbel);all_goals first
     |(go_ret;exact⟨i+1,rfl,⟨fun h=>absurd h (by omega),fun h=>absurd (GH.out.1 (PZ h i)) NM.out⟩,HB.out.trans (hbel.out.mono HB.out.size)⟩)
     |exact(hif.out ⟨by assumption,by assumption,by assumption,by assumption⟩).elim
     |trace_state
theorem AHT {w W:World}{vO vP vC:Value}{t:TypeId}{P:Bu}(h:BC Any w vO vP vC P)(hb:Below (w.heap.size+1) (w.alloc (.cells #[vO,vP,vC] t)) W):BN Any W w.heap.size 0 P:=by
 have hs:=hb.size;simp at hs;obtain⟨e0,e1,e2⟩:=Cq hb;exact⟨trivial,by omega,vO,vP,vC,e0,e1,e2,h.keep (AA.of_below (Dq hb))⟩
theorem Su (w:World)(vO vP vC:Value)(P:Bu)(hP:BC Any w vO vP vC P):
  Calls Tryz.prog 16 #[.agg #[vO,vP,vC]] w (QN (Bb P) w):=by
 have HP:=hid hP;have HV:=hid (fun W h=>Ni.VI W vO vP vC P h);have HC:=hid (fun T (hT:Wf T) (hs:Small T) W b o h=>Xy T hT hs W b o h);clear hP;have HB:Hid (Below w.heap.size w (w.alloc (.cells #[vO,vP,vC] 28))):=hid (AX.alloc (by simp) _);by_cases hv:Valid P
 ·obtain⟨T,hT,hs,rfl⟩:=hv.tower;have NB:=hid hv;have HT:=hid hT;have HS:=hid hs;clear hv hT hs;have Uy:Hid (¬AB.Good T→¬Bb (AQ T)):=hid (fun hg h=>hg h.good);go_enter Tryz.func16,Tryz.ntmps16;go_wp2_with fail;refine(HV.out _ (HP.out.keep (AA.of_below HB.out))).mono ?_;rintro e w1 ⟨r,rfl,hr,hb1⟩;obtain rfl:=hr.2 NB.out;have QA:=hid (AX.trans (hb1.mono (show w.heap.size+1≤_ by simp)));have HB1:=hid (Dq QA.out);have hsz:=QA.out.size;simp at hsz;clear hb1 hr;go_wp2_with (go_at_call 32;refine(HC.out T HT.out HS.out _ _ _ (AHT HP.out QA.out)).mono ?_;rintro e w2 ⟨r,rfl,hr,hb2⟩;replace hb2:=hid hb2;by_cases hr0:r=0)
  ·subst hr0;have HG:=hid (hr.1 rfl);clear hr;go_wp2_with fail;go_ret;exact VS ⟨T,HT.out,HS.out,rfl,NB.out,HG.out⟩ (HB1.out.trans (hb2.out.mono HB1.out.size))
  ·have HG:=hid (show¬AB.Good T from fun h=>hr0 (hr.2 h));have hd:((r:Int)==0)=false:=by simpa using hr0
   clear hr hr0;go_wp2_with fail;go_ret;refine(show∀{v},v=Value.bool false→QN (Bb (AQ T)) w (.returned v) w2 from fun hv=>hv▸FV (Uy.out HG.out) (HB1.out.trans (hb2.out.mono HB1.out.size))) (BM Value.bool hd)
 ·have HN:=hid hv;have Uy:Hid (¬Bb P):=hid (by rintro⟨T',_,_,_,h,_⟩;exact HN.out h);clear hv;go_enter Tryz.func16,Tryz.ntmps16;go_wp2_with fail;refine(HV.out _ (HP.out.keep (AA.of_below HB.out))).mono ?_;rintro e w1 ⟨r,rfl,hr,hb1⟩;obtain rfl:=(Bool.eq_false_iff.2 (fun h=>HN.out (hr.1 h)));have HB1:=hid (HB.out.trans (hb1.mono (by simp)));clear hb1 hr;go_wp2_with fail;go_ret;exact FV Uy.out HB1.out
end Go.Proofs.YtaadbccidfdniaaGreat.Yj
namespace Go.Proofs.YtaadbccidfdniaaGreat.JV
open Go.RowKit Go.Proofs.YtaadbccidfdniaaGreat AB CU Vs
abbrev Any:Nat→Prop:=fun _=>True
theorem ANJ {T:Tw}(hT:Wf T)(hz:sz T≤729){i:Nat}{L:Lv}(hL:T[i]?=some L):1≤L.o∧L.o≤729:=by
 have h2:=AAS T hT i;have h1:=(lvl' hT hL).2.2.2.2;have h4:=JQ (lvl' hT hL).1;rw[S9 hL]at h2;have h3:L.o*1≤L.o*sz (T.drop (i+1)):=iY _ h4;omega
theorem qa (i a:Nat)(y:List Nat):(pad (i+1) y).set i a=pad i (a::y):=by
 unfold pad;rw[List.set_append_left _ _ (by simp),Pp];simp[List.set_append]
theorem wrap_i64 {x:Int}(h1:0≤x)(h2:x≤1000000):wrap64 x=x:=by unfold wrap64;omega
def QB (n:Nat)(w:World)(e:Ending)(w':World):Prop:=e= .returned (.int .i64 (n:Int))∧Below w.heap.size w w'
theorem LJ (T:Tw)(hT:Wf T)(hs:T.length≤6)(hz:sz T≤729)(w:World)(b o:Nat)(hP:BN Any w b o (AQ T)):
  Calls Tryz.prog 17 #[.pointer (some ⟨b,o,none⟩)] w (QB (sz T) w):=by
 obtain⟨_,hbl,vO,vP,vC,hp0,hp1,hp2,hV⟩:=hP;obtain⟨aO,cO,aP,cP,aC,cC,rfl,rfl,rfl,Eo,hP1,FC⟩:=hV.open;have HV:=hid hV;have HT:=hid hT;have HZ:=hid hz;clear hV hp1 hp2 hz hT;go_enter Tryz.func17,Tryz.ntmps17;go_wp2_with fail;clear hp0;go_loopw [3,11] (fun q i wr=>∃k:Nat,k≤T.length∧i= .int .i64 (k:Int)∧∃z:Int,q= .int .i64 z∧0≤z∧z≤729∧Hid (z*(sz (T.drop k):Int)=(sz T:Int))∧Below w.heap.size w wr) (fun _ i _=>T.length-(intOf i).toNat);case atStart=>exact⟨0,AU _,rfl,1,rfl,by omega,by omega,hid (by simp),A7 _ _⟩
 case round=>
  obtain⟨k,hk,rfl,z,rfl,hz1,hz2,hR,hb⟩:=hrel;have HB:=hid hb;clear hb;by_cases hlt:k<T.length
  ·obtain⟨L,hL⟩:∃L,T[k]?=some L:=⟨_,AO hlt⟩;obtain⟨bO,oO,rfl,_,CQ,BS⟩:=(HV.out.keep (AA.of_below HB.out)).ord hL;have hd:decide ((k:Int)<(T.length:Int))=true:=by simp;omega
   have hE:z*(L.o:Int)*(sz (T.drop (k+1)):Int)=(sz T:Int):=by
    rw[←hR.out,S9 hL];push_cast;rw[Int.mul_assoc]
   have b1:0≤z*(L.o:Int):=Int.mul_nonneg hz1 (by omega);have b2:z*(L.o:Int)≤729:=by
    have h1:=JQ (lvl' HT.out hL).1;have h2:z*(L.o:Int)*1≤z*(L.o:Int)*(sz (T.drop (k+1)):Int):=Int.mul_le_mul_of_nonneg_left (by omega) b1;have h3:=HZ.out;omega
   have HE:=hid hE;clear hE hL;go_wp2_with fail;go_roundw;case rel=>exact⟨k+1,by omega,by go_num,_,rfl,b1,b2,HE,HB.out⟩
   case measure=>simp[intOf];omega
  ·obtain rfl:k=T.length:=by omega
   have hd:decide ((T.length:Int)<(T.length:Int))=false:=by simp
   have hzz:z=(sz T:Int):=by have:=hR.out;rw[Vf]at this;simpa using this
   subst hzz;go_wp2_with fail;go_ret;exact⟨rfl,HB.out⟩
theorem eB (T:Tw)(hT:Wf T)(hs:T.length≤6)(hz:sz T≤729)(w:World)(b o:Nat)(vx:Value)(x:List Nat)(hP:BN Any w b o (AQ T))(hx:AL Any w vx (ints x))(hE:El T x):
  Calls Tryz.prog 69 #[.pointer (some ⟨b,o,none⟩),vx] w (QB (num T x) w):=by
 obtain⟨_,hbl,vO,vP,vC,hp0,hp1,hp2,hV⟩:=hP;obtain⟨aO,cO,aP,cP,aC,cC,rfl,rfl,rfl,Eo,hP1,FC⟩:=hV.open;obtain⟨aX,cX,rfl,hcx⟩:=hx.open;have hxl:=AZ hE;rw[hxl]at hcx hx ⊢;have HC:Hid (∀W,Below w.heap.size w W→W.cell? ⟨b,o,none⟩=some (.slice aO T.length cO)):=hid (fun W h=>((h.cell (p:=⟨b,o,none⟩) hbl).trans hp0));have HV:=hid hV;have HX:=hid hx;have HT:=hid hT;have HZ:=hid hz;have HE:=hid hE;clear hV hp1 hp2 hz hT hE hx hp0;go_enter Tryz.func69,Tryz.ntmps69;go_wp2_with fail;go_loopw [5,10] (fun q i wr=>∃k:Nat,k≤T.length∧i= .int .i64 (k:Int)∧∃z:Int,q= .int .i64 z∧0≤z∧Hid (z*(sz (T.drop k):Int)+(num (T.drop k) (x.drop k):Int)=(num T x:Int))∧Below w.heap.size w wr) (fun _ i _=>T.length-(intOf i).toNat);case atStart=>exact⟨0,AU _,rfl,0,rfl,by omega,hid (by simp),A7 _ _⟩
 case round=>
  obtain⟨k,hk,rfl,z,rfl,hz1,hR,hb⟩:=hrel;have HB:=hid hb;have hp0:=HC.out _ hb;clear hb;by_cases hlt:k<T.length
  ·obtain⟨L,hL⟩:∃L,T[k]?=some L:=⟨_,AO hlt⟩;obtain⟨a,ha⟩:∃a,x[k]?=some a:=⟨_,AO (by omega)⟩;obtain⟨bO,oO,rfl,_,CQ,BS⟩:=(HV.out.keep (AA.of_below HB.out)).ord hL;obtain⟨bX,oX,rfl,_,hbX,Fh⟩:=(HX.out.keep (AA.of_below HB.out)).at ha;have hd:decide ((k:Int)<(T.length:Int))=true:=by simp;omega
   have hE:(z*(L.o:Int)+(a:Int))*(sz (T.drop (k+1)):Int)+(num (T.drop (k+1)) (x.drop (k+1)):Int)=(num T x:Int):=by
    rw[←hR.out,S9 hL,ABP hL ha];push_cast;rw[Int.add_mul,Int.mul_assoc];omega
   have b1:0≤z*(L.o:Int):=Int.mul_nonneg hz1 (by omega);have b2:z*(L.o:Int)+(a:Int)≤729:=by
    have h1:=JQ (lvl' HT.out hL).1;have h2:(z*(L.o:Int)+(a:Int))*1≤(z*(L.o:Int)+(a:Int))*(sz (T.drop (k+1)):Int):=Int.mul_le_mul_of_nonneg_left (by omega) (by omega);have h3:=HZ.out;have h4:=KZ HE.out HT.out;omega
   have HE2:=hid hE;clear hE hL ha;go_wp2_with fail;go_roundw;case rel=>exact⟨k+1,by omega,by go_num,_,rfl,by omega,HE2,HB.out⟩
   case measure=>simp[intOf];omega
  ·obtain rfl:k=T.length:=by omega
   have hd:decide ((T.length:Int)<(T.length:Int))=false:=by simp
   have hzz:z=(num T x:Int):=by have:=hR.out;rw[Vf,AB5]at this;simpa using this
   subst hzz;go_wp2_with fail;go_ret;exact⟨rfl,HB.out⟩
theorem MZ (T:Tw)(hT:Wf T)(hs:T.length≤6)(hz:sz T≤729)(q:Nat)(hq:q≤1000000)(w:World)(b o:Nat)(hP:BN Any w b o (AQ T)):
  Calls Tryz.prog 37 #[.pointer (some ⟨b,o,none⟩),.int .i64 (q:Int)] w (Ej (ints (at_ T q)) w):=by
 obtain⟨_,hbl,vO,vP,vC,hp0,hp1,hp2,hV⟩:=hP;obtain⟨aO,cO,aP,cP,aC,cC,rfl,rfl,rfl,Eo,hP1,FC⟩:=hV.open;have hmk:=Kl T.length hs;have HC:Hid (∀W,Below w.heap.size w W→W.cell? ⟨b,o,none⟩=some (.slice aO T.length cO)):=hid (fun W h=>((h.cell (p:=⟨b,o,none⟩) hbl).trans hp0));have DD:=hid (Own.made (B:=w.heap.size) w T.length AR (by unfold maxLen;omega));have HB1:=hid ((A7 w.heap.size w).alloc AR (.cells (madeCells #[.int .i64 0] T.length) 2));have HV:=hid hV;have HT:=hid hT;have HZ:=hid hz;have HQ:=hid hq;clear hV hp1 hp2 hz hT hq;go_enter Tryz.func37,Tryz.ntmps37;go_wp2_with fail;clear hp0;go_loopw [1,6] (fun qv iv wr=>∃k:Nat,k≤T.length∧iv= .int .i64 ((k:Int)-1)∧∃z:Nat,qv= .int .i64 (z:Int)∧Hid (z=q/sz (T.drop k)∧z≤1000000)∧∃x:List Nat,Own w.heap.size wr (.slice (some ⟨w.heap.size,0,none⟩) T.length T.length) (ints x)∧Hid (x=pad k (at_ (T.drop k) q))∧Below w.heap.size w wr) (fun _ iv _=>(intOf iv+1).toNat);case atStart=>exact⟨T.length,Av _,rfl,q,rfl,hid ⟨by rw[Vf];simp,HQ.out⟩,AB.one T,by have:=DD.out;rw[OX]at this;exact this,hid (by simp[at_,pad,AB.one]),HB1.out⟩
 case round=>
  obtain⟨k,hk,rfl,z,rfl,hzz,x,hox,hx,hb⟩:=hrel;have HB:=hid hb;have QZ:=hid hox;have hp0:=HC.out _ hb;have AEv:∀u i,(wr.setCell ⟨w.heap.size,i,none⟩ u).cell? ⟨b,o,none⟩=some (.slice aO T.length cO):=fun u i=>HC.out _ (hb.setCell (p:=⟨w.heap.size,i,none⟩) AR u);clear hb hox;by_cases h0:k=0
  ·subst h0;have hd:decide (((0:Nat):Int)-1≥0)=false:=by decide
   go_wp2_with fail;go_ret;have SF:x=at_ T q:=by have:=hx.out;simpa[pad]using this
   subst SF;have hl:(ints (at_ T q)).length=T.length:=by rw[BL,VK]
   refine⟨w.heap.size,T.length,by rw[hl];rfl,?_,HB.out⟩;rw[hl];exact QZ.out
  ·obtain⟨i,rfl⟩:∃i,k=i+1:=⟨k-1,by omega⟩;obtain⟨L,hL⟩:∃L,T[i]?=some L:=⟨_,AO (by omega)⟩;have hii:(((i+1:Nat):Int)-1)=(i:Int):=by omega
   rw[hii];obtain⟨bO,oO,rfl,_,CQ,WN⟩:=HV.out.ord hL;have BS:wr.cell? ⟨bO,oO+i,none⟩=some (.int .i64 (L.o:Int)):=by rw[HB.out.cell CQ];exact WN
   have hgw:=QZ.out.lt;have hng:bO≠w.heap.size:=by omega
   have ZA:=ANJ HT.out HZ.out hL;have ho1:=ZA.1;have hxl:x.length=T.length:=by rw[hx.out,Bg,VK,Cx];omega
   obtain⟨xi,hxi⟩:∃a,x[i]?=some a:=⟨_,AO (by omega)⟩;obtain⟨s1,f1⟩:=QZ.out.cell (j:=i) (a:=(xi:Int)) (by rw[Fx,hxi];rfl);have k1:∀u,(wr.setCell ⟨w.heap.size,i,none⟩ u).cell? ⟨bO,oO+i,none⟩=some (.int .i64 (L.o:Int)):=fun u=>by rw[(HB.out.setCell (p:=⟨w.heap.size,i,none⟩) AR u).cell CQ];exact WN
   have k2:∀u,(wr.setCell ⟨w.heap.size,i,none⟩ u).cell? ⟨b,o,none⟩=some (.slice (some ⟨bO,oO,none⟩) T.length cO):=fun u=>AEv u i;have hb1:(0:Int)≤(z:Int)%(L.o:Int):=Int.emod_nonneg _ (by omega);have hne:((L.o:Int)==0)=false:=by simp;omega
   have EN:=hid hL;have KQ:=hid (show wrap64 ((z:Int)/(L.o:Int))=(z:Int)/(L.o:Int) from by
    have h1:(0:Int)≤(z:Int)/(L.o:Int):=Int.ediv_nonneg (by omega) (by omega);have h2:(z:Int)/(L.o:Int)≤(z:Int):=Int.ediv_le_self _ (by omega);have h3:=hzz.out.2;exact wrap_i64 h1 (by omega))
   clear hL h0 hii WN ZA AEv;go_wp2_with fail;go_roundw;case rel=>
    refine⟨i,by omega,rfl,z/L.o,by rw[KQ.out];simp,hid ⟨?_,?_⟩,pad i (at_ (T.drop i) q),?_,hid rfl,HB.out.setCell (by simp) _⟩
    ·rw[hzz.out.1,ABQ EN.out]
    ·exact Ad (Nat.div_le_self _ _) hzz.out.2
    ·have h:=QZ.out.Nh i (z%L.o);have e:x.set i (z%L.o)=pad i (at_ (T.drop i) q):=by
      rw[hx.out,AB6 EN.out,hzz.out.1,qa]
     rw[e]at h;simpa using h.1
   case measure=>simp[intOf]<;>omega
end Go.Proofs.YtaadbccidfdniaaGreat.JV
namespace Go.Proofs.YtaadbccidfdniaaGreat.ADd
open Go.RowKit Go.Proofs.YtaadbccidfdniaaGreat AB CU JV
def Oq (T:Tw)(k:Nat):List (List Nat):=(List.range k).map (at_ T)
theorem AH2 (T:Tw)(k:Nat):Oq T (k+1)=Oq T k++[at_ T k]:=by simp[Oq,Pw]
theorem VG (T:Tw)(k:Nat):(Oq T k).length=k:=by simp[Oq]
theorem qc (T:Tw)(hT:Wf T)(hs:T.length≤6)(hz:sz T≤729)(w:World)(b o:Nat)(hP:BN Any w b o (AQ T)):
  Calls Tryz.prog 68 #[.pointer (some ⟨b,o,none⟩)] w (TZ 24 2 (Oq T (sz T)) w):=by
 obtain⟨i0,hi,hz0,hz1,hz2⟩:=Bt Ie;have HO:=hid (fun W h=>LJ T hT hs hz W b o h);have HA:=hid (fun q hq W h=>MZ T hT hs hz q hq W b o h);have HP:=hid hP;have HZ:=hid hz;clear hP hT hz;go_enter Tryz.func68,Tryz.ntmps68;go_wp2_with fail;refine(HO.out _ HP.out).mono ?_;rintro e w0 ⟨rfl,hb0⟩;have HB0:=hid hb0;clear hb0;go_wp2_with fail;go_loopw [3,7] (fun ov i wr=>∃k:Nat,k≤sz T∧i= .int .i64 (k:Int)∧Hid (Own2 24 2 w.heap.size wr ov (Oq T k))∧Below w.heap.size w wr) (fun _ i _=>sz T-(intOf i).toNat);case atStart=>exact⟨0,AU _,rfl,hid (Own2.nil _ _ _ _),HB0.out⟩
 case round=>
  obtain⟨k,hk,rfl,ho2,hb⟩:=hrel;have HB:=hid hb;clear hb;by_cases hlt:k<sz T
  ·have hd:decide ((k:Int)<(sz T:Int))=true:=by simp;omega
   go_wp2_with fail;refine(HA.out k (by have:=HZ.out;omega) _ (HP.out.keep (AA.of_below HB.out))).mono ?_;rintro e w1 ⟨g,c,rfl,ho,hb1⟩;have HB1:=hid (HB.out.trans (hb1.mono HB.out.size));have HR:=hid (Ej.row (ho.mono (B':=w.heap.size) HB.out.size));obtain⟨us,h1,h2,h4⟩:=ho2.out.of_below hb1;have HU:=hid (And.intro h2 h4);rw[VG]at h1;clear ho hb1 h2 h4 ho2;go_wp2_with (at_builtin;(refine Fz _ rfl _ _ 25 rfl w.heap.size 24 i0 (.slice none 0 0) 1 24 Tryz.underlying25 hi hz0 hz1 hz2 rfl (by decide) _ _ _ rfl (h1.alloc _) ⟨w1.heap.size,0,none⟩ 1 1 [.slice (some ⟨g,0,none⟩) (ints (at_ T k)).length c] rfl rfl ?c1 ?c2 ?c3 ?c4 ?c5 ?_));case c1=>
    intro j u hj
    match j,hj with
    |0,hj=>simp at hj;subst hj;simp[Addr.add]
   case c2=>intro u hu;simp at hu;subst hu;rfl
   case c3=>have:=HZ.out;unfold maxLen;omega
   case c4=>have:=HZ.out;omega
   case c5=>have:=HB1.out.size;simp;omega
   ·intro v' w2 hown hgrow _;have HN:=hid (show Own2 24 2 w.heap.size w2 v' (Oq T (k+1)) from by
     rw[AH2];exact Own2.push (w:=w1.alloc _) (us:=us) (by decide) (VG T k) (h1.alloc _) HU.out.1 (fun i r u hr hu=>(HU.out.2 i r u hr hu).keep (S:=fun _=>True) (AJ.alloc _) (fun _ _=>trivial)) (HR.out.keep (S:=fun _=>True) (AJ.alloc _) (fun _ _=>trivial)) hown hgrow)
    have HB2:=hid (show Below w.heap.size w w2 from(HB1.out.alloc (by have:=HB1.out.size;omega) _).grown hgrow (by simp;have:=HB1.out.size;omega) (fun g hg=>(Af h1 g hg).1));have jC:(k:Int)≤729:=by have:=HZ.out;omega
    clear hown hgrow h1 HU HR;go_wp2_with fail;go_roundw;case rel=>exact⟨k+1,by omega,by go_num,HN,HB2.out⟩
    case measure=>simp[intOf];omega
  ·obtain rfl:k=sz T:=by omega
   have hd:decide ((sz T:Int)<(sz T:Int))=false:=by simp
   go_wp2_with fail;go_ret;exact⟨_,rfl,ho2.out,HB.out⟩
end Go.Proofs.YtaadbccidfdniaaGreat.ADd
namespace Go.Proofs.YtaadbccidfdniaaGreat.yZ
structure Gr (α:Type)[Mul α] where
 e:α
 i:α→α
 Am:∀a b c:α,a*b*c=a*(b*c)
 l:∀a:α,e*a=a
 r:∀a:α,a*e=a
 il:∀a:α,i a*a=e
 ir:∀a:α,a*i a=e
variable {α:Type} [Mul α] (G:Gr α)
theorem Gr.ilc (a b:α):G.i a*(a*b)=b:=by rw[←G.Am,G.il,G.l]
theorem Gr.irc (a b:α):a*(G.i a*b)=b:=by rw[←G.Am,G.ir,G.l]
theorem Gr.can (G:Gr α){a b c:α}(h:a*b=a*c):b=c:=by rw[←G.ilc a b,h,G.ilc]
theorem Gr.im (a b:α):G.i (a*b)=G.i b*G.i a:=G.can (a:=a*b) (by rw[G.ir];simp only[G.Am,G.irc,G.ir])
theorem Gr.ii (a:α):G.i (G.i a)=a:=G.can (a:=G.i a) (by rw[G.ir,G.il])
structure Sg (H:α→Prop):Prop where
 e:H G.e
 m:∀{a b},H a→H b→H (a*b)
 i:∀{a},H a→H (G.i a)
variable {G} {H:α→Prop}
theorem Sg.cj (h:Sg G H)(g:α):Sg G fun u=>H (G.i g*u*g):=
 ⟨by rw[G.r,G.il];exact h.e,fun {a b} ha hb=>by
  have:=h.m ha hb;simp only[G.Am,G.irc]at this ⊢;exact this,fun {a} ha=>by
  have:=h.i ha;simp only[G.im,G.ii,G.Am]at this ⊢;exact this⟩
variable (G)
def Mk (U:List α)(u:α):Prop:=∀S:α→Prop,Sg G S→(∀c∈U,S c)→S u
def Nm (H:α→Prop)(U:List α)(g:α):Prop:=∀h∈U,H (G.i g*h*g)
variable {G}
theorem Nm.mk {U:List α}{g:α}(hH:Sg G H)(h:Nm G H U g){u:α}(hu:Mk G U u):H (G.i g*u*g):=hu _ (hH.cj g) h
theorem Nm.right {U:List α}{g v:α}(hH:Sg G H)(h:Nm G H U g)(hv:H v):Nm G H U (g*v):=fun k hk=>by
 have:=hH.m (hH.i hv) (hH.m (h k hk) hv);simp only[G.im,G.Am]at this ⊢;exact this
theorem Nm.left {U:List α}{g h:α}(hH:Sg G H)(hg:Nm G H U g)(hc:∀k∈U,Mk G U (G.i h*k*h)):Nm G H U (h*g):=fun k hk=>by
 have:=hg.mk hH (hc k hk);simp only[G.im,G.Am]at this ⊢;exact this
theorem AA2 {o d:Nat}(ho:o=2∨o=3∨o=5∨o=7)(h0:0<d)(hd:d<o):∃m n,d*m=1+o*n:=by
 have h:∀o∈[2,3,5,7],∀d,d<o→0<d→∃m,m<8∧∃n,n<8∧d*m=1+o*n:=by decide
 obtain⟨m,_,n,_,e⟩:=h o (by rcases ho with rfl|rfl|rfl|rfl<;>simp) d hd h0;exact⟨m,n,e⟩
variable [DecidableEq α]
end Go.Proofs.YtaadbccidfdniaaGreat.yZ
namespace Go.Proofs.YtaadbccidfdniaaGreat.LX
open Go.RowKit Go.Proofs.YtaadbccidfdniaaGreat AB CU JV ADd
def pr (T:Tw)(i j:Nat):Nat:=num T (mul T (at_ T i) (at_ T j))
def IL (T:Tw)(i k:Nat):List Nat:=(List.range k).map (pr T i)
def Ht (T:Tw)(k:Nat):List (List Nat):=(List.range k).map fun i=>IL T i (sz T)
theorem AA3 (T:Tw)(i k:Nat):IL T i (k+1)=IL T i k++[pr T i k]:=by simp[IL,Pw]
theorem AH3 (T:Tw)(k:Nat):Ht T (k+1)=Ht T k++[IL T k (sz T)]:=by simp[Ht,Pw]
theorem VH (T:Tw)(i k:Nat):(IL T i k).length=k:=by simp[IL]
theorem Xq (T:Tw)(k:Nat):(Ht T k).length=k:=by simp[Ht]
theorem ABf {T:Tw}{n i:Nat}(h:i<n):(Oq T n)[i]?=some (at_ T i):=by simp[Oq,h]
def T9 (e:TypeId)(B:Nat)(w:World)(v:Value)(x:List Nat):Prop:=w.ownsRow B e 1 v x.length (vals (ints x))∧(v= .slice none 0 0↔x=[])
theorem T9.row {e:TypeId}{B:Nat}{w:World}{v:Value}{x:List Nat}(h:T9 e B w v x)(hx:0<x.length):Ck e B w v x:=by
 refine⟨?_,h.1⟩;rcases h.1.2 with⟨_,hn⟩|⟨g,cap,cur,e,_⟩
 ·omega
 ·exact⟨g,cap,e⟩
theorem T9.keep {e:TypeId}{B:Nat}{S:Nat→Prop}{w w':World}{v:Value}{x:List Nat}(h:T9 e B w v x)(hk:AA S w w')(hS:∀k,B≤k→S k):T9 e B w' v x:=⟨Br h.1 hk hS,h.2⟩
theorem AA4 (T:Tw)(hT:Wf T)(hs:Small T)(hg:AB.Good T)(hz:sz T≤729)(w:World)(b o:Nat)(hP:BN Any w b o (AQ T)):
  Calls Tryz.prog 33 #[.pointer (some ⟨b,o,none⟩)] w (TZ 64 3 (Ht T (sz T)) w):=by
 obtain⟨i0,hi,hz0,hz1,hz2⟩:=Bt ADN;obtain⟨j0,hj,hj0,hj1,hj2⟩:=Bt YV;have HE:=hid (fun W h=>qc T hT hs.1 hz W b o h);have HM:Hid (∀W va vb x y,BN Any W b o (AQ T)→AL Any W va (ints x)→FY.NN va→AL Any W vb (ints y)→El T x→El T y→Calls Tryz.prog 70 #[.pointer (some ⟨b,o,none⟩),va,vb] W (Ej (ints (mul T x y)) W)):=
  hid (fun W va vb x y hP ha hn hb hx hy=>FY.dh T hT hs 0 (AU _) hg W b o va vb x y hP ha hn hb hx hy)
 have HN:=hid (fun W vx x hP hx hE=>eB T hT hs.1 hz W b o vx x hP hx hE);have HP:=hid hP;have HZ:=hid hz;have HT:=hid hT;have HG:=hid hg;clear hP hT hz hs hg;go_enter Tryz.func33,Tryz.ntmps33;go_wp2_with fail;refine(HE.out _ HP.out).mono ?_;rintro e w0 ⟨v3,rfl,hE,hb0⟩;obtain⟨a3,c3,rfl,hl3,lV⟩:=hE.form;rw[VG]at hl3 ⊢;rw[VG]at hE;have HB0:=hid hb0;have Qg:=hid hE;clear hb0 hE lV hl3;go_wp2_with fail;go_loopw [4,14] (fun ov i wr=>∃k:Nat,k≤sz T∧i= .int .i64 (k:Int)∧Hid (Own2 64 3 w0.heap.size wr ov (Ht T k))∧Below w0.heap.size w0 wr) (fun _ i _=>sz T-(intOf i).toNat);case atStart=>exact⟨0,AU _,rfl,hid (Own2.nil _ _ _ _),A7 _ _⟩
 case round=>
  obtain⟨k,hk,rfl,ho2,hb⟩:=hrel;rename World=>wo;have HB:=hid hb;clear hb;by_cases hlt:k<sz T
  ·have hd:decide ((k:Int)<(sz T:Int))=true:=by simp;omega
   obtain⟨gE,cE,ux,he,O1,hgE,hcx,hrx⟩:=(Qg.out.of_below HB.out).at (ABf hlt);obtain⟨rfl,_,rfl⟩:a3=some ⟨gE,0,none⟩∧True∧c3=cE:=by have h:=he;simp[VG]at h;exact⟨h.1,trivial,h.2⟩
   have HRX:=hid hrx;obtain⟨⟨gx,cx,rfl⟩,hrx⟩:=hrx;clear hrx he;go_wp2_with fail;go_loopw [7,20] (fun rv j wq=>∃m:Nat,m≤sz T∧j= .int .i64 (m:Int)∧Hid (T9 3 wo.heap.size wq rv (IL T k m))∧Below wo.heap.size wo wq) (fun _ j _=>sz T-(intOf j).toNat);case atStart=>exact⟨0,AU _,rfl,hid ⟨F7 _ _ _ _,by simp[IL]⟩,A7 _ _⟩
   case round=>
    obtain⟨m,hm,rfl,hrow,hbq⟩:=hrel;have Ut:=hid hbq;have A9:=hid (HB.out.trans (hbq.mono HB.out.size));clear hbq;by_cases hmt:m<sz T
    ·have hd2:decide ((m:Int)<(sz T:Int))=true:=by simp;omega
     obtain⟨gE',cE',uy,he,ANK,ANL,hcy,mQ⟩:=(Qg.out.of_below A9.out).at (ABf hmt);obtain⟨rfl,_,rfl⟩:gE=gE'∧True∧c3=cE':=by have h:=he;simp[VG]at h;exact⟨h.1,trivial,h.2⟩
     have XP:=hid mQ;obtain⟨⟨gy,cy,rfl⟩,mQ⟩:=mQ;clear mQ he ANK ANL;go_wp2_with fail;refine(HM.out _ _ _ _ _ (HP.out.keep (AA.of_below (HB0.out.trans (A9.out.mono HB0.out.size)))) ((HRX.out.keep (S:=fun _=>True) (AA.of_below Ut.out) (fun _ _=>trivial)).sl.mono (fun _ _=>trivial)) (fun n c=>by simp) (XP.out.sl.mono (fun _ _=>trivial)) (D7 HT.out k) (D7 HT.out m)).mono ?_;rintro e w1 ⟨g1,c1,rfl,ho1,hb1⟩;have DD:=hid (ho1.sl.mono (S':=fun _=>True) (fun _ _=>trivial));have uk:=hid (Ut.out.trans (hb1.mono Ut.out.size));have QC:=hid (A9.out.trans (hb1.mono A9.out.size));have HR1:=hid (hrow.out.keep (S:=fun _=>True) (AA.of_below hb1) (fun _ _=>trivial));clear ho1 hb1 hrow XP Ut A9;go_wp2_with fail;refine(HN.out _ _ _ (HP.out.keep (AA.of_below (HB0.out.trans (QC.out.mono HB0.out.size)))) DD.out (C8 HT.out (D7 HT.out k) (D7 HT.out m))).mono ?_;rintro e w2 ⟨rfl,hb2⟩;have ZB:=hid (uk.out.trans (hb2.mono uk.out.size));have jg:=hid (QC.out.trans (hb2.mono QC.out.size));have HR2:=hid (HR1.out.keep (S:=fun _=>True) (AA.of_below hb2) (fun _ _=>trivial));have h1:=HR2.out.1;rw[VH]at h1;clear hb2 HR1 uk QC DD;go_wp2_with (at_builtin;refine Fz _ rfl _ _ 64 rfl wo.heap.size 3 j0 (.int .i64 0) 1 8 Tryz.underlying64 hj hj0 hj1 hj2 rfl (by decide) _ _ _ rfl (h1.alloc _) ⟨w2.heap.size,0,none⟩ 1 1 [.int .i64 ((pr T k m:Nat):Int)] rfl rfl ?c1 ?c2 ?c3 ?c4 ?c5 ?_);case c1=>
      intro j u hj
      match j,hj with
      |0,hj=>simp at hj;subst hj;simp[Addr.add,pr]
     case c2=>intro u hu;simp at hu;subst hu;rfl
     case c3=>have:=HZ.out;unfold maxLen;omega
     case c4=>have:=HZ.out;omega
     case c5=>have:=ZB.out.size;simp;omega
     ·intro v' w3 hown hgrow hnil;have HNR:=hid (show T9 3 wo.heap.size w3 v' (IL T k (m+1)) from by
       refine⟨?_,?_⟩
       ·rw[VH,AA3];simpa[ints,vals]using hown
       ·rw[AA3];simp;simpa using hnil)
      have HB3:=hid (show Below wo.heap.size wo w3 from(ZB.out.alloc (by have:=ZB.out.size;omega) _).grown hgrow (by simp;have:=ZB.out.size;omega) (fun g hg=>(Af h1 g hg).1));have jC:(m:Int)≤729:=by have:=HZ.out;omega
      clear hown hgrow h1 HR2 hnil ZB jg;go_wp2_with fail;go_roundw;case rel=>exact⟨m+1,by omega,by go_num,HNR,HB3.out⟩
      case measure=>simp[intOf];omega
    ·obtain rfl:m=sz T:=by omega
     have hd2:decide ((sz T:Int)<(sz T:Int))=false:=by simp
     have HRR:=hid ((hrow.out.row (by rw[VH];omega)));obtain⟨⟨gr,cr,rfl⟩,_⟩:=hrow.out.row (by rw[VH];omega);obtain⟨us,h1,h2,h4⟩:=ho2.out.of_below Ut.out;rw[Xq]at h1;have HU:=hid (And.intro h2 h4);clear h2 h4 hrow;go_wp2_with (at_builtin;refine Fz _ rfl _ _ 56 rfl w0.heap.size 64 i0 (.slice none 0 0) 1 24 Tryz.underlying56 hi hz0 hz1 hz2 rfl (by decide) _ _ _ rfl (h1.alloc _) ⟨wr.heap.size,0,none⟩ 1 1 [.slice (some ⟨gr,0,none⟩) (IL T k (sz T)).length cr] rfl rfl ?c1 ?c2 ?c3 ?c4 ?c5 ?_);case c1=>
      intro j u hj
      match j,hj with
      |0,hj=>simp at hj;subst hj;simp[Addr.add]
     case c2=>intro u hu;simp at hu;subst hu;rfl
     case c3=>have:=HZ.out;unfold maxLen;omega
     case c4=>have:=HZ.out;omega
     case c5=>have:=A9.out.size;simp;omega
     ·intro v' w2 hown hgrow _;have QU:=hid (show Own2 64 3 w0.heap.size w2 v' (Ht T (k+1)) from by
       rw[AH3];exact Own2.push (w:=wr.alloc _) (us:=us) (by decide) (Xq T k) (h1.alloc _) HU.out.1 (fun i r u hr hu=>(HU.out.2 i r u hr hu).keep (S:=fun _=>True) (AJ.alloc _) (fun _ _=>trivial)) (⟨HRR.out.1,JI (HRR.out.keep (S:=fun _=>True) (AJ.alloc _) (fun _ _=>trivial)).2 HB.out.size⟩) hown hgrow)
      have HB2:=hid (show Below w0.heap.size w0 w2 from(A9.out.alloc (by have:=A9.out.size;omega) _).grown hgrow (by simp;have:=A9.out.size;omega) (fun g hg=>(Af h1 g hg).1));have jC:(k:Int)≤729:=by have:=HZ.out;omega
      clear hown hgrow h1 HU HRR;go_wp2_with fail;go_roundw;case rel=>exact⟨k+1,by omega,by go_num,QU,HB2.out⟩
      case measure=>simp[intOf];omega
  ·obtain rfl:k=sz T:=by omega
   have hd:decide ((sz T:Int)<(sz T:Int))=false:=by simp
   go_wp2_with fail;go_ret;exact⟨_,rfl,ho2.out.mono HB0.out.size,HB0.out.trans (HB.out.mono HB0.out.size)⟩
end Go.Proofs.YtaadbccidfdniaaGreat.LX
namespace Go.Proofs.YtaadbccidfdniaaGreat.Mf
open Go.RowKit Go.Proofs.YtaadbccidfdniaaGreat AB CU JV LX
def ED (S:Nat→Prop)(w:World)(bg:Nat)(T:Tw):Prop:=S bg∧bg<w.heap.size∧∃v,w.cell? ⟨bg,0,none⟩=some v∧AP S w v ((Ht T (sz T)).map ints)
theorem ED.keep {S:Nat→Prop}{w w':World}{bg:Nat}{T:Tw}(h:ED S w bg T)(hk:AA S w w'):ED S w' bg T:=by
 obtain⟨h1,h2,v,hc,hs⟩:=h;exact⟨h1,Ai h2 hk.size,v,by rw[hk.cell h1 h2];exact hc,hs.keep hk⟩
theorem qE {T:Tw}{i:Nat}(h:i<sz T):(Ht T (sz T))[i]?=some (IL T i (sz T)):=by simp[Ht,h]
theorem fK {T:Tw}{i j:Nat}(h:j<sz T):(IL T i (sz T))[j]?=some (pr T i j):=by simp[IL,h]
theorem ED.open {S:Nat→Prop}{w:World}{bg:Nat}{T:Tw}(h:ED S w bg T)(hz:0<sz T):∃gt ot ct,bg<w.heap.size∧sz T≤ct∧w.cell? ⟨bg,0,none⟩=some (.slice (some ⟨gt,ot,none⟩) (sz T) ct)∧
  ∀i,i<sz T→∃gr or cr,sz T≤cr∧w.cell? ⟨gt,ot+i,none⟩=some (.slice (some ⟨gr,or,none⟩) (sz T) cr)∧∀j,j<sz T→w.cell? ⟨gr,or+j,none⟩=some (.int .i64 (pr T i j:Int)):=by
 obtain⟨h1,h2,v,hc,a,cap,rfl,hl,hm,hn,hx⟩:=h;have hl':((Ht T (sz T)).map ints).length=sz T:=by simp[Xq]
 rw[hl']at hc hl;obtain⟨gt,ot,rfl,hS,hlt,u,hu,hsl⟩:=hx 0 (ints (IL T 0 (sz T))) (by rw[Bn,qE hz];rfl);refine⟨gt,ot,cap,h2,hl,hc,fun i hi=>?_⟩;obtain⟨gt',ot',he,hS',hlt',u,hu,hsl⟩:=hx i (ints (IL T i (sz T))) (by rw[Bn,qE hi];rfl);obtain⟨rfl,rfl⟩:gt=gt'∧ot=ot':=by simpa using he
 obtain⟨a2,c2,rfl,hl2,hm2,hn2,hx2⟩:=hsl;have hr':(ints (IL T i (sz T))).length=sz T:=by rw[BL,VH]
 rw[hr']at hu hl2;obtain⟨gr,or,rfl,_,_,u,hu',rfl⟩:=hx2 0 (pr T i 0:Int) (by rw[Fx,fK hz];rfl);refine⟨gr,or,c2,hl2,hu,fun j hj=>?_⟩;obtain⟨gr',or',he',_,_,u,ANM,rfl⟩:=hx2 j (pr T i j:Int) (by rw[Fx,fK hj];rfl);obtain⟨rfl,rfl⟩:gr=gr'∧or=or':=by simpa using he'
 exact ANM
theorem Mg {T:Tw}(hT:Wf T)(i j:Nat):pr T i j<sz T:=KZ (C8 hT (D7 hT i) (D7 hT j)) hT
def Y0 (n:Nat)(w:World)(e:Ending)(w':World):Prop:=e= .returned (.int .i64 (n:Int))∧∃k,w'=w.drewN k
theorem OY (T:Tw)(hT:Wf T)(hz:sz T≤729)(S:Nat→Prop)(w:World)(bg:Nat)(hG:ED S w bg T)(vx ve:Value)(xs es:List Nat)(hx:AL S w vx (ints xs))(he:AL S w ve (ints es))(hl:xs.length=es.length)(Gj:es.length≤1000)
  (lg:∀x∈xs,x<sz T) (hen:∀e∈es,e≤1000):
  Calls Tryz.prog 125 #[.pointer (some ⟨bg,0,none⟩),vx,ve] w (Y0 (BX (pr T) 0 xs es) w):=by
 have hpos:=JQ hT;obtain⟨gt,ot,ct,hbg,hct,hc0,HR⟩:=hG.open hpos;obtain⟨aX,cX,rfl,hcx⟩:=hx.open;obtain⟨aE,cE,rfl,hce⟩:=he.open;rw[hl]at hcx hx ⊢;have HX:=hid hx;have HE:=hid he;have HRR:=hid HR;have HL:=hid hl;have HXN:=hid lg;have HEN:=hid hen;have HT:=hid hT;have HZ:=hid hz;have ME:Hid (∀j k,Iq (pr T) 0 0 xs es j k<sz T):=hid (fun j k=>VU (· <sz T) (pr T) (fun _ _ _ _=>Mg hT _ _) 0 0 xs es hpos hpos lg j k);clear hx he HR hl lg hen hT hG;go_enter Tryz.func125,Tryz.ntmps125;go_wp2_with fail;go_loopw [7,12] (fun ov i wr=>∃k:Nat,k≤es.length∧i= .int .i64 (k:Int)∧∃z:Nat,ov= .int .i64 (z:Int)∧Hid (z=Iq (pr T) 0 0 xs es k 0∧∃m,wr=w.drewN m)) (fun _ i _=>es.length-(intOf i).toNat);case atStart=>exact⟨0,AU _,rfl,0,rfl,hid ⟨(Sv _ _ _ _ _).symm,0,rfl⟩⟩
 case round=>
  obtain⟨k,hk,rfl,z,rfl,hR⟩:=hrel;obtain⟨m0,hw0⟩:=hR.out.2;subst hw0;by_cases hlt:k<es.length
  ·obtain⟨e,mR⟩:∃e,es[k]?=some e:=⟨_,AO hlt⟩;obtain⟨x,hxk⟩:∃x,xs[k]?=some x:=⟨_,AO (by rw[HL.out];exact hlt)⟩;obtain⟨bE,oE,rfl,_,O1,MI⟩:=HE.out.at mR;obtain⟨bX,oX,rfl,_,hbX,Fh⟩:=HX.out.at hxk;have ANN:=HXN.out x (Ak hxk);have AP8:=HEN.out e (Ak mR);have hd:decide ((k:Int)<(es.length:Int))=true:=by simp;omega
   have HXK:=hid hxk;have HEK:=hid mR;clear hxk mR;go_wp2_with fail;go_loopw [7,18] (fun ov j wr=>∃q:Nat,q≤e∧j= .int .i64 (q:Int)∧∃z:Nat,ov= .int .i64 (z:Int)∧Hid (z=Iq (pr T) 0 0 xs es k q∧∃m,wr=w.drewN m)) (fun _ j _=>e-(intOf j).toNat);case atStart=>exact⟨0,AU _,rfl,z,rfl,hid ⟨hR.out.1,m0,rfl⟩⟩
   case round=>
    obtain⟨q,hq,rfl,z,rfl,hR2⟩:=hrel;obtain⟨m1,hw1⟩:=hR2.out.2;subst hw1;by_cases hqe:q<e
    ·have hd2:decide ((q:Int)<(e:Int))=true:=by simp;omega
     have ANO:z<sz T:=by rw[hR2.out.1];exact ME.out _ _
     obtain⟨gr,or,cr,hcr,ANP,uo⟩:=HRR.out z ANO;have AP9:=uo x ANN;have hgD:xs.getD k 0=x:=by rw[BV,HXK.out];rfl
     have Uz:=hid hgD;clear uo hgD;go_wp2_with fail;go_quiet (fail);go_wp2_with fail;go_roundw;case rel=>exact⟨q+1,by omega,by go_num,pr T z x,rfl,hid ⟨by rw[VO,Uz.out,←hR2.out.1],m1+nq,by first|rfl|rw[Pt]⟩⟩
     case measure=>simp[intOf];omega
    ·obtain rfl:q=e:=by omega
     have hd2:decide ((q:Int)<(q:Int))=false:=by simp
     go_wp2_with fail;go_roundw;case rel=>exact⟨k+1,by omega,by go_num,z,rfl,hid ⟨by rw[hR2.out.1,VP _ _ _ _ _ _ _ (by rw[HL.out];exact hlt) HEK.out],m1,rfl⟩⟩
     case measure=>simp[intOf];omega
  ·obtain rfl:k=es.length:=by omega
   have hd:decide ((es.length:Int)<(es.length:Int))=false:=by simp
   go_wp2_with fail;go_ret;refine⟨ADM ?_,m0,rfl⟩;rw[hR.out.1,VT _ _ _ _ _ _ (by rw[HL.out];exact Av _) AR]
end Go.Proofs.YtaadbccidfdniaaGreat.Mf
namespace Go.Proofs.YtaadbccidfdniaaGreat.Mask
open Go
theorem gK (n:Int)(h0:0≤n)(h1:n<2^63):IntKind.u64.wrap n=n:=by rw[IntKind.wrap_u64];omega
theorem test_eq (M a:Nat)(_ha:a≤31)(hM:M<2^32):(bits .and .u64 ((M:Int)/2^a) 1==1)=M.testBit a:=by
 have e1:((M:Int)/2^a)=((M/2^a:Nat):Int):=by push_cast;rfl
 have hlt:M/2^a<2^63:=Nat.lt_of_le_of_lt (Nat.div_le_self _ _) (Ai hM (by decide));have h:=(bits_nat .u64 63 (by decide) gK (M/2^a) 1 hlt (by decide)).1;rw[e1];have e2:bits .and .u64 ((M/2^a:Nat):Int) 1=((M/2^a &&& 1:Nat):Int):=h;rw[e2,Nat.testBit,Nat.shiftRight_eq_div_pow,Nat.and_comm 1];have h01:=Nat.and_one_is_mod (M/2^a);rw[h01];rcases Nat.mod_two_eq_zero_or_one (M/2^a)with h|h<;>rw[h]<;>rfl
theorem ACx (a:Nat)(ha:a≤31):2^a<2^32:=Nat.pow_lt_pow_right (by decide) (by omega)
theorem set_eq (O a:Nat)(ha:a≤31)(hO:O<2^32):bits .or .u64 (O:Int) (IntKind.u64.wrap (2^a))=((O ||| 2^a:Nat):Int):=by
 have e1:((2:Int)^a)=((2^a:Nat):Int):=by push_cast;rfl
 have hp:=ACx a ha;have h63:(2:Nat)^32<2^63:=by decide
 have hlt:((2^a:Nat):Int)<((2^63:Nat):Int):=Int.ofNat_lt.2 (Nat.lt_trans hp h63);rw[e1,gK _ (Int.natCast_nonneg _) (by simpa using hlt)];exact(bits_nat .u64 63 (by decide) gK O (2^a) (Nat.lt_trans hO h63) (Nat.lt_trans hp h63)).2
theorem iN (O a:Nat)(ha:a≤31)(hO:O<2^32):O ||| 2^a<2^32:=Nat.or_lt_two_pow hO (ACx a ha)
theorem fM (O a c:Nat):(O ||| 2^a).testBit c=(O.testBit c||decide (a=c)):=by rw[Nat.testBit_or,Nat.testBit_two_pow]
end Go.Proofs.YtaadbccidfdniaaGreat.Mask
namespace Go.Proofs.YtaadbccidfdniaaGreat.V6
open Go.RowKit Go.Proofs.YtaadbccidfdniaaGreat AB CU JV LX Mf
theorem ACy (g x:Nat)(o:World)(h:o.cell? ⟨g,0,none⟩=some (.int .i64 (x:Int)))(hs:g<o.heap.size):AL Any o (.slice (some ⟨g,0,none⟩) 1 1) (ints [x]):=by
 refine⟨some ⟨g,0,none⟩,1,rfl,by simp[ints],by simp[maxLen],by simp,fun i y hy=>?_⟩
 match i,hy with
 |0,hy=>simp[ints]at hy;subst hy;exact⟨g,0,rfl,trivial,hs,_,h,rfl⟩
 |i+1,hy=>simp[ints]at hy
theorem ED.mono {S S':Nat→Prop}{w:World}{bg:Nat}{T:Tw}(h:ED S w bg T)(hS:∀k,S k→S' k):ED S' w bg T:=by
 obtain⟨h1,h2,v,hc,hs⟩:=h;exact⟨hS _ h1,h2,v,hc,hs.mono hS⟩
theorem VL (T:Tw)(hT:Wf T)(hz:sz T≤729)(w:World)(bg:Nat)(hG:ED Any w bg T)(x k:Nat)(hx:x<sz T)(hk:k≤1000):
  Calls Tryz.prog 124 #[.pointer (some ⟨bg,0,none⟩),.int .i64 (x:Int),.int .i64 (k:Int)] w (QB (it (fun z=>pr T z x) k 0) w):=by
 have HP:=hid (fun W vx ve hG h1 h2=>OY T hT hz Any W bg hG vx ve [x] [k] h1 h2 rfl (by simp) (by simpa using hx) (by simpa using hk));have HG:=hid hG;clear hG hx hk hz;go_enter Tryz.func124,Tryz.ntmps124;go_wp2_with fail;have hA:((w.alloc (.cells #[.int .i64 (x:Int)] 3)).alloc (.cells #[.int .i64 (k:Int)] 2)).heap[w.heap.size]?=some (.cells #[.int .i64 (x:Int)] 3):=(KD _ _ (by simp)).trans (BA w _);have hB:((w.alloc (.cells #[.int .i64 (x:Int)] 3)).alloc (.cells #[.int .i64 (k:Int)] 2)).heap[w.heap.size+1]?=some (.cells #[.int .i64 (k:Int)] 2):=by
  have h:=BA (w.alloc (.cells #[.int .i64 (x:Int)] 3)) (.cells #[.int .i64 (k:Int)] 2);have e:(w.alloc (.cells #[.int .i64 (x:Int)] 3)).heap.size=w.heap.size+1:=by simp
  rw[e]at h;exact h
 have h1:=ACy w.heap.size x _ ((Ah _ w.heap.size 0 _ _ (0,0) hA).trans rfl) (by simp;omega);have h2:=ACy (w.heap.size+1) k _ ((Ah _ (w.heap.size+1) 0 _ _ (0,0) hB).trans rfl) (by simp);refine(HP.out _ _ _ (HG.out.keep (((AA.refl _ w).alloc _).alloc _)) h1 h2).mono ?_;clear hA hB h1 h2;rintro e w1 ⟨rfl,m,rfl⟩;go_wp2_with fail;go_ret;exact⟨rfl,Dk ((AX.alloc AR _).alloc (by simp) _) m⟩
def ANQ (T:Tw)(M x k:Nat)(w:World)(e:Ending)(w':World):Prop:=
 ∃O:Nat,e= .returned (.int .u64 (O:Int))∧O<2^32∧(∀c,O.testBit c=true↔∃j,j<k∧∃s,s<sz T∧M.testBit s=true∧it (pr T x) j s=c)∧w'=w
theorem AHU (T:Tw)(hT:Wf T)(hz:sz T≤27)(w:World)(bg:Nat)(hG:ED Any w bg T)(M x k:Nat)(hM:M<2^32∧∀c,M.testBit c=true→c<sz T)(hx:x<sz T)(hk:k≤1000):
  Calls Tryz.prog 90 #[.pointer (some ⟨bg,0,none⟩),.int .u64 (M:Int),.int .i64 (x:Int),.int .i64 (k:Int)] w (ANQ T M x k w):=by
 have hpos:=JQ hT;obtain⟨gt,ot,ct,hbg,hct,hc0,HR⟩:=hG.open hpos;obtain⟨gr,or,cr,hcr,ANP,HR2⟩:=HR x hx;have HRR:=hid HR2;have HM:=hid hM;have H8:=hid (Mg hT);clear HR HR2 hG hM hT;go_enter Tryz.func90,Tryz.ntmps90;go_wp2_with fail;go_loop [1,9,14] (fun mv ov i=>∃q:Nat,q≤k∧i= .int .i64 (q:Int)∧∃M' O:Nat,mv= .int .u64 (M':Int)∧ov= .int .u64 (O:Int)∧
  Hid (M'<2^32∧O<2^32∧(∀c,M'.testBit c=true→c<sz T)∧(∀c,c<sz T→(M'.testBit c=true↔∃s,s<sz T∧M.testBit s=true∧it (pr T x) q s=c))∧(∀c,O.testBit c=true↔∃j,j<q∧∃s,s<sz T∧M.testBit s=true∧it (pr T x) j s=c))) (fun _ _ i=>k-(intOf i).toNat)
 case atStart=>exact⟨0,AU _,rfl,M,0,rfl,rfl,hid ⟨HM.out.1,by decide,HM.out.2,fun c hc=>⟨fun h=>⟨c,hc,h,rfl⟩,fun⟨s,_,h,e⟩=>by rw[←e];exact h⟩,fun c=>by simp⟩⟩
 case round=>
  obtain⟨q,hq,rfl,M',O',rfl,rfl,hR⟩:=hrel;by_cases hlt:q<k
  ·have hd:decide ((q:Int)<(k:Int))=true:=by simp;omega
   go_wp2_with fail;go_loop [9,21] (fun ov i=>∃a:Nat,a≤sz T∧i= .int .i64 (a:Int)∧∃O:Nat,ov= .int .u64 (O:Int)∧Hid (O<2^32∧∀c,O.testBit c=(O'.testBit c||(decide (c<a)&&M'.testBit c)))) (fun _ i=>sz T-(intOf i).toNat);case atStart=>exact⟨0,AU _,rfl,O',rfl,hid ⟨hR.out.2.1,fun c=>by simp⟩⟩
   case round=>
    obtain⟨a,ha,rfl,O,rfl,hO⟩:=hrel;by_cases halt:a<sz T
    ·have hd2:decide ((a:Int)<(sz T:Int))=true:=by simp;omega
     have h1:=Mask.test_eq M' a (by omega) hR.out.1;have h2:=Mask.set_eq O a (by omega) hO.out.1;have H2:=hid (Mask.iN O a (by omega) hO.out.1);cases hb:M'.testBit a with
     |true=>
      have FO:=hid hb;rw[hb]at h1;clear hb;go_wp2_with fail;go_round;case rel=>exact⟨a+1,by omega,by go_num,O ||| 2^a,rfl,hid ⟨H2.out,fun c=>by
       rw[Mask.fM,hO.out.2 c];by_cases hca:a=c
       ·subst hca;simp[FO.out]
       ·have:decide (c<a+1)=decide (c<a):=by apply decide_eq_decide.2;omega
        simp[hca,this]⟩⟩
      case measure=>simp[intOf];omega
     |false=>
      have FO:=hid hb;rw[hb]at h1;clear hb;go_wp2_with fail;go_round;case rel=>exact⟨a+1,by omega,by go_num,O,rfl,hid ⟨hO.out.1,fun c=>by
       rw[hO.out.2 c];by_cases hca:a=c
       ·subst hca;simp[FO.out]
       ·have:decide (c<a+1)=decide (c<a):=by apply decide_eq_decide.2;omega
        simp[this]⟩⟩
      case measure=>simp[intOf];omega
    ·obtain rfl:a=sz T:=by omega
     have hd2:decide ((sz T:Int)<(sz T:Int))=false:=by simp
     have EM:Hid (O<2^32∧∀c,O.testBit c=true↔∃j,j<q+1∧∃s,s<sz T∧M.testBit s=true∧it (pr T x) j s=c):=hid ⟨hO.out.1,fun c=>by
      rw[hO.out.2 c];constructor
      ·intro h;rw[RF]at h;rcases h with h|h
       ·obtain⟨j,hj,s,hs⟩:=(hR.out.2.2.2.2 c).1 h;exact⟨j,by omega,s,hs⟩
       ·rw[TW]at h;obtain⟨s,hs⟩:=(hR.out.2.2.2.1 c (by simpa using h.1)).1 h.2;exact⟨q,by omega,s,hs⟩
      ·rintro⟨j,hj,s,hs⟩;rw[RF];rcases CP j q with h|h
       ·exact .inl ((hR.out.2.2.2.2 c).2 ⟨j,h,s,hs⟩)
       ·obtain rfl:j=q:=by omega
        have hc:c<sz T:=by
         rw[←hs.2.2];cases j with
         |zero=>exact hs.1
         |succ j=>rw[GK];exact H8.out _ _
        rw[TW];exact .inr ⟨by simpa using hc,(hR.out.2.2.2.1 c hc).2 ⟨s,hs⟩⟩⟩
     clear hO;go_wp2_with fail;go_loop [11,39] (fun ov i=>∃a:Nat,a≤sz T∧i= .int .i64 (a:Int)∧∃N:Nat,ov= .int .u64 (N:Int)∧Hid (N<2^32∧∀c,N.testBit c=true↔∃d,d<a∧M'.testBit d=true∧pr T x d=c)) (fun _ i=>sz T-(intOf i).toNat);case atStart=>exact⟨0,AU _,rfl,0,rfl,hid ⟨by decide,fun c=>by simp⟩⟩
     case round=>
      obtain⟨a,ha,rfl,N,rfl,hN⟩:=hrel;by_cases halt:a<sz T
      ·have hd2:decide ((a:Int)<(sz T:Int))=true:=by simp;omega
       have h1:=Mask.test_eq M' a (by omega) hR.out.1;have hpl:=H8.out x a;have h2:=Mask.set_eq N (pr T x a) (by omega) hN.out.1;have H2:=hid (Mask.iN N (pr T x a) (by omega) hN.out.1);have hcc:=HRR.out a halt;cases hb:M'.testBit a with
       |true=>
        have FO:=hid hb;rw[hb]at h1;clear hb;go_wp2_with fail;go_round;case rel=>exact⟨a+1,by omega,by go_num,N ||| 2^pr T x a,rfl,hid ⟨H2.out,fun c=>by
         rw[Mask.fM,RF,hN.out.2 c];constructor
         ·rintro(⟨d,hd,h⟩|h)
          ·exact⟨d,by omega,h⟩
          ·exact⟨a,by omega,FO.out,by simpa using h⟩
         ·rintro⟨d,hd,h⟩;rcases CP d a with hda|hda
          ·exact .inl ⟨d,hda,h⟩
          ·obtain rfl:d=a:=by omega
           exact .inr (by simpa using h.2)⟩⟩
        case measure=>simp[intOf];omega
       |false=>
        have FO:=hid hb;rw[hb]at h1;clear hb;go_wp2_with fail;go_round;case rel=>exact⟨a+1,by omega,by go_num,N,rfl,hid ⟨hN.out.1,fun c=>by
         rw[hN.out.2 c];constructor
         ·rintro⟨d,hd,h⟩;exact⟨d,by omega,h⟩
         ·rintro⟨d,hd,h⟩;rcases CP d a with hda|hda
          ·exact⟨d,hda,h⟩
          ·obtain rfl:d=a:=by omega
           exact absurd (FO.out.symm.trans h.1) (by decide)⟩⟩
        case measure=>simp[intOf];omega
      ·obtain rfl:a=sz T:=by omega
       have hd2:decide ((sz T:Int)<(sz T:Int))=false:=by simp
       go_wp2_with fail;go_round;case rel=>exact⟨q+1,by omega,by go_num,N,O,rfl,rfl,hid ⟨hN.out.1,EM.out.1,fun c h=>by
         obtain⟨d,hd,h⟩:=(hN.out.2 c).1 h;rw[←h.2];exact H8.out _ _,fun c hc=>by
         rw[hN.out.2 c];constructor
         ·rintro⟨d,hd,h,h'⟩;obtain⟨s,hs,hm,e⟩:=(hR.out.2.2.2.1 d hd).1 h;exact⟨s,hs,hm,by rw[GK,e,h']⟩
         ·rintro⟨s,hs,hm,e⟩;rw[GK]at e;have hlt:it (pr T x) q s<sz T:=by
           cases q with
           |zero=>exact hs
           |succ q=>rw[GK];exact H8.out _ _
          exact⟨it (pr T x) q s,hlt,(hR.out.2.2.2.1 _ hlt).2 ⟨s,hs,hm,rfl⟩,e⟩,EM.out.2⟩⟩
       case measure=>simp[intOf];omega
  ·obtain rfl:q=k:=by omega
   have hd:decide ((q:Int)<(q:Int))=false:=by simp
   go_wp2_with fail;go_ret;exact⟨O',rfl,hR.out.2.1,hR.out.2.2.2.2,rfl⟩
end Go.Proofs.YtaadbccidfdniaaGreat.V6
namespace Go.Proofs.YtaadbccidfdniaaGreat.TU
open Go.RowKit Go.Proofs.YtaadbccidfdniaaGreat AB CU JV LX Mf V6 Ni
def Fits (Q:Tw)(L:Lv)(im:List Nat)(x:Nat):Prop:=
 it (fun z=>pr Q z x) L.o 0=BX (pr Q) 0 im L.w∧∀k y,L.c[k]?=some y→pr Q (im.getD k 0) x=pr Q x (BX (pr Q) 0 im y)
structure uu (w:World)(bs bp op bg gi ci:Nat)(T Q:Tw)(Ae:List Nat):Prop where
 lt:bs<w.heap.size
 p:w.cell? ⟨bs,0,none⟩=some (.pointer (some ⟨bp,op,none⟩))
 g:w.cell? ⟨bs,1,none⟩=some (.pointer (some ⟨bg,0,none⟩))
 im:w.cell? ⟨bs,2,none⟩=some (.slice (some ⟨gi,0,none⟩) T.length ci)
 pre:BN Any w bp op (AQ T)
 tab:ED Any w bg Q
 len:Ae.length=T.length
 Ae:AL Any w (.slice (some ⟨gi,0,none⟩) T.length ci) (ints Ae)
theorem AIp (T Q:Tw)(hT:Wf T)(hs:Small T)(hQ:Wf Q)(hz:sz Q≤729)(w:World)(bs bp op bg gi ci:Nat)(Ae:List Nat)(i x:Nat)(L:Lv)(hL:T[i]?=some L)(h:uu w bs bp op bg gi ci T Q Ae)(hx:x<sz Q)(hin:∀y∈Ae,y<sz Q):
  Calls Tryz.prog 89 #[.pointer (some ⟨bs,0,none⟩),.int .i64 (i:Int),.int .i64 (x:Int)] w (QN (Fits Q L (Ae.drop (i+1)) x) w):=by
 have hil:=(Ag.1 hL).1;have hs6:=hs.1;obtain⟨_,hbl,vO,vP,vC,hp0,hp1,hp2,hV⟩:=h.pre;obtain⟨aO,cO,aP,cP,aC,cC,rfl,rfl,rfl,Eo,hP1,FC⟩:=hV.open;obtain⟨bO,oO,rfl,_,CQ,BS⟩:=hV.ord hL;obtain⟨bP,oP,uP,rfl,_,FE,hcP,Et⟩:=hV.pow hL;obtain⟨bC,oC,a2,c2,rfl,_,hbC,hcC,hc2,hcy⟩:=hV.Mt hL;have hpos:=JQ hQ;obtain⟨gt,ot,ct,hgl,hct,jh,kZ⟩:=h.tab.open hpos;obtain⟨_,_,vt,Us,hslt⟩:=h.tab;have q:∀(b o:Nat) (v:Value),b<w.heap.size→w.cell? ⟨b,o,none⟩=some v→∀x:BW w.heap.size w,x.1.cell? ⟨b,o,none⟩=some v:=fun b o v hb hc x=>(x.2.cell (p:=⟨b,o,none⟩) hb).trans hc;have q0:=q _ _ _ h.lt h.p;have q1:=q _ _ _ h.lt h.g;have q2:=q _ _ _ h.lt h.im;have q3:=q _ _ _ hbl hp0;have q4:=q _ _ _ hbl hp1;have q5:=q _ _ _ hbl hp2;have q6:=q _ _ _ CQ BS;have q7:=q _ _ _ FE hcP;have q8:=q _ _ _ hbC hcC;have q9:=q _ _ _ hgl jh;have M9:Hid (∀a,a<sz Q→∃gr or cr,sz Q≤cr∧(∀x1:BW w.heap.size w,x1.1.cell? ⟨gt,ot+a,none⟩=some (.slice (some ⟨gr,or,none⟩) (sz Q) cr))∧∀j,j<sz Q→∀x1:BW w.heap.size w,x1.1.cell? ⟨gr,or+j,none⟩=some (.int .i64 (pr Q a j:Int))):=hid (fun a ha=>by
  obtain⟨gr,or,cr,h1,h2,h3⟩:=kZ a ha;exact⟨gr,or,cr,h1,q _ _ _ (World.block_lt_of_cell? w _ h2) h2,fun j hj=>q _ _ _ (World.block_lt_of_cell? w _ (h3 j hj)) (h3 j hj)⟩)
 have Jg:Hid (∀(j a:Nat),Ae[j]?=some a→∀x1:BW w.heap.size w,x1.1.cell? ⟨gi,j,none⟩=some (.int .i64 (a:Int))):=hid (fun j a hj=>by
  obtain⟨b,o,he,_,hb,hc⟩:=h.Ae.at hj;obtain⟨rfl,rfl⟩:gi=b∧0=o:=by simpa using he
  rw[Cg]at hc;exact q _ _ _ hb hc)
 have HPD:Hid (∀y,BX (pr Q) 0 (Ae.drop (i+1)) y<sz Q):=hid (fun y=>Sq (· <sz Q) (pr Q) (fun _ _ _ _=>Mg hQ _ _) _ (fun c hc=>hin c (KA hc)) y 0 hpos);have ME:=hid hin;have APA:=h.len;have SF:=hx;have HI:=hid h;have Qh:=lvl' hT hL;have hcl:L.c.length=T.length-(i+1):=Qh.2.1;have DY:=hid (fun(x1:BW w.heap.size w)=>VL Q hQ hz x1.1 bg (h.tab.keep (AA.of_below x1.2)) x L.o hx (by have:=hs.2 L (Ak hL);omega));have hOL:=Nat.le_of_lt_succ (Nat.lt_succ_of_le (hs.2 L (Ak hL)));have Bw:Hid (∀(x1:BW w.heap.size w) (y:List Nat) (vy:Value),El (T.drop (i+1)) y→AL Any w vy (ints (pad (i+1) y))→Calls Tryz.prog 125 #[.pointer (some ⟨bg,0,none⟩),.slice (some ⟨gi,0,none⟩) T.length ci,vy] x1.1 (Y0 (BX (pr Q) 0 (Ae.drop (i+1)) y) x1.1)):=
  hid (fun x1 y vy hy hv=>by
   have hp:=OY Q hQ hz Any x1.1 bg (h.tab.keep (AA.of_below x1.2)) _ vy Ae (pad (i+1) y) (h.Ae.keep (AA.of_below x1.2)) (hv.keep (AA.of_below x1.2)) (by rw[h.len,Bg,AZ hy,Cx];omega) (by rw[Bg,AZ hy,Cx];omega) hin (by
    intro e he;simp only[pad,GY,Kh]at he;rcases he with⟨_,rfl⟩|he
    ·omega
    ·obtain⟨j,hj,rfl⟩:=RJ he;obtain⟨M,hM,hlt⟩:=LP hy (AO hj);have:=hs.2 M (KA (Ak hM));omega)
   rwa[o9 _ _ _ _ _ (by rw[h.len];omega)]at hp)
 have GD:=hid Et;have I8:=hid Qh;have Ny:=hid hcy;clear q BS hcP hcC Et hp0 hp1 hp2 hV h Qh hcy hL hin hT hs hQ hz hx kZ Us hslt jh;go_enter Tryz.func89,Tryz.ntmps89;go_upto_region 1 with fail;refine AAC w.heap.size w AX (by kernel_rfl) (by kernel_rfl) ?_;repeat(go_big_quiet_step ((first|(go_at_call 124;exact AG5 AR (DY.out _))|(go_at_call 125;exact AAT (Bw.out _ L.w _ I8.out.2.2.2.1 GD.out)))))
 refine wpQuiet_nil ?_;intro wx hw';have hbx:Below w.heap.size w wx:=by obtain⟨x1,rfl⟩:=hw';exact x1.2
 clear hw';have EE:=hid hbx;have r0:wx.cell? ⟨bs,0,none⟩=_:=q0 ⟨wx,hbx⟩;have r3:wx.cell? ⟨bp,op+2,none⟩=_:=q5 ⟨wx,hbx⟩;have r8:wx.cell? ⟨bC,oC+i,none⟩=_:=q8 ⟨wx,hbx⟩;clear hbx;by_cases h1:it (fun z=>pr Q z x) L.o 0=BX (pr Q) 0 (Ae.drop (i+1)) L.w
 ·have hd:(((it (fun z=>pr Q z x) L.o 0:Nat):Int) !=((BX (pr Q) 0 (Ae.drop (i+1)) L.w:Nat):Int))=false:=by rw[h1];simp
  have H1:=hid h1;clear h1;go_wp2_with fail;go_loopw [56] (fun iv wr=>∃k:Nat,k≤L.c.length∧iv= .int .i64 (k:Int)∧Hid (∀j y,j<k→L.c[j]?=some y→pr Q ((Ae.drop (i+1)).getD j 0) x=pr Q x (BX (pr Q) 0 (Ae.drop (i+1)) y))∧Below w.heap.size w wr) (fun iv _=>L.c.length-(intOf iv).toNat);case atStart=>exact⟨0,AU _,rfl,hid (fun j y h=>absurd h (CO _)),EE.out⟩
  case round=>
   obtain⟨k,hk,rfl,hR,hb⟩:=hrel;have HB:=hid hb;by_cases hlt:k<L.c.length
   ·obtain⟨y,hy⟩:∃y,L.c[k]?=some y:=⟨_,AO hlt⟩;obtain⟨b2,o2,uy,rfl,_,hb2,AEw,Fj⟩:=Ny.out k y hy;have r10:wr.cell? ⟨b2,o2+k,none⟩=some uy:=(hb.cell (p:=⟨b2,o2+k,none⟩) hb2).trans AEw;obtain⟨a,ha⟩:∃a,Ae[i+1+k]?=some a:=⟨_,AO (by omega)⟩;have ADe:(Ae.drop (i+1)).getD k 0=a:=by rw[BV,Ho,ha];rfl
    have halt:=ME.out a (Ak ha);have FN:=hid (I8.out.2.2.1 y (Ak hy));have q10:=Jg.out _ _ ha;obtain⟨gr,or,cr,hcr,q11,AEx⟩:=M9.out a halt;have q12:=AEx x SF;obtain⟨gr2,or2,cr2,uo,q13,AEy⟩:=M9.out x SF;have hpd:=HPD.out y;have q14:=AEy _ hpd;have Gx:=hid Fj;have HY:=hid hy;have Uz:=hid ADe;have hd2:decide ((k:Int)<(L.c.length:Int))=true:=by simp;omega
    have w1:IntKind.i64.wrap ((i:Int)+1)=(i:Int)+1:=AY _ (by omega);have w2:IntKind.i64.wrap ((i:Int)+1+(k:Int))=(i:Int)+1+(k:Int):=AY _ (by omega);have w9:(i:Int)+1+(k:Int)<(T.length:Int):=by omega
    have Bj:(0:Int)≤(i:Int)+1+(k:Int):=by omega
    have Hz:((i:Int)+1+(k:Int)).toNat=i+1+k:=by omega
    clear hb ha ADe AEx AEy Fj hy AEw;go_upto_region 6 with fail;refine AAC w.heap.size w HB.out (by kernel_rfl) (by kernel_rfl) ?_;repeat(go_big_quiet_step ((first|(go_at_call 125;exact AAT (Bw.out _ y _ FN.out Gx.out)))))
    refine wpQuiet_nil ?_;intro wy hw';have hby:Below w.heap.size w wy:=by obtain⟨x1,rfl⟩:=hw';exact x1.2
    clear hw';have HBY:=hid hby;clear hby;by_cases h2:pr Q a x=pr Q x (BX (pr Q) 0 (Ae.drop (i+1)) y)
    ·have hd3:((pr Q a x:Int) !=(pr Q x (BX (pr Q) 0 (Ae.drop (i+1)) y):Int))=false:=by rw[h2];simp
     have H2:=hid h2;clear h2;go_wp2_with fail;go_roundw;case rel=>exact⟨k+1,by omega,by go_num,hid (fun j y' hj hy'=>by
      rcases CP j k with h|h
      ·exact hR.out j y' h hy'
      ·obtain rfl:j=k:=by omega
       obtain rfl:y=y':=Mc (HY.out.symm.trans hy');rw[Uz.out];exact H2.out),HBY.out⟩
     case measure=>simp[intOf];omega
    ·have hd3:((pr Q a x:Int) !=(pr Q x (BX (pr Q) 0 (Ae.drop (i+1)) y):Int))=true:=by
      have:(pr Q a x:Int)≠(pr Q x (BX (pr Q) 0 (Ae.drop (i+1)) y):Int):=fun h=>h2 (by exact_mod_cast h);simpa using this
     have H2:=hid h2;clear h2;go_wp2_with fail;go_ret;exact FV (fun h=>H2.out (by have:=h.2 k y HY.out;rwa[Uz.out]at this)) HBY.out
   ·obtain rfl:k=L.c.length:=by omega
    have hd2:decide ((L.c.length:Int)<(L.c.length:Int))=false:=by simp
    go_wp2_with fail;go_ret;exact VS ⟨H1.out,fun j y hy=>hR.out j y (Ag.1 hy).1 hy⟩ HB.out
 ·have hd:(((it (fun z=>pr Q z x) L.o 0:Nat):Int) !=((BX (pr Q) 0 (Ae.drop (i+1)) L.w:Nat):Int))=true:=by
   have:((it (fun z=>pr Q z x) L.o 0:Nat):Int)≠((BX (pr Q) 0 (Ae.drop (i+1)) L.w:Nat):Int):=fun h=>h1 (by exact_mod_cast h);simpa using this
  have H1:=hid h1;clear h1;go_wp2_with fail;go_ret;exact FV (fun h=>H1.out h.1) EE.out
end Go.Proofs.YtaadbccidfdniaaGreat.TU
namespace Go.Proofs.YtaadbccidfdniaaGreat.Grow
open Go.Proofs.YtaadbccidfdniaaGreat AB CU LX Mf TU
def IA (Q:Tw):Tw→List Nat→Nat→Prop
 |L::T,x::im,c=>∃j,j<L.o∧∃s,IA Q T im s∧it (pr Q x) j s=c
 |_,_,c=>c=0
theorem iO {Q:Tw}(hQ:Wf Q):∀{T:Tw} {im:List Nat} {c:Nat},IA Q T im c→c<sz Q
 |[],_,c,h=>by simp only[IA]at h;rw[h];exact JQ hQ
 |_::_,[],c,h=>by simp only[IA]at h;rw[h];exact JQ hQ
 |L::T,x::im,c,⟨j,hj,s,hs,e⟩=>by
  cases j with
  |zero=>rw[←e];exact iO hQ hs
  |succ j=>rw[←e,GK];exact Mg hQ _ _
open Classical in
noncomputable def grow (Q T:Tw):Nat→List Nat→List (List Nat)
 |0,im=>[im]
 |k+1,im=>(List.range (sz Q)).flatMap fun x=>if¬IA Q (T.drop (k+1)) im x∧Fits Q (T.getD k ⟨0,[],[]⟩) im x then grow Q T k (x::im)else []
open Classical in
noncomputable def FW (Q T:Tw)(k:Nat)(im:List Nat)(n:Nat):List (List Nat):=
 (List.range n).flatMap fun x=>if¬IA Q (T.drop (k+1)) im x∧Fits Q (T.getD k ⟨0,[],[]⟩) im x then grow Q T k (x::im)else []
theorem oD (Q T:Tw)(k:Nat)(im:List Nat):FW Q T k im 0=[]:=rfl
theorem ow (Q T:Tw)(k:Nat)(im:List Nat):FW Q T k im (sz Q)=grow Q T (k+1) im:=rfl
theorem VJ {Q T:Tw}{k:Nat}{im:List Nat}{x:Nat}(h:¬IA Q (T.drop (k+1)) im x∧Fits Q (T.getD k ⟨0,[],[]⟩) im x):FW Q T k im (x+1)=FW Q T k im x++grow Q T k (x::im):=by
 simp only[FW,Pw,List.flatMap_append,Og,List.flatMap_nil,La];rw[Bo h]
theorem eX {Q T:Tw}{k:Nat}{im:List Nat}{x:Nat}(h:¬(¬IA Q (T.drop (k+1)) im x∧Fits Q (T.getD k ⟨0,[],[]⟩) im x)):FW Q T k im (x+1)=FW Q T k im x:=by
 simp only[FW,Pw,List.flatMap_append,Og,List.flatMap_nil,La];rw[BD h,La]
theorem AHV (Q T:Tw)(k:Nat)(im:List Nat){m n:Nat}(h:m≤n):∃r,FW Q T k im n=FW Q T k im m++r:=by
 induction n with
 |zero=>
  obtain rfl:m=0:=by omega
  exact⟨[],by simp⟩
 |succ n ih=>
  rcases CP n m with h'|h'
  ·obtain rfl:m=n+1:=by omega
   exact⟨[],by simp⟩
  ·obtain⟨r,hr⟩:=ih h';by_cases hc:¬IA Q (T.drop (k+1)) im n∧Fits Q (T.getD k ⟨0,[],[]⟩) im n
   ·rw[VJ hc,hr];exact⟨r++grow Q T k (n::im),by simp⟩
   ·rw[eX hc];exact⟨r,hr⟩
def Lh (b:Bool)(l:List (List Nat)):List (List Nat):=if b then l.take 1 else l
theorem AHW (l:List (List Nat)):Lh false l=l:=rfl
theorem AAH (Q T:Tw)(hz:sz Q≤27)(k:Nat)(hk:∀im,(grow Q T k im).length≤27^k)(im:List Nat)(n:Nat):(FW Q T k im n).length≤n*27^k:=by
 induction n with
 |zero=>simp[oD]
 |succ n ih=>
  by_cases hc:¬IA Q (T.drop (k+1)) im n∧Fits Q (T.getD k ⟨0,[],[]⟩) im n
  ·rw[VJ hc,Cs,Nat.add_mul,Nat.one_mul];exact Nat.add_le_add ih (hk _)
  ·rw[eX hc];exact Ad ih (RI _ (by omega))
theorem Xr (Q T:Tw)(hz:sz Q≤27)(k:Nat):∀im,(grow Q T k im).length≤27^k:=by
 induction k with
 |zero=>intro im;simp[grow]
 |succ k ih=>
  intro im;rw[←ow];refine Ad (AAH Q T hz k ih im (sz Q)) ?_;rw[TI,Oh];exact iY _ hz
end Go.Proofs.YtaadbccidfdniaaGreat.Grow
namespace Go.Proofs.YtaadbccidfdniaaGreat.Gf
open Go.Proofs.YtaadbccidfdniaaGreat AB Gen Cu CU LX Mf TU Grow
theorem Yk {Q:Tw}(hQ:Wf Q)(i j:Nat):at_ Q (pr Q i j)=mul Q (at_ Q i) (at_ Q j):=J4 hQ (C8 hQ (D7 hQ i) (D7 hQ j))
theorem TB {Q:Tw}(hQ:Wf Q):at_ Q 0=AB.one Q:=by
 rw[←qU (T:=Q)];exact J4 hQ (D5 hQ)
theorem ACz {Q:Tw}(hQ:Wf Q)(c a u:Nat):at_ Q (it (fun z=>pr Q z c) a u)=it (fun z=>mul Q z (at_ Q c)) a (at_ Q u):=by
 induction a generalizing u with
 |zero=>rfl
 |succ a ih=>rw[it,it,ih,Yk hQ]
theorem AC0 {Q:Tw}(hQ:Wf Q)(c a u:Nat):at_ Q (it (pr Q c) a u)=it (mul Q (at_ Q c)) a (at_ Q u):=by
 induction a generalizing u with
 |zero=>rfl
 |succ a ih=>rw[it,it,ih,Yk hQ]
theorem AIq {Q:Tw}(hQ:Wf Q)(im es:List Nat)(u:Nat):at_ Q (BX (pr Q) u im es)=BX (mul Q) (at_ Q u) (im.map (at_ Q)) es:=by
 induction im generalizing u es with
 |nil=>cases es<;>rfl
 |cons c im ih=>cases es with
  |nil=>rfl
  |cons a es=>rw[GZ,BX,BX,ih,ACz hQ]
theorem ABg {Q:Tw}(hQ:Wf Q)(hg:AB.Good Q){x u:List Nat}(hx:El Q x)(hu:El Q u)(a:Nat):it (mul Q x) a u=mul Q (npow (mul Q) (AB.one Q) x a) u:=by
 have G:=BO hQ hg
 induction a generalizing u with
 |zero=>exact(G.eL hu).symm
 |succ a ih=>rw[it,ih (G.cl hx hu),Dz,G.Am (G.npow hx a) hx hu]
theorem fO {Q:Tw}{i j:Nat}(hi:i<sz Q)(hj:j<sz Q):i=j↔at_ Q i=at_ Q j:=⟨fun h=>by rw[h],fun h=>rF hi hj h⟩
theorem sJ {Q:Tw}(hQ:Wf Q){f:Nat→Nat}(hf:∀z,f z<sz Q)(a u:Nat)(hu:u<sz Q):it f a u<sz Q:=JP (· <sz Q) f (fun z _=>hf z) a u hu
theorem AIr {Q:Tw}(hQ:Wf Q)(im es:List Nat)(u:Nat)(hu:u<sz Q):BX (pr Q) u im es<sz Q:=by
 induction im generalizing u es with
 |nil=>cases es<;>exact hu
 |cons c im ih=>cases es with
  |nil=>exact hu
  |cons a es=>exact ih es _ (sJ hQ (fun z=>Mg hQ _ _) a u hu)
def J8 (Q:Tw)(L:Lv)(im:List (List Nat))(x:List Nat):Prop:=
 npow (mul Q) (AB.one Q) x L.o=ev (mul Q) (AB.one Q) im L.w∧∀k y,L.c[k]?=some y→mul Q (im.getD k (AB.one Q)) x=mul Q x (ev (mul Q) (AB.one Q) im y)
theorem AIs {Q:Tw}(hQ:Wf Q)(hg:AB.Good Q)(L:Lv)(im:List Nat)(x:Nat):Fits Q L im x↔J8 Q L (im.map (at_ Q)) (at_ Q x):=by
 have G:=BO hQ hg;have h0:=JQ hQ;have hme:∀c∈im.map (at_ Q),El Q c:=by intro c hc;obtain⟨i,_,rfl⟩:=Cy.1 hc;exact D7 hQ i
 have hev:∀es,at_ Q (BX (pr Q) 0 im es)=ev (mul Q) (AB.one Q) (im.map (at_ Q)) es:=fun es=>by rw[AIq hQ,TB hQ,G.Pg hme]
 have hgd:∀k,at_ Q (im.getD k 0)=(im.map (at_ Q)).getD k (AB.one Q):=fun k=>by
  rw[BV,BV,Bn];cases im[k]? with
  |none=>exact TB hQ
  |some i=>rfl
 unfold Fits J8;refine and_congr ?_ (forall_congr' fun k=>forall_congr' fun y=>imp_congr_right fun _=>?_)
 ·rw[fO (sJ hQ (fun z=>Mg hQ _ _) _ _ h0) (AIr hQ _ _ _ h0),ACz hQ,TB hQ,hev];rfl
 ·rw[fO (Mg hQ _ _) (Mg hQ _ _),Yk hQ,Yk hQ,hev,hgd]
theorem ACN {Q:Tw}(hQ:Wf Q)(hg:AB.Good Q):∀{T:Tw} {im:List Nat} {c:Nat},im.length=T.length→c<sz Q→(IA Q T im c↔∃z,El T z∧ev (mul Q) (AB.one Q) (im.map (at_ Q)) z=at_ Q c)
 |[],[],c,_,hc=>by
  simp only[IA];constructor
  ·rintro rfl;exact⟨[],trivial,(TB hQ).symm⟩
  ·rintro⟨z,_,h⟩;refine(fO hc (JQ hQ)).2 ?_;rw[TB hQ];cases z<;>exact h.symm
 |[],_::_,c,h,hc=>by simp at h
 |_::_,[],c,h,hc=>by simp at h
 |L::T,x::im,c,h,hc=>by
  have G:=BO hQ hg;have ih:=fun {s:Nat} (hs:s<sz Q)=>ACN hQ hg (T:=T) (im:=im) (c:=s) (by simpa using h) hs;simp only[IA];constructor
  ·rintro⟨j,hj,s,hs,rfl⟩;obtain⟨z,hz,e⟩:=(ih (iO hQ hs)).1 hs;refine⟨j::z,⟨hj,hz⟩,?_⟩;rw[AC0 hQ,ABg hQ hg (D7 hQ x) (D7 hQ s),←e];rfl
  ·rintro⟨z,hz,e⟩;cases z with
   |nil=>exact hz.elim
   |cons j z=>
    have hE:El Q (ev (mul Q) (AB.one Q) (im.map (at_ Q)) z):=G.ev (by intro c hc;obtain⟨i,_,rfl⟩:=Cy.1 hc;exact D7 hQ i) z;have hlt:=KZ hE hQ;refine⟨j,hz.1,num Q (ev (mul Q) (AB.one Q) (im.map (at_ Q)) z),(ih hlt).2 ⟨z,hz.2,(J4 hQ hE).symm⟩,?_⟩;have hl:it (pr Q x) j (num Q (ev (mul Q) (AB.one Q) (im.map (at_ Q)) z))<sz Q:=sJ hQ (fun z=>Mg hQ _ _) _ _ hlt;refine(fO hl hc).2 ?_;rw[AC0 hQ,ABg hQ hg (D7 hQ x) (D7 hQ _),J4 hQ hE,←e];rfl
open Classical in
noncomputable def Bf (Q T:Tw):Nat→List (List Nat)→List (List (List Nat))
 |0,im=>[im]
 |k+1,im=>(List.range (sz Q)).flatMap fun t=>if¬Gen (mul Q) (AB.one Q) im (at_ Q t)∧J8 Q (T.getD k ⟨0,[],[]⟩) im (at_ Q t)then Bf Q T k (at_ Q t::im)else []
theorem ABh {Q:Tw}{L:Lv}{T:Tw}(hL:L.c.length=T.length){im:List (List Nat)}{x:List Nat}(hR:Rel (mul Q) (AB.one Q) T im)(h:J8 Q L im x):Rel (mul Q) (AB.one Q) (L::T) (x::im):=by
 refine⟨h.1,fun j h1 h2=>?_,hR⟩;have:=h.2 j L.c[j] (AO h2);rw[BV,AO h1]at this;exact this
theorem AAf {Q T:Tw}(hQ:Wf Q)(hg:AB.Good Q)(hT:Wf T):∀k,k≤T.length→∀im:List Nat,Rel (mul Q) (AB.one Q) (T.drop k) (im.map (at_ Q))→
  (grow Q T k im).map (fun l=>l.map (at_ Q))=Bf Q T k (im.map (at_ Q))
 |0,_,im,_=>rfl
 |k+1,hk,im,hR=>by
  classical
  obtain⟨L,hL⟩:∃L,T[k]?=some L:=⟨_,AO (by omega)⟩;have yc:T.getD k ⟨0,[],[]⟩=L:=by rw[BV,hL];rfl
  have hl:=lvl' hT hL;have hme:∀c∈im.map (at_ Q),El Q c:=by intro c hc;obtain⟨i,_,rfl⟩:=Cy.1 hc;exact D7 hQ i
  have hlen:im.length=(T.drop (k+1)).length:=by have:=Xt hR;simpa using this
  rw[grow,Bf,List.map_flatMap];have hcg:∀t∈List.range (sz Q),List.map (fun l=>l.map (at_ Q)) (if¬IA Q (T.drop (k+1)) im t∧Fits Q (T.getD k ⟨0,[],[]⟩) im t then grow Q T k (t::im)else [])=
    if¬Gen (mul Q) (AB.one Q) (im.map (at_ Q)) (at_ Q t)∧J8 Q (T.getD k ⟨0,[],[]⟩) (im.map (at_ Q)) (at_ Q t)then Bf Q T k (at_ Q t::im.map (at_ Q))else []:=fun t ht=>by
   have ht':t<sz Q:=JW.1 ht;have e1:=ACN hQ hg hlen ht';have e2:=ACh hQ hg hl.1 hme hR (at_ Q t);have e3:=AIs hQ hg (T.getD k ⟨0,[],[]⟩) im t;by_cases hc:¬IA Q (T.drop (k+1)) im t∧Fits Q (T.getD k ⟨0,[],[]⟩) im t
   ·have hc':¬Gen (mul Q) (AB.one Q) (im.map (at_ Q)) (at_ Q t)∧J8 Q (T.getD k ⟨0,[],[]⟩) (im.map (at_ Q)) (at_ Q t):=⟨fun h=>hc.1 (e1.2 (e2.1 h)),e3.1 hc.2⟩;rw[Bo hc,Bo hc'];refine AAf hQ hg hT k (by omega) (t::im) ?_;rw[Fw hL];refine ABh (by rw[hl.2.1];simp) hR ?_;rw[←yc];exact hc'.2
   ·have hc':¬(¬Gen (mul Q) (AB.one Q) (im.map (at_ Q)) (at_ Q t)∧J8 Q (T.getD k ⟨0,[],[]⟩) (im.map (at_ Q)) (at_ Q t)):=fun h=>hc ⟨fun h'=>h.1 (e2.2 (e1.1 h')),e3.2 h.2⟩;rw[BD hc,BD hc'];rfl
  have hfm:∀(l:List Nat) (F H:Nat→List (List (List Nat))),(∀t∈l,F t=H t)→l.flatMap F=l.flatMap H:=by
   intro l F H h
   induction l with
   |nil=>rfl
   |cons a l ih=>rw[Og,Og,h a DJ,ih (fun t ht=>h t (Dj _ ht))]
  exact hfm _ _ _ hcg
end Go.Proofs.YtaadbccidfdniaaGreat.Gf
namespace Go.Proofs.YtaadbccidfdniaaGreat.I9
open Go.Proofs.YtaadbccidfdniaaGreat AB Gen Cu CU Gf
structure DI (Q T:Tw)(cs:List (List Nat)):Prop where
 el:∀c∈cs,El Q c
 rel:Rel (mul Q) (AB.one Q) T cs
 inj:∀x y,El T x→El T y→ev (mul Q) (AB.one Q) cs x=ev (mul Q) (AB.one Q) cs y→x=y
def Er (T:Tw):Prop:=∀L∈T,L.o=2∨L.o=3∨L.o=5∨L.o=7
theorem AA2 {o d:Nat}(ho:o=2∨o=3∨o=5∨o=7)(h0:0<d)(hd:d<o):∃m n,d*m=1+o*n:=by
 have h:∀o∈[2,3,5,7],∀d,d<o→0<d→∃m,m<8∧∃n,n<8∧d*m=1+o*n:=by decide
 obtain⟨m,_,n,_,e⟩:=h o (by rcases ho with rfl|rfl|rfl|rfl<;>simp) d hd h0;exact⟨m,n,e⟩
theorem Q6 {Q:Tw}(hQ:Wf Q)(hg:AB.Good Q):∀(cs:List (List Nat)) (n:Nat),ev (mul Q) (AB.one Q) cs (List.replicate n 0)=AB.one Q
 |[],n=>by cases n<;>rfl
 |d::ds,0=>rfl
 |d::ds,n+1=>(BM (mul Q _) (Q6 hQ hg ds n)).trans (by have G:=BO hQ hg;rw[JL,G.eL G.me])
theorem gM {Q:Tw}(hQ:Wf Q)(hg:AB.Good Q){x:List Nat}{im:List (List Nat)}(hi:∀c∈im,El Q c)(z:List Nat):ev (mul Q) (AB.one Q) (x::im) (0::z)=ev (mul Q) (AB.one Q) im z:=by
 have G:=BO hQ hg;show mul Q (npow (mul Q) (AB.one Q) x 0) _=_;rw[JL,G.eL (G.ev hi z)]
def Im (Q T:Tw)(cs:List (List Nat))(c:List Nat):Prop:=∃z,El T z∧ev (mul Q) (AB.one Q) cs z=c
theorem AC1 {Q T:Tw}(hQ:Wf Q)(hg:AB.Good Q)(hT:Wf T)(BH:AB.Good T){im:List (List Nat)}(hi:∀c∈im,El Q c)(hR:Rel (mul Q) (AB.one Q) T im){c v:List Nat}(hc:El Q c)(h:Im Q T im (mul Q c v))(hv:Im Q T im v):Im Q T im c:=by
 have G:=BO hQ hg;have GT:=BO hT BH;obtain⟨z,hz,e⟩:=h;obtain⟨y,hy,rfl⟩:=hv;obtain⟨y',hy',h1,h2⟩:=GT.iv hy;refine⟨mul T z y',GT.cl hz hy',?_⟩;refine G.qN (G.ev hi y) (G.ev hi _) hc ?_;rw[←e,←G.Rh hT hi hR (GT.cl hz hy') hy,GT.Am hz hy' hy,h2,GT.eR hz]
theorem AC2 {Q T:Tw}(hQ:Wf Q)(hg:AB.Good Q)(hT:Wf T){im:List (List Nat)}(hi:∀c∈im,El Q c)(hR:Rel (mul Q) (AB.one Q) T im){c v:List Nat}(h:Im Q T im c)(hv:Im Q T im v):Im Q T im (mul Q c v):=by
 have G:=BO hQ hg;obtain⟨z,hz,rfl⟩:=h;obtain⟨y,hy,rfl⟩:=hv;exact⟨mul T z y,C8 hT hz hy,G.Rh hT hi hR hz hy⟩
theorem AC3 {Q T:Tw}(hQ:Wf Q)(hg:AB.Good Q)(hT:Wf T){im:List (List Nat)}:Im Q T im (AB.one Q):=⟨AB.one T,D5 hT,Q6 hQ hg im _⟩
theorem rU {Q T:Tw}(hQ:Wf Q)(hg:AB.Good Q)(hT:Wf T){im:List (List Nat)}(hi:∀c∈im,El Q c)(hR:Rel (mul Q) (AB.one Q) T im){c:List Nat}(h:Im Q T im c):∀k,Im Q T im (npow (mul Q) (AB.one Q) c k)
 |0=>AC3 hQ hg hT
 |k+1=>by rw[Dz];exact AC2 hQ hg hT hi hR (rU hQ hg hT hi hR h k) h
theorem iP {Q T:Tw}(hQ:Wf Q)(hg:AB.Good Q)(hT:Wf T){im:List (List Nat)}(hi:∀c∈im,El Q c)(hR:Rel (mul Q) (AB.one Q) T im)(c:List Nat):Gen (mul Q) (AB.one Q) im c↔Im Q T im c:=ACh hQ hg hT hi hR c
theorem AC4 {Q T:Tw}{L:Lv}(hQ:Wf Q)(hg:AB.Good Q)(hT:Wf (L::T))(BH:AB.Good T)(hp:L.o=2∨L.o=3∨L.o=5∨L.o=7){im:List (List Nat)}{x:List Nat}(hi:∀c∈im,El Q c)(hR:Rel (mul Q) (AB.one Q) T im)(hx:El Q x)(hF:J8 Q L im x)(hn:¬Gen (mul Q) (AB.one Q) im x)
  {a b:Nat} {z y:List Nat} (hz:El T z) (hy:El T y) (hab:a<b) (hb:b<L.o) (e:mul Q (npow (mul Q) (AB.one Q) x a) (ev (mul Q) (AB.one Q) im z)=mul Q (npow (mul Q) (AB.one Q) x b) (ev (mul Q) (AB.one Q) im y)):False:=by
 have G:=BO hQ hg;have hT':=hT.2.2.2.2;obtain⟨m,n,hmn⟩:=AA2 hp (show 0<b-a by omega) (show b-a<L.o by omega);have ha:=G.npow hx a;have hd:=G.npow hx (b-a);rw[show b=a+(b-a) by omega,G.NV hx,G.Am ha hd (G.ev hi y)]at e;have e1:=G.Ob ha (G.ev hi z) (G.cl hd (G.ev hi y)) e;have h1:Im Q T im (npow (mul Q) (AB.one Q) x (b-a)):=AC1 hQ hg hT' BH hi hR hd ⟨z,hz,e1⟩ ⟨y,hy,rfl⟩;have h2:Im Q T im (npow (mul Q) (AB.one Q) x (1+L.o*n)):=by
  have:=rU hQ hg hT' hi hR h1 m;rw[fC G hx,hmn]at this;exact this
 have h3:Im Q T im (npow (mul Q) (AB.one Q) x (L.o*n)):=by
  rw[←fC G hx,hF.1];exact rU hQ hg hT' hi hR ⟨L.w,hT.2.1,rfl⟩ n
 rw[G.NV hx,G.Oa hx]at h2;exact hn ((iP hQ hg hT' hi hR x).2 (AC1 hQ hg hT' BH hi hR hx h2 h3))
theorem fP {Q T:Tw}{L:Lv}(hQ:Wf Q)(hg:AB.Good Q)(hT:Wf (L::T))(BH:AB.Good T)(hp:L.o=2∨L.o=3∨L.o=5∨L.o=7){im:List (List Nat)}{x:List Nat}:
  DI Q (L::T) (x::im)↔DI Q T im∧El Q x∧J8 Q L im x∧¬Gen (mul Q) (AB.one Q) im x:=by
 have G:=BO hQ hg;have hT':=hT.2.2.2.2;have ho:=hT.1;constructor
 ·rintro⟨hel,⟨r1,r2,r3⟩,hinj⟩;have hi:∀c∈im,El Q c:=fun c hc=>hel c (Dj _ hc);have hx:=hel x DJ;have hl:=Xt r3;have hE:DI Q T im:=⟨hi,r3,fun z y hz hy e=>by
   have:=hinj (0::z) (0::y) ⟨by omega,hz⟩ ⟨by omega,hy⟩ (by rw[gM hQ hg hi,gM hQ hg hi,e]);simpa using this⟩
  refine⟨hE,hx,⟨r1,fun k y hk=>?_⟩,fun h=>?_⟩
  ·have hkl:=(Ag.1 hk).1;have hkm:k<im.length:=by rw[hl,←hT.2.2.1];exact hkl
   have:=r2 k hkm hkl;rw[BV,AO hkm];rw[(Ag.1 hk).2]at this;exact this
  ·obtain⟨z,hz,e⟩:=(iP hQ hg hT' hi r3 x).1 h;have:=hinj (1::AB.one T) (0::z) ⟨by omega,D5 hT'⟩ ⟨by omega,hz⟩ (by
    rw[gM hQ hg hi,e];show mul Q (npow (mul Q) (AB.one Q) x 1) (ev (mul Q) (AB.one Q) im (List.replicate T.length 0))=x;rw[Q6 hQ hg,G.Oa hx,G.eR hx])
   simp at this
 ·rintro⟨hE,hx,hF,hn⟩;refine⟨fun c hc=>?_,ABh hT.2.2.1 hE.rel hF,fun u v hu hv e=>?_⟩
  ·rcases F8.1 hc with rfl|hc
   ·exact hx
   ·exact hE.el c hc
  ·cases u with
   |nil=>exact hu.elim
   |cons a z=>cases v with
    |nil=>exact hv.elim
    |cons b y=>
     have e':mul Q (npow (mul Q) (AB.one Q) x a) (ev (mul Q) (AB.one Q) im z)=mul Q (npow (mul Q) (AB.one Q) x b) (ev (mul Q) (AB.one Q) im y):=e;rcases TN a b with h|h|h
     ·exact(AC4 hQ hg hT BH hp hE.el hE.rel hx hF hn hu.2 hv.2 h hv.1 e').elim
     ·subst h;have:=hE.inj z y hu.2 hv.2 (G.Ob (G.npow hx a) (G.ev hE.el z) (G.ev hE.el y) e');rw[this]
     ·exact(AC4 hQ hg hT BH hp hE.el hE.rel hx hF hn hv.2 hu.2 h hu.1 e'.symm).elim
theorem qd {Q:Tw}:DI Q [] []:=⟨by simp,trivial,fun x y hx hy _=>by
 cases x with
 |nil=>cases y with
  |nil=>rfl
  |cons b y=>exact hy.elim
 |cons a x=>exact hx.elim⟩
theorem DI.len {Q T:Tw}{cs:List (List Nat)}(h:DI Q T cs):cs.length=T.length:=Xt h.rel
theorem ABi {Q T:Tw}(hQ:Wf Q)(hg:AB.Good Q)(hT:Wf T)(BH:AB.Good T)(hp:Er T){cs:List (List Nat)}(h:DI Q T cs):∀k,k≤T.length→DI Q (T.drop k) (cs.drop k)
 |0,_=>h
 |k+1,hk=>by
  have ih:=ABi hQ hg hT BH hp h k (by omega);obtain⟨L,hL⟩:∃L,T[k]?=some L:=⟨_,AO (by omega)⟩;have hkc:k<cs.length:=by rw[h.len];omega
  have hw:=FK hT k;have hgd:=PZ BH (k+1);rw[Fw hL]at ih hw;rw[EX hkc]at ih;exact((fP hQ hg hw hgd (hp L (Ak hL))).1 ih).1
theorem oz {Q T:Tw}:∀(k:Nat) (im cs:List (List Nat)),cs∈Bf Q T k im→cs.drop k=im
 |0,im,cs,h=>by simpa[Bf]using h
 |k+1,im,cs,h=>by
  rw[Bf,List.mem_flatMap]at h;obtain⟨t,_,h⟩:=h;split at h
  ·have:=oz k _ _ h;rw[←Fe,this];rfl
  ·simp at h
theorem pQ {Q T:Tw}(hQ:Wf Q)(hg:AB.Good Q)(hT:Wf T)(BH:AB.Good T)(hp:Er T):∀k,k≤T.length→∀im,DI Q (T.drop k) im→∀cs,cs∈Bf Q T k im↔DI Q T cs∧cs.drop k=im
 |0,_,im,h,cs=>by
  rw[Bf,GU,List.drop_zero];constructor
  ·rintro rfl;exact⟨h,rfl⟩
  ·exact fun h=>h.2
 |k+1,hk,im,h,cs=>by
  obtain⟨L,hL⟩:∃L,T[k]?=some L:=⟨_,AO (by omega)⟩;have yc:T.getD k ⟨0,[],[]⟩=L:=by rw[BV,hL];rfl
  have hw:=FK hT k;have hgd:=PZ BH (k+1);rw[Fw hL]at hw;have hpk:=hp L (Ak hL);rw[Bf,List.mem_flatMap,yc];constructor
  ·rintro⟨t,ht,hm⟩;split at hm
   ·next hc=>
    have hE:DI Q (T.drop k) (at_ Q t::im):=by
     rw[Fw hL];exact(fP hQ hg hw hgd hpk).2 ⟨h,D7 hQ t,hc.2,hc.1⟩
    have:=(pQ hQ hg hT BH hp k (by omega) _ hE cs).1 hm;exact⟨this.1,by rw[←Fe,this.2];rfl⟩
   ·simp at hm
  ·rintro⟨hE,hd⟩;have hkc:k<cs.length:=by rw[hE.len];omega
   have hEk:=ABi hQ hg hT BH hp hE k (by omega);rw[Fw hL,EX hkc,hd]at hEk;have hc:=(fP hQ hg hw hgd hpk).1 hEk;have hat:=J4 hQ hc.2.1;refine⟨num Q cs[k],JW.2 (KZ hc.2.1 hQ),?_⟩;rw[hat,Bo ⟨hc.2.2.2,hc.2.2.1⟩];refine(pQ hQ hg hT BH hp k (by omega) _ (by rw[Fw hL];exact hEk) cs).2 ⟨hE,?_⟩;rw[EX hkc,hd]
theorem dm {Q T:Tw}:∀(k:Nat) (im:List (List Nat)),(Bf Q T k im).Nodup
 |0,im=>by simp[Bf]
 |k+1,im=>by
  rw[Bf];refine List.pairwise_flatMap.2 ⟨fun t _=>?_,?_⟩
  ·split
   ·exact dm k _
   ·exact List.Pairwise.nil
  ·refine List.pairwise_iff_getElem.2 fun i j hi hj hij x hx y hy=>?_;simp only[List.length_range]at hi hj;simp only[List.getElem_range]at hx hy;split at hx
   ·split at hy
    ·intro e;have h1:=oz k _ _ hx;have h2:=oz k _ _ hy;rw[e,h2]at h1;have:=rF hj hi (List.cons.inj h1).1;omega
    ·simp at hy
   ·simp at hx
end Go.Proofs.YtaadbccidfdniaaGreat.I9
namespace Go.Proofs.YtaadbccidfdniaaGreat.Qi
open Go.Proofs.YtaadbccidfdniaaGreat AB Gen Cu CU Gf I9
section
variable {α β:Type} {M:α→Prop} {m:α→α→α} {e:α} {m':β→β→β} {e':β}
theorem ABj (G:CV M m e)(f:α→β)(he:f e=e')(hf:∀a b,M a→M b→f (m a b)=m' (f a) (f b)){c:α}(hc:M c):∀k,f (npow m e c k)=npow m' e' (f c) k
 |0=>he
 |k+1=>by rw[Dz,hf _ _ (G.npow hc k) hc,ABj G f he hf hc k,Dz]
theorem Va (G:CV M m e)(f:α→β)(he:f e=e')(hf:∀a b,M a→M b→f (m a b)=m' (f a) (f b))(hi:∀a b,M a→M b→f a=f b→a=b):∀(T:Tw) (cs:List α),(∀c∈cs,M c)→(Rel m' e' T (cs.map f)↔Rel m e T cs)
 |[],[],_=>Iff.rfl
 |[],_::_,_=>Iff.rfl
 |_::_,[],_=>Iff.rfl
 |L::T,c::cs,hc=>by
  have h1:=hc c DJ;have h2:∀d∈cs,M d:=fun d hd=>hc d (Dj _ hd);have hev:∀x,ev m' e' (cs.map f) x=f (ev m e cs x):=fun x=>(MX G f he hf h2 x).symm;rw[GZ];show(_∧_∧_)↔(_∧_∧_);refine and_congr ?_ (and_congr ?_ (Va G f he hf hi T cs h2))
  ·rw[hev,←ABj G f he hf h1];exact⟨fun h=>hi _ _ (G.npow h1 _) (G.ev h2 _) h,fun h=>by rw[h]⟩
  ·constructor
   ·intro h j hj hj';have:=h j (by simpa using hj) hj';rw[YQ,hev,←hf _ _ (h2 _ (Ke hj)) h1,←hf _ _ h1 (G.ev h2 _)]at this;exact hi _ _ (G.cl (h2 _ (Ke hj)) h1) (G.cl h1 (G.ev h2 _)) this
   ·intro h j hj hj';have hj2:j<cs.length:=by simpa using hj
    have:=h j hj2 hj';rw[YQ,hev,←hf _ _ (h2 _ (Ke hj2)) h1,←hf _ _ h1 (G.ev h2 _),this]
end
theorem qg {Q:Tw}(hQ:Wf Q)(hg:AB.Good Q):∀(cs:List (List Nat)) (T:Tw),(∀c∈cs,El Q c)→cs.length=T.length→∀j c,cs[j]?=some c→ev (mul Q) (AB.one Q) cs (unit T j)=c
 |[],T,_,_,j,c,hj=>by simp at hj
 |d::ds,[],_,hl,j,c,hj=>by simp at hl
 |d::ds,L::T,hd,hl,j,c,hj=>by
  have G:=BO hQ hg;have hd1:=hd d DJ;cases j with
  |zero=>
   simp only[CB,Eg]at hj;subst hj;rw[Xv];show mul Q (npow (mul Q) (AB.one Q) d 1) (ev (mul Q) (AB.one Q) ds (List.replicate T.length 0))=d;rw[G.Oa hd1,Q6 hQ hg,G.eR hd1]
  |succ j=>
   rw[eF,gM hQ hg (fun c hc=>hd c (Dj _ hc))];exact qg hQ hg ds T (fun x hx=>hd x (Dj _ hx)) (by simpa using hl) j c (by simpa using hj)
theorem oG {α:Type}(m:α→α→α):∀(cs:List α) (u:α) (n:Nat),BX m u cs (List.replicate n 0)=u
 |[],u,n=>by cases n<;>rfl
 |c::cs,u,0=>rfl
 |c::cs,u,n+1=>oG m cs u n
theorem AK7 {L:Lv}{T:Tw}(h:2≤L.o)(y z:List Nat):mul (L::T) (0::y) (0::z)=0::mul T y z:=by
 rw[JN,BD (by omega)];rfl
theorem AAg {L:Lv}{T:Tw}(h:Wf (L::T))(hg:AB.Good T):∀k,k<L.o→npow (mul (L::T)) (AB.one (L::T)) (unit (L::T) 0) k=k::AB.one T
 |0,_=>rfl
 |k+1,hk=>by
  have hE:El (L::T) (k::AB.one T):=⟨by omega,D5 h.2.2.2.2⟩;rw[Dz,AAg h hg k (by omega),←YG h hg hE,tg,BD (by omega),BD (by omega)];exact BM _ (oG _ _ _ _)
theorem AH4 {L:Lv}{T:Tw}(h:Wf (L::T))(hg:AB.Good T):npow (mul (L::T)) (AB.one (L::T)) (unit (L::T) 0) L.o=0::L.w:=by
 obtain⟨k,hk⟩:∃k,L.o=k+1:=⟨L.o-1,by have:=h.1;omega⟩;have hE:El (L::T) (k::AB.one T):=⟨by omega,D5 h.2.2.2.2⟩;rw[hk,Dz,AAg h hg k (by omega),←YG h hg hE,tg,Bo (by omega),Bo (by omega)];exact BM _ (oG _ _ _ _)
theorem ABk:∀{T:Tw},Wf T→AB.Good T→Rel (mul T) (AB.one T) T (Eh T)
 |[],_,_=>trivial
 |L::T,h,hg=>by
  have h5:=h.2.2.2.2;have h4:=h.2.2.2.1;have g0:=hg.1;have G:=BO h5 g0;have hm0:=AK7 (L:=L) (T:=T) h.1;have hge:=fZ h5;have hev:∀x,El T x→ev (mul (L::T)) (AB.one (L::T)) ((Eh T).map (0:: ·)) x=0::x:=fun x hx=>by
   rw[←MX (f:=(0:: ·)) (m':=mul (L::T)) (e':=AB.one (L::T)) G rfl (fun a b _ _=>(hm0 a b).symm) hge x,fU h5 g0 hx]
  rw[AAo];refine⟨?_,fun j hj hj'=>?_,?_⟩
  ·rw[AH4 h g0,hev _ h.2.1]
  ·have yf:j<T.length:=by simpa[Eh]using hj
   have MI:=h4 _ (Ke hj');have hgj:(Eh T)[j]'(by simpa[Eh]using yf)=unit T j:=by simp[Eh]
   have htg:=YG (x:=0::unit T j) h g0 ⟨by have:=h.1;omega,MV h5 j⟩;rw[YQ,hgj,hev _ MI,←htg,tg,BD (by have:=h.1;omega),BD (by have:=h.1;omega),Xv,JN,BD (by have:=h.1;omega)];show 1::BX (mul T) (AB.one T) L.c (unit T j)=1::mul T (AB.one T) L.c[j];rw[G.Pg h4,G.eL MI,qg h5 g0 L.c T h4 h.2.2.1 j L.c[j] (AO hj')]
  ·refine(Va G (0:: ·) rfl (fun a b _ _=>(hm0 a b).symm) (fun a b _ _ hab=>by simpa using hab) T (Eh T) hge).2 (ABk h5 g0)
theorem rV {T:Tw}(h:Wf T)(hg:AB.Good T):DI T T (Eh T):=⟨fZ h,ABk h hg,fun x y hx hy e=>by rwa[fU h hg hx,fU h hg hy]at e⟩
abbrev phi (Q:Tw)(u:List (List Nat))(z:List Nat):List Nat:=ev (mul Q) (AB.one Q) u z
theorem comp {Q S T:Tw}(hQ:Wf Q)(hg:AB.Good Q)(hS:Wf S)(Cv:AB.Good S){u cs:List (List Nat)}(hu:DI Q S u)(hc:DI S T cs):DI Q T (cs.map (phi Q u)):=by
 have G:=BO hQ hg;have GS:=BO hS Cv;have he:phi Q u (AB.one S)=AB.one Q:=Q6 hQ hg u _;have hf:∀a b,El S a→El S b→phi Q u (mul S a b)=mul Q (phi Q u a) (phi Q u b):=fun a b ha hb=>G.Rh hS hu.el hu.rel ha hb;refine⟨fun c h=>?_,(Va GS (phi Q u) he hf (fun a b ha hb h=>hu.inj a b ha hb h) T cs hc.el).2 hc.rel,fun x y hx hy e=>?_⟩
 ·obtain⟨d,_,rfl⟩:=Cy.1 h;exact G.ev hu.el d
 ·rw[←MX GS (phi Q u) he hf hc.el,←MX GS (phi Q u) he hf hc.el]at e;exact hc.inj x y hx hy (hu.inj _ _ (GS.ev hc.el x) (GS.ev hc.el y) e)
theorem factor {Q S T:Tw}(hQ:Wf Q)(hg:AB.Good Q)(hS:Wf S)(Cv:AB.Good S){u es:List (List Nat)}(hu:DI Q S u)(hE:DI Q T es)(hin:∀c∈es,Im Q S u c):∃cs,DI S T cs∧es=cs.map (phi Q u):=by
 classical
 have G:=BO hQ hg;have GS:=BO hS Cv;have he:phi Q u (AB.one S)=AB.one Q:=Q6 hQ hg u _;have hf:∀a b,El S a→El S b→phi Q u (mul S a b)=mul Q (phi Q u a) (phi Q u b):=fun a b ha hb=>G.Rh hS hu.el hu.rel ha hb
 let F:List Nat→List Nat:=fun c=>if h:∃z,El S z∧phi Q u z=c then Classical.choose h else []
 have hF:∀c∈es,El S (F c)∧phi Q u (F c)=c:=fun c hc=>by
  have h:∃z,El S z∧phi Q u z=c:=hin c hc;have e:F c=Classical.choose h:=dif_pos h;rw[e];exact P5 h
 have hel:∀d∈es.map F,El S d:=fun d hd=>by
  obtain⟨c,hc,rfl⟩:=Cy.1 hd;exact(hF c hc).1
 have hes:es=(es.map F).map (phi Q u):=by
  rw[List.map_map]
  conv=>lhs;rw[←List.map_id es]
  exact TP fun c hc=>((hF c hc).2).symm
 refine⟨es.map F,⟨hel,?_,fun x y hx hy e=>?_⟩,hes⟩
 ·refine(Va GS (phi Q u) he hf (fun a b ha hb h=>hu.inj a b ha hb h) T _ hel).1 ?_;rw[←hes];exact hE.rel
 ·refine hE.inj x y hx hy ?_;rw[hes,←MX GS (phi Q u) he hf hel,←MX GS (phi Q u) he hf hel,e]
noncomputable def OO (Q S T:Tw)(u:List (List Nat)):List (List (List Nat)):=(Bf S T T.length []).map fun cs=>cs.map (phi Q u)
theorem Pf {Q T:Tw}(hQ:Wf Q)(hg:AB.Good Q)(hT:Wf T)(BH:AB.Good T)(hp:Er T)(cs:List (List Nat)):cs∈Bf Q T T.length []↔DI Q T cs:=by
 rw[pQ hQ hg hT BH hp T.length AR [] (by rw[Nb];exact qd)];exact⟨fun h=>h.1,fun h=>⟨h,TJ (by rw[h.len];exact Av _)⟩⟩
theorem qh {Q S T:Tw}(hQ:Wf Q)(hg:AB.Good Q)(hS:Wf S)(Cv:AB.Good S)(hT:Wf T)(BH:AB.Good T)(hp:Er T){u:List (List Nat)}(hu:DI Q S u)(es:List (List Nat)):es∈OO Q S T u↔DI Q T es∧∀c∈es,Im Q S u c:=by
 unfold OO;rw[Cy];constructor
 ·rintro⟨cs,hcs,rfl⟩;have h:=(Pf hS Cv hT BH hp cs).1 hcs;refine⟨comp hQ hg hS Cv hu h,fun c hc=>?_⟩;obtain⟨d,hd,rfl⟩:=Cy.1 hc;exact⟨d,h.el d hd,rfl⟩
 ·rintro⟨hE,hin⟩;obtain⟨cs,h,e⟩:=factor hQ hg hS Cv hu hE hin;exact⟨cs,(Pf hS Cv hT BH hp cs).2 h,e.symm⟩
theorem map_inj {α β:Type}{P:α→Prop}{f:α→β}(hf:∀a b,P a→P b→f a=f b→a=b):∀(x y:List α),(∀a∈x,P a)→(∀a∈y,P a)→x.map f=y.map f→x=y
 |[],[],_,_,_=>rfl
 |[],b::y,_,_,h=>by simp at h
 |a::x,[],_,_,h=>by simp at h
 |a::x,b::y,hx,hy,h=>by
  rw[GZ,GZ]at h;obtain⟨h1,h2⟩:=List.cons.inj h;rw[hf a b (hx a DJ) (hy b DJ) h1,map_inj hf x y (fun a ha=>hx a (Dj _ ha)) (fun a ha=>hy a (Dj _ ha)) h2]
theorem AA5 {α β:Type}{P:α→Prop}{f:α→β}(hf:∀a b,P a→P b→f a=f b→a=b){l:List α}(hl:∀a∈l,P a)(hn:l.Nodup):(l.map f).Nodup:=by
 refine List.pairwise_map.2 (ADJ ?_ hn);intro a b ha hb hne e;exact hne (hf a b (hl a ha) (hl b hb) e)
theorem AA6 {Q S T:Tw}(hS:Wf S)(Cv:AB.Good S)(hT:Wf T)(BH:AB.Good T)(hp:Er T){u:List (List Nat)}(hu:DI Q S u):(OO Q S T u).Nodup:=by
 unfold OO;refine AA5 (P:=fun cs=>∀c∈cs,El S c) (fun x y hx hy e=>?_) (fun cs hcs=>((Pf hS Cv hT BH hp cs).1 hcs).el) (dm _ _);exact map_inj (P:=El S) (fun a b ha hb h=>hu.inj a b ha hb h) x y hx hy e
theorem ACO {Q S T:Tw}{u:List (List Nat)}:(OO Q S T u).length=(Bf S T T.length []).length:=by unfold OO;rw[Bh]
theorem ABl {Q T:Tw}(hQ:Wf Q)(hg:AB.Good Q)(hT:Wf T){cs:List (List Nat)}(h:DI Q T cs):((List.range (sz T)).map fun t=>num Q (phi Q cs (at_ T t))).Nodup:=by
 have G:=BO hQ hg;refine AA5 (P:=fun t=>t<sz T) (fun a b ha hb e=>?_) (fun a ha=>JW.1 ha) List.nodup_range;have e1:=BM (at_ Q) e;rw[J4 hQ (G.ev h.el _),J4 hQ (G.ev h.el _)]at e1;exact rF ha hb (h.inj _ _ (D7 hT a) (D7 hT b) e1)
theorem iQ {Q T:Tw}(hQ:Wf Q)(hg:AB.Good Q)(hT:Wf T){cs:List (List Nat)}(h:DI Q T cs):sz T≤sz Q:=by
 have G:=BO hQ hg;have:=r9 (l₂:=List.range (sz Q)) (ABl hQ hg hT h) (fun x hx=>by
  obtain⟨t,_,rfl⟩:=Cy.1 hx;exact JW.2 (KZ (G.ev h.el _) hQ))
 simpa using this
theorem qF {Q T:Tw}(hQ:Wf Q)(hg:AB.Good Q)(hT:Wf T){cs:List (List Nat)}(h:DI Q T cs)(hs:sz Q≤sz T){c:List Nat}(hc:El Q c):Im Q T cs c:=by
 have G:=BO hQ hg;by_cases hm:num Q c∈(List.range (sz T)).map fun t=>num Q (phi Q cs (at_ T t))
 ·obtain⟨t,_,e⟩:=Cy.1 hm;have e1:=BM (at_ Q) e;rw[J4 hQ (G.ev h.el _),J4 hQ hc]at e1;exact⟨at_ T t,D7 hT t,e1⟩
 ·have hn:(num Q c::(List.range (sz T)).map fun t=>num Q (phi Q cs (at_ T t))).Nodup:=List.nodup_cons.2 ⟨hm,ABl hQ hg hT h⟩;have:=r9 (l₂:=List.range (sz Q)) hn (fun x hx=>by
   rcases F8.1 hx with rfl|hx
   ·exact JW.2 (KZ hc hQ)
   ·obtain⟨t,_,rfl⟩:=Cy.1 hx;exact JW.2 (KZ (G.ev h.el _) hQ))
  simp at this;omega
theorem AIt {S T:Tw}(hS:Wf S)(Cv:AB.Good S)(hT:Wf T)(BH:AB.Good T)(hp:Er T){c0:List (List Nat)}(h:DI S T c0)(hs:sz S=sz T):(Bf S T T.length []).length=(Bf T T T.length []).length:=by
 rw[←ACO (Q:=S) (S:=T) (T:=T) (u:=c0)];refine List.Perm.length_eq ((List.perm_ext_iff_of_nodup (dm _ _) (AA6 hT BH hT BH hp h)).2 fun es=>?_);rw[Pf hS Cv hT BH hp,qh hS Cv hT BH hT BH hp h];exact⟨fun hE=>⟨hE,fun c hc=>qF hS Cv hT h (by omega) (hE.el c hc)⟩,fun hE=>hE.1⟩
end Go.Proofs.YtaadbccidfdniaaGreat.Qi
namespace Go.Proofs.YtaadbccidfdniaaGreat.SH
open Go.Proofs.YtaadbccidfdniaaGreat AB Gen Cu CU Gf I9 Qi
theorem fQ {α β:Type}{f:α→List β}{n:Nat}:∀l:List α,(∀u∈l,(f u).length=n)→(l.flatMap f).length=l.length*n
 |[],_=>by simp
 |u::l,h=>by
  rw[Og,Cs,h u DJ,fQ l (fun v hv=>h v (Dj _ hv)),Hl,Nat.add_mul,Nat.one_mul,Ki]
theorem gW {Q T:Tw}(hQ:Wf Q)(hg:AB.Good Q)(hT:Wf T){es:List (List Nat)}(h:DI Q T es):∀c∈es,Im Q T es c:=fun c hc=>by
 obtain⟨j,hj⟩:=GM hc;exact⟨unit T j,MV hT j,qg hQ hg es T h.el h.len j c hj⟩
theorem AC5 {Q S T:Tw}(hQ:Wf Q)(hg:AB.Good Q)(hS:Wf S)(Cv:AB.Good S)(hT:Wf T)(BH:AB.Good T)(hp:Er T){u es:List (List Nat)}(hu:DI Q S u)(hs:sz S=sz T)(h:es∈OO Q S T u)(c:List Nat):Im Q T es c↔Im Q S u c:=by
 have G:=BO hQ hg;have GS:=BO hS Cv;have he:phi Q u (AB.one S)=AB.one Q:=Q6 hQ hg u _;have hf:∀a b,El S a→El S b→phi Q u (mul S a b)=mul Q (phi Q u a) (phi Q u b):=fun a b ha hb=>G.Rh hS hu.el hu.rel ha hb;unfold OO at h;obtain⟨cs,hcs,rfl⟩:=Cy.1 h;have hE:=(Pf hS Cv hT BH hp cs).1 hcs;constructor
 ·rintro⟨z,hz,rfl⟩;exact⟨ev (mul S) (AB.one S) cs z,GS.ev hE.el z,MX GS (phi Q u) he hf hE.el z⟩
 ·rintro⟨y,hy,rfl⟩;obtain⟨z,hz,e⟩:=qF hS Cv hT hE (by omega) hy;refine⟨z,hz,?_⟩;rw[←MX GS (phi Q u) he hf hE.el z,e]
open Classical in
theorem copies {Q T:Tw}(hQ:Wf Q)(hg:AB.Good Q)(hT:Wf T)(BH:AB.Good T)(hp:Er T)(us:List (List (List Nat)))(S:List (List Nat)→Tw)
  (hE:∀u∈us,Wf (S u)∧AB.Good (S u)∧Er (S u)∧DI Q (S u) u) (hD:us.Pairwise fun u v=>¬∀c,Im Q (S u) u c↔Im Q (S v) v c)
  (hA:∀es,DI Q T es→∃u∈us,∀c,Im Q (S u) u c↔Im Q T es c):
  (Bf Q T T.length []).length=(us.filter fun u=>decide (sz (S u)=sz T∧Bf (S u) T T.length []≠[])).length*(Bf T T T.length []).length:=by
 rw[←fQ (f:=fun u=>OO Q (S u) T u) (n:=(Bf T T T.length []).length) _ (fun u hu=>by
  obtain⟨hu,hc⟩:=Nn.1 hu;obtain⟨h1,h2⟩:=TR hc;obtain⟨a1,a2,a3,a4⟩:=hE u hu;obtain⟨c0,hc0⟩:=List.exists_mem_of_ne_nil _ h2;rw[ACO];exact AIt a1 a2 hT BH hp ((Pf a1 a2 hT BH hp c0).1 hc0) h1)]
 refine List.Perm.length_eq ((List.perm_ext_iff_of_nodup (dm _ _) ?_).2 fun es=>?_)
 ·refine List.pairwise_flatMap.2 ⟨fun u hu=>?_,?_⟩
  ·obtain⟨a1,a2,a3,a4⟩:=hE u (Nn.1 hu).1;exact AA6 a1 a2 hT BH hp a4
  ·refine ADJ ?_ (hD.filter _);intro u v hu hv hne x hx y hy e;subst e;obtain⟨hu,Ep⟩:=Nn.1 hu;obtain⟨hv,hcv⟩:=Nn.1 hv;obtain⟨a1,a2,a3,a4⟩:=hE u hu;obtain⟨b1,b2,b3,b4⟩:=hE v hv;have h1:=AC5 hQ hg a1 a2 hT BH hp a4 (TR Ep).1 hx;have h2:=AC5 hQ hg b1 b2 hT BH hp b4 (TR hcv).1 hy;exact hne fun c=>(h1 c).symm.trans (h2 c)
 ·rw[Pf hQ hg hT BH hp,List.mem_flatMap];constructor
  ·intro hes;obtain⟨u,hu,hi⟩:=hA es hes;obtain⟨a1,a2,a3,a4⟩:=hE u hu;have hm:es∈OO Q (S u) T u:=(qh hQ hg a1 a2 hT BH hp a4 es).2 ⟨hes,fun c hc=>(hi c).2 (gW hQ hg hT hes c hc)⟩;refine⟨u,Nn.2 ⟨hu,IK ⟨?_,?_⟩⟩,hm⟩
   ·obtain⟨cs,h1,_⟩:=factor hQ hg a1 a2 a4 hes (fun c hc=>(hi c).2 (gW hQ hg hT hes c hc));obtain⟨ds,h2,_⟩:=factor hQ hg hT BH hes a4 (fun c hc=>(hi c).1 (gW hQ hg a1 a4 c hc));have:=iQ a1 a2 hT h1;have:=iQ hT BH a1 h2;omega
   ·intro h0;unfold OO at hm;rw[h0]at hm;simp at hm
  ·rintro⟨u,hu,hm⟩;obtain⟨hu,_⟩:=Nn.1 hu;obtain⟨a1,a2,a3,a4⟩:=hE u hu;exact((qh hQ hg a1 a2 hT BH hp a4 es).1 hm).1
theorem qG {T:Tw}(hT:Wf T)(BH:AB.Good T)(hp:Er T):0<(Bf T T T.length []).length:=
 List.length_pos_of_mem ((Pf hT BH hT BH hp _).2 (rV hT BH))
end Go.Proofs.YtaadbccidfdniaaGreat.SH
namespace Go.Proofs.YtaadbccidfdniaaGreat.SfB
open Go.Proofs.YtaadbccidfdniaaGreat AB Gen Cu CU Gf I9 Qi yZ
structure GT where
 Q:Tw
 hQ:Wf Q
 hg:AB.Good Q
structure GT.E (B:GT) where
 val:List Nat
 property:El B.Q val
theorem GT.ext {B:GT}{a b:B.E}(h:a.val=b.val):a=b:=by
 cases a;cases b;simp only at h;subst h;rfl
instance (B:GT):Mul B.E:=⟨fun a b=>⟨mul B.Q a.1 b.1,C8 B.hQ a.2 b.2⟩⟩
instance (B:GT):DecidableEq B.E:=fun a b=>decidable_of_iff (a.val=b.val) ⟨GT.ext,BM GT.E.val⟩
end Go.Proofs.YtaadbccidfdniaaGreat.SfB

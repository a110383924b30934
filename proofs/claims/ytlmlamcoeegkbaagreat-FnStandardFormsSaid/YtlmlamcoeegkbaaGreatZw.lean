import Derived.Test.YtlmlamcoeegkbaaGreatZ0
import Derived.Test.YtlmlamcoeegkbaaGreatZv
import Derived.Test.YtlmlamcoeegkbaaGreatZc
import Derived.Test.YtlmlamcoeegkbaaGreatZm
import Derived.Lib.AppendZeros
import Derived.Test.YtlmlamcoeegkbaaGreatZu
import Derived.Maps.RangeWalk
import Derived.Maps.OwnOps
import Derived.Deep.RegionHeld3
/-
  Lemmas for the law FnStandardForms, in short spelling.
-/
open Go.Lib (hid)
set_option linter.unusedVariables false
set_option linter.unusedSimpArgs false
set_option maxRecDepth 100000
set_option maxHeartbeats 40000000
namespace Go.Proofs.YtlmlamcoeegkbaaGreat.VV
open Go.RowKit Go.Proofs.YtlmlamcoeegkbaaGreat AJ CV DL OL
open Go.Proofs.YtlmlamcoeegkbaaGreat.vg (ER)
theorem RB (x:Nat)(w:World):Calls Tryz.prog 178 #[.int .i64 (x:Int)] w fun e w'=>e= .returned (.bool false)∧w=w':=by
 go_enter Tryz.func178,Tryz.ntmps178;go_wp2_with fail;go_ret;exact⟨by simp,rfl⟩
theorem lF (x y:Nat)(w:World):Calls Tryz.prog 129 #[.int .i64 (x:Int),.int .i64 (y:Int)] w fun e w'=>e= .returned (.int .i64 (ER x y))∧w=w':=by
 rcases RH x y with h|h|h
 ·have h1:decide ((x:Int)<(y:Int))=true:=by simp;omega
  have HC:=hid (show ER x y= -1 by simp[ER,h]);go_enter Tryz.func129,Tryz.ntmps129;go_wp2_with (go_at_call 178;refine(RB _ _).mono ?_;rintro e w' ⟨rfl,rfl⟩);go_ret;exact⟨by rw[HC.out];rfl,rfl⟩
 ·subst h;have h1:decide ((x:Int)<(x:Int))=false:=by simp
  have HC:=hid (show ER x x=0 by simp[ER]);go_enter Tryz.func129,Tryz.ntmps129;go_wp2_with (go_at_call 178;refine(RB _ _).mono ?_;rintro e w' ⟨rfl,rfl⟩);go_ret;exact⟨by rw[HC.out];rfl,rfl⟩
 ·have h1:decide ((x:Int)<(y:Int))=false:=by simp;omega
  have h2:decide ((x:Int)>(y:Int))=true:=by simp;omega
  have HC:=hid (show ER x y=1 by simp[ER,h];omega);go_enter Tryz.func129,Tryz.ntmps129;go_wp2_with (go_at_call 178;refine(RB _ _).mono ?_;rintro e w' ⟨rfl,rfl⟩);go_ret;exact⟨by rw[HC.out];rfl,rfl⟩
theorem AGA {y:List Nat}:Bb [] y=if 0<y.length then -1 else 0:=by cases y<;>simp[Bb]
theorem AFI {x y:List Nat}{k a b:Nat}(ha:x[k]?=some a)(hb:y[k]?=some b):Bb (x.drop k) (y.drop k)=if a<b then -1 else if b<a then 1 else Bb (x.drop (k+1)) (y.drop (k+1)):=by
 obtain⟨h1,e1⟩:=Ak.1 ha;obtain⟨h2,e2⟩:=Ak.1 hb;rw[EZ h1,EZ h2,e1,e2,Bb]
theorem AFJ {x y:List Nat}{k a:Nat}(ha:x[k]?=some a)(hb:y.length≤k):Bb (x.drop k) (y.drop k)=1:=by
 obtain⟨h1,e1⟩:=Ak.1 ha;rw[EZ h1,WE hb,Bb]
theorem ADy (w:World)(vx vy:Value)(x y:List Nat)(hx:AL (fun _=>True) w vx (ints x))(hy:AL (fun _=>True) w vy (ints y)):
  Calls Tryz.prog 72 #[vx,vy] w fun e w'=>e= .returned (.int .i64 (Bb x y))∧w=w':=by
 have hm:(x.length:Int)≤9223372036854775807:=by
  obtain⟨_,_,_,h1,h2,_⟩:=hx;rw[A7]at h1;unfold maxLen at h2;omega
 obtain⟨aX,cX,rfl,hcx⟩:=hx.open;obtain⟨aY,cY,rfl,hcy⟩:=hy.open;have HX:=hid hx;have HY:=hid hy;obtain⟨m,hm2⟩:∃m,y.length=m:=⟨_,rfl⟩;have HL:=hid hm2;rw[hm2]at hcy ⊢;clear hx hy hm2;go_enter Tryz.func72,Tryz.ntmps72;go_wp2_with fail;go_loop [11] (fun iv=>∃k:Nat,k≤x.length∧k≤m∧iv= .int .i64 (k:Int)∧Hid (Bb (x.drop k) (y.drop k)=Bb x y)) (fun iv=>x.length-(intOf iv).toNat);case atStart=>exact⟨0,AU _,AU _,rfl,hid rfl⟩
 case round=>
  obtain⟨k,hk,hkm,rfl,hR⟩:=hrel;by_cases hlt:k<x.length
  ·obtain⟨a,ha⟩:∃a,x[k]?=some a:=⟨_,AP hlt⟩;have hd:decide ((k:Int)<(x.length:Int))=true:=by simp;omega
   by_cases AKY:k<m
   ·obtain⟨c,hc⟩:∃c,y[k]?=some c:=⟨_,AP (by rw[HL.out];exact AKY)⟩;obtain⟨bX,oX,rfl,_,_,FV⟩:=HX.out.at ha;obtain⟨bY,oY,rfl,_,_,hcY⟩:=HY.out.at hc;have HD:=hid ((AFI ha hc).symm.trans hR.out);have hd2:decide ((k:Int)≥(m:Int))=false:=by simp;omega
    clear ha hc;go_wp2_with fail;refine(lF _ _ _).mono ?_;rintro e w' ⟨rfl,rfl⟩;rcases RH a c with h|h|h
    ·have HC:=hid (show ER a c= -1 by simp[ER,h]);have HR:=hid (show -1=Bb x y by have:=HD.out;rwa[CU h]at this);rw[HC.out];clear h;go_wp2_with fail;go_ret;exact⟨by rw[←HR.out];rfl,rfl⟩
    ·subst h;have HC:=hid (show ER a a=0 by simp[ER]);have HR:=hid (show Bb (x.drop (k+1)) (y.drop (k+1))=Bb x y by have:=HD.out;rwa[BU (Px _),BU (Px _)]at this);rw[HC.out];go_wp2_with fail;go_round;case rel=>exact⟨k+1,by omega,by omega,by go_num,HR⟩
     case measure=>simp[intOf];omega
    ·have HC:=hid (show ER a c=1 by simp[ER,h];omega);have HR:=hid (show 1=Bb x y by have:=HD.out;rwa[BU (by omega),CU h]at this);rw[HC.out];clear h;go_wp2_with fail;go_ret;exact⟨by rw[←HR.out];rfl,rfl⟩
   ·obtain rfl:k=m:=by omega
    obtain⟨bX,oX,rfl,_,_,FV⟩:=HX.out.at ha;have HR:=hid (show 1=Bb x y by rw[←hR.out];exact(AFJ ha (by rw[HL.out];exact Ap _)).symm);have hd2:decide ((k:Int)≥(k:Int))=true:=by simp
    clear ha;go_wp2_with fail;go_ret;exact⟨by rw[←HR.out];rfl,rfl⟩
  ·obtain rfl:k=x.length:=by omega
   have hd:decide ((x.length:Int)<(x.length:Int))=false:=by simp
   have HR:=hid (show Bb x y=if 0<(y.drop x.length).length then -1 else 0 by rw[←hR.out,MP,AGA]);by_cases hq:x.length<m
   ·have hd2:decide ((x.length:Int)<(m:Int))=true:=by simp;omega
    have hd3:decide (x.length<m)=true:=by simp;omega
    have HR2:=hid (show Bb x y= -1 by rw[HR.out,Ct,HL.out,CU (by omega)]);clear hq;go_wp2_with fail;go_ret;exact⟨by rw[HR2.out];rfl,rfl⟩
   ·have hd2:decide ((x.length:Int)<(m:Int))=false:=by simp;omega
    have hd3:decide (x.length<m)=false:=by simp;omega
    have HR2:=hid (show Bb x y=0 by rw[HR.out,Ct,HL.out,BU (by omega)]);clear hq;go_wp2_with fail;go_ret;exact⟨by rw[HR2.out];rfl,rfl⟩
def ADK (w:World)(e:Ending)(w':World):Prop:=∃v,e= .returned v∧Own w.heap.size w' v []∧Below w.heap.size w w'
theorem ADz (n:Nat)(hn:n≤1000000)(w:World):Calls Tryz.prog 202 #[.slice none 0 0,.int .i64 (n:Int)] w (ADK w):=by
 obtain⟨i0,hi,hz0,hz1,hz2⟩:=CO Fa;by_cases h0:n=0
 ·subst h0;go_enter Tryz.func202,Tryz.ntmps202;go_wp2_with fail;go_ret;exact⟨_,rfl,⟨rfl,.inl ⟨rfl,rfl⟩⟩,Ag _ _⟩
 ·have h1:¬((n:Int)<0):=by omega
  have h4:(n:Int)>0:=by omega
  have hw:IntKind.i64.wrap (n:Int)=n:=AY _ (by omega);have hrz:=fun ty=>Lib.run_append_nil_zeros (P:=Tryz.prog) w 24 3 ty 2 i0 (.int .i64 0) .i64 .i64 Tryz.underlying24 Tryz.underlying3 hi hz0 n (by omega) (by rw[hz1];omega) (by omega) (by rw[hz2];omega);have hge:=grownCap_ge w n 0 2;have hle:=hid (grownCap_le_maxLen w n 0 2 (by unfold maxLen;omega));have hle2:(grownCap w n 0 2:Int)≤9223372036854775807:=by have:=hle.out;unfold maxLen at this;omega
  obtain⟨cp,hcp⟩:∃cp,grownCap w n 0 2=cp:=⟨_,rfl⟩;obtain⟨w2,hw2⟩:∃w2,w.drew.alloc (.cells (Builtin.zeroCells (Value.int .i64 0).cells n++Builtin.zeroCells (Value.int .i64 0).cells (grownCap w n 0 2-n)) 2)=w2:=⟨_,rfl⟩;have HR:=hid (show ADK w (.returned (.slice (some ⟨w.heap.size,0,none⟩) 0 cp)) w2 from by
   rw[←hw2,←hcp];refine⟨_,rfl,⟨rfl,.inr ⟨w.heap.size,_,_,rfl,Ap _,Av w.drew _,AU _,hle.out,?_,by simp⟩⟩,(AR.drew).alloc AQ _⟩;simp[Builtin.zeroCells,Value.cells];omega)
  rw[hw2]at hrz;rw[hcp]at hrz hge hle2;have hge':(n:Int)≤(cp:Int):=by omega
  have AMR:(0:Int)≤(cp:Int):=by omega
  clear hw2 hcp h0 hle hn;go_enter Tryz.func202,Tryz.ntmps202;go_wp2_with (at_builtin;(refine Lib.wpList_append_run _ rfl _ _ _ _ rfl _ _ rfl rfl _ _ (hrz _) ?_));go_ret;exact HR.out
def dh (l:List Nat)(w:World)(e:Ending)(w':World):Prop:=∃v,e= .returned v∧Own w.heap.size w' v (ints l)∧Below w.heap.size w w'
theorem yT {us:List (List Nat)}{r:List Nat}{k:Nat}(h:us[k]?=some r):(us.take (k+1)).flatten=(us.take k).flatten++r:=by
 rw[Jd,h];simp
theorem AHE {us:List (List Nat)}(h:∀r∈us,r.length≤1000):us.flatten.length≤us.length*1000:=by
 induction us with
 |nil=>simp
 |cons r us ih=>
  rw[List.flatten_cons,Cm,Eb];have h1:=h r CE;have h2:=ih fun r hr=>h r (Ca _ hr);omega
theorem AEf (w:World)(g m c:Nat)(us:List (List Nat))(hm:us.length=m)(hl:m≤1000)(hmc:m≤c)(hcc:c≤1000)(hr:∀r∈us,r.length≤1000)(hu:∀k r,us[k]?=some r→∃ad c',w.cell? ⟨g,k,none⟩=some (.slice (some ad) r.length c')∧AL Any w (.slice (some ad) r.length c') (ints r))(hgl:g<w.heap.size):
  Calls Tryz.prog 177 #[.slice (some ⟨g,0,none⟩) m c] w (dh us.flatten w):=by
 obtain⟨i0,hi,hz0,hz1,hz2⟩:=CO Fa;have YF:=hid (fun k=>show(us.take k).flatten.length≤1000000 from by
  have h1:=AHE (us:=us.take k) (fun r h=>hr r (WK h));have h2:(us.take k).length≤us.length:=by rw[Gl];omega
  rw[hm]at h2;omega)
 have HU:=hid hu;have HRR:=hid hr;have HM:=hid hm;clear hu hr hm;have AMS:=hgl;go_enter Tryz.func177,Tryz.ntmps177;go_wp2_with fail;go_loop [3,11] (fun sv iv=>∃k s:Nat,k≤m∧iv= .int .i64 (k:Int)∧sv= .int .i64 (s:Int)∧Hid (s=(us.take k).flatten.length)) (fun _ iv=>m-(intOf iv).toNat);case atStart=>exact⟨0,0,AU _,rfl,rfl,hid (by simp)⟩
 case round=>
  obtain⟨k,s,hk,rfl,rfl,hs⟩:=hrel;by_cases hlt:k<m
  ·obtain⟨r,ME⟩:∃r,us[k]?=some r:=⟨_,AP (by rw[HM.out];exact hlt)⟩;obtain⟨ad,c2,hcc,MG⟩:=HU.out k r ME;have hd:decide ((k:Int)<(m:Int))=true:=by simp;omega
   have HN:=hid (show s+r.length=(us.take (k+1)).flatten.length by rw[yT ME,Cm,←hs.out]);have hw:IntKind.i64.wrap ((s:Int)+(r.length:Int))=((s+r.length:Nat):Int):=by
    have h1:=YF.out (k+1);rw[←HN.out]at h1;rw[AY _ (by omega)];omega
   obtain⟨t,ht⟩:∃t,s+r.length=t:=⟨_,rfl⟩;rw[ht]at HN hw;have hd2:decide ((t:Int)<0)=false:=by simp
   clear ME MG ht;go_wp2_with fail;go_round;case rel=>exact⟨k+1,t,by omega,by go_num,by first|rfl|simp[hw],HN⟩
   case measure=>simp[intOf];omega
  ·obtain rfl:k=m:=by omega
   have hd:decide ((k:Int)<(k:Int))=false:=by simp
   have HG:=hid (ADz s (by rw[hs.out];exact YF.out k) w);clear hs;go_wp2_with fail;refine HG.out.mono ?_;rintro e w1 ⟨v1,rfl,ho1,hb1⟩;have Db:=hid ho1;have HB1:=hid hb1;clear ho1 hb1;go_wp2_with fail;go_loopw [6,27] (fun nv iv wr=>∃j:Nat,j≤k∧iv= .int .i64 (j:Int)∧Hid (Own w.heap.size wr nv (ints (us.take j).flatten))∧Hid (Below w.heap.size w wr)) (fun _ iv _=>k-(intOf iv).toNat);case atStart=>exact⟨0,AU _,rfl,hid (by simpa[ints]using Db.out),HB1⟩
   case round=>
    obtain⟨j,hj,rfl,hO,hB⟩:=hrel;by_cases hlt2:j<k
    ·obtain⟨r,ME⟩:∃r,us[j]?=some r:=⟨_,AP (by rw[HM.out];exact hlt2)⟩;obtain⟨ad,c2,ADL,ADM⟩:=HU.out j r ME;have hcc:=((AA.of_below (S:=Any) hB.out).cell trivial hgl).trans ADL;have MG:=ADM.keep (AA.of_below (S:=Any) hB.out);clear ADL ADM;have hd:decide ((j:Int)<(k:Int))=true:=by simp;omega
     obtain⟨f,hf⟩:∃f,(us.take j).flatten=f:=⟨_,rfl⟩;have HN:=hid (show(us.take (j+1)).flatten=f++r by rw[yT ME,hf]);have HFB:=hid (show f.length+r.length≤1000000 by have:=YF.out (j+1);rw[HN.out,Cm]at this;exact this);rw[hf]at hO;have HOW:=hid (show wr.ownsRow w.heap.size 2 1 _ f.length (vals (ints f)) from by have h:=hO.out;rw[Own,A7]at h;exact h);have C1:=hid (AL.src MG (AA.refl _ wr));have C2:=hid (NZ (ints r));have C3:=hid (show f.length+r.length≤maxLen from by have:=HFB.out;unfold maxLen;omega);have C4:=hid (show(f.length+r.length)*8≤140737488355328 from by have:=HFB.out;omega);have C5:=hid (show(vals (ints r)).length=r.length*1 by simp[vals,ints]);have C6:=hid hB.out.size;clear ME MG hf hO;go_wp2_with (at_builtin;refine GQ _ rfl _ _ 24 rfl w.heap.size 2 i0 (.int .i64 0) 1 8 Tryz.underlying24 hi hz0 hz1 hz2 rfl (by decide) _ _ _ rfl HOW.out ad r.length c2 (vals (ints r)) rfl C5.out C1.out C2.out C3.out C4.out C6.out ?_);intro v' w4 hown' hgrow hdr;have Ii:=hid (show Own w.heap.size w4 v' (ints (us.take (j+1)).flatten) from by
      rw[HN.out,Own,A7,Cm];rw[show vals (ints (f++r))=vals (ints f)++vals (ints r) by simp[vals,ints]];exact hown')
     have CB:=hid (show Below w.heap.size w w4 from hB.out.grown hgrow hB.out.size (fun g hg=>(BH HOW.out g hg).1));clear hown' hgrow hdr;go_wp2_with fail;go_roundw;case rel=>exact⟨j+1,by omega,by go_num,Ii,CB⟩
     case measure=>simp[intOf];omega
    ·obtain rfl:j=k:=by omega
     have hd:decide ((j:Int)<(j:Int))=false:=by simp
     have HR:=hid (fun v (h:Own w.heap.size wr v (ints (us.take j).flatten))=>show dh us.flatten w (.returned v) wr from⟨v,rfl,by
      rw[←HM.out,Me]at h;exact h,hB.out⟩)
     have XM:=hid (HR.out _ hO.out);clear hO HR;go_wp2_with fail;go_ret;exact XM.out
end Go.Proofs.YtlmlamcoeegkbaaGreat.VV
namespace Go.Proofs.YtlmlamcoeegkbaaGreat.SfE
open Go.RowKit Go.Proofs.YtlmlamcoeegkbaaGreat AJ CV DL OL VV
open Go.Proofs.YtlmlamcoeegkbaaGreat.Bv (NF)
theorem AKZ {W:World}{g:Nat}{t:TypeId}{a1 a2 a3:Addr}{c1 c2 c3:Nat}{x1 x2 x3:List Nat}(h:W.heap[g]?=some (.cells #[.slice (some a1) x1.length c1,.slice (some a2) x2.length c2,.slice (some a3) x3.length c3] t (0,0)))
  (h1:AL Any W (.slice (some a1) x1.length c1) (ints x1)) (h2:AL Any W (.slice (some a2) x2.length c2) (ints x2)) (h3:AL Any W (.slice (some a3) x3.length c3) (ints x3)):
  ∀k r,[x1,x2,x3][k]?=some r→∃ad c',W.cell? ⟨g,k,none⟩=some (.slice (some ad) r.length c')∧AL Any W (.slice (some ad) r.length c') (ints r):=fun k r hk=>by
 obtain⟨⟨e0,e1,e2⟩,-⟩:=Bv.AO h
 match k,hk with
 |0,hk=>
  obtain rfl:x1=r:=by simpa using hk
  exact⟨a1,c1,e0,h1⟩
 |1,hk=>
  obtain rfl:x2=r:=by simpa using hk
  exact⟨a2,c2,e1,h2⟩
 |2,hk=>
  obtain rfl:x3=r:=by simpa using hk
  exact⟨a3,c3,e2,h3⟩
 |k+3,hk=>simp at hk
theorem jD (w:World)(k:Nat)(hk:k≤100):AL Any (w.alloc (.cells (madeCells #[.int .i64 0] k) 2)) (.slice (some ⟨w.heap.size,0,none⟩) (List.replicate k 0).length k) (ints (List.replicate k 0)):=by
 have h:=(Own.made (B:=0) w k (AU _) (by unfold maxLen;omega)).sl;rw[Cf];refine AL.mono ?_ (fun _ _=>trivial) (S:=fun k=>0≤k);simpa[ints]using h
def dm (k:Nat)(x:List Nat)(w:World)(e:Ending)(w':World):Prop:=dh (List.replicate k 0++x) w e w'
theorem AHF {k:Nat}{x:List Nat}{w W:World}{e:Ending}{w':World}(h:dh [List.replicate k 0,x,List.replicate 0 0].flatten W e w')(hb:Below w.heap.size w W):dm k x w e w':=by
 obtain⟨v,rfl,hs,hb'⟩:=h;exact⟨v,rfl,by
  have h:=EX (B':=w.heap.size) hs hb.size;simpa[Own]using h,hb.trans (hb'.mono hb.size)⟩
theorem AAw (w:World)(o1 o2:Obj)(b1 b2:Nat)(ad:Addr)(c k:Nat)(x:List Nat)(hx:AL Any w (.slice (some ad) x.length c) (ints x))(hl2:x.length≤100)(hk:k≤100)
  (h1:AL Any ((w.alloc o1).alloc o2) (.slice (some ⟨b1,0,none⟩) (List.replicate k 0).length k) (ints (List.replicate k 0))) (h2:AL Any ((w.alloc o1).alloc o2) (.slice (some ⟨b2,0,none⟩) (List.replicate 0 0).length 0) (ints (List.replicate 0 0))):
  Calls Tryz.prog 177 #[.slice (some ⟨w.heap.size+1+1,0,none⟩) 3 3] (((w.alloc o1).alloc o2).alloc (.cells #[.slice (some ⟨b1,0,none⟩) k k,.slice (some ad) x.length c,.slice (some ⟨b2,0,none⟩) 0 0] 24)).drew (dm k x w):=by
 have hk2:=((AA.refl Any ((w.alloc o1).alloc o2)).alloc (.cells #[.slice (some ⟨b1,0,none⟩) k k,.slice (some ad) x.length c,.slice (some ⟨b2,0,none⟩) 0 0] 24)).drew;have e3:((((w.alloc o1).alloc o2).alloc (.cells #[.slice (some ⟨b1,0,none⟩) k k,.slice (some ad) x.length c,.slice (some ⟨b2,0,none⟩) 0 0] 24)).drew).heap[w.heap.size+1+1]?=some (.cells #[.slice (some ⟨b1,0,none⟩) (List.replicate k 0).length k,.slice (some ad) x.length c,.slice (some ⟨b2,0,none⟩) (List.replicate 0 0).length 0] 24):=by
  rw[Cf,Cf];have:=Av ((w.alloc o1).alloc o2) (.cells #[.slice (some ⟨b1,0,none⟩) k k,.slice (some ad) x.length c,.slice (some ⟨b2,0,none⟩) 0 0] 24);rw[show((w.alloc o1).alloc o2).heap.size=w.heap.size+1+1 by simp]at this;exact this
 refine(AEf _ _ 3 3 [List.replicate k 0,x,List.replicate 0 0] rfl (by decide) (by decide) (by decide) (fun r hr=>?_) (AKZ e3 (h1.keep hk2) (hx.keep (((AB.alloc _).alloc _).trans hk2)) (h2.keep hk2)) (by simp)).mono fun e w' h=>AHF h ?_
 ·simp only[GR,List.not_mem_nil,or_false]at hr;rcases hr with rfl|rfl|rfl
  ·simp;omega
  ·omega
  ·simp
 ·exact(((((Ag _ w).alloc AQ _).alloc (by simp) _).alloc (by simp<;>omega) _)).drew
theorem AEg (w:World)(ad:Addr)(l c k:Nat)(x:List Nat)(hx:AL Any w (.slice (some ad) l c) (ints x))(hl:x.length=l)(hl2:l≤100)(hk:k≤100):
  Calls Tryz.prog 128 #[.slice (some ad) l c,.int .i64 (k:Int),.int .i64 0] w (dm k x w):=by
 subst hl;have HA:=hid (AAw w (.cells (madeCells #[.int .i64 0] k) 2) (.cells (madeCells #[.int .i64 0] 0) 2) w.heap.size (w.heap.size+1) ad c k x hx hl2 hk ((jD w k hk).keep (AB.alloc _)) (by have h:=jD (w.alloc (.cells (madeCells #[.int .i64 0] k) 2)) 0 (by omega);rwa[show(w.alloc (.cells (madeCells #[.int .i64 0] k) 2)).heap.size=w.heap.size+1 by simp]at h));have HB:=hid (AAw w (.cells (madeCells #[.int .i64 0] 0) 2) (.cells (madeCells #[.int .i64 0] k) 2) (w.heap.size+1) w.heap.size ad c k x hx hl2 hk (by have h:=jD (w.alloc (.cells (madeCells #[.int .i64 0] 0) 2)) k hk;rwa[show(w.alloc (.cells (madeCells #[.int .i64 0] 0) 2)).heap.size=w.heap.size+1 by simp]at h) ((jD w 0 (by omega)).keep (AB.alloc _)));have hmk:=fun W=>NF k hk W;have hm0:∀W:World,(Instr.makeSlice 24 (.int .i64 0) (.int .i64 0)).run Tryz.prog W=_:=fun W=>NF 0 (by omega) W;clear hx hk hl2;go_enter Tryz.func128,Tryz.ntmps128;go_upto_region 1 with fail;go_region_law (go_simp;go_at_call 177;(first|refine HA.out.mono ?_|refine HB.out.mono ?_);rintro e w1 ⟨v,rfl,hs,hb⟩;have HR:=hid (show dm k x w (.returned v) w1 from⟨v,rfl,hs,hb⟩);clear hs hb);all_goals
  go_wp2_with fail;go_ret;exact HR.out
end Go.Proofs.YtlmlamcoeegkbaaGreat.SfE
namespace Go.Proofs.YtlmlamcoeegkbaaGreat.vk
open Go.RowKit Go.Proofs.YtlmlamcoeegkbaaGreat AJ CV DL OL VV
theorem Bl.win {α:Type}{E:World→Value→α→Prop}{S:Nat→Prop}{w:World}{b o n c:Nat}{l:List α}(h:Bl E S w (.slice (some ⟨b,o,none⟩) n c) l){k j:Nat}(hk:k+j≤l.length):
  Bl E S w (.slice (some ⟨b,o+k,none⟩) j (c-k)) ((l.drop k).take j):=by
 obtain⟨ao,c',e,h1,h2,h3,h4⟩:=h;simp only[C8]at e;obtain⟨rfl,rfl,rfl⟩:=e;refine⟨_,_,by rw[Gl,Ct,Nat.min_eq_left (by omega)],by rw[Gl,Ct];omega,by omega,by simp,fun i x hx=>?_⟩;rw[MQ]at hx;split at hx
 ·rw[Gj]at hx;obtain⟨b',o2,e1,e2,e3,u,e4,e5⟩:=h4 _ x hx;simp only[EN,IU,and_true]at e1;obtain⟨rfl,rfl⟩:=e1;exact⟨b,o+k,rfl,e2,e3,u,by rw[Nat.add_assoc];exact e4,e5⟩
 ·simp at hx
theorem Q4 {n:Nat}:∀{R:List (List Nat)},(∀r∈R,r.length=n)→R.flatten.length=R.length*n
 |[],_=>by simp
 |r::R,h=>by
  rw[List.flatten_cons,Cm,h r CE,Q4 fun r hr=>h r (Ca _ hr),Eb,Nat.succ_mul,GU]
theorem zb {n:Nat}:∀{R:List (List Nat)} {k:Nat} {r:List Nat},(∀r∈R,r.length=n)→R[k]?=some r→(R.flatten.drop (k*n)).take n=r
 |[],k,r,_,hk=>by simp at hk
 |q::R,0,r,h,hk=>by
  obtain rfl:q=r:=by simpa using hk
  rw[Nat.zero_mul,List.drop_zero,List.flatten_cons,List.take_append_of_le_length (by rw[h q CE];exact Ap _),Mf (by rw[h q CE];exact Ap _)]
 |q::R,k+1,r,h,hk=>by
  rw[Nat.succ_mul,GU,List.flatten_cons,←FM,List.drop_left' (h q CE)];exact zb (fun r hr=>h r (Ca _ hr)) (by simpa using hk)
theorem jq (w:World)(b o L c n m:Nat)(R:List (List Nat))(hv:AL Any w (.slice (some ⟨b,o,none⟩) L c) (ints R.flatten))(hR:∀r∈R,r.length=n)(hm:R.length=m)(hn:0<n)(hn2:n≤100)(hm2:m≤100):
  Calls Tryz.prog 73 #[.slice (some ⟨b,o,none⟩) L c,.int .i64 (n:Int)] w (KU 24 2 R w):=by
 obtain⟨i0,hi,hz0,hz1,hz2⟩:=CO JC;have hL:L=m*n:=by
  have h1:=Q4 hR;obtain⟨_,_,e,_⟩:=hv;rw[A7,h1,hm]at e;simp at e;exact e.2.1
 have hLc:L≤c:=by
  obtain⟨_,_,e,h,_⟩:=hv;simp only[C8]at e;obtain⟨_,rfl,rfl⟩:=e;exact h
 have hL4:L≤10000:=by rw[hL];exact Nat.mul_le_mul hm2 hn2
 have hcm:c≤9223372036854775807:=by
  obtain⟨_,_,e,_,h,_⟩:=hv;simp only[C8]at e;obtain⟨_,_,rfl⟩:=e;unfold maxLen at h;exact h
 have HCM:=hid hcm;have HV:=hid hv;have HR:=hid hR;have HM:=hid hm;have HL:=hid hL;have HN:=hid (And.intro hn (And.intro hn2 hm2));have eY:=hid hL4;have Fp:=hid (fun(W:World) (hk:AA Any w W) (k s:Nat) (r:List Nat) (hr:R[k]?=some r) (hs:s=k*n)=>show Calls Tryz.prog 125 #[.slice (some ⟨b,o+s,none⟩) n (c-s)] W (Ec (ints r) W) from by
  have hkm:k<m:=by rw[←hm];exact(Ak.1 hr).1
  have h1:s+n≤m*n:=by
   have:=Nn n (show k+1≤m from hkm);rw[Nat.succ_mul]at this;omega
  have h2:=Bl.win (hv.keep hk) (k:=s) (j:=n) (by rw[A7,Q4 hR,hm];exact h1);have h3:((ints R.flatten).drop s).take n=ints r:=by
   rw[←zb hR hr,hs];simp[ints]
  rw[h3]at h2;exact Ov.ZB Any _ (ints r) W h2 (fun n c e=>by simp at e) (by rw[A7,hR r (Ar hr)];omega))
 clear hv hR hm hL hcm hn2 hm2;go_enter Tryz.func73,Tryz.ntmps73;go_wp2_with fail;go_loopw [5,6] (fun ov iv wr=>∃k s:Nat,k≤m∧iv= .int .i64 (s:Int)∧s≤L∧Hid (s=k*n)∧Hid (Own2 24 2 w.heap.size wr ov (R.take k))∧Hid (Below w.heap.size w wr)) (fun _ iv _=>L-(intOf iv).toNat);case atStart=>exact⟨0,0,AU _,rfl,AU _,hid (by simp),hid (Own2.nil _ _ _ _),hid AR⟩
 case round=>
  obtain⟨k,s,hk,rfl,hsL,hs,hO,hB⟩:=hrel;by_cases hlt:k<m
  ·obtain⟨r,hr⟩:∃r,R[k]?=some r:=⟨_,AP (by rw[HM.out];exact hlt)⟩;have h1:s+n≤L:=by
    have:=Nn n (show k+1≤m from hlt);rw[Nat.succ_mul,←hs.out,←HL.out]at this;exact this
   have hd:decide ((s:Int)<(L:Int))=true:=by have:=HN.out.1;simp;omega
   have hd':decide (s<L)=true:=by have:=HN.out.1;simp;omega
   have hw:IntKind.i64.wrap ((s:Int)+(n:Int))=((s+n:Nat):Int):=by have:=eY.out;rw[AY _ (by omega)];omega
   obtain⟨t,ht⟩:∃t,s+n=t:=⟨_,rfl⟩;rw[ht]at hw h1;have hst:s≤t:=by omega
   have htc:t≤c:=by omega
   have hts:(t:Int)-(s:Int)=(n:Int):=by omega
   have AMT:t-s=n:=by omega
   have HT:=hid ht;have vw:=hid hr;obtain⟨us,u1,u2,u4⟩:=hO.out;rw[Gl,HM.out,Nat.min_eq_left (EG hlt)]at u1;have HU:=hid (And.intro u2 u4);have HK:=hid hlt;clear u2 u4 ht hr hO hk hlt;go_wp2_with (first|(go_at_call 125;refine(Fp.out wr (AA.of_below hB.out) k s r vw.out hs.out).mono ?_;rintro e w1 ⟨g1,c1,rfl,ho1,hb1⟩;have h1':=(BM u1 (S:=Any) (AA.of_below hb1) fun _ _=>trivial);have HB1:=hid (hB.out.trans (hb1.mono hB.out.size));have HRR:=hid (Ec.row ho1);have hrl:(ints r).length=n:=(by rw[A7];exact HR.out r (Ar vw.out));rw[hrl];clear ho1)|(at_builtin;refine GQ _ rfl _ _ 25 rfl w.heap.size 24 i0 (.slice none 0 0) 1 24 Tryz.underlying25 hi hz0 hz1 hz2 rfl (by decide) _ _ _ rfl (h1'.alloc _) ⟨w1.heap.size,0,none⟩ 1 1 [.slice (some ⟨g1,0,none⟩) n c1] rfl rfl ?c1 ?c2 ?c3 ?c4 ?c5 ?_));case c1=>
    intro j u hj
    match j,hj with
    |0,hj=>simp at hj;subst hj;simp[Addr.add]
   case c2=>intro u hu;simp at hu;subst hu;rfl
   case c3=>have:=HN.out;have:=HK.out;unfold maxLen;omega
   case c4=>have:=HN.out;have:=HK.out;omega
   case c5=>have:=HB1.out.size;simp;omega
   ·intro v' w2 hown hgrow _;have VI:=hid (show Own2 24 2 w.heap.size w2 v' (R.take (k+1)) from by
     rw[Jd,vw.out];exact Own2.push (w:=w1.alloc _) (us:=us) (by decide) (by rw[Gl,HM.out,Nat.min_eq_left (EG HK.out)]) (h1'.alloc _) HU.out.1 (fun i r u hr hu=>(HU.out.2 i r u hr hu).keep (S:=fun _=>True) ((AA.of_below hb1).trans (AB.alloc _)) (fun _ _=>trivial)) (by
      have h:=HRR.out.keep (S:=fun _=>True) ((AA.refl _ w1).alloc (.cells #[.slice (some ⟨g1,0,none⟩) n c1] 24)) (fun _ _=>trivial);rw[hrl]at h;exact⟨h.1,EX h.2 hB.out.size⟩) hown hgrow)
    have HB2:=hid (show Below w.heap.size w w2 from(HB1.out.alloc (by have:=HB1.out.size;omega) _).grown hgrow (by simp;have:=HB1.out.size;omega) (fun g hg=>(BH h1' g hg).1));have Ga:=hid (show t=(k+1)*n by rw[Nat.succ_mul,←hs.out];exact HT.out.symm);have Lh:=hid (show k+1≤m from HK.out);clear hown hgrow h1' u1 HU HRR hb1 hrl;go_wp2_with fail;go_roundw;case rel=>exact⟨k+1,t,Lh.out,rfl,h1,Ga,VI,HB2⟩
    case measure=>have:=HN.out.1;simp[intOf];omega
  ·obtain rfl:k=m:=by omega
   have AKa:s=L:=by rw[hs.out,HL.out]
   subst AKa;have hd:decide ((s:Int)<(s:Int))=false:=by simp
   have HR2:=hid (show∀ov,Own2 24 2 w.heap.size wr ov (R.take k)→KU 24 2 R w (.returned ov) wr from fun ov h=>⟨ov,rfl,by rw[←HM.out,Me]at h;exact h,hB.out⟩);have HR3:=hid (HR2.out _ hO.out);clear hs HR2;go_wp2_with fail;go_ret;exact HR3.out
end Go.Proofs.YtlmlamcoeegkbaaGreat.vk
namespace Go.Proofs.YtlmlamcoeegkbaaGreat.VW
open Go Go.Maps Go.RowKit Go.Proofs.YtlmlamcoeegkbaaGreat AJ CV DL Gen Dq F9 IM JD
theorem LY:Keyed Tryz.prog 3:=int_keyed (q:=.i64) Tryz.underlying3
theorem wfI (x:Nat)(h:x≤100000):(Lit.int .i64 (x:Int)).wf=true:=by
 show(decide (IntKind.i64.min≤(x:Int))&&decide ((x:Int)≤IntKind.i64.max))=true;have h1:IntKind.i64.min= -9223372036854775808:=by decide
 have h2:IntKind.i64.max=9223372036854775807:=by decide
 rw[h1,h2,RS,Ht,Ht];omega
theorem Zy (x:Nat)(h:x≤100000):keyOf Tryz.prog 3 (.int .i64 (x:Int))=some (.int .i64 (x:Int)):=keyOf_int_mk Tryz.underlying3 (wfI x h)
def Rv (v:Value):Option (DataW Value×List MemPlace):=some (.held v,[])
theorem Zb {R:Value→Option (DataW Value×List MemPlace)}{k:TypeId}{b n:Nat}{D:DataW Value}{w w':World}(h:w.ownsMap Tryz.prog k R b n D)(e:w'.heap[b]?=w.heap[b]?):w'.ownsMap Tryz.prog k R b n D:=by
 obtain⟨es,clock,hb,h⟩:=h;exact⟨es,clock,e.trans hb,h⟩
theorem AGB {w:World}{b n N:Nat}{D:DataW Value}(h:w.ownsMap Tryz.prog 3 Rv b n D)(hk:∀kl,Maps.has D kl=true→∃x:Nat,x<N∧kl= .int .i64 (x:Int)):w.ownsMap Tryz.prog 3 Rv b N D:=by
 obtain⟨es',e1,e2,e3⟩:=h.entries LY;obtain⟨es,clock,hb,F,hs,hD⟩:=h;refine⟨es,clock,hb,F,?_,hD⟩;have hl:es'.length=es.size:=by
  rw[hD]at e1;injection e1 with e1;rw[←e1,length_sorted];simp
 have hn:(es'.map (·.1)).Nodup:=List.pairwise_map.2 e2;have:=Z4 hn (l₂:=(List.range N).map fun x:Nat=>Lit.int .i64 (x:Int)) (fun kl hkl=>by
  obtain⟨p,hp,rfl⟩:=CX.1 hkl;obtain⟨x,hx,e⟩:=hk p.1 (by rw[e1];exact List.any_eq_true.2 ⟨p,hp,WideAt.sameKey_self (e3 p hp)⟩);exact CX.2 ⟨x,Hq.2 hx,e.symm⟩)
 simp at this;omega
def Be (T:Tw)(ts z:List Nat):Nat:=BO (pr T) 0 ts z
def MapOf (T:Tw)(ts:List Nat)(Z:List Nat→Prop)(B:Nat)(W:World)(b:Nat):Prop:=
 ∃D:DataW Value,W.ownsMap Tryz.prog 3 Rv b (sz T) D∧IsMap D∧(∀z,Z z→Maps.has D (.int .i64 (Be T ts z:Int))=true)∧
  ∀kl,Maps.has D kl=true→∃z g c,Z z∧kl= .int .i64 (Be T ts z:Int)∧(∀zd,D.atKey kl zd= .held (.slice (some ⟨g,0,none⟩) z.length c))∧AL (fun k=>B≤k∧k≠b) W (.slice (some ⟨g,0,none⟩) z.length c) (ints z)
theorem MapOf.keep {T:Tw}{ts:List Nat}{Z:List Nat→Prop}{B:Nat}{W W':World}{b:Nat}(h:MapOf T ts Z B W b)(hk:AA (fun k=>B≤k) W W')(hb:W'.heap[b]?=W.heap[b]?):MapOf T ts Z B W' b:=by
 obtain⟨D,h1,h2,h4,h5⟩:=h;refine⟨D,Zb h1 hb,h2,h4,fun kl hkl=>?_⟩;obtain⟨z,g,c,a1,a2,a3,a4⟩:=h5 kl hkl;exact⟨z,g,c,a1,a2,a3,a4.keep (hk.mono fun k hk=>hk.1)⟩
theorem MapOf.imp {T:Tw}{ts:List Nat}{Z Z':List Nat→Prop}{B:Nat}{W:World}{b:Nat}(h:MapOf T ts Z B W b)(h1:∀z,Z z→Z' z)(h2:∀z,Z' z→∃z',Z z'∧Be T ts z=Be T ts z'):MapOf T ts Z' B W b:=by
 obtain⟨D,a1,a2,a4,a5⟩:=h;refine⟨D,a1,a2,fun z hz=>?_,fun kl hkl=>?_⟩
 ·obtain⟨z',hz',e⟩:=h2 z hz;rw[e];exact a4 z' hz'
 ·obtain⟨z,g,c,b1,b2⟩:=a5 kl hkl;exact⟨z,g,c,h1 z b1,b2⟩
theorem MapOf.mono {T:Tw}{ts:List Nat}{Z:List Nat→Prop}{B B':Nat}{W:World}{b:Nat}(h:MapOf T ts Z B W b)(hB:B'≤B):MapOf T ts Z B' W b:=by
 obtain⟨D,a1,a2,a4,a5⟩:=h;refine⟨D,a1,a2,a4,fun kl hkl=>?_⟩;obtain⟨z,g,c,b1,b2,b3,b4⟩:=a5 kl hkl;exact⟨z,g,c,b1,b2,b3,b4.mono fun k hk=>⟨by omega,hk.2⟩⟩
theorem MapOf.lt {T:Tw}{ts:List Nat}{Z:List Nat→Prop}{B:Nat}{W:World}{b:Nat}(h:MapOf T ts Z B W b):b<W.heap.size:=by
 obtain⟨D,h1,_⟩:=h;exact h1.lt
theorem MapOf.put {T:Tw}(hT:Wf T){ts:List Nat}{Z:List Nat→Prop}{B:Nat}{W:World}{b n:Nat}{D:DataW Value}{z0:List Nat}{g c:Nat}(hz:sz T≤729)(hlt:∀z,Be T ts z<sz T)
  (h1:W.ownsMap Tryz.prog 3 Rv b (n+1) (D.put (.int .i64 (Be T ts z0:Int)) (.held (.slice (some ⟨g,0,none⟩) z0.length c)))) (h2:IsMap D) (h4:∀z,Z z→Maps.has D (.int .i64 (Be T ts z:Int))=true)
  (h5:∀kl,Maps.has D kl=true→∃z g c,Z z∧kl= .int .i64 (Be T ts z:Int)∧(∀zd,D.atKey kl zd= .held (.slice (some ⟨g,0,none⟩) z.length c))∧AL (fun k=>B≤k∧k≠b) W (.slice (some ⟨g,0,none⟩) z.length c) (ints z))
  (hs:AL (fun k=>B≤k∧k≠b) W (.slice (some ⟨g,0,none⟩) z0.length c) (ints z0)):MapOf T ts (fun z=>Z z∨z=z0) B W b:=by
 have hkey:WideAt.IsKeyLit (.int .i64 (Be T ts z0:Int)):=trivial;have hg:∀kl,Maps.has (D.put (.int .i64 (Be T ts z0:Int)) (.held (.slice (some ⟨g,0,none⟩) z0.length c))) kl=true→∃z g' c',(Z z∨z=z0)∧kl= .int .i64 (Be T ts z:Int)∧(∀zd,(D.put (.int .i64 (Be T ts z0:Int)) (.held (.slice (some ⟨g,0,none⟩) z0.length c))).atKey kl zd= .held (.slice (some ⟨g',0,none⟩) z.length c'))∧AL (fun k=>B≤k∧k≠b) W (.slice (some ⟨g',0,none⟩) z.length c') (ints z):=fun kl hkl=>by
  by_cases e:kl= .int .i64 (Be T ts z0:Int)
  ·subst e;exact⟨z0,g,c,.inr rfl,rfl,fun zd=>atKey_put_same h2 hkey _ _,hs⟩
  ·rw[has_put_other e]at hkl;obtain⟨z,g',c',a1,a2,a3,a4⟩:=h5 kl hkl;exact⟨z,g',c',.inl a1,a2,fun zd=>by rw[atKey_put_other e];exact a3 zd,a4⟩
 refine⟨_,AGB h1 (fun kl hkl=>?_),h2.put _ _,fun z hz=>?_,hg⟩
 ·obtain⟨z,_,_,_,e,_⟩:=hg kl hkl;exact⟨_,hlt z,e⟩
 ·by_cases e:(Lit.int .i64 (Be T ts z:Int))= .int .i64 (Be T ts z0:Int)
  ·rw[e];exact has_put_same h2 hkey _
  ·rw[has_put_other e];rcases hz with hz|rfl
   ·exact h4 z hz
   ·exact absurd rfl e
theorem Oi {T:Tw}(hT:Wf T)(ts z:List Nat):Be T ts z<sz T:=zR hT ts z 0 (F8 hT)
theorem xu {α:Type}(m:α→α→α)(h:α)(k:Nat):∀(ts:List α) (u:α) (z:List Nat),z.length=ts.length→BO m u (ts++[h]) (z++[k])=it (fun y=>m y h) k (BO m u ts z)
 |[],u,[],_=>rfl
 |[],u,_::_,e=>by simp at e
 |_::_,u,[],e=>by simp at e
 |c::ts,u,a::z,e=>by
  rw[List.cons_append,List.cons_append,BO,xu m h k ts _ z (by simpa using e),BO]
theorem AHm {T:Tw}(hT:Wf T)(hg:AJ.Good T){x h:Nat}(hx:x<sz T)(k:Nat):pr T x (it (fun z=>pr T z h) k 0)=it (fun z=>pr T z h) k x:=by
 have G:=Ba hT hg;have h0:=F8 hT;rw[Q6 (J2 hT _ _) (UM hT (fun z=>J2 hT _ _) _ _ hx),RQ hT,Zv hT,Zv hT,RA hT,G.Zi (Cu hT h) (Cu hT x)];rfl
theorem AGC {T:Tw}(hT:Wf T)(hg:AJ.Good T){ts z:List Nat}{h k:Nat}(hl:z.length=ts.length):Be T (ts++[h]) (z++[k])=pr T (Be T ts z) (it (fun z=>pr T z h) k 0):=by
 rw[AHm hT hg (Oi hT ts z),Be,xu _ _ _ _ _ _ hl];rfl
end Go.Proofs.YtlmlamcoeegkbaaGreat.VW
namespace Go.Proofs.YtlmlamcoeegkbaaGreat.Yy
open Go Go.Maps Go.RowKit Go.Proofs.YtlmlamcoeegkbaaGreat AJ CV DL Gen Dq F9 IM JD Ox Kg VW
theorem ADm {H:Type}{P:Program}(w:World){ops:Array Oper}{rest:List Oper}{o:Oper}{a:Act}{Q:Exit→Act→World→Prop}
  (hg:o.guard=none) (m x v:Operand) (t:TypeId) (hop:o.op=Op.insert t m x v)
  (k e:TypeId) (K:Keyed P k) (ht:P.underlying t=some (.map k e)) (R:Value→Option (DataW H×List MemPlace)) (b n:Nat) (D:DataW H)
  (hm:a.eval m= .map (some b)) (hown:w.ownsMap P k R b n D) (hn:n<maxLen) (key val:Value) (kl:Lit) (hx:a.eval x=key) (hv:a.eval v=val) (hkey:keyOf P k key=some kl)
  (d:DataW H) (ps:List MemPlace) (hval:R val=some (d,ps))
  (hK:∀w',w'.ownsMap P k R b (n+1) (D.put kl d)→w.grownBy w' (some b)→wpList P ops Q rest (a.put o.dst undef) w'):
  wpList P ops Q (o::rest) a w:=by
 refine wpList_plain hg fun K' hK'=>?_;obtain⟨w',hrun,r1,r2⟩:=hown.update K ht hn hkey hval;unfold Oper.wp;simp[execOp,hop,hm,hx,hv,hrun,Result.andThen];exact hK' _ _ (hK w' r1 r2)
def Zq (n q:Nat)(z:List Nat):Prop:=z.length=n∧∀a∈z,a<q
def wC (T:Tw)(ts:List Nat)(q:Nat)(w:World)(e:Ending)(w':World):Prop:=∃b,e= .returned (.map (some b))∧w.heap.size≤b∧MapOf T ts (Zq ts.length q) w.heap.size w' b∧Below w.heap.size w w'
theorem G9 {w u:World}(h:Below w.heap.size w u)(o:Obj):Below w.heap.size w (u.alloc o):=h.alloc h.size o
theorem VX {w u:World}(h:Below w.heap.size w u):Below w.heap.size w u.drew:=h.drew
theorem wG {bn:Nat}{w w':World}(h:w.grownBy w' (some bn)):AA (fun k=>k≠bn) w w':=AA.grown h fun k hk e=>hk (by injection e)
theorem FC {w u v:World}(h:Below w.heap.size w u)(h2:Below u.heap.size u v):Below w.heap.size w v:=h.trans (h2.mono h.size)
theorem Qu {w u v:World}{row:Option Nat}(h:Below w.heap.size w u)(h2:u.grownBy v row)(hr:∀k,row=some k→w.heap.size≤k):Below w.heap.size w v:=h.grown h2 h.size hr
theorem kP {B n:Nat}{w:World}{v:Value}{xs:List Value}(h:w.ownsRow B 2 1 v (n+1) xs):∃g c,v= .slice (some ⟨g,0,none⟩) (n+1) c:=by
 rcases h.2 with⟨_,hn⟩|⟨g,cap,cur,e,_⟩
 ·omega
 ·exact⟨g,cap,e⟩
theorem Rs {u u':World}{g o:Nat}{v:Value}(h:u.cell? ⟨g,o,none⟩=some v)(hb:Below u.heap.size u u'):u'.cell? ⟨g,o,none⟩=some v:=
 ((AA.of_below (S:=Any) hb).cell trivial (World.block_lt_of_cell? _ _ h)).trans h
theorem Vq {w w':World}(h:Below w.heap.size w w'):w.grownBy w' none:=⟨h.os,h.tape,h.output,h.size,fun i hi _=>h.block i hi⟩
def Zm (T:Tw)(ts:List Nat)(n q:Nat)(left:Lit→Bool)(z':List Nat):Prop:=∃z k,z'=z++[k]∧k<q∧Zq n q z∧left (.int .i64 (Be T ts z:Int))=false
def Zk (T:Tw)(ts:List Nat)(n q:Nat)(left:Lit→Bool)(X kk:Nat)(z':List Nat):Prop:=∃z k,z'=z++[k]∧k<q∧Zq n q z∧((left (.int .i64 (Be T ts z:Int))=false∧Be T ts z≠X)∨(Be T ts z=X∧k<kk))
theorem AAx {a b:Nat}(h:a≠b):(Lit.int .i64 (a:Int)).sameKey (.int .i64 (b:Int))=false:=sameKey_ne fun e=>h (by injection e with _ e;omega)
theorem ADv (T:Tw)(hT:Wf T)(hg:AJ.Good T)(hz:sz T≤729)(w:World)(bg:Nat)(hG:Cv Any w bg T)(ts:List Nat)(vt:Value)(JU:AL Any w vt (ints ts))(hts:∀x∈ts,x<sz T)(Es:ts.length≤6)(q:Nat)(hq:q≤7):
  Calls Tryz.prog 70 #[.pointer (some ⟨bg,0,none⟩),vt,.int .i64 (q:Int)] w (wC T ts q w):=by
 obtain⟨aT,cT,rfl,Yz⟩:=JU.open;obtain⟨n,hn⟩:∃n,ts.length=n:=⟨_,rfl⟩;rw[hn]at Yz JU Es ⊢;have HN:=hid hn;have wH:=hid (fun(W:World) (hb:Below w.heap.size w W)=>JU.keep (AA.of_below (S:=Any) hb));have QW:=hid (fun(W:World) (hb:Below w.heap.size w W)=>hG.keep (AA.of_below (S:=Any) hb));have HT:=hid hT;have NP:=hid hg;have HZ:=hid hz;have TE:=hid hts;have Uu:=hid hq;have p8:=hid (hG.open (F8 hT));have hmm:= @run_makeMap Tryz.prog;have hm0:((w.alloc (.map #[] 0)).alloc (.cells #[] 2)).ownsMap Tryz.prog 3 Rv w.heap.size 0 (.map []):=(World.ownsMap_made w _ _ _).alloc _;clear JU hG hT hg hz hts hn hq;go_enter Tryz.func70,Tryz.ntmps70;go_wp2_with (refine ADm _ rfl _ _ _ 112 rfl 3 24 LY Tryz.underlying112 Rv w.heap.size 0 (.map []) rfl hm0 (by decide) _ _ (.int .i64 0) rfl rfl (Zy 0 (by omega)) (.held (.slice (some ⟨w.heap.size+1,0,none⟩) 0 0)) [] rfl ?_);intro w1 hm1 hg1;have HB1:=hid (show Below w.heap.size w w1 from Qu (G9 (G9 AR _) _) hg1 (by intro k hk;cases hk;exact Ap _));have HM1:=hid (show MapOf T (ts.take 0) (Zq 0 q) w.heap.size w1 w.heap.size from by
  have h:=MapOf.put HT.out (ts:=ts.take 0) (Z:=fun _=>False) (B:=w.heap.size) (z0:=[]) (g:=w.heap.size+1) (c:=0) HZ.out (fun z=>Oi HT.out _ z) hm1 isMap_empty (fun z hz=>hz.elim) (fun kl hkl=>by simp[Maps.has]at hkl)
   ⟨_,_,rfl,Ap _,by unfold maxLen;omega,by simp,fun i x hx=>by simp[ints]at hx⟩
  refine h.imp (fun z hz=>?_) (fun z hz=>?_)
  ·rcases hz with hz|rfl
   ·exact hz.elim
   ·exact⟨rfl,by simp⟩
  ·have:z=[]:=EY hz.1;exact⟨[],.inr rfl,by rw[this]⟩)
 clear hm1 hg1 hm0;go_wp2_with fail;go_loopw [7,19] (fun mv iv wr=>∃i b:Nat,mv= .map (some b)∧iv= .int .i64 (i:Int)∧i≤n∧Hid (w.heap.size≤b)∧Hid (MapOf T (ts.take i) (Zq i q) w.heap.size wr b)∧Hid (Below w.heap.size w wr)) (fun _ iv _=>n-(intOf iv).toNat);case atStart=>exact⟨0,_,rfl,rfl,AU _,hid AQ,HM1,HB1⟩
 case round=>
  obtain⟨i,b,rfl,rfl,hi,hbb,hM,hB⟩:=hrel;clear HM1 HB1;by_cases hlt:i<n
  ·have hd:decide ((i:Int)<(n:Int))=true:=by simp;omega
   have hd2:decide (i<n)=true:=by simp;omega
   obtain⟨h,hh⟩:∃h,ts[i]?=some h:=⟨_,AP (by rw[HN.out];exact hlt)⟩;obtain⟨bT,oT,rfl,-, hbT,hcx⟩:=(wH.out wr hB.out).at hh;have HH:=hid hh;have Lg:=hid hlt;obtain⟨D,m1,m2,m4,m5⟩:=hM.out;obtain⟨wm,Qp⟩:∃wm,wm=wr.alloc (.map #[] 0):=⟨_,rfl⟩;obtain⟨bn,hbn⟩:∃bn,wr.heap.size=bn:=⟨_,rfl⟩;have hBm:Below wr.heap.size wr wm:=by rw[Qp];exact G9 AR _
   have hmn:wm.ownsMap Tryz.prog 3 Rv bn 0 (.map []):=by rw[Qp,←hbn];exact World.ownsMap_made wr _ _ _
   have hmo:wm.ownsMap Tryz.prog 3 Rv b (sz T) D:=by rw[Qp];exact m1.alloc _
   have hsm:wm.heap.size=bn+1:=by rw[Qp,←hbn];simp
   have HM5:=hid (And.intro m2 (And.intro m4 m5));have NL:=hid hbn;have hblt:b<bn:=by rw[←hbn];exact m1.lt
   clear m1 m2 m4 m5 hM hh hlt;go_upto_region 6 with fail;rw[←Qp];clear Qp;go_wp2_with (first|(at_range;refine wpList_range_own _ rfl _ 112 rfl 3 24 LY Tryz.underlying112 Rv b (sz T) D rfl hmo ?_;intro w0 hrg0 hg0 hs0)|go_in);go_frame;rw[hsm];have HB0:=hid (show Below wr.heap.size wr w0 from Qu hBm hg0 (by simp));have ADN:=hmn.kept hg0 (by simp);have HM0:=hid (show MapOf T (ts.take (i+1)) (Zm T (ts.take i) i q (Maps.has D)) (bn+2) w0 bn from by
    refine⟨_,ADN.mono (AU _),isMap_empty,fun z hz=>?_,fun kl hkl=>by simp[Maps.has]at hkl⟩;obtain⟨z1,k,rfl,hk,hz1,hf⟩:=hz;rw[HM5.out.2.1 z1 hz1]at hf;exact Bool.noConfusion hf)
   have Hz:=hid hbn;rw[hsm]at hrg0;clear hg0 hs0 hmn hmo hBm ADN hsm;go_loopw [11] (fun _ W=>∃(left:Lit→Bool) (cnt:Nat),W.ranges Tryz.prog 3 Rv b (bn+1) (sz T) D left cnt∧Hid (MapOf T (ts.take (i+1)) (Zm T (ts.take i) i q left) (bn+2) W bn)∧Hid (Below wr.heap.size wr W)) (fun _ W=>W.rangeLeft b (bn+1));case atStart=>exact⟨_,_,hrg0,HM0,HB0⟩
   case round=>
    obtain⟨left,cnt,hrg,hM,hBW⟩:=hrel;rename World=>wv;clear HM0 HB0 hrg0;go_wp2_with (first|(at_next;refine wpList_next_ranges _ rfl _ rfl 3 LY Rv (Value.int .i64) (fun v:Value=>v) (fun key kl hkey=>by obtain⟨x,rfl,_⟩:=Maps.keyOf_int_inv Tryz.underlying3 hkey;exact⟨x,rfl⟩) (fun v y _=>⟨v,rfl⟩) b (bn+1) (sz T) D left cnt rfl hrg ?_ ?_)|go_in)
    ·intro hc0 hl0;have wI:=hid (show MapOf T (ts.take (i+1)) (Zq (i+1) q) w.heap.size wv bn from by
      have hbs:w.heap.size≤bn:=by have:=hB.out.size;rw[NL.out]at this;exact this
      refine(hM.out.mono (by omega)).imp (fun z' hz'=>?_) (fun z' hz'=>?_)
      ·obtain⟨z1,k,rfl,hk,hz1,_⟩:=hz';refine⟨by simp[hz1.1],fun a ha=>?_⟩;rcases Hr.1 ha with ha|ha
       ·exact hz1.2 a ha
       ·rw[Gi.1 ha];exact hk
      ·have hne:z'≠[]:=fun e=>by have:=hz'.1;rw[e]at this;simp at this
       refine⟨z',⟨z'.dropLast,z'.getLast hne,(List.dropLast_concat_getLast hne).symm,hz'.2 _ (List.getLast_mem hne),⟨by rw[List.length_dropLast,hz'.1];rfl,fun a ha=>hz'.2 a (List.dropLast_subset _ ha)⟩,hl0 _⟩,rfl⟩)
     have E9:=hid (show Below w.heap.size w wv from FC hB.out hBW.out);have HBS:=hid (show w.heap.size≤bn by have:=hB.out.size;rw[NL.out]at this;exact this);have hi1:i+1≤n:=Lg.out;clear hM hB hBW hrg hl0 hc0 hcx;go_wp2_with fail;go_roundw;case rel=>exact⟨i+1,bn,rfl,by go_num,hi1,HBS,wI,E9⟩
     case measure=>simp[intOf];omega
    ·intro x c kl ya yb w2 cnt2 hkey hlx Y0 hat hrg2 hlt2 hg2 hs2 hen;obtain⟨x',ex,rfl,_⟩:=Maps.keyOf_int_inv Tryz.underlying3 hkey;obtain rfl:x=x':=by injection ex
     obtain rfl:ya= .held c:=by have:=Y0;simp[Rv]at this;exact this.1.symm
     obtain⟨z,g,cz,NR,TJ,XX,Uh⟩:=HM5.out.2.2 _ (has_true_of_atKey hat);obtain⟨X,hX⟩:∃X,Be T (ts.take i) z=X:=⟨_,rfl⟩;rw[hX]at TJ;obtain rfl:x=(X:Int):=by injection TJ
     obtain rfl:c= .slice (some ⟨g,0,none⟩) z.length cz:=by have:=(hat .nil).symm.trans (XX .nil);simpa using this
     rw[NR.1]at Uh hen;have KD:=hid hX;have NS:=hid NR;have Bn:=hid (fun(W:World) (hb:Below wr.heap.size wr W)=>(Uh.mono (S':=Any) (fun _ _=>trivial)).keep (AA.of_below hb));have hB2:Below wr.heap.size wr w2:=Qu hBW.out hg2 (by intro k hk;cases hk;rw[NL.out];exact Nat.le_succ _);have HB2:=hid hB2;have SK:X<sz T:=by rw[←hX];exact Oi HT.out _ _
     have HM2:=hid (show MapOf T (ts.take (i+1)) (Zk T (ts.take i) i q (fun zz=>left zz&& !zz.sameKey (.int .i64 (X:Int))) X 0) (bn+2) w2 bn from by
      have hk2:AA (fun k=>bn+2≤k) wv w2:=AA.grown hg2 fun k hk e=>by injection e with e;omega
      refine(hM.out.keep hk2 (hg2.block bn (hM.out.lt) (by simp))).imp (fun z' hz'=>?_) (fun z' hz'=>?_)
      ·obtain⟨z1,k,rfl,hk,hz1,hf⟩:=hz';have hne:Be T (ts.take i) z1≠X:=fun e=>by rw[e,hlx]at hf;exact Bool.noConfusion hf
       exact⟨z1,k,rfl,hk,hz1,.inl ⟨by show(left _&&_)=false;rw[hf];rfl,hne⟩⟩
      ·obtain⟨z1,k,rfl,hk,hz1,hf⟩:=hz';rcases hf with⟨hf,hne⟩|⟨_,hf⟩
       ·refine⟨_,⟨z1,k,rfl,hk,hz1,?_⟩,rfl⟩;have hf':(left (.int .i64 (Be T (ts.take i) z1:Int))&& !(Lit.int .i64 (Be T (ts.take i) z1:Int)).sameKey (.int .i64 (X:Int)))=false:=hf;rw[AAx hne]at hf';simpa using hf'
       ·omega)
     have Sa:=hid (show wv.rangeLeft b (bn+1)=cnt from hrg.left_eq);clear hkey hlx Y0 hat hg2 hs2 XX Uh hX NR hM hBW hB2 hrg TJ ex;go_wp2_with fail;go_loopw [32] (fun kv W=>∃k:Nat,k≤q∧kv= .int .i64 (k:Int)∧W.ranges Tryz.prog 3 Rv b (bn+1) (sz T) D (fun zz=>left zz&& !zz.sameKey (.int .i64 (X:Int))) cnt2∧Hid (MapOf T (ts.take (i+1)) (Zk T (ts.take i) i q (fun zz=>left zz&& !zz.sameKey (.int .i64 (X:Int))) X k) (bn+2) W bn)∧Hid (Below wr.heap.size wr W)) (fun kv _=>q-(intOf kv).toNat);case atStart=>exact⟨0,AU _,rfl,hrg2,HM2,HB2⟩
     case round=>
      obtain⟨k,hk,rfl,dw,jE,jF⟩:=hrel;rename World=>wk;clear HM2 HB2 hrg2 hen;by_cases hkq:k<q
      ·have hdk:decide ((k:Int)<(q:Int))=true:=by simp;omega
       have AMU:decide (k<q)=true:=by simp;omega
       have jG:=hid hkq;have hk7:k≤7:=by have:=Uu.out;omega
       have HHL:Hid (h<sz T):=hid (TE.out h (Ar HH.out));obtain⟨Y,hY⟩:∃Y,it (fun z=>pr T z h) k 0=Y:=⟨_,rfl⟩;obtain⟨Pk,hP⟩:∃Pk,pr T X Y=Pk:=⟨_,rfl⟩;have HY:=hid hY;have Dj:=hid hP;have hYl:Y<sz T:=by rw[←hY];exact UM HT.out (fun z=>J2 HT.out _ _) _ _ (F8 HT.out)
       have hPl:Pk<sz T:=by rw[←hP];exact J2 HT.out _ _
       have G6:=hid hPl;have Au:=hid (show Below w.heap.size w wk from FC hB.out jF.out);have Cy:=hid (fun(W:World) (hb:Below wk.heap.size wk W)=>show Calls Tryz.prog 127 #[.pointer (some ⟨bg,0,none⟩),.int .i64 (h:Int),.int .i64 (k:Int)] W (fun e w'=>e= .returned (.int .i64 (Y:Int))∧Below W.heap.size W w') from by
        rw[←HY.out];exact Q0 T HT.out HZ.out W bg (QW.out W (FC Au.out hb)) h k HHL.out (by have:=Uu.out;have:=jG.out;omega))
       have HCN:=hid (fun(W:World) (hb:Below wk.heap.size wk W)=>show Calls Tryz.prog 125 #[.slice (some ⟨g,0,none⟩) i cz] W (fun e w'=>∃g4 c4,e= .returned (.slice (some ⟨g4,0,none⟩) i c4)∧w'.ownsRow wk.heap.size 2 1 (.slice (some ⟨g4,0,none⟩) i c4) i (vals (ints z))∧Below W.heap.size W w') from by
        refine(Ov.ZB Any _ (ints z) W (Bn.out W (FC jF.out hb)) (fun n c e=>by simp at e) (by rw[A7,NS.out.1];omega)).mono ?_;rintro e w' ⟨g4,c4,rfl,ho,hb'⟩;unfold Own at ho;rw[A7,NS.out.1]at ho;exact⟨g4,c4,by rw[A7,NS.out.1],EX ho hb.size,hb'⟩)
       obtain⟨D2,e1,e2,e4,e5⟩:=jE.out;have HE:=hid (And.intro e2 (And.intro e4 e5));have AKb:=e1.lt;have Ew:=hid (fun(W:World) (hb:Below wk.heap.size wk W) (v:Value)=>(Zb e1 (hb.block bn AKb)).update (t:=112) (e:=24) LY Tryz.underlying112 (by have:=HZ.out;unfold maxLen;omega) (key:=.int .i64 (Pk:Int)) (val:=v) (Zy Pk (by have:=HZ.out;have:=G6.out;omega)) (d:=.held v) (ps:=[]) rfl);obtain⟨gt,ot,ct,p9,hct,hc0,G5⟩:=p8.out;obtain⟨gr,or,cr,hcr,hc1,HR1⟩:=G5 X SK;have hc2:=HR1 Y hYl;rw[hP]at hc2;have AMV:w.heap.size≤bn:=by have:=hB.out.size;rw[NL.out]at this;exact this
       have Gu:=hid (fun(W:World) (hk:AA (fun k=>k≠bn) wk W)=>show W.cell? ⟨bg,0,none⟩=some (.slice (some ⟨gt,ot,none⟩) (sz T) ct)∧W.cell? ⟨gt,ot+X,none⟩=some (.slice (some ⟨gr,or,none⟩) (sz T) cr)∧W.cell? ⟨gr,or+Y,none⟩=some (.int .i64 (Pk:Int)) from by
        have hk2:AA (fun k=>k≠bn) w W:=(AA.of_below Au.out).trans hk;have l1:=World.block_lt_of_cell? _ _ hc1;have l2:=World.block_lt_of_cell? _ _ hc2;exact⟨(hk2.cell (by show bg≠bn;omega) p9).trans hc0,(hk2.cell (by show gt≠bn;exact fun e=>by have:gt<w.heap.size:=l1;omega) l1).trans hc1,(hk2.cell (by show gr≠bn;exact fun e=>by have:gr<w.heap.size:=l2;omega) l2).trans hc2⟩)
       obtain⟨r0,r1,r2⟩:=Gu.out wk AB;have Rt:=hid (fun(W7 w9:World) (g7 c7:Nat) (Bd:Below wk.heap.size wk W7) (Bz:W7.ownsRow wk.heap.size 2 1 (.slice (some ⟨g7,0,none⟩) (i+1) c7) (i+1) (vals (ints z)++[.int .i64 (k:Int)])) (Yd:w9.ownsMap Tryz.prog 3 Rv bn (sz T+1) (D2.put (.int .i64 (Pk:Int)) (.held (.slice (some ⟨g7,0,none⟩) (i+1) c7)))) (Gx:W7.grownBy w9 (some bn))=>
        show w9.ranges Tryz.prog 3 Rv b (bn+1) (sz T) D (fun zz=>left zz&& !zz.sameKey (.int .i64 (X:Int))) cnt2∧Hid (MapOf T (ts.take (i+1)) (Zk T (ts.take i) i q (fun zz=>left zz&& !zz.sameKey (.int .i64 (X:Int))) X (k+1)) (bn+2) w9 bn)∧Hid (Below wr.heap.size wr w9) from by
        have VP:wk.grownBy w9 (some bn):=((Vq Bd).but (some bn)).andThen Gx (fun j hj=>.inr hj);have hr1:=dw.lt;have htk:ts.take (i+1)=ts.take i++[h]:=by rw[Jd,HH.out];rfl
        have hlen:(ts.take i).length=i:=by rw[Gl,HN.out];have:=Lg.out;omega
        have hkey:∀z1,Zq i q z1→Be T (ts.take (i+1)) (z1++[k])=pr T (Be T (ts.take i) z1) Y:=fun z1 h1=>by rw[htk,AGC HT.out NP.out (by rw[h1.1,hlen]),HY.out]
        have hkz:Be T (ts.take (i+1)) (z++[k])=Pk:=by rw[hkey z NS.out,KD.out,Dj.out]
        refine⟨dw.kept VP (by intro e;injection e with e;omega) (by intro e;injection e with e;omega),hid ?_,hid (Qu (FC jF.out Bd) Gx (by intro a ha;injection ha with ha;rw[←ha,NL.out];exact Ap _))⟩;have hzl:(z++[k]).length=i+1:=by rw[Cm,NS.out.1];rfl
        have hs7:AL (fun a=>wk.heap.size≤a) W7 (.slice (some ⟨g7,0,none⟩) (i+1) c7) (ints (z++[k])):=Own.sl (by
         unfold Own;rw[A7,hzl,show vals (ints (z++[k]))=vals (ints z)++[.int .i64 (k:Int)] by simp[vals,ints]];exact Bz)
        have hp:=MapOf.put HT.out (ts:=ts.take (i+1)) (Z:=Zk T (ts.take i) i q (fun zz=>left zz&& !zz.sameKey (.int .i64 (X:Int))) X k) (B:=bn+2) (W:=w9) (b:=bn) (n:=sz T) (D:=D2) (z0:=z++[k]) (g:=g7) (c:=c7) HZ.out (fun z=>Oi HT.out _ z) (by rw[hkz,hzl];exact Yd) HE.out.1 HE.out.2.1
         (fun kl hkl=>by
          obtain⟨z2,g2,c2,b1,b2,b3,b4⟩:=HE.out.2.2 kl hkl;exact⟨z2,g2,c2,b1,b2,b3,b4.keep (AA.grown VP fun a ha e=>ha.2 (by injection e))⟩)
         (by
          rw[hzl];exact(hs7.keep ((wG Gx).mono fun a ha=>by omega)).mono fun a ha=>⟨by omega,by omega⟩)
        refine hp.imp (fun z' hz'=>?_) (fun z' hz'=>?_)
        ·rcases hz' with⟨z1,k1,rfl,hk1,hz1,hf⟩|rfl
         ·exact⟨z1,k1,rfl,hk1,hz1,hf.imp id fun hh=>⟨hh.1,by omega⟩⟩
         ·exact⟨z,k,rfl,jG.out,NS.out,.inr ⟨KD.out,Nat.lt_succ_self _⟩⟩
        ·obtain⟨z1,k1,rfl,hk1,hz1,hf⟩:=hz';rcases hf with hf|⟨hf,hk2⟩
         ·exact⟨_,.inl ⟨z1,k1,rfl,hk1,hz1,.inl hf⟩,rfl⟩
         ·by_cases e:k1=k
          ·subst e;exact⟨_,.inr rfl,by rw[hkey z1 hz1,hkey z NS.out,hf,KD.out]⟩
          ·exact⟨_,.inl ⟨z1,k1,rfl,hk1,hz1,.inr ⟨hf,by omega⟩⟩,rfl⟩)
       clear e1 e2 e4 e5 hc0 hc1 hc2 G5 HR1 hY hP jE;go_upto_region 12 with fail;go_region_held3 (fun w'=>w'.cell? ⟨bg,0,none⟩=some (.slice (some ⟨gt,ot,none⟩) (sz T) ct)∧w'.cell? ⟨gt,ot+X,none⟩=some (.slice (some ⟨gr,or,none⟩) (sz T) cr)∧w'.cell? ⟨gr,or+Y,none⟩=some (.int .i64 (Pk:Int)))
        (first|exact⟨s0,s1,s2⟩|exact⟨r0,r1,r2⟩|exact Gu.out _ (by repeat(first|with_reducible exact AA.refl _ _|with_reducible refine AA.drew ?_|with_reducible refine AA.alloc ?_ _|with_reducible refine AA.trans ?_ (AA.of_below (by assumption)))))
        (first|(go_simp;go_at_call 127;refine(Cy.out _ (by repeat(first|assumption|with_reducible exact Ag _ _|with_reducible refine VX ?_|with_reducible refine G9 ?_ _|with_reducible refine FC ?_ (by assumption)))).mono ?_;rintro e w3 ⟨rfl,hb3⟩;have EK:Below wk.heap.size wk w3:=(by repeat(first|assumption|with_reducible exact Ag _ _|with_reducible refine VX ?_|with_reducible refine G9 ?_ _|with_reducible refine FC ?_ (by assumption)));(first|have Ml:=Tj hb3|have Ml:=Tj ((AR.drew).trans hb3)|have Ml:=Rs Ml hb3|skip);(first|have hoC:=BM ES (S:=Any) (by repeat(first|with_reducible exact AA.refl _ _|with_reducible refine AA.drew ?_|with_reducible refine AA.alloc ?_ _|with_reducible refine AA.trans ?_ (AA.of_below (by assumption)))) (fun _ _=>trivial)|skip);(first|(have VU:=BM Bz (S:=Any) (AA.of_below hb3) (fun _ _=>trivial);obtain⟨w8,Qa,U7,Jo⟩:=Ew.out w3 EK (.slice (some ⟨g7,0,none⟩) (i+1) c7);obtain⟨s0,s1,s2⟩:=Gu.out w8 ((AA.of_below EK).trans (wG Jo)))|skip);obtain⟨r0,r1,r2⟩:=Gu.out w3 (AA.of_below EK))|(go_simp;go_at_call 125;refine(HCN.out _ (by repeat(first|assumption|with_reducible exact Ag _ _|with_reducible refine VX ?_|with_reducible refine G9 ?_ _|with_reducible refine FC ?_ (by assumption)))).mono ?_;rintro e w4 ⟨g4,c4,rfl,ES,hb4⟩;have hbC:Below wk.heap.size wk w4:=(by repeat(first|assumption|with_reducible exact Ag _ _|with_reducible refine VX ?_|with_reducible refine G9 ?_ _|with_reducible refine FC ?_ (by assumption)));(first|have Ml:=Tj hb4|have Ml:=Tj ((AR.drew).trans hb4)|have Ml:=Rs Ml hb4|skip);obtain⟨r0,r1,r2⟩:=Gu.out w4 (AA.of_below hbC))|(refine jy (by rfl) _ _ (by rfl) wk.heap.size i _ _ (.slice (some ⟨g4,0,none⟩) i c4) (vals (ints z)) (k:Int) (by rfl) (BM ES (S:=Any) (by repeat(first|with_reducible exact AA.refl _ _|with_reducible refine AA.drew ?_|with_reducible refine AA.alloc ?_ _|with_reducible refine AA.trans ?_ (AA.of_below (by assumption)))) (fun _ _=>trivial)) (by rfl) (by first|exact Ml|exact ko _ _) (by omega) (Below.size (by repeat(first|assumption|with_reducible exact Ag _ _|with_reducible refine VX ?_|with_reducible refine G9 ?_ _|with_reducible refine FC ?_ (by assumption)))) ?_;intro v' w7 Bz Dk Yg;obtain⟨g7,c7,rfl⟩:=kP Bz;have Bd:Below wk.heap.size wk w7:=Qu (by repeat(first|assumption|with_reducible exact Ag _ _|with_reducible refine VX ?_|with_reducible refine G9 ?_ _|with_reducible refine FC ?_ (by assumption))) Dk (fun a ha=>(BH ES a ha).1);obtain⟨w9,hu9,Yd,Gx⟩:=Ew.out w7 Bd (.slice (some ⟨g7,0,none⟩) (i+1) c7);obtain⟨s0,s1,s2⟩:=Gu.out w9 ((AA.of_below Bd).trans (wG Gx));obtain⟨r0,r1,r2⟩:=Gu.out w7 (AA.of_below Bd);clear Dk Yg))
       all_goals
        go_wp2_with fail;go_roundw;case rel=>first|(obtain⟨x1,x2,x3⟩:=Rt.out w3 w8 g7 c7 EK VU U7 Jo;exact⟨k+1,jG.out,by go_num,x1,x2,x3⟩)|(obtain⟨x1,x2,x3⟩:=Rt.out w7 w9 g7 c7 Bd Bz Yd Gx;exact⟨k+1,jG.out,by go_num,x1,x2,x3⟩)
        case measure=>simp[intOf];omega
      ·obtain rfl:k=q:=by omega
       have hdk:decide ((k:Int)<(k:Int))=false:=by simp
       have wI:=hid (show MapOf T (ts.take (i+1)) (Zm T (ts.take i) i k (fun zz=>left zz&& !zz.sameKey (.int .i64 (X:Int)))) (bn+2) wk bn from by
        refine jE.out.imp (fun z' hz'=>?_) (fun z' hz'=>?_)
        ·obtain⟨z1,k1,rfl,hk1,hz1,hf⟩:=hz';rcases hf with⟨hf,_⟩|⟨hf,_⟩
         ·exact⟨z1,k1,rfl,hk1,hz1,hf⟩
         ·exact⟨z1,k1,rfl,hk1,hz1,by rw[hf];simp[WideAt.sameKey_self (a:=.int .i64 (X:Int)) trivial]⟩
        ·obtain⟨z1,k1,rfl,hk1,hz1,hf⟩:=hz';by_cases e:Be T (ts.take i) z1=X
         ·exact⟨_,⟨z1,k1,rfl,hk1,hz1,.inr ⟨e,hk1⟩⟩,rfl⟩
         ·exact⟨_,⟨z1,k1,rfl,hk1,hz1,.inl ⟨hf,e⟩⟩,rfl⟩)
       clear jE;go_wp2_with fail;go_roundw;case rel=>exact⟨_,cnt2,dw,wI,jF⟩
       case measure=>rw[dw.left_eq,Sa.out];exact hlt2
  ·obtain rfl:i=n:=by omega
   have hd:decide ((i:Int)<(i:Int))=false:=by simp
   have HR:=hid (show wC T ts q w (.returned (.map (some b))) wr from⟨b,rfl,hbb.out,by have h:=hM.out;rw[←HN.out,Me,HN.out]at h;rw[HN.out];exact h,hB.out⟩);clear hM hB hbb;go_wp2_with fail;go_ret;exact HR.out
end Go.Proofs.YtlmlamcoeegkbaaGreat.Yy

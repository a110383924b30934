import Derived.Test.YtlmlamcoeegkbaaGreatZ0
import Derived.Test.YtlmlamcoeegkbaaGreatZC
import Derived.Test.YtlmlamcoeegkbaaGreatZh
import Derived.Test.YtlmlamcoeegkbaaGreatZf
import Derived.Test.YtlmlamcoeegkbaaGreatZk
import Derived.Test.YtlmlamcoeegkbaaGreatZn
import Derived.Test.YtlmlamcoeegkbaaGreatZB
import Derived.Test.YtlmlamcoeegkbaaGreatZv
import Derived.Test.YtlmlamcoeegkbaaGreatZe
import Derived.ChangeSlices
import Derived.Deep.Slices
import Derived.Lib.SmallJoins
/-
  Lemmas for the law FnOrbits, in short spelling.
-/
open Go.Lib (hid)
set_option linter.unusedVariables false
set_option linter.unusedSimpArgs false
set_option maxRecDepth 100000
set_option maxHeartbeats 40000000
namespace Go.Proofs.YtlmlamcoeegkbaaGreat.OuM
open Go.RowKit Go.Proofs.YtlmlamcoeegkbaaGreat Tow Val CyA CyB OuL
open Go.Proofs.YtlmlamcoeegkbaaGreat.DwE (OwL own_push)
open Go.Proofs.YtlmlamcoeegkbaaGreat.SpecB (Any)
theorem gr_own {A W W':World}{g r:Option Nat}(h:A.grownBy W g)(h':W.grownBy W' r)(hr:∀k,r=some k→A.heap.size≤k):A.grownBy W' g:=
 ⟨h'.os.trans h.os,h'.tape.trans h.tape,h'.output.trans h.output,zq11 h.size h'.size,fun k hk hne=>(h'.block k (zq7 hk h.size) (fun e=>absurd (hr k e.symm) (by omega))).trans (h.block k hk hne)⟩
theorem gr_alloc {A W:World}{g:Option Nat}(h:A.grownBy W g)(o:Obj):A.grownBy (W.alloc o) g:=
 ⟨h.os,h.tape,h.output,zq11 h.size (by simp),fun k hk hne=>(zq91 W o (zq7 hk h.size)).trans (h.block k hk hne)⟩
theorem dc_own {w w':World}{g:Nat}{a:Option Addr}{len cap:Nat}{r:Option Nat}(h:Dc w g a len cap)(h':w.grownBy w' r)(hr:some g≠r):Dc w' g a len cap:=by
 obtain⟨k,x,h1,h2,h3⟩:=h;exact⟨k,x,(h'.block g (zq10.1 h1).1 hr).trans h1,h2,h3⟩
theorem dc_lt {w:World}{g:Nat}{a:Option Addr}{len cap:Nat}(h:Dc w g a len cap):g<w.heap.size:=by
 obtain⟨k,x,h1,_⟩:=h;exact(zq10.1 h1).1
theorem own_mono {B B' n:Nat}{w:World}{v:Value}{t:TypeId}{xs:List Value}(h:w.ownsRow B t 1 v n xs)(hB:B'≤B):w.ownsRow B' t 1 v n xs:=by
 obtain⟨h1,h2⟩:=h;rcases h2 with h2|⟨g,cap,cur,e,hb,h3⟩
 ·exact⟨h1,.inl h2⟩
 ·exact⟨h1,.inr ⟨g,cap,cur,e,zq11 hB hb,h3⟩⟩
theorem El_iff:∀(T:Tw) (x:List Nat),x.length=T.length→(∀(i a:Nat) (L:Lv),x[i]?=some a→T[i]?=some L→a<L.o)→El T x
 |[],[],_,_=>trivial
 |L::T,a::x,hl,h=>⟨h 0 a L rfl rfl,El_iff T x (by simpa using hl) (fun i b M h1 h2=>h (i+1) b M h1 h2)⟩
 |[],_::_,hl,_=>by simp at hl
 |_::_,[],hl,_=>by simp at hl
def EltD (T:Tw)(g:Nat)(a:Option Addr)(len cap:Nat)(w:World)(e:Ending)(w':World):Prop:=
 ∃(gv cv:Nat) (x:List Nat),e= .returned (.slice (some ⟨gv,0,none⟩) x.length cv)∧OwL w.heap.size w' (.slice (some ⟨gv,0,none⟩) x.length cv) x∧El T x∧Dc w' g a len cap∧w.grownBy w' (some g)
theorem draw_any (T:Tw)(hT:∀(i:Nat) (L:Lv),T[i]?=some L→2≤L.o)(n:Nat)(hn:T.length=n)(hs:n≤6)(w:World)(g:Nat)(a:Option Addr)(len cap:Nat)(aO:Option Addr)(cO:Nat)(vP vC:Value)(hS:Dc w g a len cap)(hR:Rd w g a len)(hO:SlI (fun k=>k≠g) w (.slice aO n cO) (ofTw T).os):
  Calls Tryz.prog 23 #[.pointer (some ⟨g,0,none⟩),.agg #[.slice aO n cO,vP,vC]] w (EltD T g a len cap w):=by
 obtain⟨i0,hi,hz0,hz1,hz2⟩:=zq41 infoI;have hgw:=dc_lt hS;obtain⟨W0,hW0⟩:∃W0,W0=w.alloc (.cells #[.slice aO n cO,vP,vC] 28):=⟨_,rfl⟩;obtain⟨B0,hB0⟩:∃B0,w.heap.size=B0:=⟨_,rfl⟩;have hsz:W0.heap.size=B0+1:=by rw[hW0,←hB0];simp
 have HG0:=hid (show w.grownBy W0 (some g) by rw[hW0];exact gr_alloc (gr_refl _ _) _);have HD0:=hid (show Dc W0 g a len cap by rw[hW0];exact dc_own hS (gr_alloc (gr_refl _ none) _) (by simp));have HR0:=hid (show Rd W0 g a len from hR.grown HG0.out);have HO0:=hid (show SlI (fun k=>k≠g) W0 (.slice aO n cO) (ofTw T).os from hO.keep (Keep.grown HG0.out fun k hk e=>hk (by injection e)));have HP0:=hid (show W0.cell? ⟨B0,0,none⟩=some (.slice aO n cO) by
  rw[hW0,←hB0];exact(row3' (zq17 _ _)).1)
 have HGB:=hid (show g≠B0∧g<B0 by omega);have HT:=hid hT;have HN:=hid hn;have HSZ:=hid hsz;have HB0:=hid hB0;have HBL:=hid (fun m h W h1 h2=>below_any m h W g a len cap h1 h2);have H00:=hid (show OwL W0.heap.size (W0.alloc (.cells #[] 2)) (.slice (some ⟨W0.heap.size,0,none⟩) 0 0) [] from zq47 (base:=W0.heap.size) (e:=2) (size:=1) W0 #[] 0 zqN (zq4 _) rfl);have HD1:=hid (show Dc (W0.alloc (.cells #[] 2)) g a len cap from dc_own HD0.out (gr_alloc (gr_refl _ none) _) (by simp));have HG1:=hid (show W0.grownBy (W0.alloc (.cells #[] 2)) (some g) from gr_alloc (gr_refl _ _) _);clear hS hR hO hn hT hsz hgw;go_enter Tryz.func23,Tryz.ntmps23;go_upto_region 1 with fail;rw[←hW0];clear hW0 hB0;go_wp2_with fail;go_loopw [5,6] (fun ov iv wr=>∃(k:Nat) (out:List Nat) (gx cx:Nat),ov= .slice (some ⟨gx,0,none⟩) k cx∧k≤n∧iv= .int .i64 (k:Int)∧Hid (out.length=k∧∀(i x:Nat) (L:Lv),out[i]?=some x→T[i]?=some L→x<L.o)∧Hid (OwL W0.heap.size wr (.slice (some ⟨gx,0,none⟩) k cx) out)∧Hid (Dc wr g a len cap)∧Hid (W0.grownBy wr (some g))) (fun _ iv _=>n-(intOf iv).toNat);case atStart=>exact⟨0,[],_,_,rfl,zq4 _,rfl,hid ⟨rfl,fun i x L h=>by simp at h⟩,H00,HD1,HG1⟩
 case round=>
  obtain⟨k,out,gx,cx,rfl,hk,rfl,hL,hO,hD,hG⟩:=hrel;have hkp:=Keep.grown hG.out (S:=fun k=>k≠g) (fun k hk e=>hk (by injection e));have p0:=(hkp.cell (b:=B0) (o:=0) (fun e=>HGB.out.1 e.symm) (by rw[HSZ.out];omega)).trans HP0.out;have hPb:B0<wr.heap.size:=by have:=hkp.size;have:=HSZ.out;omega
  by_cases hlt:k<n
  ·obtain⟨L,hTL⟩:∃L,T[k]?=some L:=⟨_,zq0 (by rw[HN.out];exact hlt)⟩;obtain⟨m,hm⟩:∃m,L.o=m:=⟨_,rfl⟩;have hm2:2≤m:=by rw[←hm];exact HT.out k L hTL
   have hgo:=ofTw_os_get T k L hTL;rw[hm]at hgo;obtain⟨bO,oO,vu,rfl,_,hbO,hcO,rfl⟩:=slg_get (HO0.out.keep hkp) hgo;have hmx:max (1:Int) (m:Int)=(m:Int):=by omega
   have HC:=hid (HBL.out m (by omega) wr hD.out (HR0.out.grown hG.out));have hki:(k:Int)<(n:Int):=by omega
   have hk0:(0:Int)≤(k:Int):=by omega
   have HKN:=hid (And.intro hlt hs);have HTL:=hid (And.intro hTL hm);clear hkp hlt hgo hTL hm;go_wp2_with fail;refine HC.out.mono ?_;rintro e w1 ⟨r,rfl,hr,hD1,hG1⟩;have HG1':=hid (gr_tr hG.out hG1);have HD1':=hid hD1;have HRM:=hid hr;have a1:=(show OwL W0.heap.size w1 _ out from ownsRow_keep hO.out (S:=fun q=>q≠g) (Keep.grown hG1 (fun k hk e=>hk (by injection e))) (fun q hq=>by have:=HGB.out;have:=HSZ.out;omega));have a2:=ownsRow_keep a1 (S:=Any) ((Keep.refl _ w1).alloc (.cells #[.int .i64 (r:Int)] 2)) (fun _ _=>trivial);have HL2:=hid (show(out++[r]).length=k+1∧∀(i x:Nat) (L:Lv),(out++[r])[i]?=some x→T[i]?=some L→x<L.o from⟨by rw[zq31,hL.out.1];rfl,fun i x M h1 h2=>by
    by_cases hi:i<out.length
    ·rw[zq28 hi]at h1;exact hL.out.2 i x M h1 h2
    ·rw[zq27 (by omega)]at h1;have hik:i=k:=by
      have:=(zq2.1 h1).1;simp at this;have:=hL.out.1;omega
     subst hik;rw[HTL.out.1]at h2;cases h2;have:=hL.out.1;rw[this,zq127]at h1;simp at h1;rw[HTL.out.2];have:=HRM.out;omega⟩)
   have HLK:=hid hL.out.1;rw[HLK.out]at a2;clear hL hO hD hG hD1 hG1 hr hm2 a1 HC;go_wp2_with (at_builtin;(refine zq52 _ rfl _ _ 24 rfl W0.heap.size 2 i0 (.int .i64 0) 1 8 Tryz.underlying24 hi hz0 hz1 hz2 rfl (by decide) _ _ _ rfl a2 ⟨w1.heap.size,0,none⟩ 1 1 [.int .i64 (r:Int)] rfl rfl (zq50 (cs:= #[.int .i64 (r:Int)]) (t:=2) (fr:=(0,0)) (zq17 w1 _)) (by simp[Value.oneCell']) (by decide) ?c3 ?c4 ?c5 _ rfl ?_));case c3=>have:=HKN.out;unfold maxLen;omega
   case c4=>have:=HKN.out;omega
   case c5=>have:=HG1'.out.size;simp;omega
   intro g2 cap2 w2 hown2 hgrow2 hat2 hlt2;have HO2:=hid (show OwL W0.heap.size w2 (.slice (some ⟨g2,0,none⟩) (k+1) cap2) (out++[r]) from own_push (by rw[HLK.out];exact hown2));have HG2:=hid (show W0.grownBy w2 (some g) from gr_own (gr_alloc HG1'.out _) hgrow2 (fun q hq=>(zq8 a2 q hq).1));have HD2:=hid (show Dc w2 g a len cap from dc_own (dc_own HD1'.out (gr_alloc (gr_refl _ none) _) (by simp)) hgrow2 (fun e=>by have:=(zq8 a2 g e.symm).1;have:=HGB.out;have:=HSZ.out;omega));clear hown2 hgrow2 hat2 hlt2 a2 HO0;go_wp2_with fail;go_roundw;case rel=>exact⟨k+1,out++[r],_,_,rfl,HKN.out.1,by go_num,HL2,HO2,HD2,HG2⟩
   case measure=>have:=HKN.out.1;simp[intOf];omega
  ·obtain rfl:k=n:=by omega
   have HRV:=hid (show EltD T g a len cap w (.returned (.slice (some ⟨gx,0,none⟩) k cx)) wr from⟨gx,cx,out,by rw[hL.out.1],by rw[hL.out.1];exact own_mono hO.out (by rw[HSZ.out,HB0.out];omega),El_iff T out (by rw[HN.out];exact hL.out.1) hL.out.2,hD.out,gr_tr HG0.out hG.out⟩);clear hL hO hD hG hkp;go_wp2_with fail;go_ret;exact HRV.out
end Go.Proofs.YtlmlamcoeegkbaaGreat.OuM
namespace Go.Proofs.YtlmlamcoeegkbaaGreat.OuN
open Go.RowKit Go.Proofs.YtlmlamcoeegkbaaGreat Tow Val CyA CyB DwU
open Go.Proofs.YtlmlamcoeegkbaaGreat.OuM (gr_own gr_alloc own_mono)
open Go.Proofs.YtlmlamcoeegkbaaGreat.SpecB (Any)
abbrev OwI (B:Nat)(w:World)(v:Value)(x:List Int):Prop:=w.ownsRow B 2 1 v x.length (vals x)
theorem owi_push {B:Nat}{w':World}{v':Value}{x:List Int}{a:Int}(h:w'.ownsRow B 2 1 v' (x.length+1) (vals x++[.int .i64 a])):OwI B w' v' (x++[a]):=by
 unfold OwI;have e:vals (x++[a])=vals x++[.int .i64 a]:=by simp[vals]
 rw[e,zq31];exact h
theorem owi_sl {B:Nat}{w:World}{v:Value}{x:List Int}(h:OwI B w v x):SlI (fun k=>B≤k) w v x:=Own.sl h
def VecS (n:Nat)(g:Nat)(a:Option Addr)(len cap:Nat)(w:World)(e:Ending)(w':World):Prop:=
 ∃v x,e= .returned v∧OwI w.heap.size w' v x∧x.length≤n+1∧Sr g a len cap w w'
theorem vec_any (os:List Int)(n:Nat)(hn:os.length=n)(hs:n≤1000)(w:World)(g:Nat)(a:Option Addr)(len cap:Nat)(aO:Option Addr)(cO:Nat)(vP vC:Value)(hS:Sr g a len cap w w)(hO:SlI (fun k=>k≠g) w (.slice aO n cO) os):
  Calls Tryz.prog 39 #[.pointer (some ⟨g,0,none⟩),.agg #[.slice aO n cO,vP,vC]] w (VecS n g a len cap w):=by
 obtain⟨i0,hi,hz0,hz1,hz2⟩:=zq41 infoI;have hgw:=hS.lt;obtain⟨W0,hW0⟩:∃W0,W0=w.alloc (.cells #[.slice aO n cO,vP,vC] 28):=⟨_,rfl⟩;obtain⟨B0,hB0⟩:∃B0,w.heap.size=B0:=⟨_,rfl⟩;have hsz:W0.heap.size=B0+1:=by rw[hW0,←hB0];simp
 have HS0:=hid (show Sr g a len cap w W0 by rw[hW0];exact hS.alloc _);have HSW:=hid (show Sr g a len cap W0 W0 from⟨HS0.out.1,HS0.out.2.1,gr_refl _ _⟩);have HO0:=hid (show SlI (fun k=>k≠g) W0 (.slice aO n cO) os from hO.keep (Keep.grown HS0.out.2.2 fun k hk e=>hk (by injection e)));have HP0:=hid (show W0.cell? ⟨B0,0,none⟩=some (.slice aO n cO) by
  rw[hW0,←hB0];exact(row3' (zq17 _ _)).1)
 have HGB:=hid (show g≠B0∧g<B0 by omega);have HN:=hid hn;have HSZ:=hid hsz;have HB0:=hid hB0;have HNX:=hid (fun x W (h:Sr g a len cap W0 W)=>nx_any x g a len cap W0 W h);have H00:=hid (show OwI W0.heap.size (W0.alloc (.cells #[] 2)) (.slice (some ⟨W0.heap.size,0,none⟩) 0 0) [] from zq47 (base:=W0.heap.size) (e:=2) (size:=1) W0 #[] 0 zqN (zq4 _) rfl);have HS1:=hid (show Sr g a len cap W0 (W0.alloc (.cells #[] 2)) from HSW.out.alloc _);clear hS hO hn hsz hgw;go_enter Tryz.func39,Tryz.ntmps39;go_upto_region 1 with fail;rw[←hW0];clear hW0 hB0;go_wp2_with fail;go_loopw [5,6] (fun ov iv wr=>∃(k:Nat) (out:List Int) (ax:Option Addr) (cx:Nat),ov= .slice ax k cx∧k≤n∧iv= .int .i64 (k:Int)∧Hid (out.length=k)∧Hid (OwI W0.heap.size wr (.slice ax k cx) out)∧Hid (Sr g a len cap W0 wr)) (fun _ iv _=>n-(intOf iv).toNat);case atStart=>exact⟨0,[],_,_,rfl,zq4 _,rfl,hid rfl,H00,HS1⟩
 case round=>
  obtain⟨k,out,ax,cx,rfl,hk,rfl,hL,hO,hS⟩:=hrel;have hkp:=Keep.grown hS.out.2.2 (S:=fun k=>k≠g) (fun k hk e=>hk (by injection e));have p0:=(hkp.cell (b:=B0) (o:=0) (fun e=>HGB.out.1 e.symm) (by rw[HSZ.out];omega)).trans HP0.out;have hPb:B0<wr.heap.size:=by have:=hkp.size;have:=HSZ.out;omega
  by_cases hlt:k<n
  ·obtain⟨m,hm⟩:∃m,os[k]?=some m:=⟨_,zq0 (by rw[HN.out];exact hlt)⟩;obtain⟨bO,oO,vu,rfl,_,hbO,hcO,rfl⟩:=slg_get (HO0.out.keep hkp) hm;have HC:=hid (HNX.out m wr hS.out);have hki:(k:Int)<(n:Int):=by omega
   have hk0:(0:Int)≤(k:Int):=by omega
   have HKN:=hid (And.intro hlt hs);clear hkp hlt hm;go_wp2_with fail;refine HC.out.mono ?_;rintro e w1 ⟨r,rfl,hr,hS1⟩;have HS1':=hid (hS.out.tr hS1);have a1:=(show OwI W0.heap.size w1 _ out from ownsRow_keep hO.out (S:=fun q=>q≠g) (Keep.grown hS1.2.2 (fun k hk e=>hk (by injection e))) (fun q hq=>by have:=HGB.out;have:=HSZ.out;omega));have a2:=ownsRow_keep a1 (S:=Any) ((Keep.refl _ w1).alloc (.cells #[.int .i64 (r:Int)] 2)) (fun _ _=>trivial);have HL2:=hid (show(out++[(r:Int)]).length=k+1 by rw[zq31,hL.out];rfl);have HLK:=hid hL.out;rw[HLK.out]at a2;clear hL hO hS hS1 hr a1 HC;go_wp2_with (at_builtin;(refine zq52 _ rfl _ _ 24 rfl W0.heap.size 2 i0 (.int .i64 0) 1 8 Tryz.underlying24 hi hz0 hz1 hz2 rfl (by decide) _ _ _ rfl a2 ⟨w1.heap.size,0,none⟩ 1 1 [.int .i64 (r:Int)] rfl rfl (zq50 (cs:= #[.int .i64 (r:Int)]) (t:=2) (fr:=(0,0)) (zq17 w1 _)) (by simp[Value.oneCell']) (by decide) ?c3 ?c4 ?c5 _ rfl ?_));case c3=>have:=HKN.out;unfold maxLen;omega
   case c4=>have:=HKN.out;omega
   case c5=>have:=HS1'.out.2.2.size;simp;omega
   intro g2 cap2 w2 hown2 hgrow2 hat2 hlt2;have HO2:=hid (show OwI W0.heap.size w2 (.slice (some ⟨g2,0,none⟩) (k+1) cap2) (out++[(r:Int)]) from owi_push (by rw[HLK.out];exact hown2));have HS2:=hid (show Sr g a len cap W0 w2 from(HS1'.out.alloc _).own HSW.out hgrow2 (fun q hq=>(zq8 a2 q hq).1));clear hown2 hgrow2 hat2 hlt2 a2 HO0;go_wp2_with fail;go_roundw;case rel=>exact⟨k+1,out++[(r:Int)],_,_,rfl,HKN.out.1,by go_num,HL2,HO2,HS2⟩
   case measure=>have:=HKN.out.1;simp[intOf];omega
  ·obtain rfl:k=n:=by omega
   clear hlt;have HLK:=hid hL.out;have HFIN:=hid (fun W v x (h1:x.length≤k+1) (h2:OwI W0.heap.size W v x) (h3:Sr g a len cap W0 W)=>(show VecS k g a len cap w (.returned v) W from⟨v,x,rfl,own_mono h2 (by rw[HSZ.out,HB0.out];omega),h1,HS0.out.tr h3⟩));have HC:=hid (HNX.out 40 wr hS.out);have HOW:=hid (fun W (h:Sr g a len cap wr W)=>(show OwI W0.heap.size W (.slice ax k cx) out from ownsRow_keep hO.out (S:=fun q=>q≠g) (Keep.grown h.2.2 (fun k hk e=>hk (by injection e))) (fun q hq=>by have:=HGB.out;have:=HSZ.out;omega)));have HPK:=hid hkp;clear hL hO hkp;go_wp2_with fail;refine HC.out.mono ?_;rintro e w1 ⟨r,rfl,hr,hS1⟩;have HS1':=hid (hS.out.tr hS1);have hO1:=HOW.out w1 hS1;clear p0 hPb;by_cases hr0:r=0
   ·subst hr0;by_cases hk0:k=0
    ·subst hk0;have a2:=ownsRow_keep hO1 (S:=Any) ((Keep.refl _ w1).alloc (.cells #[.int .i64 0] 2)) (fun _ _=>trivial);rw[HLK.out]at a2;clear hr hO1 hS1 HC;go_upto_region 10 with fail;go_wp2_with (at_builtin;(refine zq52 _ rfl _ _ 24 rfl W0.heap.size 2 i0 (.int .i64 0) 1 8 Tryz.underlying24 hi hz0 hz1 hz2 rfl (by decide) _ _ _ rfl a2 ⟨w1.heap.size,0,none⟩ 1 1 [.int .i64 0] rfl rfl (zq50 (cs:= #[.int .i64 0]) (t:=2) (fr:=(0,0)) (zq17 w1 _)) (by simp[Value.oneCell']) (by decide) ?c3 ?c4 ?c5 _ rfl ?_));case c3=>unfold maxLen;omega
     case c4=>omega
     case c5=>have:=HS1'.out.2.2.size;simp;omega
     intro g2 cap2 w9 hown2 hgrow2 hat2 hlt2;have HO2:=hid (show OwI W0.heap.size w9 (.slice (some ⟨g2,0,none⟩) (0+1) cap2) (out++[(0:Int)]) from owi_push (by rw[HLK.out];exact hown2));have HS9:=hid (show Sr g a len cap W0 w9 from(HS1'.out.alloc _).own HSW.out hgrow2 (fun q hq=>(zq8 a2 q hq).1));have HRR:=hid (HFIN.out w9 _ (out++[(0:Int)]) (by rw[zq31,HLK.out];exact zq1 _) HO2.out HS9.out);clear hown2 hgrow2 hat2 hlt2 a2;go_wp2_with fail;go_ret;exact HRR.out
    ·have hkg:(0:Int)<(k:Int):=by omega
     have HC2:=hid (HNX.out 2 w1 HS1'.out);clear hr hO1 HC;go_wp2_with fail;refine HC2.out.mono ?_;rintro e w2 ⟨r2,rfl,hr2,hS2⟩;have HS2':=hid (HS1'.out.tr hS2);have hO2:=HOW.out w2 (hS1.tr hS2);clear hS1 hS2 hr2 HC2;by_cases h20:r2=0
     ·subst h20;unfold OwI at hO2;rw[HLK.out]at hO2;obtain⟨gq,cq,hq,_,_⟩:=World.ownsRow.form hO2 (Nat.pos_of_ne_zero hk0);injection hq with e1 e2 e3;subst e1;subst e3;obtain⟨m0,hm0⟩:∃m,os[0]?=some m:=⟨_,zq0 (by rw[HN.out];omega)⟩;have hkp2:=Keep.grown HS2'.out.2.2 (S:=fun k=>k≠g) (fun k hk e=>hk (by injection e));have p2:=(hkp2.cell (b:=B0) (o:=0) (fun e=>HGB.out.1 e.symm) (by rw[HSZ.out];omega)).trans HP0.out;have hPb2:B0<w2.heap.size:=by have:=hkp2.size;have:=HSZ.out;omega
      obtain⟨bO,oO,vu,rfl,_,hbO,hcO,rfl⟩:=slg_get (HO0.out.keep hkp2) hm0;rw[zq128]at hcO;have HS22:=hid (show Sr g a len cap w2 w2 from⟨HS2'.out.1,HS2'.out.2.1,gr_refl _ _⟩);have HO2:=hid hO2;have hgq:=zq8 hO2 gq rfl;have HQ:=hid hgq;have HKP:=hid (fun(W:World) (hs:Sr g a len cap (w2.alloc (.cells #[.int .i64 m0,.int .i64 (-1)] 2)) W)=>show W.ownsRow W0.heap.size 2 1 (.slice (some ⟨gq,0,none⟩) k cx) k (vals out) from
       ownsRow_keep (ownsRow_keep HO2.out (S:=Any) ((Keep.refl _ w2).alloc _) (fun _ _=>trivial)) (S:=fun q=>q≠g) (Keep.grown hs.2.2 (fun k hk e=>hk (by injection e))) (fun q hq=>by have:=HGB.out;have:=HSZ.out;omega))
      have HRR:=hid (fun(W:World) (x:Int) (hs:Sr g a len cap (w2.alloc (.cells #[.int .i64 m0,.int .i64 (-1)] 2)) W)=>show VecS k g a len cap w (.returned (.slice (some ⟨gq,0,none⟩) k cx)) (W.setCell ⟨gq,0,none⟩ (.int .i64 x)) by
       obtain⟨h1,h2⟩:=(HKP.out W hs).stored 0 (.int .i64 x);refine HFIN.out _ _ (out.set 0 x) (by rw[List.length_set,HLK.out];omega) ?_ (((HS2'.out.alloc _).tr hs).own HSW.out h2 (fun q hq=>by injection hq with hq;rw[←hq];exact HQ.out.1));unfold OwI;rw[List.length_set,HLK.out,show vals (out.set 0 x)=(vals out).set 0 (.int .i64 x) by simp[vals,List.map_set]];exact h1)
      have hkk:0<k:=Nat.pos_of_ne_zero hk0;clear hO2 hm0 hkp2 hgq;go_wp2_with (go_at_call 74;refine(pk_any [m0,-1] 2 rfl (by decide) (by decide) g a len cap w2 _ HS22.out).mono ?_;rintro e w3 ⟨x,hx,rfl,hS3⟩;have HF:=hid (HRR.out w3 x hS3);have hfz:=(HKP.out w3 hS3).frozenAt 0;obtain⟨u0,hc0⟩:∃u,w3.cell? ⟨gq,0,none⟩=some u:=⟨_,((HKP.out w3 hS3).cellAt 0 (by omega)).trans (zq0 (by rw[show(vals out).length=out.length by simp[vals],HLK.out];exact hkk))⟩;have hgl:=(zq8 (HKP.out w3 hS3) gq rfl).2;clear hS3 hx);go_ret;exact HF.out
     ·have hri:((r2:Int)==0)=false:=by simp;omega
      have a2:=ownsRow_keep hO2 (S:=Any) ((Keep.refl _ w2).alloc (.cells #[.int .i64 0] 2)) (fun _ _=>trivial);rw[HLK.out]at a2;clear hO2;go_upto_region 10 with fail;go_wp2_with (at_builtin;(refine zq52 _ rfl _ _ 24 rfl W0.heap.size 2 i0 (.int .i64 0) 1 8 Tryz.underlying24 hi hz0 hz1 hz2 rfl (by decide) _ _ _ rfl a2 ⟨w2.heap.size,0,none⟩ 1 1 [.int .i64 0] rfl rfl (zq50 (cs:= #[.int .i64 0]) (t:=2) (fr:=(0,0)) (zq17 w2 _)) (by simp[Value.oneCell']) (by decide) ?c3 ?c4 ?c5 _ rfl ?_));case c3=>unfold maxLen;omega
      case c4=>omega
      case c5=>have:=HS2'.out.2.2.size;simp;omega
      intro g2 cap2 w9 hown2 hgrow2 hat2 hlt2;have HO2:=hid (show OwI W0.heap.size w9 (.slice (some ⟨g2,0,none⟩) (k+1) cap2) (out++[(0:Int)]) from owi_push (by rw[HLK.out];exact hown2));have HS9:=hid (show Sr g a len cap W0 w9 from(HS2'.out.alloc _).own HSW.out hgrow2 (fun q hq=>(zq8 a2 q hq).1));have HRR:=hid (HFIN.out w9 _ (out++[(0:Int)]) (by rw[zq31,HLK.out];exact zq1 _) HO2.out HS9.out);clear hown2 hgrow2 hat2 hlt2 a2;go_wp2_with fail;go_ret;exact HRR.out
   ·have hri:((r:Int)==0)=false:=by simp;omega
    have HRR:=hid (HFIN.out w1 (.slice ax k cx) out (by rw[HLK.out];omega) hO1 HS1'.out);clear hr hO1 hS1 HC;go_wp2_with fail;go_ret;exact HRR.out
end Go.Proofs.YtlmlamcoeegkbaaGreat.OuN
namespace Go.Proofs.YtlmlamcoeegkbaaGreat.OuT
open Go.RowKit Go.Proofs.YtlmlamcoeegkbaaGreat Tow CyA CyB CyC DwT DwB DwD DwK DwS DwU DwW DwX DwZ DxA FcD OuN
def DeoR (w:World)(e:Ending)(w':World):Prop:=∃(x1 x2 x3 aV:Option Addr) (n1 n2 n3 y1 y2 y3 nV cV:Nat) (P:Pres) (l:List Int),e= .returned (.tuple #[.agg #[.slice x1 n1 y1,.slice x2 n2 y2,.slice x3 n3 y3],.slice aV nV cV])∧ValP Any w' (.slice x1 n1 y1) (.slice x2 n2 y2) (.slice x3 n3 y3) P∧SlI Any w' (.slice aV nV cV) l∧Below w.heap.size w w'
theorem deo_any (w:World)(a:Option Addr)(len cap:Nat)(hl:len≤4096)(hR:Rd0 w a len):Calls Tryz.prog 12 #[.slice a len cap] w (DeoR w):=by
 obtain⟨g0,hg0⟩:∃g0,w.heap.size=g0:=⟨_,rfl⟩;obtain⟨w1,hw1⟩:∃w1,w1=w.alloc zbox:=⟨_,rfl⟩;have hk1:Keep Any w w1:=by rw[hw1];exact zqK.alloc _
 have hs1:w1.heap.size=g0+1:=by rw[hw1,←hg0];simp
 have HB1:=hid (show Below w.heap.size w w1 by rw[hw1];exact zqB.alloc zqN _);have hz:w1.heap[g0]?=some zbox:=by rw[hw1,←hg0];exact zq17 w _
 have HC:=hid (from_any w1 a len cap hl (fun i hi=>by
  obtain⟨b,o,z,h1,h3,h4,h5⟩:=hR i hi;exact⟨b,o,z,h1,zq7 h3 hk1.size,by rw[hk1.cell trivial h3];exact h4,h5⟩))
 have HR:=hid (show Rd0 w1 a len from fun i hi=>by
  obtain⟨b,o,z,h1,h3,h4,h5⟩:=hR i hi;exact⟨b,o,z,h1,zq7 h3 hk1.size,by rw[hk1.cell trivial h3];exact h4,h5⟩)
 have HZ:=hid hz;have HS1:=hid hs1;have HG0:=hid hg0;clear hl hR hk1 hz hs1;go_enter Tryz.func12,Tryz.ntmps12;go_upto_region 1 with fail;rw[←hw1];clear hw1 hg0;go_upto_region 3 with(first|(go_at_call 31;refine HC.out.mono ?_;rintro e w2 ⟨g,rfl,hg,hS,hb⟩;have HS2:=hid (show Sr g a len cap w2 w2 from⟨hS,HR.out.rd hb hg,gr_refl _ _⟩);have HB2:=hid hb;have HGG:=hid hg;clear hg hS hb)|(go_at_call 38;refine(d25_any g a len cap w2 HS2.out).mono ?_;rintro e w3 ⟨x1,x2,x3,n1,n2,n3,y1,y2,y3,rfl,hp,hs⟩));obtain⟨P,hP⟩:=DxG.pa_val hp;have hn1:P.os.length=n1∧n1≤1000:=by
  obtain⟨n,hn,h⟩:=hp.1;obtain⟨l,hl,h⟩:=h.sl;obtain⟨_,_,e,_⟩:=slg_form h;obtain⟨_,_,e',_⟩:=slg_form hP.1;injection e with _ e _;injection e' with _ e' _;exact⟨e'.symm,by omega⟩
 obtain⟨gp,hgp⟩:∃gp,w3.heap.size=gp:=⟨_,rfl⟩;obtain⟨w4,hw4⟩:∃w4,w4=w3.alloc (.cells #[.slice x1 n1 y1,.slice x2 n2 y2,.slice x3 n3 y3] 28):=⟨_,rfl⟩;rw[←hw4,hgp];have HS4:=hid (show Sr g a len cap w2 w4 by rw[hw4];exact hs.alloc _);have HP4:=hid (show ValP (fun k=>w2.heap.size≤k) w4 (.slice x1 n1 y1) (.slice x2 n2 y2) (.slice x3 n3 y3) P by
  rw[hw4];exact hP.keep ((Keep.refl _ w3).alloc _))
 have HX4:=hid (show w4.heap[gp]?=some (.cells #[.slice x1 n1 y1,.slice x2 n2 y2,.slice x3 n3 y3] 28 (0,0)) by
  rw[hw4,←hgp];exact zq17 _ _)
 have hgg:w2.heap.size≤gp:=by rw[←hgp];exact hs.2.2.size
 have HS44:=hid (Sr.here HS4.out);have HPW:=hid (fun(W:World) (hS:Sr g a len cap w4 W)=>And.intro ((hS.2.2.block gp (zq10.1 HX4.out).1 (fun e=>by injection e with e;have:=HS2.out.lt;omega)).trans HX4.out)
  (show ValP (fun k=>w2.heap.size≤k) W (.slice x1 n1 y1) (.slice x2 n2 y2) (.slice x3 n3 y3) P from HP4.out.keep (Keep.grown hS.2.2 fun k hk e=>by injection e with e;have:=HS2.out.lt;omega)))
 have HBW:=hid (fun(W:World) (hS:Sr g a len cap w4 W)=>show Below w1.heap.size w1 W from HB2.out.grown (gr_tr HS4.out.2.2 hS.2.2) HB2.out.size (by intro k hk;cases hk;exact HGG.out));have HK:=hid (fun(W:World) (hS:Sr g a len cap w4 W)=>And.intro (((HBW.out W hS).block g0 (by have:=HS1.out;omega)).trans HZ.out) (show g0<W.heap.size by have:=(HBW.out W hS).size;have:=HS1.out;omega));have hwz:w.heap.size≤w1.heap.size:=HB1.out.size;have HF:=hid (fun(W:World) (hS:Sr g a len cap w4 W) (aV:Option Addr) (nV cV:Nat) (l:List Int) (hq:SlI (fun k=>w1.heap.size≤k) W (.slice aV nV cV) l)=>
  show DeoR w (.returned (.tuple #[.agg #[.slice x1 n1 y1,.slice x2 n2 y2,.slice x3 n3 y3],.slice aV nV cV])) (((W.setCell ⟨g0,0,none⟩ (.slice x1 n1 y1)).setCell ⟨g0,1,none⟩ (.slice x2 n2 y2)).setCell ⟨g0,2,none⟩ (.slice x3 n3 y3)) from by
  have hB:Below w.heap.size w W:=HB1.out.trans ((HBW.out W hS).mono hwz);have h0:=HG0.out;have h1:=HS1.out;have h2:=HB2.out.size;have hk:∀S:Nat→Prop,(∀k,S k→g0+1≤k)→Keep S W (((W.setCell ⟨g0,0,none⟩ (.slice x1 n1 y1)).setCell ⟨g0,1,none⟩ (.slice x2 n2 y2)).setCell ⟨g0,2,none⟩ (.slice x3 n3 y3)):=fun S hS=>(((Keep.refl _ W).setCell (fun h=>zq105 _ (hS _ h)) _).setCell (fun h=>zq105 _ (hS _ h)) _).setCell (fun h=>zq105 _ (hS _ h)) _;refine⟨_,_,_,_,_,_,_,_,_,_,_,_,P,l,rfl,((HPW.out W hS).2.keep (hk _ fun k h=>by omega)).mono fun _ _=>trivial,(hq.keep (hk _ fun k h=>by omega)).mono fun _ _=>trivial,?_⟩;exact((hB.setCell (p:=⟨g0,0,none⟩) (by exact Nat.le_of_eq h0) _).setCell (p:=⟨g0,1,none⟩) (by exact Nat.le_of_eq h0) _).setCell (p:=⟨g0,2,none⟩) (by exact Nat.le_of_eq h0) _)
 have HV:=hid (fun(W:World) (hS:Sr g a len cap w4 W)=>vec_any P.os n1 hn1.1 hn1.2 W g a len cap x1 y1 (.slice x2 n2 y2) (.slice x3 n3 y3) (Sr.here hS) ((HPW.out W hS).2.1.mono fun k hk=>by have:=HS2.out.lt;omega));obtain⟨⟨d0,d1,d2⟩,-⟩:=row3f HX4.out;have hgl:=(zq10.1 HX4.out).1;have HNE:=hid (show¬gp=g0 by have h1:=HS1.out;have h3:=HB2.out.size;omega);have hne:=HNE.out;clear hp hs hgp hw4 hwz hgg HC HR hP hn1;go_region_law (first|(go_simp;go_at_call 39;refine(HV.out _ (by first|exact HS44.out|exact HS44.out.drew)).mono ?_;rintro e w8 ⟨v,l,rfl,hv,-, hs⟩;have HS8:=hid (show Sr g a len cap w4 w8 from by first|exact HS44.out.tr hs|exact HS44.out.drew.tr hs);have hq:=(OuN.owi_sl hv);obtain⟨aV,cV,rfl,_,_⟩:=slg_form hq;obtain⟨nV,hnV⟩:∃n,l.length=n:=⟨_,rfl⟩;rw[hnV]at hq ⊢; have HQ:=hid (show SlI (fun k=>w1.heap.size≤k) w8 (.slice aV nV cV) l from hq.mono fun k hk=>by have h1:=HS4.out.2.2.size;have h2:=HB2.out.size;first|omega|(have h3:w4.drew.heap.size=w4.heap.size:=rfl;omega));obtain⟨⟨d0,d1,d2⟩,-⟩:=row3f (HPW.out _ HS8.out).1;have hgl8:=(zq10.1 (HPW.out _ HS8.out).1).1;obtain⟨⟨e0,e1,e2⟩,f0,f1,f2⟩:=row3f (HK.out _ HS8.out).1;have hg1:=(HK.out _ HS8.out).2;clear hv hs hq hnV)|fail);all_goals
  go_wp2_with fail;have hpf:=HF.out _ HS8.out _ _ _ _ HQ.out;obtain⟨⟨z0,z1,z2⟩,-⟩:=row3f (put3 (x:=.slice x1 n1 y1) (y:=.slice x2 n2 y2) (z:=.slice x3 n3 y3) (HK.out _ HS8.out).1);exact zq12 (v:=.tuple #[.agg #[.slice x1 n1 y1,.slice x2 n2 y2,.slice x3 n3 y3],.slice aV nV cV]) (by simp[results,Tryz.results12,go_sem,z0,z1,z2]) rfl (by first|exact hpf|exact DeoR.dr hpf)
end Go.Proofs.YtlmlamcoeegkbaaGreat.OuT
namespace Go.Proofs.YtlmlamcoeegkbaaGreat.OuK
open Go.RowKit Go.Proofs.YtlmlamcoeegkbaaGreat Tow Val Grps NumT SpecB SpecS
open Go.Proofs.YtlmlamcoeegkbaaGreat.SfB (cnj)
open Go.Proofs.YtlmlamcoeegkbaaGreat.ImplD (NN)
open Go.Proofs.YtlmlamcoeegkbaaGreat.CyE (TrueR slg_form areElements_any)
open Go.Proofs.YtlmlamcoeegkbaaGreat.CyF (El_tail' row3')
theorem sl2_two {w:World}{g:Nat}{vx vy:Value}{l m:List Int}(h:w.cell? ⟨g,0,none⟩=some vx)(h':w.cell? ⟨g,1,none⟩=some vy)(hg:g<w.heap.size)(hx:SlI Any w vx l)(hy:SlI Any w vy m):Sl2 Any w (.slice (some ⟨g,0,none⟩) 2 2) [l,m]:=by
 refine⟨some ⟨g,0,none⟩,2,rfl,zq1 _,by unfold maxLen;omega,by simp,fun i r hr=>?_⟩
 match i,hr with
 |0,hr=>simp at hr;subst hr;exact⟨g,0,rfl,trivial,hg,vx,h,hx⟩
 |1,hr=>simp at hr;subst hr;exact⟨g,0,rfl,trivial,hg,vy,h',hy⟩
def CnjR (T:Tw)(x y:List Nat)(w:World)(e:Ending)(w':World):Prop:=
 ∃v,e= .returned (.tuple #[v,.int .i64 0])∧SlI Any w' v (ints (cnj T x y))∧Below w.heap.size w w'
theorem conjugate_any (T:Tw)(hT:Wf T)(hs:Small T)(hg:Tow.Good T)(hG:Grp (ofTw T))(w:World)(vO vP vC vx vy:Value)(x y:List Nat)(hP:ValP Any w vO vP vC (ofTw T))(hx:SlI Any w vx (ints x))(hy:SlI Any w vy (ints y))(hnx:NN vx)(hny:NN vy)(hE:El T x)(hF:El T y):
  Calls Tryz.prog 22 #[.agg #[vO,vP,vC],vx,vy] w (CnjR T x y w):=by
 obtain⟨aX,cX,rfl,_,_⟩:=slg_form hx;obtain⟨aY,cY,rfl,_,_⟩:=slg_form hy;obtain⟨W0,hW0⟩:∃W0,W0=w.alloc (.cells #[vO,vP,vC] 28):=⟨_,rfl⟩;have hl0:w.heap.size<W0.heap.size:=by rw[hW0];simp
 have hb0:Below w.heap.size w W0:=by rw[hW0];exact zqB.alloc zqN _
 obtain⟨e0,e1,e2⟩:=row3' (show W0.heap[w.heap.size]?=some (.cells #[vO,vP,vC] 28 (0,0)) by rw[hW0];exact zq17 _ _);have HPT:=hid (show PtrP Any W0 w.heap.size 0 (ofTw T) from⟨trivial,hl0,_,_,_,e0,e1,e2,hP.keep (Keep.of_below hb0)⟩);have HX:=hid (hx.keep (Keep.of_below hb0));have HY:=hid (hy.keep (Keep.of_below hb0));obtain⟨W1,hW1⟩:∃W1,W1=W0.alloc (.cells #[.slice aX (ints x).length cX,.slice aY (ints y).length cY] 24):=⟨_,rfl⟩;have hb1:Below W0.heap.size W0 W1:=by rw[hW1];exact zqB.alloc zqN _
 have HPT1:=hid (HPT.out.keep (Keep.of_below hb1));have HX1:=hid (HX.out.keep (Keep.of_below hb1));have HY1:=hid (HY.out.keep (Keep.of_below hb1));have HB1:=hid (hb0.trans (hb1.mono hb0.size));have HAE:=hid (areElements_any W1 w.heap.size 0 (ofTw T) (.slice (some ⟨W0.heap.size,0,none⟩) 2 2) [ints x,ints y] HPT1.out (sl2_two (by rw[hW1];exact zq15 _ _ _ #[.slice aX (ints x).length cX,.slice aY (ints y).length cY] _ (0,0) (zq17 _ _)) (by rw[hW1];exact zq15 _ _ _ #[.slice aX (ints x).length cX,.slice aY (ints y).length cY] _ (0,0) (zq17 _ _)) (by rw[hW1];simp) HX1.out HY1.out) hG (fun l hl=>by
  rcases zq70.1 hl with rfl|hl
  ·exact El_tail' hE
  ·rw[zq54.1 hl];exact El_tail' hF))
 have HOO:=hid (fun W h1 h2 h3=>OuG.conj_any T hT hs hg W w.heap.size 0 _ _ x y h1 h2 hnx h3 hny hE hF);clear e0 e1 e2 hP hx hy hb1 hb0 hT hs hg hG hE hF hnx hny;go_enter Tryz.func22,Tryz.ntmps22;go_upto_region 1 with fail;rw[←hW0];clear hW0;go_wp2_with fail;rw[←hW1];clear hW1;refine HAE.out.mono ?_;rintro e w2 ⟨rfl,hb2⟩;have HB2:=hid (HB1.out.trans (hb2.mono HB1.out.size));have HOC:=hid (HOO.out w2 (HPT1.out.keep (Keep.of_below hb2)) (HX1.out.keep (Keep.of_below hb2)) (HY1.out.keep (Keep.of_below hb2)));clear hb2 HAE HOO;go_wp2_with fail;refine HOC.out.mono ?_;rintro e w3 ⟨g,cap,rfl,hv,hb3⟩;obtain⟨n,hn⟩:∃n,(ints (cnj T x y)).length=n:=⟨_,rfl⟩;rw[hn]at hv ⊢;clear hn;have HR:=hid (show CnjR T x y w (.returned (.tuple #[.slice (some ⟨g,0,none⟩) n cap,.int .i64 0])) w3 from⟨_,rfl,hv.sl.mono (fun _ _=>trivial),HB2.out.trans (hb3.mono HB2.out.size)⟩);clear hb3 hv HOC;go_wp2_with fail;exact zq12 (v:=.tuple #[.slice (some ⟨g,0,none⟩) n cap,.int .i64 0]) (by simp[results,Tryz.results22,go_sem]) rfl HR.out
end Go.Proofs.YtlmlamcoeegkbaaGreat.OuK
namespace Go.Proofs.YtlmlamcoeegkbaaGreat.SfP
open Go.RowKit Go.Proofs.YtlmlamcoeegkbaaGreat Tow CyA
open Go.Proofs.YtlmlamcoeegkbaaGreat.SpecB (Any)
def EqR (b:Bool)(w:World)(e:Ending)(w':World):Prop:=e= .returned (.bool b)∧Below w.heap.size w w'
theorem take_more {α:Type}{l l':List α}{k:Nat}{x:α}(h:l.take k=l'.take k)(h1:l[k]?=some x)(h2:l'[k]?=some x):l.take (k+1)=l'.take (k+1):=by rw[zq69,zq69,h,h1,h2]
theorem take_all {α:Type}{l l':List α}{n:Nat}(h:l.take n=l'.take n)(h1:l.length=n)(h2:l'.length=n):l=l':=by
 rwa[zq90 (Nat.le_of_eq h1),zq90 (Nat.le_of_eq h2)]at h
theorem ne_at {α:Type}{l l':List α}{k:Nat}{x y:α}(h1:l[k]?=some x)(h2:l'[k]?=some y)(h:¬x=y):¬l=l':=fun e=>by
 subst e;rw[h1,zq42]at h2;exact h h2
theorem eqI_any (w:World)(va vb:Value)(l l':List Int)(ha:SlI Any w va l)(hb:SlI Any w vb l'):Calls Tryz.prog 24 #[va,vb] w (EqR (decide (l=l')) w):=by
 obtain⟨aA,cA,rfl,hlA,hmA⟩:=slg_form ha;obtain⟨aB,cB,rfl,hlB,hmB⟩:=slg_form hb;obtain⟨n,hn⟩:∃n,l.length=n:=⟨_,rfl⟩;obtain⟨m,hm⟩:∃m,l'.length=m:=⟨_,rfl⟩;have HA:=hid ha;have HB:=hid hb;have HN:=hid hn;have HM:=hid hm;rw[hn]at HA hlA ⊢;rw[hm]at HB hlB ⊢;have hn63:(n:Int)≤9223372036854775807:=by unfold maxLen at hmA;omega
 clear ha hb hn hm hmA hmB hlA hlB;go_enter Tryz.func24,Tryz.ntmps24;by_cases hnm:n=m
 ·subst hnm;have hl2:((n:Int) !=(n:Int))=false:=by simp
  go_wp2_with fail;go_loopw [5] (fun iv wr=>∃k:Nat,k≤n∧iv= .int .i64 (k:Int)∧Hid (l.take k=l'.take k)∧Hid (Below w.heap.size w wr)) (fun iv _=>n-(intOf iv).toNat);case atStart=>exact⟨0,zq4 _,rfl,hid rfl,hid zqB⟩
  case round=>
   obtain⟨k,hk,rfl,hT,hB⟩:=hrel;by_cases hlt:k<n
   ·obtain⟨x,hx⟩:∃x,l[k]?=some x:=⟨_,zq0 (by rw[HN.out];omega)⟩;obtain⟨y,hy⟩:∃x,l'[k]?=some x:=⟨_,zq0 (by rw[HM.out];omega)⟩;obtain⟨bA,oA,u,rfl,_,hbA,hcA,rfl⟩:=slg_get HA.out hx;obtain⟨bB,oB,v,rfl,_,hbB,hcB,rfl⟩:=slg_get HB.out hy;have hkB:=Keep.of_below (S:=Any) hB.out;have hcA':=(hkB.cell (b:=bA) (o:=oA+k) trivial hbA).trans hcA;have hcB':=(hkB.cell (b:=bB) (o:=oB+k) trivial hbB).trans hcB;have hbA':=zq7 hbA hkB.size;have hbB':=zq7 hbB hkB.size;have hki:(k:Int)<(n:Int):=by omega
    have hki0:(0:Int)≤(k:Int):=by omega
    have HX:=hid (And.intro hx hy);clear hx hy hcA hcB hkB;by_cases hxy:x=y
    ·subst hxy;have hxx:(x !=x)=false:=by simp
     go_wp2_with fail;go_region_held3 (fun w'=>(∀b o,b<wr.heap.size→w'.cell? ⟨b,o,none⟩=wr.cell? ⟨b,o,none⟩)∧Keep (fun _=>True) wr w')
      (first|exact ks_mk (by repeat(first|exact zqK.drew|exact Keep.refl _ _|refine Keep.trans ?_ (Keep.of_below (by assumption)))))
      (fail)
     rename_i hHd;clear hHd;have HB6:=hid ((hB.out).drew);clear hcA' hcB' hB;go_wp2_with fail;go_roundw;case rel=>exact⟨k+1,by omega,by go_num,hid (take_more hT.out HX.out.1 HX.out.2),HB6⟩
     case measure=>simp[intOf];omega
    ·have hxx:(x !=y)=true:=by simp[hxy]
     have HR:=hid (show EqR (decide (l=l')) w (.returned (.bool false)) wr.drew from⟨by rw[zq67 (ne_at HX.out.1 HX.out.2 hxy)],hB.out.drew⟩);clear hxy;go_wp2_with fail;go_region_held3 (fun w'=>(∀b o,b<wr.heap.size→w'.cell? ⟨b,o,none⟩=wr.cell? ⟨b,o,none⟩)∧Keep (fun _=>True) wr w')
      (first|exact ks_mk (by repeat(first|exact zqK.drew|exact Keep.refl _ _|refine Keep.trans ?_ (Keep.of_below (by assumption)))))
      (fail)
     rename_i hHd;clear hHd;go_wp2_with fail;go_ret;exact HR.out
   ·obtain rfl:k=n:=by omega
    have HR:=hid (show EqR (decide (l=l')) w (.returned (.bool true)) wr from⟨by rw[zq83 (take_all hT.out HN.out HM.out)],hB.out⟩);clear hB hT;go_wp2_with fail;go_ret;exact HR.out
 ·have hl2:((n:Int) !=(m:Int))=true:=by simp;omega
  have HR:=hid (show EqR (decide (l=l')) w (.returned (.bool false)) w from⟨by rw[zq67 (fun e=>hnm (by rw[←HN.out,←HM.out,e]))],zq3 _ _⟩);clear hnm;go_wp2_with fail;go_ret;exact HR.out
theorem eq2_any (w:World)(va vb:Value)(l l':List (List Int))(ha:Sl2 Any w va l)(hb:Sl2 Any w vb l'):Calls Tryz.prog 15 #[va,vb] w (EqR (decide (l=l')) w):=by
 obtain⟨aA,cA,rfl,hlA,hmA⟩:=slg_form ha;obtain⟨aB,cB,rfl,hlB,hmB⟩:=slg_form hb;obtain⟨n,hn⟩:∃n,l.length=n:=⟨_,rfl⟩;obtain⟨m,hm⟩:∃m,l'.length=m:=⟨_,rfl⟩;have HA:=hid ha;have HB:=hid hb;have HN:=hid hn;have HM:=hid hm;have HI:=hid (fun W u v x y h1 h2=>eqI_any W u v x y h1 h2);rw[hn]at HA hlA ⊢;rw[hm]at HB hlB ⊢;have hn63:(n:Int)≤9223372036854775807:=by unfold maxLen at hmA;omega
 clear ha hb hn hm hmA hmB hlA hlB;go_enter Tryz.func15,Tryz.ntmps15;by_cases hnm:n=m
 ·subst hnm;have hl2:((n:Int) !=(n:Int))=false:=by simp
  go_wp2_with fail;go_loopw [5] (fun iv wr=>∃k:Nat,k≤n∧iv= .int .i64 (k:Int)∧Hid (l.take k=l'.take k)∧Hid (Below w.heap.size w wr)) (fun iv _=>n-(intOf iv).toNat);case atStart=>exact⟨0,zq4 _,rfl,hid rfl,hid zqB⟩
  case round=>
   obtain⟨k,hk,rfl,hT,hB⟩:=hrel;by_cases hlt:k<n
   ·obtain⟨x,hx⟩:∃x,l[k]?=some x:=⟨_,zq0 (by rw[HN.out];omega)⟩;obtain⟨y,hy⟩:∃x,l'[k]?=some x:=⟨_,zq0 (by rw[HM.out];omega)⟩;obtain⟨bA,oA,u,rfl,_,hbA,hcA,hu⟩:=slg_get HA.out hx;obtain⟨bB,oB,v,rfl,_,hbB,hcB,hv⟩:=slg_get HB.out hy;have hkB:=Keep.of_below (S:=Any) hB.out;have hcA':=(hkB.cell (b:=bA) (o:=oA+k) trivial hbA).trans hcA;have hcB':=(hkB.cell (b:=bB) (o:=oB+k) trivial hbB).trans hcB;have hbA':=zq7 hbA hkB.size;have hbB':=zq7 hbB hkB.size;have hki:(k:Int)<(n:Int):=by omega
    have hki0:(0:Int)≤(k:Int):=by omega
    have HX:=hid (And.intro hx hy);have HUU:=hid (SlI.keep hu hkB);have HVV:=hid (SlI.keep hv hkB);clear hx hy hcA hcB hkB hu hv;by_cases hxq:x=y
    ·have hxy:decide (x=y)=true:=zq83 hxq;have HXY:=hid hxq;clear hxq;go_wp2_with fail;go_region_held3 (fun w'=>(∀b o,b<wr.heap.size→w'.cell? ⟨b,o,none⟩=wr.cell? ⟨b,o,none⟩)∧Keep (fun _=>True) wr w')
      (first|exact ks_mk (by repeat(first|exact zqK.drew|exact Keep.refl _ _|refine Keep.trans ?_ (Keep.of_below (by assumption)))))
      (first|(go_at_call 24;refine(HI.out _ u v x y (HUU.out.keep (by repeat(first|exact zqK.drew|exact Keep.refl _ _))) (HVV.out.keep (by repeat(first|exact zqK.drew|exact Keep.refl _ _)))).mono ?_;rintro e w6 ⟨rfl,hb6⟩;rw[hxy]))
     rename_i hHd;clear hHd;have HB6:=hid (hB.out.trans ((((zq3 wr.heap.size wr).drew).trans hb6).mono hB.out.size));clear hcA' hcB' hB hb6;go_wp2_with fail;go_roundw;case rel=>exact⟨k+1,by omega,by go_num,hid (take_more hT.out HX.out.1 (by rw[HXY.out];exact HX.out.2)),HB6⟩
     case measure=>simp[intOf];omega
    ·have hxy:decide (x=y)=false:=zq67 hxq;have HF:=hid (show decide (l=l')=false from zq67 (ne_at HX.out.1 HX.out.2 hxq));clear hxq;go_wp2_with fail;go_region_held3 (fun w'=>(∀b o,b<wr.heap.size→w'.cell? ⟨b,o,none⟩=wr.cell? ⟨b,o,none⟩)∧Keep (fun _=>True) wr w')
      (first|exact ks_mk (by repeat(first|exact zqK.drew|exact Keep.refl _ _|refine Keep.trans ?_ (Keep.of_below (by assumption)))))
      (first|(go_at_call 24;refine(HI.out _ u v x y (HUU.out.keep (by repeat(first|exact zqK.drew|exact Keep.refl _ _))) (HVV.out.keep (by repeat(first|exact zqK.drew|exact Keep.refl _ _)))).mono ?_;rintro e w6 ⟨rfl,hb6⟩;rw[hxy]))
     rename_i hHd;clear hHd;have HR:=hid (show EqR (decide (l=l')) w (.returned (.bool false)) w6 from⟨by rw[HF.out],hB.out.trans ((((zq3 wr.heap.size wr).drew).trans hb6).mono hB.out.size)⟩);clear hcA' hcB' hB hb6;go_wp2_with fail;go_ret;exact HR.out
   ·obtain rfl:k=n:=by omega
    have HR:=hid (show EqR (decide (l=l')) w (.returned (.bool true)) wr from⟨by rw[zq83 (take_all hT.out HN.out HM.out)],hB.out⟩);clear hB hT;go_wp2_with fail;go_ret;exact HR.out
 ·have hl2:((n:Int) !=(m:Int))=true:=by simp;omega
  have HR:=hid (show EqR (decide (l=l')) w (.returned (.bool false)) w from⟨by rw[zq67 (fun e=>hnm (by rw[←HN.out,←HM.out,e]))],zq3 _ _⟩);clear hnm;go_wp2_with fail;go_ret;exact HR.out
end Go.Proofs.YtlmlamcoeegkbaaGreat.SfP
namespace Go.Proofs.YtlmlamcoeegkbaaGreat.OuV
open Go.RowKit Go.Proofs.YtlmlamcoeegkbaaGreat Tow NumT GenD SpecR CyC FindA OrbC CoA OuL OuM OuP OuT OuU
open Go.Proofs.YtlmlamcoeegkbaaGreat.SpecB (Any)
open Go.Proofs.YtlmlamcoeegkbaaGreat.DwB (row3f)
open Go.Proofs.YtlmlamcoeegkbaaGreat.CyE (slg_form)
open Go.Proofs.YtlmlamcoeegkbaaGreat.SfB (cnj cnj_El)
theorem big_any (a:Option Addr)(len cap:Nat)(w:World):Calls Tryz.prog 6 #[.slice a len cap] w (fun e w'=>e= .returned (.bool (decide (4096<len)))∧w'=w):=by
 by_cases h:4096<len
 ·have hd:(len:Int)>4096:=by omega
  rw[zq83 h];go_enter Tryz.func6,Tryz.ntmps6;go_wp2_with fail;go_ret;exact⟨rfl,rfl⟩
 ·have hd:¬(len:Int)>4096:=by omega
  rw[zq67 h];go_enter Tryz.func6,Tryz.ntmps6;go_wp2_with fail;go_ret;exact⟨rfl,rfl⟩
theorem eq2_yes (w:World)(va vb:Value)(l:List (List Int))(ha:Sl2 Any w va l)(hb:Sl2 Any w vb l):Calls Tryz.prog 15 #[va,vb] w (SfP.EqR true w):=by
 have h:=SfP.eq2_any w va vb l l ha hb;rwa[zq83 rfl]at h
def Yes (w:World)(e:Ending)(w':World):Prop:=e= .returned (.bool true)∧Below w.heap.size w w'
theorem law (a:Option Addr)(len cap:Nat)(w:World)(hR:Rd0 w a len):
  Calls Tryz.prog 4 #[.slice a len cap] w (Yes w):=by
 have HBG:=hid (big_any a len cap w);by_cases hbig:4096<len
 ·rw[zq83 hbig]at HBG;clear hR hbig;go_enter Tryz.func4,Tryz.ntmps4;go_wp2_with (go_at_call 6;refine HBG.out.mono ?_;rintro e w1 ⟨rfl,rfl⟩);go_ret;exact⟨rfl,zq3 _ _⟩
 ·rw[zq67 hbig]at HBG;have hl4:len≤4096:=by omega
  have HDR:=hid (deo_any w a len cap hl4 hR);have HL4:=hid hl4;clear hbig hl4;go_enter Tryz.func4,Tryz.ntmps4;go_upto_region 4 with(first|(go_at_call 6;refine HBG.out.mono ?_;rintro e w1 ⟨rfl,hw1⟩;have HW1:=hid hw1;clear hw1)|(go_at_call 12;rw[HW1.out];refine HDR.out.mono ?_;rintro e w2 ⟨x1,x2,x3,aV,n1,n2,n3,y1,y2,y3,nV,cV,P,l,rfl,hP,hX,hb2⟩));obtain⟨g,hg⟩:∃g,w2.heap.size=g:=⟨_,rfl⟩;obtain⟨W3,hW3⟩:∃W3,W3=w2.alloc (.cells #[.slice x1 n1 y1,.slice x2 n2 y2,.slice x3 n3 y3] 28):=⟨_,rfl⟩;have hb23:Below w2.heap.size w2 W3:=by rw[hW3];exact zqB.alloc zqN _
  have hs3:W3.heap.size=g+1:=by rw[hW3,←hg];simp
  have hp3:W3.heap[g]?=some (.cells #[.slice x1 n1 y1,.slice x2 n2 y2,.slice x3 n3 y3] 28 (0,0)):=by rw[hW3,←hg];exact zq17 w2 _
  have hb3:Below w.heap.size w W3:=hb2.trans (hb23.mono hb2.size);have HW:=hid (fun(W:World) (hb:Below W3.heap.size W3 W)=>And.intro (row3f ((hb.block g (by omega)).trans hp3)).1 (And.intro (show g<W.heap.size by have:=hb.size;omega) (And.intro (hb3.trans (hb.mono hb3.size)) (And.intro
   ((hP.keep (Keep.of_below (S:=Any) hb23)).keep (Keep.of_below (S:=Any) hb)) (And.intro ((hX.keep (Keep.of_below (S:=Any) hb23)).keep (Keep.of_below (S:=Any) hb)) (rd0_keep hR (hb3.trans (hb.mono hb3.size))))))))
  rw[←hW3,hg];clear hW3 hg hb23 hp3 hs3 hb3 hP hX hb2 hR;obtain⟨⟨p0,p1,p2⟩,hgl,-, vp,vx,-⟩:=HW.out W3 zqB;have HC1:=hid (OrbF.impl_orbit W3 _ _ _ _ P l vp vx);clear vp vx;go_upto_region 5 with(go_at_call 13;refine HC1.out.mono ?_;rintro e w4 ⟨v,k,res,rfl,hc,he,hb4⟩;have HC:=hid hc;obtain⟨aR,cR,rfl,_,_⟩:=slg_form (elts_sl he);obtain⟨nR,hnR⟩:∃n,res.length=n:=⟨_,rfl⟩;rw[hnR]at he ⊢; have HNR:=hid hnR;have HE4:=hid he;have HB4:=hid hb4;obtain⟨⟨p0,p1,p2⟩,hgl,-, vp,vx,-⟩:=HW.out w4 hb4);have HC2:=hid (OrbC.spec_orbit w4 _ _ _ _ P l vp vx);clear hc he hnR hb4 vp vx HC1;go_upto_region 6 with(go_at_call 14;refine HC2.out.mono ?_;rintro e w5 ⟨v',k',res',rfl,hc,hs5,hb5⟩;obtain⟨hres',rfl⟩:=OrbF.orb_one hc HC.out;rw[←hres']at hs5;obtain⟨aS,cS,rfl,_,_⟩:=slg_form hs5;obtain⟨nS,hnS⟩:∃n,res.length=n:=⟨_,rfl⟩;rw[hnS]at hs5 ⊢; have hb35:=HB4.out.trans (hb5.mono HB4.out.size);have HB5:=hid hb35;have HE5:=hid (show Elts W3.heap.size w5 (.slice aR nR cR) res from by obtain⟨L,q1,q2,q3⟩:=HE4.out;exact⟨L,q1.keep hb5,q2,q3⟩);have HEQ:=hid (eq2_yes w5 (.slice aR nR cR) (.slice aS nS cS) res (elts_sl HE5.out) (Sl2.mono hs5 fun _ _=>trivial)));have e2:(k !=k)=false:=by simp
  clear hs5 hc hnS hb5 hb35 HC2 HE4 hres';go_upto_region 8 with(go_at_call 15;refine HEQ.out.mono ?_;rintro e w6 ⟨rfl,hb6⟩);have HB6:=hid (HB5.out.trans (hb6.mono HB5.out.size));have HE6:=hid (show Elts W3.heap.size w6 (.slice aR nR cR) res from by obtain⟨L,q1,q2,q3⟩:=HE5.out;exact⟨L,q1.keep hb6,q2,q3⟩);have HBW6:=hid (HW.out w6 HB6.out).2.2.1;clear hb6 HEQ HE5 p0 p1 p2 hgl;by_cases hk:k=0
  ·subst hk;obtain⟨T,x,eP,el,gT,hxE,h27,hres⟩:=orb_zero HC.out;subst eP;subst el;obtain⟨hT,hsT,hgT,hpT⟩:=SpecX.grp_parts gT;obtain⟨no,hno,hoy⟩:=orders gT hxE;obtain⟨⟨p0,p1,p2⟩,hgl,-, vp,vx,-⟩:=HW.out w6 HB6.out;have hnR0:0<nR:=by rw[←HNR.out];exact res_pos gT hxE hres
   have hnR27:nR≤27:=by rw[←HNR.out];exact res_le hres h27
   have HC3:=hid (ImplZ.count_any w6 _ _ _ _ vp);have HDV:=hid (fun n k hc=>res_dvd gT hxE hres h27 (n:=n) (k:=k) hc);have HOO:=hid (fun W pO pP pC v y h1 h2 h3 h4=>CyF.elementOrder_any T hT hsT hgT gT W pO pP pC v y no h1 h2 h3 h4);have HOX:=hid (And.intro hxE hno);have HOY:=hid hoy;have HCL:=hid (fun n k hc=>cls gT h27 (n:=n) (k:=k) hc);have HSZ:=hid (fun W pO pP pC h=>OuJ.sizes_any T gT (by omega) W pO pP pC h);have HCJ:=hid (fun W pO pP pC va vb y z h1 h2 h3 h4 h5 h6 h7=>OuK.conjugate_any T hT hsT hgT gT W pO pP pC va vb y z h1 h2 h3 h4 h5 h6 h7);have HSO:=hid (fun i v h=>res_some gT hres (i:=i) (v:=v) h);have HME:=hid (fun z hz h=>res_mem gT hres (z:=z) hz h);have HCN:=hid (fun y z (hy:El T y) (hz:El T z) (h:RO T x y)=>And.intro (cnj_El hT hgT hz hy) (h.conj hT hgT hz));have HTT:=hid (show T.length≤6∧∀(i:Nat) (L:Lv),T[i]?=some L→2≤L.o from⟨hsT.1,fun i L h=>by have:=hpT L (zq5 h);omega⟩);clear hT hsT hgT hpT hno hoy vp vx gT hxE h27 hres HC;go_upto_region 11 with(go_at_call 16;refine HC3.out.mono ?_;rintro e w7 ⟨n,k,rfl,hcv,hb7⟩;obtain⟨rfl,m,rfl,hdv⟩:=HDV.out _ _ hcv;have HB7:=hid (HB6.out.trans (hb7.mono HB6.out.size));have HE7:=hid (show Elts W3.heap.size w7 (.slice aR nR cR) res from by obtain⟨L,q1,q2,q3⟩:=HE6.out;exact⟨L,q1.keep hb7,q2,q3⟩);obtain⟨⟨p0,p1,p2⟩,hgl,-, vp,vx,-⟩:=HW.out w7 HB7.out);rw[HNR.out]at hdv;have HDM:=hid hdv;have HC4:=hid (HOO.out w7 _ _ _ _ x vp vx HOX.out.1 HOX.out.2);clear hcv hdv hb7 vp vx HC3 HE6 HDV;go_upto_region 12 with(go_at_call 17;refine HC4.out.mono ?_;rintro e w8 ⟨rfl,hb8⟩;have HB8:=hid (HB7.out.trans (hb8.mono HB7.out.size));have HE8:=hid (show Elts W3.heap.size w8 (.slice aR nR cR) res from by obtain⟨L,q1,q2,q3⟩:=HE7.out;exact⟨L,q1.keep hb8,q2,q3⟩);obtain⟨⟨p0,p1,p2⟩,hgl,-, vp,vx,-⟩:=HW.out w8 HB8.out);have HC5:=hid (CoB.impl_co w8 _ _ _ (ofTw T) vp);clear hb8 vp vx HC4 HE7;go_upto_region 13 with(go_at_call 18;refine HC5.out.mono ?_;rintro e w9 ⟨q,k,rfl,hov,hb9⟩;obtain⟨rfl,q,rfl,hq1,hq27,hqC⟩:=HCL.out _ _ hov;have HQC:=hid hqC;have HB9:=hid (HB8.out.trans (hb9.mono HB8.out.size));have HE9:=hid (show Elts W3.heap.size w9 (.slice aR nR cR) res from by obtain⟨L,q1,q2,q3⟩:=HE8.out;exact⟨L,q1.keep hb9,q2,q3⟩);obtain⟨⟨p0,p1,p2⟩,hgl,-, vp,vx,-⟩:=HW.out w9 HB9.out);have HC6:=hid (HSZ.out w9 _ _ _ vp);clear hov hqC hb9 vp vx HC5 HE8 HCL HSZ;go_upto_region 14 with(go_at_call 19;refine HC6.out.mono ?_;rintro e w10 ⟨aC,nC,cC,C,rfl,hcov,hCl,hb10⟩;have hqn:q≤nC:=(by rw[←hCl];exact HQC.out C hcov);have HB10:=hid (HB9.out.trans (hb10.mono HB9.out.size));have HE10:=hid (show Elts W3.heap.size w10 (.slice aR nR cR) res from by obtain⟨L,q1,q2,q3⟩:=HE9.out;exact⟨L,q1.keep hb10,q2,q3⟩);obtain⟨⟨p0,p1,p2⟩,hgl,-, vp,vx,hrd⟩:=HW.out w10 HB10.out);clear hcov hCl hb10 HC6 HE9 HQC;have hmod:(m:Int)%(nR:Int)=0:=Int.emod_eq_zero_of_dvd (Int.natCast_dvd_natCast.2 HDM.out);have hq0:(1:Int)≤(q:Int):=by omega
   have hnq:¬nC<q:=by omega
   have hn0:¬nR=0:=by omega
   have hnb:((nR:Int)==0)=false:=zq79.2 (by omega);have hq9:((q:Int)<1)=False:=eq_false (by omega);have hRO:=roll_any w10 a len cap HL4.out hrd;obtain⟨v0,hv0⟩:∃v,res[0]?=some v:=⟨_,zq0 (by rw[HNR.out];exact hnR0)⟩;obtain⟨gL,_,_,eA,_⟩:=elts_get HE10.out hv0;subst eA;have HRO:=hid hRO;have HN1:=hid (show T.length=n1∧n1≤6 by
    obtain⟨_,_,e,_⟩:=slg_form vp.os;injection e with _ e _;rw[ofTw_os]at e;exact⟨e.symm,by have:=HTT.out.1;omega⟩)
   have HOS:=hid vp.os;have HRD:=hid hrd;have HQ:=hid (fun(W:World) (hb:Below w10.heap.size w10 W)=>And.intro (HW.out W (HB10.out.trans (hb.mono HB10.out.size))) (show Elts W3.heap.size W (.slice (some ⟨gL,0,none⟩) nR cR) res from by obtain⟨L,q1,q2,q3⟩:=HE10.out;exact⟨L,q1.keep hb,q2,q3⟩));clear hqn hRO hrd hv0 vp vx;go_upto_region 16 with fail;clear hmod hq0 hnq hq1 hq27 hnb hq9;go_upto_region 17 with(go_at_call 20;refine HRO.out.mono ?_;rintro e w11 ⟨gd,rfl,hgd,hD,hb11⟩);have HGD:=hid hgd;have HB11:=hid hb11;have HBE:=hid (below_any nR hnR0 w11 gd a len cap hD (HRD.out.rd hb11 hgd));clear hgd hb11 hD HRO p0 p1 p2 hgl;go_upto_region 18 with(go_at_call 21;refine HBE.out.mono ?_;rintro e w12 ⟨r,rfl,hr,hD12,hg12⟩;have hb12:=HB11.out.grown hg12 HB11.out.size (by intro k hk;cases hk;exact HGD.out);obtain⟨vr,hvr⟩:∃v,res[r]?=some v:=⟨_,zq0 (by rw[HNR.out];exact hr)⟩;obtain⟨y,rfl,hyE,hyR⟩:=HSO.out _ _ hvr;obtain⟨gL',gr,cr,eA,hgL,hcL,hyS⟩:=elts_get (HQ.out w10 zqB).2 hvr;injection eA with eA;injection eA with eA;subst eA;obtain⟨nY,hnY⟩:∃n,(ints y).length=n:=⟨_,rfl⟩;rw[hnY]at hcL hyS;have hcL2:=((Keep.of_below (S:=Any) hb12).cell trivial hgL).trans hcL;have hgL2:=zq7 hgL hb12.size;clear hcL;have HY:=hid (And.intro hyE (And.intro hyR hyS));have HB12:=hid hb12;have HD12:=hid hD12);have HDW:=hid (fun(W:World) (hb:Below w10.heap.size w10 W) (hD:Dc W gd a len cap)=>draw_any T HTT.out.2 n1 HN1.out.1 HN1.out.2 W gd a len cap x1 y1 (.slice x2 n2 y2) (.slice x3 n3 y3) hD (HRD.out.rd hb HGD.out) ((SlI.mono (OuJ.SlI_in HOS.out) (by intro k hk e;have h1:=HGD.out;have h2:=hk.2;omega)).keep (Keep.of_below hb)));obtain⟨⟨⟨p0,p1,p2⟩,hgl,-, -, -, -⟩,-⟩:=HQ.out w12 hb12;have HCW:=hid (fun(W:World) (v:Value) (d:List Nat) (hb:Below w10.heap.size w10 W) (h1:SlI Any W v (ints d)) (h2:ImplD.NN v) (h3:El T d)=>HCJ.out W _ _ _ _ v y d (HQ.out W hb).1.2.2.2.1 (hyS.keep (Keep.of_below (S:=Any) hb)) h1 (ImplD.NN_some _ _ _) h2 hyE h3);clear hr hD12 hg12 hb12 hvr hyE hyR hcL2 hyS HBE;go_cut [19,20] (fun zv kv W=>∃(az:Option Addr) (nz cz:Nat) (z:List Nat),zv= .slice az nz cz∧kv= .int .i64 0∧Hid (SlI Any W (.slice az nz cz) (ints z)∧El T z∧RO T x z∧Below w10.heap.size w10 W));case first=>
    go_region_law (first|(go_simp;go_at_call 23;refine(HDW.out _ (by first|exact HB12.out|exact HB12.out.drew) (by first|exact HD12.out|exact HD12.out)).mono ?_;rintro e w13 ⟨gv,cv,d,rfl,hdO,hdE,-, hg13⟩;obtain⟨nD,hnD⟩:∃n,d.length=n:=⟨_,rfl⟩;rw[hnD]at hdO ⊢; have HB13:=hid (show Below w10.heap.size w10 w13 from by first|exact HB12.out.grown hg13 HB12.out.size (by intro k hk;cases hk;exact HGD.out)|exact HB12.out.drew.grown hg13 HB12.out.size (by intro k hk;cases hk;exact HGD.out));have HDO:=hid (And.intro (DwD.sl_own hdO (by simp[ints])) hdE);obtain⟨⟨⟨p0,p1,p2⟩,hgl,-, vp,-, -⟩,-⟩:=HQ.out w13 HB13.out;clear hdO hdE hg13)|(go_simp;go_at_call 22;refine(HCW.out _ _ d (by first|exact HB13.out|exact HB13.out.drew) (by first|exact HDO.out.1|exact HDO.out.1.keep zqK.drew) (ImplD.NN_some _ _ _) HDO.out.2).mono ?_;rintro e w14 ⟨v,rfl,hz,hb14⟩;obtain⟨az,cz,rfl,_,_⟩:=slg_form hz;obtain⟨nz,hnz⟩:∃n,(ints (cnj T y d)).length=n:=⟨_,rfl⟩;rw[hnz]at hz ⊢; have HZ:=hid (show SlI Any w14 (.slice az nz cz) (ints (cnj T y d))∧El T (cnj T y d)∧RO T x (cnj T y d)∧Below w10.heap.size w10 w14 from⟨hz,(HCN.out y d HY.out.1 HDO.out.2 HY.out.2.1).1,(HCN.out y d HY.out.1 HDO.out.2 HY.out.2.1).2,by first|exact HB13.out.trans (hb14.mono HB13.out.size)|exact HB13.out.drew.trans (hb14.mono HB13.out.size)⟩);clear hz hb14 hnz vp)|fail);all_goals
     go_wp2_with fail;go_meet;exact⟨_,_,_,_,rfl,rfl,HZ⟩
   case rest=>
    obtain⟨az,nz,cz,z,rfl,rfl,HZ⟩:=hcut;rename World=>w15;have hb15:=HZ.out.2.2.2;clear p0 p1 p2 hgl hgL2;obtain⟨⟨⟨p0,p1,p2⟩,hgl,-, vp,-, -⟩,-⟩:=HQ.out w15 hb15;have HC8:=hid (HOO.out w15 _ _ _ (.slice (some ⟨gr,0,none⟩) nY cr) y vp (HY.out.2.2.keep (Keep.of_below (S:=Any) hb15)) HY.out.1 (HOY.out y HY.out.1 HY.out.2.1));have HQ5:=hid (fun(W:World) (hb:Below w15.heap.size w15 W)=>HQ.out W (hb15.trans (hb.mono hb15.size)));clear vp hb15;go_upto_region 20 with(go_at_call 17;refine HC8.out.mono ?_;rintro e w16 ⟨rfl,hb16⟩;have HB16:=hid hb16;clear hb16);clear p0 p1 p2 hgl HC8;go_wp2_with fail;go_loopw [23,24] (fun fv iv wr=>∃(i:Nat) (b:Bool),i≤nR∧iv= .int .i64 (i:Int)∧fv= .bool b∧Hid (b=true↔∃j,j<i∧res[j]?=some (ints z))∧Hid (Below w15.heap.size w15 wr)) (fun _ iv _=>nR-(intOf iv).toNat);case atStart=>exact⟨0,false,zq4 _,rfl,rfl,hid ⟨fun h=>Bool.noConfusion h,fun⟨j,h,_⟩=>absurd h (zq33 _)⟩,HB16⟩
    case round=>
     obtain⟨i,b,hi,rfl,rfl,hF,hB⟩:=hrel;by_cases hlt:i<nR
     ·have hii:(i:Int)<(nR:Int):=by omega
      have hi0:(0:Int)≤(i:Int):=by omega
      obtain⟨vi,hvi⟩:∃v,res[i]?=some v:=⟨_,zq0 (by rw[HNR.out];exact hlt)⟩;cases b
      ·obtain⟨gL',gi,ci,eA,hgL',hcL,hiS⟩:=elts_get (HQ5.out wr hB.out).2 hvi;injection eA with eA;injection eA with eA;subst eA;obtain⟨nI,hnI⟩:∃n,vi.length=n:=⟨_,rfl⟩;rw[hnI]at hcL hiS;have HLI:=SfP.eqI_any wr (.slice (some ⟨gi,0,none⟩) nI ci) (.slice az nz cz) vi (ints z) hiS (HZ.out.1.keep (Keep.of_below (S:=Any) hB.out));obtain⟨bb,hbb⟩:∃bb,decide (vi=ints z)=bb:=⟨_,rfl⟩;rw[hbb]at HLI;have HLI:=hid HLI;have HFN:=hid (show bb=true↔∃j,j<i+1∧res[j]?=some (ints z) by
        rw[←hbb,zq78];constructor
        ·rintro rfl;exact⟨i,Nat.lt_succ_self i,hvi⟩
        ·rintro⟨j,hj,e⟩;rcases zq36 j i with h|h
         ·exact absurd (hF.out.2 ⟨j,h,e⟩) Bool.false_ne_true
         ·obtain rfl:j=i:=by omega
          rw[hvi]at e;injection e)
       have HLT:=hid hlt;clear hvi hiS hnI hbb hF hlt;go_wp2_with (go_at_call 24;refine HLI.out.mono ?_;rintro e w17 ⟨rfl,hb17⟩;have HB17:=hid (hB.out.trans (hb17.mono hB.out.size));clear hb17);go_roundw;case rel=>exact⟨i+1,bb,HLT.out,by go_num,rfl,HFN,HB17⟩
       case measure=>have:=HLT.out;simp[intOf];omega
      ·have HFN:=hid (show true=true↔∃j,j<i+1∧res[j]?=some (ints z) from⟨fun _=>by obtain⟨j,h,e⟩:=hF.out.1 rfl;exact⟨j,by omega,e⟩,fun _=>rfl⟩);have HLT:=hid hlt;clear hvi hF hlt;go_wp2_with fail;go_roundw;case rel=>exact⟨i+1,true,HLT.out,by go_num,rfl,HFN,hB⟩
       case measure=>have:=HLT.out;simp[intOf];omega
     ·obtain rfl:i=nR:=by omega
      obtain rfl:b=true:=hF.out.2 (by
       obtain⟨j,hj⟩:=zq45 (HME.out z HZ.out.2.1 HZ.out.2.2.1);exact⟨j,by have:=(zq2.1 hj).1;rw[HNR.out]at this;exact this,hj⟩)
      have HBW:=hid (HQ5.out wr hB.out).1.2.2.1;clear hF hB hlt;go_wp2_with fail;go_ret;exact⟨rfl,HBW.out⟩
  ·have hkb:(k !=0)=true:=by simp[hk]
   clear hk;go_wp2_with fail;go_ret;exact⟨rfl,HBW6.out⟩
end Go.Proofs.YtlmlamcoeegkbaaGreat.OuV
namespace Go.Proofs.YtlmlamcoeegkbaaGreat.CyO
open Go.RowKit Go.Proofs.YtlmlamcoeegkbaaGreat Go.ChangeShapes
theorem spot_of_cell {w:World}{a:Addr}{v:Value}(h:w.cell? a=some v):a=⟨a.block,a.off,none⟩∧a.block<w.heap.size:=by
 refine⟨?_,World.block_lt_of_cell? w a h⟩;unfold World.cell? at h;split at h
 ·next c _ _ hb=>
  split at h
  ·cases h
  ·next hs=>
   cases a with
   |mk b o s=>
    cases s with
    |none=>rfl
    |some s=>simp at hs
 ·cases h
section
variable {H:Type} {enc:TypeId×Value→H} {w:World} {base:Nat} {spare:Nat→Bool} {held:Bool}
theorem sl_of_trod {α:Type}{E:World→Value→α→Prop}{S:Nat→Prop}{t e:TypeId}{fuel:Nat}{v:Value}{x:DataW H×List MemPlace}(ht:Tryz.prog.underlying t=some (.slice e))(hc:Tryz.prog.cellsOf e=1)(hS:∀b,base≤b→S b)
  (hE:∀(n:Nat) (u:Value) (y:DataW H×List MemPlace),DataW.trod enc Tryz.prog w base spare held n e [u]=some y→∃z:α,E w u z) (h:DataW.trod enc Tryz.prog w base spare held fuel t [v]=some x):∃l:List α,SlG E S w v l:=by
 rcases Go.Deep.open_slice1 ht hc h with⟨hcs,_⟩|⟨a,len,cap,m,n,V,D,Pl,hcs,hb,hl,hm,hmm,rfl,hx⟩
 ·simp only[zq116,and_true]at hcs;subst hcs;exact⟨[],none,0,rfl,zq1 _,zq4 _,fun _=>rfl,fun i x hx=>by simp at hx⟩
 ·simp only[zq116,and_true]at hcs;subst hcs;have hlm:len≤m:=by rw[hmm];split<;>omega
  have hz:∀i:Fin len,∃z,E w (V i.1) z:=fun i=>hE _ _ _ (hx i.1 (by have:=i.2;omega)).2;refine⟨(List.finRange len).map fun i=>Classical.choose (hz i),some a,cap,by simp,by simpa using hl,hm,by simp,fun i y hy=>?_⟩;simp only[zq20,zq46]at hy;obtain⟨j,hj,rfl⟩:=hy;have hjl:=(zq2.1 hj).1;simp only[List.length_finRange]at hjl;have hji:j.1=i:=by
   have:=(zq2.1 hj).2;rw[←this];simp
  have h0:=(hx 0 (by omega)).1;rw[Addr.add_zero']at h0;have hs:=spot_of_cell h0;obtain⟨ab,ao,asp⟩:=a;simp only[zq96,true_and]at hs;obtain⟨rfl,hlt⟩:=hs;have hcell:=(hx i (by omega)).1;rw[addr_add]at hcell;refine⟨ab,ao,rfl,hS _ hb,hlt,V i,hcell,?_⟩;rw[←hji];exact zq86 (hz j)
end
section
variable {H:Type} {enc:TypeId×Value→H} {w:World} {base:Nat} {spare:Nat→Bool} {held:Bool}
theorem byte_cell (n:Nat)(u:Value)(y:DataW H×List MemPlace)(h:DataW.trod enc Tryz.prog w base spare held n 5 [u]=some y):∃z:Nat,u= .int .u8 (z:Int)∧z<256:=by
 obtain⟨z,h1,_,h2⟩:=DataW.trod_int Tryz.underlying5 h;simp only[zq116,and_true]at h1;simp only[Lit.wf,zq71,zq85]at h2;have h3:IntKind.u8.min=0:=rfl;have h4:IntKind.u8.max=255:=rfl;rw[h3,h4]at h2;refine⟨z.toNat,?_,by omega⟩;rw[h1,Int.toNat_of_nonneg h2.1]
theorem open_bytes {a:Option Addr}{len cap:Nat}{d:DataW H}{p:List MemPlace}(h:DataW.Trod enc Tryz.prog w base spare held 22 (.slice a len cap) d p):CyC.Rd0 w a len:=by
 obtain⟨fuel,hf⟩:=h;obtain⟨l,hl⟩:=sl_of_trod (E:=fun _ u (z:Nat)=>u= .int .u8 (z:Int)∧z<256) (S:=fun _=>True) (v:=.slice a len cap) Tryz.underlying22 (by kernel_rfl) (fun _ _=>trivial) (fun n u y hy=>byte_cell n u y hy) hf;intro i hi;obtain⟨ao,c',e,_,_,_,h4⟩:=hl;obtain⟨rfl,rfl,_⟩:a=ao∧len=l.length∧cap=c':=by simpa using e
 obtain⟨x,hx⟩:∃x,l[i]?=some x:=⟨_,zq0 hi⟩;obtain⟨b,o,e1,_,e3,u,e4,rfl,e5⟩:=h4 i x hx;exact⟨b,o,x,e1,e3,e4,e5⟩
end
end Go.Proofs.YtlmlamcoeegkbaaGreat.CyO

import Derived.Test.YtaadbccidfdniaaGreatZ0
import Derived.Test.YtaadbccidfdniaaGreatZf
/-
  Lemmas for the law FnCopies, in short spelling.
-/
open Go.Lib (hid)
set_option linter.unusedVariables false
set_option linter.unusedSimpArgs false
set_option maxRecDepth 100000
set_option maxHeartbeats 40000000
namespace Go.Proofs.YtaadbccidfdniaaGreat.DwV
open Go.RowKit Go.Lib Go.Proofs.YtaadbccidfdniaaGreat AB Val Dp Cn Dm Df Cc Ud Wy
theorem ABZ (b:UInt8)(g:Nat)(w':World)(h:w'.cell? ⟨g,0,none⟩=some (.int .u8 (b.toNat:Int))):
  (convert 22 9 (.slice (some ⟨g,0,none⟩) 1 1)).run Tryz.prog w'= .ok (.string ⟨#[b]⟩) w':=by
 refine run_convert_bytes_back (P:=Tryz.prog) w' 22 9 5 ⟨g,0,none⟩ 1 [b] Tryz.underlying22 Tryz.underlying5 Tryz.underlying9 ?_;intro j hj;have hj0:j=0:=by simp at hj;omega
 subst hj0;rw[show(Addr.add ⟨g,0,none⟩ 0)=⟨g,0,none⟩ by simp[Addr.add],h];simp
attribute [local go_sem ↓] Go.wp_at_zero Go.wp_at_succ
theorem qZ (x:Int)(h:x<10)(w:World):Calls Tryz.prog 183 #[.int .i64 x] w (Ij 1 w):=by
 obtain⟨b,hb⟩:=iy (wrap64 (48+x));have Ca:=ABZ b;go_enter Tryz.func183,Tryz.ntmps183;go_wp2_with fail;go_ret;exact⟨_,rfl,Av _,AX.alloc AR _⟩
theorem ABa (x:Int)(h:¬x<10)(m:Nat)(hm:m≤100)(w:World)(hr:∀W,Calls Tryz.prog 183 #[.int .i64 (IntKind.i64.wrap (x.tdiv 10))] W (Ij m W)):
  Calls Tryz.prog 183 #[.int .i64 x] w (Ij (m+1) w):=by
 obtain⟨z,hz⟩:∃z,IntKind.i64.wrap (48+x.tmod 10)=z:=⟨_,rfl⟩;obtain⟨b,hb⟩:=iy z;have hw:IntKind.u8.wrap z=(b.toNat:Int):=by rw[IntKind.wrap_u8'];exact hb
 have Ca:=ABZ b;have IH:=hid hr;clear hr hb;go_enter Tryz.func183,Tryz.ntmps183;go_upto_region 3 with fail;go_region_with (first|(go_at_call 183;refine(IH.out _).mono ?_;rintro e w1 ⟨s1,rfl,hz1,hb1⟩;obtain⟨hc1,hf1⟩:=ADL hb1;have q1:(9223372036854775807<s1.size+1)=False:=(eq_false (by omega))));all_goals
  go_wp2_with fail;go_ret;refine⟨_,rfl,(by rw[ByteArray.size_append];show _+1≤_;omega),?_⟩;first
   |exact(AX.drew.trans hb1).alloc hb1.size _
   |exact(AX.alloc AR _).drew.trans (hb1.mono (by simp))
theorem ADW (x:Int)(w:World):Calls Tryz.prog 183 #[.int .i64 x] w (Ij 21 w):=by
 have key:∀(k:Nat) (x:Int),x<10^(k+1)→x≤9223372036854775807→k<20→∀w,Calls Tryz.prog 183 #[.int .i64 x] w (Ij (k+1) w):=by
  intro k
  induction k with
  |zero=>exact fun x h _ _ w=>qZ x (by simpa using h) w
  |succ k ih=>
   intro x h hx hk w;by_cases h10:x<10
   ·exact(qZ x h10 w).mono fun e w' ⟨t,h1,h2,h3⟩=>⟨t,h1,Ad h2 (by omega),h3⟩
   ·have e:IntKind.i64.wrap (x.tdiv 10)=x/10:=by rw[Int.tdiv_eq_ediv_of_nonneg (by omega)];exact AY _ (by omega)
    refine ABa x h10 (k+1) (by omega) w fun W=>?_;rw[e];rw[Int.pow_succ]at h;exact ih _ (by omega) (by omega) (by omega) W
 by_cases h10:x<10
 ·exact(qZ x h10 w).mono fun e w' ⟨t,h1,h2,h3⟩=>⟨t,h1,Ad h2 (by omega),h3⟩
 ·have h1:IntKind.i64.wrap (x.tdiv 10)≤9223372036854775807:=by rw[IntKind.wrap_i64];omega
  exact(ABa x h10 19 (by omega) w fun W=>key 18 _ (Int.lt_of_le_of_lt h1 (by decide)) h1 (by omega) W).mono fun e w' ⟨t,h1,h2,h3⟩=>⟨t,h1,Ad h2 (by omega),h3⟩
end Go.Proofs.YtaadbccidfdniaaGreat.DwV

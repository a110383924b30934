import Derived.Test.YtabeedimnbkcgaaCyB
import Derived.Deep.RegionLaw
/-
  spec.l01From, l01Pick, l01Number, DrawCyclicPresentation.
-/
namespace Go.Proofs.Ytabeedimnbkcgaa.CyC
open Go.RowKit Go.Proofs.Ytabeedimnbkcgaa Go.Proofs.Ytabeedimnbkcgaa.Tow Go.Proofs.Ytabeedimnbkcgaa.CyA Go.Proofs.Ytabeedimnbkcgaa.CyB
set_option linter.unusedVariables false
set_option linter.unusedSimpArgs false

def Rd0 (w : World) (a : Option Addr) (len : Nat) : Prop := ∀ i, i < len → ∃ b o, ∃ z : Nat, a = some ⟨b, o, none⟩ ∧ b < w.heap.size ∧ w.cell? ⟨b, o + i, none⟩ = some (.int .u8 (z : Int)) ∧ z < 256
theorem Rd0.rd {w w' : World} {a : Option Addr} {len g : Nat} (h : Rd0 w a len) (hb : Below w.heap.size w w') (hg : w.heap.size ≤ g) : Rd w' g a len := fun i hi => by
  obtain ⟨b, o, z, h1, h3, h4, h5⟩ := h i hi
  exact ⟨b, o, z, h1, by omega, Nat.lt_of_lt_of_le h3 hb.size, by rw [(Keep.of_below (S := Any) hb).cell trivial h3]; exact h4, h5⟩
def FromR (a : Option Addr) (len cap : Nat) (w : World) (e : Ending) (w' : World) : Prop := ∃ g, e = .returned (.pointer (some ⟨g, 0, none⟩)) ∧ w.heap.size ≤ g ∧ Src w' g a len cap ∧ Below w.heap.size w w'
set_option maxRecDepth 100000 in
set_option maxHeartbeats 2000000 in
theorem from_any (w : World) (a : Option Addr) (len cap : Nat) (hl : len ≤ 4096) (hR : Rd0 w a len) : Calls Try.prog 14 #[.slice a len cap] w (FromR a len cap w) := by
  have HR := Lib.hid hR
  obtain ⟨g, hg⟩ : ∃ g, w.heap.size = g := ⟨_, rfl⟩
  obtain ⟨w1, hw1⟩ : ∃ w1, w1 = w.alloc (.cells #[.slice a len cap, .int .i64 0, .int .i64 76001] 68) := ⟨_, rfl⟩
  have HA := Lib.hid (show SrcA w1 g a len cap 0 76001 by rw [hw1, ← hg]; exact heap_alloc_new _ _)
  have HB := Lib.hid (show Below w.heap.size w w1 by rw [hw1]; exact (Below.refl _ _).alloc (Nat.le_refl _) _)
  have HL := Lib.hid hl
  have HGG := Lib.hid hg
  have hl63 : (len : Int) ≤ 9223372036854775807 := by omega
  clear hR hg
  go_enter Try.func14, Try.ntmps14
  go_upto_region 2 with fail
  rw [← hw1]
  rw [HGG.out]
  clear hw1
  go_wp2_with fail
  go_loopw [4] (fun iv wr => ∃ i s : Nat, i ≤ len ∧ iv = .int .i64 (i : Int) ∧ Hid (SrcA wr g a len cap 0 s) ∧ Hid (s < 2147483647) ∧ Hid (Below w.heap.size w wr)) (fun iv _ => len - (intOf iv).toNat)
  case atStart => exact ⟨0, 76001, Nat.zero_le _, rfl, HA, Lib.hid (by decide), HB⟩
  case round =>
    obtain ⟨i, s, hi, rfl, hA, hs, hB⟩ := hrel
    by_cases hlt : i < len
    · have hii : (i : Int) < (len : Int) := by omega
      have hii0 : (0 : Int) ≤ (i : Int) := by omega
      by_cases h64 : i < 64
      · have h64i : (i : Int) < 64 := by omega
        obtain ⟨⟨c0, c1, c2⟩, f1, f2, hgl⟩ := hA.out.cells
        obtain ⟨b, o, z, rfl, hbl, hcz, hz⟩ := HR.out i hlt
        have hcz' := ((Keep.of_below (S := Any) hB.out).cell (b := b) (o := o + i) trivial hbl).trans hcz
        have hbl' := Nat.lt_of_lt_of_le hbl hB.out.size
        obtain ⟨s2, hs2⟩ : ∃ s2, (s * 71 + z) % 2147483647 = s2 := ⟨_, rfl⟩
        have HS2 := Lib.hid (show s2 < 2147483647 by omega)
        have hr1 : ((s : Int) * 71 + (z : Int)).tmod 2147483647 = (s2 : Int) := by
          have := tmod_nat (s * 71 + z) 2147483647
          rw [hs2, Int.natCast_add, Int.natCast_mul] at this
          exact this
        have hw1 : IntKind.i64.wrap ((s : Int) * 71) = (s : Int) * 71 := IntWalk.i64_in _ (by have := hs.out; omega)
        have hw2 : IntKind.i64.wrap ((s : Int) * 71 + (z : Int)) = (s : Int) * 71 + (z : Int) := IntWalk.i64_in _ (by have := hs.out; omega)
        have hw3 : IntKind.i64.wrap (s2 : Int) = (s2 : Int) := IntWalk.i64_in _ (by omega)
        have hw4 : IntKind.i64.wrap (z : Int) = (z : Int) := IntWalk.i64_in _ (by omega)
        have HA' := Lib.hid (show SrcA ((wr.setCell ⟨g, 2, none⟩ (.int .i64 (s2 : Int))).drew) g (some ⟨b, o, none⟩) len cap 0 s2 from (hA.out.set2 s2).drew)
        have HB' := Lib.hid (show Below w.heap.size w ((wr.setCell ⟨g, 2, none⟩ (.int .i64 (s2 : Int))).drew) from (hB.out.setCell (p := ⟨g, 2, none⟩) (by rw [HGG.out]; exact Nat.le_refl _) _).drew)
        clear hcz hbl hs2 hA hB hz
        go_wp2_with fail
        go_region_law (fail)
        all_goals
          go_wp2_with fail
          go_roundw
          case rel => exact ⟨i + 1, s2, by omega, by go_num, HA', HS2, HB'⟩
          case measure => simp [intOf] <;> omega
      · have h64i : ¬ (i : Int) < 64 := by omega
        have HRR := Lib.hid (show FromR a len cap w (.returned (.pointer (some ⟨g, 0, none⟩))) wr from ⟨g, rfl, by rw [HGG.out]; exact Nat.le_refl _, ⟨0, s, hA.out, Nat.zero_le _, hs.out, HL.out⟩, hB.out⟩)
        clear hA hB hs
        go_wp2_with fail
        go_ret
        exact HRR.out
    · obtain rfl : i = len := by omega
      have HRR := Lib.hid (show FromR a i cap w (.returned (.pointer (some ⟨g, 0, none⟩))) wr from ⟨g, rfl, by rw [HGG.out]; exact Nat.le_refl _, ⟨0, s, hA.out, Nat.zero_le _, hs.out, HL.out⟩, hB.out⟩)
      clear hA hB hs hlt
      go_wp2_with fail
      go_ret
      exact HRR.out

def PickR (L : List Int) (g : Nat) (a : Option Addr) (len cap : Nat) (w : World) (e : Ending) (w' : World) : Prop := ∃ x : Int, x ∈ L ∧ e = .returned (.int .i64 x) ∧ Src w' g a len cap ∧ w.grownBy w' (some g)
set_option maxRecDepth 100000 in
set_option maxHeartbeats 2000000 in
theorem pick_any (L : List Int) (m : Nat) (hm : L.length = m) (hm2 : 2 ≤ m) (hm8 : m ≤ 8) (w : World) (B g : Nat) (a : Option Addr) (len cap : Nat) (hB : SlI (fun k => k ≠ g) w (.slice (some ⟨B, 0, none⟩) m m) L) (hS : Src w g a len cap) (hR : Rd w g a len) :
    Calls Try.prog 17 #[.pointer (some ⟨g, 0, none⟩), .slice (some ⟨B, 0, none⟩) m m] w (PickR L g a len cap w) := by
  have HC := Lib.hid (next_any m hm2 (by omega) w g a len cap hS hR)
  have HB := Lib.hid hB
  have HM := Lib.hid hm
  clear hS hR hB hm
  go_enter Try.func17, Try.ntmps17
  go_wp2_with fail
  refine HC.out.mono ?_
  rintro e w1 ⟨r, rfl, hr, hS1, hg1⟩
  obtain ⟨x, hx⟩ : ∃ x, L[r]? = some x := ⟨_, List.getElem?_eq_getElem (by rw [HM.out]; exact hr)⟩
  obtain ⟨b', o', u, he, _, hbl, hcu, rfl⟩ := slg_get (HB.out.keep (Keep.grown hg1 fun k hk e => hk (by injection e))) hx
  obtain ⟨rfl, rfl⟩ : B = b' ∧ 0 = o' := by simpa using he
  rw [Nat.zero_add] at hcu
  have hri : (r : Int) < (m : Int) := by omega
  have hri0 : (0 : Int) ≤ (r : Int) := by omega
  have HR := Lib.hid (show PickR L g a len cap w (.returned (.int .i64 x)) w1 from ⟨x, List.mem_of_getElem? hx, rfl, hS1, hg1⟩)
  clear hS1 hg1 hx HC he
  go_wp2_with fail
  go_ret
  exact HR.out
/-- a new list of numbers -/
theorem lit_sl {w : World} {L : List Int} {g : Nat} (hg : g < w.heap.size) (hl : L.length ≤ 100) : SlI (fun k => k ≠ g) (w.alloc (.cells (L.map (Value.int .i64)).toArray 2)) (.slice (some ⟨w.heap.size, 0, none⟩) L.length L.length) L := by
  refine ⟨_, L.length, rfl, Nat.le_refl _, by unfold maxLen; omega, by simp, fun i x hx => ⟨w.heap.size, 0, rfl, by omega, by simp, .int .i64 x, ?_, rfl⟩⟩
  rw [cell_of_row _ _ _ _ _ (0, 0) (heap_alloc_new _ _), Nat.zero_add]
  simp [hx]
theorem gr_alloc (w : World) (o : Obj) (row : Option Nat) : w.grownBy (w.alloc o) row := ⟨rfl, rfl, rfl, by simp, fun k hk _ => Below.heap_alloc w o k hk⟩
def bigL : List Int := [0, -1, 1000000, 1000001, -1000000, -1000001, -9223372036854775808, 9223372036854775807]
def AnyR (g : Nat) (a : Option Addr) (len cap : Nat) (w : World) (e : Ending) (w' : World) : Prop := ∃ x : Int, e = .returned (.int .i64 x) ∧ Src w' g a len cap ∧ w.grownBy w' (some g)
set_option maxRecDepth 100000 in
set_option maxHeartbeats 4000000 in
theorem number_any (w : World) (g : Nat) (a : Option Addr) (len cap : Nat) (hS : Src w g a len cap) (hR : Rd w g a len) :
    Calls Try.prog 16 #[.pointer (some ⟨g, 0, none⟩)] w (AnyR g a len cap w) := by
  have HC := Lib.hid (show Calls Try.prog 15 #[.pointer (some ⟨g, 0, none⟩), .int .i64 12] w (NextR 12 g a len cap w) from next_any 12 (by omega) (by omega) w g a len cap hS hR)
  have HR := Lib.hid hR
  have HN := Lib.hid (fun (n : Nat) (h1 : 2 ≤ n) (h2 : n ≤ 1000000) W h3 h4 => next_any n h1 h2 W g a len cap h3 h4)
  have HPK := Lib.hid (fun (L : List Int) (m : Nat) hm h1 h2 W B h3 h4 h5 => pick_any L m hm h1 h2 W B g a len cap h3 h4 h5)
  clear hS hR
  go_enter Try.func16, Try.ntmps16
  go_wp2_with fail
  refine HC.out.mono ?_
  rintro e w1 ⟨r, rfl, hr, hS1, hg1⟩
  have HS1 := Lib.hid hS1
  have HR1 := Lib.hid (HR.out.grown hg1)
  have HG1 := Lib.hid hg1
  clear hS1 hg1 HC
  by_cases h0 : r = 0
  · subst h0
    obtain ⟨w2, hw2⟩ : ∃ w2, w2 = w1.alloc (.cells #[.int .i64 0, .int .i64 (-1), .int .i64 1000000, .int .i64 1000001, .int .i64 (-1000000), .int .i64 (-1000001), .int .i64 (-9223372036854775808), .int .i64 9223372036854775807] 2) := ⟨_, rfl⟩
    have HPC := Lib.hid (show Calls Try.prog 17 #[.pointer (some ⟨g, 0, none⟩), .slice (some ⟨w1.heap.size, 0, none⟩) 8 8] w2 (PickR bigL g a len cap w2) from HPK.out bigL 8 rfl (by omega) (by omega) w2 w1.heap.size (by rw [hw2]; exact lit_sl (L := bigL) HS1.out.lt (by decide)) (by rw [hw2]; exact HS1.out.alloc _) (by rw [hw2]; exact HR1.out.alloc _))
    have HG2 := Lib.hid (show w.grownBy w2 (some g) by rw [hw2]; exact gr_tr HG1.out (gr_alloc _ _ _))
    go_wp2_with fail
    rw [← hw2]
    clear hw2
    refine HPC.out.mono ?_
    rintro e w3 ⟨x, -, rfl, hS3, hg3⟩
    have HRR := Lib.hid (show AnyR g a len cap w (.returned (.int .i64 x)) w3 from ⟨x, rfl, hS3, gr_tr HG2.out hg3⟩)
    clear hS3 hg3 HPC
    go_wp2_with fail
    go_ret
    exact HRR.out
  · have hr0 : ((r : Int) == 0) = false := by simp; omega
    by_cases h1 : r = 1
    · subst h1
      have HNC := Lib.hid (show Calls Try.prog 15 #[.pointer (some ⟨g, 0, none⟩), .int .i64 1000] w1 (NextR 1000 g a len cap w1) from HN.out 1000 (by omega) (by omega) w1 HS1.out HR1.out)
      go_wp2_with fail
      refine HNC.out.mono ?_
      rintro e w3 ⟨x, rfl, hx, hS3, hg3⟩
      have HRR := Lib.hid (show AnyR g a len cap w (.returned (.int .i64 (-(x : Int)))) w3 from ⟨_, rfl, hS3, gr_tr HG1.out hg3⟩)
      have hwx : IntKind.i64.wrap (-(x : Int)) = -(x : Int) := IntWalk.i64_in _ (by omega)
      clear hS3 hg3 HNC hx
      go_wp2_with fail
      go_ret
      exact HRR.out
    · have hr1 : ((r : Int) == 1) = false := by simp; omega
      by_cases h2 : r = 2
      · subst h2
        have HNC := Lib.hid (show Calls Try.prog 15 #[.pointer (some ⟨g, 0, none⟩), .int .i64 1000000] w1 (NextR 1000000 g a len cap w1) from HN.out 1000000 (by omega) (by omega) w1 HS1.out HR1.out)
        go_wp2_with fail
        refine HNC.out.mono ?_
        rintro e w3 ⟨x, rfl, hx, hS3, hg3⟩
        have HRR := Lib.hid (show AnyR g a len cap w (.returned (.int .i64 ((x : Int) + 1))) w3 from ⟨_, rfl, hS3, gr_tr HG1.out hg3⟩)
        have hwx : IntKind.i64.wrap ((x : Int) + 1) = (x : Int) + 1 := IntWalk.i64_in _ (by omega)
        clear hS3 hg3 HNC hx
        go_wp2_with fail
        go_ret
        exact HRR.out
      · have hr2 : ((r : Int) == 2) = false := by simp; omega
        have HNC := Lib.hid (show Calls Try.prog 15 #[.pointer (some ⟨g, 0, none⟩), .int .i64 60] w1 (NextR 60 g a len cap w1) from HN.out 60 (by omega) (by omega) w1 HS1.out HR1.out)
        go_wp2_with fail
        refine HNC.out.mono ?_
        rintro e w3 ⟨x, rfl, hx, hS3, hg3⟩
        have HRR := Lib.hid (show AnyR g a len cap w (.returned (.int .i64 (x : Int))) w3 from ⟨_, rfl, hS3, gr_tr HG1.out hg3⟩)
        clear hS3 hg3 HNC hx
        go_wp2_with fail
        go_ret
        exact HRR.out

/-- a number is drawn -/
def DrawR (w : World) (e : Ending) (w' : World) : Prop := ∃ x : Int, e = .returned (.int .i64 x) ∧ Below w.heap.size w w'
def smallL : List Int := [2, 2, 3, 5, 7]
theorem small_mem {x : Int} (h : x ∈ smallL) : ∃ y : Nat, x = (y : Int) ∧ 2 ≤ y ∧ y ≤ 7 := by
  simp only [smallL, List.mem_cons, List.not_mem_nil, or_false] at h
  rcases h with rfl | rfl | rfl | rfl | rfl
  · exact ⟨2, rfl, by omega, by omega⟩
  · exact ⟨2, rfl, by omega, by omega⟩
  · exact ⟨3, rfl, by omega, by omega⟩
  · exact ⟨5, rfl, by omega, by omega⟩
  · exact ⟨7, rfl, by omega, by omega⟩
theorem pow_step {n x k : Nat} (h : n * 7 ^ (k + 1) ≤ 823543) (hx : x ≤ 7) : n * x * 7 ^ k ≤ 823543 := by
  refine Nat.le_trans ?_ h
  rw [Nat.pow_succ, Nat.mul_assoc, Nat.mul_comm (7 ^ k) 7]
  exact Nat.mul_le_mul (Nat.le_refl _) (Nat.mul_le_mul hx (Nat.le_refl _))
theorem pow_le {n k : Nat} (h : n * 7 ^ k ≤ 823543) : n ≤ 823543 := Nat.le_trans (Nat.le_mul_of_pos_right n (Nat.pow_pos (by omega))) h
theorem pow_start {k : Nat} (h : k < 8) : 1 * 7 ^ k ≤ 823543 := by
  rw [Nat.one_mul]
  exact Nat.le_trans (Nat.pow_le_pow_right (by omega) (show k ≤ 7 by omega)) (by decide)
set_option maxRecDepth 100000 in
set_option maxHeartbeats 4000000 in
theorem draw_any (w : World) (a : Option Addr) (len cap : Nat) (hl : len ≤ 4096) (hR : Rd0 w a len) : Calls Try.prog 5 #[.slice a len cap] w (DrawR w) := by
  have HC := Lib.hid (from_any w a len cap hl hR)
  have HR := Lib.hid hR
  have HN := Lib.hid (fun g (n : Nat) (h1 : 2 ≤ n) (h2 : n ≤ 1000000) W h3 h4 => next_any n h1 h2 W g a len cap h3 h4)
  have HNU := Lib.hid (fun g W h3 h4 => number_any W g a len cap h3 h4)
  have HPK := Lib.hid (fun g (L : List Int) (m : Nat) hm h1 h2 W B h3 h4 h5 => pick_any L m hm h1 h2 W B g a len cap h3 h4 h5)
  clear hR hl
  go_enter Try.func5, Try.ntmps5
  go_wp2_with fail
  refine HC.out.mono ?_
  rintro e w1 ⟨g, rfl, hg, hS1, hb1⟩
  have HS1 := Lib.hid hS1
  have HR1 := Lib.hid (HR.out.rd hb1 hg)
  have HB1 := Lib.hid hb1
  have HGG := Lib.hid hg
  have HBG := Lib.hid (show ∀ W, w1.grownBy W (some g) → Below w.heap.size w W from fun W h => HB1.out.grown h HB1.out.size (by intro k hk; cases hk; exact HGG.out))
  have HNC := Lib.hid (show Calls Try.prog 15 #[.pointer (some ⟨g, 0, none⟩), .int .i64 4] w1 (NextR 4 g a len cap w1) from HN.out g 4 (by omega) (by omega) w1 HS1.out HR1.out)
  clear hg hS1 hb1 HC HR
  go_wp2_with fail
  refine HNC.out.mono ?_
  rintro e w2 ⟨r, rfl, hr, hS2, hg2⟩
  have HS2 := Lib.hid hS2
  have HR2 := Lib.hid (HR1.out.grown hg2)
  have HG2 := Lib.hid hg2
  clear hS2 hg2 HNC HR1 HS1
  by_cases h0 : r = 0
  · subst h0
    have HUC := Lib.hid (HNU.out g w2 HS2.out HR2.out)
    go_wp2_with fail
    refine HUC.out.mono ?_
    rintro e w3 ⟨x, rfl, hS3, hg3⟩
    have HRR := Lib.hid (show DrawR w (.returned (.int .i64 x)) w3 from ⟨x, rfl, HBG.out _ (gr_tr HG2.out hg3)⟩)
    clear hS3 hg3 HUC
    go_wp2_with fail
    go_ret
    exact HRR.out
  · have hr0 : ((r : Int) == 0) = false := by simp; omega
    have HNC := Lib.hid (show Calls Try.prog 15 #[.pointer (some ⟨g, 0, none⟩), .int .i64 8] w2 (NextR 8 g a len cap w2) from HN.out g 8 (by omega) (by omega) w2 HS2.out HR2.out)
    go_wp2_with fail
    refine HNC.out.mono ?_
    rintro e w3 ⟨k0, rfl, hk0, hS3, hg3⟩
    have HS3 := Lib.hid hS3
    have HR3 := Lib.hid (HR2.out.grown hg3)
    have HG3 := Lib.hid (gr_tr HG2.out hg3)
    have HK0 := Lib.hid (pow_start hk0)
    clear hS3 hg3 HNC HR2 HS2 HG2
    go_wp2_with fail
    go_loopw [4, 5] (fun nv kv wr => ∃ n k : Nat, k < 8 ∧ nv = .int .i64 (n : Int) ∧ kv = .int .i64 (k : Int) ∧ Hid (n * 7 ^ k ≤ 823543) ∧ Hid (Src wr g a len cap) ∧ Hid (Rd wr g a len) ∧ Hid (w1.grownBy wr (some g))) (fun _ kv _ => (intOf kv).toNat)
    case atStart => exact ⟨1, k0, hk0, rfl, rfl, HK0, HS3, HR3, HG3⟩
    case round =>
      obtain ⟨n, k, hk8, rfl, rfl, hnk, hS, hRr, hG⟩ := hrel
      cases k with
      | zero =>
        have hq : decide (((0 : Nat) : Int) > 0) = false := by simp
        have HRR := Lib.hid (show DrawR w (.returned (.int .i64 (n : Int))) wr from ⟨_, rfl, HBG.out _ hG.out⟩)
        clear hS hRr hG hnk
        go_wp2_with fail
        go_ret
        exact HRR.out
      | succ k =>
        obtain ⟨k1, hk1⟩ : ∃ k1, k + 1 = k1 := ⟨_, rfl⟩
        rw [hk1] at hk8
        have HK1 := Lib.hid hk1
        have hq : decide ((k1 : Int) > 0) = true := by simp; omega
        have hk1i : (0 : Int) < (k1 : Int) := by omega
        have hsub : IntKind.i64.wrap ((k1 : Int) - 1) = (k : Int) := by rw [IntWalk.i64_in _ (by omega)]; omega
        rw [hk1]
        obtain ⟨w4, hw4⟩ : ∃ w4, w4 = wr.alloc (.cells #[.int .i64 2, .int .i64 2, .int .i64 3, .int .i64 5, .int .i64 7] 2) := ⟨_, rfl⟩
        have HPC := Lib.hid (show Calls Try.prog 17 #[.pointer (some ⟨g, 0, none⟩), .slice (some ⟨wr.heap.size, 0, none⟩) 5 5] w4 (PickR smallL g a len cap w4) from HPK.out g smallL 5 rfl (by omega) (by omega) w4 wr.heap.size (by rw [hw4]; exact lit_sl (L := smallL) hS.out.lt (by decide)) (by rw [hw4]; exact hS.out.alloc _) (by rw [hw4]; exact hRr.out.alloc _))
        have HG4 := Lib.hid (show w1.grownBy w4 (some g) by rw [hw4]; exact gr_tr hG.out (gr_alloc _ _ _))
        have HR4 := Lib.hid (show Rd w4 g a len by rw [hw4]; exact hRr.out.alloc _)
        clear hS hRr hG hk1
        go_wp2_with fail
        rw [← hw4]
        clear hw4
        refine HPC.out.mono ?_
        rintro e w5 ⟨x, hx, rfl, hS5, hg5⟩
        obtain ⟨y, rfl, hy2, hy7⟩ := small_mem hx
        have HNK := Lib.hid (pow_step hnk.out hy7)
        have HS5 := Lib.hid hS5
        have HR5 := Lib.hid (HR4.out.grown hg5)
        have HG5 := Lib.hid (gr_tr HG4.out hg5)
        have hwm : IntKind.i64.wrap ((n : Int) * (y : Int)) = (n : Int) * (y : Int) := by
          have h1 := pow_le HNK.out
          rw [← Int.natCast_mul]
          exact IntWalk.i64_in _ (by omega)
        clear hx hS5 hg5 HPC hnk
        go_wp2_with fail
        go_roundw
        case rel => exact ⟨n * y, k, by have := HK1.out; omega, by rw [Int.natCast_mul], by first | rfl | simp [hsub], HNK, HS5, HR5, HG5⟩
        case measure => simp [intOf, hsub] <;> (have := HK1.out; omega)
end Go.Proofs.Ytabeedimnbkcgaa.CyC

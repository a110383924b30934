import Derived.Test.YtabkibmnghbahaaGreatLawA
/-
  The law's own copies: toInt64S, toInt64SS, toInt64SSS, toPresentation.
-/
namespace Go.Proofs.YtabkibmnghbahaaGreat.LawB
open Go.RowKit Go.Proofs.YtabkibmnghbahaaGreat Go.Proofs.YtabkibmnghbahaaGreat.SpecB
set_option linter.unusedVariables false
set_option linter.unusedSimpArgs false

/-- a new value that reads as something -/
def NewG {α : Type} (R : (Nat → Prop) → World → Value → α → Prop) (x : α) (w : World) (e : Ending) (w' : World) : Prop := ∃ v, e = .returned v ∧ R (fun k => w.heap.size ≤ k) w' v x ∧ Below w.heap.size w w'
/-- lengths are small -/
def B1 (N : Nat) (l : List Int) : Prop := l.length ≤ N
def B2 (N : Nat) (l : List (List Int)) : Prop := l.length ≤ N ∧ ∀ r ∈ l, B1 N r
def B3 (N : Nat) (l : List (List (List Int))) : Prop := l.length ≤ N ∧ ∀ r ∈ l, B2 N r
theorem mkI (n : Nat) (hn : n ≤ 1048576) (w : World) : (Instr.makeSlice 22 (.int .i64 (n : Int)) (.int .i64 (n : Int))).run Tryz.prog w = .ok (.slice (some ⟨w.heap.size, 0, none⟩) n n) (w.alloc (.cells (madeCells #[.int .i64 0] n) 2)) :=
  run_make_row' (P := Tryz.prog) 22 2 (.int .i64 0) 8 Tryz.underlying22 infoI rfl .i64 .i64 n (by omega) (by omega) w
theorem mkII (n : Nat) (hn : n ≤ 1048576) (w : World) : (Instr.makeSlice 23 (.int .i64 (n : Int)) (.int .i64 (n : Int))).run Tryz.prog w = .ok (.slice (some ⟨w.heap.size, 0, none⟩) n n) (w.alloc (.cells (madeCells #[.slice none 0 0] n) 22)) :=
  run_make_row' (P := Tryz.prog) 23 22 (.slice none 0 0) 24 Tryz.underlying23 infoR rfl .i64 .i64 n (by omega) (by omega) w
theorem infoS3 : (Tryz.prog.info? 23).map (fun i => (i.zero, i.size, i.bytes)) = some (some (.slice none 0 0), 1, 24) := by kernel_rfl
theorem mkIII (n : Nat) (hn : n ≤ 1048576) (w : World) : (Instr.makeSlice 24 (.int .i64 (n : Int)) (.int .i64 (n : Int))).run Tryz.prog w = .ok (.slice (some ⟨w.heap.size, 0, none⟩) n n) (w.alloc (.cells (madeCells #[.slice none 0 0] n) 23)) :=
  run_make_row' (P := Tryz.prog) 24 23 (.slice none 0 0) 24 Tryz.underlying24 infoS3 rfl .i64 .i64 n (by omega) (by omega) w
theorem SlI_set {S : Nat → Prop} {w : World} {g : Nat} (hS : ∀ b, S b → b ≠ g) (k : Nat) (u : Value) {v : Value} {r : List Int} (h : SlI S w v r) : SlI S (w.setCell ⟨g, k, none⟩ u) v r := h.keep ((Keep.refl _ _).setCell (fun hg => hS g hg rfl) _)
theorem Sl2_set {S : Nat → Prop} {w : World} {g : Nat} (hS : ∀ b, S b → b ≠ g) (k : Nat) (u : Value) {v : Value} {r : List (List Int)} (h : Sl2 S w v r) : Sl2 S (w.setCell ⟨g, k, none⟩ u) v r := h.keep ((Keep.refl _ _).setCell (fun hg => hS g hg rfl) _)

set_option maxRecDepth 100000 in
set_option maxHeartbeats 1000000 in
theorem toI_any (w : World) (v : Value) (l : List Int) (hv : SlI Any w v l) (hl : B1 1048576 l) :
    Calls Tryz.prog 21 #[v] w (NewG SlI l w) := by
  obtain ⟨ao, c, rfl, _, _⟩ := hv.form
  have HV := Lib.hid hv
  unfold B1 at hl
  have HL := Lib.hid hl
  have hmk := mkI l.length hl
  have hl63 : (l.length : Int) ≤ 9223372036854775807 := by omega
  have HT := Lib.hid (TabG.made (e := 2) (R := fun _ u (x : Int) => u = .int .i64 x) w (.int .i64 0) l.length (by unfold maxLen; omega))
  clear hv hl
  go_enter Tryz.func21, Tryz.ntmps21
  go_wp2_with fail
  go_loopw [4] (fun iv wr => ∃ k : Nat, k ≤ l.length ∧ iv = .int .i64 (k : Int) ∧ Hid (TabG 2 (fun _ u (x : Int) => u = .int .i64 x) wr w.heap.size l.length (l.take k)) ∧ Hid (Below w.heap.size w wr)) (fun iv _ => l.length - (intOf iv).toNat)
  case atStart => exact ⟨0, Nat.zero_le _, rfl, by rw [List.take_zero]; exact HT, Lib.hid ((Below.refl _ _).alloc (Nat.le_refl _) _)⟩
  case round =>
    obtain ⟨k, hk, rfl, hT, hB⟩ := hrel
    by_cases hlt : k < l.length
    · obtain ⟨x, hx⟩ : ∃ x, l[k]? = some x := ⟨_, List.getElem?_eq_getElem hlt⟩
      obtain ⟨b, o, u, rfl, _, hb, hc, rfl⟩ := SlG.get HV.out hx
      have hcr := ((Keep.of_below (S := Any) hB.out).cell (b := b) (o := o + k) trivial hb).trans hc
      obtain ⟨⟨s1, f1⟩, f2⟩ := hT.out.cellF hlt
      have HN := Lib.hid (show TabG 2 (fun _ u (x : Int) => u = .int .i64 x) (wr.setCell ⟨w.heap.size, k, none⟩ (.int .i64 x)) w.heap.size l.length (l.take (k + 1)) from by
        rw [take_succ hx]; exact hT.out.push (take_len hk) hlt (fun _ _ h => h) rfl)
      have HNB := Lib.hid (hB.out.setCell (p := ⟨w.heap.size, k, none⟩) (Nat.le_refl _) (.int .i64 x))
      clear hx hc
      go_wp2_with fail
      go_roundw
      case rel => exact ⟨k + 1, by omega, by go_num, HN, HNB⟩
      case measure => simp [intOf]; omega
    · obtain rfl : k = l.length := by omega
      have HR := Lib.hid (show NewG SlI l w (.returned (.slice (some ⟨w.heap.size, 0, none⟩) l.length l.length)) wr from ⟨_, rfl, TabG.sl (by have h := hT.out; rwa [List.take_length] at h) (Nat.le_refl _), hB.out⟩)
      go_wp2_with fail
      go_ret
      exact HR.out

set_option maxRecDepth 100000 in
set_option maxHeartbeats 1000000 in
theorem toII_any (w : World) (v : Value) (l : List (List Int)) (hv : Sl2 Any w v l) (hl : B2 1048576 l) :
    Calls Tryz.prog 22 #[v] w (NewG Sl2 l w) := by
  obtain ⟨ao, c, rfl, _, _⟩ := SlG.form hv
  have HV := Lib.hid hv
  have HL := Lib.hid hl
  have hmk := mkII l.length hl.1
  have hl63 : (l.length : Int) ≤ 9223372036854775807 := by have := hl.1; omega
  have HT := Lib.hid (TabG.made (e := 22) (R := fun W u (x : List Int) => SlI (fun b => w.heap.size < b) W u x) w (.slice none 0 0) l.length (by have := hl.1; unfold maxLen; omega))
  clear hv hl
  go_enter Tryz.func22, Tryz.ntmps22
  go_wp2_with fail
  go_loopw [4] (fun iv wr => ∃ k : Nat, k ≤ l.length ∧ iv = .int .i64 (k : Int) ∧ Hid (TabG 22 (fun W u (x : List Int) => SlI (fun b => w.heap.size < b) W u x) wr w.heap.size l.length (l.take k)) ∧ Hid (Below w.heap.size w wr)) (fun iv _ => l.length - (intOf iv).toNat)
  case atStart => exact ⟨0, Nat.zero_le _, rfl, by rw [List.take_zero]; exact HT, Lib.hid ((Below.refl _ _).alloc (Nat.le_refl _) _)⟩
  case round =>
    obtain ⟨k, hk, rfl, hT, hB⟩ := hrel
    by_cases hlt : k < l.length
    · obtain ⟨x, hx⟩ : ∃ x, l[k]? = some x := ⟨_, List.getElem?_eq_getElem hlt⟩
      obtain ⟨b, o, u, rfl, _, hb, hc, hu⟩ := SlG.get HV.out hx
      have hcr := ((Keep.of_below (S := Any) hB.out).cell (b := b) (o := o + k) trivial hb).trans hc
      have HU := Lib.hid (SlI.keep hu (Keep.of_below hB.out))
      have HXL := Lib.hid (HL.out.2 x (List.mem_of_getElem? hx))
      have HX := Lib.hid hx
      have hsr := hT.out.lt
      clear hx hc hu
      go_wp2_with fail
      refine (toI_any _ _ x HU.out HXL.out).mono ?_
      rintro e w1 ⟨v1, rfl, h1, hb1⟩
      obtain ⟨a1, c1, rfl, _, _⟩ := SlG.form h1
      have HT1 := Lib.hid (hT.out.keep (S := Any) (Keep.of_below hb1) trivial (fun _ _ h => SlI.keep h (Keep.of_below hb1)))
      obtain ⟨⟨s1, f1⟩, f2⟩ := HT1.out.cellF hlt
      have HN := Lib.hid (show TabG 22 (fun W u (x : List Int) => SlI (fun b => w.heap.size < b) W u x) (w1.setCell ⟨w.heap.size, k, none⟩ (.slice a1 x.length c1)) w.heap.size l.length (l.take (k + 1)) from by
        rw [take_succ HX.out]; exact HT1.out.push (take_len hk) hlt (fun _ _ h => SlI_set (fun b hb => by omega) _ _ h) (h1.mono (fun b hb => Nat.lt_of_lt_of_le hsr hb)))
      have HNB := Lib.hid ((hB.out.trans (hb1.mono hB.out.size)).setCell (p := ⟨w.heap.size, k, none⟩) (Nat.le_refl _) (.slice a1 x.length c1))
      clear h1 hb1
      go_wp2_with fail
      go_roundw
      case rel => exact ⟨k + 1, by omega, by go_num, HN, HNB⟩
      case measure => simp [intOf]; omega
    · obtain rfl : k = l.length := by omega
      have HR := Lib.hid (show NewG Sl2 l w (.returned (.slice (some ⟨w.heap.size, 0, none⟩) l.length l.length)) wr from ⟨_, rfl, SlG.mono (TabG.sl (S := fun k => w.heap.size ≤ k) (by have h := hT.out; rwa [List.take_length] at h) (Nat.le_refl _)) (fun _ h => h) (fun _ _ h => SlI.mono h (fun b hb => Nat.le_of_lt hb)), hB.out⟩)
      go_wp2_with fail
      go_ret
      exact HR.out

set_option maxRecDepth 100000 in
set_option maxHeartbeats 1000000 in
theorem toIII_any (w : World) (v : Value) (l : List (List (List Int))) (hv : Sl3 Any w v l) (hl : B3 1048576 l) :
    Calls Tryz.prog 23 #[v] w (NewG Sl3 l w) := by
  obtain ⟨ao, c, rfl, _, _⟩ := SlG.form hv
  have HV := Lib.hid hv
  have HL := Lib.hid hl
  have hmk := mkIII l.length hl.1
  have hl63 : (l.length : Int) ≤ 9223372036854775807 := by have := hl.1; omega
  have HT := Lib.hid (TabG.made (e := 23) (R := fun W u (x : List (List Int)) => Sl2 (fun b => w.heap.size < b) W u x) w (.slice none 0 0) l.length (by have := hl.1; unfold maxLen; omega))
  clear hv hl
  go_enter Tryz.func23, Tryz.ntmps23
  go_wp2_with fail
  go_loopw [4] (fun iv wr => ∃ k : Nat, k ≤ l.length ∧ iv = .int .i64 (k : Int) ∧ Hid (TabG 23 (fun W u (x : List (List Int)) => Sl2 (fun b => w.heap.size < b) W u x) wr w.heap.size l.length (l.take k)) ∧ Hid (Below w.heap.size w wr)) (fun iv _ => l.length - (intOf iv).toNat)
  case atStart => exact ⟨0, Nat.zero_le _, rfl, by rw [List.take_zero]; exact HT, Lib.hid ((Below.refl _ _).alloc (Nat.le_refl _) _)⟩
  case round =>
    obtain ⟨k, hk, rfl, hT, hB⟩ := hrel
    by_cases hlt : k < l.length
    · obtain ⟨x, hx⟩ : ∃ x, l[k]? = some x := ⟨_, List.getElem?_eq_getElem hlt⟩
      obtain ⟨b, o, u, rfl, _, hb, hc, hu⟩ := SlG.get HV.out hx
      have hcr := ((Keep.of_below (S := Any) hB.out).cell (b := b) (o := o + k) trivial hb).trans hc
      have HU := Lib.hid (Sl2.keep hu (Keep.of_below hB.out))
      have HXL := Lib.hid (HL.out.2 x (List.mem_of_getElem? hx))
      have HX := Lib.hid hx
      have hsr := hT.out.lt
      clear hx hc hu
      go_wp2_with fail
      refine (toII_any _ _ x HU.out HXL.out).mono ?_
      rintro e w1 ⟨v1, rfl, h1, hb1⟩
      obtain ⟨a1, c1, rfl, _, _⟩ := SlG.form h1
      have HT1 := Lib.hid (hT.out.keep (S := Any) (Keep.of_below hb1) trivial (fun _ _ h => Sl2.keep h (Keep.of_below hb1)))
      obtain ⟨⟨s1, f1⟩, f2⟩ := HT1.out.cellF hlt
      have HN := Lib.hid (show TabG 23 (fun W u (x : List (List Int)) => Sl2 (fun b => w.heap.size < b) W u x) (w1.setCell ⟨w.heap.size, k, none⟩ (.slice a1 x.length c1)) w.heap.size l.length (l.take (k + 1)) from by
        rw [take_succ HX.out]; exact HT1.out.push (take_len hk) hlt (fun _ _ h => Sl2_set (fun b hb => by omega) _ _ h) (Sl2.mono h1 (fun b hb => Nat.lt_of_lt_of_le hsr hb)))
      have HNB := Lib.hid ((hB.out.trans (hb1.mono hB.out.size)).setCell (p := ⟨w.heap.size, k, none⟩) (Nat.le_refl _) (.slice a1 x.length c1))
      clear h1 hb1
      go_wp2_with fail
      go_roundw
      case rel => exact ⟨k + 1, by omega, by go_num, HN, HNB⟩
      case measure => simp [intOf]; omega
    · obtain rfl : k = l.length := by omega
      have HR := Lib.hid (show NewG Sl3 l w (.returned (.slice (some ⟨w.heap.size, 0, none⟩) l.length l.length)) wr from ⟨_, rfl, SlG.mono (TabG.sl (S := fun k => w.heap.size ≤ k) (by have h := hT.out; rwa [List.take_length] at h) (Nat.le_refl _)) (fun _ h => h) (fun _ _ h => Sl2.mono h (fun b hb => Nat.le_of_lt hb)), hB.out⟩)
      go_wp2_with fail
      go_ret
      exact HR.out
end Go.Proofs.YtabkibmnghbahaaGreat.LawB

/-
  The law's own copies: toPresentation; the law's sizes.
-/
namespace Go.Proofs.YtabkibmnghbahaaGreat.LawC
open Go.RowKit Go.Proofs.YtabkibmnghbahaaGreat Go.Proofs.YtabkibmnghbahaaGreat.SpecB Go.Proofs.YtabkibmnghbahaaGreat.LawB
set_option linter.unusedVariables false
set_option linter.unusedSimpArgs false

def BP (N : Nat) (P : Pres) : Prop := B1 N P.os ∧ B2 N P.ps ∧ B3 N P.cs
def NewP (P : Pres) (w : World) (e : Ending) (w' : World) : Prop := ∃ vO vP vC, e = .returned (.agg #[vO, vP, vC]) ∧ ValP (fun k => w.heap.size ≤ k) w' vO vP vC P ∧ Below w.heap.size w w'
theorem blk {B : Nat} {w w' : World} (hb : Below B w w') {k : Nat} {o : Obj} (hk : k < B) (h : w.heap[k]? = some o) : w'.heap[k]? = some o := (hb.block k hk).trans h
theorem row3 {w : World} {g : Nat} {a b c : Value} {t : TypeId} (h : w.heap[g]? = some (.cells #[a, b, c] t (0, 0))) :
    (w.cell? ⟨g, 0, none⟩ = some a ∧ w.cell? ⟨g, 1, none⟩ = some b ∧ w.cell? ⟨g, 2, none⟩ = some c) ∧ w.frozen? ⟨g, 0, none⟩ = false ∧ w.frozen? ⟨g, 1, none⟩ = false ∧ w.frozen? ⟨g, 2, none⟩ = false :=
  ⟨⟨(cell_of_row _ _ _ _ _ _ h).trans rfl, (cell_of_row _ _ _ _ _ _ h).trans rfl, (cell_of_row _ _ _ _ _ _ h).trans rfl⟩, frozen_of_row _ _ _ _ _ h, frozen_of_row _ _ _ _ _ h, frozen_of_row _ _ _ _ _ h⟩
theorem new_blk {w : World} {o : Obj} : (w.alloc o).heap[w.heap.size]? = some o := heap_alloc_new w o
theorem old_blk {w : World} {o o' : Obj} {k : Nat} (h : w.heap[k]? = some o') : (w.alloc o).heap[k]? = some o' := (Below.heap_alloc w o k (Array.getElem?_eq_some_iff.1 h).1).trans h

theorem Sl3_set {S : Nat → Prop} {w : World} {g : Nat} (hS : ∀ b, S b → b ≠ g) (k : Nat) (u : Value) {v : Value} {r : List (List (List Int))} (h : Sl3 S w v r) : Sl3 S (w.setCell ⟨g, k, none⟩ u) v r := h.keep ((Keep.refl _ _).setCell (fun hg => hS g hg rfl) _)

theorem set_other {w w' : World} {a : Addr} {v : Value} (h : w' = w.setCell a v) {k : Nat} {o : Obj} (hk : k ≠ a.block) (hg : w.heap[k]? = some o) : w'.heap[k]? = some o := by
  rw [h]; exact (heap_setCell_other _ _ _ _ hk).trans hg

set_option maxRecDepth 100000 in
set_option maxHeartbeats 2000000 in
theorem toP_any (w : World) (pO pP pC : Value) (P : Pres) (hP : ValP Any w pO pP pC P) (hl : BP 1048576 P) :
    Calls Tryz.prog 7 #[.agg #[pO, pP, pC]] w (NewP P w) := by
  obtain ⟨aO, cO, rfl, _, _⟩ := SlG.form hP.os
  obtain ⟨aP, cP, rfl, _, _⟩ := SlG.form hP.ps
  obtain ⟨aC, cC, rfl, _, _⟩ := SlG.form hP.cs
  have HP := Lib.hid hP
  have HL := Lib.hid hl
  obtain ⟨n, hn⟩ : ∃ n, w.heap.size = n := ⟨_, rfl⟩
  have HNN := Lib.hid hn
  obtain ⟨W0, hW0⟩ : ∃ W0, W0 = (((w.alloc (.cells #[.slice aO P.os.length cO, .slice aP P.ps.length cP, .slice aC P.cs.length cC] 26)).alloc (.cells #[.slice none 0 0, .slice none 0 0, .slice none 0 0] 30)).alloc (.cells #[.slice none 0 0, .slice none 0 0, .slice none 0 0] 30)) := ⟨_, rfl⟩
  have HS0 := Lib.hid (show W0.heap.size = n + 3 by rw [hW0]; simp; omega)
  have G0 := Lib.hid (show W0.heap[n]? = some (.cells #[.slice aO P.os.length cO, .slice aP P.ps.length cP, .slice aC P.cs.length cC] 26 (0, 0)) by rw [hW0, ← hn]; exact old_blk (old_blk new_blk))
  have G1 := Lib.hid (show W0.heap[n + 1]? = some (.cells #[.slice none 0 0, .slice none 0 0, .slice none 0 0] 30 (0, 0)) by rw [hW0, ← hn]; exact old_blk ((congrArg _ (by simp)).trans new_blk))
  have G2 := Lib.hid (show W0.heap[n + 1 + 1]? = some (.cells #[.slice none 0 0, .slice none 0 0, .slice none 0 0] 30 (0, 0)) by rw [hW0, ← hn]; exact (congrArg _ (by simp)).trans new_blk)
  have HB0 := Lib.hid (show Below n w W0 by rw [hW0, ← hn]; exact (((Below.refl _ _).alloc (Nat.le_refl _) _).alloc (by simp) _).alloc (by simp; omega) _)
  have HK := Lib.hid (fun (W : World) (h : Below n w W) => (Keep.of_below (S := Any) (by rw [HNN.out]; exact h) : Keep Any w W))
  clear hP hl
  go_enter Tryz.func7, Tryz.ntmps7
  go_upto_region 2 with fail
  rw [← hW0]
  clear hW0
  clear hn
  obtain ⟨⟨x0, x1, x2⟩, _⟩ := row3 G0.out
  go_wp2_with fail
  refine (toI_any _ _ P.os (HP.out.os.keep (HK.out _ HB0.out)) HL.out.1).mono ?_
  rintro e w1 ⟨v1, rfl, h1, hb1⟩
  obtain ⟨a1, c1, rfl, _, _⟩ := SlG.form h1
  have HS1 := Lib.hid hb1.size
  have HB1 := Lib.hid (HB0.out.trans (hb1.mono (by rw [HS0.out]; omega)))
  have G01 := Lib.hid (blk hb1 (by rw [HS0.out]; omega) G0.out)
  have G11 := Lib.hid (blk hb1 (by rw [HS0.out]; omega) G1.out)
  have G21 := Lib.hid (blk hb1 (by rw [HS0.out]; omega) G2.out)
  have V1 := Lib.hid (SlI.mono h1 (fun b hb => (show n + 3 ≤ b by rw [← HS0.out]; exact hb)))
  obtain ⟨⟨s0, s1, s2⟩, f0, f1, f2⟩ := row3 G21.out
  clear x0 x1 x2 h1 hb1 G0 G1 G2
  go_upto_region 3 with fail
  obtain ⟨W1, hW1⟩ : ∃ W1, W1 = w1.setCell ⟨n + 1 + 1, 0, none⟩ (.slice a1 P.os.length c1) := ⟨_, rfl⟩
  rw [← hW1]
  have HS1' := Lib.hid (show n + 3 ≤ W1.heap.size by rw [hW1, World.size_setCell]; have := HS1.out; rw [HS0.out] at this; exact this)
  have HB1' := Lib.hid (show Below n w W1 by rw [hW1]; exact HB1.out.setCell (by show n ≤ n + 1 + 1; omega) _)
  have G02 := Lib.hid (set_other hW1 (by show n ≠ n + 1 + 1; omega) G01.out)
  have G12 := Lib.hid (set_other hW1 (by show n + 1 ≠ n + 1 + 1; omega) G11.out)
  have G22 := Lib.hid (show W1.heap[n + 1 + 1]? = some (.cells #[.slice a1 P.os.length c1, .slice none 0 0, .slice none 0 0] 30 (0, 0)) by rw [hW1]; exact heap_setCell_same _ _ _ _ _ _ G21.out)
  have V1' := Lib.hid (show SlI (fun b => n + 3 ≤ b) W1 (.slice a1 P.os.length c1) P.os by rw [hW1]; exact SlI_set (fun b hb => by omega) _ _ V1.out)
  clear hW1 s0 s1 s2 f0 f1 f2 G01 G11 G21 V1 HB1 HS1
  obtain ⟨⟨x0, x1, x2⟩, _⟩ := row3 G02.out
  go_wp2_with fail
  refine (toII_any _ _ P.ps (Sl2.keep HP.out.ps (HK.out _ HB1'.out)) HL.out.2.1).mono ?_
  rintro e w2 ⟨v2, rfl, h1, hb1⟩
  obtain ⟨a2, c2, rfl, _, _⟩ := SlG.form h1
  have HS2 := Lib.hid (Nat.le_trans HS1'.out hb1.size)
  have HB2 := Lib.hid (HB1'.out.trans (hb1.mono (by have := HS1'.out; omega)))
  have G01 := Lib.hid (blk hb1 (by have := HS1'.out; omega) G02.out)
  have G11 := Lib.hid (blk hb1 (by have := HS1'.out; omega) G12.out)
  have G21 := Lib.hid (blk hb1 (by have := HS1'.out; omega) G22.out)
  have V1 := Lib.hid (V1'.out.keep (Keep.of_below hb1))
  have V2 := Lib.hid (Sl2.mono h1 (fun b hb => (show n + 3 ≤ b from Nat.le_trans HS1'.out hb)))
  obtain ⟨⟨s0, s1, s2⟩, f0, f1, f2⟩ := row3 G21.out
  clear x0 x1 x2 h1 hb1 G02 G12 G22 V1' HB1' HS1'
  go_upto_region 4 with fail
  obtain ⟨W2, hW2⟩ : ∃ W2, W2 = w2.setCell ⟨n + 1 + 1, 1, none⟩ (.slice a2 P.ps.length c2) := ⟨_, rfl⟩
  rw [← hW2]
  have HS2' := Lib.hid (show n + 3 ≤ W2.heap.size by rw [hW2, World.size_setCell]; exact HS2.out)
  have HB2' := Lib.hid (show Below n w W2 by rw [hW2]; exact HB2.out.setCell (by show n ≤ n + 1 + 1; omega) _)
  have G02 := Lib.hid (set_other hW2 (by show n ≠ n + 1 + 1; omega) G01.out)
  have G12 := Lib.hid (set_other hW2 (by show n + 1 ≠ n + 1 + 1; omega) G11.out)
  have G22 := Lib.hid (show W2.heap[n + 1 + 1]? = some (.cells #[.slice a1 P.os.length c1, .slice a2 P.ps.length c2, .slice none 0 0] 30 (0, 0)) by rw [hW2]; exact heap_setCell_same _ _ _ _ _ _ G21.out)
  have V1' := Lib.hid (show SlI (fun b => n + 3 ≤ b) W2 (.slice a1 P.os.length c1) P.os by rw [hW2]; exact SlI_set (fun b hb => by omega) _ _ V1.out)
  have V2' := Lib.hid (show Sl2 (fun b => n + 3 ≤ b) W2 (.slice a2 P.ps.length c2) P.ps by rw [hW2]; exact Sl2_set (fun b hb => by omega) _ _ V2.out)
  clear hW2 s0 s1 s2 f0 f1 f2 G01 G11 G21 V1 V2 HB2 HS2
  obtain ⟨⟨x0, x1, x2⟩, _⟩ := row3 G02.out
  go_wp2_with fail
  refine (toIII_any _ _ P.cs (Sl3.keep HP.out.cs (HK.out _ HB2'.out)) HL.out.2.2).mono ?_
  rintro e w3 ⟨v3, rfl, h1, hb1⟩
  obtain ⟨a3, c3, rfl, _, _⟩ := SlG.form h1
  have HS3 := Lib.hid (Nat.le_trans HS2'.out hb1.size)
  have HB3 := Lib.hid (HB2'.out.trans (hb1.mono (by have := HS2'.out; omega)))
  have G01 := Lib.hid (blk hb1 (by have := HS2'.out; omega) G02.out)
  have G11 := Lib.hid (blk hb1 (by have := HS2'.out; omega) G12.out)
  have G21 := Lib.hid (blk hb1 (by have := HS2'.out; omega) G22.out)
  have V1 := Lib.hid (V1'.out.keep (Keep.of_below hb1))
  have V2 := Lib.hid (Sl2.keep V2'.out (Keep.of_below hb1))
  have V3 := Lib.hid (Sl3.mono h1 (fun b hb => (show n + 3 ≤ b from Nat.le_trans HS2'.out hb)))
  obtain ⟨⟨s0, s1, s2⟩, f0, f1, f2⟩ := row3 G21.out
  clear x0 x1 x2 h1 hb1 G02 G12 G22 V1' V2' HB2' HS2'
  go_upto_region 5 with fail
  obtain ⟨W3, hW3⟩ : ∃ W3, W3 = w3.setCell ⟨n + 1 + 1, 2, none⟩ (.slice a3 P.cs.length c3) := ⟨_, rfl⟩
  rw [← hW3]
  have HB3' := Lib.hid (show Below n w W3 by rw [hW3]; exact HB3.out.setCell (by show n ≤ n + 1 + 1; omega) _)
  have G12 := Lib.hid (set_other hW3 (by show n + 1 ≠ n + 1 + 1; omega) G11.out)
  have G22 := Lib.hid (show W3.heap[n + 1 + 1]? = some (.cells #[.slice a1 P.os.length c1, .slice a2 P.ps.length c2, .slice a3 P.cs.length c3] 30 (0, 0)) by rw [hW3]; exact heap_setCell_same _ _ _ _ _ _ G21.out)
  have V1' := Lib.hid (show SlI (fun b => n + 3 ≤ b) W3 (.slice a1 P.os.length c1) P.os by rw [hW3]; exact SlI_set (fun b hb => by omega) _ _ V1.out)
  have V2' := Lib.hid (show Sl2 (fun b => n + 3 ≤ b) W3 (.slice a2 P.ps.length c2) P.ps by rw [hW3]; exact Sl2_set (fun b hb => by omega) _ _ V2.out)
  have V3' := Lib.hid (show Sl3 (fun b => n + 3 ≤ b) W3 (.slice a3 P.cs.length c3) P.cs by rw [hW3]; exact Sl3_set (fun b hb => by omega) _ _ V3.out)
  clear hW3 s0 s1 s2 f0 f1 f2 G01 G11 G21 V1 V2 V3 HB3 HS3
  obtain ⟨⟨s0, s1, s2⟩, _⟩ := row3 G22.out
  obtain ⟨⟨x0, x1, x2⟩, f0, f1, f2⟩ := row3 G12.out
  go_wp2_with fail
  have HR := Lib.hid (show NewP P w (.returned (.agg #[.slice a1 P.os.length c1, .slice a2 P.ps.length c2, .slice a3 P.cs.length c3])) (((W3.setCell ⟨n + 1, 0, none⟩ (.slice a1 P.os.length c1)).setCell ⟨n + 1, 1, none⟩ (.slice a2 P.ps.length c2)).setCell ⟨n + 1, 2, none⟩ (.slice a3 P.cs.length c3)) from by
    have hg : ∀ b, n + 3 ≤ b → b ≠ n + 1 := fun b hb => by omega
    refine ⟨_, _, _, rfl, ⟨?_, ?_, ?_⟩, ?_⟩
    · exact (SlI_set hg _ _ (SlI_set hg _ _ (SlI_set hg _ _ V1'.out))).mono (fun b hb => by rw [HNN.out]; omega)
    · exact Sl2.mono (Sl2_set hg _ _ (Sl2_set hg _ _ (Sl2_set hg _ _ V2'.out))) (fun b hb => by rw [HNN.out]; omega)
    · exact Sl3.mono (Sl3_set hg _ _ (Sl3_set hg _ _ (Sl3_set hg _ _ V3'.out))) (fun b hb => by rw [HNN.out]; omega)
    · rw [HNN.out]
      exact ((HB3'.out.setCell (by show n ≤ n + 1; omega) _).setCell (by show n ≤ n + 1; omega) _).setCell (by show n ≤ n + 1; omega) _)
  refine bodyPost_ret (v := .agg #[.slice a1 P.os.length c1, .slice a2 P.ps.length c2, .slice a3 P.cs.length c3]) ?_ rfl HR.out
  have G3 := heap_setCell_same _ (n + 1) 2 _ _ (.slice a3 P.cs.length c3) (heap_setCell_same _ (n + 1) 1 _ _ (.slice a2 P.ps.length c2) (heap_setCell_same _ (n + 1) 0 _ _ (.slice a1 P.os.length c1) G12.out))
  clear HR s0 s1 s2 x0 x1 x2 f0 f1 f2
  generalize (((W3.setCell ⟨n + 1, 0, none⟩ (.slice a1 P.os.length c1)).setCell ⟨n + 1, 1, none⟩ (.slice a2 P.ps.length c2)).setCell ⟨n + 1, 2, none⟩ (.slice a3 P.cs.length c3)) = W4 at G3 ⊢
  obtain ⟨⟨y0, y1, y2⟩, _⟩ := row3 G3
  simp [results, Tryz.results7, go_sem, y0, y1, y2]
end Go.Proofs.YtabkibmnghbahaaGreat.LawC

/-
  The law's sizes.
-/
namespace Go.Proofs.YtabkibmnghbahaaGreat.LawD
open Go.RowKit Go.Proofs.YtabkibmnghbahaaGreat Go.Proofs.YtabkibmnghbahaaGreat.SpecB Go.Proofs.YtabkibmnghbahaaGreat.LawB Go.Proofs.YtabkibmnghbahaaGreat.LawC
set_option linter.unusedVariables false
set_option linter.unusedSimpArgs false

/-- what is left, or -1 -/
def SzV (left : Nat) (Bd : Prop) (r : Int) : Prop := r = -1 ∨ ∃ m : Nat, r = (m : Int) ∧ m ≤ left ∧ Bd
def SzR (left : Nat) (Bd : Prop) (w : World) (e : Ending) (w' : World) : Prop := (∃ r : Int, e = .returned (.int .i64 r) ∧ SzV left Bd r) ∧ w = w'

set_option maxHeartbeats 400000 in
theorem szI_any (w : World) (v : Value) (l : List Int) (hv : SlI Any w v l) (left : Nat) (hl : (left : Int) ≤ 9223372036854775807) :
    Calls Tryz.prog 16 #[v, .int .i64 (left : Int)] w (SzR left (B1 left l) w) := by
  obtain ⟨ao, c, rfl, h1, h2⟩ := hv.form
  unfold maxLen at h2
  have hc : (l.length : Int) ≤ 9223372036854775807 := by omega
  clear hv h2
  by_cases hle : l.length ≤ left
  · have hd : decide ((left : Int) - (l.length : Int) < 0) = false := by simp; omega
    go_enter Tryz.func16, Tryz.ntmps16
    go_wp2_with fail
    go_ret
    exact ⟨⟨_, rfl, .inr ⟨left - l.length, by omega, by omega, hle⟩⟩, rfl⟩
  · have hd : decide ((left : Int) - (l.length : Int) < 0) = true := by simp; omega
    go_enter Tryz.func16, Tryz.ntmps16
    go_wp2_with fail
    go_ret
    exact ⟨⟨_, rfl, .inl rfl⟩, rfl⟩

set_option maxHeartbeats 1000000 in
theorem szII_any (w : World) (v : Value) (l : List (List Int)) (hv : Sl2 Any w v l) (left : Nat) (hl : (left : Int) ≤ 9223372036854775807) :
    Calls Tryz.prog 17 #[v, .int .i64 (left : Int)] w (SzR left (B2 left l) w) := by
  obtain ⟨ao, c, rfl, h1, h2⟩ := SlG.form hv
  unfold maxLen at h2
  have hc : (l.length : Int) ≤ 9223372036854775807 := by omega
  have HV := Lib.hid hv
  clear hv h2
  by_cases hle : l.length ≤ left
  · have hd : decide ((left : Int) - (l.length : Int) < 0) = false := by simp; omega
    have hd2 : decide (left < l.length) = false := by simp; omega
    have hsub : (left : Int) - (l.length : Int) = ((left - l.length : Nat) : Int) := by omega
    have HSUB := Lib.hid hsub
    clear hsub
    go_enter Tryz.func17, Tryz.ntmps17
    go_wp2_with fail
    go_loop [1, 5] (fun tv iv => ∃ k m : Nat, k ≤ l.length ∧ iv = .int .i64 (k : Int) ∧ m ≤ left ∧ tv = .int .i64 (m : Int) ∧ Hid (∀ r ∈ l.take k, B1 left r)) (fun _ iv => l.length - (intOf iv).toNat)
    case atStart => exact ⟨0, left - l.length, Nat.zero_le _, rfl, by omega, congrArg (Value.int .i64) HSUB.out, Lib.hid (by simp)⟩
    case round =>
      obtain ⟨k, m, hk, rfl, hm, rfl, hB⟩ := hrel
      clear hd hd2
      by_cases hlt : k < l.length
      · obtain ⟨x, hx⟩ : ∃ x, l[k]? = some x := ⟨_, List.getElem?_eq_getElem hlt⟩
        obtain ⟨b, o, u, rfl, _, hb, hcell, hu⟩ := SlG.get HV.out hx
        have HU := Lib.hid hu
        have HX := Lib.hid hx
        clear hx hu
        go_wp2_with fail
        refine (szI_any _ u x HU.out m (by omega)).mono ?_
        rintro e w' ⟨⟨r, rfl, hr⟩, rfl⟩
        rcases hr with rfl | ⟨m', rfl, hm', hB'⟩
        · go_wp2_with fail
          go_ret
          exact ⟨⟨_, rfl, .inl rfl⟩, rfl⟩
        · have HN := Lib.hid (show ∀ r ∈ l.take (k + 1), B1 left r from by
            rw [take_succ HX.out]
            intro r hr
            rcases List.mem_append.1 hr with h | h
            · exact hB.out r h
            · obtain rfl := List.mem_singleton.1 h
              exact Nat.le_trans hB' hm)
          have hm2 : m' ≤ left := by omega
          clear hB' hB
          go_wp2_with fail
          go_round
          case rel => exact ⟨k + 1, m', by omega, by go_num, hm2, rfl, HN⟩
          case measure => simp [intOf]; omega
      · obtain rfl : k = l.length := by omega
        have HR := Lib.hid (show SzR left (B2 left l) w (.returned (.int .i64 (m : Int))) w from ⟨⟨_, rfl, .inr ⟨m, rfl, hm, hle, by have h := hB.out; rwa [List.take_length] at h⟩⟩, rfl⟩)
        go_wp2_with fail
        go_ret
        exact HR.out
  · have hd : decide ((left : Int) - (l.length : Int) < 0) = true := by simp; omega
    have hd2 : decide (left < l.length) = true := by simp; omega
    go_enter Tryz.func17, Tryz.ntmps17
    go_wp2_with fail
    go_ret
    exact ⟨⟨_, rfl, .inl rfl⟩, rfl⟩

set_option maxHeartbeats 1000000 in
theorem szIII_any (w : World) (v : Value) (l : List (List (List Int))) (hv : Sl3 Any w v l) (left : Nat) (hl : (left : Int) ≤ 9223372036854775807) :
    Calls Tryz.prog 18 #[v, .int .i64 (left : Int)] w (SzR left (B3 left l) w) := by
  obtain ⟨ao, c, rfl, h1, h2⟩ := SlG.form hv
  unfold maxLen at h2
  have hc : (l.length : Int) ≤ 9223372036854775807 := by omega
  have HV := Lib.hid hv
  clear hv h2
  by_cases hle : l.length ≤ left
  · have hd : decide ((left : Int) - (l.length : Int) < 0) = false := by simp; omega
    have hd2 : decide (left < l.length) = false := by simp; omega
    have hsub : (left : Int) - (l.length : Int) = ((left - l.length : Nat) : Int) := by omega
    have HSUB := Lib.hid hsub
    clear hsub
    go_enter Tryz.func18, Tryz.ntmps18
    go_wp2_with fail
    go_loop [1, 5] (fun tv iv => ∃ k m : Nat, k ≤ l.length ∧ iv = .int .i64 (k : Int) ∧ m ≤ left ∧ tv = .int .i64 (m : Int) ∧ Hid (∀ r ∈ l.take k, B2 left r)) (fun _ iv => l.length - (intOf iv).toNat)
    case atStart => exact ⟨0, left - l.length, Nat.zero_le _, rfl, by omega, congrArg (Value.int .i64) HSUB.out, Lib.hid (by simp)⟩
    case round =>
      obtain ⟨k, m, hk, rfl, hm, rfl, hB⟩ := hrel
      clear hd hd2
      by_cases hlt : k < l.length
      · obtain ⟨x, hx⟩ : ∃ x, l[k]? = some x := ⟨_, List.getElem?_eq_getElem hlt⟩
        obtain ⟨b, o, u, rfl, _, hb, hcell, hu⟩ := SlG.get HV.out hx
        have HU := Lib.hid hu
        have HX := Lib.hid hx
        clear hx hu
        go_wp2_with fail
        refine (szII_any _ u x HU.out m (by omega)).mono ?_
        rintro e w' ⟨⟨r, rfl, hr⟩, rfl⟩
        rcases hr with rfl | ⟨m', rfl, hm', hB'⟩
        · go_wp2_with fail
          go_ret
          exact ⟨⟨_, rfl, .inl rfl⟩, rfl⟩
        · have HN := Lib.hid (show ∀ r ∈ l.take (k + 1), B2 left r from by
            rw [take_succ HX.out]
            intro r hr
            rcases List.mem_append.1 hr with h | h
            · exact hB.out r h
            · obtain rfl := List.mem_singleton.1 h
              exact ⟨Nat.le_trans hB'.1 hm, fun r hr => Nat.le_trans (hB'.2 r hr) hm⟩)
          have hm2 : m' ≤ left := by omega
          clear hB' hB
          go_wp2_with fail
          go_round
          case rel => exact ⟨k + 1, m', by omega, by go_num, hm2, rfl, HN⟩
          case measure => simp [intOf]; omega
      · obtain rfl : k = l.length := by omega
        have HR := Lib.hid (show SzR left (B3 left l) w (.returned (.int .i64 (m : Int))) w from ⟨⟨_, rfl, .inr ⟨m, rfl, hm, hle, by have h := hB.out; rwa [List.take_length] at h⟩⟩, rfl⟩)
        go_wp2_with fail
        go_ret
        exact HR.out
  · have hd : decide ((left : Int) - (l.length : Int) < 0) = true := by simp; omega
    have hd2 : decide (left < l.length) = true := by simp; omega
    go_enter Tryz.func18, Tryz.ntmps18
    go_wp2_with fail
    go_ret
    exact ⟨⟨_, rfl, .inl rfl⟩, rfl⟩

def SzPR (left : Nat) (Bd : Prop) (w : World) (e : Ending) (w' : World) : Prop := (∃ r : Int, e = .returned (.int .i64 r) ∧ SzV left Bd r) ∧ Below w.heap.size w w'
theorem B1.le {N M : Nat} (h : N ≤ M) {l : List Int} (hl : B1 N l) : B1 M l := Nat.le_trans hl h
theorem B2.le {N M : Nat} (h : N ≤ M) {l : List (List Int)} (hl : B2 N l) : B2 M l := ⟨Nat.le_trans hl.1 h, fun r hr => B1.le h (hl.2 r hr)⟩
theorem B3.le {N M : Nat} (h : N ≤ M) {l : List (List (List Int))} (hl : B3 N l) : B3 M l := ⟨Nat.le_trans hl.1 h, fun r hr => B2.le h (hl.2 r hr)⟩
theorem BP.le {N M : Nat} (h : N ≤ M) {P : Pres} (hl : BP N P) : BP M P := ⟨B1.le h hl.1, B2.le h hl.2.1, B3.le h hl.2.2⟩

set_option maxHeartbeats 1000000 in
theorem szP_any (w : World) (pO pP pC : Value) (P : Pres) (hP : ValP Any w pO pP pC P) (left : Nat) (hl : (left : Int) ≤ 9223372036854775807) :
    Calls Tryz.prog 5 #[.agg #[pO, pP, pC], .int .i64 (left : Int)] w (SzPR left (BP left P) w) := by
  have HP := Lib.hid (hP.keep ((Keep.refl _ _).alloc (.cells #[pO, pP, pC] 26)))
  have HB0 := Lib.hid ((Below.refl w.heap.size w).alloc (Nat.le_refl _) (.cells #[pO, pP, pC] 26))
  clear hP
  go_enter Tryz.func5, Tryz.ntmps5
  go_wp2_with fail
  refine (szI_any _ pO P.os HP.out.os left hl).mono ?_
  rintro e w' ⟨⟨r, rfl, hr⟩, rfl⟩
  rcases hr with rfl | ⟨m1, rfl, hm1, hB1⟩
  · go_wp2_with fail
    go_ret
    exact ⟨⟨_, rfl, .inl rfl⟩, HB0.out⟩
  have HB1 := Lib.hid hB1
  clear hB1
  go_wp2_with fail
  refine (szII_any _ pP P.ps HP.out.ps m1 (by omega)).mono ?_
  rintro e w' ⟨⟨r, rfl, hr⟩, rfl⟩
  rcases hr with rfl | ⟨m2, rfl, hm2, hB2⟩
  · go_wp2_with fail
    go_ret
    exact ⟨⟨_, rfl, .inl rfl⟩, HB0.out⟩
  have HB2 := Lib.hid hB2
  clear hB2
  go_wp2_with fail
  refine (szIII_any _ pC P.cs HP.out.cs m2 (by omega)).mono ?_
  rintro e w' ⟨⟨r, rfl, hr⟩, rfl⟩
  rcases hr with rfl | ⟨m3, rfl, hm3, hB3⟩
  · go_wp2_with fail
    go_ret
    exact ⟨⟨_, rfl, .inl rfl⟩, HB0.out⟩
  have HR := Lib.hid (show SzV left (BP left P) (m3 : Int) from .inr ⟨m3, rfl, by omega, HB1.out, B2.le hm1 HB2.out, B3.le (by omega) hB3⟩)
  clear hB3
  go_wp2_with fail
  go_ret
  exact ⟨⟨_, rfl, HR.out⟩, HB0.out⟩
end Go.Proofs.YtabkibmnghbahaaGreat.LawD

/-
  The law's comparisons.
-/
namespace Go.Proofs.YtabkibmnghbahaaGreat.LawE
open Go.RowKit Go.Proofs.YtabkibmnghbahaaGreat Go.Proofs.YtabkibmnghbahaaGreat.SpecB Go.Proofs.YtabkibmnghbahaaGreat.LawB Go.Proofs.YtabkibmnghbahaaGreat.LawC
set_option linter.unusedVariables false
set_option linter.unusedSimpArgs false

/-- two data are compared -/
def EqR (c : Prop) (w : World) (e : Ending) (w' : World) : Prop := ∃ b : Bool, e = .returned (.bool b) ∧ (b = true ↔ c) ∧ ∃ n, w' = w.drewN n
theorem EqR.t {c : Prop} {w w' : World} (hc : c) (h : ∃ n, w' = w.drewN n) : EqR c w (.returned (.bool true)) w' := ⟨true, rfl, ⟨fun _ => hc, fun _ => rfl⟩, h⟩
theorem EqR.f {c : Prop} {w w' : World} (hc : ¬ c) (h : ∃ n, w' = w.drewN n) : EqR c w (.returned (.bool false)) w' := ⟨false, rfl, ⟨fun h => absurd h (by simp), fun h => absurd h hc⟩, h⟩
theorem eqr_T {f : FuncId} {args : Array Value} {c : Prop} {w : World} (hc : c) (h : Calls Tryz.prog f args w (EqR c w)) : Calls Tryz.prog f args w fun e w' => e = .returned (.bool true) ∧ ∃ n, w' = w.drewN n :=
  h.mono fun e w' ⟨b, h1, h2, h3⟩ => ⟨by rw [h1, h2.2 hc], h3⟩
theorem eqr_F {f : FuncId} {args : Array Value} {c : Prop} {w : World} (hc : ¬ c) (h : Calls Tryz.prog f args w (EqR c w)) : Calls Tryz.prog f args w fun e w' => e = .returned (.bool false) ∧ ∃ n, w' = w.drewN n :=
  h.mono fun e w' ⟨b, h1, h2, h3⟩ => ⟨by
    cases b with
    | false => exact h1
    | true => exact absurd (h2.1 rfl) hc, h3⟩
theorem drewN_two {w w1 w2 : World} (h1 : ∃ n, w1 = w.drewN n) (h2 : ∃ n, w2 = w1.drewN n) : ∃ n, w2 = w.drewN n := by
  obtain ⟨a, rfl⟩ := h1
  obtain ⟨b, rfl⟩ := h2
  exact ⟨a + b, by rw [World.drewN_drewN]⟩
theorem keepN {S : Nat → Prop} {w w' : World} (h : ∃ n, w' = w.drewN n) : Keep S w w' := by
  obtain ⟨n, rfl⟩ := h
  exact (Keep.refl _ _).drewN n
theorem ext_len {α : Type} {a b : List α} (hl : a.length = b.length) (h : ∀ j, j < a.length → a[j]? = b[j]?) : a = b := by
  apply List.ext_getElem?
  intro j
  by_cases hj : j < a.length
  · exact h j hj
  · rw [List.getElem?_eq_none (by omega), List.getElem?_eq_none (by omega)]

set_option maxHeartbeats 1000000 in
theorem eqI_any (w : World) (va vb : Value) (a b : List Int) (ha : SlI Any w va a) (hb : SlI Any w vb b) :
    Calls Tryz.prog 30 #[va, vb] w (EqR (a = b) w) := by
  obtain ⟨aA, cA, rfl, _, hmA, _, hA⟩ := ha
  obtain ⟨aB, cB, rfl, _, hmB, _, hB⟩ := hb
  unfold maxLen at hmA hmB
  have hA63 : (a.length : Int) ≤ 9223372036854775807 := by omega
  clear hmA hmB
  by_cases hl : a.length = b.length
  · have hl2 : ((a.length : Int) != (b.length : Int)) = false := by simp; omega
    have HA := Lib.hid hA
    have HB := Lib.hid hB
    have HL := Lib.hid hl
    clear hA hB hl
    go_enter Tryz.func30, Tryz.ntmps30
    go_wp2_with fail
    go_loopw [5] (fun i wr => ∃ k : Nat, k ≤ a.length ∧ i = .int .i64 (k : Int) ∧ Hid ((∀ j, j < k → a[j]? = b[j]?) ∧ ∃ n, wr = w.drewN n)) (fun i _ => a.length - (intOf i).toNat)
    case atStart => exact ⟨0, Nat.zero_le _, rfl, Lib.hid ⟨fun j h => absurd h (Nat.not_lt_zero _), 0, rfl⟩⟩
    case round =>
      obtain ⟨k, hk, rfl, hR⟩ := hrel
      obtain ⟨m, hw⟩ := hR.out.2
      subst hw
      by_cases hlt : k < a.length
      · obtain ⟨x, hx⟩ : ∃ x, a[k]? = some x := ⟨_, List.getElem?_eq_getElem hlt⟩
        obtain ⟨y, hy⟩ : ∃ y, b[k]? = some y := ⟨_, List.getElem?_eq_getElem (by rw [← HL.out]; exact hlt)⟩
        obtain ⟨bA, oA, rfl, _, hbA, u, hcA, rfl⟩ := HA.out k x hx
        obtain ⟨bB, oB, rfl, _, hbB, u, hcB, rfl⟩ := HB.out k y hy
        have hk2 : k < b.length := by rw [← HL.out]; exact hlt
        have HX := Lib.hid hx
        have HY := Lib.hid hy
        have w4 : (k : Int) < (a.length : Int) := by omega
        have w5 : (0 : Int) ≤ (k : Int) := by omega
        have w6 : (k : Int) < (b.length : Int) := by omega
        clear hx hy
        by_cases hxy : x = y
        · have h2 : (x != y) = false := by simp [hxy]
          have HXY := Lib.hid hxy
          clear hxy
          go_wp2_with fail
          go_quiet (fail)
          go_wp2_with fail
          go_roundw
          case rel => exact ⟨k + 1, by omega, by go_num, Lib.hid ⟨fun j hj => by
              rcases Nat.lt_succ_iff_lt_or_eq.1 hj with h | h
              · exact hR.out.1 j h
              · subst h; rw [HX.out, HY.out, HXY.out], m + nq, by first | rfl | rw [World.drewN_drewN]⟩⟩
          case measure => simp [intOf]; omega
        · have h2 : (x != y) = true := by simpa using hxy
          have HXY := Lib.hid hxy
          clear hxy
          go_wp2_with fail
          go_quiet (fail)
          go_wp2_with fail
          go_ret
          refine EqR.f (fun e => ?_) ⟨m + nq, by first | rfl | rw [World.drewN_drewN]⟩
          rw [e, HY.out] at HX
          exact HXY.out (Option.some.inj HX.out).symm
      · obtain rfl : k = a.length := by omega
        go_wp2_with fail
        go_ret
        exact EqR.t (ext_len HL.out (fun j hj => hR.out.1 j hj)) ⟨m, rfl⟩
  · have hl2 : ((a.length : Int) != (b.length : Int)) = true := by simp; omega
    clear hA hB
    go_enter Tryz.func30, Tryz.ntmps30
    go_wp2_with fail
    go_ret
    exact EqR.f (fun e => hl (by rw [e])) ⟨0, rfl⟩

set_option maxHeartbeats 1000000 in
theorem eqII_any (w : World) (va vb : Value) (a b : List (List Int)) (ha : Sl2 Any w va a) (hb : Sl2 Any w vb b) :
    Calls Tryz.prog 31 #[va, vb] w (EqR (a = b) w) := by
  obtain ⟨aA, cA, rfl, _, hmA⟩ := SlG.form ha
  obtain ⟨aB, cB, rfl, _, hmB⟩ := SlG.form hb
  unfold maxLen at hmA hmB
  have hA63 : (a.length : Int) ≤ 9223372036854775807 := by omega
  have HA := Lib.hid ha
  have HB := Lib.hid hb
  clear hmA hmB ha hb
  by_cases hl : a.length = b.length
  · have hl2 : ((a.length : Int) != (b.length : Int)) = false := by simp; omega
    have HL := Lib.hid hl
    clear hl
    go_enter Tryz.func31, Tryz.ntmps31
    go_wp2_with fail
    go_loopw [5] (fun i wr => ∃ k : Nat, k ≤ a.length ∧ i = .int .i64 (k : Int) ∧ Hid ((∀ j, j < k → a[j]? = b[j]?) ∧ ∃ n, wr = w.drewN n)) (fun i _ => a.length - (intOf i).toNat)
    case atStart => exact ⟨0, Nat.zero_le _, rfl, Lib.hid ⟨fun j h => absurd h (Nat.not_lt_zero _), 0, rfl⟩⟩
    case round =>
      obtain ⟨k, hk, rfl, hR⟩ := hrel
      have HK := Lib.hid (keepN (S := Any) hR.out.2)
      by_cases hlt : k < a.length
      · obtain ⟨x, hx⟩ : ∃ x, a[k]? = some x := ⟨_, List.getElem?_eq_getElem hlt⟩
        obtain ⟨y, hy⟩ : ∃ y, b[k]? = some y := ⟨_, List.getElem?_eq_getElem (by rw [← HL.out]; exact hlt)⟩
        obtain ⟨bA, oA, uA, rfl, _, hbA, hcA, huA⟩ := SlG.get (Sl2.keep HA.out HK.out) hx
        obtain ⟨bB, oB, uB, rfl, _, hbB, hcB, huB⟩ := SlG.get (Sl2.keep HB.out HK.out) hy
        have hk2 : k < b.length := by rw [← HL.out]; exact hlt
        have HX := Lib.hid hx
        have HY := Lib.hid hy
        have HUA := Lib.hid huA
        have HUB := Lib.hid huB
        have w4 : (k : Int) < (a.length : Int) := by omega
        have w5 : (0 : Int) ≤ (k : Int) := by omega
        have w6 : (k : Int) < (b.length : Int) := by omega
        clear hx hy huA huB
        by_cases hxy : x = y
        · have HXY := Lib.hid hxy
          clear hxy
          go_wp2_with fail
          go_quiet ((go_at_call 30; exact Calls.quiet_of (eqr_T HXY.out (eqI_any _ _ _ x y (HUA.out.keep ((Keep.refl _ _).drewN _)) (HUB.out.keep ((Keep.refl _ _).drewN _))))))
          go_wp2_with fail
          go_roundw
          case rel => exact ⟨k + 1, by omega, by go_num, Lib.hid ⟨fun j hj => by
              rcases Nat.lt_succ_iff_lt_or_eq.1 hj with h | h
              · exact hR.out.1 j h
              · subst h; rw [HX.out, HY.out, HXY.out], drewN_two hR.out.2 ⟨nq, rfl⟩⟩⟩
          case measure => simp [intOf]; omega
        · have HXY := Lib.hid hxy
          clear hxy
          go_wp2_with fail
          go_quiet ((go_at_call 30; exact Calls.quiet_of (eqr_F HXY.out (eqI_any _ _ _ x y (HUA.out.keep ((Keep.refl _ _).drewN _)) (HUB.out.keep ((Keep.refl _ _).drewN _))))))
          go_wp2_with fail
          go_ret
          refine EqR.f (fun e => ?_) (drewN_two hR.out.2 ⟨nq, rfl⟩)
          rw [e, HY.out] at HX
          exact HXY.out (Option.some.inj HX.out).symm
      · obtain rfl : k = a.length := by omega
        go_wp2_with fail
        go_ret
        exact EqR.t (ext_len HL.out (fun j hj => hR.out.1 j hj)) hR.out.2
  · have hl2 : ((a.length : Int) != (b.length : Int)) = true := by simp; omega
    go_enter Tryz.func31, Tryz.ntmps31
    go_wp2_with fail
    go_ret
    exact EqR.f (fun e => hl (by rw [e])) ⟨0, rfl⟩
set_option maxHeartbeats 1000000 in
theorem eqIII_any (w : World) (va vb : Value) (a b : List (List (List Int))) (ha : Sl3 Any w va a) (hb : Sl3 Any w vb b) :
    Calls Tryz.prog 32 #[va, vb] w (EqR (a = b) w) := by
  obtain ⟨aA, cA, rfl, _, hmA⟩ := SlG.form ha
  obtain ⟨aB, cB, rfl, _, hmB⟩ := SlG.form hb
  unfold maxLen at hmA hmB
  have hA63 : (a.length : Int) ≤ 9223372036854775807 := by omega
  have HA := Lib.hid ha
  have HB := Lib.hid hb
  clear hmA hmB ha hb
  by_cases hl : a.length = b.length
  · have hl2 : ((a.length : Int) != (b.length : Int)) = false := by simp; omega
    have HL := Lib.hid hl
    clear hl
    go_enter Tryz.func32, Tryz.ntmps32
    go_wp2_with fail
    go_loopw [5] (fun i wr => ∃ k : Nat, k ≤ a.length ∧ i = .int .i64 (k : Int) ∧ Hid ((∀ j, j < k → a[j]? = b[j]?) ∧ ∃ n, wr = w.drewN n)) (fun i _ => a.length - (intOf i).toNat)
    case atStart => exact ⟨0, Nat.zero_le _, rfl, Lib.hid ⟨fun j h => absurd h (Nat.not_lt_zero _), 0, rfl⟩⟩
    case round =>
      obtain ⟨k, hk, rfl, hR⟩ := hrel
      have HK := Lib.hid (keepN (S := Any) hR.out.2)
      by_cases hlt : k < a.length
      · obtain ⟨x, hx⟩ : ∃ x, a[k]? = some x := ⟨_, List.getElem?_eq_getElem hlt⟩
        obtain ⟨y, hy⟩ : ∃ y, b[k]? = some y := ⟨_, List.getElem?_eq_getElem (by rw [← HL.out]; exact hlt)⟩
        obtain ⟨bA, oA, uA, rfl, _, hbA, hcA, huA⟩ := SlG.get (Sl3.keep HA.out HK.out) hx
        obtain ⟨bB, oB, uB, rfl, _, hbB, hcB, huB⟩ := SlG.get (Sl3.keep HB.out HK.out) hy
        have hk2 : k < b.length := by rw [← HL.out]; exact hlt
        have HX := Lib.hid hx
        have HY := Lib.hid hy
        have HUA := Lib.hid huA
        have HUB := Lib.hid huB
        have w4 : (k : Int) < (a.length : Int) := by omega
        have w5 : (0 : Int) ≤ (k : Int) := by omega
        have w6 : (k : Int) < (b.length : Int) := by omega
        clear hx hy huA huB
        by_cases hxy : x = y
        · have HXY := Lib.hid hxy
          clear hxy
          go_wp2_with fail
          go_quiet ((go_at_call 31; exact Calls.quiet_of (eqr_T HXY.out (eqII_any _ _ _ x y (Sl2.keep HUA.out ((Keep.refl _ _).drewN _)) (Sl2.keep HUB.out ((Keep.refl _ _).drewN _))))))
          go_wp2_with fail
          go_roundw
          case rel => exact ⟨k + 1, by omega, by go_num, Lib.hid ⟨fun j hj => by
              rcases Nat.lt_succ_iff_lt_or_eq.1 hj with h | h
              · exact hR.out.1 j h
              · subst h; rw [HX.out, HY.out, HXY.out], drewN_two hR.out.2 ⟨nq, rfl⟩⟩⟩
          case measure => simp [intOf]; omega
        · have HXY := Lib.hid hxy
          clear hxy
          go_wp2_with fail
          go_quiet ((go_at_call 31; exact Calls.quiet_of (eqr_F HXY.out (eqII_any _ _ _ x y (Sl2.keep HUA.out ((Keep.refl _ _).drewN _)) (Sl2.keep HUB.out ((Keep.refl _ _).drewN _))))))
          go_wp2_with fail
          go_ret
          refine EqR.f (fun e => ?_) (drewN_two hR.out.2 ⟨nq, rfl⟩)
          rw [e, HY.out] at HX
          exact HXY.out (Option.some.inj HX.out).symm
      · obtain rfl : k = a.length := by omega
        go_wp2_with fail
        go_ret
        exact EqR.t (ext_len HL.out (fun j hj => hR.out.1 j hj)) hR.out.2
  · have hl2 : ((a.length : Int) != (b.length : Int)) = true := by simp; omega
    go_enter Tryz.func32, Tryz.ntmps32
    go_wp2_with fail
    go_ret
    exact EqR.f (fun e => hl (by rw [e])) ⟨0, rfl⟩

def EqPR (c : Prop) (w : World) (e : Ending) (w' : World) : Prop := ∃ b : Bool, e = .returned (.bool b) ∧ (b = true ↔ c) ∧ Below w.heap.size w w'
theorem bel_drawn {B : Nat} {a w w' : World} (hb : Below B a w) (h : ∃ n, w' = w.drewN n) : Below B a w' := by
  obtain ⟨n, rfl⟩ := h
  exact below_drewN hb n
theorem Pres.ext3 {P Q : Pres} (h1 : P.os = Q.os) (h2 : P.ps = Q.ps) (h3 : P.cs = Q.cs) : P = Q := by
  cases P; cases Q; simp_all
theorem bx2 {w wr : World} {a0 a1 a2 b0 b1 b2 : Value} {t t2 : TypeId} (hb : Below (w.heap.size + 2) ((w.alloc (.cells #[a0, a1, a2] t)).alloc (.cells #[b0, b1, b2] t2)) wr) :
    (wr.cell? ⟨w.heap.size, 0, none⟩ = some a0 ∧ wr.cell? ⟨w.heap.size, 1, none⟩ = some a1 ∧ wr.cell? ⟨w.heap.size, 2, none⟩ = some a2) ∧
    (wr.cell? ⟨w.heap.size + 1, 0, none⟩ = some b0 ∧ wr.cell? ⟨w.heap.size + 1, 1, none⟩ = some b1 ∧ wr.cell? ⟨w.heap.size + 1, 2, none⟩ = some b2) ∧
    Keep (fun _ => True) w wr ∧ Below w.heap.size w wr ∧ w.heap.size + 2 ≤ wr.heap.size := by
  have h0 : wr.heap[w.heap.size]? = some (.cells #[a0, a1, a2] t (0, 0)) := blk hb (by omega) (old_blk new_blk)
  have h1 : wr.heap[w.heap.size + 1]? = some (.cells #[b0, b1, b2] t2 (0, 0)) := blk hb (by omega) ((congrArg _ (by simp)).trans new_blk)
  have hB : Below w.heap.size w wr := (((Below.refl _ _).alloc (Nat.le_refl _) _).alloc (by simp) _).trans (hb.mono (by omega))
  exact ⟨(row3 h0).1, (row3 h1).1, Keep.of_below hB, hB, by have := hb.size; simpa using this⟩

set_option maxHeartbeats 1000000 in
theorem eqP_any (w : World) (pO pP pC qO qP qC : Value) (P Q : Pres) (hP : ValP Any w pO pP pC P) (hQ : ValP Any w qO qP qC Q) :
    Calls Tryz.prog 9 #[.agg #[pO, pP, pC], .agg #[qO, qP, qC]] w (EqPR (P = Q) w) := by
  have HP := Lib.hid hP
  have HQ := Lib.hid hQ
  obtain ⟨W0, hW0⟩ : ∃ W0, W0 = (w.alloc (.cells #[pO, pP, pC] 30)).alloc (.cells #[qO, qP, qC] 30) := ⟨_, rfl⟩
  have HB0 := Lib.hid (show Below (w.heap.size + 2) ((w.alloc (.cells #[pO, pP, pC] 30)).alloc (.cells #[qO, qP, qC] 30)) W0 by rw [hW0]; exact Below.refl _ _)
  clear hP hQ
  go_enter Tryz.func9, Tryz.ntmps9
  go_upto_region 1 with fail
  rw [← hW0]
  clear hW0
  obtain ⟨⟨p0, p1, p2⟩, ⟨q0, q1, q2⟩, hk, hbw, hsz⟩ := bx2 HB0.out
  go_wp2_with fail
  refine (eqI_any _ pO qO _ _ (HP.out.os.keep hk) (HQ.out.os.keep hk)).mono ?_
  rintro e w1 ⟨b1, rfl, h1, hn1⟩
  have HB1 := Lib.hid (bel_drawn HB0.out hn1)
  have H1 := Lib.hid h1
  clear p0 p1 p2 q0 q1 q2 hk hbw hsz hn1 h1
  obtain ⟨⟨p0, p1, p2⟩, ⟨q0, q1, q2⟩, hk, hbw, hsz⟩ := bx2 HB1.out
  have HBW1 := Lib.hid hbw
  cases b1 with
  | false =>
    go_wp2_with fail
    go_ret
    exact ⟨false, rfl, ⟨fun h => by simp at h, fun h => H1.out.2 (by rw [h])⟩, HBW1.out⟩
  | true =>
    go_wp2_with fail
    refine (eqII_any _ pP qP _ _ (Sl2.keep HP.out.ps hk) (Sl2.keep HQ.out.ps hk)).mono ?_
    rintro e w2 ⟨b2, rfl, h2, hn2⟩
    have HB2 := Lib.hid (bel_drawn HB1.out hn2)
    have H2 := Lib.hid h2
    clear p0 p1 p2 q0 q1 q2 hk hbw hsz hn2 h2
    obtain ⟨⟨p0, p1, p2⟩, ⟨q0, q1, q2⟩, hk, hbw, hsz⟩ := bx2 HB2.out
    have HBW2 := Lib.hid hbw
    cases b2 with
    | false =>
      go_wp2_with fail
      go_ret
      exact ⟨false, rfl, ⟨fun h => by simp at h, fun h => H2.out.2 (by rw [h])⟩, HBW2.out⟩
    | true =>
      go_wp2_with fail
      refine (eqIII_any _ pC qC _ _ (Sl3.keep HP.out.cs hk) (Sl3.keep HQ.out.cs hk)).mono ?_
      rintro e w3 ⟨b3, rfl, h3, hn3⟩
      have HB3 := Lib.hid (bel_drawn HB2.out hn3)
      have H3 := Lib.hid h3
      have HBW3 := Lib.hid (bx2 HB3.out).2.2.2.1
      clear p0 p1 p2 q0 q1 q2 hk hbw hsz hn3 h3
      cases b3 with
      | false =>
        go_wp2_with fail
        go_ret
        exact ⟨false, rfl, ⟨fun h => by simp at h, fun h => H3.out.2 (by rw [h])⟩, HBW3.out⟩
      | true =>
        go_wp2_with fail
        go_ret
        exact ⟨true, rfl, ⟨fun h => Pres.ext3 (H1.out.1 (by first | trivial | rfl)) (H2.out.1 (by first | trivial | rfl)) (H3.out.1 (by first | trivial | rfl)), fun h => rfl⟩, HBW3.out⟩
end Go.Proofs.YtabkibmnghbahaaGreat.LawE

/-
  The arguments that came in, as data.
-/
namespace Go.Proofs.YtabkibmnghbahaaGreat.LawG
open Go.RowKit Go.ChangeShapes Go.WideShapes Go.Proofs.YtabkibmnghbahaaGreat Go.Proofs.YtabkibmnghbahaaGreat.SpecB
set_option linter.unusedVariables false
set_option linter.unusedSimpArgs false

section
variable {H : Type} {enc : TypeId × Value → H} {w : World} {base : Nat} {spare : Nat → Bool} {held : Bool}
theorem int_cell (n : Nat) (u : Value) (y : DataW H × List MemPlace) (h : DataW.trod enc Tryz.prog w base spare held n 2 [u] = some y) : ∃ z : Int, u = .int .i64 z := by
  obtain ⟨z, h1, _⟩ := DataW.trod_int Tryz.underlying2 h
  simp only [List.cons.injEq, and_true] at h1
  exact ⟨z, h1⟩
theorem sl1 {n : Nat} {v : Value} {y : DataW H × List MemPlace} (h : DataW.trod enc Tryz.prog w base spare held n 22 [v] = some y) : ∃ l, SlI Any w v l :=
  sl_of_trod Tryz.underlying22 (by kernel_rfl) (fun _ _ => trivial) (fun n u y hy => int_cell n u y hy) h
theorem sl2 {n : Nat} {v : Value} {y : DataW H × List MemPlace} (h : DataW.trod enc Tryz.prog w base spare held n 23 [v] = some y) : ∃ l, Sl2 Any w v l :=
  sl_of_trod Tryz.underlying23 (by kernel_rfl) (fun _ _ => trivial) (fun n u y hy => sl1 hy) h
theorem sl3 {n : Nat} {v : Value} {y : DataW H × List MemPlace} (h : DataW.trod enc Tryz.prog w base spare held n 24 [v] = some y) : ∃ l, Sl3 Any w v l :=
  sl_of_trod Tryz.underlying24 (by kernel_rfl) (fun _ _ => trivial) (fun n u y hy => sl2 hy) h
set_option maxRecDepth 100000 in
theorem open_pres {r : Reach} {b0 : Nat} {v : Value} {d : DataW H} {p : List MemPlace} (hv : Value.okWide Tryz.prog w r b0 26 v) (h : DataW.Trod enc Tryz.prog w base spare held 26 v d p) :
    ∃ c0 c1 c2 P, v = .agg #[c0, c1, c2] ∧ ValP Any w c0 c1 c2 P := by
  obtain ⟨c0, c1, c2, y0, y1, y2, n, rfl, _, _, t0, t1, t2⟩ := Joins.open_agg3 Tryz.underlying26 (by kernel_rfl) (by kernel_rfl) hv h
  obtain ⟨l0, h0⟩ := sl1 t0
  obtain ⟨l1, h1⟩ := sl2 t1
  obtain ⟨l2, h2⟩ := sl3 t2
  exact ⟨c0, c1, c2, ⟨l0, l1, l2⟩, rfl, h0, h1, h2⟩
theorem open_ints {v : Value} {d : DataW H} {p : List MemPlace} (hv : v.cells = #[v]) (h : DataW.Trod enc Tryz.prog w base spare held 22 v d p) : ∃ l, SlI Any w v l := by
  obtain ⟨fuel, hf⟩ := h
  rw [hv] at hf
  exact sl1 hf
theorem open_ints2 {v : Value} {d : DataW H} {p : List MemPlace} (hv : v.cells = #[v]) (h : DataW.Trod enc Tryz.prog w base spare held 23 v d p) : ∃ l, Sl2 Any w v l := by
  obtain ⟨fuel, hf⟩ := h
  rw [hv] at hf
  exact sl2 hf
end
end Go.Proofs.YtabkibmnghbahaaGreat.LawG

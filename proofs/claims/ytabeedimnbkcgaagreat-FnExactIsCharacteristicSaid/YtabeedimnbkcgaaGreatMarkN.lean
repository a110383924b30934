import Derived.Test.YtabeedimnbkcgaaGreatLawBG
/-
  Nothing that a call has made is frozen; the law's own copies once more.
-/
namespace Go.Proofs.YtabeedimnbkcgaaGreat.LawN
open Go.RowKit Go.Proofs.YtabeedimnbkcgaaGreat Go.Proofs.YtabeedimnbkcgaaGreat.SpecB Go.Proofs.YtabeedimnbkcgaaGreat.LawB Go.Proofs.YtabeedimnbkcgaaGreat.LawC
set_option linter.unusedVariables false
set_option linter.unusedSimpArgs false

/-- from a number of blocks on nothing is frozen -/
def NF (B : Nat) (w : World) : Prop := ∀ (g : Nat) (cs : Array Value) (t : TypeId) (fr : Nat × Nat), B ≤ g → w.heap[g]? = some (.cells cs t fr) → fr = (0, 0)
theorem NF.start {w : World} : NF w.heap.size w := fun g cs t fr hg h => absurd (Array.getElem?_eq_some_iff.1 h).1 (by omega)
theorem NF.alloc {B : Nat} {w : World} (h : NF B w) (cs : Array Value) (t : TypeId) : NF B (w.alloc (.cells cs t)) := by
  intro g cs' t' fr hg hh
  rcases Nat.lt_trichotomy g w.heap.size with hl | hl | hl
  · rw [Below.heap_alloc _ _ _ hl] at hh
    exact h _ _ _ _ hg hh
  · subst hl
    rw [new_blk] at hh
    cases hh
    rfl
  · have := (Array.getElem?_eq_some_iff.1 hh).1
    simp at this
    omega
theorem NF.setCell {B : Nat} {w : World} (h : NF B w) (a : Addr) (v : Value) : NF B (w.setCell a v) := by
  intro g cs' t' fr hg hh
  by_cases hk : g = a.block
  · subst hk
    simp only [World.setCell, Array.getElem?_modify, if_pos] at hh
    cases hx : w.heap[a.block]? with
    | none => rw [hx] at hh; simp at hh
    | some o =>
      rw [hx] at hh
      cases o with
      | cells c t f =>
        simp only [Option.map_some, Option.some.injEq, Obj.cells.injEq] at hh
        have := h _ _ _ _ hg hx
        rw [← hh.2.2]; exact this
      | _ => simp at hh
  · rw [heap_setCell_other _ _ _ _ hk] at hh
    exact h _ _ _ _ hg hh
theorem NF.drew {B : Nat} {w : World} (h : NF B w) : NF B w.drew := h
theorem NF.drewN {B : Nat} {w : World} (h : NF B w) (n : Nat) : NF B (w.drewN n) := by
  intro g cs t fr hg hh
  rw [show (w.drewN n).heap = w.heap from by simp] at hh
  exact h _ _ _ _ hg hh
theorem NF.call {B : Nat} {w w' : World} (h : NF B w) (hb : Below w.heap.size w w') (hn : NF w.heap.size w') : NF B w' := fun g cs t fr hg hh => by
  rcases Nat.lt_or_ge g w.heap.size with hl | hl
  · rw [hb.block g hl] at hh
    exact h _ _ _ _ hg hh
  · exact hn _ _ _ _ hl hh
theorem NF.mono {B B' : Nat} {w : World} (h : NF B w) (hB : B ≤ B') : NF B' w := fun g cs t fr hg hh => h g cs t fr (Nat.le_trans hB hg) hh
theorem NF.frozen {B : Nat} {w : World} (h : NF B w) {b o : Nat} (hb : B ≤ b) : w.frozen? ⟨b, o, none⟩ = false := by
  unfold World.frozen?
  split
  · next c t lo hi hx =>
    have := h _ _ _ _ hb hx
    simp only [Prod.mk.injEq] at this
    simp [this.1, this.2]
  · rfl
/-- a new value that reads as something, nothing frozen -/
def NewN {α : Type} (R : (Nat → Prop) → World → Value → α → Prop) (x : α) (w : World) (e : Ending) (w' : World) : Prop := ∃ v, e = .returned v ∧ R (fun k => w.heap.size ≤ k) w' v x ∧ Below w.heap.size w w' ∧ NF w.heap.size w'
def NewPN (P : Pres) (w : World) (e : Ending) (w' : World) : Prop := ∃ vO vP vC, e = .returned (.agg #[vO, vP, vC]) ∧ ValP (fun k => w.heap.size ≤ k) w' vO vP vC P ∧ Below w.heap.size w w' ∧ NF w.heap.size w'

set_option maxRecDepth 100000 in
set_option maxHeartbeats 1000000 in
theorem toI_nf (w : World) (v : Value) (l : List Int) (hv : SlI Any w v l) (hl : B1 1048576 l) :
    Calls Tryz.prog 42 #[v] w (NewN SlI l w) := by
  obtain ⟨ao, c, rfl, _, _⟩ := hv.form
  have HV := Lib.hid hv
  unfold B1 at hl
  have HL := Lib.hid hl
  have hmk := mkI l.length hl
  have hl63 : (l.length : Int) ≤ 9223372036854775807 := by omega
  have HT := Lib.hid (TabG.made (e := 2) (R := fun _ u (x : Int) => u = .int .i64 x) w (.int .i64 0) l.length (by unfold maxLen; omega))
  clear hv hl
  go_enter Tryz.func42, Tryz.ntmps42
  go_wp2_with fail
  go_loopw [4] (fun iv wr => ∃ k : Nat, k ≤ l.length ∧ iv = .int .i64 (k : Int) ∧ Hid (TabG 2 (fun _ u (x : Int) => u = .int .i64 x) wr w.heap.size l.length (l.take k)) ∧ Hid (Below w.heap.size w wr ∧ NF w.heap.size wr)) (fun iv _ => l.length - (intOf iv).toNat)
  case atStart => exact ⟨0, Nat.zero_le _, rfl, by rw [List.take_zero]; exact HT, Lib.hid ⟨(Below.refl _ _).alloc (Nat.le_refl _) _, NF.start.alloc _ _⟩⟩
  case round =>
    obtain ⟨k, hk, rfl, hT, hB⟩ := hrel
    by_cases hlt : k < l.length
    · obtain ⟨x, hx⟩ : ∃ x, l[k]? = some x := ⟨_, List.getElem?_eq_getElem hlt⟩
      obtain ⟨b, o, u, rfl, _, hb, hc, rfl⟩ := SlG.get HV.out hx
      have hcr := ((Keep.of_below (S := Any) hB.out.1).cell (b := b) (o := o + k) trivial hb).trans hc
      obtain ⟨⟨s1, f1⟩, f2⟩ := hT.out.cellF hlt
      have HN := Lib.hid (show TabG 2 (fun _ u (x : Int) => u = .int .i64 x) (wr.setCell ⟨w.heap.size, k, none⟩ (.int .i64 x)) w.heap.size l.length (l.take (k + 1)) from by
        rw [take_succ hx]; exact hT.out.push (take_len hk) hlt (fun _ _ h => h) rfl)
      have HNB := Lib.hid (And.intro (hB.out.1.setCell (p := ⟨w.heap.size, k, none⟩) (Nat.le_refl _) (.int .i64 x)) (hB.out.2.setCell ⟨w.heap.size, k, none⟩ (.int .i64 x)))
      clear hx hc
      go_wp2_with fail
      go_roundw
      case rel => exact ⟨k + 1, by omega, by go_num, HN, HNB⟩
      case measure => simp [intOf]; omega
    · obtain rfl : k = l.length := by omega
      have HR := Lib.hid (show NewN SlI l w (.returned (.slice (some ⟨w.heap.size, 0, none⟩) l.length l.length)) wr from ⟨_, rfl, TabG.sl (by have h := hT.out; rwa [List.take_length] at h) (Nat.le_refl _), hB.out.1, hB.out.2⟩)
      go_wp2_with fail
      go_ret
      exact HR.out


set_option maxRecDepth 100000 in
set_option maxHeartbeats 1000000 in
theorem toII_nf (w : World) (v : Value) (l : List (List Int)) (hv : Sl2 Any w v l) (hl : B2 1048576 l) :
    Calls Tryz.prog 39 #[v] w (NewN Sl2 l w) := by
  obtain ⟨ao, c, rfl, _, _⟩ := SlG.form hv
  have HV := Lib.hid hv
  have HL := Lib.hid hl
  have hmk := mkII l.length hl.1
  have hl63 : (l.length : Int) ≤ 9223372036854775807 := by have := hl.1; omega
  have HT := Lib.hid (TabG.made (e := 22) (R := fun W u (x : List Int) => SlI (fun b => w.heap.size < b) W u x) w (.slice none 0 0) l.length (by have := hl.1; unfold maxLen; omega))
  clear hv hl
  go_enter Tryz.func39, Tryz.ntmps39
  go_wp2_with fail
  go_loopw [4] (fun iv wr => ∃ k : Nat, k ≤ l.length ∧ iv = .int .i64 (k : Int) ∧ Hid (TabG 22 (fun W u (x : List Int) => SlI (fun b => w.heap.size < b) W u x) wr w.heap.size l.length (l.take k)) ∧ Hid (Below w.heap.size w wr ∧ NF w.heap.size wr)) (fun iv _ => l.length - (intOf iv).toNat)
  case atStart => exact ⟨0, Nat.zero_le _, rfl, by rw [List.take_zero]; exact HT, Lib.hid ⟨(Below.refl _ _).alloc (Nat.le_refl _) _, NF.start.alloc _ _⟩⟩
  case round =>
    obtain ⟨k, hk, rfl, hT, hB⟩ := hrel
    by_cases hlt : k < l.length
    · obtain ⟨x, hx⟩ : ∃ x, l[k]? = some x := ⟨_, List.getElem?_eq_getElem hlt⟩
      obtain ⟨b, o, u, rfl, _, hb, hc, hu⟩ := SlG.get HV.out hx
      have hcr := ((Keep.of_below (S := Any) hB.out.1).cell (b := b) (o := o + k) trivial hb).trans hc
      have HU := Lib.hid (SlI.keep hu (Keep.of_below hB.out.1))
      have HXL := Lib.hid (HL.out.2 x (List.mem_of_getElem? hx))
      have HX := Lib.hid hx
      have hsr := hT.out.lt
      clear hx hc hu
      go_wp2_with fail
      refine (toI_nf _ _ x HU.out HXL.out).mono ?_
      rintro e w1 ⟨v1, rfl, h1, hb1, hn1⟩
      obtain ⟨a1, c1, rfl, _, _⟩ := SlG.form h1
      have HT1 := Lib.hid (hT.out.keep (S := Any) (Keep.of_below hb1) trivial (fun _ _ h => SlI.keep h (Keep.of_below hb1)))
      obtain ⟨⟨s1, f1⟩, f2⟩ := HT1.out.cellF hlt
      have HN := Lib.hid (show TabG 22 (fun W u (x : List Int) => SlI (fun b => w.heap.size < b) W u x) (w1.setCell ⟨w.heap.size, k, none⟩ (.slice a1 x.length c1)) w.heap.size l.length (l.take (k + 1)) from by
        rw [take_succ HX.out]; exact HT1.out.push (take_len hk) hlt (fun _ _ h => SlI_set (fun b hb => by omega) _ _ h) (h1.mono (fun b hb => Nat.lt_of_lt_of_le hsr hb)))
      have HNB := Lib.hid (And.intro ((hB.out.1.trans (hb1.mono hB.out.1.size)).setCell (p := ⟨w.heap.size, k, none⟩) (Nat.le_refl _) (.slice a1 x.length c1)) ((hB.out.2.call hb1 hn1).setCell ⟨w.heap.size, k, none⟩ (.slice a1 x.length c1)))
      clear h1 hb1 hn1
      go_wp2_with fail
      go_roundw
      case rel => exact ⟨k + 1, by omega, by go_num, HN, HNB⟩
      case measure => simp [intOf]; omega
    · obtain rfl : k = l.length := by omega
      have HR := Lib.hid (show NewN Sl2 l w (.returned (.slice (some ⟨w.heap.size, 0, none⟩) l.length l.length)) wr from ⟨_, rfl, SlG.mono (TabG.sl (S := fun k => w.heap.size ≤ k) (by have h := hT.out; rwa [List.take_length] at h) (Nat.le_refl _)) (fun _ h => h) (fun _ _ h => SlI.mono h (fun b hb => Nat.le_of_lt hb)), hB.out.1, hB.out.2⟩)
      go_wp2_with fail
      go_ret
      exact HR.out


set_option maxRecDepth 100000 in
set_option maxHeartbeats 1000000 in
theorem toIII_nf (w : World) (v : Value) (l : List (List (List Int))) (hv : Sl3 Any w v l) (hl : B3 1048576 l) :
    Calls Tryz.prog 52 #[v] w (NewN Sl3 l w) := by
  obtain ⟨ao, c, rfl, _, _⟩ := SlG.form hv
  have HV := Lib.hid hv
  have HL := Lib.hid hl
  have hmk := mkIII l.length hl.1
  have hl63 : (l.length : Int) ≤ 9223372036854775807 := by have := hl.1; omega
  have HT := Lib.hid (TabG.made (e := 23) (R := fun W u (x : List (List Int)) => Sl2 (fun b => w.heap.size < b) W u x) w (.slice none 0 0) l.length (by have := hl.1; unfold maxLen; omega))
  clear hv hl
  go_enter Tryz.func52, Tryz.ntmps52
  go_wp2_with fail
  go_loopw [4] (fun iv wr => ∃ k : Nat, k ≤ l.length ∧ iv = .int .i64 (k : Int) ∧ Hid (TabG 23 (fun W u (x : List (List Int)) => Sl2 (fun b => w.heap.size < b) W u x) wr w.heap.size l.length (l.take k)) ∧ Hid (Below w.heap.size w wr ∧ NF w.heap.size wr)) (fun iv _ => l.length - (intOf iv).toNat)
  case atStart => exact ⟨0, Nat.zero_le _, rfl, by rw [List.take_zero]; exact HT, Lib.hid ⟨(Below.refl _ _).alloc (Nat.le_refl _) _, NF.start.alloc _ _⟩⟩
  case round =>
    obtain ⟨k, hk, rfl, hT, hB⟩ := hrel
    by_cases hlt : k < l.length
    · obtain ⟨x, hx⟩ : ∃ x, l[k]? = some x := ⟨_, List.getElem?_eq_getElem hlt⟩
      obtain ⟨b, o, u, rfl, _, hb, hc, hu⟩ := SlG.get HV.out hx
      have hcr := ((Keep.of_below (S := Any) hB.out.1).cell (b := b) (o := o + k) trivial hb).trans hc
      have HU := Lib.hid (Sl2.keep hu (Keep.of_below hB.out.1))
      have HXL := Lib.hid (HL.out.2 x (List.mem_of_getElem? hx))
      have HX := Lib.hid hx
      have hsr := hT.out.lt
      clear hx hc hu
      go_wp2_with fail
      refine (toII_nf _ _ x HU.out HXL.out).mono ?_
      rintro e w1 ⟨v1, rfl, h1, hb1, hn1⟩
      obtain ⟨a1, c1, rfl, _, _⟩ := SlG.form h1
      have HT1 := Lib.hid (hT.out.keep (S := Any) (Keep.of_below hb1) trivial (fun _ _ h => Sl2.keep h (Keep.of_below hb1)))
      obtain ⟨⟨s1, f1⟩, f2⟩ := HT1.out.cellF hlt
      have HN := Lib.hid (show TabG 23 (fun W u (x : List (List Int)) => Sl2 (fun b => w.heap.size < b) W u x) (w1.setCell ⟨w.heap.size, k, none⟩ (.slice a1 x.length c1)) w.heap.size l.length (l.take (k + 1)) from by
        rw [take_succ HX.out]; exact HT1.out.push (take_len hk) hlt (fun _ _ h => Sl2_set (fun b hb => by omega) _ _ h) (Sl2.mono h1 (fun b hb => Nat.lt_of_lt_of_le hsr hb)))
      have HNB := Lib.hid (And.intro ((hB.out.1.trans (hb1.mono hB.out.1.size)).setCell (p := ⟨w.heap.size, k, none⟩) (Nat.le_refl _) (.slice a1 x.length c1)) ((hB.out.2.call hb1 hn1).setCell ⟨w.heap.size, k, none⟩ (.slice a1 x.length c1)))
      clear h1 hb1 hn1
      go_wp2_with fail
      go_roundw
      case rel => exact ⟨k + 1, by omega, by go_num, HN, HNB⟩
      case measure => simp [intOf]; omega
    · obtain rfl : k = l.length := by omega
      have HR := Lib.hid (show NewN Sl3 l w (.returned (.slice (some ⟨w.heap.size, 0, none⟩) l.length l.length)) wr from ⟨_, rfl, SlG.mono (TabG.sl (S := fun k => w.heap.size ≤ k) (by have h := hT.out; rwa [List.take_length] at h) (Nat.le_refl _)) (fun _ h => h) (fun _ _ h => Sl2.mono h (fun b hb => Nat.le_of_lt hb)), hB.out.1, hB.out.2⟩)
      go_wp2_with fail
      go_ret
      exact HR.out

set_option maxRecDepth 100000 in
set_option maxHeartbeats 2000000 in
theorem toP_nf (w : World) (pO pP pC : Value) (P : Pres) (hP : ValP Any w pO pP pC P) (hl : BP 1048576 P) :
    Calls Tryz.prog 14 #[.agg #[pO, pP, pC]] w (NewPN P w) := by
  obtain ⟨aO, cO, rfl, _, _⟩ := SlG.form hP.os
  obtain ⟨aP, cP, rfl, _, _⟩ := SlG.form hP.ps
  obtain ⟨aC, cC, rfl, _, _⟩ := SlG.form hP.cs
  have HP := Lib.hid hP
  have HL := Lib.hid hl
  obtain ⟨n, hn⟩ : ∃ n, w.heap.size = n := ⟨_, rfl⟩
  have HNN := Lib.hid hn
  obtain ⟨W0, hW0⟩ : ∃ W0, W0 = (((w.alloc (.cells #[.slice aO P.os.length cO, .slice aP P.ps.length cP, .slice aC P.cs.length cC] 26)).alloc (.cells #[.slice none 0 0, .slice none 0 0, .slice none 0 0] 30)).alloc (.cells #[.slice none 0 0, .slice none 0 0, .slice none 0 0] 30)) := ⟨_, rfl⟩
  have HS0 := Lib.hid (show W0.heap.size = n + 3 by rw [hW0]; simp; omega)
  have G0 := Lib.hid (show W0.heap[n]? = some (.cells #[.slice aO P.os.length cO, .slice aP P.ps.length cP, .slice aC P.cs.length cC] 26 (0, 0)) by rw [hW0, ← hn]; exact old_blk (old_blk new_blk))
  have G1 := Lib.hid (show W0.heap[n + 1]? = some (.cells #[.slice none 0 0, .slice none 0 0, .slice none 0 0] 30 (0, 0)) by rw [hW0, ← hn]; exact old_blk ((congrArg _ (by simp)).trans new_blk))
  have G2 := Lib.hid (show W0.heap[n + 1 + 1]? = some (.cells #[.slice none 0 0, .slice none 0 0, .slice none 0 0] 30 (0, 0)) by rw [hW0, ← hn]; exact (congrArg _ (by simp)).trans new_blk)
  have HB0 := Lib.hid (show Below n w W0 by rw [hW0, ← hn]; exact (((Below.refl _ _).alloc (Nat.le_refl _) _).alloc (by simp) _).alloc (by simp; omega) _)
  have HK := Lib.hid (fun (W : World) (h : Below n w W) => (Keep.of_below (S := Any) (by rw [HNN.out]; exact h) : Keep Any w W))
  have N0 := Lib.hid (show NF n W0 by rw [hW0, ← hn]; exact ((NF.start.alloc _ _).alloc _ _).alloc _ _)
  clear hP hl
  go_enter Tryz.func14, Tryz.ntmps14
  go_upto_region 2 with fail
  rw [← hW0]
  clear hW0
  clear hn
  obtain ⟨⟨x0, x1, x2⟩, _⟩ := row3 G0.out
  go_wp2_with fail
  refine (toI_nf _ _ P.os (HP.out.os.keep (HK.out _ HB0.out)) HL.out.1).mono ?_
  rintro e w1 ⟨v1, rfl, h1, hb1, hn1⟩
  obtain ⟨a1, c1, rfl, _, _⟩ := SlG.form h1
  have HS1 := Lib.hid hb1.size
  have N1 := Lib.hid (N0.out.call hb1 hn1)
  have HB1 := Lib.hid (HB0.out.trans (hb1.mono (by rw [HS0.out]; omega)))
  have G01 := Lib.hid (blk hb1 (by rw [HS0.out]; omega) G0.out)
  have G11 := Lib.hid (blk hb1 (by rw [HS0.out]; omega) G1.out)
  have G21 := Lib.hid (blk hb1 (by rw [HS0.out]; omega) G2.out)
  have V1 := Lib.hid (SlI.mono h1 (fun b hb => (show n + 3 ≤ b by rw [← HS0.out]; exact hb)))
  obtain ⟨⟨s0, s1, s2⟩, f0, f1, f2⟩ := row3 G21.out
  clear x0 x1 x2 h1 hb1 hn1 G0 G1 G2
  go_upto_region 3 with fail
  obtain ⟨W1, hW1⟩ : ∃ W1, W1 = w1.setCell ⟨n + 1 + 1, 0, none⟩ (.slice a1 P.os.length c1) := ⟨_, rfl⟩
  rw [← hW1]
  have HS1' := Lib.hid (show n + 3 ≤ W1.heap.size by rw [hW1, World.size_setCell]; have := HS1.out; rw [HS0.out] at this; exact this)
  have N1' := Lib.hid (show NF n W1 by rw [hW1]; exact N1.out.setCell _ _)
  have HB1' := Lib.hid (show Below n w W1 by rw [hW1]; exact HB1.out.setCell (by show n ≤ n + 1 + 1; omega) _)
  have G02 := Lib.hid (set_other hW1 (by show n ≠ n + 1 + 1; omega) G01.out)
  have G12 := Lib.hid (set_other hW1 (by show n + 1 ≠ n + 1 + 1; omega) G11.out)
  have G22 := Lib.hid (show W1.heap[n + 1 + 1]? = some (.cells #[.slice a1 P.os.length c1, .slice none 0 0, .slice none 0 0] 30 (0, 0)) by rw [hW1]; exact heap_setCell_same _ _ _ _ _ _ G21.out)
  have V1' := Lib.hid (show SlI (fun b => n + 3 ≤ b) W1 (.slice a1 P.os.length c1) P.os by rw [hW1]; exact SlI_set (fun b hb => by omega) _ _ V1.out)
  clear hW1 s0 s1 s2 f0 f1 f2 G01 G11 G21 V1 HB1 HS1
  obtain ⟨⟨x0, x1, x2⟩, _⟩ := row3 G02.out
  go_wp2_with fail
  refine (toII_nf _ _ P.ps (Sl2.keep HP.out.ps (HK.out _ HB1'.out)) HL.out.2.1).mono ?_
  rintro e w2 ⟨v2, rfl, h1, hb1, hn1⟩
  obtain ⟨a2, c2, rfl, _, _⟩ := SlG.form h1
  have HS2 := Lib.hid (Nat.le_trans HS1'.out hb1.size)
  have N2 := Lib.hid (N1'.out.call hb1 hn1)
  have HB2 := Lib.hid (HB1'.out.trans (hb1.mono (by have := HS1'.out; omega)))
  have G01 := Lib.hid (blk hb1 (by have := HS1'.out; omega) G02.out)
  have G11 := Lib.hid (blk hb1 (by have := HS1'.out; omega) G12.out)
  have G21 := Lib.hid (blk hb1 (by have := HS1'.out; omega) G22.out)
  have V1 := Lib.hid (V1'.out.keep (Keep.of_below hb1))
  have V2 := Lib.hid (Sl2.mono h1 (fun b hb => (show n + 3 ≤ b from Nat.le_trans HS1'.out hb)))
  obtain ⟨⟨s0, s1, s2⟩, f0, f1, f2⟩ := row3 G21.out
  clear x0 x1 x2 h1 hb1 hn1 G02 G12 G22 V1' HB1' HS1'
  go_upto_region 4 with fail
  obtain ⟨W2, hW2⟩ : ∃ W2, W2 = w2.setCell ⟨n + 1 + 1, 1, none⟩ (.slice a2 P.ps.length c2) := ⟨_, rfl⟩
  rw [← hW2]
  have HS2' := Lib.hid (show n + 3 ≤ W2.heap.size by rw [hW2, World.size_setCell]; exact HS2.out)
  have N2' := Lib.hid (show NF n W2 by rw [hW2]; exact N2.out.setCell _ _)
  have HB2' := Lib.hid (show Below n w W2 by rw [hW2]; exact HB2.out.setCell (by show n ≤ n + 1 + 1; omega) _)
  have G02 := Lib.hid (set_other hW2 (by show n ≠ n + 1 + 1; omega) G01.out)
  have G12 := Lib.hid (set_other hW2 (by show n + 1 ≠ n + 1 + 1; omega) G11.out)
  have G22 := Lib.hid (show W2.heap[n + 1 + 1]? = some (.cells #[.slice a1 P.os.length c1, .slice a2 P.ps.length c2, .slice none 0 0] 30 (0, 0)) by rw [hW2]; exact heap_setCell_same _ _ _ _ _ _ G21.out)
  have V1' := Lib.hid (show SlI (fun b => n + 3 ≤ b) W2 (.slice a1 P.os.length c1) P.os by rw [hW2]; exact SlI_set (fun b hb => by omega) _ _ V1.out)
  have V2' := Lib.hid (show Sl2 (fun b => n + 3 ≤ b) W2 (.slice a2 P.ps.length c2) P.ps by rw [hW2]; exact Sl2_set (fun b hb => by omega) _ _ V2.out)
  clear hW2 s0 s1 s2 f0 f1 f2 G01 G11 G21 V1 V2 HB2 HS2
  obtain ⟨⟨x0, x1, x2⟩, _⟩ := row3 G02.out
  go_wp2_with fail
  refine (toIII_nf _ _ P.cs (Sl3.keep HP.out.cs (HK.out _ HB2'.out)) HL.out.2.2).mono ?_
  rintro e w3 ⟨v3, rfl, h1, hb1, hn1⟩
  obtain ⟨a3, c3, rfl, _, _⟩ := SlG.form h1
  have HS3 := Lib.hid (Nat.le_trans HS2'.out hb1.size)
  have N3 := Lib.hid (N2'.out.call hb1 hn1)
  have HB3 := Lib.hid (HB2'.out.trans (hb1.mono (by have := HS2'.out; omega)))
  have G01 := Lib.hid (blk hb1 (by have := HS2'.out; omega) G02.out)
  have G11 := Lib.hid (blk hb1 (by have := HS2'.out; omega) G12.out)
  have G21 := Lib.hid (blk hb1 (by have := HS2'.out; omega) G22.out)
  have V1 := Lib.hid (V1'.out.keep (Keep.of_below hb1))
  have V2 := Lib.hid (Sl2.keep V2'.out (Keep.of_below hb1))
  have V3 := Lib.hid (Sl3.mono h1 (fun b hb => (show n + 3 ≤ b from Nat.le_trans HS2'.out hb)))
  obtain ⟨⟨s0, s1, s2⟩, f0, f1, f2⟩ := row3 G21.out
  clear x0 x1 x2 h1 hb1 hn1 G02 G12 G22 V1' V2' HB2' HS2'
  go_upto_region 5 with fail
  obtain ⟨W3, hW3⟩ : ∃ W3, W3 = w3.setCell ⟨n + 1 + 1, 2, none⟩ (.slice a3 P.cs.length c3) := ⟨_, rfl⟩
  rw [← hW3]
  have N3' := Lib.hid (show NF n W3 by rw [hW3]; exact N3.out.setCell _ _)
  have HB3' := Lib.hid (show Below n w W3 by rw [hW3]; exact HB3.out.setCell (by show n ≤ n + 1 + 1; omega) _)
  have G12 := Lib.hid (set_other hW3 (by show n + 1 ≠ n + 1 + 1; omega) G11.out)
  have G22 := Lib.hid (show W3.heap[n + 1 + 1]? = some (.cells #[.slice a1 P.os.length c1, .slice a2 P.ps.length c2, .slice a3 P.cs.length c3] 30 (0, 0)) by rw [hW3]; exact heap_setCell_same _ _ _ _ _ _ G21.out)
  have V1' := Lib.hid (show SlI (fun b => n + 3 ≤ b) W3 (.slice a1 P.os.length c1) P.os by rw [hW3]; exact SlI_set (fun b hb => by omega) _ _ V1.out)
  have V2' := Lib.hid (show Sl2 (fun b => n + 3 ≤ b) W3 (.slice a2 P.ps.length c2) P.ps by rw [hW3]; exact Sl2_set (fun b hb => by omega) _ _ V2.out)
  have V3' := Lib.hid (show Sl3 (fun b => n + 3 ≤ b) W3 (.slice a3 P.cs.length c3) P.cs by rw [hW3]; exact Sl3_set (fun b hb => by omega) _ _ V3.out)
  clear hW3 s0 s1 s2 f0 f1 f2 G01 G11 G21 V1 V2 V3 HB3 HS3
  obtain ⟨⟨s0, s1, s2⟩, _⟩ := row3 G22.out
  obtain ⟨⟨x0, x1, x2⟩, f0, f1, f2⟩ := row3 G12.out
  go_wp2_with fail
  have HR := Lib.hid (show NewPN P w (.returned (.agg #[.slice a1 P.os.length c1, .slice a2 P.ps.length c2, .slice a3 P.cs.length c3])) (((W3.setCell ⟨n + 1, 0, none⟩ (.slice a1 P.os.length c1)).setCell ⟨n + 1, 1, none⟩ (.slice a2 P.ps.length c2)).setCell ⟨n + 1, 2, none⟩ (.slice a3 P.cs.length c3)) from by
    have hg : ∀ b, n + 3 ≤ b → b ≠ n + 1 := fun b hb => by omega
    refine ⟨_, _, _, rfl, ⟨?_, ?_, ?_⟩, ?_, ?_⟩
    · exact (SlI_set hg _ _ (SlI_set hg _ _ (SlI_set hg _ _ V1'.out))).mono (fun b hb => by rw [HNN.out]; omega)
    · exact Sl2.mono (Sl2_set hg _ _ (Sl2_set hg _ _ (Sl2_set hg _ _ V2'.out))) (fun b hb => by rw [HNN.out]; omega)
    · exact Sl3.mono (Sl3_set hg _ _ (Sl3_set hg _ _ (Sl3_set hg _ _ V3'.out))) (fun b hb => by rw [HNN.out]; omega)
    · rw [HNN.out]
      exact ((HB3'.out.setCell (by show n ≤ n + 1; omega) _).setCell (by show n ≤ n + 1; omega) _).setCell (by show n ≤ n + 1; omega) _
    · rw [HNN.out]
      exact ((N3'.out.setCell _ _).setCell _ _).setCell _ _)
  refine bodyPost_ret (v := .agg #[.slice a1 P.os.length c1, .slice a2 P.ps.length c2, .slice a3 P.cs.length c3]) ?_ rfl HR.out
  have G3 := heap_setCell_same _ (n + 1) 2 _ _ (.slice a3 P.cs.length c3) (heap_setCell_same _ (n + 1) 1 _ _ (.slice a2 P.ps.length c2) (heap_setCell_same _ (n + 1) 0 _ _ (.slice a1 P.os.length c1) G12.out))
  clear HR s0 s1 s2 x0 x1 x2 f0 f1 f2
  generalize (((W3.setCell ⟨n + 1, 0, none⟩ (.slice a1 P.os.length c1)).setCell ⟨n + 1, 1, none⟩ (.slice a2 P.ps.length c2)).setCell ⟨n + 1, 2, none⟩ (.slice a3 P.cs.length c3)) = W4 at G3 ⊢
  obtain ⟨⟨y0, y1, y2⟩, _⟩ := row3 G3
  simp [results, Tryz.results14, go_sem, y0, y1, y2]
end Go.Proofs.YtabeedimnbkcgaaGreat.LawN

/-
  The law's marks: numbers written over a result, and read again.
-/
namespace Go.Proofs.YtabeedimnbkcgaaGreat.Mark
open Go.RowKit Go.Proofs.YtabeedimnbkcgaaGreat Go.Proofs.YtabeedimnbkcgaaGreat.SpecB Go.Proofs.YtabeedimnbkcgaaGreat.LawB Go.Proofs.YtabeedimnbkcgaaGreat.LawC Go.Proofs.YtabeedimnbkcgaaGreat.LawN
set_option linter.unusedVariables false
set_option linter.unusedSimpArgs false

/-- in blocks of S nothing is frozen -/
def NFS (S : Nat → Prop) (w : World) : Prop := ∀ (g : Nat) (cs : Array Value) (t : TypeId) (fr : Nat × Nat), S g → w.heap[g]? = some (.cells cs t fr) → fr = (0, 0)
theorem NFS.of {B : Nat} {S : Nat → Prop} {w : World} (h : NF B w) (hS : ∀ g, S g → B ≤ g) : NFS S w := fun g cs t fr hg hh => h g cs t fr (hS g hg) hh
theorem NFS.mono {S S' : Nat → Prop} {w : World} (h : NFS S w) (hS : ∀ g, S' g → S g) : NFS S' w := fun g cs t fr hg hh => h g cs t fr (hS g hg) hh
theorem NFS.keep {S S' : Nat → Prop} {w w' : World} (h : NFS S w) (hk : Keep S' w w') (hS : ∀ g, S g → S' g ∧ g < w.heap.size) : NFS S w' := fun g cs t fr hg hh => by
  rw [hk.block g (hS g hg).1 (hS g hg).2] at hh
  exact h g cs t fr hg hh
theorem NFS.frozen {S : Nat → Prop} {w : World} (h : NFS S w) {b o : Nat} (hb : S b) : w.frozen? ⟨b, o, none⟩ = false := by
  unfold World.frozen?
  split
  · next c t lo hi hx =>
    have := h _ _ _ _ hb hx
    simp only [Prod.mk.injEq] at this
    simp [this.1, this.2]
  · rfl
theorem NFS.setCell {S : Nat → Prop} {w : World} (h : NFS S w) (a : Addr) (v : Value) : NFS S (w.setCell a v) := by
  intro g cs' t' fr hg hh
  by_cases hk : g = a.block
  · subst hk
    simp only [World.setCell, Array.getElem?_modify, if_pos] at hh
    cases hx : w.heap[a.block]? with
    | none => rw [hx] at hh; simp at hh
    | some o =>
      rw [hx] at hh
      cases o with
      | cells c t f =>
        simp only [Option.map_some, Option.some.injEq, Obj.cells.injEq] at hh
        have := h _ _ _ _ hg hx
        rw [← hh.2.2]; exact this
      | _ => simp at hh
  · rw [heap_setCell_other _ _ _ _ hk] at hh
    exact h _ _ _ _ hg hh
/-- integers written over integers, in blocks of S -/
structure Mrk (S : Nat → Prop) (w w' : World) : Prop where
  os : w'.os = w.os
  tape : w'.tape = w.tape
  output : w'.output = w.output
  size : w'.heap.size = w.heap.size
  block : ∀ k, ¬ S k → w'.heap[k]? = w.heap[k]?
  cell : ∀ b o u, w.cell? ⟨b, o, none⟩ = some u → (∃ x y : Int, u = .int .i64 x ∧ w'.cell? ⟨b, o, none⟩ = some (.int .i64 y)) ∨ w'.cell? ⟨b, o, none⟩ = some u
  nf : ∀ S' : Nat → Prop, NFS S' w → NFS S' w'
theorem Mrk.refl (S : Nat → Prop) (w : World) : Mrk S w w := ⟨rfl, rfl, rfl, rfl, fun _ _ => rfl, fun _ _ _ h => .inr h, fun _ h => h⟩
theorem Mrk.trans {S : Nat → Prop} {a b c : World} (h : Mrk S a b) (k : Mrk S b c) : Mrk S a c := by
  refine ⟨k.os.trans h.os, k.tape.trans h.tape, k.output.trans h.output, k.size.trans h.size, fun i hi => (k.block i hi).trans (h.block i hi), fun b o u hu => ?_, fun B hn => k.nf B (h.nf B hn)⟩
  rcases h.cell b o u hu with ⟨x, y, rfl, h1⟩ | h1
  · rcases k.cell b o _ h1 with ⟨x', y', _, h2⟩ | h2
    · exact .inl ⟨x, y', rfl, h2⟩
    · exact .inl ⟨x, y, rfl, h2⟩
  · exact k.cell b o u h1
theorem Mrk.mono {S S' : Nat → Prop} {a b : World} (h : Mrk S a b) (hS : ∀ k, S k → S' k) : Mrk S' a b := ⟨h.os, h.tape, h.output, h.size, fun k hk => h.block k (fun h' => hk (hS k h')), h.cell, h.nf⟩
theorem Mrk.set {S : Nat → Prop} {w : World} {b o : Nat} {x : Int} (hb : S b) (hc : w.cell? ⟨b, o, none⟩ = some (.int .i64 x)) (y : Int) : Mrk S w (w.setCell ⟨b, o, none⟩ (.int .i64 y)) := by
  refine ⟨rfl, rfl, rfl, by simp, fun k hk => heap_setCell_other _ _ _ _ (fun e => hk (by rw [show k = b from e]; exact hb)), fun b' o' u hu => ?_, fun B hn => hn.setCell _ _⟩
  by_cases he : (⟨b, o, none⟩ : Addr) = ⟨b', o', none⟩
  · cases he
    rw [hc] at hu
    cases hu
    exact .inl ⟨x, y, rfl, World.cell?_setCell_same _ _ _ hc⟩
  · exact .inr (by rw [World.cell?_setCell_other _ _ _ _ he]; exact hu)
theorem Mrk.keep {S : Nat → Prop} {a b : World} (h : Mrk S a b) : Keep (fun k => ¬ S k) a b := ⟨Nat.le_of_eq h.size.symm, fun k hk _ => h.block k hk⟩
theorem Mrk.below {B : Nat} {S : Nat → Prop} {a b : World} (h : Mrk S a b) (hS : ∀ k, S k → B ≤ k) : Below B a b := ⟨h.os, h.tape, h.output, Nat.le_of_eq h.size.symm, fun k hk => h.block k (fun hs => by have := hS k hs; omega)⟩
theorem Mrk.sl {S : Nat → Prop} {w w' : World} (h : Mrk S w w') {b o : Nat} {a : Option Addr} {n c : Nat} (hc : w.cell? ⟨b, o, none⟩ = some (.slice a n c)) : w'.cell? ⟨b, o, none⟩ = some (.slice a n c) := by
  rcases h.cell b o _ hc with ⟨x, y, e, _⟩ | h1
  · cases e
  · exact h1
theorem Mrk.int {S : Nat → Prop} {w w' : World} (h : Mrk S w w') {b o : Nat} {x : Int} (hc : w.cell? ⟨b, o, none⟩ = some (.int .i64 x)) : ∃ y : Int, w'.cell? ⟨b, o, none⟩ = some (.int .i64 y) := by
  rcases h.cell b o _ hc with ⟨_, y, _, h1⟩ | h1
  · exact ⟨y, h1⟩
  · exact ⟨x, h1⟩

/-- another list behind a change, element by element -/
theorem SlG.other {α β : Type} {E : World → Value → α → Prop} {E' : World → Value → β → Prop} {S : Nat → Prop} {w w' : World} {v : Value} {l : List α} (h : SlG E S w v l) (hs : w.heap.size ≤ w'.heap.size)
    (hE : ∀ b o u x, w.cell? ⟨b, o, none⟩ = some u → E w u x → ∃ u' y, w'.cell? ⟨b, o, none⟩ = some u' ∧ E' w' u' y) : ∃ l' : List β, l'.length = l.length ∧ SlG E' S w' v l' := by
  obtain ⟨ao, c, h1, h2, h3, h0, h4⟩ := h
  have hz : ∀ i : Fin l.length, ∃ y, ∃ b o, ao = some ⟨b, o, none⟩ ∧ S b ∧ b < w'.heap.size ∧ ∃ u, w'.cell? ⟨b, o + i.1, none⟩ = some u ∧ E' w' u y := fun i => by
    obtain ⟨b, o, e1, e2, e3, u, e4, e5⟩ := h4 i.1 l[i.1] (List.getElem?_eq_getElem i.2)
    obtain ⟨u', y, f1, f2⟩ := hE _ _ _ _ e4 e5
    exact ⟨y, b, o, e1, e2, Nat.lt_of_lt_of_le e3 hs, u', f1, f2⟩
  refine ⟨(List.finRange l.length).map fun i => Classical.choose (hz i), by simp, ao, c, by simpa using h1, by simpa using h2, h3, h0, fun i y hy => ?_⟩
  simp only [List.getElem?_map, Option.map_eq_some_iff] at hy
  obtain ⟨j, hj, rfl⟩ := hy
  have hji : j.1 = i := by
    have := (List.getElem?_eq_some_iff.1 hj).2
    rw [← this]; simp
  rw [← hji]
  exact Classical.choose_spec (hz j)
theorem SlI.mrk {S S' : Nat → Prop} {w w' : World} {v : Value} {l : List Int} (h : SlI S w v l) (hm : Mrk S' w w') : ∃ l', l'.length = l.length ∧ SlI S w' v l' :=
  SlG.other h (Nat.le_of_eq hm.size.symm) fun b o u x hc e => by
    subst e
    obtain ⟨y, hy⟩ := hm.int hc
    exact ⟨_, y, hy, rfl⟩

/-- consecutive numbers -/
def cnt (k n : Nat) : List Int := (List.range n).map fun i => ((k + i : Nat) : Int)
theorem cnt_length (k n : Nat) : (cnt k n).length = n := by simp [cnt]
theorem cnt_get {k n i : Nat} (h : i < n) : (cnt k n)[i]? = some ((k + i : Nat) : Int) := by simp [cnt, h]

set_option maxHeartbeats 1000000 in
theorem mark1 (S : Nat → Prop) (w : World) (v : Value) (l : List Int) (hv : SlI S w v l) (hN : NFS S w) (k : Nat) (hk : ((k + l.length : Nat) : Int) ≤ 9223372036854775807) :
    Calls Tryz.prog 45 #[v, .int .i64 (k : Int)] w fun e w' => e = .returned (.int .i64 ((k + l.length : Nat) : Int)) ∧ Mrk S w w' ∧ SlI S w' v (cnt k l.length) := by
  obtain ⟨ao, c, rfl, _, _⟩ := hv.form
  have HV := Lib.hid hv
  have HN := Lib.hid hN
  have hl63 : (l.length : Int) ≤ 9223372036854775807 := by omega
  clear hv hN
  go_enter Tryz.func45, Tryz.ntmps45
  go_wp2_with fail
  go_loopw [1, 5] (fun tv iv wr => ∃ j m : Nat, j ≤ l.length ∧ iv = .int .i64 (j : Int) ∧ m = k + j ∧ tv = .int .i64 (m : Int) ∧ Hid (Mrk S w wr ∧ ∀ i, i < j → ∀ b o, ao = some ⟨b, o, none⟩ → wr.cell? ⟨b, o + i, none⟩ = some (.int .i64 ((k + i : Nat) : Int)))) (fun _ iv _ => l.length - (intOf iv).toNat)
  case atStart => exact ⟨0, k, Nat.zero_le _, rfl, rfl, rfl, Lib.hid ⟨Mrk.refl _ _, fun i h => absurd h (Nat.not_lt_zero _)⟩⟩
  case round =>
    obtain ⟨j, m, hj, rfl, hm, rfl, hM⟩ := hrel
    by_cases hlt : j < l.length
    · obtain ⟨x, hx⟩ : ∃ x, l[j]? = some x := ⟨_, List.getElem?_eq_getElem hlt⟩
      obtain ⟨b, o, u, rfl, hSb, hb, hc, rfl⟩ := SlG.get HV.out hx
      obtain ⟨y, hy⟩ := hM.out.1.int hc
      have hf : wr.frozen? ⟨b, o + j, none⟩ = false := (hM.out.1.nf _ HN.out).frozen hSb
      have HN2 := Lib.hid (show Mrk S w (wr.setCell ⟨b, o + j, none⟩ (.int .i64 (m : Int))) ∧ ∀ i, i < j + 1 → ∀ b' o', some (⟨b, o, none⟩ : Addr) = some ⟨b', o', none⟩ → (wr.setCell ⟨b, o + j, none⟩ (.int .i64 (m : Int))).cell? ⟨b', o' + i, none⟩ = some (.int .i64 ((k + i : Nat) : Int)) from by
        refine ⟨hM.out.1.trans (Mrk.set hSb hy _), fun i hi b' o' he => ?_⟩
        cases he
        by_cases hij : i = j
        · subst hij; rw [World.cell?_setCell_same _ _ _ hy, hm]
        · rw [World.cell?_setCell_other _ _ _ _ (by simp <;> omega)]
          exact hM.out.2 i (by omega) b o rfl)
      have hm63 : (m : Int) + 1 ≤ 9223372036854775807 := by omega
      have HMM := Lib.hid hm
      clear hx hc hm
      go_wp2_with fail
      go_roundw
      case rel => exact ⟨j + 1, m + 1, by omega, by go_num, by have := HMM.out; omega, by go_num, HN2⟩
      case measure => simp [intOf]; omega
    · obtain rfl : j = l.length := by omega
      have HR := Lib.hid (show Mrk S w wr ∧ SlI S wr (.slice ao l.length c) (cnt k l.length) from by
        refine ⟨hM.out.1, ?_⟩
        obtain ⟨ao', c', h1, h2, h3, h0, h4⟩ := HV.out
        simp only [Value.slice.injEq] at h1
        obtain ⟨rfl, -, rfl⟩ := h1
        refine ⟨ao, c, by rw [cnt_length], by rw [cnt_length]; exact h2, h3, h0, fun i x hx => ?_⟩
        have hi : i < l.length := by
          have := (List.getElem?_eq_some_iff.1 hx).1
          rwa [cnt_length] at this
        obtain ⟨b, o, e1, e2, e3, u, e4, e5⟩ := h4 i l[i] (List.getElem?_eq_getElem hi)
        rw [cnt_get hi] at hx
        cases hx
        exact ⟨b, o, e1, e2, by rw [hM.out.1.size]; exact e3, _, hM.out.2 i hi b o e1, rfl⟩)
      subst hm
      clear hM
      go_wp2_with fail
      go_ret
      exact ⟨rfl, HR.out⟩

set_option maxHeartbeats 1000000 in
theorem held1 (S : Nat → Prop) (w : World) (v : Value) (n k : Nat) (hv : SlI S w v (cnt k n)) (hk : ((k + n : Nat) : Int) ≤ 9223372036854775807) :
    Calls Tryz.prog 59 #[v, .int .i64 (k : Int)] w fun e w' => e = .returned (.int .i64 ((k + n : Nat) : Int)) ∧ w = w' := by
  obtain ⟨ao, c, rfl, _, _⟩ := hv.form
  rw [cnt_length] at hv ⊢
  have HV := Lib.hid hv
  have hl63 : (n : Int) ≤ 9223372036854775807 := by omega
  clear hv
  go_enter Tryz.func59, Tryz.ntmps59
  go_wp2_with fail
  go_loop [1, 5] (fun tv iv => ∃ j m : Nat, j ≤ n ∧ iv = .int .i64 (j : Int) ∧ m = k + j ∧ tv = .int .i64 (m : Int)) (fun _ iv => n - (intOf iv).toNat)
  case atStart => exact ⟨0, k, Nat.zero_le _, rfl, rfl, rfl⟩
  case round =>
    obtain ⟨j, m, hj, rfl, hm, rfl⟩ := hrel
    by_cases hlt : j < n
    · obtain ⟨b, o, u, rfl, hSb, hb, hc, hu⟩ := SlG.get HV.out (cnt_get (k := k) hlt)
      rw [← hm] at hu
      subst hu
      have hne : ((m : Int) != (m : Int)) = false := by simp
      have hm63 : (m : Int) + 1 ≤ 9223372036854775807 := by omega
      have HMM := Lib.hid hm
      clear hm
      go_wp2_with fail
      go_round
      case rel => exact ⟨j + 1, m + 1, by omega, by go_num, by have := HMM.out; omega, by go_num⟩
      case measure => simp [intOf]; omega
    · obtain rfl : j = n := by omega
      subst hm
      go_wp2_with fail
      go_ret
      exact ⟨rfl, rfl⟩
/-- what every element but those of a changed block reads as -/
theorem SlG.carry {α : Type} {E : World → Value → α → Prop} {S S' : Nat → Prop} {w w' : World} {v : Value} {l l' : List α} (h : SlG E S w v l) (hs : w.heap.size ≤ w'.heap.size) (hl : l'.length = l.length)
    (hE : ∀ (i : Nat) (x x' : α) (b o : Nat) (u : Value), l[i]? = some x → l'[i]? = some x' → w.cell? ⟨b, o, none⟩ = some u → E w u x → w'.cell? ⟨b, o, none⟩ = some u ∧ E w' u x') : SlG E S w' v l' := by
  obtain ⟨ao, c, h1, h2, h3, h0, h4⟩ := h
  refine ⟨ao, c, by rw [hl]; exact h1, by rw [hl]; exact h2, h3, h0, fun i x' hx' => ?_⟩
  have hi : i < l.length := by rw [← hl]; exact (List.getElem?_eq_some_iff.1 hx').1
  obtain ⟨b, o, e1, e2, e3, u, e4, e5⟩ := h4 i l[i] (List.getElem?_eq_getElem hi)
  obtain ⟨f1, f2⟩ := hE i _ _ _ _ _ (List.getElem?_eq_getElem hi) hx' e4 e5
  exact ⟨b, o, e1, e2, Nat.lt_of_lt_of_le e3 hs, u, f1, f2⟩

/-- a row that lies in one block -/
abbrev Row1 : World → Value → Nat × List Int → Prop := fun w u p => SlI (fun b => b = p.1) w u p.2
/-- rows, each with its block -/
abbrev Rows2 (S : Nat → Prop) (w : World) (v : Value) (L : List (Nat × List Int)) : Prop := SlG Row1 S w v L
def tot : List (Nat × List Int) → Nat
  | [] => 0
  | p :: L => p.2.length + tot L
/-- the rows marked -/
def mrk : Nat → List (Nat × List Int) → List (Nat × List Int)
  | _, [] => []
  | k, p :: L => (p.1, cnt k p.2.length) :: mrk (k + p.2.length) L
theorem mrk_length : ∀ (k : Nat) (L : List (Nat × List Int)), (mrk k L).length = L.length
  | _, [] => rfl
  | k, p :: L => by rw [mrk, List.length_cons, List.length_cons, mrk_length]
theorem mrk_fst : ∀ (k : Nat) (L : List (Nat × List Int)), (mrk k L).map (·.1) = L.map (·.1)
  | _, [] => rfl
  | k, p :: L => by rw [mrk, List.map_cons, List.map_cons, mrk_fst]
theorem mrk_get : ∀ (k : Nat) (L : List (Nat × List Int)) (j : Nat) (p : Nat × List Int), L[j]? = some p → (mrk k L)[j]? = some (p.1, cnt (k + tot (L.take j)) p.2.length)
  | k, [], j, p, h => by simp at h
  | k, q :: L, 0, p, h => by
    simp only [List.getElem?_cons_zero, Option.some.injEq] at h
    subst h
    simp [mrk, tot]
  | k, q :: L, j + 1, p, h => by
    rw [mrk, List.getElem?_cons_succ, mrk_get _ L j p (by simpa using h)]
    simp only [List.take_succ_cons, tot]
    rw [Nat.add_assoc]
theorem tot_take : ∀ (L : List (Nat × List Int)) (j : Nat) (p : Nat × List Int), L[j]? = some p → tot (L.take (j + 1)) = tot (L.take j) + p.2.length
  | [], j, p, h => by simp at h
  | q :: L, 0, p, h => by
    simp only [List.getElem?_cons_zero, Option.some.injEq] at h
    subst h
    simp [tot]
  | q :: L, j + 1, p, h => by
    simp only [List.take_succ_cons, tot]
    rw [tot_take L j p (by simpa using h)]
    omega
theorem tot_le : ∀ (L : List (Nat × List Int)) (j : Nat), tot (L.take j) ≤ tot L
  | [], j => by simp [tot]
  | q :: L, 0 => by simp [tot]
  | q :: L, j + 1 => by
    simp only [List.take_succ_cons, tot]
    have := tot_le L j
    omega
/-- the first j rows marked -/
def mix (k : Nat) (L : List (Nat × List Int)) (j : Nat) : List (Nat × List Int) := (mrk k L).take j ++ L.drop j
theorem mix_length {k : Nat} {L : List (Nat × List Int)} {j : Nat} (h : j ≤ L.length) : (mix k L j).length = L.length := by
  unfold mix
  rw [List.length_append, List.length_take, mrk_length, List.length_drop]; omega
theorem mix_get {k : Nat} {L : List (Nat × List Int)} {j i : Nat} (h : j ≤ L.length) : (mix k L j)[i]? = if i < j then (mrk k L)[i]? else L[i]? := by
  unfold mix
  by_cases hi : i < j
  · rw [if_pos hi, List.getElem?_append_left (by rw [List.length_take, mrk_length]; omega), List.getElem?_take_of_lt hi]
  · rw [if_neg hi, List.getElem?_append_right (by rw [List.length_take, mrk_length]; omega), List.length_take, mrk_length, List.getElem?_drop]
    congr 1
    omega
theorem mix_zero (k : Nat) (L : List (Nat × List Int)) : mix k L 0 = L := by simp [mix]
theorem mix_end (k : Nat) (L : List (Nat × List Int)) : mix k L L.length = mrk k L := by
  unfold mix
  rw [List.drop_length, List.append_nil, List.take_of_length_le (by rw [mrk_length]; exact Nat.le_refl _)]
/-- one more row marked -/
theorem mix_step {S : Nat → Prop} {w w' : World} {v : Value} {k j : Nat} {L : List (Nat × List Int)} (hnd : (L.map (·.1)).Nodup) {p : Nat × List Int} (hp : L[j]? = some p) (h : Rows2 S w v (mix k L j)) (hm : Mrk (fun b => b = p.1) w w') {b o : Nat} {u : Value}
    (hcell : ∀ b' o' c', v = .slice (some ⟨b', o', none⟩) L.length c' → b = b' ∧ o = o' + j) (hc : w.cell? ⟨b, o, none⟩ = some u) (hu : SlI (fun b => b = p.1) w' u (cnt (k + tot (L.take j)) p.2.length)) : Rows2 S w' v (mix k L (j + 1)) := by
  have hjl : j < L.length := (List.getElem?_eq_some_iff.1 hp).1
  obtain ⟨ao, c, h1, h2, h3, h0, h4⟩ := h
  rw [mix_length (by omega)] at h1 h2
  refine ⟨ao, c, by rw [mix_length (by omega)]; exact h1, by rw [mix_length (by omega)]; exact h2, h3, h0, fun i x hx => ?_⟩
  have hil : i < L.length := by
    have := (List.getElem?_eq_some_iff.1 hx).1
    rwa [mix_length (by omega)] at this
  rw [mix_get (by omega)] at hx
  have hsl : ∀ (b o : Nat) (u : Value) (q : Nat × List Int), w.cell? ⟨b, o, none⟩ = some u → SlI (fun b => b = q.1) w u q.2 → w'.cell? ⟨b, o, none⟩ = some u := fun b o u q hc hq => by
    obtain ⟨a', c', rfl, _⟩ := hq.form
    exact hm.sl hc
  have hold : ∀ q : Nat × List Int, q.1 ≠ p.1 → ∀ u, SlI (fun b => b = q.1) w u q.2 → SlI (fun b => b = q.1) w' u q.2 := fun q hq u hu => hu.keep (hm.keep.mono (fun b hb => by rw [hb]; exact hq))
  have hne : ∀ q, L[i]? = some q → i ≠ j → q.1 ≠ p.1 := fun q hq hij he => by
    have e1 : (L.map (·.1))[i]? = some q.1 := by rw [List.getElem?_map, hq]; rfl
    have e2 : (L.map (·.1))[j]? = some p.1 := by rw [List.getElem?_map, hp]; rfl
    have e3 : (L.map (·.1))[i]? = (L.map (·.1))[j]? := by rw [e1, e2, he]
    exact hij ((List.getElem?_inj (by rw [List.length_map]; exact hil) hnd).1 e3)
  by_cases hij : i = j
  · subst hij
    rw [if_pos (by omega), mrk_get k L i p hp] at hx
    cases hx
    obtain ⟨b1, o1, e1, e2, e3, u1, e4, e5⟩ := h4 i p (by rw [mix_get (by omega), if_neg (by omega)]; exact hp)
    subst e1
    obtain ⟨rfl, rfl⟩ := hcell b1 o1 c h1
    rw [hc] at e4
    cases e4
    exact ⟨b, o1, rfl, e2, by rw [hm.size]; exact e3, u, hsl _ _ _ _ hc e5, hu⟩
  · obtain ⟨q, hq⟩ : ∃ q, L[i]? = some q := ⟨_, List.getElem?_eq_getElem hil⟩
    have hxm : (mix k L j)[i]? = some x := by
      rw [mix_get (by omega)]
      by_cases h : i < j
      · rw [if_pos h]; rw [if_pos (by omega)] at hx; exact hx
      · rw [if_neg h]; rw [if_neg (by omega)] at hx; exact hx
    have hx1 : x.1 = q.1 := by
      by_cases h : i < j
      · rw [if_pos (by omega), mrk_get k L i q hq] at hx
        cases hx; rfl
      · rw [if_neg (by omega), hq] at hx
        cases hx; rfl
    obtain ⟨b1, o1, e1, e2, e3, u1, e4, e5⟩ := h4 i x hxm
    exact ⟨b1, o1, e1, e2, by rw [hm.size]; exact e3, u1, hsl _ _ _ _ e4 e5, hold x (by rw [hx1]; exact hne q hq hij) u1 e5⟩

set_option maxHeartbeats 1000000 in
theorem mark2 (S : Nat → Prop) (w : World) (v : Value) (L : List (Nat × List Int)) (hv : Rows2 S w v L) (hnd : (L.map (·.1)).Nodup) (hN : NFS (fun b => b ∈ L.map (·.1)) w) (k : Nat) (hk : ((k + tot L : Nat) : Int) ≤ 9223372036854775807) :
    Calls Tryz.prog 23 #[v, .int .i64 (k : Int)] w fun e w' => e = .returned (.int .i64 ((k + tot L : Nat) : Int)) ∧ Mrk (fun b => b ∈ L.map (·.1)) w w' ∧ Rows2 S w' v (mrk k L) := by
  obtain ⟨ao, c, rfl, hlc, hcm⟩ := SlG.form hv
  unfold maxLen at hcm
  have HV := Lib.hid hv
  have HN := Lib.hid hN
  have hl63 : (L.length : Int) ≤ 9223372036854775807 := by omega
  have HD := Lib.hid hnd
  have HT := Lib.hid (fun j => tot_le L j)
  obtain ⟨T, hT⟩ : ∃ T, tot L = T := ⟨_, rfl⟩
  have HTT := Lib.hid hT
  rw [hT] at hk ⊢
  clear hv hN hnd hcm hT
  go_enter Tryz.func23, Tryz.ntmps23
  go_wp2_with fail
  go_loopw [1, 5] (fun tv iv wr => ∃ j m : Nat, j ≤ L.length ∧ iv = .int .i64 (j : Int) ∧ Hid (m = k + tot (L.take j)) ∧ tv = .int .i64 (m : Int) ∧ Hid (Mrk (fun b => b ∈ L.map (·.1)) w wr ∧ Rows2 S wr (.slice ao L.length c) (mix k L j))) (fun _ iv _ => L.length - (intOf iv).toNat)
  case atStart => exact ⟨0, k, Nat.zero_le _, rfl, Lib.hid (by simp [tot]), rfl, Lib.hid ⟨Mrk.refl _ _, by rw [mix_zero]; exact HV.out⟩⟩
  case round =>
    obtain ⟨j, m, hj, rfl, hm, rfl, hM⟩ := hrel
    by_cases hlt : j < L.length
    · obtain ⟨p, hp⟩ : ∃ p, L[j]? = some p := ⟨_, List.getElem?_eq_getElem hlt⟩
      obtain ⟨b, o, u, he, hSb, hb, hc, hu⟩ := SlG.get hM.out.2 (k := j) (x := p) (by rw [mix_get (by omega), if_neg (by omega)]; exact hp)
      have hml : m + p.2.length ≤ k + T := by
        rw [hm.out, Nat.add_assoc, ← tot_take L j p hp, ← HTT.out]
        have := HT.out (j + 1)
        omega
      have HM1 := Lib.hid (mark1 (fun b => b = p.1) wr u p.2 hu ((hM.out.1.nf _ HN.out).mono (fun b hb => by rw [hb]; exact List.mem_map.2 ⟨p, List.mem_of_getElem? hp, rfl⟩)) m (by omega))
      have HP := Lib.hid hp
      have HHE := Lib.hid he
      subst he
      clear hu hp
      go_wp2_with fail
      refine HM1.out.mono ?_
      rintro e w1 ⟨rfl, hmk, hcn⟩
      have HN1 := Lib.hid (show Mrk (fun b => b ∈ L.map (·.1)) w w1 ∧ Rows2 S w1 (.slice (some ⟨b, o, none⟩) L.length c) (mix k L (j + 1)) from by
        refine ⟨hM.out.1.trans (hmk.mono (fun b hb => by rw [hb]; exact List.mem_map.2 ⟨p, List.mem_of_getElem? HP.out, rfl⟩)), ?_⟩
        rw [hm.out] at hcn
        exact mix_step HD.out HP.out hM.out.2 hmk (fun b' o' c' e => by simp only [Value.slice.injEq, Option.some.injEq, Addr.mk.injEq, and_true] at e; exact ⟨e.1.1, by rw [e.1.2]⟩) hc hcn)
      have HMN := Lib.hid (show m + p.2.length = k + tot (L.take (j + 1)) by rw [tot_take L j p HP.out, hm.out]; omega)
      clear hmk hcn hc hm hM
      go_wp2_with fail
      go_roundw
      case rel => exact ⟨j + 1, m + p.2.length, by omega, by go_num, HMN, rfl, HN1⟩
      case measure => simp [intOf]; omega
    · obtain rfl : j = L.length := by omega
      have HR := Lib.hid (show Mrk (fun b => b ∈ L.map (·.1)) w wr ∧ Rows2 S wr (.slice ao L.length c) (mrk k L) from ⟨hM.out.1, by have h := hM.out.2; rwa [mix_end] at h⟩)
      obtain rfl : m = k + T := by rw [hm.out, List.take_length, HTT.out]
      clear hM hm
      go_wp2_with fail
      go_ret
      exact ⟨rfl, HR.out⟩

set_option maxHeartbeats 1000000 in
theorem held2 (S : Nat → Prop) (w : World) (v : Value) (L : List (Nat × List Int)) (k : Nat) (hv : Rows2 S w v (mrk k L)) (hk : ((k + tot L : Nat) : Int) ≤ 9223372036854775807) :
    Calls Tryz.prog 24 #[v, .int .i64 (k : Int)] w fun e w' => e = .returned (.int .i64 ((k + tot L : Nat) : Int)) ∧ w = w' := by
  obtain ⟨ao, c, rfl, hlc, hcm⟩ := SlG.form hv
  rw [mrk_length] at hv hlc ⊢
  unfold maxLen at hcm
  have HV := Lib.hid hv
  have hl63 : (L.length : Int) ≤ 9223372036854775807 := by omega
  have HT := Lib.hid (fun j => tot_le L j)
  obtain ⟨T, hT⟩ : ∃ T, tot L = T := ⟨_, rfl⟩
  have HTT := Lib.hid hT
  rw [hT] at hk ⊢
  clear hv hcm hT
  go_enter Tryz.func24, Tryz.ntmps24
  go_wp2_with fail
  go_loop [1, 5] (fun tv iv => ∃ j m : Nat, j ≤ L.length ∧ iv = .int .i64 (j : Int) ∧ Hid (m = k + tot (L.take j)) ∧ tv = .int .i64 (m : Int)) (fun _ iv => L.length - (intOf iv).toNat)
  case atStart => exact ⟨0, k, Nat.zero_le _, rfl, Lib.hid (by simp [tot]), rfl⟩
  case round =>
    obtain ⟨j, m, hj, rfl, hm, rfl⟩ := hrel
    by_cases hlt : j < L.length
    · obtain ⟨p, hp⟩ : ∃ p, L[j]? = some p := ⟨_, List.getElem?_eq_getElem hlt⟩
      obtain ⟨b, o, u, he, hSb, hb, hc, hu⟩ := SlG.get HV.out (mrk_get k L j p hp)
      subst he
      have hml : m + p.2.length ≤ k + T := by
        rw [hm.out, Nat.add_assoc, ← tot_take L j p hp, ← HTT.out]
        have := HT.out (j + 1)
        omega
      rw [← hm.out] at hu
      have HM1 := Lib.hid (held1 _ w u p.2.length m hu (by omega))
      have HMN := Lib.hid (show m + p.2.length = k + tot (L.take (j + 1)) by rw [tot_take L j p hp, hm.out]; omega)
      have hnn : decide (((m + p.2.length : Nat) : Int) < 0) = false := by simp; omega
      obtain ⟨m', hm'⟩ : ∃ m', m + p.2.length = m' := ⟨_, rfl⟩
      rw [hm'] at HM1 HMN hnn
      clear hu hp hm hm' hml
      go_wp2_with fail
      refine HM1.out.mono ?_
      rintro e w1 ⟨rfl, rfl⟩
      go_wp2_with fail
      go_round
      case rel => exact ⟨j + 1, m', by omega, by go_num, HMN, rfl⟩
      case measure => simp [intOf]; omega
    · obtain rfl : j = L.length := by omega
      obtain rfl : m = k + T := by rw [hm.out, List.take_length, HTT.out]
      clear hm
      go_wp2_with fail
      go_ret
      exact ⟨rfl, rfl⟩
end Go.Proofs.YtabeedimnbkcgaaGreat.Mark

/-
  The law's marks over its own copies.
-/
namespace Go.Proofs.YtabeedimnbkcgaaGreat.Mark
open Go.RowKit Go.Proofs.YtabeedimnbkcgaaGreat Go.Proofs.YtabeedimnbkcgaaGreat.SpecB Go.Proofs.YtabeedimnbkcgaaGreat.LawB Go.Proofs.YtabeedimnbkcgaaGreat.LawC Go.Proofs.YtabeedimnbkcgaaGreat.LawN
set_option linter.unusedVariables false
set_option linter.unusedSimpArgs false

theorem SlG.otherQ {α β : Type} {E : World → Value → α → Prop} {E' : World → Value → β → Prop} {Q : α → β → Prop} {S : Nat → Prop} {w w' : World} {v : Value} {l : List α} (h : SlG E S w v l) (hs : w.heap.size ≤ w'.heap.size)
    (hE : ∀ b o u x, w.cell? ⟨b, o, none⟩ = some u → E w u x → ∃ u' y, w'.cell? ⟨b, o, none⟩ = some u' ∧ E' w' u' y ∧ Q x y) : ∃ l' : List β, l'.length = l.length ∧ SlG E' S w' v l' ∧ ∀ (i : Nat) (x : α) (y : β), l[i]? = some x → l'[i]? = some y → Q x y := by
  obtain ⟨ao, c, h1, h2, h3, h0, h4⟩ := h
  have hz : ∀ i : Fin l.length, ∃ y, (∃ b o, ao = some ⟨b, o, none⟩ ∧ S b ∧ b < w'.heap.size ∧ ∃ u, w'.cell? ⟨b, o + i.1, none⟩ = some u ∧ E' w' u y) ∧ Q l[i.1] y := fun i => by
    obtain ⟨b, o, e1, e2, e3, u, e4, e5⟩ := h4 i.1 l[i.1] (List.getElem?_eq_getElem i.2)
    obtain ⟨u', y, f1, f2, f3⟩ := hE _ _ _ _ e4 e5
    exact ⟨y, ⟨b, o, e1, e2, Nat.lt_of_lt_of_le e3 hs, u', f1, f2⟩, f3⟩
  have hget : ∀ (i : Nat) (y : β), ((List.finRange l.length).map fun i => Classical.choose (hz i))[i]? = some y → ∃ j : Fin l.length, j.1 = i ∧ y = Classical.choose (hz j) := fun i y hy => by
    simp only [List.getElem?_map, Option.map_eq_some_iff] at hy
    obtain ⟨j, hj, rfl⟩ := hy
    refine ⟨j, ?_, rfl⟩
    have := (List.getElem?_eq_some_iff.1 hj).2
    rw [← this]; simp
  refine ⟨(List.finRange l.length).map fun i => Classical.choose (hz i), by simp, ⟨ao, c, by simpa using h1, by simpa using h2, h3, h0, fun i y hy => ?_⟩, fun i x y hx hy => ?_⟩
  · obtain ⟨j, rfl, rfl⟩ := hget i y hy
    exact (Classical.choose_spec (hz j)).1
  · obtain ⟨j, rfl, rfl⟩ := hget i y hy
    have := (Classical.choose_spec (hz j)).2
    rw [List.getElem?_eq_getElem j.2] at hx
    cases hx
    exact this
def tot2 : List (List Int) → Nat
  | [] => 0
  | r :: l => r.length + tot2 l
def tot3 : List (List (List Int)) → Nat
  | [] => 0
  | r :: l => tot2 r + tot3 l
theorem tot2_take : ∀ (l : List (List Int)) (j : Nat) (p : List Int), l[j]? = some p → tot2 (l.take (j + 1)) = tot2 (l.take j) + p.length
  | [], j, p, h => by simp at h
  | q :: l, 0, p, h => by
    simp only [List.getElem?_cons_zero, Option.some.injEq] at h
    subst h
    simp [tot2]
  | q :: l, j + 1, p, h => by
    simp only [List.take_succ_cons, tot2]
    rw [tot2_take l j p (by simpa using h)]
    omega
theorem tot2_le : ∀ (l : List (List Int)) (j : Nat), tot2 (l.take j) ≤ tot2 l
  | [], j => by simp [tot2]
  | q :: l, 0 => by simp [tot2]
  | q :: l, j + 1 => by
    simp only [List.take_succ_cons, tot2]
    have := tot2_le l j
    omega
theorem tot3_take : ∀ (l : List (List (List Int))) (j : Nat) (p : List (List Int)), l[j]? = some p → tot3 (l.take (j + 1)) = tot3 (l.take j) + tot2 p
  | [], j, p, h => by simp at h
  | q :: l, 0, p, h => by
    simp only [List.getElem?_cons_zero, Option.some.injEq] at h
    subst h
    simp [tot3]
  | q :: l, j + 1, p, h => by
    simp only [List.take_succ_cons, tot3]
    rw [tot3_take l j p (by simpa using h)]
    omega
theorem tot3_le : ∀ (l : List (List (List Int))) (j : Nat), tot3 (l.take j) ≤ tot3 l
  | [], j => by simp [tot3]
  | q :: l, 0 => by simp [tot3]
  | q :: l, j + 1 => by
    simp only [List.take_succ_cons, tot3]
    have := tot3_le l j
    omega
theorem tot2_eq : ∀ (l l' : List (List Int)), l'.length = l.length → (∀ (i : Nat) (x y : List Int), l[i]? = some x → l'[i]? = some y → y.length = x.length) → tot2 l' = tot2 l
  | [], [], _, _ => rfl
  | [], _ :: _, h, _ => by simp at h
  | _ :: _, [], h, _ => by simp at h
  | a :: l, b :: l', h, hq => by
    rw [tot2, tot2, hq 0 a b rfl rfl, tot2_eq l l' (by simpa using h) (fun i x y hx hy => hq (i + 1) x y (by simpa using hx) (by simpa using hy))]
theorem Sl2.mrk {S S' : Nat → Prop} {w w' : World} {v : Value} {l : List (List Int)} (h : Sl2 S w v l) (hm : Mrk S' w w') : ∃ l', tot2 l' = tot2 l ∧ Sl2 S w' v l' := by
  obtain ⟨l', h1, h2, h3⟩ := SlG.otherQ (E' := fun w u x => SlI S w u x) (Q := fun (x y : List Int) => y.length = x.length) h (Nat.le_of_eq hm.size.symm) fun b o u x hc e => by
    obtain ⟨y, hy, he⟩ := SlI.mrk e hm
    obtain ⟨a, c, rfl, _⟩ := e.form
    exact ⟨_, y, hm.sl hc, he, hy⟩
  exact ⟨l', tot2_eq l l' h1 h3, h2⟩

set_option maxHeartbeats 1000000 in
theorem mark2w (S : Nat → Prop) (w : World) (v : Value) (l : List (List Int)) (hv : Sl2 S w v l) (hN : NFS S w) (k : Nat) (hk : ((k + tot2 l : Nat) : Int) ≤ 9223372036854775807) :
    Calls Tryz.prog 23 #[v, .int .i64 (k : Int)] w fun e w' => e = .returned (.int .i64 ((k + tot2 l : Nat) : Int)) ∧ Mrk S w w' := by
  obtain ⟨ao, c, rfl, hlc, hcm⟩ := SlG.form hv
  unfold maxLen at hcm
  have HV := Lib.hid hv
  have HN := Lib.hid hN
  have hl63 : (l.length : Int) ≤ 9223372036854775807 := by omega
  have HT := Lib.hid (fun j => tot2_le l j)
  obtain ⟨T, hT⟩ : ∃ T, tot2 l = T := ⟨_, rfl⟩
  have HTT := Lib.hid hT
  rw [hT] at hk ⊢
  clear hv hN hcm hT
  go_enter Tryz.func23, Tryz.ntmps23
  go_wp2_with fail
  go_loopw [1, 5] (fun tv iv wr => ∃ j m : Nat, j ≤ l.length ∧ iv = .int .i64 (j : Int) ∧ Hid (m = k + tot2 (l.take j)) ∧ tv = .int .i64 (m : Int) ∧ Hid (Mrk S w wr)) (fun _ iv _ => l.length - (intOf iv).toNat)
  case atStart => exact ⟨0, k, Nat.zero_le _, rfl, Lib.hid (by simp [tot2]), rfl, Lib.hid (Mrk.refl _ _)⟩
  case round =>
    obtain ⟨j, m, hj, rfl, hm, rfl, hM⟩ := hrel
    by_cases hlt : j < l.length
    · obtain ⟨p, hp⟩ : ∃ p, l[j]? = some p := ⟨_, List.getElem?_eq_getElem hlt⟩
      obtain ⟨b, o, u, he, hSb, hb, hc, hu⟩ := SlG.get HV.out hp
      obtain ⟨p', hpl, hu'⟩ := SlI.mrk hu hM.out
      have hml : m + p.length ≤ k + T := by
        rw [hm.out, Nat.add_assoc, ← tot2_take l j p hp, ← HTT.out]
        have := HT.out (j + 1)
        omega
      have hcr : wr.cell? ⟨b, o + j, none⟩ = some u := by
        obtain ⟨a, c', rfl, _⟩ := hu.form
        exact hM.out.sl hc
      have HM1 := Lib.hid (mark1 S wr u p' hu' (hM.out.nf _ HN.out) m (by rw [hpl]; omega))
      have HMN := Lib.hid (show m + p'.length = k + tot2 (l.take (j + 1)) by rw [tot2_take l j p hp, hm.out, hpl]; omega)
      subst he
      clear hu hu' hp hc hm hml hpl
      go_wp2_with fail
      refine HM1.out.mono ?_
      rintro e w1 ⟨rfl, hmk, -⟩
      have HN1 := Lib.hid (hM.out.trans hmk)
      clear hmk hM
      go_wp2_with fail
      go_roundw
      case rel => exact ⟨j + 1, m + p'.length, by omega, by go_num, HMN, rfl, HN1⟩
      case measure => simp [intOf]; omega
    · obtain rfl : j = l.length := by omega
      obtain rfl : m = k + T := by rw [hm.out, List.take_length, HTT.out]
      clear hm
      go_wp2_with fail
      go_ret
      exact ⟨rfl, hM.out⟩

set_option maxHeartbeats 1000000 in
theorem mark3w (S : Nat → Prop) (w : World) (v : Value) (l : List (List (List Int))) (hv : Sl3 S w v l) (hN : NFS S w) (k : Nat) (hk : ((k + tot3 l : Nat) : Int) ≤ 9223372036854775807) :
    Calls Tryz.prog 28 #[v, .int .i64 (k : Int)] w fun e w' => e = .returned (.int .i64 ((k + tot3 l : Nat) : Int)) ∧ Mrk S w w' := by
  obtain ⟨ao, c, rfl, hlc, hcm⟩ := SlG.form hv
  unfold maxLen at hcm
  have HV := Lib.hid hv
  have HN := Lib.hid hN
  have hl63 : (l.length : Int) ≤ 9223372036854775807 := by omega
  have HT := Lib.hid (fun j => tot3_le l j)
  obtain ⟨T, hT⟩ : ∃ T, tot3 l = T := ⟨_, rfl⟩
  have HTT := Lib.hid hT
  rw [hT] at hk ⊢
  clear hv hN hcm hT
  go_enter Tryz.func28, Tryz.ntmps28
  go_wp2_with fail
  go_loopw [1, 5] (fun tv iv wr => ∃ j m : Nat, j ≤ l.length ∧ iv = .int .i64 (j : Int) ∧ Hid (m = k + tot3 (l.take j)) ∧ tv = .int .i64 (m : Int) ∧ Hid (Mrk S w wr)) (fun _ iv _ => l.length - (intOf iv).toNat)
  case atStart => exact ⟨0, k, Nat.zero_le _, rfl, Lib.hid (by simp [tot3]), rfl, Lib.hid (Mrk.refl _ _)⟩
  case round =>
    obtain ⟨j, m, hj, rfl, hm, rfl, hM⟩ := hrel
    by_cases hlt : j < l.length
    · obtain ⟨p, hp⟩ : ∃ p, l[j]? = some p := ⟨_, List.getElem?_eq_getElem hlt⟩
      obtain ⟨b, o, u, he, hSb, hb, hc, hu⟩ := SlG.get HV.out hp
      obtain ⟨p', hpl, hu'⟩ := Sl2.mrk hu hM.out
      have hml : m + tot2 p ≤ k + T := by
        rw [hm.out, Nat.add_assoc, ← tot3_take l j p hp, ← HTT.out]
        have := HT.out (j + 1)
        omega
      have hcr : wr.cell? ⟨b, o + j, none⟩ = some u := by
        obtain ⟨a, c', rfl, _⟩ := SlG.form hu
        exact hM.out.sl hc
      have HM1 := Lib.hid (mark2w S wr u p' hu' (hM.out.nf _ HN.out) m (by rw [hpl]; omega))
      have HMN := Lib.hid (show m + tot2 p' = k + tot3 (l.take (j + 1)) by rw [tot3_take l j p hp, hm.out, hpl]; omega)
      subst he
      clear hu hu' hp hc hm hml hpl
      go_wp2_with fail
      refine HM1.out.mono ?_
      rintro e w1 ⟨rfl, hmk⟩
      have HN1 := Lib.hid (hM.out.trans hmk)
      clear hmk hM
      go_wp2_with fail
      go_roundw
      case rel => exact ⟨j + 1, m + tot2 p', by omega, by go_num, HMN, rfl, HN1⟩
      case measure => simp [intOf]; omega
    · obtain rfl : j = l.length := by omega
      obtain rfl : m = k + T := by rw [hm.out, List.take_length, HTT.out]
      clear hm
      go_wp2_with fail
      go_ret
      exact ⟨rfl, hM.out⟩

theorem tot2_bd {N : Nat} {l : List (List Int)} (h : ∀ r ∈ l, B1 N r) : tot2 l ≤ l.length * N := by
  induction l with
  | nil => simp [tot2]
  | cons r l ih =>
    have h1 := h r List.mem_cons_self
    have h2 := ih (fun x hx => h x (List.mem_cons_of_mem _ hx))
    rw [tot2, List.length_cons, Nat.succ_mul]
    unfold B1 at h1
    omega
theorem tot2_B {N : Nat} {l : List (List Int)} (h : B2 N l) : tot2 l ≤ N * N := Nat.le_trans (tot2_bd h.2) (Nat.mul_le_mul_right _ h.1)
theorem tot3_bd {N : Nat} {l : List (List (List Int))} (h : ∀ r ∈ l, B2 N r) : tot3 l ≤ l.length * (N * N) := by
  induction l with
  | nil => simp [tot3]
  | cons r l ih =>
    have h1 := tot2_B (h r List.mem_cons_self)
    have h2 := ih (fun x hx => h x (List.mem_cons_of_mem _ hx))
    rw [tot3, List.length_cons, Nat.succ_mul]
    omega
theorem tot3_B {N : Nat} {l : List (List (List Int))} (h : B3 N l) : tot3 l ≤ N * (N * N) := Nat.le_trans (tot3_bd h.2) (Nat.mul_le_mul_right _ h.1)
def totP (P : Pres) : Nat := P.os.length + tot2 P.ps + tot3 P.cs
theorem totP_B {P : Pres} (h : BP 1048576 P) : totP P ≤ 1152922604119523328 := by
  have h1 := h.1
  have h2 := tot2_B h.2.1
  have h3 := tot3_B h.2.2
  unfold B1 at h1
  unfold totP
  omega
theorem Sl2.mrk_ps {S S' : Nat → Prop} {w w' : World} {v : Value} {l : List (List (List Int))} (h : Sl3 S w v l) (hm : Mrk S' w w') : ∃ l', tot3 l' = tot3 l ∧ Sl3 S w' v l' := by
  obtain ⟨l', h1, h2, h3⟩ := SlG.otherQ (E' := fun w u x => Sl2 S w u x) (Q := fun (x y : List (List Int)) => tot2 y = tot2 x) h (Nat.le_of_eq hm.size.symm) fun b o u x hc e => by
    obtain ⟨y, hy, he⟩ := Sl2.mrk e hm
    obtain ⟨a, c, rfl, _⟩ := SlG.form e
    exact ⟨_, y, hm.sl hc, he, hy⟩
  refine ⟨l', ?_, h2⟩
  have : ∀ (l l' : List (List (List Int))), l'.length = l.length → (∀ (i : Nat) (x y : List (List Int)), l[i]? = some x → l'[i]? = some y → tot2 y = tot2 x) → tot3 l' = tot3 l := by
    intro l
    induction l with
    | nil => intro l' h _; obtain rfl := List.eq_nil_of_length_eq_zero h; rfl
    | cons a l ih =>
      intro l' h hq
      cases l' with
      | nil => simp at h
      | cons b l' => rw [tot3, tot3, hq 0 a b rfl rfl, ih l' (by simpa using h) (fun i x y hx hy => hq (i + 1) x y (by simpa using hx) (by simpa using hy))]
  exact this l l' h1 h3


set_option maxHeartbeats 1000000 in
theorem markP (S : Nat → Prop) (w : World) (hS : ∀ b, S b → b < w.heap.size) (pO pP pC : Value) (P : Pres) (hP : ValP S w pO pP pC P) (hN : NFS S w) (k : Nat) (hk : ((k + totP P : Nat) : Int) ≤ 9223372036854775807) :
    Calls Tryz.prog 22 #[.agg #[pO, pP, pC], .int .i64 (k : Int)] w fun e w' => e = .returned (.int .i64 ((k + totP P : Nat) : Int)) ∧ ∃ W, Below w.heap.size w W ∧ W.heap.size = w.heap.size + 1 ∧ NFS S W ∧ Mrk S W w' := by
  obtain ⟨W, hW⟩ : ∃ W, W = w.alloc (.cells #[pO, pP, pC] 30) := ⟨_, rfl⟩
  have HB := Lib.hid (show Below w.heap.size w W by rw [hW]; exact (Below.refl _ _).alloc (Nat.le_refl _) _)
  have HSZ := Lib.hid (show W.heap.size = w.heap.size + 1 by rw [hW]; simp)
  have HN := Lib.hid (show NFS S W by rw [hW]; exact hN.keep ((Keep.refl Any _).alloc _) (fun g hg => ⟨trivial, hS g hg⟩))
  have HP := Lib.hid (show ValP S W pO pP pC P by rw [hW]; exact hP.keep ((Keep.refl _ _).alloc _))
  have HG := Lib.hid (show W.heap[w.heap.size]? = some (.cells #[pO, pP, pC] 30 (0, 0)) by rw [hW]; exact new_blk)
  have HNS := Lib.hid (show ¬ S w.heap.size from fun h => by have := hS _ h; omega)
  obtain ⟨aO, cO, rfl, _⟩ := SlG.form hP.os
  obtain ⟨aP, cP, rfl, _⟩ := SlG.form hP.ps
  obtain ⟨aC, cC, rfl, _⟩ := SlG.form hP.cs
  unfold totP at hk ⊢
  clear hP hN hS
  go_enter Tryz.func22, Tryz.ntmps22
  go_upto_region 1 with fail
  rw [← hW]
  clear hW
  obtain ⟨⟨x0, x1, x2⟩, _⟩ := row3 HG.out
  go_wp2_with fail
  refine (mark1 S W _ P.os HP.out.os HN.out k (by omega)).mono ?_
  rintro e w1 ⟨rfl, hm1, -⟩
  have HM1 := Lib.hid hm1
  obtain ⟨l2, ht2, h2⟩ := Sl2.mrk HP.out.ps hm1
  have HT2 := Lib.hid ht2
  have HM2 := Lib.hid (mark2w S w1 _ l2 h2 (hm1.nf _ HN.out) (k + P.os.length) (by rw [ht2]; omega))
  have G1 := Lib.hid (show w1.heap[w.heap.size]? = _ from (hm1.block _ HNS.out).trans HG.out)
  clear x0 x1 x2 hm1 ht2 h2
  obtain ⟨⟨x0, x1, x2⟩, _⟩ := row3 G1.out
  go_wp2_with fail
  refine HM2.out.mono ?_
  rintro e w2 ⟨rfl, hm2⟩
  have HM2' := Lib.hid (HM1.out.trans hm2)
  obtain ⟨l3, ht3, h3⟩ := Sl2.mrk_ps HP.out.cs HM2'.out
  have HT3 := Lib.hid ht3
  have HM3 := Lib.hid (mark3w S w2 _ l3 h3 (HM2'.out.nf _ HN.out) (k + P.os.length + tot2 l2) (by rw [ht3, HT2.out]; omega))
  have G2 := Lib.hid (show w2.heap[w.heap.size]? = _ from (HM2'.out.block _ HNS.out).trans HG.out)
  clear x0 x1 x2 hm2 ht3 h3
  obtain ⟨⟨x0, x1, x2⟩, _⟩ := row3 G2.out
  go_wp2_with fail
  refine HM3.out.mono ?_
  rintro e w3 ⟨rfl, hm3⟩
  have HM3' := Lib.hid (HM2'.out.trans hm3)
  clear x0 x1 x2 hm3
  go_wp2_with fail
  go_ret
  exact ⟨ret_i (by rw [HT3.out, HT2.out]; omega), W, HB.out, HSZ.out, HN.out, HM3'.out⟩
end Go.Proofs.YtabeedimnbkcgaaGreat.Mark

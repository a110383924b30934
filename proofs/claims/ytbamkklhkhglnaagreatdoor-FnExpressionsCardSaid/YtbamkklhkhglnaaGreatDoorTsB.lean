import Derived.Test.YtbamkklhkhglnaaGreatDoorTsA
/-
  spec.l07Vector, with values.
-/
namespace Go.Proofs.YtbamkklhkhglnaaGreatDoor.TsB
open Go.RowKit Go.Lib Go.Proofs.YtbamkklhkhglnaaGreatDoor Go.Proofs.YtbamkklhkhglnaaGreatDoor.Tow Go.Proofs.YtbamkklhkhglnaaGreatDoor.CyA Go.Proofs.YtbamkklhkhglnaaGreatDoor.TxA Go.Proofs.YtbamkklhkhglnaaGreatDoor.TxB Go.Proofs.YtbamkklhkhglnaaGreatDoor.TxC Go.Proofs.YtbamkklhkhglnaaGreatDoor.TmA Go.Proofs.YtbamkklhkhglnaaGreatDoor.TiA Go.Proofs.YtbamkklhkhglnaaGreatDoor.TiB
open Go.Proofs.YtbamkklhkhglnaaGreatDoor.DwB (mkE)
set_option linter.unusedVariables false
set_option linter.unusedSimpArgs false

/-- exponents of letters -/
def VcR (n : Nat) (l : List Int) (w : World) (e : Ending) (w' : World) : Prop := ∃ v b, e = .returned (.tuple #[v, .bool b]) ∧ Below w.heap.size w w' ∧ ((b = true ∧ (∀ x ∈ l, ¬ x < 0) ∧ RO w.heap.size w' v (cnt n l)) ∨ (b = false ∧ ∃ x ∈ l, x < 0))
set_option maxRecDepth 100000 in
set_option maxHeartbeats 2000000 in
theorem vec_any (n : Nat) (hn : n ≤ 20) (a : Option Addr) (m c : Nat) (l : List Int) (hl : l.length = m) (w : World) (hv : SlI (fun _ => True) w (.slice a m c) l) (hm : m ≤ 100000000) (hp : ∀ x ∈ l, x ≠ 0 ∧ x ≤ (n : Int)) :
    Calls Tryz.prog 137 #[.int .i64 (n : Int), .slice a m c] w (VcR n l w) := by
  have HV := Lib.hid hv
  have HP := Lib.hid hp
  have HL := Lib.hid hl
  have hmk := mkE n (by omega) w
  obtain ⟨w1, hw1⟩ : ∃ w1, w1 = w.alloc (.cells (madeCells #[.int .i64 0] n) 2) := ⟨_, rfl⟩
  rw [← hw1] at hmk
  obtain ⟨g, hg⟩ : ∃ g, w.heap.size = g := ⟨_, rfl⟩
  have H1 := Lib.hid (show Own w.heap.size w1 (.slice (some ⟨g, 0, none⟩) n n) (ints (cnt n (l.take 0))) from by
    have h := Own.made (B := w.heap.size) w n (Nat.le_refl _) (by unfold maxLen; omega)
    rw [hw1, ← hg]
    have e : ints (cnt n (l.take 0)) = List.replicate n 0 := by rw [List.take_zero, cnt_nil]; simp [ints, zer]
    rw [e]; exact h)
  have HB1 := Lib.hid (show Below w.heap.size w w1 by rw [hw1]; exact (Below.refl _ _).alloc (Nat.le_refl _) _)
  rw [hg] at hmk
  have HG := Lib.hid hg
  have hm63 : (m : Int) ≤ 100000000 := by omega
  clear hv hp hl hw1 hg
  go_enter Tryz.func137, Tryz.ntmps137
  go_wp2_with fail
  go_loopw [7] (fun iv wr => ∃ i : Nat, i ≤ m ∧ iv = .int .i64 (i : Int) ∧ Hid (Own w.heap.size wr (.slice (some ⟨g, 0, none⟩) n n) (ints (cnt n (l.take i))) ∧ ∀ x ∈ l.take i, ¬ x < 0) ∧ Hid (Below w.heap.size w wr)) (fun iv _ => m - (intOf iv).toNat)
  case atStart => exact ⟨0, Nat.zero_le _, rfl, Lib.hid ⟨H1.out, fun x h => by simp at h⟩, HB1⟩
  case round =>
    clear H1 HB1
    obtain ⟨i, hi, rfl, hR, hB⟩ := hrel
    by_cases hlt : i < m
    · have hki : (i : Int) < (m : Int) := by omega
      have hki0 : (0 : Int) ≤ (i : Int) := by omega
      obtain ⟨x, hx⟩ : ∃ x, l[i]? = some x := ⟨_, List.getElem?_eq_getElem (by rw [HL.out]; exact hlt)⟩
      have hxm := List.mem_of_getElem? hx
      have hpx := HP.out x hxm
      obtain ⟨b', o, u, rfl, _, hbl, hcu, rfl⟩ := slg_get (HV.out.keep (Keep.of_below hB.out)) hx
      obtain ⟨b2, o2, u2, e2, _, hbl2, _⟩ := slg_get HV.out hx
      have hbg : ¬ b' = g := by
        simp only [Option.some.injEq, Addr.mk.injEq] at e2
        have := HG.out
        omega
      have HTK := Lib.hid (show l.take (i + 1) = l.take i ++ [x] from by rw [List.take_add_one, hx]; rfl)
      have HXM := Lib.hid hxm
      clear hx hxm hbl2 e2
      by_cases hneg : x < 0
      · have HF := Lib.hid (show VcR n l w (.returned (.tuple #[.slice none 0 0, .bool false])) wr from ⟨_, false, rfl, hB.out, .inr ⟨rfl, x, HXM.out, hneg⟩⟩)
        clear hR hB hpx
        go_wp2_with fail
        exact bodyPost_ret (v := .tuple #[.slice none 0 0, .bool false]) (by simp [results, Tryz.results137, go_sem]) rfl HF.out
      · obtain ⟨y, hy⟩ : ∃ y : Nat, x = (y : Int) + 1 := ⟨(x - 1).toNat, by omega⟩
        have hyn : y < n := by omega
        subst hy
        have hyi : (y : Int) < (n : Int) := by omega
        obtain ⟨q, hq⟩ : ∃ q : Nat, (l.take i).count ((y : Int) + 1) = q := ⟨_, rfl⟩
        have hqi : q ≤ 100000000 := by
          have h1 := List.count_le_length (a := (y : Int) + 1) (l := l.take i)
          have h2 : (l.take i).length ≤ i := by rw [List.length_take]; omega
          omega
        have hw1 : IntKind.i64.wrap ((y : Int) + 1 - 1) = (y : Int) := by rw [IntWalk.i64_in _ (by omega)]; omega
        have hw2 : IntKind.i64.wrap ((q : Int) + 1) = (q : Int) + 1 := IntWalk.i64_in _ (by omega)
        have hw3 : IntKind.i64.wrap (y : Int) = (y : Int) := IntWalk.i64_in _ (by omega)
        have hnn : ¬ (y : Int) + 1 < 0 := by omega
        obtain ⟨hc1, hf1⟩ := hR.out.1.cell (j := y) (a := (q : Int)) (by rw [← hq]; exact ints_cnt_get _ hyn)
        obtain ⟨hgB, hgl⟩ := hR.out.1.lt
        have hset := hR.out.1.set_n y (q + 1)
        rw [← hq, cnt_step _ hyn, hq] at hset
        have HR2 := Lib.hid (show Own w.heap.size (wr.setCell ⟨g, y, none⟩ (.int .i64 ((q : Int) + 1))) (.slice (some ⟨g, 0, none⟩) n n) (ints (cnt n (l.take (i + 1)))) ∧ ∀ x ∈ l.take (i + 1), ¬ x < 0 from by
          rw [HTK.out]
          refine ⟨hset.1, fun x hx => ?_⟩
          rcases List.mem_append.1 hx with hx | hx
          · exact hR.out.2 x hx
          · obtain rfl : x = (y : Int) + 1 := by simpa using hx
            exact hnn)
        have HB6 := Lib.hid (hB.out.setCell (p := ⟨g, y, none⟩) hgB (.int .i64 ((q : Int) + 1)))
        have HDR := Lib.hid (fun (W : World) (h : Own w.heap.size W (.slice (some ⟨g, 0, none⟩) n n) (ints (cnt n (l.take (i + 1)))) ∧ ∀ x ∈ l.take (i + 1), ¬ x < 0) => And.intro (Own.drew h.1) h.2)
        clear hR hB hset hq hneg hpx
        go_upto_region 7 with fail
        go_region_law (fail)
        all_goals
          go_wp2_with fail
          go_roundw
          case rel => exact ⟨i + 1, by omega, by go_num, Lib.hid (by first | exact HR2.out | exact HDR.out _ HR2.out), Lib.hid (by first | exact HB6.out | exact HB6.out.drew)⟩
          case measure => simp [intOf]; omega
    · obtain rfl : m = i := by omega
      have hnl : ¬ (m : Int) < (m : Int) := by omega
      have HF := Lib.hid (show VcR n l w (.returned (.tuple #[.slice (some ⟨g, 0, none⟩) n n, .bool true])) wr from by
        have hall : l.take m = l := List.take_of_length_le (by rw [HL.out]; exact Nat.le_refl _)
        obtain ⟨hR1, hR2⟩ := hR.out
        rw [hall] at hR1 hR2
        exact ⟨_, true, rfl, hB.out, .inl ⟨rfl, hR2, RO.of (cnt_len n l) hR1⟩⟩)
      clear hR hB
      go_wp2_with fail
      exact bodyPost_ret (v := .tuple #[.slice (some ⟨g, 0, none⟩) n n, .bool true]) (by simp [results, Tryz.results137, go_sem]) rfl HF.out
end Go.Proofs.YtbamkklhkhglnaaGreatDoor.TsB

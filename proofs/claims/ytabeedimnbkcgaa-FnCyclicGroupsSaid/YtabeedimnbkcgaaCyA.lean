import Derived.Test.YtabeedimnbkcgaaOwn2
/-
  laws.big, unit9, likeInts, like29, like39, likeP9; impl.isModulus, inverseMod, ModInverse.
-/
namespace Go.Proofs.Ytabeedimnbkcgaa.CyA
open Go.RowKit Go.Proofs.Ytabeedimnbkcgaa Go.Proofs.Ytabeedimnbkcgaa.Tow
set_option linter.unusedVariables false
set_option linter.unusedSimpArgs false

abbrev Any : Nat → Prop := fun _ => True
theorem slg_form {α : Type} {E : World → Value → α → Prop} {S : Nat → Prop} {w : World} {v : Value} {l : List α} (h : SlG E S w v l) : ∃ a c, v = .slice a l.length c ∧ l.length ≤ c ∧ c ≤ maxLen := by
  obtain ⟨a, c, h1, h2, h3, _⟩ := h
  exact ⟨a, c, h1, h2, h3⟩
theorem slg_get {α : Type} {E : World → Value → α → Prop} {S : Nat → Prop} {w : World} {a : Option Addr} {n c : Nat} {l : List α} (h : SlG E S w (.slice a n c) l) {k : Nat} {x : α} (hx : l[k]? = some x) :
    ∃ b o u, a = some ⟨b, o, none⟩ ∧ S b ∧ b < w.heap.size ∧ w.cell? ⟨b, o + k, none⟩ = some u ∧ E w u x := by
  obtain ⟨ao, c', e, _, _, _, h4⟩ := h
  obtain ⟨rfl, _, _⟩ : a = ao ∧ n = l.length ∧ c = c' := by simpa using e
  obtain ⟨b, o, e1, e2, e3, u, e4, e5⟩ := h4 k x hx
  exact ⟨b, o, u, e1, e2, e3, e4, e5⟩
/-- yes -/
def TrueR (w : World) (e : Ending) (w' : World) : Prop := e = .returned (.bool true) ∧ Below w.heap.size w w'

set_option maxRecDepth 100000 in
set_option maxHeartbeats 2000000 in
theorem likeI_any (w : World) (va vb : Value) (l : List Int) (ha : SlI Any w va l) (hb : SlI Any w vb l) : Calls Try.prog 27 #[va, vb] w (TrueR w) := by
  obtain ⟨aA, cA, rfl, hlA, hmA⟩ := slg_form ha
  obtain ⟨aB, cB, rfl, hlB, hmB⟩ := slg_form hb
  obtain ⟨n, hn⟩ : ∃ n, l.length = n := ⟨_, rfl⟩
  have HA := Lib.hid ha
  have HB := Lib.hid hb
  have HN := Lib.hid hn
  rw [hn] at HA HB hlA hlB ⊢
  have hn63 : (n : Int) ≤ 9223372036854775807 := by unfold maxLen at hmA; omega
  have hl2 : ((n : Int) != (n : Int)) = false := by simp
  clear ha hb hn hmA hmB hlA hlB
  go_enter Try.func27, Try.ntmps27
  go_wp2_with fail
  go_loopw [5] (fun iv wr => ∃ k : Nat, k ≤ n ∧ iv = .int .i64 (k : Int) ∧ Hid (Below w.heap.size w wr)) (fun iv _ => n - (intOf iv).toNat)
  case atStart => exact ⟨0, Nat.zero_le _, rfl, Lib.hid (Below.refl _ _)⟩
  case round =>
    obtain ⟨k, hk, rfl, hB⟩ := hrel
    by_cases hlt : k < n
    · obtain ⟨x, hx⟩ : ∃ x, l[k]? = some x := ⟨_, List.getElem?_eq_getElem (by rw [HN.out]; omega)⟩
      obtain ⟨bA, oA, u, rfl, _, hbA, hcA, rfl⟩ := slg_get HA.out hx
      obtain ⟨bB, oB, u, rfl, _, hbB, hcB, rfl⟩ := slg_get HB.out hx
      have hkB := Keep.of_below (S := Any) hB.out
      have hcA' := (hkB.cell (b := bA) (o := oA + k) trivial hbA).trans hcA
      have hcB' := (hkB.cell (b := bB) (o := oB + k) trivial hbB).trans hcB
      have hbA' := Nat.lt_of_lt_of_le hbA hkB.size
      have hbB' := Nat.lt_of_lt_of_le hbB hkB.size
      have hki : (k : Int) < (n : Int) := by omega
      have hki0 : (0 : Int) ≤ (k : Int) := by omega
      have hxx : (x != x) = false := by simp
      clear hx hcA hcB hkB
      go_wp2_with fail
      go_region_held3 (fun w' => (∀ b o, b < wr.heap.size → w'.cell? ⟨b, o, none⟩ = wr.cell? ⟨b, o, none⟩) ∧ Keep (fun _ => True) wr w')
        (first | exact ks_mk (by repeat (first | exact (Keep.refl _ _).drew | exact Keep.refl _ _ | refine Keep.trans ?_ (Keep.of_below (by assumption)))))
        (fail)
      rename_i hHd
      clear hHd
      have HB6 := Lib.hid ((hB.out).drew)
      clear hcA' hcB' hB
      go_wp2_with fail
      go_roundw
      case rel => exact ⟨k + 1, by omega, by go_num, HB6⟩
      case measure => simp [intOf]; omega
    · obtain rfl : k = n := by omega
      have HR := Lib.hid (show TrueR w (.returned (.bool true)) wr from ⟨rfl, hB.out⟩)
      clear hB
      go_wp2_with fail
      go_ret
      exact HR.out
set_option maxRecDepth 100000 in
set_option maxHeartbeats 2000000 in
theorem like2_any (w : World) (va vb : Value) (l : List (List Int)) (ha : Sl2 Any w va l) (hb : Sl2 Any w vb l) : Calls Try.prog 28 #[va, vb] w (TrueR w) := by
  obtain ⟨aA, cA, rfl, hlA, hmA⟩ := slg_form ha
  obtain ⟨aB, cB, rfl, hlB, hmB⟩ := slg_form hb
  obtain ⟨n, hn⟩ : ∃ n, l.length = n := ⟨_, rfl⟩
  have HA := Lib.hid ha
  have HB := Lib.hid hb
  have HN := Lib.hid hn
  have HI := Lib.hid (fun W u v x h1 h2 => likeI_any W u v x h1 h2)
  rw [hn] at HA HB hlA hlB ⊢
  have hn63 : (n : Int) ≤ 9223372036854775807 := by unfold maxLen at hmA; omega
  have hl2 : ((n : Int) != (n : Int)) = false := by simp
  clear ha hb hn hmA hmB hlA hlB
  go_enter Try.func28, Try.ntmps28
  go_wp2_with fail
  go_loopw [5] (fun iv wr => ∃ k : Nat, k ≤ n ∧ iv = .int .i64 (k : Int) ∧ Hid (Below w.heap.size w wr)) (fun iv _ => n - (intOf iv).toNat)
  case atStart => exact ⟨0, Nat.zero_le _, rfl, Lib.hid (Below.refl _ _)⟩
  case round =>
    obtain ⟨k, hk, rfl, hB⟩ := hrel
    by_cases hlt : k < n
    · obtain ⟨x, hx⟩ : ∃ x, l[k]? = some x := ⟨_, List.getElem?_eq_getElem (by rw [HN.out]; omega)⟩
      obtain ⟨bA, oA, u, rfl, _, hbA, hcA, hu⟩ := slg_get HA.out hx
      obtain ⟨bB, oB, v, rfl, _, hbB, hcB, hv⟩ := slg_get HB.out hx
      have hkB := Keep.of_below (S := Any) hB.out
      have hcA' := (hkB.cell (b := bA) (o := oA + k) trivial hbA).trans hcA
      have hcB' := (hkB.cell (b := bB) (o := oB + k) trivial hbB).trans hcB
      have hbA' := Nat.lt_of_lt_of_le hbA hkB.size
      have hbB' := Nat.lt_of_lt_of_le hbB hkB.size
      have HUU := Lib.hid (SlI.keep hu hkB)
      have HVV := Lib.hid (SlI.keep hv hkB)
      have hki : (k : Int) < (n : Int) := by omega
      have hki0 : (0 : Int) ≤ (k : Int) := by omega
      clear hx hcA hcB hkB hu hv
      go_wp2_with fail
      go_region_held3 (fun w' => (∀ b o, b < wr.heap.size → w'.cell? ⟨b, o, none⟩ = wr.cell? ⟨b, o, none⟩) ∧ Keep (fun _ => True) wr w')
        (first | exact ks_mk (by repeat (first | exact (Keep.refl _ _).drew | exact Keep.refl _ _ | refine Keep.trans ?_ (Keep.of_below (by assumption)))))
        (first | (go_at_call 27; refine (HI.out _ u v x (HUU.out.keep (by repeat (first | exact (Keep.refl _ _).drew | exact Keep.refl _ _))) (HVV.out.keep (by repeat (first | exact (Keep.refl _ _).drew | exact Keep.refl _ _)))).mono ?_; rintro e w6 ⟨rfl, hb6⟩))
      rename_i hHd
      clear hHd
      have HB6 := Lib.hid (hB.out.trans ((((Below.refl wr.heap.size wr).drew).trans hb6).mono hB.out.size))
      clear hcA' hcB' hB hb6
      go_wp2_with fail
      go_roundw
      case rel => exact ⟨k + 1, by omega, by go_num, HB6⟩
      case measure => simp [intOf]; omega
    · obtain rfl : k = n := by omega
      have HR := Lib.hid (show TrueR w (.returned (.bool true)) wr from ⟨rfl, hB.out⟩)
      clear hB
      go_wp2_with fail
      go_ret
      exact HR.out
set_option maxRecDepth 100000 in
set_option maxHeartbeats 2000000 in
theorem like3_any (w : World) (va vb : Value) (l : List (List (List Int))) (ha : Sl3 Any w va l) (hb : Sl3 Any w vb l) : Calls Try.prog 29 #[va, vb] w (TrueR w) := by
  obtain ⟨aA, cA, rfl, hlA, hmA⟩ := slg_form ha
  obtain ⟨aB, cB, rfl, hlB, hmB⟩ := slg_form hb
  obtain ⟨n, hn⟩ : ∃ n, l.length = n := ⟨_, rfl⟩
  have HA := Lib.hid ha
  have HB := Lib.hid hb
  have HN := Lib.hid hn
  have HI := Lib.hid (fun W u v x h1 h2 => like2_any W u v x h1 h2)
  rw [hn] at HA HB hlA hlB ⊢
  have hn63 : (n : Int) ≤ 9223372036854775807 := by unfold maxLen at hmA; omega
  have hl2 : ((n : Int) != (n : Int)) = false := by simp
  clear ha hb hn hmA hmB hlA hlB
  go_enter Try.func29, Try.ntmps29
  go_wp2_with fail
  go_loopw [5] (fun iv wr => ∃ k : Nat, k ≤ n ∧ iv = .int .i64 (k : Int) ∧ Hid (Below w.heap.size w wr)) (fun iv _ => n - (intOf iv).toNat)
  case atStart => exact ⟨0, Nat.zero_le _, rfl, Lib.hid (Below.refl _ _)⟩
  case round =>
    obtain ⟨k, hk, rfl, hB⟩ := hrel
    by_cases hlt : k < n
    · obtain ⟨x, hx⟩ : ∃ x, l[k]? = some x := ⟨_, List.getElem?_eq_getElem (by rw [HN.out]; omega)⟩
      obtain ⟨bA, oA, u, rfl, _, hbA, hcA, hu⟩ := slg_get HA.out hx
      obtain ⟨bB, oB, v, rfl, _, hbB, hcB, hv⟩ := slg_get HB.out hx
      have hkB := Keep.of_below (S := Any) hB.out
      have hcA' := (hkB.cell (b := bA) (o := oA + k) trivial hbA).trans hcA
      have hcB' := (hkB.cell (b := bB) (o := oB + k) trivial hbB).trans hcB
      have hbA' := Nat.lt_of_lt_of_le hbA hkB.size
      have hbB' := Nat.lt_of_lt_of_le hbB hkB.size
      have HUU := Lib.hid (Sl2.keep hu hkB)
      have HVV := Lib.hid (Sl2.keep hv hkB)
      have hki : (k : Int) < (n : Int) := by omega
      have hki0 : (0 : Int) ≤ (k : Int) := by omega
      clear hx hcA hcB hkB hu hv
      go_wp2_with fail
      go_region_held3 (fun w' => (∀ b o, b < wr.heap.size → w'.cell? ⟨b, o, none⟩ = wr.cell? ⟨b, o, none⟩) ∧ Keep (fun _ => True) wr w')
        (first | exact ks_mk (by repeat (first | exact (Keep.refl _ _).drew | exact Keep.refl _ _ | refine Keep.trans ?_ (Keep.of_below (by assumption)))))
        (first | (go_at_call 28; refine (HI.out _ u v x (Sl2.keep HUU.out (by repeat (first | exact (Keep.refl _ _).drew | exact Keep.refl _ _))) (Sl2.keep HVV.out (by repeat (first | exact (Keep.refl _ _).drew | exact Keep.refl _ _)))).mono ?_; rintro e w6 ⟨rfl, hb6⟩))
      rename_i hHd
      clear hHd
      have HB6 := Lib.hid (hB.out.trans ((((Below.refl wr.heap.size wr).drew).trans hb6).mono hB.out.size))
      clear hcA' hcB' hB hb6
      go_wp2_with fail
      go_roundw
      case rel => exact ⟨k + 1, by omega, by go_num, HB6⟩
      case measure => simp [intOf]; omega
    · obtain rfl : k = n := by omega
      have HR := Lib.hid (show TrueR w (.returned (.bool true)) wr from ⟨rfl, hB.out⟩)
      clear hB
      go_wp2_with fail
      go_ret
      exact HR.out
theorem blk' {w w' : World} {o : Obj} {B g : Nat} (hb : Below B w w') (hg : g < B) (h : w.heap[g]? = some o) : w'.heap[g]? = some o := (hb.block g hg).trans h
theorem row3' {w : World} {g : Nat} {a b c : Value} {t : TypeId} (h : w.heap[g]? = some (.cells #[a, b, c] t (0, 0))) :
    w.cell? ⟨g, 0, none⟩ = some a ∧ w.cell? ⟨g, 1, none⟩ = some b ∧ w.cell? ⟨g, 2, none⟩ = some c :=
  ⟨(cell_of_row _ _ _ _ _ _ h).trans rfl, (cell_of_row _ _ _ _ _ _ h).trans rfl, (cell_of_row _ _ _ _ _ _ h).trans rfl⟩
set_option maxRecDepth 100000 in
set_option maxHeartbeats 2000000 in
theorem likeP_any (w : World) (xO xP xC yO yP yC : Value) (P : Pres) (ha : ValP Any w xO xP xC P) (hb : ValP Any w yO yP yC P) : Calls Try.prog 8 #[.agg #[xO, xP, xC], .agg #[yO, yP, yC]] w (TrueR w) := by
  obtain ⟨W1, hW1⟩ : ∃ W1, W1 = w.alloc (.cells #[xO, xP, xC] 29) := ⟨_, rfl⟩
  obtain ⟨W2, hW2⟩ : ∃ W2, W2 = W1.alloc (.cells #[yO, yP, yC] 29) := ⟨_, rfl⟩
  have hs1 : W1.heap.size = w.heap.size + 1 := by rw [hW1]; simp
  have hs2 : W2.heap.size = w.heap.size + 2 := by rw [hW2]; simp [hs1]
  have HG1 := Lib.hid (show W2.heap[w.heap.size]? = some (.cells #[xO, xP, xC] 29 (0, 0)) by
    rw [hW2, Below.heap_alloc _ _ _ (by omega), hW1]; exact heap_alloc_new _ _)
  have HG2 := Lib.hid (show W2.heap[w.heap.size + 1]? = some (.cells #[yO, yP, yC] 29 (0, 0)) by
    rw [hW2, ← hs1]; exact heap_alloc_new _ _)
  have HB2 := Lib.hid (show Below w.heap.size w W2 by rw [hW2, hW1]; exact ((Below.refl _ _).alloc (Nat.le_refl _) _).alloc (by simp) _)
  have HA := Lib.hid (ha.keep (Keep.of_below HB2.out))
  have HBB := Lib.hid (hb.keep (Keep.of_below HB2.out))
  have HC1 := Lib.hid (likeI_any W2 xO yO _ HA.out.os HBB.out.os)
  clear ha hb
  go_enter Try.func8, Try.ntmps8
  go_upto_region 1 with fail
  rw [← hW1]
  rw [← hW2]
  obtain ⟨a0, a1, a2⟩ := row3' HG1.out
  obtain ⟨b0, b1, b2⟩ := row3' HG2.out
  clear hW1 hW2
  go_wp2_with fail
  refine HC1.out.mono ?_
  rintro e w3 ⟨rfl, hb3⟩
  have HB3 := Lib.hid (HB2.out.trans (hb3.mono (by omega)))
  have HG13 := Lib.hid (blk' hb3 (by omega) HG1.out)
  have HG23 := Lib.hid (blk' hb3 (by omega) HG2.out)
  have hs3 := hb3.size
  have HC2 := Lib.hid (like2_any w3 xP yP _ (Sl2.keep HA.out.ps (Keep.of_below hb3)) (Sl2.keep HBB.out.ps (Keep.of_below hb3)))
  have HA3 := Lib.hid (Sl3.keep HA.out.cs (Keep.of_below hb3))
  have HB33 := Lib.hid (Sl3.keep HBB.out.cs (Keep.of_below hb3))
  clear a0 a1 a2 b0 b1 b2 hb3 HC1 HA HBB HG1 HG2
  obtain ⟨a0, a1, a2⟩ := row3' HG13.out
  obtain ⟨b0, b1, b2⟩ := row3' HG23.out
  go_wp2_with fail
  refine HC2.out.mono ?_
  rintro e w4 ⟨rfl, hb4⟩
  have HB4 := Lib.hid (HB3.out.trans (hb4.mono (by omega)))
  have HG14 := Lib.hid (blk' hb4 (by omega) HG13.out)
  have HG24 := Lib.hid (blk' hb4 (by omega) HG23.out)
  have hs4 := hb4.size
  have HC3 := Lib.hid (like3_any w4 xC yC _ (Sl3.keep HA3.out (Keep.of_below hb4)) (Sl3.keep HB33.out (Keep.of_below hb4)))
  clear a0 a1 a2 b0 b1 b2 hb4 HC2 HA3 HB33 HG13 HG23
  obtain ⟨a0, a1, a2⟩ := row3' HG14.out
  obtain ⟨b0, b1, b2⟩ := row3' HG24.out
  go_wp2_with fail
  refine HC3.out.mono ?_
  rintro e w5 ⟨rfl, hb5⟩
  have HR := Lib.hid (show TrueR w (.returned (.bool true)) w5 from ⟨rfl, HB4.out.trans (hb5.mono (by omega))⟩)
  clear hb5 HC3 a0 a1 a2 b0 b1 b2
  go_wp2_with fail
  go_ret
  exact HR.out
theorem mk25 (n : Nat) (hn : n ≤ 6) (w : World) : (Instr.makeSlice 25 (.int .i64 (n : Int)) (.int .i64 (n : Int))).run Try.prog w = .ok (.slice (some ⟨w.heap.size, 0, none⟩) n n) (w.alloc (.cells (madeCells #[.int .i64 0] n) 2)) :=
  run_make_row' (P := Try.prog) 25 2 (.int .i64 0) 8 Try.underlying25 infoI rfl .i64 .i64 n (by omega) (by omega) w
theorem unit9_any (n : Nat) (hn : n ≤ 6) (h0 : 0 < n) (w : World) : Calls Try.prog 10 #[.int .i64 (n : Int), .int .i64 0] w (NewS (ints ((List.replicate n 0).set 0 1)) w) := by
  have hmk := mk25 n hn
  obtain ⟨w1, hw1⟩ : ∃ w1, w1 = w.alloc (.cells (madeCells #[.int .i64 0] n) 2) := ⟨_, rfl⟩
  have HO := Lib.hid (show Own w.heap.size w1 (.slice (some ⟨w.heap.size, 0, none⟩) n n) (List.replicate n 0) by rw [hw1]; exact Own.made (B := w.heap.size) w n (Nat.le_refl _) (by unfold maxLen; omega))
  rw [ints_replicate] at HO
  obtain ⟨s2, f2⟩ := HO.out.cell (j := 0) (a := ((0 : Nat) : Int)) (by rw [ints_get, List.getElem?_replicate, if_pos h0]; rfl)
  obtain ⟨h1, h2⟩ := HO.out.set_n 0 1
  have HR := Lib.hid (show NewS (ints ((List.replicate n 0).set 0 1)) w (.returned (.slice (some ⟨w.heap.size, 0, none⟩) n n)) (w1.setCell ⟨w.heap.size, 0, none⟩ (.int .i64 1)) from by
    have e1 : (ints ((List.replicate n 0).set 0 1)).length = n := by simp [ints]
    exact ⟨w.heap.size, n, by rw [e1], by rw [e1]; exact h1, (show Below w.heap.size w w1 by rw [hw1]; exact (Below.refl _ _).alloc (Nat.le_refl _) _).setCell (p := ⟨w.heap.size, 0, none⟩) (Nat.le_refl _) _⟩)
  have hn0 : (0 : Int) < (n : Int) := by omega
  clear h1 h2
  go_enter Try.func10, Try.ntmps10
  go_upto_region 2 with fail
  rw [← hw1]
  clear hw1
  go_wp2_with fail
  go_ret
  exact HR.out
end Go.Proofs.Ytabeedimnbkcgaa.CyA

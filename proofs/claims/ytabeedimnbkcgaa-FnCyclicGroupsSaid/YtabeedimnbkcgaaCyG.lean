import Derived.Test.YtabeedimnbkcgaaCyA
import Derived.Shelf.Bits.Mul64
import Derived.Shelf.Spec.SlicesInsert
/-
  math/bits.Mul64, Mul; slices.Repeat of one number.
-/
namespace Go.Proofs.Ytabeedimnbkcgaa.CyG
open Go.RowKit Go.Proofs.Ytabeedimnbkcgaa Go.Proofs.Ytabeedimnbkcgaa.Tow Go.Proofs.Ytabeedimnbkcgaa.CyA Go.Lib
set_option linter.unusedVariables false
set_option linter.unusedSimpArgs false

set_option maxRecDepth 100000 in
set_option maxHeartbeats 1000000 in
theorem mul64_any (x y : Nat) (hx : x < 18446744073709551616) (hy : y < 18446744073709551616) (w : World) :
    Calls Try.prog 55 #[.int .u64 x, .int .u64 y] w fun e w' => e = .returned (.tuple #[.int .u64 ((x * y / 18446744073709551616 : Nat) : Int), .int .u64 ((x * y % 18446744073709551616 : Nat) : Int)]) ∧ w' = w := by
  obtain ⟨bd, bt, bw, hhi⟩ := Lib.mul64_hi x y hx hy
  have ba := Lib.half_mul_le (a := x / 4294967296) (b := y / 4294967296) (by omega) (by omega)
  have bb := Lib.half_mul_le (a := x / 4294967296) (b := y % 4294967296) (by omega) (by omega)
  have bc := Lib.half_mul_le (a := x % 4294967296) (b := y / 4294967296) (by omega) (by omega)
  have ba' : x / 4294967296 * (y / 4294967296) < 18446744073709551616 := by omega
  have bb' : x / 4294967296 * (y % 4294967296) < 18446744073709551616 := by omega
  have bc' : x % 4294967296 * (y / 4294967296) < 18446744073709551616 := by omega
  have bh1 : x / 4294967296 * (y / 4294967296) + (x / 4294967296 * (y % 4294967296) + x % 4294967296 * (y % 4294967296) / 4294967296) / 4294967296 < 18446744073709551616 := by omega
  have bh : x / 4294967296 * (y / 4294967296) + (x / 4294967296 * (y % 4294967296) + x % 4294967296 * (y % 4294967296) / 4294967296) / 4294967296 + ((x / 4294967296 * (y % 4294967296) + x % 4294967296 * (y % 4294967296) / 4294967296) % 4294967296 + x % 4294967296 * (y / 4294967296)) / 4294967296 < 18446744073709551616 := by omega
  go_enter Try.func55, Try.ntmps55
  go_wp2
  simp only [Mul64.maskN x hx, Mul64.maskN y hy, Mul64.divN, Mul64.mulN, Mul64.addN, Mul64.wrapN _ bd, Mul64.wrapN _ bb', Mul64.wrapN _ bt, Mul64.maskN _ bt, Mul64.wrapN _ bc', Mul64.wrapN _ bw, Mul64.wrapN _ ba', Mul64.wrapN _ bh1, Mul64.wrapN _ bh, Mul64.wrapM (x * y)]
  rw [hhi]
  go_ret2
  exact ⟨rfl, rfl⟩
set_option maxRecDepth 100000 in
set_option maxHeartbeats 1000000 in
theorem mul_any (e : Nat) (he : e ≤ 100) (w : World) :
    Calls Try.prog 38 #[.int .u64 1, .int .u64 (e : Int)] w fun r w' => r = .returned (.tuple #[.int .u64 0, .int .u64 (e : Int)]) ∧ w = w' := by
  have HC := Lib.hid (show Calls Try.prog 55 #[.int .u64 1, .int .u64 (e : Int)] w fun r w' => r = .returned (.tuple #[.int .u64 0, .int .u64 (e : Int)]) ∧ w = w' from by
    refine (mul64_any 1 e (by omega) (by omega) w).mono ?_
    rintro r w' ⟨rfl, rfl⟩
    rw [Nat.one_mul, Nat.div_eq_of_lt (by omega), Nat.mod_eq_of_lt (by omega)]
    exact ⟨rfl, rfl⟩)
  have h1 : IntKind.u64.wrap (e : Int) = (e : Int) := by rw [IntKind.wrap_u64]; omega
  go_enter Try.func38, Try.ntmps38
  go_wp2_with fail
  refine HC.out.mono ?_
  rintro r w1 ⟨rfl, rfl⟩
  go_wp2_with fail
  exact bodyPost_ret (v := .tuple #[.int .u64 0, .int .u64 (e : Int)]) (by simp [results, Try.results38, go_sem]) rfl ⟨rfl, rfl⟩

theorem own_cells {B : Nat} {g n cap : Nat} : ∀ (ys x : List Nat) (o : Nat) (w : World), Own B w (.slice (some ⟨g, 0, none⟩) n cap) (ints x) → o + ys.length ≤ x.length →
    Own B (w.setCells g o (vals (ints ys))) (.slice (some ⟨g, 0, none⟩) n cap) (ints (x.take o ++ ys ++ x.drop (o + ys.length))) ∧ w.grownBy (w.setCells g o (vals (ints ys))) (some g)
  | [], x, o, w, h, hl => by
    refine ⟨?_, ⟨rfl, rfl, rfl, Nat.le_refl _, fun _ _ _ => rfl⟩⟩
    have h' : Own B w (.slice (some ⟨g, 0, none⟩) n cap) (ints (x.take o ++ [] ++ x.drop (o + ([] : List Nat).length))) := by simpa using h
    exact h'
  | y :: ys, x, o, w, h, hl => by
    rw [List.length_cons] at hl
    obtain ⟨h1, h2⟩ := h.set_n o y
    obtain ⟨h3, h4⟩ := own_cells ys (x.set o y) (o + 1) _ h1 (by rw [List.length_set]; omega)
    refine ⟨?_, ⟨h4.os.trans h2.os, h4.tape.trans h2.tape, h4.output.trans h2.output, Nat.le_trans h2.size h4.size, fun k hk hne => (h4.block k (Nat.lt_of_lt_of_le hk h2.size) hne).trans (h2.block k hk hne)⟩⟩
    have e : (x.set o y).take (o + 1) ++ ys ++ (x.set o y).drop (o + 1 + ys.length) = x.take o ++ (y :: ys) ++ x.drop (o + (y :: ys).length) := by
      have e1 : (x.set o y).take (o + 1) = x.take o ++ [y] := by
        rw [List.take_set, List.take_add_one, List.getElem?_eq_getElem (show o < x.length by omega)]
        rw [List.set_append_right _ _ (by rw [List.length_take]; omega), List.length_take, Nat.min_eq_left (by omega), Nat.sub_self]
        rfl
      rw [e1, List.drop_set_of_lt (by omega), List.length_cons, show o + 1 + ys.length = o + (ys.length + 1) by omega]
      simp
    rw [e] at h3
    exact h3
theorem rep_more (p e k m : Nat) (h : k + m ≤ e) : (List.replicate k p ++ List.replicate (e - k) 0).take k ++ List.replicate m p ++ (List.replicate k p ++ List.replicate (e - k) 0).drop (k + m) = List.replicate (k + m) p ++ List.replicate (e - (k + m)) 0 := by
  rw [List.take_left' (by simp), List.drop_append, List.drop_of_length_le (by simp), List.nil_append, List.length_replicate, List.drop_replicate, List.replicate_append_replicate, show e - k - (k + m - k) = e - (k + m) by omega]
theorem mkE (n : Nat) (hn : n ≤ 100) (w : World) : (Instr.makeSlice 25 (.int .i64 (n : Int)) (.int .i64 (n : Int))).run Try.prog w = .ok (.slice (some ⟨w.heap.size, 0, none⟩) n n) (w.alloc (.cells (madeCells #[.int .i64 0] n) 2)) :=
  run_make_row' (P := Try.prog) 25 2 (.int .i64 0) 8 Try.underlying25 infoI rfl .i64 .i64 n (by omega) (by omega) w
theorem infoSz : (Try.prog.info? 2).map (·.size) = some 1 := by kernel_rfl
theorem own_ok {B g n cap : Nat} {w : World} {x : List Nat} (h : Own B w (.slice (some ⟨g, 0, none⟩) n cap) (ints x)) (j : Nat) (hj : j < x.length) : (w.cell? ⟨g, j, none⟩).isSome = true ∧ w.frozen? ⟨g, j, none⟩ = false := by
  obtain ⟨h1, h2⟩ := h.cell (j := j) (a := ((x[j] : Nat) : Int)) (by rw [ints_get, List.getElem?_eq_getElem hj]; rfl)
  rw [h1]; exact ⟨rfl, h2⟩
set_option maxRecDepth 100000 in
set_option maxHeartbeats 4000000 in
theorem repeat_any (p e : Nat) (he1 : 1 ≤ e) (he : e ≤ 10) (w : World) (B : Nat) (hB : w.heap[B]? = some (.cells #[.int .i64 (p : Int)] 2 (0, 0))) :
    Calls Try.prog 21 #[.slice (some ⟨B, 0, none⟩) 1 1, .int .i64 (e : Int)] w (NewS (ints (List.replicate e p)) w) := by
  have HM := Lib.hid (mul_any e (by omega) w)
  have h1 : IntKind.u64.wrap (e : Int) = (e : Int) := by rw [IntKind.wrap_u64]; omega
  have h2 : IntKind.i64.wrap (e : Int) = (e : Int) := IntWalk.i64_in _ (by omega)
  have hmk := mkE e (by omega)
  obtain ⟨g, hg⟩ : ∃ g, w.heap.size = g := ⟨_, rfl⟩
  have HG := Lib.hid hg
  have hBl : B < w.heap.size := (Array.getElem?_eq_some_iff.1 hB).1
  have HB := Lib.hid hB
  obtain ⟨w1, hw1⟩ : ∃ w1, w1 = w.alloc (.cells (madeCells #[.int .i64 0] e) 2) := ⟨_, rfl⟩
  have HO := Lib.hid (show Own w.heap.size w1 (.slice (some ⟨g, 0, none⟩) e e) (ints (List.replicate e 0)) by
    have h := Own.made (B := w.heap.size) w e (Nat.le_refl _) (by unfold maxLen; omega)
    rw [ints_replicate, hg] at h
    rw [hw1]; rw [hg]; exact h)
  have HBW := Lib.hid (show Below w.heap.size w w1 by rw [hw1]; exact (Below.refl _ _).alloc (Nat.le_refl _) _)
  have hB1 : w1.heap[B]? = some (.cells #[.int .i64 (p : Int)] 2 (0, 0)) := (HBW.out.block B hBl).trans hB
  have hcp1 : ∀ ty, (Builtin.copy_ #[25, 25] ty #[.slice (some ⟨g, 0, none⟩) e e, .slice (some ⟨B, 0, none⟩) 1 1]).run Try.prog w1 = .ok (goInt 1) (w1.setCells g 0 [.int .i64 (p : Int)]) := fun ty =>
    run_copy_cells w1 _ _ ty 2 g 0 e e ⟨B, 0, none⟩ 1 1 [.int .i64 (p : Int)] Try.underlying25 infoSz (by simp only [List.length_singleton, Nat.min_def]; split <;> omega)
      (fun j v hj => by
        match j, hj with
        | 0, hj => simp at hj; subst hj; rw [addr_add, cell_of_row _ _ _ _ _ (0, 0) hB1]; rfl)
      (fun j hj => by rw [Nat.zero_add]; exact (own_ok HO.out j (by simp at hj ⊢; omega)).1) (fun j hj => by rw [Nat.zero_add]; exact (own_ok HO.out j (by simp at hj ⊢; omega)).2) (fun v hv => by simp at hv; subst hv; rfl)
  obtain ⟨w2, hw2⟩ : ∃ w2, w1.setCells g 0 [.int .i64 (p : Int)] = w2 := ⟨_, rfl⟩
  obtain ⟨o1, o2⟩ := own_cells [p] (List.replicate e 0) 0 w1 HO.out (by simp; omega)
  have HO2 := Lib.hid (show Own w.heap.size w2 (.slice (some ⟨g, 0, none⟩) e e) (ints (List.replicate 1 p ++ List.replicate (e - 1) 0)) by
    rw [← hw2]
    have h := o1
    simp only [List.take_zero, List.nil_append, List.length_singleton, Nat.zero_add, List.drop_replicate] at h
    exact h)
  have HB2 := Lib.hid (show Below w.heap.size w w2 by
    rw [← hw2]
    exact HBW.out.grown o2 HBW.out.size (by intro k hk; cases hk; rw [hg]; exact Nat.le_refl _))
  rw [hw2] at hcp1
  have he0 : ¬ (e : Int) < 0 := by omega
  have hmax : ¬ (e : Int) > 9223372036854775807 := by omega
  clear o1 o2 hw2 hB hB1
  go_enter Try.func21, Try.ntmps21
  go_wp2_with fail
  refine HM.out.mono ?_
  rintro r w' ⟨rfl, rfl⟩
  go_upto_region 7 with fail
  rw [← hw1]
  clear hw1 hmk HM
  go_wp2_with (at_builtin; refine wpList_copy_runI _ rfl _ _ 25 25 rfl _ _ rfl rfl (hcp1 _) ?_)
  clear hcp1
  go_wp2_with fail
  go_loopw [8] (fun nv wr => ∃ k : Nat, 1 ≤ k ∧ k ≤ e ∧ nv = .int .i64 (k : Int) ∧ Hid (Own w.heap.size wr (.slice (some ⟨g, 0, none⟩) e e) (ints (List.replicate k p ++ List.replicate (e - k) 0))) ∧ Hid (Below w.heap.size w wr)) (fun nv _ => e - (RowKit.intOf nv).toNat)
  case atStart => exact ⟨1, Nat.le_refl _, he1, rfl, HO2, HB2⟩
  case round =>
    obtain ⟨k, hk1, hke, rfl, hO, hB⟩ := hrel
    by_cases hlt : k < e
    · obtain ⟨m, hm⟩ : ∃ m, Nat.min k (e - k) = m := ⟨_, rfl⟩
      have hm1 : 1 ≤ m ∧ k + m ≤ e ∧ m ≤ k := by rw [← hm]; simp only [Nat.min_def]; split <;> omega
      have hlen : (List.replicate k p ++ List.replicate (e - k) 0).length = e := by simp; omega
      have hcp : ∀ (W : World), (∀ x, W.cell? x = wr.cell? x) → (∀ x, W.frozen? x = wr.frozen? x) → ∀ ty dc sc, (Builtin.copy_ #[25, 25] ty #[.slice (some ⟨g, k, none⟩) (e - k) dc, .slice (some ⟨g, 0, none⟩) k sc]).run Try.prog W = .ok (goInt m) (W.setCells g k (vals (ints (List.replicate m p)))) := fun W hE1 hE2 ty dc sc => by
        have h := run_copy_cells (P := Try.prog) W 25 25 ty 2 g k (e - k) dc ⟨g, 0, none⟩ k sc (vals (ints (List.replicate m p))) Try.underlying25 infoSz (by rw [hm]; simp [vals, ints])
          (fun j v hj => by
            have hjm : j < m := by have := (List.getElem?_eq_some_iff.1 hj).1; simpa [vals, ints] using this
            have hv : v = .int .i64 (p : Int) := by
              simp [vals, ints, List.getElem?_replicate, hjm] at hj; exact hj.symm
            rw [hE1, addr_add, Nat.zero_add, hv]
            exact (hO.out.cell (j := j) (a := ((p : Nat) : Int)) (by rw [ints_get, List.getElem?_append_left (by simp; omega), List.getElem?_replicate, if_pos (by omega)]; rfl)).1)
          (fun j hj => by rw [hE1]; exact (own_ok hO.out (k + j) (by rw [hlen]; simp [vals, ints] at hj; omega)).1) (fun j hj => by rw [hE2]; exact (own_ok hO.out (k + j) (by rw [hlen]; simp [vals, ints] at hj; omega)).2) (vals_one _)
        rw [show (vals (ints (List.replicate m p))).length = m by simp [vals, ints]] at h
        exact h
      have hki : (k : Int) < (e : Int) := by omega
      have hki0 : (0 : Int) ≤ (k : Int) := by omega
      have hkle : (k : Int) ≤ (e : Int) := by omega
      have hke' : ¬ k = e := by omega
      have hke2 : ¬ e = k := by omega
      have hadd : IntKind.i64.wrap ((k : Int) + (m : Int)) = (k : Int) + (m : Int) := IntWalk.i64_in _ (by omega)
      have mixed : Try.prog.follows Departure.mixedOrders = true := by first | rfl | kernel_rfl | decide
      go_wp2_with fail
      go_region_law_o (refine step_copy_runI rfl _ _ 25 25 rfl (.slice (some ⟨g, k, none⟩) (e - k) (e - k)) (.slice (some ⟨g, 0, none⟩) k e) (by simp [Act.eval, Act.put]) (by simp [Act.eval, Act.put]) (hcp wr.drew (fun _ => rfl) (fun _ => rfl) _ _ _) ?_)
      obtain ⟨q1, q2⟩ := own_cells (List.replicate m p) _ k wr.drew hO.out.drew (by rw [hlen, List.length_replicate]; exact hm1.2.1)
      rw [List.length_replicate, rep_more p e k m hm1.2.1] at q1
      have HO' := Lib.hid q1
      have HB' := Lib.hid (show Below w.heap.size w (wr.drew.setCells g k (vals (ints (List.replicate m p)))) from hB.out.drew.grown q2 hB.out.size (by intro j hj; cases hj; rw [HG.out]; exact Nat.le_refl _))
      obtain ⟨w5, hw5⟩ : ∃ w5, wr.drew.setCells g k (vals (ints (List.replicate m p))) = w5 := ⟨_, rfl⟩
      rw [hw5] at HO' HB' ⊢
      clear q1 q2 hcp hO hB hw5 hlen hm
      go_simp
      trace_state
      go_wp2_with fail
      go_roundw
      case rel => exact ⟨k + m, by omega, hm1.2.1, by go_num, HO', HB'⟩
      case measure => simp [RowKit.intOf] <;> omega
    · obtain rfl : k = e := by omega
      have HR := Lib.hid (show NewS (ints (List.replicate k p)) w (.returned (.slice (some ⟨g, 0, none⟩) k k)) wr from ⟨g, k, by simp [ints], by
        have h := hO.out
        rw [Nat.sub_self, List.replicate_zero, List.append_nil] at h
        rw [show (ints (List.replicate k p)).length = k by simp [ints]]
        exact h, hB.out⟩)
      clear hO hB hlt
      go_wp2_with fail
      go_ret
      exact HR.out
end Go.Proofs.Ytabeedimnbkcgaa.CyG

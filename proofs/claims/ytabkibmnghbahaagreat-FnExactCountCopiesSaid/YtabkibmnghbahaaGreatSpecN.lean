import Derived.Test.YtabkibmnghbahaaGreatPlainA
import Derived.Test.YtabkibmnghbahaaGreatSpecE
import Derived.Lib.Hide
namespace Go.Proofs.YtabkibmnghbahaaGreat.SpecN
open Go.RowKit Go.Proofs.YtabkibmnghbahaaGreat Go.Proofs.YtabkibmnghbahaaGreat.Tow Go.Proofs.YtabkibmnghbahaaGreat.NumT
set_option linter.unusedVariables false
set_option linter.unusedSimpArgs false

abbrev Any : Nat → Prop := fun _ => True
/-- the orders of a tower -/
def ords (T : Tw) : List Nat := T.map Lv.o
theorem ords_get {T : Tw} {i : Nat} {L : Lv} (h : T[i]? = some L) : (ords T)[i]? = some L.o := by simp [ords, h]
theorem ords_length (T : Tw) : (ords T).length = T.length := by simp [ords]
theorem ofTw_ords (T : Tw) : (ofTw T).os = ints (ords T) := by simp [ofTw, ints, ords]
structure Os (T : Tw) : Prop where
  len : T.length ≤ 6
  pos : ∀ L ∈ T, 1 ≤ L.o
  le : sz T ≤ 729
theorem sz_pos' {T : Tw} (h : ∀ L ∈ T, 1 ≤ L.o) : 1 ≤ sz T := by
  induction T with
  | nil => simp [sz]
  | cons L T ih => exact Nat.mul_pos (h L (by simp)) (ih fun M hM => h M (by simp [hM]))
theorem Os.get {T : Tw} (h : Os T) {i : Nat} {L : Lv} (hL : T[i]? = some L) : 1 ≤ L.o := h.pos L (List.mem_of_getElem? hL)
theorem Os.pos_drop {T : Tw} (h : Os T) (i : Nat) : 1 ≤ sz (T.drop i) := sz_pos' fun L hL => h.pos L (List.mem_of_mem_drop hL)
theorem sz_drop_le {T : Tw} (h : ∀ L ∈ T, 1 ≤ L.o) (i : Nat) : sz (T.drop i) ≤ sz T := by
  induction T generalizing i with
  | nil => simp
  | cons L T ih =>
    cases i with
    | zero => exact Nat.le_refl _
    | succ i =>
      show sz (T.drop i) ≤ L.o * sz T
      have h1 := ih (fun M hM => h M (by simp [hM])) i
      have h2 : 1 * sz T ≤ L.o * sz T := Nat.mul_le_mul_right _ (h L (by simp))
      omega
theorem Os.o_le {T : Tw} (h : Os T) {i : Nat} {L : Lv} (hL : T[i]? = some L) : L.o ≤ 729 := by
  have h1 := h.le
  have h2 := sz_drop_le h.pos i
  rw [sz_step hL] at h2
  have h3 : L.o * 1 ≤ L.o * sz (T.drop (i + 1)) := Nat.mul_le_mul_left _ (h.pos_drop _)
  omega
theorem Os.of {T : Tw} (hT : Wf T) (hs : Small T) (hz : sz T ≤ 729) : Os T := ⟨hs.1, fun L hL => by
  induction T with
  | nil => simp at hL
  | cons M T ih => 
    rcases List.mem_cons.1 hL with rfl | h
    · have := hT.1; omega
    · exact ih hT.2.2.2.2 ⟨by have := hs.1; simp at this; omega, fun N hN => hs.2 N (by simp [hN])⟩ (by have := sz_drop_dvd (M :: T) hT 1; simp at this; omega) h, hz⟩

theorem pad_set (i a : Nat) (y : List Nat) : (pad (i + 1) y).set i a = pad i (a :: y) := by
  unfold pad
  rw [List.set_append_left _ _ (by simp), List.replicate_succ']
  simp [List.set_append]
theorem wrap_i64 {x : Int} (h1 : 0 ≤ x) (h2 : x ≤ 1000000) : wrap64 x = x := by unfold wrap64; omega
/-- an answer that is a number -/
def IntR (n : Nat) (w : World) (e : Ending) (w' : World) : Prop := e = .returned (.int .i64 (n : Int)) ∧ Below w.heap.size w w'

set_option maxHeartbeats 1000000 in
theorem order_any (T : Tw) (hs : Os T) (w : World) (vO vP vC : Value) (hO : SlI Any w vO (ints (ords T))) :
    Calls Tryz.prog 41 #[.agg #[vO, vP, vC]] w (IntR (sz T) w) := by
  have hs6 := hs.len
  obtain ⟨aO, cO, rfl, hc⟩ := hO.open
  rw [ords_length] at hc hO ⊢
  have HO := Lib.hid hO
  have HS := Lib.hid hs
  clear hO hc hs
  go_enter Tryz.func41, Tryz.ntmps41
  go_wp2_with fail
  go_loopw [3, 4] (fun q i wr => ∃ k : Nat, k ≤ T.length ∧ i = .int .i64 (k : Int) ∧ ∃ z : Int, q = .int .i64 z ∧ 0 ≤ z ∧ z ≤ 729 ∧ Hid (z * (sz (T.drop k) : Int) = (sz T : Int)) ∧ Below (w.heap.size + 1) (w.alloc (.cells #[.slice aO T.length cO, vP, vC] 30)) wr) (fun _ i _ => T.length - (intOf i).toNat)
  case atStart => exact ⟨0, Nat.zero_le _, rfl, 1, rfl, by omega, by omega, Lib.hid (by simp), Below.refl _ _⟩
  case round =>
    obtain ⟨k, hk, rfl, z, rfl, hz1, hz2, hR, hb⟩ := hrel
    have HB := Lib.hid hb
    obtain ⟨e0, e1, e2⟩ := box_cells hb
    clear hb
    by_cases hlt : k < T.length
    · obtain ⟨L, hL⟩ : ∃ L, T[k]? = some L := ⟨_, List.getElem?_eq_getElem hlt⟩
      obtain ⟨bO, oO, rfl, _, hbO, hcO⟩ := (HO.out.keep (Keep.of_below (below_unboxed HB.out))).at (ords_get hL)
      have hd : decide ((k : Int) < (T.length : Int)) = true := by simp; omega
      have hE : z * (L.o : Int) * (sz (T.drop (k + 1)) : Int) = (sz T : Int) := by
        rw [← hR.out, sz_step hL]; push_cast; rw [Int.mul_assoc]
      have b1 : 0 ≤ z * (L.o : Int) := Int.mul_nonneg hz1 (by omega)
      have b2 : z * (L.o : Int) ≤ 729 := by
        have h1 := HS.out.pos_drop (k + 1)
        have h2 : z * (L.o : Int) * 1 ≤ z * (L.o : Int) * (sz (T.drop (k + 1)) : Int) := Int.mul_le_mul_of_nonneg_left (by omega) b1
        have h3 := HS.out.le
        omega
      have HE := Lib.hid hE
      clear hE hL
      go_wp2_with fail
      go_roundw
      case rel => exact ⟨k + 1, by omega, by go_num, _, rfl, b1, b2, HE, HB.out⟩
      case measure => simp [intOf]; omega
    · obtain rfl : k = T.length := by omega
      have hd : decide ((T.length : Int) < (T.length : Int)) = false := by simp
      have hzz : z = (sz T : Int) := by have := hR.out; rw [sz_end] at this; simpa using this
      subst hzz
      go_wp2_with fail
      go_ret
      exact ⟨rfl, below_unboxed HB.out⟩

set_option maxHeartbeats 1000000 in
theorem number_any (T : Tw) (hs : Os T) (w : World) (vO vP vC vx : Value) (x : List Nat) (hO : SlI Any w vO (ints (ords T))) (hx : SlI Any w vx (ints x)) (hE : El T x) (hlt : num T x < sz T) :
    Calls Tryz.prog 117 #[.agg #[vO, vP, vC], vx] w (IntR (num T x) w) := by
  have hs6 := hs.len
  obtain ⟨aO, cO, rfl, hc⟩ := hO.open
  obtain ⟨aX, cX, rfl, hcx⟩ := hx.open
  have hxl := El_length hE
  rw [ords_length] at hc hO ⊢
  rw [hxl] at hcx hx ⊢
  have HO := Lib.hid hO
  have HX := Lib.hid hx
  have HS := Lib.hid hs
  have HE := Lib.hid hE
  have HLT := Lib.hid hlt
  clear hO hc hs hx hcx hE hlt
  go_enter Tryz.func117, Tryz.ntmps117
  go_wp2_with fail
  go_loopw [5, 6] (fun q i wr => ∃ k : Nat, k ≤ T.length ∧ i = .int .i64 (k : Int) ∧ ∃ z : Int, q = .int .i64 z ∧ 0 ≤ z ∧ Hid (z * (sz (T.drop k) : Int) + (num (T.drop k) (x.drop k) : Int) = (num T x : Int)) ∧ Below (w.heap.size + 1) (w.alloc (.cells #[.slice aO T.length cO, vP, vC] 30)) wr) (fun _ i _ => T.length - (intOf i).toNat)
  case atStart => exact ⟨0, Nat.zero_le _, rfl, 0, rfl, by omega, Lib.hid (by simp), Below.refl _ _⟩
  case round =>
    obtain ⟨k, hk, rfl, z, rfl, hz1, hR, hb⟩ := hrel
    have HB := Lib.hid hb
    obtain ⟨e0, e1, e2⟩ := box_cells hb
    clear hb
    by_cases hlt : k < T.length
    · obtain ⟨L, hL⟩ : ∃ L, T[k]? = some L := ⟨_, List.getElem?_eq_getElem hlt⟩
      obtain ⟨a, ha⟩ : ∃ a, x[k]? = some a := ⟨_, List.getElem?_eq_getElem (by omega)⟩
      obtain ⟨bO, oO, rfl, _, hbO, hcO⟩ := (HO.out.keep (Keep.of_below (below_unboxed HB.out))).at (ords_get hL)
      obtain ⟨bX, oX, rfl, _, hbX, hcX⟩ := (HX.out.keep (Keep.of_below (below_unboxed HB.out))).at ha
      have hd : decide ((k : Int) < (T.length : Int)) = true := by simp; omega
      have hE : (z * (L.o : Int) + (a : Int)) * (sz (T.drop (k + 1)) : Int) + (num (T.drop (k + 1)) (x.drop (k + 1)) : Int) = (num T x : Int) := by
        rw [← hR.out, sz_step hL, num_step hL ha]; push_cast; rw [Int.add_mul, Int.mul_assoc]; omega
      have b1 : 0 ≤ z * (L.o : Int) := Int.mul_nonneg hz1 (by omega)
      have b2 : z * (L.o : Int) + (a : Int) ≤ 729 := by
        have h1 := HS.out.pos_drop (k + 1)
        have h2 : (z * (L.o : Int) + (a : Int)) * 1 ≤ (z * (L.o : Int) + (a : Int)) * (sz (T.drop (k + 1)) : Int) := Int.mul_le_mul_of_nonneg_left (by omega) (by omega)
        have h3 := HS.out.le
        have h4 := HLT.out
        omega
      have HE := Lib.hid hE
      clear hE hL ha
      go_wp2_with fail
      go_quiet (fail)
      go_wp2_with fail
      go_roundw
      case rel => exact ⟨k + 1, by omega, by go_num, _, rfl, by omega, HE, below_drewN HB.out nq⟩
      case measure => simp [intOf]; omega
    · obtain rfl : k = T.length := by omega
      have hd : decide ((T.length : Int) < (T.length : Int)) = false := by simp
      have hzz : z = (num T x : Int) := by have := hR.out; rw [sz_end, num_end] at this; simpa using this
      subst hzz
      go_wp2_with fail
      go_ret
      exact ⟨rfl, below_unboxed HB.out⟩


set_option maxHeartbeats 1000000 in
theorem one_any (T : Tw) (hs : T.length ≤ 6) (w : World) (vO vP vC : Value) (hO : SlI Any w vO (ints (ords T))) :
    Calls Tryz.prog 42 #[.agg #[vO, vP, vC]] w (NewS (ints (one T)) w) := by
  have hmk := SpecB.mk22 T.length hs
  obtain ⟨aO, cO, rfl, hc⟩ := hO.open
  rw [ords_length] at hc hO ⊢
  have HN := Lib.hid (Own.made (B := w.heap.size) (w.alloc (.cells #[.slice aO T.length cO, vP, vC] 30)) T.length (by simp) (by unfold maxLen; omega))
  clear hO hc
  go_enter Tryz.func42, Tryz.ntmps42
  go_wp2_with fail
  go_ret
  have h := HN.out
  rw [ints_replicate] at h
  have hl : (ints (one T)).length = T.length := by simp [ints, one]
  refine ⟨w.heap.size + 1, T.length, by rw [hl]; rfl, ?_, ((Below.refl _ _).alloc (Nat.le_refl _) _).alloc (by simp) _⟩
  rw [hl]
  have hz : (w.alloc (.cells #[.slice aO T.length cO, vP, vC] 30)).heap.size = w.heap.size + 1 := by simp
  rw [hz] at h
  exact h

set_option maxHeartbeats 1000000 in
theorem at_any (T : Tw) (hs : Os T) (hp : ∀ L ∈ T, L.o ≤ 1000) (q : Nat) (hq : q ≤ 1000000) (w : World) (vO vP vC : Value) (hO : SlI Any w vO (ints (ords T))) :
    Calls Tryz.prog 118 #[.agg #[vO, vP, vC], .int .i64 (q : Int)] w (NewS (ints (at_ T q)) w) := by
  have hs6 := hs.len
  have HA := Lib.hid (fun W h => one_any T hs6 W vO vP vC h)
  obtain ⟨aO, cO, rfl, hc⟩ := hO.open
  rw [ords_length] at hc hO ⊢
  rw [ords_length] at HA
  have HO := Lib.hid hO
  have HS := Lib.hid hs
  have HQ := Lib.hid hq
  clear hO hc hs hq
  go_enter Tryz.func118, Tryz.ntmps118
  go_wp2_with fail
  have HB0 := Lib.hid (Below.refl (w.heap.size + 1) (w.alloc (.cells #[.slice aO T.length cO, vP, vC] 30)))
  refine (HA.out _ (HO.out.keep (Keep.of_below (below_unboxed HB0.out)))).mono ?_
  rintro e w1 ⟨g, c, rfl, ho, hb⟩
  have hl : (ints (one T)).length = T.length := by simp [ints, one]
  rw [hl] at ho ⊢
  have HO1 := Lib.hid (ho.mono (B' := w.heap.size + 1) (by simp))
  have HB1 := Lib.hid (HB0.out.trans (hb.mono (by simp)))
  have hlt1 := HO1.out.lt
  clear ho hb hl
  go_wp2_with fail
  go_loopw [1, 6] (fun qv iv wr => ∃ k : Nat, k ≤ T.length ∧ iv = .int .i64 ((k : Int) - 1) ∧ ∃ z : Nat, qv = .int .i64 (z : Int) ∧ Hid (z = q / sz (T.drop k) ∧ z ≤ 1000000) ∧ ∃ x : List Nat, Own (w.heap.size + 1) wr (.slice (some ⟨g, 0, none⟩) T.length c) (ints x) ∧ Hid (x = pad k (at_ (T.drop k) q)) ∧ Below (w.heap.size + 1) (w.alloc (.cells #[.slice aO T.length cO, vP, vC] 30)) wr) (fun _ iv _ => (intOf iv + 1).toNat)
  case atStart => exact ⟨T.length, Nat.le_refl _, rfl, q, rfl, Lib.hid ⟨by rw [sz_end]; simp, HQ.out⟩, one T, HO1.out, Lib.hid (by simp [at_, pad, one]), HB1.out⟩
  case round =>
    obtain ⟨k, hk, rfl, z, rfl, hz, x, hox, hx, hb⟩ := hrel
    have HB := Lib.hid hb
    have HOX := Lib.hid hox
    obtain ⟨e0, e1, e2⟩ := box_cells hb
    clear hb hox
    by_cases h0 : k = 0
    · subst h0
      have hd : decide (((0 : Nat) : Int) - 1 ≥ 0) = false := by decide
      go_wp2_with fail
      go_ret
      have hxx : x = at_ T q := by have := hx.out; simpa [pad] using this
      subst hxx
      have hl : (ints (at_ T q)).length = T.length := by rw [ints_length, at_length]
      refine ⟨g, c, by rw [hl]; rfl, ?_, below_unboxed HB.out⟩
      rw [hl]
      exact HOX.out.mono (by omega)
    · obtain ⟨i, rfl⟩ : ∃ i, k = i + 1 := ⟨k - 1, by omega⟩
      obtain ⟨L, hL⟩ : ∃ L, T[i]? = some L := ⟨_, List.getElem?_eq_getElem (by omega)⟩
      have hii : (((i + 1 : Nat) : Int) - 1) = (i : Int) := by omega
      rw [hii]
      obtain ⟨bO, oO, rfl, _, hbO, hcO0⟩ := HO.out.at (ords_get hL)
      have hcO : wr.cell? ⟨bO, oO + i, none⟩ = some (.int .i64 (L.o : Int)) := by rw [(below_unboxed HB.out).cell hbO]; exact hcO0
      have hgw := HOX.out.lt
      have hbw : bO < wr.heap.size := Nat.lt_of_lt_of_le hbO (below_unboxed HB.out).size
      have hng : bO ≠ g := by omega
      have hnw : w.heap.size ≠ g := by omega
      have ho1 := HS.out.get hL
      have ho2 := hp L (List.mem_of_getElem? hL)
      have hxl : x.length = T.length := by rw [hx.out, pad_length, at_length, List.length_drop]; omega
      obtain ⟨xi, hxi⟩ : ∃ a, x[i]? = some a := ⟨_, List.getElem?_eq_getElem (by omega)⟩
      obtain ⟨s1, f1⟩ := HOX.out.cell (j := i) (a := (xi : Int)) (by rw [ints_get, hxi]; rfl)
      have k1 : ∀ u, (wr.setCell ⟨g, i, none⟩ u).cell? ⟨bO, oO + i, none⟩ = some (.int .i64 (L.o : Int)) := fun u => (((Keep.refl (· ≠ g) wr).setCell (by simp) u).cell hng hbw).trans hcO
      have k2 : ∀ u, (wr.setCell ⟨g, i, none⟩ u).cell? ⟨w.heap.size, 0, none⟩ = some (.slice (some ⟨bO, oO, none⟩) T.length cO) := fun u => (((Keep.refl (· ≠ g) wr).setCell (by simp) u).cell hnw (by omega)).trans e0
      have hb1 : (0 : Int) ≤ (z : Int) % (L.o : Int) := Int.emod_nonneg _ (by omega)
      have hne : ((L.o : Int) == 0) = false := by simp; omega
      have HLL := Lib.hid hL
      have HQW := Lib.hid (show wrap64 ((z : Int) / (L.o : Int)) = (z : Int) / (L.o : Int) from by
        have h1 : (0 : Int) ≤ (z : Int) / (L.o : Int) := Int.ediv_nonneg (by omega) (by omega)
        have h2 : (z : Int) / (L.o : Int) ≤ (z : Int) := Int.ediv_le_self _ (by omega)
        have h3 := hz.out.2
        exact wrap_i64 h1 (by omega))
      have HK2 := Lib.hid ho2
      clear hL h0 hii hcO0 ho2
      go_wp2_with fail
      go_roundw
      case rel =>
        refine ⟨i, by omega, rfl, z / L.o, by rw [HQW.out]; simp, Lib.hid ⟨?_, ?_⟩, pad i (at_ (T.drop i) q), ?_, Lib.hid rfl, HB.out.setCell (by simp; omega) _⟩
        · rw [hz.out.1, quo_step HLL.out]
        · exact Nat.le_trans (Nat.div_le_self _ _) hz.out.2
        · have h := HOX.out.set_n i (z % L.o)
          have e : x.set i (z % L.o) = pad i (at_ (T.drop i) q) := by
            rw [hx.out, at_step HLL.out, hz.out.1, pad_set]
          rw [e] at h
          simpa using h.1
      case measure => simp [intOf] <;> omega
end Go.Proofs.YtabkibmnghbahaaGreat.SpecN

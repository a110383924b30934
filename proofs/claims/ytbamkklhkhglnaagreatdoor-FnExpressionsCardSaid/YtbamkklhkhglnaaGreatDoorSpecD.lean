import Derived.Test.YtbamkklhkhglnaaGreatDoorSpecC
namespace Go.Proofs.YtbamkklhkhglnaaGreatDoor.SpecD
open Go.RowKit Go.Proofs.YtbamkklhkhglnaaGreatDoor Go.Proofs.YtbamkklhkhglnaaGreatDoor.Tow Go.Proofs.YtbamkklhkhglnaaGreatDoor.SpecA Go.Proofs.YtbamkklhkhglnaaGreatDoor.SpecB Go.Proofs.YtbamkklhkhglnaaGreatDoor.SpecC
set_option linter.unusedVariables false
set_option linter.unusedSimpArgs false

set_option maxHeartbeats 400000 in
theorem at_end (T : Tw) (hs : Small T) : AtSpec T T.length := by
  intro w vO vP vC va vb a b hP ha hb hal hbl haE hbE
  have hs6 := hs.1
  have hmk := mk22 T.length hs6
  obtain ⟨aO, cO, aP, cP, aC, cC, rfl, rfl, rfl, hO1, hP1, hC1⟩ := hP.open
  have HO := Lib.hid (Own.made (B := w.heap.size) (w.alloc (.cells #[.slice aO T.length cO, .slice aP T.length cP, .slice aC T.length cC] 91)) T.length (by simp) (by unfold maxLen; omega))
  have hd : decide ((T.length : Int) ≥ (T.length : Int)) = true := by simp
  clear hP ha hb haE hbE
  go_enter Tryz.func172, Tryz.ntmps172
  go_wp2_with fail
  go_ret
  have hz : pad T.length (mul (T.drop T.length) (a.drop T.length) (b.drop T.length)) = List.replicate T.length 0 := by
    rw [List.drop_length]; simp [pad, mul]
  rw [hz, ← ints_replicate]
  have h1 := HO.out
  simp only [World.size_alloc] at h1
  refine ⟨_, rfl, h1, ?_⟩
  exact ((Below.refl _ _).alloc (Nat.le_refl _) _).alloc (by simp) _

theorem at_img_any (T : Tw) (hT : Wf T) (hs : Small T) (m : Nat) : ∀ i, T.length - i = m → i ≤ T.length → AtSpec T i ∧ ∀ L, T[i]? = some L → ImgSpec T i L := by
  induction m with
  | zero =>
    intro i h1 h2
    obtain rfl : i = T.length := by omega
    exact ⟨at_end T hs, fun L hL => by simp at hL⟩
  | succ m ih =>
    intro i h1 h2
    have hlt : i < T.length := by omega
    have hL : T[i]? = some T[i] := List.getElem?_eq_getElem hlt
    have hA := (ih (i + 1) (by omega) (by omega)).1
    have hI := fun L hL => img_of_at T hT hs i L hL hA
    exact ⟨at_of T hT hs i _ hL hA (hI _ hL), hI⟩
theorem at_any (T : Tw) (hT : Wf T) (hs : Small T) (i : Nat) (hi : i ≤ T.length) : AtSpec T i := (at_img_any T hT hs _ i rfl hi).1
theorem img_any (T : Tw) (hT : Wf T) (hs : Small T) (i : Nat) (L : Lv) (hL : T[i]? = some L) : ImgSpec T i L :=
  (at_img_any T hT hs _ i rfl (Nat.le_of_lt (List.getElem?_eq_some_iff.1 hL).1)).2 L hL

/-- two lists are compared -/
def SameR (a b : List Int) (w : World) (e : Ending) (w' : World) : Prop := e = .returned (.bool (decide (a = b))) ∧ ∃ n, w' = w.drewN n

set_option maxHeartbeats 400000 in
theorem same_any (w : World) (va vb : Value) (a b : List Int) (ha : SlI Any w va a) (hb : SlI Any w vb b) :
    Calls Tryz.prog 145 #[va, vb] w (SameR a b w) := by
  obtain ⟨aA, cA, rfl, _, hmA, _, hA⟩ := ha
  obtain ⟨aB, cB, rfl, _, hmB, _, hB⟩ := hb
  unfold maxLen at hmA hmB
  have hA63 : (a.length : Int) ≤ 9223372036854775807 := by omega
  have HMA := Lib.hid hmA
  have HMB := Lib.hid hmB
  clear hmA hmB
  by_cases hl : a.length = b.length
  · have hl2 : ((a.length : Int) != (b.length : Int)) = false := by simp; omega
    have HA := Lib.hid hA
    have HB := Lib.hid hB
    have HL := Lib.hid hl
    clear hA hB hl
    go_enter Tryz.func145, Tryz.ntmps145
    go_wp2_with fail
    go_loopw [5] (fun i wr => ∃ k : Nat, k ≤ a.length ∧ i = .int .i64 (k : Int) ∧ Hid ((∀ j, j < k → a[j]? = b[j]?) ∧ ∃ n, wr = w.drewN n)) (fun i _ => a.length - (intOf i).toNat)
    case atStart => exact ⟨0, Nat.zero_le _, rfl, Lib.hid ⟨fun j h => absurd h (Nat.not_lt_zero _), 0, rfl⟩⟩
    case round =>
      obtain ⟨k, hk, rfl, hR⟩ := hrel
      obtain ⟨m, hw⟩ := hR.out.2
      subst hw
      by_cases hlt : k < a.length
      · obtain ⟨x, hx⟩ : ∃ x, a[k]? = some x := ⟨_, List.getElem?_eq_getElem hlt⟩
        obtain ⟨y, hy⟩ : ∃ y, b[k]? = some y := ⟨_, List.getElem?_eq_getElem (by rw [← HL.out]; exact hlt)⟩
        obtain ⟨bA, oA, rfl, _, hbA, u, hcA, rfl⟩ := HA.out k x hx
        obtain ⟨bB, oB, rfl, _, hbB, u, hcB, rfl⟩ := HB.out k y hy
        have hk2 : k < b.length := by rw [← HL.out]; exact hlt
        have HX := Lib.hid hx
        have HY := Lib.hid hy
        have w4 : (k : Int) < (a.length : Int) := by omega
        have w5 : (0 : Int) ≤ (k : Int) := by omega
        have w6 : (k : Int) < (b.length : Int) := by omega
        clear hx hy
        by_cases hxy : x = y
        · have h2 : (x != y) = false := by simp [hxy]
          have HXY := Lib.hid hxy
          clear hxy
          go_wp2_with fail
          go_quiet (fail)
          go_wp2_with fail
          go_roundw
          case rel => exact ⟨k + 1, by omega, by go_num, Lib.hid ⟨fun j hj => by
              rcases Nat.lt_succ_iff_lt_or_eq.1 hj with h | h
              · exact hR.out.1 j h
              · subst h; rw [HX.out, HY.out, HXY.out], m + nq, by first | rfl | rw [World.drewN_drewN]⟩⟩
          case measure => simp [intOf]; omega
        · have h2 : (x != y) = true := by simpa using hxy
          have HXY := Lib.hid hxy
          clear hxy
          go_wp2_with fail
          go_quiet (fail)
          go_wp2_with fail
          go_ret
          refine ⟨ret_b ?_, m + nq, by first | rfl | rw [World.drewN_drewN]⟩
          symm
          rw [decide_eq_false_iff_not]
          intro e
          rw [e, HY.out] at HX
          exact HXY.out (Option.some.inj HX.out).symm
      · obtain rfl : k = a.length := by omega
        go_wp2_with fail
        go_ret
        refine ⟨ret_b ?_, m, rfl⟩
        symm
        rw [decide_eq_true_iff]
        apply List.ext_getElem?
        intro j
        by_cases hj : j < a.length
        · exact hR.out.1 j hj
        · rw [List.getElem?_eq_none (by omega), List.getElem?_eq_none (by rw [← HL.out]; omega)]
  · have hl2 : ((a.length : Int) != (b.length : Int)) = true := by simp; omega
    clear hA hB
    go_enter Tryz.func145, Tryz.ntmps145
    go_wp2_with fail
    go_ret
    refine ⟨ret_b ?_, 0, rfl⟩
    symm
    rw [decide_eq_false_iff_not]
    intro e
    exact hl (by rw [e])
end Go.Proofs.YtbamkklhkhglnaaGreatDoor.SpecD

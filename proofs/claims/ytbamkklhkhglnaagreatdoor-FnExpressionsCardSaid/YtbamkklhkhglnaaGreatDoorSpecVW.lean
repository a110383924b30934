import Derived.Test.YtbamkklhkhglnaaGreatDoorImplVW
namespace Go.Proofs.YtbamkklhkhglnaaGreatDoor.SpecV
open Go.RowKit Go.Proofs.YtbamkklhkhglnaaGreatDoor Go.Proofs.YtbamkklhkhglnaaGreatDoor.Tow Go.Proofs.YtbamkklhkhglnaaGreatDoor.Val Go.Proofs.YtbamkklhkhglnaaGreatDoor.ImplV Go.Proofs.YtbamkklhkhglnaaGreatDoor.ImplW
set_option linter.unusedVariables false
set_option linter.unusedSimpArgs false

theorem prime_any (x : Int) (w : World) : Calls Tryz.prog 132 #[.int .i64 x] w fun e w' => e = .returned (.bool (primeB x)) ∧ w = w' := by
  by_cases h2 : x = 2
  · subst h2
    go_enter Tryz.func132, Tryz.ntmps132
    go_wp2_with fail
    go_ret
    exact ⟨rfl, rfl⟩
  · by_cases h3 : x = 3
    · subst h3
      go_enter Tryz.func132, Tryz.ntmps132
      go_wp2_with fail
      go_ret
      exact ⟨rfl, rfl⟩
    · by_cases h5 : x = 5
      · subst h5
        go_enter Tryz.func132, Tryz.ntmps132
        go_wp2_with fail
        go_ret
        exact ⟨rfl, rfl⟩
      · by_cases h7 : x = 7
        · subst h7
          go_enter Tryz.func132, Tryz.ntmps132
          go_wp2_with fail
          go_ret
          exact ⟨rfl, rfl⟩
        · have e2 : (x == 2) = false := by simpa using h2
          have e3 : (x == 3) = false := by simpa using h3
          have e5 : (x == 5) = false := by simpa using h5
          have e7 : (x == 7) = false := by simpa using h7
          have HB := Lib.hid (show primeB x = false by simp [primeB, h2, h3, h5, h7])
          clear h2 h3 h5 h7
          go_enter Tryz.func132, Tryz.ntmps132
          go_wp2_with fail
          go_ret
          exact ⟨by rw [HB.out]; rfl, rfl⟩

theorem in_T (x lo hi : Int) (h1 : lo ≤ x) (h2 : x ≤ hi) (w : World) : Calls Tryz.prog 168 #[.int .i64 x, .int .i64 lo, .int .i64 hi] w fun e w' => e = .returned (.bool true) ∧ w' = w := by
  have h1' : x ≥ lo := h1
  go_enter Tryz.func168, Tryz.ntmps168
  go_wp2_with fail
  go_ret
  exact ⟨rfl, rfl⟩
theorem in_F (x lo hi : Int) (h : ¬ (lo ≤ x ∧ x ≤ hi)) (w : World) : Calls Tryz.prog 168 #[.int .i64 x, .int .i64 lo, .int .i64 hi] w fun e w' => e = .returned (.bool false) ∧ w' = w := by
  by_cases h1 : lo ≤ x
  · have h2 : ¬ x ≤ hi := fun h2 => h ⟨h1, h2⟩
    have h3 : decide (x ≤ hi) = false := decide_eq_false h2
    have h4 : decide (lo ≤ x) = true := decide_eq_true h1
    clear h
    go_enter Tryz.func168, Tryz.ntmps168
    go_wp2_with fail
    go_ret
    exact ⟨rfl, rfl⟩
  · have h4 : decide (lo ≤ x) = false := decide_eq_false h1
    clear h
    go_enter Tryz.func168, Tryz.ntmps168
    go_wp2_with fail
    go_ret
    exact ⟨rfl, rfl⟩

/-- a test that only draws -/
def ExD (p : Prop) (w : World) (e : Ending) (w' : World) : Prop := ∃ r : Bool, e = .returned (.bool r) ∧ (r = true ↔ p) ∧ ∃ n, w' = w.drewN n
theorem ExD_false {p : Prop} {w : World} {n : Nat} (h : ¬ p) : ExD p w (.returned (.bool false)) (w.drewN n) := ⟨false, rfl, ⟨fun h => absurd h (by simp), fun h' => absurd h' h⟩, n, rfl⟩
theorem ExD_true {p : Prop} {w : World} {n : Nat} (h : p) : ExD p w (.returned (.bool true)) (w.drewN n) := ⟨true, rfl, ⟨fun _ => h, fun _ => rfl⟩, n, rfl⟩

set_option maxHeartbeats 1000000 in
theorem exps_any (w : World) (vo v : Value) (os l : List Int) (zc : Int) (z : Nat) (hz : ∀ j : Nat, ((j : Int) ≤ zc ↔ j < z)) (ho : SlI Any w vo os) (hv : SlI Any w v l) (hpr : ∀ x ∈ os, primeB x = true) :
    Calls Tryz.prog 140 #[vo, v, .int .i64 zc] w (ExD (TailV os z l) w) := by
  obtain ⟨aO, cO, rfl, hcO, hmO, _, hO⟩ := ho
  obtain ⟨ao, c, rfl, hc, hm, _, hx⟩ := hv
  have hn63 : (l.length : Int) ≤ 9223372036854775807 := by unfold maxLen at hm; omega
  have HX := Lib.hid hx
  have HO := Lib.hid hO
  have HM := Lib.hid (And.intro hmO hm)
  have HPR := Lib.hid hpr
  have HZ := Lib.hid hz
  clear hx hO hmO hm hpr hz
  by_cases hl : l.length = os.length
  · have hl2 : ((l.length : Int) != (os.length : Int)) = false := by simp; omega
    have HL := Lib.hid hl
    clear hl
    go_enter Tryz.func140, Tryz.ntmps140
    go_wp2_with fail
    go_loopw [7] (fun i wr => ∃ k : Nat, k ≤ l.length ∧ i = .int .i64 (k : Int) ∧ Hid (∀ j, j < k → ∀ x o, l[j]? = some x → os[j]? = some o → 0 ≤ x ∧ x < o ∧ (j < z → x = 0)) ∧ Hid (∃ n, wr = w.drewN n)) (fun i _ => l.length - (intOf i).toNat)
    case atStart => exact ⟨0, Nat.zero_le _, rfl, Lib.hid (fun j h => absurd h (Nat.not_lt_zero _)), Lib.hid ⟨0, rfl⟩⟩
    case round =>
      obtain ⟨k, hk, rfl, hR, hW⟩ := hrel
      obtain ⟨m, hw⟩ := hW.out
      have HW := Lib.hid hw
      clear hw
      by_cases hlt : k < l.length
      · obtain ⟨x, hg⟩ : ∃ x, l[k]? = some x := ⟨_, List.getElem?_eq_getElem hlt⟩
        obtain ⟨q, hq⟩ : ∃ q, os[k]? = some q := ⟨_, List.getElem?_eq_getElem (by rw [← HL.out]; exact hlt)⟩
        obtain ⟨bX, oX, rfl, _, hbX, u, hcX, rfl⟩ := HX.out k x hg
        obtain ⟨bO, oO, rfl, _, hbO, u, hcO2, rfl⟩ := HO.out k q hq
        have hcXr : wr.cell? ⟨bX, oX + k, none⟩ = some (.int .i64 x) := by rw [HW.out]; exact hcX
        have hcOr : wr.cell? ⟨bO, oO + k, none⟩ = some (.int .i64 q) := by rw [HW.out]; exact hcO2
        have hk2 : k < os.length := by rw [← HL.out]; exact hlt
        have hq7 := primeB_le (HPR.out q (List.mem_of_getElem? hq))
        have HG := Lib.hid (And.intro hg hq)
        have w1 : IntKind.i64.wrap (q - 1) = q - 1 := IntWalk.i64_in _ (by omega)
        have w4 : (k : Int) < (l.length : Int) := by omega
        have w5 : (0 : Int) ≤ (k : Int) := by omega
        have w6 : (k : Int) < (os.length : Int) := by omega
        clear hg hq
        by_cases hin : 0 ≤ x ∧ x ≤ q - 1
        · have HI := Lib.hid hin
          clear hin
          by_cases hkz : (k : Int) ≤ zc
          · have hd : decide ((k : Int) ≤ zc) = true := decide_eq_true hkz
            have HKZ := Lib.hid ((HZ.out k).1 hkz)
            clear hkz
            by_cases h0 : x = 0
            · have hx0 : (x != 0) = false := by simpa using h0
              have HX0 := Lib.hid h0
              clear h0
              go_wp2_with fail
              go_quiet ((go_at_call 168; exact Calls.quiet_of_same (in_T x 0 (q - 1) HI.out.1 HI.out.2 _)))
              go_wp2_with fail
              go_roundw
              case rel => exact ⟨k + 1, by omega, by go_num, Lib.hid (fun j hj y p hy hp => by
                rcases Nat.lt_succ_iff_lt_or_eq.1 hj with h | h
                · exact hR.out j h y p hy hp
                · subst h; rw [HG.out.1] at hy; rw [HG.out.2] at hp; cases hy; cases hp; have := HI.out; exact ⟨this.1, by omega, fun _ => HX0.out⟩), Lib.hid ⟨m + nq, by rw [HW.out, World.drewN_drewN]⟩⟩
              case measure => simp [intOf]; omega
            · have hx0 : (x != 0) = true := by simpa using h0
              have HN := Lib.hid (show ¬ TailV os z l from fun h => h0 ((h.2 k x q HG.out.1 HG.out.2).2.2 HKZ.out))
              clear h0
              go_wp2_with fail
              go_quiet ((go_at_call 168; exact Calls.quiet_of_same (in_T x 0 (q - 1) HI.out.1 HI.out.2 _)))
              go_wp2_with fail
              go_ret
              rw [HW.out, World.drewN_drewN]; exact ExD_false HN.out
          · have hd : decide ((k : Int) ≤ zc) = false := decide_eq_false hkz
            have HKZ := Lib.hid (fun h => hkz ((HZ.out k).2 h))
            clear hkz
            go_wp2_with fail
            go_quiet ((go_at_call 168; exact Calls.quiet_of_same (in_T x 0 (q - 1) HI.out.1 HI.out.2 _)))
            go_wp2_with fail
            go_roundw
            case rel => exact ⟨k + 1, by omega, by go_num, Lib.hid (fun j hj y p hy hp => by
              rcases Nat.lt_succ_iff_lt_or_eq.1 hj with h | h
              · exact hR.out j h y p hy hp
              · subst h; rw [HG.out.1] at hy; rw [HG.out.2] at hp; cases hy; cases hp; have := HI.out; exact ⟨this.1, by omega, fun h => absurd h HKZ.out⟩), Lib.hid ⟨m + nq, by rw [HW.out, World.drewN_drewN]⟩⟩
            case measure => simp [intOf]; omega
        · have HI := Lib.hid hin
          have HN := Lib.hid (show ¬ TailV os z l from fun h => by have := h.2 k x q HG.out.1 HG.out.2; exact hin ⟨this.1, by omega⟩)
          clear hin
          go_wp2_with fail
          go_quiet ((go_at_call 168; exact Calls.quiet_of_same (in_F x 0 (q - 1) HI.out _)))
          go_wp2_with fail
          go_ret
          rw [HW.out, World.drewN_drewN]; exact ExD_false HN.out
      · obtain rfl : k = l.length := by omega
        have HYES := Lib.hid (show TailV os z l from ⟨HL.out, fun j x q hx hq => hR.out j (List.getElem?_eq_some_iff.1 hx).1 x q hx hq⟩)
        go_wp2_with fail
        go_ret
        rw [HW.out]; exact ExD_true HYES.out
  · have hl2 : ((l.length : Int) != (os.length : Int)) = true := by simp; omega
    have HN := Lib.hid (show ¬ TailV os z l from fun h => hl h.1)
    clear hl
    go_enter Tryz.func140, Tryz.ntmps140
    go_wp2_with fail
    go_ret
    exact ExD_false (n := 0) HN.out

/-- the product of orders, or more than the limit -/
def ProdR (os : List Int) (w : World) (e : Ending) (w' : World) : Prop := ∃ r : Int, e = .returned (.int .i64 r) ∧ (r ≤ 729 ↔ prodI os ≤ 729) ∧ (r ≤ 729 → r = prodI os) ∧ w = w'
set_option maxHeartbeats 400000 in
theorem product_any (w : World) (vo : Value) (os : List Int) (ho : SlI Any w vo os) (hpr : ∀ x ∈ os, primeB x = true) :
    Calls Tryz.prog 133 #[vo] w (ProdR os w) := by
  obtain ⟨aO, cO, rfl, hcO, hmO, _, hO⟩ := ho
  have hn63 : (os.length : Int) ≤ 9223372036854775807 := by unfold maxLen at hmO; omega
  have HO := Lib.hid hO
  have HM := Lib.hid hmO
  have HPR := Lib.hid hpr
  clear hO hmO hpr
  go_enter Tryz.func133, Tryz.ntmps133
  go_wp2_with fail
  go_loop [3, 4] (fun q i => ∃ k : Nat, k ≤ os.length ∧ i = .int .i64 (k : Int) ∧ ∃ z : Int, q = .int .i64 z ∧ 1 ≤ z ∧ z ≤ 5103 ∧ Hid ((z ≤ 729 → z = prodI (os.take k)) ∧ (729 < z → 729 < prodI (os.take k)))) (fun _ i => os.length - (intOf i).toNat)
  case atStart => exact ⟨0, Nat.zero_le _, rfl, 1, rfl, by omega, by omega, Lib.hid ⟨fun _ => rfl, fun h => by omega⟩⟩
  case round =>
    obtain ⟨k, hk, rfl, z, rfl, hz1, hz2, hR⟩ := hrel
    by_cases hlt : k < os.length
    · obtain ⟨x, hx⟩ : ∃ x, os[k]? = some x := ⟨_, List.getElem?_eq_getElem hlt⟩
      obtain ⟨bO, oO, rfl, _, hbO, u, hcO2, rfl⟩ := HO.out k x hx
      have hx7 := primeB_le (HPR.out x (List.mem_of_getElem? hx))
      have HX := Lib.hid hx
      clear hx
      by_cases hbig : z ≤ 729
      · have b1 : 1 ≤ z * x := by have : 1 * 1 ≤ z * x := Int.mul_le_mul hz1 (by omega) (by omega) (by omega); simpa using this
        have b2 : z * x ≤ 5103 := by have : z * x ≤ 729 * 7 := Int.mul_le_mul hbig hx7.2 (by omega) (by omega); simpa using this
        have HT := Lib.hid (show (z * x ≤ 729 → z * x = prodI (os.take (k + 1))) ∧ (729 < z * x → 729 < prodI (os.take (k + 1))) from by
          rw [prodI_take_succ HX.out, ← hR.out.1 hbig]
          exact ⟨fun _ => rfl, fun h => h⟩)
        go_wp2_with fail
        go_round
        case rel => exact ⟨k + 1, by omega, by go_num, z * x, rfl, b1, b2, HT⟩
        case measure => simp [intOf]; omega
      · have HT := Lib.hid (show (z ≤ 729 → z = prodI (os.take (k + 1))) ∧ (729 < z → 729 < prodI (os.take (k + 1))) from by
          refine ⟨fun h => absurd h hbig, fun h => ?_⟩
          rw [prodI_take_succ HX.out]
          have h1 := hR.out.2 h
          have h2 : prodI (os.take k) * 1 ≤ prodI (os.take k) * x := Int.mul_le_mul (Int.le_refl _) (by omega) (by omega) (by omega)
          rw [Int.mul_one] at h2
          omega)
        go_wp2_with fail
        go_round
        case rel => exact ⟨k + 1, by omega, by go_num, z, rfl, hz1, hz2, HT⟩
        case measure => simp [intOf]; omega
    · obtain rfl : k = os.length := by omega
      go_wp2_with fail
      go_ret
      have h := hR.out
      rw [List.take_length] at h
      refine ⟨z, rfl, ⟨fun h1 => by rw [← h.1 h1]; exact h1, fun h1 => ?_⟩, h.1, rfl⟩
      apply Int.le_of_not_gt
      intro h2
      have := h.2 h2
      omega
end Go.Proofs.YtbamkklhkhglnaaGreatDoor.SpecV

namespace Go.Proofs.YtbamkklhkhglnaaGreatDoor.SpecW
open Go.RowKit Go.Proofs.YtbamkklhkhglnaaGreatDoor Go.Proofs.YtbamkklhkhglnaaGreatDoor.Tow Go.Proofs.YtbamkklhkhglnaaGreatDoor.Val Go.Proofs.YtbamkklhkhglnaaGreatDoor.ImplV Go.Proofs.YtbamkklhkhglnaaGreatDoor.ImplW Go.Proofs.YtbamkklhkhglnaaGreatDoor.SpecV
set_option linter.unusedVariables false
set_option linter.unusedSimpArgs false

theorem exps_T {w : World} {vo v : Value} {os l : List Int} {zc : Int} {z : Nat} (h : TailV os z l) (hc : Calls Tryz.prog 140 #[vo, v, .int .i64 zc] w (ExD (TailV os z l) w)) :
    Calls Tryz.prog 140 #[vo, v, .int .i64 zc] w fun e w' => e = .returned (.bool true) ∧ ∃ n, w' = w.drewN n :=
  hc.mono fun e w' ⟨r, he, hr, hw⟩ => ⟨by rw [he, hr.2 h], hw⟩
theorem exps_F {w : World} {vo v : Value} {os l : List Int} {zc : Int} {z : Nat} (h : ¬ TailV os z l) (hc : Calls Tryz.prog 140 #[vo, v, .int .i64 zc] w (ExD (TailV os z l) w)) :
    Calls Tryz.prog 140 #[vo, v, .int .i64 zc] w fun e w' => e = .returned (.bool false) ∧ ∃ n, w' = w.drewN n :=
  hc.mono fun e w' ⟨r, he, hr, hw⟩ => ⟨by cases r; exact he; exact absurd (hr.1 rfl) h, hw⟩
theorem zc_of (i : Nat) : ∀ j : Nat, ((j : Int) ≤ (i : Int) ↔ j < i + 1) := fun j => by omega

set_option maxHeartbeats 4000000 in
theorem isPres_any (w : World) (vO vP vC : Value) (P : Pres) (hV : ValP Any w vO vP vC P) :
    Calls Tryz.prog 108 #[.agg #[vO, vP, vC]] w (ExB (Valid P) w) := by
  have hW := hV
  obtain ⟨aO, cO, rfl, hcO, hmO, hn1, hO⟩ := hV.os
  obtain ⟨aP, cP, rfl, hcP, hmP, hn2, hP⟩ := hV.ps
  obtain ⟨aC, cC, rfl, hcC, hmC, hn3, hC⟩ := hV.cs
  have HMM := Lib.hid (And.intro hmO (And.intro hmP hmC))
  have m1 : (P.os.length : Int) ≤ 9223372036854775807 := by unfold maxLen at hmO; omega
  have m2 : (P.ps.length : Int) ≤ 9223372036854775807 := by unfold maxLen at hmP; omega
  have m3 : (P.cs.length : Int) ≤ 9223372036854775807 := by unfold maxLen at hmC; omega
  have HB := Lib.hid ((Below.refl w.heap.size w).alloc (Nat.le_refl _) (.cells #[.slice aO P.os.length cO, .slice aP P.ps.length cP, .slice aC P.cs.length cC] 91))
  clear hmO hmP hmC hn1 hn2 hn3
  by_cases h6 : P.os.length ≤ 6
  · have hd6 : decide ((P.os.length : Int) > 6) = false := by simp; omega
    by_cases hpl : P.ps.length = P.os.length
    · have hp2 : ((P.ps.length : Int) != (P.os.length : Int)) = false := by simp; omega
      by_cases hcl : P.cs.length = P.os.length
      · have hc2 : ((P.cs.length : Int) != (P.os.length : Int)) = false := by simp; omega
        have HPL := Lib.hid hpl
        have HCL := Lib.hid hcl
        have HO := Lib.hid hO
        have HP := Lib.hid hP
        have HC := Lib.hid hC
        have HW := Lib.hid hW
        clear hpl hcl hO hP hC hV hW
        go_enter Tryz.func108, Tryz.ntmps108
        go_wp2_with fail
        go_loop [4] (fun i => ∃ k : Nat, k ≤ P.os.length ∧ i = .int .i64 (k : Int) ∧ Hid (∀ j, j < k → ∀ x, P.os[j]? = some x → primeB x = true)) (fun i => P.os.length - (intOf i).toNat)
        case atStart => exact ⟨0, Nat.zero_le _, rfl, Lib.hid (fun j h => absurd h (Nat.not_lt_zero _))⟩
        case round =>
          obtain ⟨k, hk, rfl, hR⟩ := hrel
          by_cases hlt : k < P.os.length
          · obtain ⟨x, hx⟩ : ∃ x, P.os[k]? = some x := ⟨_, List.getElem?_eq_getElem hlt⟩
            obtain ⟨bO, oO, rfl, _, hbO, u, hcO2, rfl⟩ := HO.out k x hx
            have HX := Lib.hid hx
            clear hx
            by_cases hpr : primeB x = true
            · have HPR := Lib.hid hpr
              clear hpr
              go_wp2_with (go_at_call 132; refine (SpecV.prime_any x _).mono ?_; rintro e w' ⟨rfl, rfl⟩; rw [HPR.out])
              go_round
              case rel => exact ⟨k + 1, by omega, by go_num, Lib.hid (fun j hj y hy => by
                rcases Nat.lt_succ_iff_lt_or_eq.1 hj with h | h
                · exact hR.out j h y hy
                · subst h; rw [HX.out] at hy; cases hy; exact HPR.out)⟩
              case measure => simp [intOf]; omega
            · have HPR := Lib.hid (show primeB x = false by simpa using hpr)
              have HN := Lib.hid (show ¬ Valid P from fun h => hpr (h.pr x (List.mem_of_getElem? HX.out)))
              clear hpr
              go_wp2_with (go_at_call 132; refine (SpecV.prime_any x _).mono ?_; rintro e w' ⟨rfl, rfl⟩; rw [HPR.out])
              go_ret
              exact ExB_false HN.out HB.out
          · obtain rfl : k = P.os.length := by omega
            have HPR := Lib.hid (show ∀ x ∈ P.os, primeB x = true from fun x hx => by obtain ⟨j, hj, rfl⟩ := List.getElem_of_mem hx; exact hR.out j hj _ (List.getElem?_eq_getElem hj))
            clear hR hlt hk
            go_wp2_with fail
            refine (product_any _ _ P.os (HW.out.os.keep ((Keep.refl _ _).alloc _)) HPR.out).mono ?_
            rintro e w' ⟨r, rfl, hr1, _, rfl⟩
            by_cases hle : prodI P.os ≤ 729
            · have hrd : decide (r > 729) = false := by have := hr1.2 hle; simp; omega
              have HLE := Lib.hid hle
              clear hle hr1
              go_wp2_with fail
              go_loopw [5] (fun i wr => ∃ k : Nat, k ≤ P.os.length ∧ i = .int .i64 (k : Int) ∧ Hid (∀ j, j < k → (∀ p, P.ps[j]? = some p → TailV P.os (j + 1) p) ∧ ∀ c, P.cs[j]? = some c → c.length = P.os.length - 1 - j ∧ ∀ y ∈ c, TailV P.os (j + 1) y) ∧ Below (w.heap.size + 1) (w.alloc (.cells #[.slice aO P.os.length cO, .slice aP P.ps.length cP, .slice aC P.cs.length cC] 91)) wr) (fun i _ => P.os.length - (intOf i).toNat)
              case atStart => exact ⟨0, Nat.zero_le _, rfl, Lib.hid (fun j h => absurd h (Nat.not_lt_zero _)), Below.refl _ _⟩
              case round =>
                obtain ⟨i, hi, rfl, hR, hb⟩ := hrel
                obtain ⟨e0, e1, e2⟩ := box_cells hb
                have HBr := Lib.hid hb
                have HK := Lib.hid (keep_boxed hb Any)
                have HBW := Lib.hid (below_unboxed hb)
                clear hb
                by_cases hlt : i < P.os.length
                · obtain ⟨p, hp⟩ : ∃ p, P.ps[i]? = some p := ⟨_, List.getElem?_eq_getElem (by rw [HPL.out]; exact hlt)⟩
                  obtain ⟨c, hc⟩ : ∃ c, P.cs[i]? = some c := ⟨_, List.getElem?_eq_getElem (by rw [HCL.out]; exact hlt)⟩
                  obtain ⟨bP, oP, rfl, _, hbP, uP, hcP2, huP⟩ := HP.out i p hp
                  obtain ⟨bC, oC, rfl, _, hbC, uC, hcC2, huC⟩ := HC.out i c hc
                  obtain ⟨a2, c2, rfl, h21, h22, _, h24⟩ := huC
                  have g1 : wr.cell? ⟨bP, oP + i, none⟩ = some uP := by rw [HK.out.cell trivial hbP]; exact hcP2
                  have g2 : wr.cell? ⟨bC, oC + i, none⟩ = some (.slice a2 c.length c2) := by rw [HK.out.cell trivial hbC]; exact hcC2
                  have m4 : (c.length : Int) ≤ 9223372036854775807 := by unfold maxLen at h22; omega
                  have H22 := Lib.hid h22
                  have H24 := Lib.hid h24
                  have HUP := Lib.hid (huP.keep HK.out)
                  have HUO := Lib.hid (HW.out.os.keep HK.out)
                  have HPP := Lib.hid hp
                  have HCC := Lib.hid hc
                  have hi2 : i < P.ps.length := by rw [HPL.out]; exact hlt
                  have hi3 : i < P.cs.length := by rw [HCL.out]; exact hlt
                  have wa : IntKind.i64.wrap ((P.os.length : Int) - 1) = (P.os.length : Int) - 1 := IntWalk.i64_in _ (by omega)
                  have wb : IntKind.i64.wrap ((P.os.length : Int) - 1 - (i : Int)) = (P.os.length : Int) - 1 - (i : Int) := IntWalk.i64_in _ (by omega)
                  have w4 : (i : Int) < (P.ps.length : Int) := by omega
                  have w5 : (0 : Int) ≤ (i : Int) := by omega
                  have w6 : (i : Int) < (P.cs.length : Int) := by omega
                  have hd : decide ((i : Int) < (P.os.length : Int)) = true := by simp; omega
                  have HCI := Lib.hid hcC2
                  clear hp hc huP h22 h24 hcP2 hcC2
                  by_cases htv : TailV P.os (i + 1) p
                  · have HTP := Lib.hid htv
                    clear htv
                    by_cases hln : c.length = P.os.length - 1 - i
                    · have hlb : ((c.length : Int) != (P.os.length : Int) - 1 - (i : Int)) = false := by simp; omega
                      have HLN := Lib.hid hln
                      clear hln
                      go_wp2_with fail
                      go_quiet ((go_at_call 140; exact Calls.quiet_of (exps_T HTP.out (exps_any _ _ _ _ _ (i : Int) (i + 1) (zc_of i) (HUO.out.keep ((Keep.refl _ _).drewN _)) (HUP.out.keep ((Keep.refl _ _).drewN _)) HPR.out))))
                      go_wp2_with fail
                      obtain ⟨w5, hw5⟩ : ∃ w5, w5 = wr.drewN nq := ⟨_, rfl⟩
                      have HB5 := Lib.hid (show Below (w.heap.size + 1) (w.alloc (.cells #[.slice aO P.os.length cO, .slice (some ⟨bP, oP, none⟩) P.ps.length cP, .slice (some ⟨bC, oC, none⟩) P.cs.length cC] 91)) w5 by rw [hw5]; exact below_drewN HBr.out nq)
                      rw [← hw5]
                      clear hw5 e0 e1 e2 g1 g2
                      go_loopw [6] (fun kv wi => ∃ k : Nat, k ≤ c.length ∧ kv = .int .i64 (k : Int) ∧ Hid (∀ j y, j < k → c[j]? = some y → TailV P.os (i + 1) y) ∧ Below (w.heap.size + 1) (w.alloc (.cells #[.slice aO P.os.length cO, .slice (some ⟨bP, oP, none⟩) P.ps.length cP, .slice (some ⟨bC, oC, none⟩) P.cs.length cC] 91)) wi) (fun kv _ => c.length - (intOf kv).toNat)
                      case atStart => exact ⟨0, Nat.zero_le _, rfl, Lib.hid (fun j y h => absurd h (Nat.not_lt_zero _)), HB5.out⟩
                      case round =>
                        clear HB5 HUP HUO HBr
                        obtain ⟨k, hk, rfl, hS, hb⟩ := hrel
                        obtain ⟨e0, e1, e2⟩ := box_cells hb
                        have HBr := Lib.hid hb
                        have HKi := Lib.hid (keep_boxed hb Any)
                        have HBWi := Lib.hid (below_unboxed hb)
                        clear hb
                        by_cases hkc : k < c.length
                        · obtain ⟨y, hy⟩ : ∃ y, c[k]? = some y := ⟨_, List.getElem?_eq_getElem hkc⟩
                          obtain ⟨b2, o2, rfl, _, hb2, uy, hcy, huy⟩ := H24.out k y hy
                          have g2 : wr.cell? ⟨bC, oC + i, none⟩ = some (.slice (some ⟨b2, o2, none⟩) c.length c2) := by rw [HKi.out.cell trivial hbC]; exact HCI.out
                          have g3 : wr.cell? ⟨b2, o2 + k, none⟩ = some uy := by rw [HKi.out.cell trivial hb2]; exact hcy
                          have HUY := Lib.hid (huy.keep HKi.out)
                          have HUO := Lib.hid (HW.out.os.keep HKi.out)
                          have HY := Lib.hid hy
                          have v4 : (k : Int) < (c.length : Int) := by omega
                          have v5 : (0 : Int) ≤ (k : Int) := by omega
                          clear hy huy hcy
                          by_cases hty : TailV P.os (i + 1) y
                          · have HTY := Lib.hid hty
                            clear hty
                            go_wp2_with fail
                            go_quiet ((go_at_call 140; exact Calls.quiet_of (exps_T HTY.out (exps_any _ _ _ _ _ (i : Int) (i + 1) (zc_of i) (HUO.out.keep ((Keep.refl _ _).drewN _)) (HUY.out.keep ((Keep.refl _ _).drewN _)) HPR.out))))
                            go_wp2_with fail
                            go_roundw
                            case rel => exact ⟨k + 1, by omega, by go_num, Lib.hid (fun j z hj hz => by
                              rcases Nat.lt_succ_iff_lt_or_eq.1 hj with h | h
                              · exact hS.out j z h hz
                              · subst h; rw [HY.out] at hz; cases hz; exact HTY.out), below_drewN HBr.out nq⟩
                            case measure => simp [intOf]; omega
                          · have HTY := Lib.hid hty
                            have HN := Lib.hid (show ¬ Valid P from fun h => hty ((h.cv i c HCC.out).2 y (List.mem_of_getElem? HY.out)))
                            clear hty
                            go_wp2_with fail
                            go_quiet ((go_at_call 140; exact Calls.quiet_of (exps_F HTY.out (exps_any _ _ _ _ _ (i : Int) (i + 1) (zc_of i) (HUO.out.keep ((Keep.refl _ _).drewN _)) (HUY.out.keep ((Keep.refl _ _).drewN _)) HPR.out))))
                            go_wp2_with fail
                            go_ret
                            exact ExB_false HN.out (below_drewN HBWi.out nq)
                        · obtain rfl : k = c.length := by omega
                          have g2 : wr.cell? ⟨bC, oC + i, none⟩ = some (.slice a2 c.length c2) := by rw [HKi.out.cell trivial hbC]; exact HCI.out
                          have HNX := Lib.hid (show ∀ j, j < i + 1 → (∀ p, P.ps[j]? = some p → TailV P.os (j + 1) p) ∧ ∀ c, P.cs[j]? = some c → c.length = P.os.length - 1 - j ∧ ∀ y ∈ c, TailV P.os (j + 1) y from fun j hj => by
                            rcases Nat.lt_succ_iff_lt_or_eq.1 hj with h | h
                            · exact hR.out j h
                            · subst h
                              refine ⟨fun q hq => ?_, fun d hd => ?_⟩
                              · rw [HPP.out] at hq; cases hq; exact HTP.out
                              · rw [HCC.out] at hd; cases hd
                                refine ⟨HLN.out, fun y hy => ?_⟩
                                obtain ⟨t, ht, rfl⟩ := List.getElem_of_mem hy
                                exact hS.out t _ ht (List.getElem?_eq_getElem ht))
                          go_wp2_with fail
                          go_roundw
                          case rel => exact ⟨i + 1, by omega, by go_num, HNX, HBr.out⟩
                          case measure => simp [intOf]; omega
                    · have hlb : ((c.length : Int) != (P.os.length : Int) - 1 - (i : Int)) = true := by simp; omega
                      have HN := Lib.hid (show ¬ Valid P from fun h => hln (h.cv i c HCC.out).1)
                      clear hln
                      go_wp2_with fail
                      go_quiet ((go_at_call 140; exact Calls.quiet_of (exps_T HTP.out (exps_any _ _ _ _ _ (i : Int) (i + 1) (zc_of i) (HUO.out.keep ((Keep.refl _ _).drewN _)) (HUP.out.keep ((Keep.refl _ _).drewN _)) HPR.out))))
                      go_wp2_with fail
                      go_ret
                      exact ExB_false HN.out (below_drewN HBW.out nq)
                  · have HTP := Lib.hid htv
                    have HN := Lib.hid (show ¬ Valid P from fun h => htv (h.pv i p HPP.out))
                    clear htv
                    go_wp2_with fail
                    go_quiet ((go_at_call 140; exact Calls.quiet_of (exps_F HTP.out (exps_any _ _ _ _ _ (i : Int) (i + 1) (zc_of i) (HUO.out.keep ((Keep.refl _ _).drewN _)) (HUP.out.keep ((Keep.refl _ _).drewN _)) HPR.out))))
                    go_wp2_with fail
                    go_ret
                    exact ExB_false HN.out (below_drewN HBW.out nq)
                · obtain rfl : i = P.os.length := by omega
                  have HYES := Lib.hid (show Valid P from ⟨h6, HPL.out, HCL.out, HPR.out, HLE.out, fun j p hp => (hR.out j (by have := (List.getElem?_eq_some_iff.1 hp).1; rw [HPL.out] at this; exact this)).1 p hp, fun j c hc => (hR.out j (by have := (List.getElem?_eq_some_iff.1 hc).1; rw [HCL.out] at this; exact this)).2 c hc⟩)
                  go_wp2_with fail
                  go_ret
                  exact ExB_true HYES.out HBW.out
            · have hrd : decide (r > 729) = true := by
                have : ¬ r ≤ 729 := fun h => hle (hr1.1 h)
                simp; omega
              have HN := Lib.hid (show ¬ Valid P from fun h => hle h.le)
              clear hle hr1
              go_wp2_with fail
              go_ret
              exact ExB_false HN.out HB.out
      · have hc2 : ((P.cs.length : Int) != (P.os.length : Int)) = true := by simp; omega
        have HN := Lib.hid (show ¬ Valid P from fun h => hcl h.cl)
        clear hcl hpl hO hP hC hV hW
        go_enter Tryz.func108, Tryz.ntmps108
        go_wp2_with fail
        go_ret
        exact ExB_false HN.out HB.out
    · have hp2 : ((P.ps.length : Int) != (P.os.length : Int)) = true := by simp; omega
      have HN := Lib.hid (show ¬ Valid P from fun h => hpl h.pl)
      clear hpl hO hP hC hV hW
      go_enter Tryz.func108, Tryz.ntmps108
      go_wp2_with fail
      go_ret
      exact ExB_false HN.out HB.out
  · have hd6 : decide ((P.os.length : Int) > 6) = true := by simp; omega
    have HN := Lib.hid (show ¬ Valid P from fun h => h6 h.n6)
    clear h6 hO hP hC hV hW
    go_enter Tryz.func108, Tryz.ntmps108
    go_wp2_with fail
    go_ret
    exact ExB_false HN.out HB.out
end Go.Proofs.YtbamkklhkhglnaaGreatDoor.SpecW

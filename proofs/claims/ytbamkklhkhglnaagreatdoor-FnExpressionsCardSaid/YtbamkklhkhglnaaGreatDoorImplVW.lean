import Derived.Test.YtbamkklhkhglnaaGreatDoorOwn
import Derived.Test.YtbamkklhkhglnaaGreatDoorPlainA
namespace Go.Proofs.YtbamkklhkhglnaaGreatDoor.ImplV
open Go.RowKit Go.Proofs.YtbamkklhkhglnaaGreatDoor Go.Proofs.YtbamkklhkhglnaaGreatDoor.Tow Go.Proofs.YtbamkklhkhglnaaGreatDoor.Val
set_option linter.unusedVariables false
set_option linter.unusedSimpArgs false

abbrev Any : Nat → Prop := fun _ => True
/-- a test that turns nothing -/
def ExR (p : Prop) (w : World) (e : Ending) (w' : World) : Prop := ∃ r : Bool, e = .returned (.bool r) ∧ (r = true ↔ p) ∧ w = w'

theorem prime_any (x : Int) (w : World) : Calls Tryz.prog 121 #[.int .i64 x] w fun e w' => e = .returned (.bool (primeB x)) ∧ w = w' := by
  by_cases h2 : x = 2
  · subst h2
    go_enter Tryz.func121, Tryz.ntmps121
    go_wp2_with fail
    go_ret
    exact ⟨rfl, rfl⟩
  · by_cases h3 : x = 3
    · subst h3
      go_enter Tryz.func121, Tryz.ntmps121
      go_wp2_with fail
      go_ret
      exact ⟨rfl, rfl⟩
    · by_cases h5 : x = 5
      · subst h5
        go_enter Tryz.func121, Tryz.ntmps121
        go_wp2_with fail
        go_ret
        exact ⟨rfl, rfl⟩
      · by_cases h7 : x = 7
        · subst h7
          go_enter Tryz.func121, Tryz.ntmps121
          go_wp2_with fail
          go_ret
          exact ⟨rfl, rfl⟩
        · have e2 : (x == 2) = false := by simpa using h2
          have e3 : (x == 3) = false := by simpa using h3
          have e5 : (x == 5) = false := by simpa using h5
          have e7 : (x == 7) = false := by simpa using h7
          have HB := Lib.hid (show primeB x = false by simp [primeB, h2, h3, h5, h7])
          clear h2 h3 h5 h7
          go_enter Tryz.func121, Tryz.ntmps121
          go_wp2_with fail
          go_ret
          exact ⟨by rw [HB.out]; rfl, rfl⟩

theorem inside_T (x lo hi : Int) (h1 : lo ≤ x) (h2 : x ≤ hi) (w : World) : Calls Tryz.prog 159 #[.int .i64 x, .int .i64 lo, .int .i64 hi] w fun e w' => e = .returned (.bool true) ∧ w = w' := by
  have h1' : x ≥ lo := h1
  go_enter Tryz.func159, Tryz.ntmps159
  go_wp2_with fail
  go_ret
  exact ⟨rfl, rfl⟩
theorem inside_F (x lo hi : Int) (h : ¬ (lo ≤ x ∧ x ≤ hi)) (w : World) : Calls Tryz.prog 159 #[.int .i64 x, .int .i64 lo, .int .i64 hi] w fun e w' => e = .returned (.bool false) ∧ w = w' := by
  by_cases h1 : lo ≤ x
  · have h2 : ¬ x ≤ hi := fun h2 => h ⟨h1, h2⟩
    have h3 : decide (x ≤ hi) = false := decide_eq_false h2
    have h4 : decide (lo ≤ x) = true := decide_eq_true h1
    clear h
    go_enter Tryz.func159, Tryz.ntmps159
    go_wp2_with fail
    go_ret
    exact ⟨rfl, rfl⟩
  · have h4 : decide (lo ≤ x) = false := decide_eq_false h1
    clear h
    go_enter Tryz.func159, Tryz.ntmps159
    go_wp2_with fail
    go_ret
    exact ⟨rfl, rfl⟩

def Zero (l : List Int) : Prop := ∀ x ∈ l, x = 0
theorem isZero_any (S : Nat → Prop) (v : Value) (l : List Int) (w : World) (hv : SlI S w v l) :
    Calls Tryz.prog 125 #[v] w (ExR (Zero l) w) := by
  obtain ⟨ao, c, rfl, hc, hm, _, hx⟩ := hv
  unfold maxLen at hm
  have HM := Lib.hid hm
  have hl63 : (l.length : Int) ≤ 9223372036854775807 := by omega
  have HX := Lib.hid hx
  clear hm hx
  go_enter Tryz.func125, Tryz.ntmps125
  go_wp2_with fail
  go_loop [7] (fun i => ∃ k : Nat, k ≤ l.length ∧ i = .int .i64 k ∧ Hid (∀ j, j < k → ∀ x, l[j]? = some x → x = 0)) (fun i => l.length - (intOf i).toNat)
  case atStart => exact ⟨0, Nat.zero_le _, rfl, Lib.hid (fun j h => absurd h (Nat.not_lt_zero _))⟩
  case round =>
    obtain ⟨k, hk, rfl, hz⟩ := hrel
    by_cases hlt : k < l.length
    · obtain ⟨x, hg⟩ : ∃ x, l[k]? = some x := ⟨_, List.getElem?_eq_getElem hlt⟩
      obtain ⟨b, o, rfl, _, hb, u, hcell, rfl⟩ := HX.out k x hg
      have HG := Lib.hid hg
      clear hg
      by_cases h0 : x = 0
      · subst h0
        go_wp2_with fail
        go_round
        case rel => exact ⟨k + 1, by omega, by go_num, Lib.hid (fun j hj y hy => by
          rcases Nat.lt_succ_iff_lt_or_eq.1 hj with h | h
          · exact hz.out j h y hy
          · subst h; rw [HG.out] at hy; exact (Option.some.inj hy).symm)⟩
        case measure => simp [intOf]; omega
      · have h1 : (x != 0) = true := by simpa using h0
        have H0 := Lib.hid h0
        clear h0
        go_wp2_with fail
        go_ret
        exact ⟨false, rfl, ⟨fun h => absurd h (by simp), fun h => absurd (h x (List.mem_of_getElem? HG.out)) H0.out⟩, rfl⟩
    · obtain rfl : k = l.length := by omega
      go_wp2_with fail
      go_ret
      exact ⟨true, rfl, ⟨fun _ x hx => by obtain ⟨j, hj, rfl⟩ := List.getElem_of_mem hx; exact hz.out j hj _ (List.getElem?_eq_getElem hj), fun _ => rfl⟩, rfl⟩

set_option maxHeartbeats 400000 in
theorem isExponents_any (w : World) (b o : Nat) (P : Pres) (v : Value) (l : List Int) (hP : PtrP Any w b o P) (hv : SlI Any w v l) (hpr : ∀ x ∈ P.os, primeB x = true) :
    Calls Tryz.prog 160 #[.pointer (some ⟨b, o, none⟩), v] w (ExR (TailV P.os 0 l) w) := by
  obtain ⟨_, hbl, vO, vP, vC, hp0, hp1, hp2, hV⟩ := hP
  obtain ⟨aO, cO, rfl, hcO, hmO, _, hO⟩ := hV.os
  obtain ⟨ao, c, rfl, hc, hm, _, hx⟩ := hv
  have hn63 : (l.length : Int) ≤ 9223372036854775807 := by unfold maxLen at hm; omega
  have HX := Lib.hid hx
  have HO := Lib.hid hO
  have HM := Lib.hid (And.intro hmO hm)
  have HPR := Lib.hid hpr
  clear hx hO hmO hm hpr hV hp1 hp2
  by_cases hl : l.length = P.os.length
  · have hl2 : ((l.length : Int) != (P.os.length : Int)) = false := by simp; omega
    have HL := Lib.hid hl
    clear hl
    go_enter Tryz.func160, Tryz.ntmps160
    go_wp2_with fail
    go_loop [17] (fun i => ∃ k : Nat, k ≤ l.length ∧ i = .int .i64 k ∧ Hid (∀ j, j < k → ∀ x o, l[j]? = some x → P.os[j]? = some o → 0 ≤ x ∧ x < o)) (fun i => l.length - (intOf i).toNat)
    case atStart => exact ⟨0, Nat.zero_le _, rfl, Lib.hid (fun j h => absurd h (Nat.not_lt_zero _))⟩
    case round =>
      obtain ⟨k, hk, rfl, hz⟩ := hrel
      by_cases hlt : k < l.length
      · obtain ⟨x, hg⟩ : ∃ x, l[k]? = some x := ⟨_, List.getElem?_eq_getElem hlt⟩
        obtain ⟨q, hq⟩ : ∃ q, P.os[k]? = some q := ⟨_, List.getElem?_eq_getElem (by rw [← HL.out]; exact hlt)⟩
        obtain ⟨bX, oX, rfl, _, hbX, u, hcX, rfl⟩ := HX.out k x hg
        obtain ⟨bO, oO, rfl, _, hbO, u, hcO2, rfl⟩ := HO.out k q hq
        have hk2 : k < P.os.length := by rw [← HL.out]; exact hlt
        have hq7 := primeB_le (HPR.out q (List.mem_of_getElem? hq))
        have HG := Lib.hid (And.intro hg hq)
        clear hg hq
        by_cases hin : 0 ≤ x ∧ x ≤ q - 1
        · have HI := Lib.hid hin
          clear hin
          go_wp2_with (go_at_call 159; refine (inside_T x 0 (q - 1) HI.out.1 HI.out.2 _).mono ?_; rintro e w' ⟨rfl, rfl⟩)
          go_round
          case rel => exact ⟨k + 1, by omega, by go_num, Lib.hid (fun j hj y p hy hp => by
            rcases Nat.lt_succ_iff_lt_or_eq.1 hj with h | h
            · exact hz.out j h y p hy hp
            · subst h; rw [HG.out.1] at hy; rw [HG.out.2] at hp; cases hy; cases hp; have := HI.out; omega)⟩
          case measure => simp [intOf]; omega
        · have HI := Lib.hid hin
          clear hin
          go_wp2_with (go_at_call 159; refine (inside_F x 0 (q - 1) HI.out _).mono ?_; rintro e w' ⟨rfl, rfl⟩)
          go_ret
          exact ⟨false, rfl, ⟨fun h => absurd h (by simp), fun h => by have := h.2 k x q HG.out.1 HG.out.2; exact absurd ⟨this.1, by omega⟩ HI.out⟩, rfl⟩
      · obtain rfl : k = l.length := by omega
        go_wp2_with fail
        go_ret
        exact ⟨true, rfl, ⟨fun _ => ⟨HL.out, fun j x q hx hq => by have := hz.out j (List.getElem?_eq_some_iff.1 hx).1 x q hx hq; exact ⟨this.1, this.2, fun h => absurd h (Nat.not_lt_zero _)⟩⟩, fun _ => rfl⟩, rfl⟩
  · have hl2 : ((l.length : Int) != (P.os.length : Int)) = true := by simp; omega
    have HL := Lib.hid hl
    clear hl
    go_enter Tryz.func160, Tryz.ntmps160
    go_wp2_with fail
    go_ret
    exact ⟨false, rfl, ⟨fun h => absurd h (by simp), fun h => absurd h.1 HL.out⟩, rfl⟩

theorem SlI_head {S : Nat → Prop} {w : World} {b o n c : Nat} {l : List Int} (h : SlI S w (.slice (some ⟨b, o, none⟩) n c) l) (k : Nat) (hk : k ≤ n) : SlI S w (.slice (some ⟨b, o, none⟩) k c) (l.take k) := by
  obtain ⟨ao, c', e, h1, h2, h0, hx⟩ := h
  obtain ⟨rfl, rfl, rfl⟩ : some ⟨b, o, none⟩ = ao ∧ n = l.length ∧ c = c' := by simpa using e
  refine ⟨_, c, by rw [List.length_take, Nat.min_eq_left hk], by rw [List.length_take]; omega, h2, fun e => absurd e (by simp), fun i x hi => ?_⟩
  rw [List.getElem?_take] at hi
  split at hi
  · exact hx i x hi
  · cases hi

set_option maxHeartbeats 400000 in
theorem tailVector_any (w : World) (b o i : Nat) (P : Pres) (v : Value) (l : List Int) (hP : PtrP Any w b o P) (hv : SlI Any w v l) (hpr : ∀ x ∈ P.os, primeB x = true) (hi : i < P.os.length) (hn : P.os.length ≤ 6) :
    Calls Tryz.prog 122 #[.pointer (some ⟨b, o, none⟩), .int .i64 (i : Int), v] w (ExR (TailV P.os (i + 1) l) w) := by
  have HE := Lib.hid (isExponents_any w b o P v l hP hv hpr)
  by_cases h0 : TailV P.os 0 l
  · have hl := h0.1
    obtain ⟨ao, c, rfl, hc, hm, _, hx⟩ := hv
    obtain ⟨bX, oX, rfl, _, hbX, u, hcX, rfl⟩ := hx i l[i] (List.getElem?_eq_getElem (by omega))
    have hv : SlI Any w (.slice (some ⟨bX, oX, none⟩) l.length c) l := ⟨_, c, rfl, hc, hm, fun e => absurd e (by simp), hx⟩
    have HZ := Lib.hid (isZero_any Any _ _ w (SlI_head hv (i + 1) (by omega)))
    have H0 := Lib.hid h0
    have HM := Lib.hid hm
    have HIF := Lib.hid (show Zero (l.take (i + 1)) ↔ TailV P.os (i + 1) l from by
      constructor
      · intro hz
        refine ⟨hl, fun j x q hx hq => ⟨(h0.2 j x q hx hq).1, (h0.2 j x q hx hq).2.1, fun hj => hz x ?_⟩⟩
        exact List.mem_of_getElem? (i := j) (by rw [List.getElem?_take, if_pos hj]; exact hx)
      · intro ht x hx
        obtain ⟨j, hj, rfl⟩ := List.getElem_of_mem hx
        have hj2 : j < i + 1 := by rw [List.length_take] at hj; omega
        have hjl : j < l.length := by rw [List.length_take] at hj; omega
        rw [List.getElem_take]
        exact (ht.2 j _ _ (List.getElem?_eq_getElem hjl) (List.getElem?_eq_getElem (by omega))).2.2 hj2)
    have hlc : i + 1 ≤ l.length := by omega
    have hcc : i + 1 ≤ c := by omega
    have hl6 : l.length ≤ 6 := by omega
    clear hx hv hcX h0 hpr hP hm hl
    go_enter Tryz.func122, Tryz.ntmps122
    go_wp2_with fail
    refine HE.out.mono ?_
    rintro e w' ⟨r, rfl, hr, rfl⟩
    obtain rfl : r = true := hr.2 H0.out
    clear hr
    go_wp2_with fail
    refine HZ.out.mono ?_
    rintro e w' ⟨r, rfl, hr, rfl⟩
    have HR := Lib.hid hr
    clear hr
    go_wp2_with fail
    go_ret
    exact ⟨r, rfl, HR.out.trans HIF.out, rfl⟩
  · have H0 := Lib.hid h0
    clear h0 hP hv hpr
    go_enter Tryz.func122, Tryz.ntmps122
    go_wp2_with fail
    refine HE.out.mono ?_
    rintro e w' ⟨r, rfl, hr, rfl⟩
    obtain rfl : r = false := by cases r; rfl; exact absurd (hr.1 rfl) H0.out
    clear hr
    go_wp2_with fail
    go_ret
    exact ⟨false, rfl, ⟨fun h => absurd h (by simp), fun h => absurd ⟨h.1, fun j x q hx hq => ⟨(h.2 j x q hx hq).1, (h.2 j x q hx hq).2.1, fun h => absurd h (Nat.not_lt_zero _)⟩⟩ H0.out⟩, rfl⟩
end Go.Proofs.YtbamkklhkhglnaaGreatDoor.ImplV

namespace Go.Proofs.YtbamkklhkhglnaaGreatDoor.ImplW
open Go.RowKit Go.Proofs.YtbamkklhkhglnaaGreatDoor Go.Proofs.YtbamkklhkhglnaaGreatDoor.Tow Go.Proofs.YtbamkklhkhglnaaGreatDoor.Val Go.Proofs.YtbamkklhkhglnaaGreatDoor.ImplV
set_option linter.unusedVariables false
set_option linter.unusedSimpArgs false

/-- a test that leaves old memory -/
def ExB (p : Prop) (w : World) (e : Ending) (w' : World) : Prop := ∃ r : Bool, e = .returned (.bool r) ∧ (r = true ↔ p) ∧ Below w.heap.size w w'
theorem ExB_false {p : Prop} {w w' : World} (h : ¬ p) (hb : Below w.heap.size w w') : ExB p w (.returned (.bool false)) w' := ⟨false, rfl, ⟨fun h => absurd h (by simp), fun h' => absurd h' h⟩, hb⟩
theorem ExB_true {p : Prop} {w w' : World} (h : p) (hb : Below w.heap.size w w') : ExB p w (.returned (.bool true)) w' := ⟨true, rfl, ⟨fun _ => h, fun _ => rfl⟩, hb⟩

set_option maxHeartbeats 4000000 in
theorem isPres_any (w : World) (vO vP vC : Value) (P : Pres) (hV : ValP Any w vO vP vC P) :
    Calls Tryz.prog 101 #[.agg #[vO, vP, vC]] w (ExB (Valid P) w) := by
  have hW := hV
  obtain ⟨aO, cO, rfl, hcO, hmO, hn1, hO⟩ := hV.os
  obtain ⟨aP, cP, rfl, hcP, hmP, hn2, hP⟩ := hV.ps
  obtain ⟨aC, cC, rfl, hcC, hmC, hn3, hC⟩ := hV.cs
  have HMM := Lib.hid (And.intro hmO (And.intro hmP hmC))
  have m1 : (P.os.length : Int) ≤ 9223372036854775807 := by unfold maxLen at hmO; omega
  have m2 : (P.ps.length : Int) ≤ 9223372036854775807 := by unfold maxLen at hmP; omega
  have m3 : (P.cs.length : Int) ≤ 9223372036854775807 := by unfold maxLen at hmC; omega
  have HB := Lib.hid ((Below.refl w.heap.size w).alloc (Nat.le_refl _) (.cells #[.slice aO P.os.length cO, .slice aP P.ps.length cP, .slice aC P.cs.length cC] 91))
  clear hmO hmP hmC hn1 hn2 hn3
  by_cases h6 : P.os.length ≤ 6
  · have hd6 : decide ((P.os.length : Int) > 6) = false := by simp; omega
    by_cases hpl : P.ps.length = P.os.length
    · have hp2 : ((P.ps.length : Int) != (P.os.length : Int)) = false := by simp; omega
      by_cases hcl : P.cs.length = P.os.length
      · have hc2 : ((P.cs.length : Int) != (P.os.length : Int)) = false := by simp; omega
        have HPL := Lib.hid hpl
        have HCL := Lib.hid hcl
        have HO := Lib.hid hO
        have HP := Lib.hid hP
        have HC := Lib.hid hC
        have HPT := Lib.hid (show PtrP Any (w.alloc (.cells #[.slice aO P.os.length cO, .slice aP P.ps.length cP, .slice aC P.cs.length cC] 91)) w.heap.size 0 P from by
          have hb := Below.refl (w.heap.size + 1) (w.alloc (.cells #[.slice aO P.os.length cO, .slice aP P.ps.length cP, .slice aC P.cs.length cC] 91))
          obtain ⟨e0, e1, e2⟩ := box_cells hb
          exact ⟨trivial, by simp, _, _, _, e0, e1, e2, hW.keep (keep_boxed hb _)⟩)
        have HKW := Lib.hid (keep_boxed (Below.refl (w.heap.size + 1) (w.alloc (.cells #[.slice aO P.os.length cO, .slice aP P.ps.length cP, .slice aC P.cs.length cC] 91))) Any)
        clear hpl hcl hO hP hC hV hW
        go_enter Tryz.func101, Tryz.ntmps101
        go_wp2_with fail
        go_loop [4, 32] (fun q i => ∃ k : Nat, k ≤ P.os.length ∧ i = .int .i64 (k : Int) ∧ ∃ z : Int, q = .int .i64 z ∧ 1 ≤ z ∧ z ≤ 729 ∧ Hid (z = prodI (P.os.take k) ∧ ∀ x ∈ P.os.take k, primeB x = true)) (fun _ i => P.os.length - (intOf i).toNat)
        case atStart => exact ⟨0, Nat.zero_le _, rfl, 1, rfl, by omega, by omega, Lib.hid ⟨rfl, fun x hx => by simp at hx⟩⟩
        case round =>
          obtain ⟨k, hk, rfl, z, rfl, hz1, hz2, hR⟩ := hrel
          by_cases hlt : k < P.os.length
          · obtain ⟨x, hx⟩ : ∃ x, P.os[k]? = some x := ⟨_, List.getElem?_eq_getElem hlt⟩
            obtain ⟨bO, oO, rfl, _, hbO, u, hcO2, rfl⟩ := HO.out k x hx
            have HX := Lib.hid hx
            clear hx
            by_cases hpr : primeB x = true
            · have hx7 := primeB_le hpr
              have b1 : 1 ≤ z * x := by have : 1 * 1 ≤ z * x := Int.mul_le_mul hz1 (by omega) (by omega) (by omega); simpa using this
              have b2 : z * x ≤ 5103 := by have : z * x ≤ 729 * 7 := Int.mul_le_mul hz2 hx7.2 (by omega) (by omega); simpa using this
              have HPR := Lib.hid hpr
              clear hpr
              by_cases hbig : z * x ≤ 729
              · have hg : decide (z * x > 729) = false := by simp; omega
                have HT := Lib.hid (show z * x = prodI (P.os.take (k + 1)) ∧ ∀ y ∈ P.os.take (k + 1), primeB y = true from by
                  refine ⟨by rw [prodI_take_succ HX.out, hR.out.1], fun y hy => ?_⟩
                  rw [List.take_add_one, HX.out] at hy
                  rcases List.mem_append.1 hy with h | h
                  · exact hR.out.2 y h
                  · simp at h; rw [h]; exact HPR.out)
                go_wp2_with (go_at_call 121; refine (prime_any x _).mono ?_; rintro e w' ⟨rfl, rfl⟩; rw [HPR.out])
                go_round
                case rel => exact ⟨k + 1, by omega, by go_num, z * x, rfl, b1, hbig, HT⟩
                case measure => simp [intOf]; omega
              · have hg : decide (z * x > 729) = true := by simp; omega
                have HN := Lib.hid (show ¬ Valid P from fun h => hbig (by
                  have h1 := prodI_take_le h.pr (k + 1)
                  rw [prodI_take_succ HX.out, ← hR.out.1] at h1
                  have := h.le
                  omega))
                go_wp2_with (go_at_call 121; refine (prime_any x _).mono ?_; rintro e w' ⟨rfl, rfl⟩; rw [HPR.out])
                go_ret
                exact ExB_false HN.out HB.out
            · have HPR := Lib.hid (show primeB x = false by simpa using hpr)
              have HN := Lib.hid (show ¬ Valid P from fun h => hpr (h.pr x (List.mem_of_getElem? HX.out)))
              clear hpr
              go_wp2_with (go_at_call 121; refine (prime_any x _).mono ?_; rintro e w' ⟨rfl, rfl⟩; rw [HPR.out])
              go_ret
              exact ExB_false HN.out HB.out
          · obtain rfl : k = P.os.length := by omega
            have HPR := Lib.hid (show (∀ x ∈ P.os, primeB x = true) ∧ prodI P.os ≤ 729 from by
              have h := hR.out
              rw [List.take_length] at h
              exact ⟨h.2, by rw [← h.1]; exact hz2⟩)
            have HTV := Lib.hid (fun (i : Nat) (v : Value) (l : List Int) (hv : SlI Any _ v l) (hi : i < P.os.length) => tailVector_any _ w.heap.size 0 i P v l HPT.out hv HPR.out.1 hi h6)
            clear hR hlt hk
            go_wp2_with fail
            go_loop [50] (fun i => ∃ k : Nat, k ≤ P.os.length ∧ i = .int .i64 (k : Int) ∧ Hid (∀ j, j < k → (∀ p, P.ps[j]? = some p → TailV P.os (j + 1) p) ∧ ∀ c, P.cs[j]? = some c → c.length = P.os.length - 1 - j ∧ ∀ y ∈ c, TailV P.os (j + 1) y)) (fun i => P.os.length - (intOf i).toNat)
            case atStart => exact ⟨0, Nat.zero_le _, rfl, Lib.hid (fun j h => absurd h (Nat.not_lt_zero _))⟩
            case round =>
              obtain ⟨i, hi, rfl, hR⟩ := hrel
              by_cases hlt : i < P.os.length
              · obtain ⟨p, hp⟩ : ∃ p, P.ps[i]? = some p := ⟨_, List.getElem?_eq_getElem (by rw [HPL.out]; exact hlt)⟩
                obtain ⟨c, hc⟩ : ∃ c, P.cs[i]? = some c := ⟨_, List.getElem?_eq_getElem (by rw [HCL.out]; exact hlt)⟩
                obtain ⟨bP, oP, rfl, _, hbP, uP, hcP2, huP⟩ := HP.out i p hp
                obtain ⟨bC, oC, rfl, _, hbC, uC, hcC2, huC⟩ := HC.out i c hc
                obtain ⟨a2, c2, rfl, h21, h22, _, h24⟩ := huC
                have m4 : (c.length : Int) ≤ 9223372036854775807 := by unfold maxLen at h22; omega
                have H22 := Lib.hid h22
                have H24 := Lib.hid h24
                have HUP := Lib.hid (huP.keep HKW.out)
                have HPP := Lib.hid hp
                have HCC := Lib.hid hc
                have hi2 : i < P.ps.length := by rw [HPL.out]; exact hlt
                have hi3 : i < P.cs.length := by rw [HCL.out]; exact hlt
                have hd : decide ((i : Int) < (P.os.length : Int)) = true := by simp; omega
                clear hp hc huP h22 h24
                by_cases htv : TailV P.os (i + 1) p
                · have HTP := Lib.hid htv
                  clear htv
                  by_cases hln : c.length = P.os.length - 1 - i
                  · have hlb : ((c.length : Int) != (P.os.length : Int) - 1 - (i : Int)) = false := by simp; omega
                    have HLN := Lib.hid hln
                    clear hln
                    go_wp2_with (go_at_call 122; refine (HTV.out i _ p HUP.out hlt).mono ?_; rintro e w' ⟨r, rfl, hr, rfl⟩; obtain rfl : r = true := hr.2 HTP.out; clear hr)
                    go_loop [80] (fun kv => ∃ k : Nat, k ≤ c.length ∧ kv = .int .i64 (k : Int) ∧ Hid (∀ j y, j < k → c[j]? = some y → TailV P.os (i + 1) y)) (fun kv => c.length - (intOf kv).toNat)
                    case atStart => exact ⟨0, Nat.zero_le _, rfl, Lib.hid (fun j y h => absurd h (Nat.not_lt_zero _))⟩
                    case round =>
                      obtain ⟨k, hk, rfl, hS⟩ := hrel
                      by_cases hkc : k < c.length
                      · obtain ⟨y, hy⟩ : ∃ y, c[k]? = some y := ⟨_, List.getElem?_eq_getElem hkc⟩
                        obtain ⟨b2, o2, rfl, _, hb2, uy, hcy, huy⟩ := H24.out k y hy
                        have HUY := Lib.hid (huy.keep HKW.out)
                        have HY := Lib.hid hy
                        clear hy huy
                        by_cases hty : TailV P.os (i + 1) y
                        · have HTY := Lib.hid hty
                          clear hty
                          go_wp2_with (go_at_call 122; refine (HTV.out i _ y HUY.out hlt).mono ?_; rintro e w' ⟨r, rfl, hr, rfl⟩; obtain rfl : r = true := hr.2 HTY.out; clear hr)
                          go_round
                          case rel => exact ⟨k + 1, by omega, by go_num, Lib.hid (fun j z hj hz => by
                            rcases Nat.lt_succ_iff_lt_or_eq.1 hj with h | h
                            · exact hS.out j z h hz
                            · subst h; rw [HY.out] at hz; cases hz; exact HTY.out)⟩
                          case measure => simp [intOf]; omega
                        · have HTY := Lib.hid hty
                          have HN := Lib.hid (show ¬ Valid P from fun h => hty ((h.cv i c HCC.out).2 y (List.mem_of_getElem? HY.out)))
                          clear hty
                          go_wp2_with (go_at_call 122; refine (HTV.out i _ y HUY.out hlt).mono ?_; rintro e w' ⟨r, rfl, hr, rfl⟩; obtain rfl : r = false := (by cases r; rfl; exact absurd (hr.1 rfl) HTY.out); clear hr)
                          go_ret
                          exact ExB_false HN.out HB.out
                      · obtain rfl : k = c.length := by omega
                        have HNX := Lib.hid (show ∀ j, j < i + 1 → (∀ p, P.ps[j]? = some p → TailV P.os (j + 1) p) ∧ ∀ c, P.cs[j]? = some c → c.length = P.os.length - 1 - j ∧ ∀ y ∈ c, TailV P.os (j + 1) y from fun j hj => by
                          rcases Nat.lt_succ_iff_lt_or_eq.1 hj with h | h
                          · exact hR.out j h
                          · subst h
                            refine ⟨fun q hq => ?_, fun d hd => ?_⟩
                            · rw [HPP.out] at hq; cases hq; exact HTP.out
                            · rw [HCC.out] at hd; cases hd
                              refine ⟨HLN.out, fun y hy => ?_⟩
                              obtain ⟨t, ht, rfl⟩ := List.getElem_of_mem hy
                              exact hS.out t _ ht (List.getElem?_eq_getElem ht))
                        go_wp2_with fail
                        go_round
                        case rel => exact ⟨i + 1, by omega, by go_num, HNX⟩
                        case measure => simp [intOf]; omega
                  · have hlb : ((c.length : Int) != (P.os.length : Int) - 1 - (i : Int)) = true := by simp; omega
                    have HN := Lib.hid (show ¬ Valid P from fun h => hln (h.cv i c HCC.out).1)
                    clear hln
                    go_wp2_with (go_at_call 122; refine (HTV.out i _ p HUP.out hlt).mono ?_; rintro e w' ⟨r, rfl, hr, rfl⟩; obtain rfl : r = true := hr.2 HTP.out; clear hr)
                    go_ret
                    exact ExB_false HN.out HB.out
                · have HTP := Lib.hid htv
                  have HN := Lib.hid (show ¬ Valid P from fun h => htv (h.pv i p HPP.out))
                  clear htv
                  go_wp2_with (go_at_call 122; refine (HTV.out i _ p HUP.out hlt).mono ?_; rintro e w' ⟨r, rfl, hr, rfl⟩; obtain rfl : r = false := (by cases r; rfl; exact absurd (hr.1 rfl) HTP.out); clear hr)
                  go_ret
                  exact ExB_false HN.out HB.out
              · obtain rfl : i = P.os.length := by omega
                have HYES := Lib.hid (show Valid P from ⟨h6, HPL.out, HCL.out, HPR.out.1, HPR.out.2, fun j p hp => (hR.out j (by have := (List.getElem?_eq_some_iff.1 hp).1; rw [HPL.out] at this; exact this)).1 p hp, fun j c hc => (hR.out j (by have := (List.getElem?_eq_some_iff.1 hc).1; rw [HCL.out] at this; exact this)).2 c hc⟩)
                go_wp2_with fail
                go_ret
                exact ExB_true HYES.out HB.out
      · have hc2 : ((P.cs.length : Int) != (P.os.length : Int)) = true := by simp; omega
        have HN := Lib.hid (show ¬ Valid P from fun h => hcl h.cl)
        clear hcl hpl hO hP hC hV hW
        go_enter Tryz.func101, Tryz.ntmps101
        go_wp2_with fail
        go_ret
        exact ExB_false HN.out HB.out
    · have hp2 : ((P.ps.length : Int) != (P.os.length : Int)) = true := by simp; omega
      have HN := Lib.hid (show ¬ Valid P from fun h => hpl h.pl)
      clear hpl hO hP hC hV hW
      go_enter Tryz.func101, Tryz.ntmps101
      go_wp2_with fail
      go_ret
      exact ExB_false HN.out HB.out
  · have hd6 : decide ((P.os.length : Int) > 6) = true := by simp; omega
    have HN := Lib.hid (show ¬ Valid P from fun h => h6 h.n6)
    clear h6 hO hP hC hV hW
    go_enter Tryz.func101, Tryz.ntmps101
    go_wp2_with fail
    go_ret
    exact ExB_false HN.out HB.out
end Go.Proofs.YtbamkklhkhglnaaGreatDoor.ImplW

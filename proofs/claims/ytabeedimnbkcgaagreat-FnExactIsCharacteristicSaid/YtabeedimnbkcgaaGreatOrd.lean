import Derived.Test.YtabeedimnbkcgaaGreatSortC
import Derived.Test.YtabeedimnbkcgaaGreatGenD
/-
  Plain: lists of numbers are ordered as the lists of their elements.
-/
namespace Go.Proofs.YtabeedimnbkcgaaGreat.Ord
open Go.Proofs.YtabeedimnbkcgaaGreat Go.Proofs.YtabeedimnbkcgaaGreat.Tow Go.Proofs.YtabeedimnbkcgaaGreat.NumT Go.Proofs.YtabeedimnbkcgaaGreat.GenD Go.Proofs.YtabeedimnbkcgaaGreat.Cmp Go.Proofs.YtabeedimnbkcgaaGreat.Srt
set_option linter.unusedVariables false
set_option linter.unusedSimpArgs false

/-- two numbers compared -/
def c3 (a b : Nat) : Int := if a < b then -1 else if b < a then 1 else 0
theorem cmpL_c3 (a b : Nat) (x y : List Nat) : cmpL (a :: x) (b :: y) = if c3 a b = 0 then cmpL x y else c3 a b := by
  rw [cmpL_cons]
  unfold c3
  by_cases h1 : a < b
  · rw [if_pos h1, if_pos h1]; rfl
  · rw [if_neg h1, if_neg h1]
    by_cases h2 : b < a
    · rw [if_pos h2, if_pos h2]; rfl
    · rw [if_neg h2, if_neg h2]; rfl
theorem c3_two {s x y u v : Nat} (hu : u < s) (hv : v < s) : c3 (s * x + u) (s * y + v) = if c3 x y = 0 then c3 u v else c3 x y := by
  unfold c3
  rcases Nat.lt_trichotomy x y with h | h | h
  · have : s * (x + 1) ≤ s * y := Nat.mul_le_mul_left _ h
    rw [Nat.mul_add] at this
    rw [if_pos (by omega), if_pos h]; rfl
  · subst h
    rw [if_neg (Nat.lt_irrefl x), if_neg (Nat.lt_irrefl x), if_pos rfl]
    by_cases h1 : u < v
    · rw [if_pos (by omega), if_pos h1]
    · rw [if_neg (by omega), if_neg h1]
      by_cases h2 : v < u
      · rw [if_pos (by omega), if_pos h2]
      · rw [if_neg (by omega), if_neg h2]
  · have : s * (y + 1) ≤ s * x := Nat.mul_le_mul_left _ h
    rw [Nat.mul_add] at this
    rw [if_neg (show ¬ s * x + u < s * y + v by omega), if_pos (show s * y + v < s * x + u by omega), if_neg (show ¬ x < y by omega), if_pos h]; rfl
theorem cmp_at : ∀ (T : Tw) (hT : Wf T) (a b : Nat), cmpL (at_ T a) (at_ T b) = c3 (a % sz T) (b % sz T)
  | [], _, a, b => by simp [at_, sz, c3, cmpL, Nat.mod_one]
  | L :: T, hT, a, b => by
    have hs := sz_pos hT.2.2.2.2
    have e : ∀ k, at_ (L :: T) k = (k / sz T % L.o) :: at_ T k := fun k => rfl
    have em : ∀ k, k % sz (L :: T) = sz T * (k / sz T % L.o) + k % sz T := fun k => by
      show k % (L.o * sz T) = _
      rw [Nat.mul_comm, Nat.mod_mul, Nat.add_comm]
    rw [e, e, em, em, cmpL_c3, cmp_at T hT.2.2.2.2, c3_two (Nat.mod_lt _ hs) (Nat.mod_lt _ hs)]
theorem cmpL_app : ∀ (x y a b : List Nat), x.length = y.length → cmpL (x ++ a) (y ++ b) = if cmpL x y = 0 then cmpL a b else cmpL x y
  | [], [], a, b, _ => by simp [cmpL]
  | [], _ :: _, _, _, h => by simp at h
  | _ :: _, [], _, _, h => by simp at h
  | p :: x, q :: y, a, b, h => by
    rw [List.cons_append, List.cons_append, cmpL_c3, cmpL_c3, cmpL_app x y a b (by simpa using h)]
    by_cases h0 : c3 p q = 0
    · rw [if_pos h0, if_pos h0]
    · rw [if_neg h0, if_neg h0, if_neg h0]
/-- the rows of a list of numbers, one behind the other -/
def flt (U : Tw) (l : List Nat) : List Nat := (l.map (at_ U)).flatten
theorem cmp_flt {U : Tw} (hU : Wf U) : ∀ (l l' : List Nat), l.length = l'.length → (∀ a ∈ l, a < sz U) → (∀ a ∈ l', a < sz U) → cmpL (flt U l) (flt U l') = cmpL l l'
  | [], [], _, _, _ => rfl
  | [], _ :: _, h, _, _ => by simp at h
  | _ :: _, [], h, _, _ => by simp at h
  | a :: l, b :: l', h, h1, h2 => by
    have ha := h1 a List.mem_cons_self
    have hb := h2 b List.mem_cons_self
    show cmpL (at_ U a ++ flt U l) (at_ U b ++ flt U l') = _
    rw [cmpL_app _ _ _ _ (by rw [at_length, at_length]), cmp_at U hU, Nat.mod_eq_of_lt ha, Nat.mod_eq_of_lt hb, cmp_flt hU l l' (by simpa using h) (fun x hx => h1 x (List.mem_cons_of_mem _ hx)) (fun x hx => h2 x (List.mem_cons_of_mem _ hx)), cmpL_c3]
theorem cmpL_eq : ∀ (x y : List Nat), x.length = y.length → ¬ cmpL x y < 0 → ¬ cmpL y x < 0 → x = y
  | [], [], _, _, _ => rfl
  | [], _ :: _, h, _, _ => by simp at h
  | _ :: _, [], h, _, _ => by simp at h
  | a :: x, b :: y, h, h1, h2 => by
    rw [cmpL_lt_iff] at h1 h2
    obtain rfl : a = b := by omega
    rw [cmpL_eq x y (by simpa using h) (fun h => h1 (.inr ⟨rfl, h⟩)) (fun h => h2 (.inr ⟨rfl, h⟩))]
end Go.Proofs.YtabeedimnbkcgaaGreat.Ord

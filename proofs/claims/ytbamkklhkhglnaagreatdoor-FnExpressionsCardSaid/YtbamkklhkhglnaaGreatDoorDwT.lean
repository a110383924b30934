import Derived.Test.YtbamkklhkhglnaaGreatDoorOwn2
import Derived.Deep.AppendLies
/-
  Memory that is typed by shapes alone: rows of numbers, rows of rows, and a presentation, with their lengths and with no contents.
-/
namespace Go.Proofs.YtbamkklhkhglnaaGreatDoor.DwT
open Go.RowKit Go.Proofs.YtbamkklhkhglnaaGreatDoor Go.Proofs.YtbamkklhkhglnaaGreatDoor.Tow
set_option linter.unusedVariables false
set_option linter.unusedSimpArgs false

def R1 (B : Nat) (w : World) (n : Nat) (v : Value) : Prop := ∃ l : List Int, l.length = n ∧ w.ownsRow B 2 1 v n (vals l)
def R2 (B : Nat) (w : World) (L : List Nat) (v : Value) : Prop := ∃ us : List Value, w.ownsRow B 87 1 v L.length us ∧ ∀ (i n : Nat), L[i]? = some n → ∃ u, us[i]? = some u ∧ R1 B w n u
def R3 (B : Nat) (w : World) (M : List (List Nat)) (v : Value) : Prop := ∃ us : List Value, w.ownsRow B 88 1 v M.length us ∧ ∀ (i : Nat) (L : List Nat), M[i]? = some L → ∃ u, us[i]? = some u ∧ R2 B w L u
/-- every shape is kept -/
structure Ty (B : Nat) (w w' : World) : Prop where
  one : ∀ n v, R1 B w n v → R1 B w' n v
  two : ∀ L v, R2 B w L v → R2 B w' L v
  three : ∀ M v, R3 B w M v → R3 B w' M v
theorem Ty.refl (B : Nat) (w : World) : Ty B w w := ⟨fun _ _ h => h, fun _ _ h => h, fun _ _ h => h⟩
theorem Ty.trans {B : Nat} {a b c : World} (h : Ty B a b) (g : Ty B b c) : Ty B a c := ⟨fun n v x => g.one n v (h.one n v x), fun n v x => g.two n v (h.two n v x), fun n v x => g.three n v (h.three n v x)⟩
/-- what owned rows become by a step, with two laws -/
theorem Ty.mk1 {B : Nat} {w w' : World}
    (h1 : ∀ n v, R1 B w n v → R1 B w' n v)
    (h2 : ∀ (L : List Nat) (v : Value) us, w.ownsRow B 87 1 v L.length us → (∀ (i n : Nat), L[i]? = some n → ∃ u, us[i]? = some u ∧ R1 B w n u) → ∃ us', w'.ownsRow B 87 1 v L.length us' ∧ ∀ (i n : Nat), L[i]? = some n → ∃ u, us'[i]? = some u ∧ R1 B w' n u)
    (h3 : ∀ (M : List (List Nat)) (v : Value) us, w.ownsRow B 88 1 v M.length us → (∀ (i : Nat) (L : List Nat), M[i]? = some L → ∃ u, us[i]? = some u ∧ R2 B w L u) → (∀ L v, R2 B w L v → R2 B w' L v) → ∃ us', w'.ownsRow B 88 1 v M.length us' ∧ ∀ (i : Nat) (L : List Nat), M[i]? = some L → ∃ u, us'[i]? = some u ∧ R2 B w' L u) : Ty B w w' := by
  have h2' : ∀ L v, R2 B w L v → R2 B w' L v := fun L v ⟨us, a, b⟩ => h2 L v us a b
  exact ⟨h1, h2', fun M v ⟨us, a, b⟩ => h3 M v us a b h2'⟩
theorem Ty.keep {B : Nat} {w w' : World} {S : Nat → Prop} (hk : Keep S w w') (hS : ∀ k, B ≤ k → S k) : Ty B w w' := by
  have h1 : ∀ n v, R1 B w n v → R1 B w' n v := fun n v ⟨l, a, b⟩ => ⟨l, a, ownsRow_keep b hk hS⟩
  refine Ty.mk1 h1 (fun L v us a b => ⟨us, ownsRow_keep a hk hS, fun i n hi => ?_⟩) (fun M v us a b h2 => ⟨us, ownsRow_keep a hk hS, fun i L hi => ?_⟩)
  · obtain ⟨u, e1, e2⟩ := b i n hi
    exact ⟨u, e1, h1 _ _ e2⟩
  · obtain ⟨u, e1, e2⟩ := b i L hi
    exact ⟨u, e1, h2 _ _ e2⟩
theorem Ty.below {B : Nat} {w w' : World} (hb : Below w.heap.size w w') : Ty B w w' := Ty.keep (S := fun _ => True) (Keep.of_below hb) (fun _ _ => trivial)
/-- a store at a block of one type, seen from a row of that or another -/
theorem owns_other {B b i n : Nat} {e t : TypeId} {w : World} {v c : Value} {xs : List Value} {cur : Array Value} (h : w.ownsRow B e 1 v n xs) (hb : w.heap[b]? = some (.cells cur t (0, 0))) (hne : e ≠ t) : (w.setCell ⟨b, i, none⟩ c).ownsRow B e 1 v n xs := by
  refine ⟨h.1, ?_⟩
  rcases h.2 with h' | ⟨g, cap, cu, h', hB, hg, h3⟩
  · exact .inl h'
  · refine .inr ⟨g, cap, cu, h', hB, ?_, h3⟩
    rw [heap_setCell_other w ⟨b, i, none⟩ g c ?_]
    · exact hg
    · intro e1
      have e2 : g = b := e1
      subst e2
      rw [hg] at hb
      injection hb with hb
      injection hb with _ hb _
      exact hne hb
theorem owns_same {B b i n : Nat} {e : TypeId} {w : World} {v c : Value} {xs : List Value} (h : w.ownsRow B e 1 v n xs) : ∃ xs', (w.setCell ⟨b, i, none⟩ c).ownsRow B e 1 v n xs' ∧ ∀ (j : Nat) u, xs[j]? = some u → xs'[j]? = some u ∨ (v.ownBlock = some b ∧ j = i ∧ xs'[j]? = some c) := by
  rcases h.2 with ⟨rfl, h0⟩ | ⟨g, cap, cu, rfl, hB, hg, h3⟩
  · exact ⟨xs, ⟨h.1, .inl ⟨rfl, h0⟩⟩, fun j u hu => .inl hu⟩
  · by_cases e : g = b
    · subst e
      refine ⟨xs.set i c, (World.ownsRow.stored h i c).1, fun j u hu => ?_⟩
      by_cases hj : j = i
      · subst hj
        right
        refine ⟨rfl, rfl, ?_⟩
        have := (List.getElem?_eq_some_iff.1 hu).1
        rw [List.getElem?_set_self this]
      · left
        rw [List.getElem?_set_ne (fun h => hj h.symm)]
        exact hu
    · refine ⟨xs, ⟨h.1, .inr ⟨g, cap, cu, rfl, hB, ?_, h3⟩⟩, fun j u hu => .inl hu⟩
      rw [heap_setCell_other w ⟨b, i, none⟩ g c e]
      exact hg
/-- a list of values that are all numbers -/
theorem all_vals : ∀ (xs : List Value), (∀ u ∈ xs, ∃ x : Int, u = .int .i64 x) → ∃ l : List Int, xs = vals l := by
  intro xs
  induction xs with
  | nil => exact fun _ => ⟨[], rfl⟩
  | cons a t ih =>
    intro h
    obtain ⟨x, hx⟩ := h a (List.mem_cons_self ..)
    obtain ⟨l, hl⟩ := ih fun u hu => h u (List.mem_cons_of_mem _ hu)
    exact ⟨x :: l, by rw [hx, hl]; rfl⟩
theorem R1.of_all {B n : Nat} {w : World} {v : Value} {xs : List Value} (h : w.ownsRow B 2 1 v n xs) (ha : ∀ (j : Nat) u, xs[j]? = some u → ∃ x : Int, u = .int .i64 x) : R1 B w n v := by
  obtain ⟨l, rfl⟩ := all_vals xs fun u hu => by
    obtain ⟨j, hj⟩ := List.getElem?_of_mem hu
    exact ha j u hj
  exact ⟨l, by have := h.1; simpa using this, h⟩
/-- a number is stored into a row -/
theorem Ty.set1 {B b i : Nat} {w : World} {cur : Array Value} (hb : w.heap[b]? = some (.cells cur 2 (0, 0))) (x : Int) : Ty B w (w.setCell ⟨b, i, none⟩ (.int .i64 x)) := by
  have h1 : ∀ n v, R1 B w n v → R1 B (w.setCell ⟨b, i, none⟩ (.int .i64 x)) n v := by
    intro n v ⟨l, a, h⟩
    obtain ⟨xs', e1, e2⟩ := owns_same (b := b) (i := i) (c := .int .i64 x) h
    refine R1.of_all e1 fun j u hu => ?_
    have hj : j < (vals l).length := by
      have h3 := (List.getElem?_eq_some_iff.1 hu).1
      have h4 := h.1
      have h5 := e1.1
      omega
    rcases e2 j _ (List.getElem?_eq_getElem hj) with h6 | h6
    · rw [hu] at h6
      injection h6 with h6
      exact ⟨l[j]'(by simpa using hj), by rw [h6]; simp⟩
    · rw [hu] at h6
      exact ⟨x, by have := h6.2.2; injection this⟩
  refine Ty.mk1 h1 (fun L v us a c => ⟨us, owns_other a hb (by decide), fun k n hk => ?_⟩) (fun M v us a c h2 => ⟨us, owns_other a hb (by decide), fun k L hk => ?_⟩)
  · obtain ⟨u, e1, e2⟩ := c k n hk
    exact ⟨u, e1, h1 _ _ e2⟩
  · obtain ⟨u, e1, e2⟩ := c k L hk
    exact ⟨u, e1, h2 _ _ e2⟩
theorem R1.len {B n : Nat} {w : World} {v : Value} (h : R1 B w n v) : ∃ a c, v = .slice a n c ∧ n ≤ c ∧ c ≤ maxLen := by
  obtain ⟨l, _, h2⟩ := h
  rcases h2.2 with ⟨rfl, h0⟩ | ⟨g, cap, cu, rfl, _, _, h3, h4, _⟩
  · exact ⟨none, 0, by rw [h0], by omega, by simp [maxLen]⟩
  · exact ⟨_, cap, rfl, h3, h4⟩
theorem R1.same {B B' n m : Nat} {w w' : World} {v : Value} (h : R1 B w n v) (g : R1 B' w' m v) : n = m := by
  obtain ⟨a, c, e, _⟩ := h.len
  obtain ⟨a', c', e', _⟩ := g.len
  rw [e] at e'
  injection e'
/-- a row of the same length is stored into a row of rows -/
theorem Ty.set2 {B b i n : Nat} {w : World} {cur : Array Value} {u0 u : Value} (hb : w.heap[b]? = some (.cells cur 87 (0, 0))) (h0 : cur[i]? = some u0) (hu0 : R1 B w n u0) (hu : R1 B w n u) : Ty B w (w.setCell ⟨b, i, none⟩ u) := by
  have h1 : ∀ n v, R1 B w n v → R1 B (w.setCell ⟨b, i, none⟩ u) n v := fun n v ⟨l, a, h⟩ => ⟨l, a, owns_other h hb (by decide)⟩
  refine Ty.mk1 h1 (fun L v us a c => ?_) (fun M v us a c h2 => ⟨us, owns_other a hb (by decide), fun k L hk => ?_⟩)
  · obtain ⟨us', e1, e2⟩ := owns_same (b := b) (i := i) (c := u) a
    refine ⟨us', e1, fun k m hk => ?_⟩
    obtain ⟨x, f1, f2⟩ := c k m hk
    rcases e2 k x f1 with h6 | ⟨h6, rfl, h7⟩
    · exact ⟨x, h6, h1 _ _ f2⟩
    · refine ⟨u, h7, h1 _ _ ?_⟩
      have hx : x = u0 := by
        rcases a.2 with ⟨rfl, h8⟩ | ⟨g, cap, cu, rfl, hB, hg, _, _, _, ht⟩
        · cases h6
        · have e : g = b := by simpa [Value.ownBlock] using h6
          subst e
          rw [hg] at hb
          injection hb with hb
          injection hb with hb _ _
          rw [← ht, List.getElem?_take] at f1
          split at f1
          · rw [← hb] at h0
            rw [Array.getElem?_toList, h0] at f1
            injection f1 with f1
            exact f1.symm
          · cases f1
      rw [hx] at f2
      rw [f2.same hu0]
      exact hu
  · obtain ⟨x, e1, e2⟩ := c k L hk
    exact ⟨x, e1, h2 _ _ e2⟩
theorem R1.sl {B n : Nat} {w : World} {v : Value} (h : R1 B w n v) : ∃ l : List Int, l.length = n ∧ SlI (fun k => B ≤ k) w v l := by
  obtain ⟨l, h1, h2⟩ := h
  subst h1
  exact ⟨l, rfl, Own.sl h2⟩
theorem R1.of_own {B : Nat} {w : World} {v : Value} {x : List Int} (h : Own B w v x) : R1 B w x.length v := ⟨x, rfl, h⟩
theorem R1.mono {B B' n : Nat} {w : World} {v : Value} (h : R1 B w n v) (hB : B' ≤ B) : R1 B' w n v := by
  obtain ⟨l, h1, h2⟩ := h
  exact ⟨l, h1, ownsRow_mono h2 hB⟩
theorem R2.mono {B B' : Nat} {L : List Nat} {w : World} {v : Value} (h : R2 B w L v) (hB : B' ≤ B) : R2 B' w L v := by
  obtain ⟨us, h1, h2⟩ := h
  refine ⟨us, ownsRow_mono h1 hB, fun i n hi => ?_⟩
  obtain ⟨u, e1, e2⟩ := h2 i n hi
  exact ⟨u, e1, e2.mono hB⟩
theorem R3.mono {B B' : Nat} {M : List (List Nat)} {w : World} {v : Value} (h : R3 B w M v) (hB : B' ≤ B) : R3 B' w M v := by
  obtain ⟨us, h1, h2⟩ := h
  refine ⟨us, ownsRow_mono h1 hB, fun i n hi => ?_⟩
  obtain ⟨u, e1, e2⟩ := h2 i n hi
  exact ⟨u, e1, e2.mono hB⟩
theorem R1.grown {B n : Nat} {w w' : World} {v : Value} {r : Option Nat} (h : R1 B w n v) (hg : w.grownBy w' r) (hr : v.ownBlock = none ∨ v.ownBlock ≠ r) : R1 B w' n v := by
  obtain ⟨l, h1, h2⟩ := h
  exact ⟨l, h1, World.ownsRow.kept h2 hg hr⟩
theorem R1.other {B n b i : Nat} {w : World} {v c : Value} {t : TypeId} {cur : Array Value} (h : R1 B w n v) (hb : w.heap[b]? = some (.cells cur t (0, 0))) (ht : t ≠ 2) : R1 B (w.setCell ⟨b, i, none⟩ c) n v := by
  obtain ⟨l, h1, h2⟩ := h
  exact ⟨l, h1, owns_other h2 hb (fun e => ht e.symm)⟩
theorem R1.apart {B B' n m : Nat} {e : TypeId} {w : World} {v u : Value} {xs : List Value} (h : R1 B w n v) (hu : w.ownsRow B' e 1 u m xs) (he : 2 ≠ e) : v.ownBlock = none ∨ v.ownBlock ≠ u.ownBlock := by
  obtain ⟨l, h1, h2⟩ := h
  exact rows_apart h2 hu he
theorem R2.grown {B B' m : Nat} {e : TypeId} {L : List Nat} {w w' : World} {v u : Value} {xs : List Value} (h : R2 B w L v) (hu : w.ownsRow B' e 1 u m xs) (he : 2 ≠ e) (hg : w.grownBy w' u.ownBlock) (hr : v.ownBlock = none ∨ v.ownBlock ≠ u.ownBlock) : R2 B w' L v := by
  obtain ⟨us, h1, h2⟩ := h
  refine ⟨us, World.ownsRow.kept h1 hg hr, fun i n hi => ?_⟩
  obtain ⟨x, e1, e2⟩ := h2 i n hi
  exact ⟨x, e1, e2.grown hg (e2.apart hu he)⟩
theorem R2.other {B b i : Nat} {L : List Nat} {w : World} {v c : Value} {t : TypeId} {cur : Array Value} (h : R2 B w L v) (hb : w.heap[b]? = some (.cells cur t (0, 0))) (ht : t ≠ 2) (ht2 : t ≠ 87) : R2 B (w.setCell ⟨b, i, none⟩ c) L v := by
  obtain ⟨us, h1, h2⟩ := h
  refine ⟨us, owns_other h1 hb (fun e => ht2 e.symm), fun i n hi => ?_⟩
  obtain ⟨x, e1, e2⟩ := h2 i n hi
  exact ⟨x, e1, e2.other hb ht⟩
theorem R2.of_own2 {B n : Nat} {w : World} {v : Value} {rows : List (List Nat)} (h : Own2 87 2 B w v rows) (hr : ∀ r ∈ rows, r.length = n) : R2 B w (List.replicate rows.length n) v := by
  obtain ⟨us, h1, h2, h3⟩ := h
  refine ⟨us, by rw [List.length_replicate]; exact h1, fun i m hi => ?_⟩
  rw [List.getElem?_replicate] at hi
  split at hi
  · injection hi with hi
    subst hi
    rename_i hlt
    have hu : us[i]? = some (us[i]'(by omega)) := List.getElem?_eq_getElem _
    refine ⟨_, hu, ?_⟩
    have h4 := (h3 i _ _ (List.getElem?_eq_getElem hlt) hu).2
    exact ⟨ints rows[i], by rw [ints_length]; exact hr _ (List.getElem_mem _), by rw [hr _ (List.getElem_mem _)] at h4; exact h4⟩
  · cases hi

end Go.Proofs.YtbamkklhkhglnaaGreatDoor.DwT

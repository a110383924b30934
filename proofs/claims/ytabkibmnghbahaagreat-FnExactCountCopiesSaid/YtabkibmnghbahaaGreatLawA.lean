import Derived.Test.YtabkibmnghbahaaGreatSpecE
import Derived.Test.YtabkibmnghbahaaGreatOwn2
import Derived.ChangeSlices
import Derived.Deep.Slices
import Derived.Lib.SmallJoins
/-
  Plain: blocks that are filled from the front; what came in reads as slices of numbers.
-/
namespace Go.Proofs.YtabkibmnghbahaaGreat
open Go.RowKit
set_option linter.unusedVariables false
set_option linter.unusedSimpArgs false

/-- a block of n one-cell elements of which the first ones read as a list -/
def TabG {α : Type} (e : TypeId) (R : World → Value → α → Prop) (w : World) (g n : Nat) (tl : List α) : Prop :=
  ∃ us : List Value, w.ownsRow 0 e 1 (.slice (some ⟨g, 0, none⟩) n n) n us ∧ us.length = n ∧ ∀ (i : Nat) (x : α), tl[i]? = some x → ∃ u, us[i]? = some u ∧ R w u x
theorem TabG.lt {α : Type} {e : TypeId} {R : World → Value → α → Prop} {w : World} {g n : Nat} {tl : List α} (h : TabG e R w g n tl) : g < w.heap.size := by
  obtain ⟨us, h1, _⟩ := h
  exact (World.ownsRow.lt h1 g rfl).2
theorem TabG.cap {α : Type} {e : TypeId} {R : World → Value → α → Prop} {w : World} {g n : Nat} {tl : List α} (h : TabG e R w g n tl) : n ≤ maxLen := by
  obtain ⟨us, h1, _⟩ := h
  rcases h1.2 with ⟨h, _⟩ | ⟨g', cap, cur, h, hb, hgg, _, hm, _⟩
  · cases h
  · cases h; exact hm
theorem TabG.cellF {α : Type} {e : TypeId} {R : World → Value → α → Prop} {w : World} {g n : Nat} {tl : List α} (h : TabG e R w g n tl) {k : Nat} (hk : k < n) : (∃ u, w.cell? ⟨g, k, none⟩ = some u) ∧ w.frozen? ⟨g, k, none⟩ = false := by
  obtain ⟨us, h1, h2, h3⟩ := h
  obtain ⟨u, hu⟩ : ∃ u, us[k]? = some u := ⟨_, List.getElem?_eq_getElem (by omega)⟩
  exact ⟨⟨u, by rw [World.ownsRow.cellAt h1 k (by omega)]; exact hu⟩, World.ownsRow.frozenAt h1 k⟩
theorem TabG.made {α : Type} {e : TypeId} {R : World → Value → α → Prop} (w : World) (z : Value) (n : Nat) (hn : n ≤ maxLen) : TabG e R (w.alloc (.cells (madeCells #[z] n) e)) w.heap.size n [] := by
  refine ⟨List.replicate n z, ?_, by simp, fun i x hx => by simp at hx⟩
  have := World.ownsRow_lit (base := 0) (e := e) (size := 1) w (madeCells #[z] n) n (Nat.zero_le _) hn (by simp [madeCells])
  rw [toList_madeCells_one] at this
  exact this
theorem TabG.keep {α : Type} {e : TypeId} {R : World → Value → α → Prop} {S : Nat → Prop} {w w' : World} {g n : Nat} {tl : List α} (h : TabG e R w g n tl) (hk : Keep S w w') (hg : S g) (hR : ∀ v r, R w v r → R w' v r) : TabG e R w' g n tl := by
  obtain ⟨us, h1, h2, h3⟩ := h
  refine ⟨us, ⟨h1.1, ?_⟩, h2, fun i r hr => ?_⟩
  · rcases h1.2 with ⟨h, _⟩ | ⟨g', cap, cur, h, hb, hgg, hrest⟩
    · cases h
    · cases h
      refine .inr ⟨g, _, cur, rfl, hb, ?_, hrest⟩
      rw [hk.block g hg (Array.getElem?_eq_some_iff.1 hgg).1]; exact hgg
  · obtain ⟨u, hu, hr'⟩ := h3 i r hr
    exact ⟨u, hu, hR _ _ hr'⟩
theorem TabG.push {α : Type} {e : TypeId} {R : World → Value → α → Prop} {w : World} {g n : Nat} {tl : List α} (h : TabG e R w g n tl) {k : Nat} (hk : tl.length = k) (hn : k < n) {u : Value} {x : α}
    (hR : ∀ v r, R w v r → R (w.setCell ⟨g, k, none⟩ u) v r) (hu : R w u x) : TabG e R (w.setCell ⟨g, k, none⟩ u) g n (tl ++ [x]) := by
  obtain ⟨us, h1, h2, h3⟩ := h
  refine ⟨us.set k u, (World.ownsRow.stored h1 k u).1, by simp [h2], fun i y hy => ?_⟩
  rcases Nat.lt_or_ge i tl.length with hi | hi
  · rw [List.getElem?_append_left hi] at hy
    obtain ⟨v, hv, hr⟩ := h3 i y hy
    exact ⟨v, by rw [List.getElem?_set_ne (by omega)]; exact hv, hR _ _ hr⟩
  · rw [List.getElem?_append_right hi] at hy
    obtain rfl : i = k := by
      rcases hj : i - tl.length with _ | j
      · omega
      · rw [hj] at hy; simp at hy
    rw [show i - tl.length = 0 by omega] at hy
    simp at hy
    subst hy
    exact ⟨u, List.getElem?_set_self (by omega), hR _ _ hu⟩
theorem TabG.sl {α : Type} {e : TypeId} {R : World → Value → α → Prop} {S : Nat → Prop} {w : World} {g : Nat} {tl : List α} (h : TabG e R w g tl.length tl) (hg : S g) : SlG R S w (.slice (some ⟨g, 0, none⟩) tl.length tl.length) tl := by
  have hlt := h.lt
  have hm := h.cap
  obtain ⟨us, h1, h2, h3⟩ := h
  refine ⟨some ⟨g, 0, none⟩, tl.length, rfl, Nat.le_refl _, hm, by simp, fun i x hx => ?_⟩
  obtain ⟨u, hu, hr⟩ := h3 i x hx
  refine ⟨g, 0, rfl, hg, hlt, u, ?_, hr⟩
  rw [Nat.zero_add, World.ownsRow.cellAt h1 i (by have := (List.getElem?_eq_some_iff.1 hx).1; omega)]
  exact hu
theorem take_succ {α : Type} {l : List α} {k : Nat} {x : α} (h : l[k]? = some x) : l.take (k + 1) = l.take k ++ [x] := by rw [List.take_add_one, h]; rfl
theorem take_len {α : Type} {l : List α} {k : Nat} (h : k ≤ l.length) : (l.take k).length = k := by rw [List.length_take]; omega

theorem SlG.form {α : Type} {E : World → Value → α → Prop} {S : Nat → Prop} {w : World} {v : Value} {l : List α} (h : SlG E S w v l) : ∃ a c, v = .slice a l.length c ∧ l.length ≤ c ∧ c ≤ maxLen := by
  obtain ⟨a, c, h1, h2, h3, _⟩ := h
  exact ⟨a, c, h1, h2, h3⟩
theorem SlG.get {α : Type} {E : World → Value → α → Prop} {S : Nat → Prop} {w : World} {a : Option Addr} {n c : Nat} {l : List α} (h : SlG E S w (.slice a n c) l) {k : Nat} {x : α} (hx : l[k]? = some x) :
    ∃ b o u, a = some ⟨b, o, none⟩ ∧ S b ∧ b < w.heap.size ∧ w.cell? ⟨b, o + k, none⟩ = some u ∧ E w u x := by
  obtain ⟨ao, c', e, _, _, _, h4⟩ := h
  obtain ⟨rfl, _, _⟩ : a = ao ∧ n = l.length ∧ c = c' := by simpa using e
  obtain ⟨b, o, e1, e2, e3, u, e4, e5⟩ := h4 k x hx
  exact ⟨b, o, u, e1, e2, e3, e4, e5⟩

/-! what came in -/
theorem spot_of_cell {w : World} {a : Addr} {v : Value} (h : w.cell? a = some v) : a = ⟨a.block, a.off, none⟩ ∧ a.block < w.heap.size := by
  refine ⟨?_, World.block_lt_of_cell? w a h⟩
  unfold World.cell? at h
  split at h
  · next c _ _ hb =>
    split at h
    · cases h
    · next hs =>
      cases a with
      | mk b o s =>
        cases s with
        | none => rfl
        | some s => simp at hs
  · cases h
section
variable {H : Type} {enc : TypeId × Value → H} {w : World} {base : Nat} {spare : Nat → Bool} {held : Bool}
theorem sl_of_trod {α : Type} {E : World → Value → α → Prop} {S : Nat → Prop} {t e : TypeId} {fuel : Nat} {v : Value} {x : DataW H × List MemPlace} (ht : Tryz.prog.underlying t = some (.slice e)) (hc : Tryz.prog.cellsOf e = 1) (hS : ∀ b, base ≤ b → S b)
    (hE : ∀ (n : Nat) (u : Value) (y : DataW H × List MemPlace), DataW.trod enc Tryz.prog w base spare held n e [u] = some y → ∃ z : α, E w u z) (h : DataW.trod enc Tryz.prog w base spare held fuel t [v] = some x) : ∃ l : List α, SlG E S w v l := by
  rcases Go.Deep.open_slice1 ht hc h with ⟨hcs, _⟩ | ⟨a, len, cap, m, n, V, D, Pl, hcs, hb, hl, hm, hmm, rfl, hx⟩
  · simp only [List.cons.injEq, and_true] at hcs
    subst hcs
    exact ⟨[], none, 0, rfl, Nat.le_refl _, Nat.zero_le _, fun _ => rfl, fun i x hx => by simp at hx⟩
  · simp only [List.cons.injEq, and_true] at hcs
    subst hcs
    have hlm : len ≤ m := by rw [hmm]; split <;> omega
    have hz : ∀ i : Fin len, ∃ z, E w (V i.1) z := fun i => hE _ _ _ (hx i.1 (by have := i.2; omega)).2
    refine ⟨(List.finRange len).map fun i => Classical.choose (hz i), some a, cap, by simp, by simpa using hl, hm, by simp, fun i y hy => ?_⟩
    simp only [List.getElem?_map, Option.map_eq_some_iff] at hy
    obtain ⟨j, hj, rfl⟩ := hy
    have hjl := (List.getElem?_eq_some_iff.1 hj).1
    simp only [List.length_finRange] at hjl
    have hji : j.1 = i := by
      have := (List.getElem?_eq_some_iff.1 hj).2
      rw [← this]; simp
    have h0 := (hx 0 (by omega)).1
    rw [Addr.add_zero'] at h0
    have hs := spot_of_cell h0
    obtain ⟨ab, ao, asp⟩ := a
    simp only [Addr.mk.injEq, true_and] at hs
    obtain ⟨rfl, hlt⟩ := hs
    have hcell := (hx i (by omega)).1
    rw [addr_add] at hcell
    refine ⟨ab, ao, rfl, hS _ hb, hlt, V i, hcell, ?_⟩
    rw [← hji]
    exact Classical.choose_spec (hz j)
end
end Go.Proofs.YtabkibmnghbahaaGreat

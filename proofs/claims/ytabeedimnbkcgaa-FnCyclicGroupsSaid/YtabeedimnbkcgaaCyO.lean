import Derived.Test.YtabeedimnbkcgaaCyC
import Derived.ChangeSlices
import Derived.Deep.Slices
import Derived.Lib.SmallJoins
/-
  What came in reads as bytes.
-/
namespace Go.Proofs.Ytabeedimnbkcgaa.CyO
open Go.RowKit Go.Proofs.Ytabeedimnbkcgaa Go.ChangeShapes
set_option linter.unusedVariables false
set_option linter.unusedSimpArgs false

/-! what came in -/
theorem spot_of_cell {w : World} {a : Addr} {v : Value} (h : w.cell? a = some v) : a = ⟨a.block, a.off, none⟩ ∧ a.block < w.heap.size := by
  refine ⟨?_, World.block_lt_of_cell? w a h⟩
  unfold World.cell? at h
  split at h
  · next c _ _ hb =>
    split at h
    · cases h
    · next hs =>
      cases a with
      | mk b o s =>
        cases s with
        | none => rfl
        | some s => simp at hs
  · cases h
section
variable {H : Type} {enc : TypeId × Value → H} {w : World} {base : Nat} {spare : Nat → Bool} {held : Bool}
theorem sl_of_trod {α : Type} {E : World → Value → α → Prop} {S : Nat → Prop} {t e : TypeId} {fuel : Nat} {v : Value} {x : DataW H × List MemPlace} (ht : Try.prog.underlying t = some (.slice e)) (hc : Try.prog.cellsOf e = 1) (hS : ∀ b, base ≤ b → S b)
    (hE : ∀ (n : Nat) (u : Value) (y : DataW H × List MemPlace), DataW.trod enc Try.prog w base spare held n e [u] = some y → ∃ z : α, E w u z) (h : DataW.trod enc Try.prog w base spare held fuel t [v] = some x) : ∃ l : List α, SlG E S w v l := by
  rcases Go.Deep.open_slice1 ht hc h with ⟨hcs, _⟩ | ⟨a, len, cap, m, n, V, D, Pl, hcs, hb, hl, hm, hmm, rfl, hx⟩
  · simp only [List.cons.injEq, and_true] at hcs
    subst hcs
    exact ⟨[], none, 0, rfl, Nat.le_refl _, Nat.zero_le _, fun _ => rfl, fun i x hx => by simp at hx⟩
  · simp only [List.cons.injEq, and_true] at hcs
    subst hcs
    have hlm : len ≤ m := by rw [hmm]; split <;> omega
    have hz : ∀ i : Fin len, ∃ z, E w (V i.1) z := fun i => hE _ _ _ (hx i.1 (by have := i.2; omega)).2
    refine ⟨(List.finRange len).map fun i => Classical.choose (hz i), some a, cap, by simp, by simpa using hl, hm, by simp, fun i y hy => ?_⟩
    simp only [List.getElem?_map, Option.map_eq_some_iff] at hy
    obtain ⟨j, hj, rfl⟩ := hy
    have hjl := (List.getElem?_eq_some_iff.1 hj).1
    simp only [List.length_finRange] at hjl
    have hji : j.1 = i := by
      have := (List.getElem?_eq_some_iff.1 hj).2
      rw [← this]; simp
    have h0 := (hx 0 (by omega)).1
    rw [Addr.add_zero'] at h0
    have hs := spot_of_cell h0
    obtain ⟨ab, ao, asp⟩ := a
    simp only [Addr.mk.injEq, true_and] at hs
    obtain ⟨rfl, hlt⟩ := hs
    have hcell := (hx i (by omega)).1
    rw [addr_add] at hcell
    refine ⟨ab, ao, rfl, hS _ hb, hlt, V i, hcell, ?_⟩
    rw [← hji]
    exact Classical.choose_spec (hz j)
end
section
variable {H : Type} {enc : TypeId × Value → H} {w : World} {base : Nat} {spare : Nat → Bool} {held : Bool}
theorem byte_cell (n : Nat) (u : Value) (y : DataW H × List MemPlace) (h : DataW.trod enc Try.prog w base spare held n 5 [u] = some y) : ∃ z : Nat, u = .int .u8 (z : Int) ∧ z < 256 := by
  obtain ⟨z, h1, _, h2⟩ := DataW.trod_int Try.underlying5 h
  simp only [List.cons.injEq, and_true] at h1
  simp only [Lit.wf, Bool.and_eq_true, decide_eq_true_eq] at h2
  have h3 : IntKind.u8.min = 0 := rfl
  have h4 : IntKind.u8.max = 255 := rfl
  rw [h3, h4] at h2
  refine ⟨z.toNat, ?_, by omega⟩
  rw [h1, Int.toNat_of_nonneg h2.1]
theorem open_bytes {a : Option Addr} {len cap : Nat} {d : DataW H} {p : List MemPlace} (h : DataW.Trod enc Try.prog w base spare held 22 (.slice a len cap) d p) : CyC.Rd0 w a len := by
  obtain ⟨fuel, hf⟩ := h
  obtain ⟨l, hl⟩ := sl_of_trod (E := fun _ u (z : Nat) => u = .int .u8 (z : Int) ∧ z < 256) (S := fun _ => True) (v := .slice a len cap) Try.underlying22 (by kernel_rfl) (fun _ _ => trivial) (fun n u y hy => byte_cell n u y hy) hf
  intro i hi
  obtain ⟨ao, c', e, _, _, _, h4⟩ := hl
  obtain ⟨rfl, rfl, _⟩ : a = ao ∧ len = l.length ∧ cap = c' := by simpa using e
  obtain ⟨x, hx⟩ : ∃ x, l[i]? = some x := ⟨_, List.getElem?_eq_getElem hi⟩
  obtain ⟨b, o, e1, _, e3, u, e4, rfl, e5⟩ := h4 i x hx
  exact ⟨b, o, x, e1, e3, e4, e5⟩
end
end Go.Proofs.Ytabeedimnbkcgaa.CyO

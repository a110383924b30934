import Derived.Test.YtbamkklhkhglnaaGreatDoorTxC
import Derived.Test.YtbamkklhkhglnaaGreatDoorOwn2
/-
  A presentation that a call made, in memory, with its values; a row of it is replaced.
-/
namespace Go.Proofs.YtbamkklhkhglnaaGreatDoor.TmA
open Go.RowKit Go.Proofs.YtbamkklhkhglnaaGreatDoor Go.Proofs.YtbamkklhkhglnaaGreatDoor.Tow Go.Proofs.YtbamkklhkhglnaaGreatDoor.TxB Go.Proofs.YtbamkklhkhglnaaGreatDoor.TxC
set_option linter.unusedVariables false
set_option linter.unusedSimpArgs false

abbrev Any : Nat → Prop := fun _ => True
abbrev O2 (B : Nat) (w : World) (v : Value) (rows : List (List Nat)) : Prop := Own2 87 2 B w v rows
abbrev RO (B : Nat) (w : World) (u : Value) (r : List Nat) : Prop := RowOk 2 B w u r
def Apart (u v : Value) : Prop := ∀ k, u.ownBlock = some k → v.ownBlock ≠ some k
theorem Apart.nil (v : Value) : Apart (.slice none 0 0) v := fun k h => by simp [Value.ownBlock] at h
theorem owns_ne {w : World} {B g : Nat} {e t : TypeId} {s n : Nat} {v : Value} {xs : List Value} {cs : Array Value} (h : w.ownsRow B e s v n xs) (hb : w.heap[g]? = some (.cells cs t (0, 0))) (hne : e ≠ t) : v.ownBlock ≠ some g := fun he => by
  rcases h.2 with ⟨rfl, _⟩ | ⟨g', cap, cur, rfl, _, hg, _⟩
  · cases he
  · have h2 : g' = g := by simpa [Value.ownBlock] using he
    subst h2
    rw [hg] at hb
    injection hb with hb
    injection hb with _ hb _
    exact hne hb
theorem owns_far {w : World} {B b i n : Nat} {e : TypeId} {v c : Value} {xs : List Value} (h : w.ownsRow B e 1 v n xs) (hne : v.ownBlock ≠ some b) : (w.setCell ⟨b, i, none⟩ c).ownsRow B e 1 v n xs := by
  refine ⟨h.1, ?_⟩
  rcases h.2 with h' | ⟨g, cap, cu, rfl, hB, hg, h3⟩
  · exact .inl h'
  · refine .inr ⟨g, cap, cu, rfl, hB, ?_, h3⟩
    rw [heap_setCell_other w ⟨b, i, none⟩ g c ?_]
    · exact hg
    · intro e1
      have e2 : g = b := e1
      exact hne (by simp [Value.ownBlock, e2])
theorem owns_form {B n s : Nat} {e : TypeId} {w : World} {v : Value} {xs : List Value} (h : w.ownsRow B e s v n xs) : ∃ a c, v = .slice a n c ∧ n ≤ c ∧ c ≤ maxLen ∧ (a = none → c = 0) := by
  rcases h.2 with ⟨rfl, h0⟩ | ⟨g, cap, cu, rfl, _, _, h3, h4, _⟩
  · exact ⟨none, 0, by rw [h0], by omega, by unfold maxLen; omega, fun _ => rfl⟩
  · exact ⟨_, cap, rfl, h3, h4, fun h => by simp at h⟩
theorem RO.far {B b i : Nat} {w : World} {u c : Value} {r : List Nat} {t : TypeId} {cur : Array Value} (h : RO B w u r) (hb : w.heap[b]? = some (.cells cur t (0, 0))) (hne : 2 ≠ t) : RO B (w.setCell ⟨b, i, none⟩ c) u r := ⟨h.1, owns_far h.2 (owns_ne h.2 hb hne)⟩
theorem O2.far {B b i : Nat} {w : World} {v c : Value} {rows : List (List Nat)} {t : TypeId} {cur : Array Value} (h : O2 B w v rows) (hb : w.heap[b]? = some (.cells cur t (0, 0))) (hne : 2 ≠ t) (hv : v.ownBlock ≠ some b) : O2 B (w.setCell ⟨b, i, none⟩ c) v rows := by
  obtain ⟨us, h1, h2, h3⟩ := h
  exact ⟨us, owns_far h1 hv, h2, fun j r u hr hu => RO.far (h3 j r u hr hu) hb hne⟩
theorem owns_heap {B n : Nat} {e : TypeId} {w : World} {g c : Nat} {xs : List Value} (h : w.ownsRow B e 1 (.slice (some ⟨g, 0, none⟩) n c) n xs) : B ≤ g ∧ g < w.heap.size ∧ ∃ cur, w.heap[g]? = some (.cells cur e (0, 0)) := by
  rcases h.2 with ⟨h', _⟩ | ⟨g', cap, cu, h', hB, hg, _⟩
  · simp at h'
  · obtain ⟨rfl, rfl⟩ : g = g' ∧ c = cap := by simpa using h'
    exact ⟨hB, (Array.getElem?_eq_some_iff.1 hg).1, cu, hg⟩
theorem O2.set {B g n c i : Nat} {w : World} {rows : List (List Nat)} {u : Value} {r : List Nat} (h : O2 B w (.slice (some ⟨g, 0, none⟩) n c) rows) (hu : RO B w u r) (hi : i < rows.length) : O2 B (w.setCell ⟨g, i, none⟩ u) (.slice (some ⟨g, 0, none⟩) n c) (rows.set i r) := by
  obtain ⟨us, h1, h2, h3⟩ := h
  obtain ⟨a, c', e, _⟩ := owns_form h1
  obtain ⟨_, rfl, rfl⟩ : some (⟨g, 0, none⟩ : Addr) = a ∧ n = rows.length ∧ c = c' := by simpa using e
  obtain ⟨_, _, cur, hg⟩ := owns_heap h1
  refine ⟨us.set i u, by rw [List.length_set]; exact (World.ownsRow.stored h1 i u).1, by simp [h2], fun j r' u' hr hu' => ?_⟩
  rw [List.getElem?_set] at hr hu'
  by_cases hj : i = j
  · subst hj
    rw [if_pos rfl, if_pos (by omega)] at hr hu'
    obtain rfl := Option.some.inj hr
    obtain rfl := Option.some.inj hu'
    exact RO.far hu hg (by decide)
  · rw [if_neg hj] at hr hu'
    exact RO.far (h3 j r' u' hr hu') hg (by decide)
structure PP (B : Nat) (w : World) (vO vP vC : Value) (p : RP) : Prop where
  o : Own B w vO p.os
  P : O2 B w vP p.ps
  C : ∃ us, w.ownsRow B 88 1 vC p.cs.length us ∧ us.length = p.cs.length ∧ (∀ (i : Nat) (L : List (List Nat)) (u : Value), p.cs[i]? = some L → us[i]? = some u → O2 B w u L ∧ Apart u vP) ∧ ∀ (i j : Nat) (u u' : Value), us[i]? = some u → us[j]? = some u' → i ≠ j → Apart u u'
theorem PP.keep {B : Nat} {w w' : World} {vO vP vC : Value} {p : RP} {S : Nat → Prop} (h : PP B w vO vP vC p) (hk : Keep S w w') (hS : ∀ k, B ≤ k → S k) : PP B w' vO vP vC p := by
  obtain ⟨us, c1, c2, c3, c4⟩ := h.C
  exact ⟨ownsRow_keep h.o hk hS, h.P.keep hk hS, us, ownsRow_keep c1 hk hS, c2, fun i L u hL hu => ⟨(c3 i L u hL hu).1.keep hk hS, (c3 i L u hL hu).2⟩, c4⟩
theorem PP.below {B : Nat} {w w' : World} {vO vP vC : Value} {p : RP} (h : PP B w vO vP vC p) (hb : Below w.heap.size w w') : PP B w' vO vP vC p := h.keep (S := Any) (Keep.of_below hb) fun _ _ => trivial
theorem PP.mono {B B' : Nat} {w : World} {vO vP vC : Value} {p : RP} (h : PP B w vO vP vC p) (hB : B' ≤ B) : PP B' w vO vP vC p := by
  obtain ⟨us, c1, c2, c3, c4⟩ := h.C
  exact ⟨ownsRow_mono h.o hB, h.P.mono hB, us, ownsRow_mono c1 hB, c2, fun i L u hL hu => ⟨(c3 i L u hL hu).1.mono hB, (c3 i L u hL hu).2⟩, c4⟩
theorem PP.form {B : Nat} {w : World} {vO vP vC : Value} {p : RP} (h : PP B w vO vP vC p) : ∃ a1 c1 a2 c2 a3 c3, vO = .slice a1 p.os.length c1 ∧ vP = .slice a2 p.ps.length c2 ∧ vC = .slice a3 p.cs.length c3 := by
  obtain ⟨us, c1, _⟩ := h.C
  obtain ⟨a1, d1, e1, _⟩ := owns_form h.o
  obtain ⟨a2, d2, e2, _⟩ := h.P.form
  obtain ⟨a3, d3, e3, _⟩ := owns_form c1
  exact ⟨_, _, _, _, _, _, e1, e2, e3⟩
theorem PP.val {B : Nat} {w : World} {vO vP vC : Value} {p : RP} (h : PP B w vO vP vC p) : ValP (fun k => B ≤ k) w vO vP vC p.val := by
  refine ⟨h.o.sl, h.P.sl, ?_⟩
  obtain ⟨us, c1, c2, c3, c4⟩ := h.C
  obtain ⟨a, c, rfl, d1, d2, d3⟩ := owns_form c1
  refine ⟨a, c, by simp [RP.val], by simpa [RP.val] using d1, d2, d3, fun i x hx => ?_⟩
  unfold RP.val at hx
  simp only [List.getElem?_map, Option.map_eq_some_iff] at hx
  obtain ⟨L, hL, rfl⟩ := hx
  have hi := (List.getElem?_eq_some_iff.1 hL).1
  obtain ⟨u, hu⟩ : ∃ u, us[i]? = some u := ⟨_, List.getElem?_eq_getElem (by omega)⟩
  rcases c1.2 with ⟨h', h0⟩ | ⟨g, cap, cu, h', hB, hg, _⟩
  · omega
  · obtain ⟨rfl, rfl⟩ : a = some ⟨g, 0, none⟩ ∧ c = cap := by simpa using h'
    refine ⟨g, 0, rfl, hB, (Array.getElem?_eq_some_iff.1 hg).1, u, ?_, (c3 i L u hL hu).1.sl⟩
    have := World.ownsRow.cells c1 (g := g) rfl i u hu
    rwa [addr_add] at this
/-- a row of the powers that can be replaced -/
theorem PP.slotP {B i : Nat} {w : World} {vO vP vC : Value} {p : RP} (h : PP B w vO vP vC p) (hi : i < p.ps.length) : ∃ gp cp u0, vP = .slice (some ⟨gp, 0, none⟩) p.ps.length cp ∧ B ≤ gp ∧ gp < w.heap.size ∧ w.cell? ⟨gp, i, none⟩ = some u0 ∧ w.frozen? ⟨gp, i, none⟩ = false ∧
    ∀ u r, RO B w u r → PP B (w.setCell ⟨gp, i, none⟩ u) vO vP vC ⟨p.os, p.ps.set i r, p.cs⟩ := by
  obtain ⟨gp, cp, u0, rfl, h1, h2, h3, _⟩ := h.P.at (List.getElem?_eq_getElem hi)
  obtain ⟨us, p1, p2, p3⟩ := id h.P
  obtain ⟨_, _, cur, hg⟩ := owns_heap p1
  refine ⟨gp, cp, u0, rfl, h1, h2, h3, frozen_of_row w gp i cur _ hg, fun u r hu => ?_⟩
  obtain ⟨vs, c1, c2, c3, c4⟩ := h.C
  exact ⟨owns_far h.o (owns_ne h.o hg (by decide)), O2.set h.P hu hi, vs, owns_far c1 (owns_ne c1 hg (by decide)), c2, fun j L x hL hx => ⟨O2.far (c3 j L x hL hx).1 hg (by decide) (fun e => (c3 j L x hL hx).2 gp e rfl), (c3 j L x hL hx).2⟩, c4⟩
/-- a row of a list of conjugates that can be replaced -/
theorem PP.slotC {B i k : Nat} {w : World} {vO vP vC : Value} {p : RP} {L : List (List Nat)} (h : PP B w vO vP vC p) (hL : p.cs[i]? = some L) (hk : k < L.length) : ∃ gc cc gu cu u0, vC = .slice (some ⟨gc, 0, none⟩) p.cs.length cc ∧ B ≤ gc ∧ gc < w.heap.size ∧ w.cell? ⟨gc, i, none⟩ = some (.slice (some ⟨gu, 0, none⟩) L.length cu) ∧
    B ≤ gu ∧ gu < w.heap.size ∧ w.cell? ⟨gu, k, none⟩ = some u0 ∧ w.frozen? ⟨gu, k, none⟩ = false ∧ ∀ u r, RO B w u r → PP B (w.setCell ⟨gu, k, none⟩ u) vO vP vC ⟨p.os, p.ps, p.cs.set i (L.set k r)⟩ := by
  obtain ⟨vs, c1, c2, c3, c4⟩ := h.C
  have hil := (List.getElem?_eq_some_iff.1 hL).1
  obtain ⟨x, hx⟩ : ∃ x, vs[i]? = some x := ⟨_, List.getElem?_eq_getElem (by omega)⟩
  obtain ⟨o2, ap⟩ := c3 i L x hL hx
  obtain ⟨gu, cu, u0, rfl, h1, h2, h3, _⟩ := o2.at (List.getElem?_eq_getElem hk)
  obtain ⟨us, q1, q2, q3⟩ := id o2
  obtain ⟨_, _, cur, hg⟩ := owns_heap q1
  rcases c1.2 with ⟨_, h0⟩ | ⟨gc, cc, cuc, rfl, hB, hgc, _⟩
  · omega
  have hcell := World.ownsRow.cells c1 (g := gc) rfl i _ hx
  rw [addr_add, Nat.zero_add] at hcell
  refine ⟨gc, cc, gu, cu, u0, rfl, hB, (Array.getElem?_eq_some_iff.1 hgc).1, hcell, h1, h2, h3, frozen_of_row w gu k cur _ hg, fun u r hu => ?_⟩
  refine ⟨owns_far h.o (owns_ne h.o hg (by decide)), O2.far h.P hg (by decide) (ap gu rfl), vs, ?_, by simpa using c2, fun j M y hM hy => ?_, c4⟩
  · rw [List.length_set]
    exact owns_far c1 (owns_ne c1 hg (by decide))
  · rw [List.getElem?_set] at hM
    by_cases hj : i = j
    · subst hj
      rw [if_pos rfl, if_pos hil] at hM
      obtain rfl := Option.some.inj hM
      obtain rfl : .slice (some ⟨gu, 0, none⟩) L.length cu = y := Option.some.inj (hx.symm.trans hy)
      exact ⟨O2.set o2 hu hk, ap⟩
    · rw [if_neg hj] at hM
      obtain ⟨m1, m2⟩ := c3 j M y hM hy
      exact ⟨O2.far m1 hg (by decide) (fun e => c4 j i y _ hy hx (fun h => hj h.symm) gu e rfl), m2⟩
end Go.Proofs.YtbamkklhkhglnaaGreatDoor.TmA

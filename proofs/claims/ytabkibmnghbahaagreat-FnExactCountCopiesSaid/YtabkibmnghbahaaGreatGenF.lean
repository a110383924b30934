import Derived.Test.YtabkibmnghbahaaGreatSpecQR
import Derived.Test.YtabkibmnghbahaaGreatGenD
/-
  Plain: what the closing and the elements of its sequence say of the span.
-/
namespace Go.Proofs.YtabkibmnghbahaaGreat.GenF
open Go.RowKit Go.Proofs.YtabkibmnghbahaaGreat Go.Proofs.YtabkibmnghbahaaGreat.Tow Go.Proofs.YtabkibmnghbahaaGreat.Gen Go.Proofs.YtabkibmnghbahaaGreat.GenC Go.Proofs.YtabkibmnghbahaaGreat.GenD Go.Proofs.YtabkibmnghbahaaGreat.GenE Go.Proofs.YtabkibmnghbahaaGreat.Tab Go.Proofs.YtabkibmnghbahaaGreat.NumT Go.Proofs.YtabkibmnghbahaaGreat.SpecO Go.Proofs.YtabkibmnghbahaaGreat.SpecQ Go.Proofs.YtabkibmnghbahaaGreat.SpecR
set_option linter.unusedVariables false
set_option linter.unusedSimpArgs false

abbrev usq (Q : Tw) (dn : List (List Nat)) : List (List Nat) := usF (tabF dn) Q.length 0
abbrev osq (Q : Tw) (dn : List (List Nat)) : List Nat := osF (tabF dn) (oF Q) Q.length 0
theorem ldok {Q : Tw} (hQ : Wf Q) (hs : Small Q) (hg : Tow.Good Q) {tl dn im : List (List Nat)} (h : FD Q tl dn 0) (hc : CLO Q im tl) :
    LdOk Q (usq Q dn) (osq Q dn) ∧ (∀ u ∈ usq Q dn, El Q u) ∧ (∀ o ∈ osq Q dn, 1 ≤ o) ∧ sz (shp (osq Q dn)) ≤ sz Q := by
  have hos := osF_sz hQ (tabF dn) Q.length 0 (by omega)
  have hget : ∀ (i : Nat) (u : List Nat), (usq Q dn)[i]? = some u → ∃ (j : Nat) (L : Lv), Q[j]? = some L ∧ (osq Q dn)[i]? = some L.o ∧ A (El Q) fF j u ∧ fF j u = 1 := fun i u hu => by
    obtain ⟨j, _, h2, h3, h4⟩ := usF_get (o := oF Q) Q.length 0 i u hu
    rw [Nat.zero_add] at h2
    obtain ⟨L, hL⟩ : ∃ L, Q[j]? = some L := ⟨_, List.getElem?_eq_getElem h2⟩
    obtain ⟨hA, h1⟩ := lead hQ hg h hc h3 h2
    exact ⟨j, L, hL, by rw [← oF_at hL]; exact h4, hA, h1⟩
  refine ⟨⟨(osF_length _ _).symm, Nat.le_trans (usF_len _ _) hs.1, fun i u hu => ?_⟩, fun u hu => ?_, fun o ho => by have := (hos.2 o ho).1; omega, by simpa using hos.1⟩
  · obtain ⟨j, L, h1, h2, hA, h3⟩ := hget i u hu
    obtain ⟨h4, h5⟩ := lead_row hA h3
    exact ⟨j, L, h1, h2, h4, h5, by rw [El_length hA.1]; have := hs.1; omega⟩
  · obtain ⟨i, hi⟩ := List.getElem?_of_mem hu
    obtain ⟨j, L, _, _, hA, _⟩ := hget i u hi
    exact hA.1
theorem span_iff {Q : Tw} (hQ : Wf Q) (hs : Small Q) (hg : Tow.Good Q) {tl dn im : List (List Nat)} (h : FD Q tl dn 0) (hc : CLO Q im tl) {t : Nat} (ht : t < sz Q) :
    mks (nk Q (usq Q dn) (osq Q dn)) (sz (shp (osq Q dn))) t = true ↔ Gen.Gen (mul Q) (one Q) im (at_ Q t) := by
  have G := grp hQ hg
  have hus := (ldok hQ hs hg h hc).2.1
  rw [mks_iff, gen_iff hQ hg h hc]
  constructor
  · rintro ⟨k, hk, e⟩
    refine ⟨k, hk, ?_⟩
    unfold nk at e
    rw [G.prodL_e hus] at e
    rw [← e, at_num hQ (G.ev hus _)]
  · rintro ⟨k, hk, e⟩
    refine ⟨k, hk, ?_⟩
    unfold nk
    rw [G.prodL_e hus, e, num_at, Nat.mod_eq_of_lt ht]
/-- the numbers of a list that is marked off another way -/
theorem remark (p : Nat → Bool) (n t : Nat) (ht : t < n) : mks (fun k => (nums p n).getD k 0) (nums p n).length t = p t := by
  cases h : p t with
  | true =>
    rw [mks_iff]
    have hm : t ∈ nums p n := by unfold nums; rw [List.mem_filter]; exact ⟨List.mem_range.2 ht, h⟩
    obtain ⟨j, hj, e⟩ := List.getElem_of_mem hm
    exact ⟨j, hj, by rw [List.getD_eq_getElem?_getD, List.getElem?_eq_getElem hj]; exact e⟩
  | false =>
    cases h2 : mks (fun k => (nums p n).getD k 0) (nums p n).length t with
    | false => rfl
    | true =>
      rw [mks_iff] at h2
      obtain ⟨j, hj, e⟩ := h2
      rw [List.getD_eq_getElem?_getD, List.getElem?_eq_getElem hj] at e
      have hm : t ∈ nums p n := by
        have := List.getElem_mem hj
        simp only [Option.getD_some] at e
        rwa [e] at this
      unfold nums at hm
      rw [List.mem_filter] at hm
      rw [h] at hm
      simp at hm
theorem nums_lt {p : Nat → Bool} {n k t : Nat} (h : (nums p n)[k]? = some t) : t < n := by
  have := List.mem_of_getElem? h
  unfold nums at this
  exact List.mem_range.1 (List.mem_filter.1 this).1

theorem Sl2.tail {S : Nat → Prop} {w : World} {g n c : Nat} {rows : List (List Nat)} (h : Sl2 S w (.slice (some ⟨g, 0, none⟩) n c) (rows.map ints)) (s : Nat) (hs : s ≤ n) : Sl2 S w (.slice (some ⟨g, s, none⟩) (n - s) (c - s)) ((rows.drop s).map ints) := by
  obtain ⟨ao, c', e, h2, h3, h0, h4⟩ := h
  simp only [Value.slice.injEq] at e
  obtain ⟨rfl, rfl, rfl⟩ := e
  rw [List.length_map] at *
  refine ⟨some ⟨g, s, none⟩, c - s, by simp, by simp; omega, by omega, by simp, fun i x hx => ?_⟩
  obtain ⟨b, o, e1, e2, e3, u, e4, e5⟩ := h4 (s + i) x (by rw [List.getElem?_map, List.getElem?_drop] at hx; rw [List.getElem?_map]; exact hx)
  simp only [Option.some.injEq, Addr.mk.injEq, and_true] at e1
  obtain ⟨rfl, rfl⟩ := e1
  exact ⟨g, s, rfl, e2, e3, u, by rw [Nat.zero_add] at e4; exact e4, e5⟩
end Go.Proofs.YtabkibmnghbahaaGreat.GenF

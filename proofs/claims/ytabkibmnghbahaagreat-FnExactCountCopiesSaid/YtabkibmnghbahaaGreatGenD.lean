import Derived.Test.YtabkibmnghbahaaGreatGens
import Derived.Test.YtabkibmnghbahaaGreatImplRS
/-
  Plain: the search on numbers is the search on vectors.
-/
namespace Go.Proofs.YtabkibmnghbahaaGreat.GenD
open Go.Proofs.YtabkibmnghbahaaGreat Go.Proofs.YtabkibmnghbahaaGreat.Tow Go.Proofs.YtabkibmnghbahaaGreat.Gen Go.Proofs.YtabkibmnghbahaaGreat.GenC Go.Proofs.YtabkibmnghbahaaGreat.NumT Go.Proofs.YtabkibmnghbahaaGreat.ImplP Go.Proofs.YtabkibmnghbahaaGreat.ImplQ Go.Proofs.YtabkibmnghbahaaGreat.ImplS Go.Proofs.YtabkibmnghbahaaGreat.Grow
set_option linter.unusedVariables false
set_option linter.unusedSimpArgs false

theorem at_pr {Q : Tw} (hQ : Wf Q) (i j : Nat) : at_ Q (pr Q i j) = mul Q (at_ Q i) (at_ Q j) := at_num hQ (El_mul hQ (at_El hQ i) (at_El hQ j))
theorem at_zero {Q : Tw} (hQ : Wf Q) : at_ Q 0 = one Q := by
  rw [← num_one (T := Q)]; exact at_num hQ (El_one hQ)
theorem at_itR {Q : Tw} (hQ : Wf Q) (c a u : Nat) : at_ Q (it (fun z => pr Q z c) a u) = it (fun z => mul Q z (at_ Q c)) a (at_ Q u) := by
  induction a generalizing u with
  | zero => rfl
  | succ a ih => rw [it, it, ih, at_pr hQ]
theorem at_itL {Q : Tw} (hQ : Wf Q) (c a u : Nat) : at_ Q (it (pr Q c) a u) = it (mul Q (at_ Q c)) a (at_ Q u) := by
  induction a generalizing u with
  | zero => rfl
  | succ a ih => rw [it, it, ih, at_pr hQ]
theorem at_prodL {Q : Tw} (hQ : Wf Q) (im es : List Nat) (u : Nat) : at_ Q (prodL (pr Q) u im es) = prodL (mul Q) (at_ Q u) (im.map (at_ Q)) es := by
  induction im generalizing u es with
  | nil => cases es <;> rfl
  | cons c im ih => cases es with
    | nil => rfl
    | cons a es => rw [List.map_cons, prodL, prodL, ih, at_itR hQ]
theorem itL_npow {Q : Tw} (hQ : Wf Q) (hg : Tow.Good Q) {x u : List Nat} (hx : El Q x) (hu : El Q u) (a : Nat) : it (mul Q x) a u = mul Q (npow (mul Q) (one Q) x a) u := by
  have G := grp hQ hg
  induction a generalizing u with
  | zero => exact (G.eL hu).symm
  | succ a ih => rw [it, ih (G.cl hx hu), npow_succ, G.as (G.npow hx a) hx hu]
theorem num_inj' {Q : Tw} {i j : Nat} (hi : i < sz Q) (hj : j < sz Q) : i = j ↔ at_ Q i = at_ Q j := ⟨fun h => by rw [h], fun h => at_inj hi hj h⟩
theorem it_lt {Q : Tw} (hQ : Wf Q) {f : Nat → Nat} (hf : ∀ z, f z < sz Q) (a u : Nat) (hu : u < sz Q) : it f a u < sz Q := it_inv (· < sz Q) f (fun z _ => hf z) a u hu
theorem prodL_lt {Q : Tw} (hQ : Wf Q) (im es : List Nat) (u : Nat) (hu : u < sz Q) : prodL (pr Q) u im es < sz Q := by
  induction im generalizing u es with
  | nil => cases es <;> exact hu
  | cons c im ih => cases es with
    | nil => exact hu
    | cons a es => exact ih es _ (it_lt hQ (fun z => pr_lt hQ _ _) a u hu)

/-- the relations of a level hold for an image -/
def FitsV (Q : Tw) (L : Lv) (im : List (List Nat)) (x : List Nat) : Prop :=
  npow (mul Q) (one Q) x L.o = ev (mul Q) (one Q) im L.w ∧ ∀ k y, L.c[k]? = some y → mul Q (im.getD k (one Q)) x = mul Q x (ev (mul Q) (one Q) im y)
theorem fits_iff {Q : Tw} (hQ : Wf Q) (hg : Tow.Good Q) (L : Lv) (im : List Nat) (x : Nat) : Fits Q L im x ↔ FitsV Q L (im.map (at_ Q)) (at_ Q x) := by
  have G := grp hQ hg
  have h0 := sz_pos hQ
  have hme : ∀ c ∈ im.map (at_ Q), El Q c := by intro c hc; obtain ⟨i, _, rfl⟩ := List.mem_map.1 hc; exact at_El hQ i
  have hev : ∀ es, at_ Q (prodL (pr Q) 0 im es) = ev (mul Q) (one Q) (im.map (at_ Q)) es := fun es => by rw [at_prodL hQ, at_zero hQ, G.prodL_e hme]
  have hgd : ∀ k, at_ Q (im.getD k 0) = (im.map (at_ Q)).getD k (one Q) := fun k => by
    rw [List.getD_eq_getElem?_getD, List.getD_eq_getElem?_getD, List.getElem?_map]
    cases im[k]? with
    | none => exact at_zero hQ
    | some i => rfl
  unfold Fits FitsV
  refine and_congr ?_ (forall_congr' fun k => forall_congr' fun y => imp_congr_right fun _ => ?_)
  · rw [num_inj' (it_lt hQ (fun z => pr_lt hQ _ _) _ _ h0) (prodL_lt hQ _ _ _ h0), at_itR hQ, at_zero hQ, hev]; rfl
  · rw [num_inj' (pr_lt hQ _ _) (pr_lt hQ _ _), at_pr hQ, at_pr hQ, hev, hgd]
theorem inS_iff {Q : Tw} (hQ : Wf Q) (hg : Tow.Good Q) : ∀ {T : Tw} {im : List Nat} {c : Nat}, im.length = T.length → c < sz Q → (inS Q T im c ↔ ∃ z, El T z ∧ ev (mul Q) (one Q) (im.map (at_ Q)) z = at_ Q c)
  | [], [], c, _, hc => by
    simp only [inS]
    constructor
    · rintro rfl; exact ⟨[], trivial, (at_zero hQ).symm⟩
    · rintro ⟨z, _, h⟩
      refine (num_inj' hc (sz_pos hQ)).2 ?_
      rw [at_zero hQ]
      cases z <;> exact h.symm
  | [], _ :: _, c, h, hc => by simp at h
  | _ :: _, [], c, h, hc => by simp at h
  | L :: T, x :: im, c, h, hc => by
    have G := grp hQ hg
    have ih := fun {s : Nat} (hs : s < sz Q) => inS_iff hQ hg (T := T) (im := im) (c := s) (by simpa using h) hs
    simp only [inS]
    constructor
    · rintro ⟨j, hj, s, hs, rfl⟩
      obtain ⟨z, hz, e⟩ := (ih (inS_lt hQ hs)).1 hs
      refine ⟨j :: z, ⟨hj, hz⟩, ?_⟩
      rw [at_itL hQ, itL_npow hQ hg (at_El hQ x) (at_El hQ s), ← e]
      rfl
    · rintro ⟨z, hz, e⟩
      cases z with
      | nil => exact hz.elim
      | cons j z =>
        have hE : El Q (ev (mul Q) (one Q) (im.map (at_ Q)) z) := G.ev (by intro c hc; obtain ⟨i, _, rfl⟩ := List.mem_map.1 hc; exact at_El hQ i) z
        have hlt := num_lt hE hQ
        refine ⟨j, hz.1, num Q (ev (mul Q) (one Q) (im.map (at_ Q)) z), (ih hlt).2 ⟨z, hz.2, (at_num hQ hE).symm⟩, ?_⟩
        have hl : it (pr Q x) j (num Q (ev (mul Q) (one Q) (im.map (at_ Q)) z)) < sz Q := it_lt hQ (fun z => pr_lt hQ _ _) _ _ hlt
        refine (num_inj' hl hc).2 ?_
        rw [at_itL hQ, itL_npow hQ hg (at_El hQ x) (at_El hQ _), at_num hQ hE, ← e]
        rfl

open Classical in
/-- the search on vectors -/
noncomputable def growV (Q T : Tw) : Nat → List (List Nat) → List (List (List Nat))
  | 0, im => [im]
  | k + 1, im => (List.range (sz Q)).flatMap fun t => if ¬ Gen (mul Q) (one Q) im (at_ Q t) ∧ FitsV Q (T.getD k ⟨0, [], []⟩) im (at_ Q t) then growV Q T k (at_ Q t :: im) else []
theorem rel_cons {Q : Tw} {L : Lv} {T : Tw} (hL : L.c.length = T.length) {im : List (List Nat)} {x : List Nat} (hR : Rel (mul Q) (one Q) T im) (h : FitsV Q L im x) : Rel (mul Q) (one Q) (L :: T) (x :: im) := by
  refine ⟨h.1, fun j h1 h2 => ?_, hR⟩
  have := h.2 j L.c[j] (List.getElem?_eq_getElem h2)
  rw [List.getD_eq_getElem?_getD, List.getElem?_eq_getElem h1] at this
  exact this
theorem grow_growV {Q T : Tw} (hQ : Wf Q) (hg : Tow.Good Q) (hT : Wf T) : ∀ k, k ≤ T.length → ∀ im : List Nat, Rel (mul Q) (one Q) (T.drop k) (im.map (at_ Q)) →
    (grow Q T k im).map (fun l => l.map (at_ Q)) = growV Q T k (im.map (at_ Q))
  | 0, _, im, _ => rfl
  | k + 1, hk, im, hR => by
    classical
    obtain ⟨L, hL⟩ : ∃ L, T[k]? = some L := ⟨_, List.getElem?_eq_getElem (by omega)⟩
    have hLd : T.getD k ⟨0, [], []⟩ = L := by rw [List.getD_eq_getElem?_getD, hL]; rfl
    have hl := lvl' hT hL
    have hme : ∀ c ∈ im.map (at_ Q), El Q c := by intro c hc; obtain ⟨i, _, rfl⟩ := List.mem_map.1 hc; exact at_El hQ i
    have hlen : im.length = (T.drop (k + 1)).length := by have := Rel_length hR; simpa using this
    rw [grow, growV, List.map_flatMap]
    have hcg : ∀ t ∈ List.range (sz Q), List.map (fun l => l.map (at_ Q)) (if ¬ inS Q (T.drop (k + 1)) im t ∧ Fits Q (T.getD k ⟨0, [], []⟩) im t then grow Q T k (t :: im) else []) =
        if ¬ Gen (mul Q) (one Q) (im.map (at_ Q)) (at_ Q t) ∧ FitsV Q (T.getD k ⟨0, [], []⟩) (im.map (at_ Q)) (at_ Q t) then growV Q T k (at_ Q t :: im.map (at_ Q)) else [] := fun t ht => by
      have ht' : t < sz Q := List.mem_range.1 ht
      have e1 := inS_iff hQ hg hlen ht'
      have e2 := gen_ev hQ hg hl.1 hme hR (at_ Q t)
      have e3 := fits_iff hQ hg (T.getD k ⟨0, [], []⟩) im t
      by_cases hc : ¬ inS Q (T.drop (k + 1)) im t ∧ Fits Q (T.getD k ⟨0, [], []⟩) im t
      · have hc' : ¬ Gen (mul Q) (one Q) (im.map (at_ Q)) (at_ Q t) ∧ FitsV Q (T.getD k ⟨0, [], []⟩) (im.map (at_ Q)) (at_ Q t) := ⟨fun h => hc.1 (e1.2 (e2.1 h)), e3.1 hc.2⟩
        rw [if_pos hc, if_pos hc']
        refine grow_growV hQ hg hT k (by omega) (t :: im) ?_
        rw [drop_cons' hL]
        refine rel_cons (by rw [hl.2.1]; simp) hR ?_
        rw [← hLd]; exact hc'.2
      · have hc' : ¬ (¬ Gen (mul Q) (one Q) (im.map (at_ Q)) (at_ Q t) ∧ FitsV Q (T.getD k ⟨0, [], []⟩) (im.map (at_ Q)) (at_ Q t)) := fun h => hc ⟨fun h' => h.1 (e2.2 (e1.1 h')), e3.2 h.2⟩
        rw [if_neg hc, if_neg hc']; rfl
    have hfm : ∀ (l : List Nat) (F H : Nat → List (List (List Nat))), (∀ t ∈ l, F t = H t) → l.flatMap F = l.flatMap H := by
      intro l F H h
      induction l with
      | nil => rfl
      | cons a l ih => rw [List.flatMap_cons, List.flatMap_cons, h a List.mem_cons_self, ih (fun t ht => h t (List.mem_cons_of_mem _ ht))]
    exact hfm _ _ _ hcg
end Go.Proofs.YtabkibmnghbahaaGreat.GenD

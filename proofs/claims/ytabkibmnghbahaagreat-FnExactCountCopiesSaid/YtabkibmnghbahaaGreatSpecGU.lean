import Derived.Test.YtabkibmnghbahaaGreatSpecS
import Derived.Test.YtabkibmnghbahaaGreatSpecGH
import Derived.Deep.AppendLies
import Derived.Test.YtabkibmnghbahaaGreatLawA
/-
  Plain: the search on vectors goes over the choices.
-/
namespace Go.Proofs.YtabkibmnghbahaaGreat.GenG
open Go.Proofs.YtabkibmnghbahaaGreat Go.Proofs.YtabkibmnghbahaaGreat.Tow Go.Proofs.YtabkibmnghbahaaGreat.NumT Go.Proofs.YtabkibmnghbahaaGreat.GenD Go.Proofs.YtabkibmnghbahaaGreat.SpecR Go.Proofs.YtabkibmnghbahaaGreat.SpecS
set_option linter.unusedVariables false
set_option linter.unusedSimpArgs false

theorem flatMap_filter {α : Type} (p : Nat → Bool) (f : Nat → List α) : ∀ l : List Nat, (l.flatMap fun t => if p t = true then f t else []) = (l.filter p).flatMap f
  | [] => rfl
  | a :: l => by
    rw [List.flatMap_cons, flatMap_filter p f l, List.filter_cons]
    by_cases h : p a = true
    · rw [if_pos h, if_pos h, List.flatMap_cons]
    · rw [if_neg h, if_neg h, List.nil_append]
theorem growV_succ {Q T : Tw} {k : Nat} {L : Lv} (hL : T[k]? = some L) (im : List (List Nat)) : growV Q T (k + 1) im = (ChL Q L im).flatMap fun x => growV Q T k (x :: im) := by
  classical
  have hd : T.getD k ⟨0, [], []⟩ = L := by rw [List.getD_eq_getElem?_getD, hL]; rfl
  rw [growV, hd]
  unfold ChL nums
  rw [List.flatMap_map, ← flatMap_filter]
  congr 1
  funext t
  by_cases h : may Q L im t = true
  · rw [if_pos h, if_pos (may_iff.1 h)]
  · rw [if_neg h, if_neg (fun h' => h (may_iff.2 h'))]
theorem growV_count {Q T : Tw} (hQ : Wf Q) (hg : Tow.Good Q) (hT : Wf T) : (growV Q T T.length []).length = (Grow.grow Q T T.length []).length := by
  have h := grow_growV hQ hg hT T.length (Nat.le_refl _) [] (by rw [List.drop_length]; trivial)
  rw [List.map_nil] at h
  rw [← h, List.length_map]
theorem growV_bound {Q T : Tw} (hz : sz Q ≤ 27) : ∀ (k : Nat), k ≤ T.length → ∀ im, (growV Q T k im).length ≤ 27 ^ k
  | 0, _, im => by simp [growV]
  | k + 1, hk, im => by
    obtain ⟨L, hL⟩ : ∃ L, T[k]? = some L := ⟨_, List.getElem?_eq_getElem (by omega)⟩
    rw [growV_succ hL]
    have hl : (ChL Q L im).length ≤ 27 := by unfold ChL; rw [List.length_map]; exact Nat.le_trans (nums_length _ _) hz
    have : ∀ l : List (List Nat), (l.flatMap fun x => growV Q T k (x :: im)).length ≤ l.length * 27 ^ k := by
      intro l
      induction l with
      | nil => simp
      | cons a l ih =>
        rw [List.flatMap_cons, List.length_append, List.length_cons, Nat.succ_mul]
        rw [Nat.add_comm (l.length * 27 ^ k)]
        exact Nat.add_le_add (growV_bound hz k (by omega) (a :: im)) ih
    refine Nat.le_trans (this _) ?_
    rw [Nat.pow_succ, Nat.mul_comm]
    exact Nat.mul_le_mul_left _ hl
end Go.Proofs.YtabkibmnghbahaaGreat.GenG

/-
  Slices of slices of slices that the call itself made; slices of slices whose cells are replaced.
-/
namespace Go.Proofs.YtabkibmnghbahaaGreat
open Go.RowKit
set_option linter.unusedVariables false
set_option linter.unusedSimpArgs false

theorem infoR3 : (Tryz.prog.info? 23).map (fun i => (i.zero, i.size, i.bytes)) = some (some (.slice none 0 0), 1, 24) := by kernel_rfl

theorem Keep.ext {S : Nat → Prop} {w w' : World} (h : Keep S w w') : Keep (fun k => k < w.heap.size → S k) w w' := ⟨h.size, fun k hk hl => h.block k (hk hl) hl⟩
theorem SlI.bnd {S : Nat → Prop} {w : World} {v : Value} {l : List Int} (h : SlI S w v l) : SlI (fun k => S k ∧ k < w.heap.size) w v l := by
  obtain ⟨ao, c, h1, h2, h3, h0, h4⟩ := h
  refine ⟨ao, c, h1, h2, h3, h0, fun i x hx => ?_⟩
  obtain ⟨b, o, e1, e2, e3, u, e4, e5⟩ := h4 i x hx
  exact ⟨b, o, e1, ⟨e2, e3⟩, e3, u, e4, e5⟩
theorem Sl2.bnd {S : Nat → Prop} {w : World} {v : Value} {l : List (List Int)} (h : Sl2 S w v l) : Sl2 (fun k => S k ∧ k < w.heap.size) w v l := by
  obtain ⟨ao, c, h1, h2, h3, h0, h4⟩ := h
  refine ⟨ao, c, h1, h2, h3, h0, fun i x hx => ?_⟩
  obtain ⟨b, o, e1, e2, e3, u, e4, e5⟩ := h4 i x hx
  exact ⟨b, o, e1, ⟨e2, e3⟩, e3, u, e4, e5.bnd⟩
theorem Sl3.bnd {S : Nat → Prop} {w : World} {v : Value} {l : List (List (List Int))} (h : Sl3 S w v l) : Sl3 (fun k => S k ∧ k < w.heap.size) w v l := by
  obtain ⟨ao, c, h1, h2, h3, h0, h4⟩ := h
  refine ⟨ao, c, h1, h2, h3, h0, fun i x hx => ?_⟩
  obtain ⟨b, o, e1, e2, e3, u, e4, e5⟩ := h4 i x hx
  exact ⟨b, o, e1, ⟨e2, e3⟩, e3, u, e4, Sl2.bnd e5⟩
theorem ValP.bnd {S : Nat → Prop} {w : World} {vO vP vC : Value} {P : Pres} (h : ValP S w vO vP vC P) : ValP (fun k => S k ∧ k < w.heap.size) w vO vP vC P := ⟨h.os.bnd, h.ps.bnd, h.cs.bnd⟩

/-- one cell of a slice of slices replaced, the new row lying elsewhere -/
theorem Sl2.put {S : Nat → Prop} {w : World} {g n c : Nat} {rows : List (List Nat)} (hn : rows.length = n) (h : Own2 22 2 0 w (.slice (some ⟨g, 0, none⟩) n c) rows) (hS : Sl2 S w (.slice (some ⟨g, 0, none⟩) n c) (rows.map ints)) (k : Nat) {u : Value} {r : List Nat}
    (hu : SlI (fun b => S b ∧ b ≠ g) w u (ints r)) : Sl2 S (w.setCell ⟨g, k, none⟩ u) (.slice (some ⟨g, 0, none⟩) n c) ((rows.set k r).map ints) := by
  subst hn
  obtain ⟨us, h1, h2, h3⟩ := h
  have hs := World.ownsRow.stored h1 k u
  have hkp : Keep (fun b => b ≠ g) w (w.setCell ⟨g, k, none⟩ u) := (Keep.refl _ _).setCell (by simp) _
  obtain ⟨ao, c', e, g2, g3, g0, g4⟩ := hS
  simp only [Value.slice.injEq] at e
  obtain ⟨rfl, -, rfl⟩ := e
  refine ⟨some ⟨g, 0, none⟩, c, by simp, by simpa using g2, g3, by simp, fun i x hx => ?_⟩
  have hi : i < rows.length := by
    have := (List.getElem?_eq_some_iff.1 hx).1
    simpa using this
  obtain ⟨b, o, e1, e2, e3, v, e4, e5⟩ := g4 i (ints rows[i]) (by rw [List.getElem?_map, List.getElem?_eq_getElem hi]; rfl)
  simp only [Option.some.injEq, Addr.mk.injEq, and_true] at e1
  obtain ⟨rfl, rfl⟩ := e1
  have hv : us[i]? = some v := by
    have := World.ownsRow.cellAt h1 i (by omega)
    rw [Nat.zero_add] at e4
    rw [this] at e4
    exact e4
  by_cases hik : i = k
  · subst hik
    rw [List.getElem?_map, List.getElem?_set_self hi] at hx
    injection hx with hx
    subst hx
    refine ⟨g, 0, rfl, e2, by rw [World.size_setCell]; exact e3, u, ?_, (hu.keep (hkp.mono (fun b hb => hb.2))).mono (fun b hb => hb.1)⟩
    have := World.ownsRow.cellAt hs.1 i (by omega)
    rw [List.getElem?_set_self (by omega)] at this
    rw [Nat.zero_add]
    exact this
  · rw [List.getElem?_map, List.getElem?_set_ne (fun h => hik h.symm), List.getElem?_eq_getElem hi] at hx
    injection hx with hx
    subst hx
    have hrow := h3 i rows[i] v (List.getElem?_eq_getElem hi) hv
    have hap : ∀ k, v.ownBlock = some k → k ≠ g := fun k hk hg => by
      rcases rows_apart hrow.2 h1 (by decide) with h | h
      · rw [h] at hk; cases hk
      · rw [hk, hg] at h; exact h rfl
    obtain ⟨gv, cv, rfl⟩ := hrow.1
    refine ⟨g, 0, rfl, e2, by rw [World.size_setCell]; exact e3, .slice (some ⟨gv, 0, none⟩) rows[i].length cv, ?_, ?_⟩
    · have := World.ownsRow.cellAt hs.1 i (by omega)
      rw [List.getElem?_set_ne (fun h => hik h.symm), hv] at this
      rw [Nat.zero_add]
      exact this
    · obtain ⟨ao, c'', f1, f2, f3, f0, f4⟩ := e5
      refine ⟨ao, c'', f1, f2, f3, f0, fun j y hy => ?_⟩
      obtain ⟨b', o', q1, q2, q3, q4, q5, q6⟩ := f4 j y hy
      subst q1
      simp only [Value.slice.injEq, Option.some.injEq, Addr.mk.injEq, and_true] at f1
      have hb' : b' ≠ g := fun hbg => hap gv rfl (f1.1.1.trans hbg)
      exact ⟨b', o', rfl, q2, by rw [World.size_setCell]; exact q3, q4, by rw [hkp.cell hb' q3]; exact q5, q6⟩

/-- an owned row of rows of rows -/
def Own3 (B : Nat) (w : World) (v : Value) (L : List (List (List Nat))) : Prop :=
  ∃ us : List Value, w.ownsRow B 23 1 v L.length us ∧ us.length = L.length ∧ ∀ (i : Nat) (rows : List (List Nat)) (u : Value), L[i]? = some rows → us[i]? = some u → Own2 22 2 B w u rows
theorem Own2.apart {e2 e e3 : TypeId} (h2 : e2 ≠ e3) (h1 : e ≠ e3) {B B' s n : Nat} {w w' : World} {v v3 : Value} {rows : List (List Nat)} {us : List Value} (h : Own2 e2 e B w v rows) (h3 : w.ownsRow B' e3 s v3 n us) (hg : w.grownBy w' v3.ownBlock) : Own2 e2 e B w' v rows := by
  obtain ⟨us2, a1, a2, a4⟩ := h
  exact ⟨us2, a1.kept hg (rows_apart a1 h3 h2), a2, fun i r u hr hu => ⟨(a4 i r u hr hu).1, World.ownsRow.kept (a4 i r u hr hu).2 hg (rows_apart (a4 i r u hr hu).2 h3 h1)⟩⟩
theorem Own3.nil (B : Nat) (w : World) : Own3 B w (.slice none 0 0) [] := ⟨[], World.ownsRow_nil _ _ _ _, rfl, by simp⟩
theorem ownsRow_keep' {w w' : World} {B : Nat} {e : TypeId} {s n : Nat} {v : Value} {xs : List Value} {S : Nat → Prop} (h : w.ownsRow B e s v n xs) (hk : Keep S w w') (hS : ∀ k, B ≤ k → k < w.heap.size → S k) : w'.ownsRow B e s v n xs := ownsRow_keep h hk.ext hS
theorem Own2.keep' {e2 e : TypeId} {B : Nat} {S : Nat → Prop} {w w' : World} {v : Value} {rows : List (List Nat)} (h : Own2 e2 e B w v rows) (hk : Keep S w w') (hS : ∀ k, B ≤ k → k < w.heap.size → S k) : Own2 e2 e B w' v rows := h.keep hk.ext hS
theorem Own3.keep {B : Nat} {S : Nat → Prop} {w w' : World} {v : Value} {L : List (List (List Nat))} (h : Own3 B w v L) (hk : Keep S w w') (hS : ∀ k, B ≤ k → k < w.heap.size → S k) : Own3 B w' v L := by
  obtain ⟨us, h1, h2, h4⟩ := h
  exact ⟨us, ownsRow_keep' h1 hk hS, h2, fun i r u hr hu => (h4 i r u hr hu).keep' hk hS⟩
theorem Own3.of_below {B : Nat} {w w' : World} {v : Value} {L : List (List (List Nat))} (h : Own3 B w v L) (hb : Below w.heap.size w w') : Own3 B w' v L := h.keep (S := fun _ => True) (Keep.of_below hb) (fun _ _ _ => trivial)
theorem Own3.mono {B B' : Nat} {w : World} {v : Value} {L : List (List (List Nat))} (h : Own3 B w v L) (hB : B' ≤ B) : Own3 B' w v L := by
  obtain ⟨us, h1, h2, h4⟩ := h
  exact ⟨us, ownsRow_mono h1 hB, h2, fun i r u hr hu => (h4 i r u hr hu).mono hB⟩
theorem Own3.form {B : Nat} {w : World} {v : Value} {L : List (List (List Nat))} (h : Own3 B w v L) : ∃ a cap, v = .slice a L.length cap ∧ L.length ≤ cap ∧ cap ≤ maxLen := by
  obtain ⟨us, h1, h2, h4⟩ := h
  rcases h1.2 with ⟨rfl, hn⟩ | ⟨g, cap, cur, rfl, hb, hgg, hn, hm, hs, ht⟩
  · exact ⟨none, 0, by rw [hn], by omega, by simp⟩
  · exact ⟨_, cap, rfl, hn, hm⟩
theorem Own3.lt {B : Nat} {w : World} {v : Value} {L : List (List (List Nat))} (h : Own3 B w v L) : ∀ k, v.ownBlock = some k → B ≤ k ∧ k < w.heap.size := by
  obtain ⟨us, h1, h2, h4⟩ := h
  exact World.ownsRow.lt h1
theorem Own3.push {B n : Nat} {w w' : World} {v v' u : Value} {L : List (List (List Nat))} {rows : List (List Nat)} {us : List Value} (hn : L.length = n)
    (h1 : w.ownsRow B 23 1 v n us) (h2 : us.length = L.length) (h4 : ∀ (i : Nat) (rows : List (List Nat)) (u : Value), L[i]? = some rows → us[i]? = some u → Own2 22 2 B w u rows)
    (hu : Own2 22 2 B w u rows) (ho : w'.ownsRow B 23 1 v' (n + 1) (us ++ [u])) (hg : w.grownBy w' v.ownBlock) : Own3 B w' v' (L ++ [rows]) := by
  subst hn
  refine ⟨us ++ [u], by simpa using ho, by simp [h2], fun i r' u' hr' hu' => ?_⟩
  have hown : Own2 22 2 B w u' r' := by
    rcases Nat.lt_or_ge i L.length with hi | hi
    · rw [List.getElem?_append_left hi] at hr'
      rw [List.getElem?_append_left (by omega)] at hu'
      exact h4 i r' u' hr' hu'
    · rw [List.getElem?_append_right hi] at hr'
      rw [List.getElem?_append_right (by omega)] at hu'
      rw [h2] at hu'
      rcases hj : i - L.length with _ | j
      · rw [hj] at hr' hu'
        simp at hr' hu'
        subst hr'; subst hu'
        exact hu
      · rw [hj] at hr'
        simp at hr'
  exact hown.apart (by decide) (by decide) h1 hg
end Go.Proofs.YtabkibmnghbahaaGreat

/-
  The reference's search: spec.l25Grow.
-/
namespace Go.Proofs.YtabkibmnghbahaaGreat.SpecU
open Go.RowKit Go.Proofs.YtabkibmnghbahaaGreat Go.Proofs.YtabkibmnghbahaaGreat.Tow Go.Proofs.YtabkibmnghbahaaGreat.NumT Go.Proofs.YtabkibmnghbahaaGreat.GenD Go.Proofs.YtabkibmnghbahaaGreat.GenG Go.Proofs.YtabkibmnghbahaaGreat.SpecB Go.Proofs.YtabkibmnghbahaaGreat.SpecL Go.Proofs.YtabkibmnghbahaaGreat.SpecR Go.Proofs.YtabkibmnghbahaaGreat.SpecS
set_option linter.unusedVariables false
set_option linter.unusedSimpArgs false

/-- what has been found, and what else stays -/
def GrR (B : Nat) (w : World) (vF : Value) (R : List (List (List Nat))) (e : Ending) (w' : World) : Prop :=
  ∃ v, e = .returned v ∧ Own3 B w' v R ∧ Keep (fun b => some b ≠ vF.ownBlock) w w' ∧ (v.ownBlock = vF.ownBlock ∨ ∀ b, v.ownBlock = some b → w.heap.size ≤ b) ∧ Below B w w'
/-- the images as far as they are chosen -/
def imk (Q : Tw) (k : Nat) (im : List (List Nat)) : List (List Nat) := List.replicate k (one Q) ++ im
theorem imk_set (Q : Tw) (k : Nat) (im : List (List Nat)) (x : List Nat) : (imk Q (k + 1) im).set k x = imk Q k (x :: im) := by
  unfold imk
  rw [List.replicate_succ', List.append_assoc, List.set_append_right _ _ (by simp)]
  simp
theorem imk_drop (Q : Tw) (k : Nat) (im : List (List Nat)) : (imk Q k im).drop k = im := by simp [imk]
theorem imk_length (Q : Tw) (k : Nat) (im : List (List Nat)) : (imk Q k im).length = k + im.length := by simp [imk]
theorem imk_El {Q : Tw} (hQ : Wf Q) {k : Nat} {im : List (List Nat)} (h : ∀ x ∈ im, El Q x) : ∀ x ∈ imk Q k im, El Q x := fun x hx => by
  rcases List.mem_append.1 hx with h1 | h1
  · rw [(List.mem_replicate.1 h1).2]; exact El_one hQ
  · exact h x h1
theorem ChL_El {Q : Tw} (hQ : Wf Q) {L : Lv} {im : List (List Nat)} : ∀ x ∈ ChL Q L im, El Q x := fun x hx => by
  unfold ChL at hx
  obtain ⟨t, _, rfl⟩ := List.mem_map.1 hx
  exact at_El hQ t
theorem ChL_length {Q : Tw} (hz : sz Q ≤ 27) {L : Lv} {im : List (List Nat)} : (ChL Q L im).length ≤ 27 := by
  unfold ChL; rw [List.length_map]; exact Nat.le_trans (nums_length _ _) hz
theorem flat_len {Q T : Tw} (hz : sz Q ≤ 27) {k : Nat} (hk : k ≤ T.length) (im : List (List Nat)) : ∀ l : List (List Nat), (l.flatMap fun x => growV Q T k (x :: im)).length ≤ l.length * 27 ^ k := by
  intro l
  induction l with
  | nil => simp
  | cons a l ih =>
    rw [List.flatMap_cons, List.length_append, List.length_cons, Nat.succ_mul, Nat.add_comm (l.length * 27 ^ k)]
    exact Nat.add_le_add (growV_bound hz k hk (a :: im)) ih
theorem flat_room {Q T : Tw} (hz : sz Q ≤ 27) {k : Nat} (hk : k ≤ T.length) {im : List (List Nat)} {F : List (List (List Nat))} {l : List (List Nat)} {c N : Nat} (h : F.length + 27 ^ (k + 1) ≤ N) (hl : l.length ≤ 27) (hc : c < l.length) :
    (F ++ (l.take c).flatMap fun x => growV Q T k (x :: im)).length + 27 ^ k ≤ N := by
  have h1 := flat_len hz hk im (l.take c)
  rw [List.length_take, Nat.min_eq_left (by omega)] at h1
  rw [List.length_append]
  have h2 : (c + 1) * 27 ^ k ≤ 27 * 27 ^ k := Nat.mul_le_mul_right _ (by omega)
  rw [Nat.pow_succ, Nat.mul_comm] at h
  rw [Nat.succ_mul] at h2
  omega
def GrowSpec (T Q : Tw) (k : Nat) : Prop := ∀ (B : Nat) (w : World) (pO pP pC qO qP qC vi vF : Value) (im : List (List Nat)) (F : List (List (List Nat))), ValP (fun b => some b ≠ vF.ownBlock) w pO pP pC (ofTw T) → ValP (fun b => some b ≠ vF.ownBlock) w qO qP qC (ofTw Q) →
  Sl2 (fun b => some b ≠ vF.ownBlock) w vi ((imk Q k im).map ints) → k + im.length = T.length → (∀ x ∈ im, El Q x) → Own3 B w vF F → B ≤ w.heap.size → F.length + 27 ^ k ≤ 1000000000 →
  Calls Tryz.prog 43 #[.agg #[pO, pP, pC], .agg #[qO, qP, qC], .int .i64 ((k : Int) - 1), vi, vF] w (GrR B w vF (F ++ growV Q T k im))

set_option maxRecDepth 100000 in
set_option maxHeartbeats 2000000 in
theorem grow_zero (T Q : Tw) (hsT : Small T) (hs : Small Q) : GrowSpec T Q 0 := by
  intro B w pO pP pC qO qP qC vi vF im F hPT hPQ hi hl hE hF hB hN
  obtain ⟨i0, hinf, hz0, hz1, hz2⟩ := info_parts infoR3
  have hi' : Sl2 (fun b => some b ≠ vF.ownBlock) w vi (im.map ints) := hi
  have HI := Lib.hid hi'
  have HN := Lib.hid (show F.length + 1 ≤ 1000000000 from hN)
  have HF := Lib.hid hF
  have HOWN := Lib.hid (fun W hv => own2_any W vi im hv (by have := hsT.1; omega) (fun r hr => by rw [El_length (hE r hr)]; have := hs.1; omega))
  rw [show (((0 : Nat) : Int) - 1) = -1 from rfl]
  obtain ⟨W0, hW0⟩ : ∃ W0, W0 = (w.alloc (.cells #[pO, pP, pC] 30)).alloc (.cells #[qO, qP, qC] 30) := ⟨_, rfl⟩
  have HB0 := Lib.hid (show Below w.heap.size w W0 by rw [hW0]; exact ((Below.refl _ _).alloc (Nat.le_refl _) _).alloc (by simp) _)
  clear hPT hPQ hi hi' hE hF hN hl
  go_enter Tryz.func43, Tryz.ntmps43
  go_upto_region 1 with fail
  rw [← hW0]
  clear hW0
  go_wp2_with fail
  refine (HOWN.out _ ((HI.out.keep (Keep.of_below HB0.out)).mono (fun _ _ => trivial))).mono ?_
  rintro e w1 ⟨v1, rfl, ho1, hb1⟩
  have HO1 := Lib.hid (ho1.mono (B' := B) (Nat.le_trans hB HB0.out.size))
  have HB1 := Lib.hid (HB0.out.trans (hb1.mono HB0.out.size))
  obtain ⟨us, h1, h2, h4⟩ := HF.out.of_below HB1.out
  have HU := Lib.hid (And.intro h2 h4)
  obtain ⟨a1, c1, rfl, _, _⟩ := ho1.form
  have HS1 := Lib.hid HB1.out.size
  clear ho1 hb1 h2 h4
  go_wp2_with (at_builtin; (refine wpList_append_lies _ rfl _ _ 24 rfl B 23 i0 (.slice none 0 0) 1 24 Tryz.underlying24 hinf hz0 hz1 hz2 rfl (by decide) _ _ _ rfl (h1.alloc _) ⟨w1.heap.size, 0, none⟩ 1 1 [.slice a1 im.length c1] rfl rfl ?c1 ?c2 ?c3 ?c4 ?c5 ?c6 _ rfl ?_))
  case c1 =>
    intro j u hj
    match j, hj with
    | 0, hj => simp at hj; subst hj; simp [Addr.add]
  case c2 => intro u hu; simp at hu; subst hu; rfl
  case c3 => omega
  case c4 => have := HN.out; unfold maxLen; omega
  case c5 => have := HN.out; omega
  case c6 => have := HB1.out.size; simp; omega
  · intro g cap w2 hown hgrow hat hlt
    have HR := Lib.hid (show GrR B w vF (F ++ growV Q T 0 im) (.returned (.slice (some ⟨g, 0, none⟩) (F.length + 1) cap)) w2 from by
      refine ⟨_, rfl, ?_, ?_, ?_, ?_⟩
      · exact Own3.push (w := w1.alloc _) (us := us) rfl (h1.alloc _) HU.out.1 (fun i r u hr hu => (HU.out.2 i r u hr hu).keep (S := fun _ => True) ((Keep.refl _ _).alloc _) (fun _ _ => trivial)) (HO1.out.keep (S := fun _ => True) ((Keep.refl _ _).alloc _) (fun _ _ => trivial)) hown hgrow
      · exact ((Keep.of_below HB1.out).alloc _).trans (Keep.grown hgrow (fun k hk => hk))
      · rcases hat with h | h
        · exact .inl h.symm
        · refine .inr fun b hb => ?_
          simp only [Value.ownBlock, Option.some.injEq] at hb
          subst hb
          rw [h]
          have := HB1.out.size
          simp
          omega
      · exact ((HB1.out.mono hB).alloc (by have := HB1.out.size; omega) _).grown hgrow (by simp; have := HB1.out.size; omega) (fun g hg => (World.ownsRow.lt h1 g hg).1))
    clear hown hgrow hat hlt h1 HU HO1
    go_wp2_with fail
    go_ret
    exact HR.out

theorem keepS1 {S : Nat → Prop} {a b : World} (h : Keep (fun k => S k ∧ k < a.heap.size) a b) : Keep S a b := ⟨h.size, fun k hk hs => h.block k ⟨hk, hs⟩ hs⟩

open Classical in
theorem ChL_triv {L : Lv} {im : List (List Nat)} : ChL [] L im = [] := by
  have hm : ∀ t, may [] L im t = false := fun t => by
    unfold may
    refine decide_eq_false fun h => h.1 ?_
    have e : at_ [] t = Tow.one [] := rfl
    rw [e]
    exact Gen.Gen.one
  unfold ChL nums
  rw [List.filter_eq_nil_iff.2 (fun t _ => by rw [hm t]; simp)]
  rfl
set_option maxRecDepth 100000 in
set_option maxHeartbeats 4000000 in
theorem grow_succ (T Q : Tw) (hT : Wf T) (hsT : Small T) (hQ : Wf Q) (hs : Small Q) (hg : Tow.Good Q) (hp : SpecI.Pr Q) (hz : sz Q ≤ 27) (k : Nat) (hk : k < T.length) (hq0 : 0 < Q.length ∨ (Q = [] ∧ k + 1 = T.length)) (hrec : 0 < Q.length → GrowSpec T Q k) : GrowSpec T Q (k + 1) := by
  intro B w pO pP pC qO qP qC vi vF im F hPT hPQ hi hl hE hF hB hN
  obtain ⟨L, hL⟩ : ∃ L, T[k]? = some L := ⟨_, List.getElem?_eq_getElem hk⟩
  have hT6 := hsT.1
  have HI := Lib.hid hi
  have HPT := Lib.hid hPT
  have HPQ := Lib.hid hPQ
  have HN := Lib.hid hN
  have HF := Lib.hid hF
  have HE := Lib.hid hE
  have HLN := Lib.hid hl
  have HREC := Lib.hid hrec
  have HQ0 := Lib.hid (show ∀ x, x ∈ ChL Q L im → 0 < Q.length from fun x hx => by
    rcases hq0 with h | ⟨h, _⟩
    · exact h
    · subst h
      exact absurd hx (by rw [ChL_triv]; simp))
  have HLT := Lib.hid hF.lt
  have HGS := Lib.hid (growV_succ (Q := Q) hL im)
  have HCH := Lib.hid (fun W hP hQ' hv => show Calls _ _ _ _ (New2 _ _ (ChL Q L im) W) from by
    have h := choices_any T Q hT hsT hQ hs hg hp (by omega) W pO pP pC qO qP qC vi k L hL (imk Q (k + 1) im) hP hQ' hv (by rw [imk_length]; omega) (imk_El hQ hE) hq0
    rwa [imk_drop] at h)
  have HOWN := Lib.hid (fun W hv => own2_any W vi (imk Q (k + 1) im) hv (by rw [imk_length]; omega) (fun r hr => by rw [El_length (imk_El hQ hE r hr)]; have := hs.1; omega))
  have HCE := Lib.hid (ChL_El hQ (L := L) (im := im))
  have HCL := Lib.hid (ChL_length hz (L := L) (im := im))
  have HRM := Lib.hid (fun c hc => flat_room (Q := Q) (T := T) hz (Nat.le_of_lt hk) (im := im) hN (ChL_length hz (L := L) (im := im)) (c := c) hc)
  obtain ⟨n, hn⟩ : ∃ n, (ChL Q L im).length = n := ⟨_, rfl⟩
  have HNN := Lib.hid hn
  have hn27 : n ≤ 27 := by rw [← hn]; exact HCL.out
  rw [show (((k + 1 : Nat) : Int) - 1) = (k : Int) by omega]
  obtain ⟨W0, hW0⟩ : ∃ W0, W0 = (w.alloc (.cells #[pO, pP, pC] 30)).alloc (.cells #[qO, qP, qC] 30) := ⟨_, rfl⟩
  have HB0 := Lib.hid (show Below (w.heap.size + 2) ((w.alloc (.cells #[pO, pP, pC] 30)).alloc (.cells #[qO, qP, qC] 30)) W0 by rw [hW0]; exact Below.refl _ _)
  have hd0 : decide ((k : Int) < 0) = false := by simp
  clear hPT hPQ hi hE hF hN hl hn hL hrec hq0
  go_enter Tryz.func43, Tryz.ntmps43
  go_upto_region 1 with fail
  rw [← hW0]
  clear hW0
  obtain ⟨⟨p0, p1, p2⟩, ⟨q0, q1, q2⟩, hkk, hbw, hsz⟩ := bx HB0.out
  go_wp2_with fail
  refine (HCH.out _ ((HPT.out.keep (hkk.mono (fun _ _ => trivial))).mono (fun _ _ => trivial)) ((HPQ.out.keep (hkk.mono (fun _ _ => trivial))).mono (fun _ _ => trivial)) ((HI.out.keep (hkk.mono (fun _ _ => trivial))).mono (fun _ _ => trivial))).mono ?_
  rintro e w1 ⟨vc, rfl, hoc, hb1⟩
  have HB1 := Lib.hid (HB0.out.trans (hb1.mono hsz))
  obtain ⟨-, -, hk1, hbw1, hsz1⟩ := bx HB1.out
  have HK1 := Lib.hid hk1
  have HBW1 := Lib.hid hbw1
  have hvF : ∀ b, vF.ownBlock = some b → b < w.heap.size := fun b hb => (HLT.out b hb).2
  have HVF := Lib.hid hvF
  have HP1 := Lib.hid (HPT.out.keep (hk1.mono (fun _ _ => trivial))).bnd
  have HQ1 := Lib.hid (HPQ.out.keep (hk1.mono (fun _ _ => trivial))).bnd
  have HI1 := Lib.hid (HI.out.keep (hk1.mono (fun _ _ => trivial))).bnd
  have HC1 := Lib.hid (show Sl2 (fun b => some b ≠ vF.ownBlock ∧ b < w1.heap.size) w1 vc ((ChL Q L im).map ints) from (hoc.sl.bnd).mono (fun b hb => ⟨fun h => by have := HVF.out b h.symm; have := hb.1; omega, hb.2⟩))
  obtain ⟨ac, cc, hvc, _, _⟩ := hoc.form
  rw [HNN.out] at hvc
  subst hvc
  have HF1 := Lib.hid (show Own3 B w1 vF (F ++ ((ChL Q L im).take 0).flatMap fun x => growV Q T k (x :: im)) from by
    rw [List.take_zero, List.flatMap_nil, List.append_nil]; exact HF.out.of_below HBW1.out)
  clear hoc hb1 hkk hbw hsz hk1 hbw1 p0 p1 p2 q0 q1 q2 HPT HPQ HI HCH HF HLT hvF
  go_wp2_with fail
  go_loopw [4, 12] (fun vf iv wr => ∃ c : Nat, c ≤ n ∧ iv = .int .i64 (c : Int) ∧ Hid (Own3 B wr vf (F ++ ((ChL Q L im).take c).flatMap fun x => growV Q T k (x :: im))) ∧ Hid (Keep (fun b => some b ≠ vF.ownBlock ∧ b < w1.heap.size) w1 wr) ∧ Hid (vf.ownBlock = vF.ownBlock ∨ ∀ b, vf.ownBlock = some b → w1.heap.size ≤ b) ∧ Hid (Below B w1 wr)) (fun _ iv _ => n - (intOf iv).toNat)
  case atStart => exact ⟨0, Nat.zero_le _, rfl, HF1, Lib.hid (Keep.refl _ _), Lib.hid (.inl rfl), Lib.hid (Below.refl _ _)⟩
  case round =>
    obtain ⟨c, hc, rfl, hO, hK, hW, hBB⟩ := hrel
    have hs1r := hK.out.size
    by_cases hlt : c < n
    · have hdc : decide ((c : Int) < (n : Int)) = true := by simp; omega
      obtain ⟨x, hx⟩ : ∃ x, (ChL Q L im)[c]? = some x := ⟨_, List.getElem?_eq_getElem (by rw [HNN.out]; exact hlt)⟩
      have HX := Lib.hid hx
      obtain ⟨bC, oC, ux, e1, ⟨hbS, hbC⟩, _, hcC, hrC⟩ := SlG.get HC1.out (k := c) (x := ints x) (by rw [List.getElem?_map, hx]; rfl)
      subst e1
      have HRC := Lib.hid hrC
      have hbC2 : bC < wr.heap.size := by omega
      have hcCr : wr.cell? ⟨bC, oC + c, none⟩ = some ux := (hK.out.cell ⟨hbS, hbC⟩ hbC).trans hcC
      have HCC := Lib.hid hcCr
      clear hx hrC hcC hcCr
      go_wp2_with fail
      refine (HOWN.out _ ((HI1.out.keep hK.out).mono (fun _ _ => trivial))).mono ?_
      rintro e w4 ⟨v4, rfl, ho4, hb4⟩
      obtain ⟨g4, c4, _, hv4, hg4B, hg4l, _, _⟩ := ho4.at (i := 0) (r := (imk Q (k + 1) im)[0]'(by rw [imk_length]; omega)) (by rw [List.getElem?_eq_getElem])
      have HL4 := Lib.hid (show (imk Q (k + 1) im).length = T.length by rw [imk_length]; exact HLN.out)
      rw [HL4.out] at hv4
      subst hv4
      have HO4 := Lib.hid ho4
      have HB4 := Lib.hid hb4
      have hs4 := hb4.size
      obtain ⟨⟨s4, f4⟩, ff4⟩ := Own2.cellF ho4 (k := k) (by rw [imk_length]; omega)
      have hcc4 : w4.cell? ⟨bC, oC + c, none⟩ = some ux := (hb4.cell (p := ⟨bC, oC + c, none⟩) hbC2).trans HCC.out
      have hkT : (k : Int) < (T.length : Int) := by omega
      have hk0 : (0 : Int) ≤ (k : Int) := by omega
      have hcn : (c : Int) < (n : Int) := by omega
      have hc0 : (0 : Int) ≤ (c : Int) := by omega
      obtain ⟨aR, cR, hux, _⟩ := SlI.open HRC.out
      subst hux
      clear ho4 hb4
      go_upto_region 9 with fail
      obtain ⟨w5, hw5⟩ : ∃ w5, w5 = w4.setCell ⟨g4, k, none⟩ (.slice aR x.length cR) := ⟨_, rfl⟩
      rw [← hw5]
      have hs5 : w5.heap.size = w4.heap.size := by rw [hw5, World.size_setCell]
      have hK45 : Keep (fun b => b ≠ g4) w4 w5 := by rw [hw5]; exact (Keep.refl _ _).setCell (by simp) _
      have hK15 : Keep (fun b => some b ≠ vF.ownBlock ∧ b < w1.heap.size) w1 w5 := (hK.out.trans (Keep.of_below HB4.out)).trans (hK45.mono (fun b hb => by omega))
      have hNE : ∀ b, some b ≠ vF.ownBlock → b < w1.heap.size → some b ≠ u4.ownBlock := fun b h1 h2 => by
        rcases hW.out with h | h
        · rw [h]; exact h1
        · intro e; have := h b e.symm; omega
      have hVf : ∀ b, u4.ownBlock = some b → b < wr.heap.size := fun b hb => (hO.out.lt b hb).2
      have HNX := Lib.hid (show Sl2 (fun b => some b ≠ u4.ownBlock) w5 (.slice (some ⟨g4, 0, none⟩) T.length c4) ((imk Q k (x :: im)).map ints) from by
        rw [hw5, ← imk_set]
        exact Sl2.put HL4.out (HO4.out.mono (Nat.zero_le _)) (HO4.out.sl.mono (fun b hb e => by have := hVf b e.symm; omega)) k ((HRC.out.keep (hK.out.trans (Keep.of_below HB4.out))).mono (fun b hb => ⟨hNE b hb.1 hb.2, by have := hb.2; omega⟩)))
      have HO5 := Lib.hid (hO.out.keep (S := fun b => b < wr.heap.size) ((Keep.lt HB4.out).trans (hK45.mono (fun b hb => by omega))) (fun b _ hb => hb))
      have HP5 := Lib.hid ((HP1.out.keep hK15).mono (fun b hb => hNE b hb.1 hb.2))
      have HQ5 := Lib.hid ((HQ1.out.keep hK15).mono (fun b hb => hNE b hb.1 hb.2))
      have HB5 := Lib.hid (show Below B w1 w5 from by rw [hw5]; exact (hBB.out.trans (HB4.out.mono (by omega))).setCell (by show B ≤ g4; omega) _)
      obtain ⟨⟨p0, p1, p2⟩, ⟨q0, q1, q2⟩, -, -, -⟩ := bx HB1.out
      have hbx : ∀ j o, w.heap.size ≤ j → j < w1.heap.size → w5.cell? ⟨j, o, none⟩ = w1.cell? ⟨j, o, none⟩ := fun j o h1 h2 => hK15.cell ⟨fun e => by have := HVF.out j e.symm; omega, h2⟩ h2
      rw [← hbx _ _ (by omega) (by omega)] at p0 p1 p2 q0 q1 q2
      have HK15 := Lib.hid hK15
      have HNE := Lib.hid hNE
      have hk6 : (k : Int) ≤ 6 := by omega
      have HXE := Lib.hid (show ∀ y ∈ x :: im, El Q y from fun y hy => by
        rcases List.mem_cons.1 hy with h | h
        · rw [h]; exact HCE.out x (List.mem_of_getElem? HX.out)
        · exact HE.out y h)
      have HS5 := Lib.hid (show B ≤ w5.heap.size ∧ w1.heap.size ≤ w5.heap.size by omega)
      clear hw5 hs5 hK45 hK15 hNE hVf hbx f4 ff4 hcc4 hs4
      go_wp2_with fail
      refine (HREC.out (HQ0.out x (List.mem_of_getElem? HX.out)) B w5 pO pP pC qO qP qC (.slice (some ⟨g4, 0, none⟩) T.length c4) u4 (x :: im) _ HP5.out HQ5.out HNX.out (by have := HLN.out; simp; omega) HXE.out HO5.out HS5.out.1 (HRM.out c (by rw [HNN.out]; exact hlt))).mono ?_
      rintro e w6 ⟨v6, rfl, hO6, hK6, hW6, hB6⟩
      have HN6 := Lib.hid (show Own3 B w6 v6 (F ++ ((ChL Q L im).take (c + 1)).flatMap fun x => growV Q T k (x :: im)) from by
        rw [take_succ HX.out, List.flatMap_append, List.flatMap_cons, List.flatMap_nil, List.append_nil, ← List.append_assoc]; exact hO6)
      have HKK := Lib.hid (HK15.out.trans (hK6.mono (fun b hb => HNE.out b hb.1 hb.2)))
      have HWW := Lib.hid (show v6.ownBlock = vF.ownBlock ∨ ∀ b, v6.ownBlock = some b → w1.heap.size ≤ b from by
        rcases hW6 with h | h
        · rw [h]; exact hW.out
        · exact .inr (fun b hb => Nat.le_trans HS5.out.2 (h b hb)))
      have HBB6 := Lib.hid (HB5.out.trans hB6)
      clear hO6 hK6 hW6 hB6 p0 p1 p2 q0 q1 q2
      go_wp2_with fail
      go_roundw
      case rel => exact ⟨c + 1, by omega, by go_num, HN6, HKK, HWW, HBB6⟩
      case measure => simp [intOf]; omega
    · obtain rfl : c = n := by omega
      have HR := Lib.hid (show GrR B w vF (F ++ growV Q T (k + 1) im) (.returned _) wr from by
        refine ⟨_, rfl, ?_, ?_, ?_, ?_⟩
        · have h := hO.out
          rw [← HNN.out, List.take_length, ← HGS.out] at h
          exact h
        · exact (Keep.mono HK1.out (fun _ _ => trivial)).trans (keepS1 hK.out)
        · rcases hW.out with h | h
          · exact .inl h
          · exact .inr (fun b hb => Nat.le_trans HK1.out.size (h b hb))
        · exact (HBW1.out.mono hB).trans hBB.out)
      go_wp2_with fail
      go_ret
      exact HR.out
theorem grow_any (T Q : Tw) (hT : Wf T) (hsT : Small T) (hQ : Wf Q) (hs : Small Q) (hg : Tow.Good Q) (hp : SpecI.Pr Q) (hz : sz Q ≤ 27) (hQ0 : 0 < T.length → 0 < Q.length) : ∀ k, k ≤ T.length → GrowSpec T Q k
  | 0, _ => grow_zero T Q hsT hs
  | k + 1, h => grow_succ T Q hT hsT hQ hs hg hp hz k (by omega) (.inl (hQ0 (by omega))) (fun _ => grow_any T Q hT hsT hQ hs hg hp hz hQ0 k (by omega))
theorem grow_top (T Q : Tw) (hT : Wf T) (hsT : Small T) (hQ : Wf Q) (hs : Small Q) (hg : Tow.Good Q) (hp : SpecI.Pr Q) (hz : sz Q ≤ 27) : GrowSpec T Q T.length := by
  rcases Nat.eq_zero_or_pos Q.length with h | h
  · obtain rfl : Q = [] := List.eq_nil_of_length_eq_zero h
    cases hn : T.length with
    | zero => exact grow_zero T [] hsT hs
    | succ k => exact grow_succ T [] hT hsT hQ hs hg hp hz k (by omega) (.inr ⟨rfl, by omega⟩) (fun h => absurd h (by simp))
  · exact grow_any T Q hT hsT hQ hs hg hp hz (fun _ => h) T.length (Nat.le_refl _)
end Go.Proofs.YtabkibmnghbahaaGreat.SpecU

import Derived.Test.YtbamkklhkhglnaaGreatDoorTow
/-
  Plain facts on towers, second part: zeros ahead, the conditions of a level one by one, powers, inverses. No program in sight.
-/
namespace Go.Proofs.YtbamkklhkhglnaaGreatDoor.Tow
set_option linter.unusedVariables false
set_option linter.unusedSimpArgs false

instance : Inhabited Lv := ⟨⟨0, [], []⟩⟩

/-- zeros ahead -/
def pad (s : Nat) (x : List Nat) : List Nat := List.replicate s 0 ++ x
theorem pad_zero (x : List Nat) : pad 0 x = x := rfl
theorem pad_succ (s : Nat) (x : List Nat) : pad (s + 1) x = 0 :: pad s x := rfl
theorem pad_add (s t : Nat) (x : List Nat) : pad s (pad t x) = pad (s + t) x := by
  simp [pad, ← List.append_assoc]
theorem pad_length (s : Nat) (x : List Nat) : (pad s x).length = s + x.length := by simp [pad]
theorem pad_drop (s : Nat) (x : List Nat) : (pad s x).drop s = x := by simp [pad]

theorem Wf_drop {T : Tw} (h : Wf T) (s : Nat) : Wf (T.drop s) := by
  induction s generalizing T with
  | zero => exact h
  | succ s ih => cases T with
    | nil => exact h
    | cons L T => exact ih h.2.2.2.2
theorem Good_drop {T : Tw} (h : Good T) (s : Nat) : Good (T.drop s) := by
  induction s generalizing T with
  | zero => exact h
  | succ s ih => cases T with
    | nil => exact h
    | cons L T => exact ih h.1
theorem El_drop {T : Tw} {x : List Nat} (h : El T x) (s : Nat) : El (T.drop s) (x.drop s) := by
  induction s generalizing T x with
  | zero => exact h
  | succ s ih => cases T with
    | nil => cases x with
      | nil => exact h
      | cons a x => exact absurd h (by simp [El])
    | cons L T => cases x with
      | nil => exact absurd h (by simp [El])
      | cons a x => exact ih h.2
theorem El_pad {T : Tw} (h : Wf T) (s : Nat) {x : List Nat} (hx : El (T.drop s) x) (hs : s ≤ T.length) : El T (pad s x) := by
  induction s generalizing T with
  | zero => exact hx
  | succ s ih => cases T with
    | nil => simp at hs
    | cons L T => exact ⟨by have := h.1; omega, ih h.2.2.2.2 hx (by simpa using hs)⟩
theorem El_take_append {T : Tw} {x y : List Nat} (s : Nat) (h : El T x) (hy : El (T.drop s) y) (hs : s ≤ T.length) : El T (x.take s ++ y) := by
  induction s generalizing T x with
  | zero => exact hy
  | succ s ih => cases T with
    | nil => simp at hs
    | cons L T => cases x with
      | nil => exact absurd h (by simp [El])
      | cons a x => exact ⟨h.1, ih h.2 hy (by simpa using hs)⟩
theorem El_append_drop {T : Tw} {x y : List Nat} (s : Nat) (h : El T (x ++ y)) (hs : x.length = s) : El (T.drop s) y := by
  have := El_drop h s
  rwa [List.drop_left' hs] at this
theorem one_drop (T : Tw) (s : Nat) : (one T).drop s = one (T.drop s) := by simp [one]
theorem one_pad (T : Tw) (s : Nat) (h : s ≤ T.length) : pad s (one (T.drop s)) = one T := by
  simp [pad, one, Nat.add_sub_cancel' h]
theorem unit_pad (T : Tw) (s j : Nat) (h : s ≤ T.length) : pad s (unit (T.drop s) j) = unit T (s + j) := by
  induction s generalizing T with
  | zero => simp [pad_zero]
  | succ s ih => cases T with
    | nil => simp at h
    | cons L T =>
      rw [pad_succ, Nat.succ_add, unit_succ, ← ih T (by simpa using h)]; rfl

/-- the product by an element with zeros ahead leaves the head -/
theorem mul_pad {T : Tw} (h : Wf T) (s : Nat) {x y : List Nat} (hx : El T x) (hy : El (T.drop s) y) (hs : s ≤ T.length) : mul T x (pad s y) = x.take s ++ mul (T.drop s) (x.drop s) y := by
  induction s generalizing T x with
  | zero => rfl
  | succ s ih => cases T with
    | nil => simp at hs
    | cons L T => cases x with
      | nil => exact absurd hx (by simp [El])
      | cons a x =>
        have := hx.1
        rw [pad_succ, mul_cons, if_neg (by omega), it, ih h.2.2.2.2 hx.2 hy (by simpa using hs)]; rfl
theorem mul_pads {T : Tw} (h : Wf T) (s : Nat) {x y : List Nat} (hx : El (T.drop s) x) (hy : El (T.drop s) y) (hs : s ≤ T.length) : mul T (pad s x) (pad s y) = pad s (mul (T.drop s) x y) := by
  rw [mul_pad h s (El_pad h s hx hs) hy hs, pad_drop]
  simp [pad]
theorem prodL_pad {α : Type} (m : α → α → α) (u : α) (cs : List α) (s : Nat) (y : List Nat) (hs : s ≤ cs.length) : prodL m u cs (pad s y) = prodL m u (cs.drop s) y := by
  induction s generalizing cs with
  | zero => rfl
  | succ s ih => cases cs with
    | nil => simp at hs
    | cons c cs => rw [pad_succ, prodL, it, ih cs (by simpa using hs)]; rfl
theorem img_pad (T : Tw) (c : List (List Nat)) (s : Nat) (y : List Nat) (hs : s ≤ c.length) : img T c (pad s y) = prodL (mul T) (one T) (c.drop s) y := prodL_pad _ _ _ _ _ hs
theorem npow_pad {T : Tw} (h : Wf T) (s : Nat) {x : List Nat} (hx : El (T.drop s) x) (hs : s ≤ T.length) (k : Nat) : npow (mul T) (one T) (pad s x) k = pad s (npow (mul (T.drop s)) (one (T.drop s)) x k) := by
  have hE : ∀ k, El (T.drop s) (npow (mul (T.drop s)) (one (T.drop s)) x k) := fun k => it_inv (El _) _ (fun z hz => El_mul (Wf_drop h s) hz hx) k _ (El_one (Wf_drop h s))
  induction k with
  | zero => exact (one_pad T s hs).symm
  | succ k ih => rw [npow_succ, ih, mul_pads h s (hE k) hx hs, npow_succ]

/-- the relations, one by one -/
theorem Rel_iff {α : Type} {m : α → α → α} {e : α} {T : Tw} (hT : Wf T) {cs : List α} : Rel m e T cs ↔ cs.length = T.length ∧ (∀ j < T.length, npow m e (cs.getD j e) (T.getD j default).o = ev m e (cs.drop (j + 1)) (T.getD j default).w) ∧
    (∀ j < T.length, ∀ k, j < k → k < T.length → m (cs.getD k e) (cs.getD j e) = m (cs.getD j e) (ev m e (cs.drop (j + 1)) ((T.getD j default).c.getD (k - j - 1) []))) := by
  induction T generalizing cs with
  | nil => cases cs with
    | nil => exact ⟨fun _ => ⟨rfl, fun j hj => absurd hj (Nat.not_lt_zero _), fun j hj => absurd hj (Nat.not_lt_zero _)⟩, fun _ => trivial⟩
    | cons c cs => exact ⟨fun h => absurd h (by simp [Rel]), fun h => absurd h.1 (by simp)⟩
  | cons L T ih => cases cs with
    | nil => exact ⟨fun h => absurd h (by simp [Rel]), fun h => absurd h.1 (by simp)⟩
    | cons c cs =>
      obtain ⟨h1, h2, h3, h4, h5⟩ := hT
      rw [Rel, ih h5]
      constructor
      · rintro ⟨a1, a2, b1, b2, b3⟩
        refine ⟨by simp [b1], fun j hj => ?_, fun j hj k hk hk' => ?_⟩
        · cases j with
          | zero => simpa using a1
          | succ j => simpa using b2 j (by simpa using hj)
        · cases j with
          | zero => cases k with
            | zero => omega
            | succ k =>
              have hk2 : k < cs.length := by simp at hk'; omega
              have := a2 k hk2 (by simp at hk'; omega)
              simpa [List.getD_eq_getElem?_getD, List.getElem?_eq_getElem hk2, List.getElem?_eq_getElem (show k < L.c.length by simp at hk'; omega)] using this
          | succ j => cases k with
            | zero => omega
            | succ k =>
              have := b3 j (by simpa using hj) k (by omega) (by simpa using hk')
              simpa [Nat.add_sub_add_right, show k + 1 - (j + 1) = k - j by omega] using this
      · rintro ⟨b1, b2, b3⟩
        have hl : cs.length = T.length := by simpa using b1
        refine ⟨by simpa using b2 0 (by simp), fun j p q => ?_, hl, fun j hj => ?_, fun j hj k hk hk' => ?_⟩
        · have := b3 0 (by simp) (j + 1) (by omega) (by simp; omega)
          simpa [List.getD_eq_getElem?_getD, List.getElem?_eq_getElem p, List.getElem?_eq_getElem q] using this
        · simpa using b2 (j + 1) (by simpa using hj)
        · have := b3 (j + 1) (by simpa using hj) (k + 1) (by omega) (by simpa using hk')
          simpa [show k + 1 - (j + 1) - 1 = k - j - 1 by omega] using this

/-- a level's conditions -/
def LvOk (L : Lv) (T : Tw) : Prop := Rel (mul T) (one T) T L.c ∧ img T L.c L.w = L.w ∧ ∀ j < T.length, mul T L.w (it (img T L.c) L.o (unit T j)) = mul T (unit T j) L.w
theorem Good_cons (L : Lv) (T : Tw) : Good (L :: T) ↔ Good T ∧ LvOk L T := Iff.rfl
theorem El_getD {T : Tw} {cs : List (List Nat)} (h : Wf T) (hc : ∀ y ∈ cs, El T y) (j : Nat) : El T (cs.getD j (one T)) := by
  rw [List.getD_eq_getElem?_getD]
  cases hj : cs[j]? with
  | none => exact El_one h
  | some y => exact hc y (List.mem_of_getElem? hj)
/-- the conditions of a level whose next tail is consistent, as the programs ask them -/
theorem LvOk_iff {L : Lv} {T : Tw} (h : Wf (L :: T)) (hg : Good T) : LvOk L T ↔
    (∀ j < T.length, npow (mul T) (one T) (L.c.getD j (one T)) (T.getD j default).o = img T L.c (pad (j + 1) (T.getD j default).w)) ∧
    (∀ j < T.length, ∀ k, j < k → k < T.length → mul T (L.c.getD k (one T)) (L.c.getD j (one T)) = mul T (L.c.getD j (one T)) (img T L.c (pad (j + 1) ((T.getD j default).c.getD (k - j - 1) [])))) ∧
    img T L.c L.w = L.w ∧ ∀ j < T.length, mul T L.w (it (img T L.c) L.o (unit T j)) = mul T (unit T j) L.w := by
  obtain ⟨h1, h2, h3, h4, h5⟩ := h
  have G := grp h5 hg
  have hp : ∀ j < T.length, ∀ y, img T L.c (pad (j + 1) y) = ev (mul T) (one T) (L.c.drop (j + 1)) y := fun j hj y => by
    rw [img_pad T L.c (j + 1) y (by omega), G.prodL_e (fun c hc => h4 c (List.mem_of_mem_drop hc)) y]
  rw [LvOk, Rel_iff h5]
  constructor
  · rintro ⟨⟨_, a1, a2⟩, a3, a4⟩
    exact ⟨fun j hj => by rw [hp j hj, a1 j hj], fun j hj k hk hk' => by rw [hp j hj, a2 j hj k hk hk'], a3, a4⟩
  · rintro ⟨a1, a2, a3, a4⟩
    exact ⟨⟨h3, fun j hj => by rw [← hp j hj, a1 j hj], fun j hj k hk hk' => by rw [← hp j hj, a2 j hj k hk hk']⟩, a3, a4⟩

theorem El_lt {T : Tw} {x : List Nat} (h : El T x) {j a : Nat} (ha : x[j]? = some a) : ∃ L, T[j]? = some L ∧ a < L.o := by
  induction T generalizing x j with
  | nil => cases x with
    | nil => simp at ha
    | cons b x => exact absurd h (by simp [El])
  | cons L T ih => cases x with
    | nil => exact absurd h (by simp [El])
    | cons b x => cases j with
      | zero => simp at ha; subst ha; exact ⟨L, rfl, h.1⟩
      | succ j => simpa using ih h.2 (by simpa using ha)
/-- small towers: at most six levels, orders at most seven -/
def Small (T : Tw) : Prop := T.length ≤ 6 ∧ ∀ L ∈ T, L.o ≤ 7
theorem Small.lt {T : Tw} (hs : Small T) {s : Nat} {x : List Nat} (h : El (T.drop s) (x.drop s)) {j a : Nat} (hj : s ≤ j) (ha : x[j]? = some a) : a < 7 := by
  obtain ⟨L, hL, hlt⟩ := El_lt h (j := j - s) (a := a) (by rw [List.getElem?_drop, Nat.add_sub_cancel' hj]; exact ha)
  have := hs.2 L (List.mem_of_mem_drop (List.mem_of_getElem? hL))
  omega
/-- the inverse in a group of a tower -/
theorem inv_unique {T : Tw} (h : Wf T) (hg : Good T) {a b : List Nat} (ha : El T a) (hb : El T b) (e : mul T a b = one T) : mul T b a = one T := by
  have G := grp h hg
  obtain ⟨c, hc, e1, e2⟩ := G.iv ha
  have : b = c := G.cancelL ha hb hc (e.trans e1.symm)
  rw [this]; exact e2

/-- a product in the making: the first j elements done, the next one k times -/
def prR {α : Type} (m : α → α → α) (u d : α) (cs : List α) (y : List Nat) (j k : Nat) : α := it (fun z => m z (cs.getD j d)) k (prodL m u (cs.take j) (y.take j))
theorem prR_zero {α : Type} (m : α → α → α) (u d : α) (cs : List α) (y : List Nat) : prR m u d cs y 0 0 = u := by cases cs <;> rfl
theorem prR_step {α : Type} (m : α → α → α) (u d : α) (cs : List α) (y : List Nat) (j k : Nat) : prR m u d cs y j (k + 1) = m (prR m u d cs y j k) (cs.getD j d) := it_succ' _ _ _
theorem prodL_take {α : Type} (m : α → α → α) (u : α) (cs : List α) (y : List Nat) (j a : Nat) (c : α) (hc : cs[j]? = some c) (hy : y[j]? = some a) : prodL m u (cs.take (j + 1)) (y.take (j + 1)) = it (fun z => m z c) a (prodL m u (cs.take j) (y.take j)) := by
  induction j generalizing u cs y with
  | zero => cases cs with
    | nil => simp at hc
    | cons d cs => cases y with
      | nil => simp at hy
      | cons b y => simp at hc hy; subst hc; subst hy; cases cs <;> rfl
  | succ j ih => cases cs with
    | nil => simp at hc
    | cons d cs => cases y with
      | nil => simp at hy
      | cons b y => exact ih _ cs y (by simpa using hc) (by simpa using hy)
theorem prR_next {α : Type} (m : α → α → α) (u d : α) (cs : List α) (y : List Nat) (j a : Nat) (hj : j < cs.length) (hy : y[j]? = some a) : prR m u d cs y j a = prR m u d cs y (j + 1) 0 := by
  have hc : cs[j]? = some (cs.getD j d) := by rw [List.getD_eq_getElem?_getD, List.getElem?_eq_getElem hj]; rfl
  exact (prodL_take m u cs y j a _ hc hy).symm
theorem prR_end {α : Type} (m : α → α → α) (u d : α) (cs : List α) (y : List Nat) (j : Nat) (hj : cs.length ≤ j) (hy : y.length ≤ j) : prR m u d cs y j 0 = prodL m u cs y := by
  show prodL m u (cs.take j) (y.take j) = _
  rw [List.take_of_length_le hj, List.take_of_length_le hy]
theorem prR_inv {α : Type} (M : α → Prop) (m : α → α → α) (hm : ∀ x y, M x → M y → M (m x y)) (u d : α) (cs : List α) (y : List Nat) (hu : M u) (hd : M d) (hc : ∀ c ∈ cs, M c) (j k : Nat) : M (prR m u d cs y j k) := by
  refine it_inv M _ (fun z hz => hm _ _ hz ?_) k _ (prodL_inv M m hm _ (fun c h => hc c (List.mem_of_mem_take h)) _ _ hu)
  rw [List.getD_eq_getElem?_getD]
  cases h : cs[j]? with
  | none => exact hd
  | some c => exact hc c (List.mem_of_getElem? h)

theorem IsG.npow_sq {α : Type} {M : α → Prop} {m : α → α → α} {e : α} (G : IsG M m e) {b : α} (hb : M b) (h : Nat) : Tow.npow m e (m b b) h = Tow.npow m e b (2 * h) := by
  induction h with
  | zero => rfl
  | succ h ih =>
    rw [npow_succ, ih, show 2 * (h + 1) = 2 * h + 1 + 1 by omega, npow_succ, npow_succ, G.as (G.npow hb _) hb hb]
theorem IsG.npow_comm {α : Type} {M : α → Prop} {m : α → α → α} {e : α} (G : IsG M m e) {b : α} (hb : M b) (h : Nat) : m b (Tow.npow m e b h) = Tow.npow m e b (h + 1) := by
  rw [Nat.add_comm, G.npow_add hb 1 h, G.npow_one hb]
/-- a step of the power by squaring -/
theorem IsG.rep_even {α : Type} {M : α → Prop} {m : α → α → α} {e : α} (G : IsG M m e) {o b : α} (hb : M b) {k : Nat} (hk : k % 2 = 0) : m o (Tow.npow m e b k) = m o (Tow.npow m e (m b b) (k / 2)) := by
  rw [G.npow_sq hb, show 2 * (k / 2) = k by omega]
theorem IsG.rep_odd {α : Type} {M : α → Prop} {m : α → α → α} {e : α} (G : IsG M m e) {o b : α} (ho : M o) (hb : M b) {k : Nat} (hk : k % 2 = 1) : m o (Tow.npow m e b k) = m (m o b) (Tow.npow m e (m b b) (k / 2)) := by
  rw [G.npow_sq hb, G.as ho hb (G.npow hb _), G.npow_comm hb, show 2 * (k / 2) + 1 = k by omega]

/-- exponents up to an index, the one there cut to k, zeros behind -/
def cut (f : List Nat) (j k : Nat) : List Nat := f.take j ++ k :: List.replicate (f.length - j - 1) 0
end Go.Proofs.YtbamkklhkhglnaaGreatDoor.Tow

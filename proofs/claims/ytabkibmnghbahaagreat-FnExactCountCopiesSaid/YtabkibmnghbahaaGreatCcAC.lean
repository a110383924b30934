import Derived.Test.YtabkibmnghbahaaGreatGenD
/-
  Plain: the embeddings of one tower in another; how many there are. No program in sight.
-/
namespace Go.Proofs.YtabkibmnghbahaaGreat.CcA
open Go.Proofs.YtabkibmnghbahaaGreat Go.Proofs.YtabkibmnghbahaaGreat.Tow Go.Proofs.YtabkibmnghbahaaGreat.Gen Go.Proofs.YtabkibmnghbahaaGreat.GenC Go.Proofs.YtabkibmnghbahaaGreat.NumT Go.Proofs.YtabkibmnghbahaaGreat.GenD
set_option linter.unusedVariables false
set_option linter.unusedSimpArgs false

structure Emb (Q T : Tw) (cs : List (List Nat)) : Prop where
  el : ∀ c ∈ cs, El Q c
  rel : Rel (mul Q) (one Q) T cs
  inj : ∀ x y, El T x → El T y → ev (mul Q) (one Q) cs x = ev (mul Q) (one Q) cs y → x = y
def Prm (T : Tw) : Prop := ∀ L ∈ T, L.o = 2 ∨ L.o = 3 ∨ L.o = 5 ∨ L.o = 7
theorem inv_small {o d : Nat} (ho : o = 2 ∨ o = 3 ∨ o = 5 ∨ o = 7) (h0 : 0 < d) (hd : d < o) : ∃ m n, d * m = 1 + o * n := by
  have h : ∀ o ∈ [2, 3, 5, 7], ∀ d, d < o → 0 < d → ∃ m, m < 8 ∧ ∃ n, n < 8 ∧ d * m = 1 + o * n := by decide
  obtain ⟨m, _, n, _, e⟩ := h o (by rcases ho with rfl | rfl | rfl | rfl <;> simp) d hd h0
  exact ⟨m, n, e⟩
theorem ev_one {Q : Tw} (hQ : Wf Q) (hg : Tow.Good Q) : ∀ (cs : List (List Nat)) (n : Nat), ev (mul Q) (one Q) cs (List.replicate n 0) = one Q
  | [], n => by cases n <;> rfl
  | d :: ds, 0 => rfl
  | d :: ds, n + 1 => (congrArg (mul Q _) (ev_one hQ hg ds n)).trans (by have G := grp hQ hg; rw [npow_zero, G.eL G.me])
theorem ev_zero {Q : Tw} (hQ : Wf Q) (hg : Tow.Good Q) {x : List Nat} {im : List (List Nat)} (hi : ∀ c ∈ im, El Q c) (z : List Nat) : ev (mul Q) (one Q) (x :: im) (0 :: z) = ev (mul Q) (one Q) im z := by
  have G := grp hQ hg
  show mul Q (npow (mul Q) (one Q) x 0) _ = _
  rw [npow_zero, G.eL (G.ev hi z)]
/-- what the images of a tower make -/
def Im (Q T : Tw) (cs : List (List Nat)) (c : List Nat) : Prop := ∃ z, El T z ∧ ev (mul Q) (one Q) cs z = c
theorem im_div {Q T : Tw} (hQ : Wf Q) (hg : Tow.Good Q) (hT : Wf T) (hgT : Tow.Good T) {im : List (List Nat)} (hi : ∀ c ∈ im, El Q c) (hR : Rel (mul Q) (one Q) T im) {c v : List Nat} (hc : El Q c) (h : Im Q T im (mul Q c v)) (hv : Im Q T im v) : Im Q T im c := by
  have G := grp hQ hg
  have GT := grp hT hgT
  obtain ⟨z, hz, e⟩ := h
  obtain ⟨y, hy, rfl⟩ := hv
  obtain ⟨y', hy', h1, h2⟩ := GT.iv hy
  refine ⟨mul T z y', GT.cl hz hy', ?_⟩
  refine G.cancelR (G.ev hi y) (G.ev hi _) hc ?_
  rw [← e, ← G.hom hT hi hR (GT.cl hz hy') hy, GT.as hz hy' hy, h2, GT.eR hz]
theorem im_mul {Q T : Tw} (hQ : Wf Q) (hg : Tow.Good Q) (hT : Wf T) {im : List (List Nat)} (hi : ∀ c ∈ im, El Q c) (hR : Rel (mul Q) (one Q) T im) {c v : List Nat} (h : Im Q T im c) (hv : Im Q T im v) : Im Q T im (mul Q c v) := by
  have G := grp hQ hg
  obtain ⟨z, hz, rfl⟩ := h
  obtain ⟨y, hy, rfl⟩ := hv
  exact ⟨mul T z y, El_mul hT hz hy, G.hom hT hi hR hz hy⟩
theorem im_one {Q T : Tw} (hQ : Wf Q) (hg : Tow.Good Q) (hT : Wf T) {im : List (List Nat)} : Im Q T im (one Q) := ⟨one T, El_one hT, ev_one hQ hg im _⟩
theorem im_pow {Q T : Tw} (hQ : Wf Q) (hg : Tow.Good Q) (hT : Wf T) {im : List (List Nat)} (hi : ∀ c ∈ im, El Q c) (hR : Rel (mul Q) (one Q) T im) {c : List Nat} (h : Im Q T im c) : ∀ k, Im Q T im (npow (mul Q) (one Q) c k)
  | 0 => im_one hQ hg hT
  | k + 1 => by rw [npow_succ]; exact im_mul hQ hg hT hi hR (im_pow hQ hg hT hi hR h k) h
theorem gen_im {Q T : Tw} (hQ : Wf Q) (hg : Tow.Good Q) (hT : Wf T) {im : List (List Nat)} (hi : ∀ c ∈ im, El Q c) (hR : Rel (mul Q) (one Q) T im) (c : List Nat) : Gen (mul Q) (one Q) im c ↔ Im Q T im c := gen_ev hQ hg hT hi hR c
theorem emb_lt {Q T : Tw} {L : Lv} (hQ : Wf Q) (hg : Tow.Good Q) (hT : Wf (L :: T)) (hgT : Tow.Good T) (hp : L.o = 2 ∨ L.o = 3 ∨ L.o = 5 ∨ L.o = 7) {im : List (List Nat)} {x : List Nat} (hi : ∀ c ∈ im, El Q c) (hR : Rel (mul Q) (one Q) T im) (hx : El Q x) (hF : FitsV Q L im x) (hn : ¬ Gen (mul Q) (one Q) im x)
    {a b : Nat} {z y : List Nat} (hz : El T z) (hy : El T y) (hab : a < b) (hb : b < L.o) (e : mul Q (npow (mul Q) (one Q) x a) (ev (mul Q) (one Q) im z) = mul Q (npow (mul Q) (one Q) x b) (ev (mul Q) (one Q) im y)) : False := by
  have G := grp hQ hg
  have hT' := hT.2.2.2.2
  obtain ⟨m, n, hmn⟩ := inv_small hp (show 0 < b - a by omega) (show b - a < L.o by omega)
  have ha := G.npow hx a
  have hd := G.npow hx (b - a)
  rw [show b = a + (b - a) by omega, G.npow_add hx, G.as ha hd (G.ev hi y)] at e
  have e1 := G.cancelL ha (G.ev hi z) (G.cl hd (G.ev hi y)) e
  have h1 : Im Q T im (npow (mul Q) (one Q) x (b - a)) := im_div hQ hg hT' hgT hi hR hd ⟨z, hz, e1⟩ ⟨y, hy, rfl⟩
  have h2 : Im Q T im (npow (mul Q) (one Q) x (1 + L.o * n)) := by
    have := im_pow hQ hg hT' hi hR h1 m
    rw [npow_mul G hx, hmn] at this
    exact this
  have h3 : Im Q T im (npow (mul Q) (one Q) x (L.o * n)) := by
    rw [← npow_mul G hx, hF.1]
    exact im_pow hQ hg hT' hi hR ⟨L.w, hT.2.1, rfl⟩ n
  rw [G.npow_add hx, G.npow_one hx] at h2
  exact hn ((gen_im hQ hg hT' hi hR x).2 (im_div hQ hg hT' hgT hi hR hx h2 h3))
theorem emb_cons {Q T : Tw} {L : Lv} (hQ : Wf Q) (hg : Tow.Good Q) (hT : Wf (L :: T)) (hgT : Tow.Good T) (hp : L.o = 2 ∨ L.o = 3 ∨ L.o = 5 ∨ L.o = 7) {im : List (List Nat)} {x : List Nat} :
    Emb Q (L :: T) (x :: im) ↔ Emb Q T im ∧ El Q x ∧ FitsV Q L im x ∧ ¬ Gen (mul Q) (one Q) im x := by
  have G := grp hQ hg
  have hT' := hT.2.2.2.2
  have ho := hT.1
  constructor
  · rintro ⟨hel, ⟨r1, r2, r3⟩, hinj⟩
    have hi : ∀ c ∈ im, El Q c := fun c hc => hel c (List.mem_cons_of_mem _ hc)
    have hx := hel x List.mem_cons_self
    have hl := Rel_length r3
    have hE : Emb Q T im := ⟨hi, r3, fun z y hz hy e => by
      have := hinj (0 :: z) (0 :: y) ⟨by omega, hz⟩ ⟨by omega, hy⟩ (by rw [ev_zero hQ hg hi, ev_zero hQ hg hi, e])
      simpa using this⟩
    refine ⟨hE, hx, ⟨r1, fun k y hk => ?_⟩, fun h => ?_⟩
    · have hkl := (List.getElem?_eq_some_iff.1 hk).1
      have hkm : k < im.length := by rw [hl, ← hT.2.2.1]; exact hkl
      have := r2 k hkm hkl
      rw [List.getD_eq_getElem?_getD, List.getElem?_eq_getElem hkm]
      rw [(List.getElem?_eq_some_iff.1 hk).2] at this
      exact this
    · obtain ⟨z, hz, e⟩ := (gen_im hQ hg hT' hi r3 x).1 h
      have := hinj (1 :: one T) (0 :: z) ⟨by omega, El_one hT'⟩ ⟨by omega, hz⟩ (by
        rw [ev_zero hQ hg hi, e]
        show mul Q (npow (mul Q) (one Q) x 1) (ev (mul Q) (one Q) im (List.replicate T.length 0)) = x
        rw [ev_one hQ hg, G.npow_one hx, G.eR hx])
      simp at this
  · rintro ⟨hE, hx, hF, hn⟩
    refine ⟨fun c hc => ?_, rel_cons hT.2.2.1 hE.rel hF, fun u v hu hv e => ?_⟩
    · rcases List.mem_cons.1 hc with rfl | hc
      · exact hx
      · exact hE.el c hc
    · cases u with
      | nil => exact hu.elim
      | cons a z => cases v with
        | nil => exact hv.elim
        | cons b y =>
          have e' : mul Q (npow (mul Q) (one Q) x a) (ev (mul Q) (one Q) im z) = mul Q (npow (mul Q) (one Q) x b) (ev (mul Q) (one Q) im y) := e
          rcases Nat.lt_trichotomy a b with h | h | h
          · exact (emb_lt hQ hg hT hgT hp hE.el hE.rel hx hF hn hu.2 hv.2 h hv.1 e').elim
          · subst h
            have := hE.inj z y hu.2 hv.2 (G.cancelL (G.npow hx a) (G.ev hE.el z) (G.ev hE.el y) e')
            rw [this]
          · exact (emb_lt hQ hg hT hgT hp hE.el hE.rel hx hF hn hv.2 hu.2 h hu.1 e'.symm).elim
theorem emb_nil {Q : Tw} : Emb Q [] [] := ⟨by simp, trivial, fun x y hx hy _ => by
  cases x with
  | nil => cases y with
    | nil => rfl
    | cons b y => exact hy.elim
  | cons a x => exact hx.elim⟩
theorem Emb.len {Q T : Tw} {cs : List (List Nat)} (h : Emb Q T cs) : cs.length = T.length := Rel_length h.rel
theorem emb_drop {Q T : Tw} (hQ : Wf Q) (hg : Tow.Good Q) (hT : Wf T) (hgT : Tow.Good T) (hp : Prm T) {cs : List (List Nat)} (h : Emb Q T cs) : ∀ k, k ≤ T.length → Emb Q (T.drop k) (cs.drop k)
  | 0, _ => h
  | k + 1, hk => by
    have ih := emb_drop hQ hg hT hgT hp h k (by omega)
    obtain ⟨L, hL⟩ : ∃ L, T[k]? = some L := ⟨_, List.getElem?_eq_getElem (by omega)⟩
    have hkc : k < cs.length := by rw [h.len]; omega
    have hw := Wf_drop hT k
    have hgd := Good_drop hgT (k + 1)
    rw [drop_cons' hL] at ih hw
    rw [List.drop_eq_getElem_cons hkc] at ih
    exact ((emb_cons hQ hg hw hgd (hp L (List.mem_of_getElem? hL))).1 ih).1
theorem growV_drop {Q T : Tw} : ∀ (k : Nat) (im cs : List (List Nat)), cs ∈ growV Q T k im → cs.drop k = im
  | 0, im, cs, h => by simpa [growV] using h
  | k + 1, im, cs, h => by
    rw [growV, List.mem_flatMap] at h
    obtain ⟨t, _, h⟩ := h
    split at h
    · have := growV_drop k _ _ h
      rw [← List.drop_drop, this]; rfl
    · simp at h
theorem mem_growV {Q T : Tw} (hQ : Wf Q) (hg : Tow.Good Q) (hT : Wf T) (hgT : Tow.Good T) (hp : Prm T) : ∀ k, k ≤ T.length → ∀ im, Emb Q (T.drop k) im → ∀ cs, cs ∈ growV Q T k im ↔ Emb Q T cs ∧ cs.drop k = im
  | 0, _, im, h, cs => by
    rw [growV, List.mem_singleton, List.drop_zero]
    constructor
    · rintro rfl; exact ⟨h, rfl⟩
    · exact fun h => h.2
  | k + 1, hk, im, h, cs => by
    obtain ⟨L, hL⟩ : ∃ L, T[k]? = some L := ⟨_, List.getElem?_eq_getElem (by omega)⟩
    have hLd : T.getD k ⟨0, [], []⟩ = L := by rw [List.getD_eq_getElem?_getD, hL]; rfl
    have hw := Wf_drop hT k
    have hgd := Good_drop hgT (k + 1)
    rw [drop_cons' hL] at hw
    have hpk := hp L (List.mem_of_getElem? hL)
    rw [growV, List.mem_flatMap, hLd]
    constructor
    · rintro ⟨t, ht, hm⟩
      split at hm
      · next hc =>
        have hE : Emb Q (T.drop k) (at_ Q t :: im) := by
          rw [drop_cons' hL]
          exact (emb_cons hQ hg hw hgd hpk).2 ⟨h, at_El hQ t, hc.2, hc.1⟩
        have := (mem_growV hQ hg hT hgT hp k (by omega) _ hE cs).1 hm
        exact ⟨this.1, by rw [← List.drop_drop, this.2]; rfl⟩
      · simp at hm
    · rintro ⟨hE, hd⟩
      have hkc : k < cs.length := by rw [hE.len]; omega
      have hEk := emb_drop hQ hg hT hgT hp hE k (by omega)
      rw [drop_cons' hL, List.drop_eq_getElem_cons hkc, hd] at hEk
      have hc := (emb_cons hQ hg hw hgd hpk).1 hEk
      have hat := at_num hQ hc.2.1
      refine ⟨num Q cs[k], List.mem_range.2 (num_lt hc.2.1 hQ), ?_⟩
      rw [hat, if_pos ⟨hc.2.2.2, hc.2.2.1⟩]
      refine (mem_growV hQ hg hT hgT hp k (by omega) _ (by rw [drop_cons' hL]; exact hEk) cs).2 ⟨hE, ?_⟩
      rw [List.drop_eq_getElem_cons hkc, hd]
theorem growV_nodup {Q T : Tw} : ∀ (k : Nat) (im : List (List Nat)), (growV Q T k im).Nodup
  | 0, im => by simp [growV]
  | k + 1, im => by
    rw [growV]
    refine List.pairwise_flatMap.2 ⟨fun t _ => ?_, ?_⟩
    · split
      · exact growV_nodup k _
      · exact List.Pairwise.nil
    · refine List.pairwise_iff_getElem.2 fun i j hi hj hij x hx y hy => ?_
      simp only [List.length_range] at hi hj
      simp only [List.getElem_range] at hx hy
      split at hx
      · split at hy
        · intro e
          have h1 := growV_drop k _ _ hx
          have h2 := growV_drop k _ _ hy
          rw [e, h2] at h1
          have := at_inj hj hi (List.cons.inj h1).1
          omega
        · simp at hy
      · simp at hx
end Go.Proofs.YtabkibmnghbahaaGreat.CcA

/-
  Plain: embeddings one behind the other; the number of the subgroups of a type. No program in sight.
-/
namespace Go.Proofs.YtabkibmnghbahaaGreat.CcB
open Go.Proofs.YtabkibmnghbahaaGreat Go.Proofs.YtabkibmnghbahaaGreat.Tow Go.Proofs.YtabkibmnghbahaaGreat.Gen Go.Proofs.YtabkibmnghbahaaGreat.GenC Go.Proofs.YtabkibmnghbahaaGreat.NumT Go.Proofs.YtabkibmnghbahaaGreat.GenD Go.Proofs.YtabkibmnghbahaaGreat.CcA
set_option linter.unusedVariables false
set_option linter.unusedSimpArgs false

section
variable {α β : Type} {M : α → Prop} {m : α → α → α} {e : α} {m' : β → β → β} {e' : β}
theorem npow_map (G : IsG M m e) (f : α → β) (he : f e = e') (hf : ∀ a b, M a → M b → f (m a b) = m' (f a) (f b)) {c : α} (hc : M c) : ∀ k, f (npow m e c k) = npow m' e' (f c) k
  | 0 => he
  | k + 1 => by rw [npow_succ, hf _ _ (G.npow hc k) hc, npow_map G f he hf hc k, npow_succ]
theorem rel_map (G : IsG M m e) (f : α → β) (he : f e = e') (hf : ∀ a b, M a → M b → f (m a b) = m' (f a) (f b)) (hi : ∀ a b, M a → M b → f a = f b → a = b) : ∀ (T : Tw) (cs : List α), (∀ c ∈ cs, M c) → (Rel m' e' T (cs.map f) ↔ Rel m e T cs)
  | [], [], _ => Iff.rfl
  | [], _ :: _, _ => Iff.rfl
  | _ :: _, [], _ => Iff.rfl
  | L :: T, c :: cs, hc => by
    have h1 := hc c List.mem_cons_self
    have h2 : ∀ d ∈ cs, M d := fun d hd => hc d (List.mem_cons_of_mem _ hd)
    have hev : ∀ x, ev m' e' (cs.map f) x = f (ev m e cs x) := fun x => (ev_map G f he hf h2 x).symm
    rw [List.map_cons]
    show (_ ∧ _ ∧ _) ↔ (_ ∧ _ ∧ _)
    refine and_congr ?_ (and_congr ?_ (rel_map G f he hf hi T cs h2))
    · rw [hev, ← npow_map G f he hf h1]
      exact ⟨fun h => hi _ _ (G.npow h1 _) (G.ev h2 _) h, fun h => by rw [h]⟩
    · constructor
      · intro h j hj hj'
        have := h j (by simpa using hj) hj'
        rw [List.getElem_map, hev, ← hf _ _ (h2 _ (List.getElem_mem hj)) h1, ← hf _ _ h1 (G.ev h2 _)] at this
        exact hi _ _ (G.cl (h2 _ (List.getElem_mem hj)) h1) (G.cl h1 (G.ev h2 _)) this
      · intro h j hj hj'
        have hj2 : j < cs.length := by simpa using hj
        have := h j hj2 hj'
        rw [List.getElem_map, hev, ← hf _ _ (h2 _ (List.getElem_mem hj2)) h1, ← hf _ _ h1 (G.ev h2 _), this]
end
theorem ev_unit {Q : Tw} (hQ : Wf Q) (hg : Tow.Good Q) : ∀ (cs : List (List Nat)) (T : Tw), (∀ c ∈ cs, El Q c) → cs.length = T.length → ∀ j c, cs[j]? = some c → ev (mul Q) (one Q) cs (unit T j) = c
  | [], T, _, _, j, c, hj => by simp at hj
  | d :: ds, [], _, hl, j, c, hj => by simp at hl
  | d :: ds, L :: T, hd, hl, j, c, hj => by
    have G := grp hQ hg
    have hd1 := hd d List.mem_cons_self
    cases j with
    | zero =>
      simp only [List.getElem?_cons_zero, Option.some.injEq] at hj
      subst hj
      rw [unit_zero]
      show mul Q (npow (mul Q) (one Q) d 1) (ev (mul Q) (one Q) ds (List.replicate T.length 0)) = d
      rw [G.npow_one hd1, ev_one hQ hg, G.eR hd1]
    | succ j =>
      rw [unit_succ, ev_zero hQ hg (fun c hc => hd c (List.mem_cons_of_mem _ hc))]
      exact ev_unit hQ hg ds T (fun x hx => hd x (List.mem_cons_of_mem _ hx)) (by simpa using hl) j c (by simpa using hj)
theorem prodL_zeros {α : Type} (m : α → α → α) : ∀ (cs : List α) (u : α) (n : Nat), prodL m u cs (List.replicate n 0) = u
  | [], u, n => by cases n <;> rfl
  | c :: cs, u, 0 => rfl
  | c :: cs, u, n + 1 => prodL_zeros m cs u n
theorem mul_00 {L : Lv} {T : Tw} (h : 2 ≤ L.o) (y z : List Nat) : mul (L :: T) (0 :: y) (0 :: z) = 0 :: mul T y z := by
  rw [mul_cons, if_neg (by omega)]; rfl
theorem npow_first {L : Lv} {T : Tw} (h : Wf (L :: T)) (hg : Tow.Good T) : ∀ k, k < L.o → npow (mul (L :: T)) (one (L :: T)) (unit (L :: T) 0) k = k :: one T
  | 0, _ => rfl
  | k + 1, hk => by
    have hE : El (L :: T) (k :: one T) := ⟨by omega, El_one h.2.2.2.2⟩
    rw [npow_succ, npow_first h hg k (by omega), ← tg_mul h hg hE, tg, if_neg (by omega), if_neg (by omega)]
    exact congrArg _ (prodL_zeros _ _ _ _)
theorem npow_last {L : Lv} {T : Tw} (h : Wf (L :: T)) (hg : Tow.Good T) : npow (mul (L :: T)) (one (L :: T)) (unit (L :: T) 0) L.o = 0 :: L.w := by
  obtain ⟨k, hk⟩ : ∃ k, L.o = k + 1 := ⟨L.o - 1, by have := h.1; omega⟩
  have hE : El (L :: T) (k :: one T) := ⟨by omega, El_one h.2.2.2.2⟩
  rw [hk, npow_succ, npow_first h hg k (by omega), ← tg_mul h hg hE, tg, if_pos (by omega), if_pos (by omega)]
  exact congrArg _ (prodL_zeros _ _ _ _)
theorem rel_gens : ∀ {T : Tw}, Wf T → Tow.Good T → Rel (mul T) (one T) T (gens T)
  | [], _, _ => trivial
  | L :: T, h, hg => by
    have h5 := h.2.2.2.2
    have h4 := h.2.2.2.1
    have g0 := hg.1
    have G := grp h5 g0
    have hm0 := mul_00 (L := L) (T := T) h.1
    have hge := gens_El h5
    have hev : ∀ x, El T x → ev (mul (L :: T)) (one (L :: T)) ((gens T).map (0 :: ·)) x = 0 :: x := fun x hx => by
      rw [← ev_map (f := (0 :: ·)) (m' := mul (L :: T)) (e' := one (L :: T)) G rfl (fun a b _ _ => (hm0 a b).symm) hge x, ev_gens h5 g0 hx]
    rw [gens_cons]
    refine ⟨?_, fun j hj hj' => ?_, ?_⟩
    · rw [npow_last h g0, hev _ h.2.1]
    · have hjT : j < T.length := by simpa [gens] using hj
      have hcE := h4 _ (List.getElem_mem hj')
      have hgj : (gens T)[j]'(by simpa [gens] using hjT) = unit T j := by simp [gens]
      have htg := tg_mul (x := 0 :: unit T j) h g0 ⟨by have := h.1; omega, El_unit h5 j⟩
      rw [List.getElem_map, hgj, hev _ hcE, ← htg, tg, if_neg (by have := h.1; omega), if_neg (by have := h.1; omega), unit_zero, mul_cons, if_neg (by have := h.1; omega)]
      show 1 :: prodL (mul T) (one T) L.c (unit T j) = 1 :: mul T (one T) L.c[j]
      rw [G.prodL_e h4, G.eL hcE, ev_unit h5 g0 L.c T h4 h.2.2.1 j L.c[j] (List.getElem?_eq_getElem hj')]
    · refine (rel_map G (0 :: ·) rfl (fun a b _ _ => (hm0 a b).symm) (fun a b _ _ hab => by simpa using hab) T (gens T) hge).2 (rel_gens h5 g0)
theorem emb_id {T : Tw} (h : Wf T) (hg : Tow.Good T) : Emb T T (gens T) := ⟨gens_El h, rel_gens h hg, fun x y hx hy e => by rwa [ev_gens h hg hx, ev_gens h hg hy] at e⟩

/-- the map of an embedding -/
abbrev phi (Q : Tw) (u : List (List Nat)) (z : List Nat) : List Nat := ev (mul Q) (one Q) u z
theorem comp {Q S T : Tw} (hQ : Wf Q) (hg : Tow.Good Q) (hS : Wf S) (hgS : Tow.Good S) {u cs : List (List Nat)} (hu : Emb Q S u) (hc : Emb S T cs) : Emb Q T (cs.map (phi Q u)) := by
  have G := grp hQ hg
  have GS := grp hS hgS
  have he : phi Q u (one S) = one Q := ev_one hQ hg u _
  have hf : ∀ a b, El S a → El S b → phi Q u (mul S a b) = mul Q (phi Q u a) (phi Q u b) := fun a b ha hb => G.hom hS hu.el hu.rel ha hb
  refine ⟨fun c h => ?_, (rel_map GS (phi Q u) he hf (fun a b ha hb h => hu.inj a b ha hb h) T cs hc.el).2 hc.rel, fun x y hx hy e => ?_⟩
  · obtain ⟨d, _, rfl⟩ := List.mem_map.1 h
    exact G.ev hu.el d
  · rw [← ev_map GS (phi Q u) he hf hc.el, ← ev_map GS (phi Q u) he hf hc.el] at e
    exact hc.inj x y hx hy (hu.inj _ _ (GS.ev hc.el x) (GS.ev hc.el y) e)
theorem factor {Q S T : Tw} (hQ : Wf Q) (hg : Tow.Good Q) (hS : Wf S) (hgS : Tow.Good S) {u es : List (List Nat)} (hu : Emb Q S u) (hE : Emb Q T es) (hin : ∀ c ∈ es, Im Q S u c) : ∃ cs, Emb S T cs ∧ es = cs.map (phi Q u) := by
  classical
  have G := grp hQ hg
  have GS := grp hS hgS
  have he : phi Q u (one S) = one Q := ev_one hQ hg u _
  have hf : ∀ a b, El S a → El S b → phi Q u (mul S a b) = mul Q (phi Q u a) (phi Q u b) := fun a b ha hb => G.hom hS hu.el hu.rel ha hb
  let F : List Nat → List Nat := fun c => if h : ∃ z, El S z ∧ phi Q u z = c then Classical.choose h else []
  have hF : ∀ c ∈ es, El S (F c) ∧ phi Q u (F c) = c := fun c hc => by
    have h : ∃ z, El S z ∧ phi Q u z = c := hin c hc
    have e : F c = Classical.choose h := dif_pos h
    rw [e]
    exact Classical.choose_spec h
  have hel : ∀ d ∈ es.map F, El S d := fun d hd => by
    obtain ⟨c, hc, rfl⟩ := List.mem_map.1 hd
    exact (hF c hc).1
  have hes : es = (es.map F).map (phi Q u) := by
    rw [List.map_map]
    conv => lhs; rw [← List.map_id es]
    exact List.map_congr_left fun c hc => ((hF c hc).2).symm
  refine ⟨es.map F, ⟨hel, ?_, fun x y hx hy e => ?_⟩, hes⟩
  · refine (rel_map GS (phi Q u) he hf (fun a b ha hb h => hu.inj a b ha hb h) T _ hel).1 ?_
    rw [← hes]; exact hE.rel
  · refine hE.inj x y hx hy ?_
    rw [hes, ← ev_map GS (phi Q u) he hf hel, ← ev_map GS (phi Q u) he hf hel, e]
/-- the embeddings through a subgroup -/
noncomputable def thr (Q S T : Tw) (u : List (List Nat)) : List (List (List Nat)) := (growV S T T.length []).map fun cs => cs.map (phi Q u)
theorem growV_iff {Q T : Tw} (hQ : Wf Q) (hg : Tow.Good Q) (hT : Wf T) (hgT : Tow.Good T) (hp : Prm T) (cs : List (List Nat)) : cs ∈ growV Q T T.length [] ↔ Emb Q T cs := by
  rw [mem_growV hQ hg hT hgT hp T.length (Nat.le_refl _) [] (by rw [List.drop_length]; exact emb_nil)]
  exact ⟨fun h => h.1, fun h => ⟨h, List.drop_eq_nil_of_le (by rw [h.len]; exact Nat.le_refl _)⟩⟩
theorem mem_thr {Q S T : Tw} (hQ : Wf Q) (hg : Tow.Good Q) (hS : Wf S) (hgS : Tow.Good S) (hT : Wf T) (hgT : Tow.Good T) (hp : Prm T) {u : List (List Nat)} (hu : Emb Q S u) (es : List (List Nat)) : es ∈ thr Q S T u ↔ Emb Q T es ∧ ∀ c ∈ es, Im Q S u c := by
  unfold thr
  rw [List.mem_map]
  constructor
  · rintro ⟨cs, hcs, rfl⟩
    have h := (growV_iff hS hgS hT hgT hp cs).1 hcs
    refine ⟨comp hQ hg hS hgS hu h, fun c hc => ?_⟩
    obtain ⟨d, hd, rfl⟩ := List.mem_map.1 hc
    exact ⟨d, h.el d hd, rfl⟩
  · rintro ⟨hE, hin⟩
    obtain ⟨cs, h, e⟩ := factor hQ hg hS hgS hu hE hin
    exact ⟨cs, (growV_iff hS hgS hT hgT hp cs).2 h, e.symm⟩
theorem map_inj {α β : Type} {P : α → Prop} {f : α → β} (hf : ∀ a b, P a → P b → f a = f b → a = b) : ∀ (x y : List α), (∀ a ∈ x, P a) → (∀ a ∈ y, P a) → x.map f = y.map f → x = y
  | [], [], _, _, _ => rfl
  | [], b :: y, _, _, h => by simp at h
  | a :: x, [], _, _, h => by simp at h
  | a :: x, b :: y, hx, hy, h => by
    rw [List.map_cons, List.map_cons] at h
    obtain ⟨h1, h2⟩ := List.cons.inj h
    rw [hf a b (hx a List.mem_cons_self) (hy b List.mem_cons_self) h1, map_inj hf x y (fun a ha => hx a (List.mem_cons_of_mem _ ha)) (fun a ha => hy a (List.mem_cons_of_mem _ ha)) h2]
theorem nodup_map {α β : Type} {P : α → Prop} {f : α → β} (hf : ∀ a b, P a → P b → f a = f b → a = b) {l : List α} (hl : ∀ a ∈ l, P a) (hn : l.Nodup) : (l.map f).Nodup := by
  refine List.pairwise_map.2 (List.Pairwise.imp_of_mem ?_ hn)
  intro a b ha hb hne e
  exact hne (hf a b (hl a ha) (hl b hb) e)
theorem thr_nodup {Q S T : Tw} (hS : Wf S) (hgS : Tow.Good S) (hT : Wf T) (hgT : Tow.Good T) (hp : Prm T) {u : List (List Nat)} (hu : Emb Q S u) : (thr Q S T u).Nodup := by
  unfold thr
  refine nodup_map (P := fun cs => ∀ c ∈ cs, El S c) (fun x y hx hy e => ?_) (fun cs hcs => ((growV_iff hS hgS hT hgT hp cs).1 hcs).el) (growV_nodup _ _)
  exact map_inj (P := El S) (fun a b ha hb h => hu.inj a b ha hb h) x y hx hy e
theorem thr_len {Q S T : Tw} {u : List (List Nat)} : (thr Q S T u).length = (growV S T T.length []).length := by unfold thr; rw [List.length_map]
/-- the numbers of the images -/
theorem emb_nums {Q T : Tw} (hQ : Wf Q) (hg : Tow.Good Q) (hT : Wf T) {cs : List (List Nat)} (h : Emb Q T cs) : ((List.range (sz T)).map fun t => num Q (phi Q cs (at_ T t))).Nodup := by
  have G := grp hQ hg
  refine nodup_map (P := fun t => t < sz T) (fun a b ha hb e => ?_) (fun a ha => List.mem_range.1 ha) List.nodup_range
  have e1 := congrArg (at_ Q) e
  rw [at_num hQ (G.ev h.el _), at_num hQ (G.ev h.el _)] at e1
  exact at_inj ha hb (h.inj _ _ (at_El hT a) (at_El hT b) e1)
theorem emb_le {Q T : Tw} (hQ : Wf Q) (hg : Tow.Good Q) (hT : Wf T) {cs : List (List Nat)} (h : Emb Q T cs) : sz T ≤ sz Q := by
  have G := grp hQ hg
  have := List.Nodup.length_le_of_subset (l₂ := List.range (sz Q)) (emb_nums hQ hg hT h) (fun x hx => by
    obtain ⟨t, _, rfl⟩ := List.mem_map.1 hx
    exact List.mem_range.2 (num_lt (G.ev h.el _) hQ))
  simpa using this
theorem emb_onto {Q T : Tw} (hQ : Wf Q) (hg : Tow.Good Q) (hT : Wf T) {cs : List (List Nat)} (h : Emb Q T cs) (hs : sz Q ≤ sz T) {c : List Nat} (hc : El Q c) : Im Q T cs c := by
  have G := grp hQ hg
  by_cases hm : num Q c ∈ (List.range (sz T)).map fun t => num Q (phi Q cs (at_ T t))
  · obtain ⟨t, _, e⟩ := List.mem_map.1 hm
    have e1 := congrArg (at_ Q) e
    rw [at_num hQ (G.ev h.el _), at_num hQ hc] at e1
    exact ⟨at_ T t, at_El hT t, e1⟩
  · have hn : (num Q c :: (List.range (sz T)).map fun t => num Q (phi Q cs (at_ T t))).Nodup := List.nodup_cons.2 ⟨hm, emb_nums hQ hg hT h⟩
    have := List.Nodup.length_le_of_subset (l₂ := List.range (sz Q)) hn (fun x hx => by
      rcases List.mem_cons.1 hx with rfl | hx
      · exact List.mem_range.2 (num_lt hc hQ)
      · obtain ⟨t, _, rfl⟩ := List.mem_map.1 hx
        exact List.mem_range.2 (num_lt (G.ev h.el _) hQ))
    simp at this
    omega
/-- two groups with an isomorphism have as many as one has automorphisms -/
theorem iso_card {S T : Tw} (hS : Wf S) (hgS : Tow.Good S) (hT : Wf T) (hgT : Tow.Good T) (hp : Prm T) {c0 : List (List Nat)} (h : Emb S T c0) (hs : sz S = sz T) : (growV S T T.length []).length = (growV T T T.length []).length := by
  rw [← thr_len (Q := S) (S := T) (T := T) (u := c0)]
  refine List.Perm.length_eq ((List.perm_ext_iff_of_nodup (growV_nodup _ _) (thr_nodup hT hgT hT hgT hp h)).2 fun es => ?_)
  rw [growV_iff hS hgS hT hgT hp, mem_thr hS hgS hT hgT hT hgT hp h]
  exact ⟨fun hE => ⟨hE, fun c hc => emb_onto hS hgS hT h (by omega) (hE.el c hc)⟩, fun hE => hE.1⟩
end Go.Proofs.YtabkibmnghbahaaGreat.CcB

/-
  Plain: as many embeddings as copies times automorphisms. No program in sight.
-/
namespace Go.Proofs.YtabkibmnghbahaaGreat.CcC
open Go.Proofs.YtabkibmnghbahaaGreat Go.Proofs.YtabkibmnghbahaaGreat.Tow Go.Proofs.YtabkibmnghbahaaGreat.Gen Go.Proofs.YtabkibmnghbahaaGreat.GenC Go.Proofs.YtabkibmnghbahaaGreat.NumT Go.Proofs.YtabkibmnghbahaaGreat.GenD Go.Proofs.YtabkibmnghbahaaGreat.CcA Go.Proofs.YtabkibmnghbahaaGreat.CcB
set_option linter.unusedVariables false
set_option linter.unusedSimpArgs false

theorem flat_len {α β : Type} {f : α → List β} {n : Nat} : ∀ l : List α, (∀ u ∈ l, (f u).length = n) → (l.flatMap f).length = l.length * n
  | [], _ => by simp
  | u :: l, h => by
    rw [List.flatMap_cons, List.length_append, h u List.mem_cons_self, flat_len l (fun v hv => h v (List.mem_cons_of_mem _ hv)), List.length_cons, Nat.add_mul, Nat.one_mul, Nat.add_comm]
theorem im_self {Q T : Tw} (hQ : Wf Q) (hg : Tow.Good Q) (hT : Wf T) {es : List (List Nat)} (h : Emb Q T es) : ∀ c ∈ es, Im Q T es c := fun c hc => by
  obtain ⟨j, hj⟩ := List.getElem?_of_mem hc
  exact ⟨unit T j, El_unit hT j, ev_unit hQ hg es T h.el h.len j c hj⟩
/-- an embedding through a subgroup of its own order makes the subgroup -/
theorem thr_im {Q S T : Tw} (hQ : Wf Q) (hg : Tow.Good Q) (hS : Wf S) (hgS : Tow.Good S) (hT : Wf T) (hgT : Tow.Good T) (hp : Prm T) {u es : List (List Nat)} (hu : Emb Q S u) (hs : sz S = sz T) (h : es ∈ thr Q S T u) (c : List Nat) : Im Q T es c ↔ Im Q S u c := by
  have G := grp hQ hg
  have GS := grp hS hgS
  have he : phi Q u (one S) = one Q := ev_one hQ hg u _
  have hf : ∀ a b, El S a → El S b → phi Q u (mul S a b) = mul Q (phi Q u a) (phi Q u b) := fun a b ha hb => G.hom hS hu.el hu.rel ha hb
  unfold thr at h
  obtain ⟨cs, hcs, rfl⟩ := List.mem_map.1 h
  have hE := (growV_iff hS hgS hT hgT hp cs).1 hcs
  constructor
  · rintro ⟨z, hz, rfl⟩
    exact ⟨ev (mul S) (one S) cs z, GS.ev hE.el z, ev_map GS (phi Q u) he hf hE.el z⟩
  · rintro ⟨y, hy, rfl⟩
    obtain ⟨z, hz, e⟩ := emb_onto hS hgS hT hE (by omega) hy
    refine ⟨z, hz, ?_⟩
    rw [← ev_map GS (phi Q u) he hf hE.el z, e]
open Classical in
theorem copies {Q T : Tw} (hQ : Wf Q) (hg : Tow.Good Q) (hT : Wf T) (hgT : Tow.Good T) (hp : Prm T) (us : List (List (List Nat))) (S : List (List Nat) → Tw)
    (hE : ∀ u ∈ us, Wf (S u) ∧ Tow.Good (S u) ∧ Prm (S u) ∧ Emb Q (S u) u) (hD : us.Pairwise fun u v => ¬ ∀ c, Im Q (S u) u c ↔ Im Q (S v) v c)
    (hA : ∀ es, Emb Q T es → ∃ u ∈ us, ∀ c, Im Q (S u) u c ↔ Im Q T es c) :
    (growV Q T T.length []).length = (us.filter fun u => decide (sz (S u) = sz T ∧ growV (S u) T T.length [] ≠ [])).length * (growV T T T.length []).length := by
  rw [← flat_len (f := fun u => thr Q (S u) T u) (n := (growV T T T.length []).length) _ (fun u hu => by
    obtain ⟨hu, hc⟩ := List.mem_filter.1 hu
    obtain ⟨h1, h2⟩ := of_decide_eq_true hc
    obtain ⟨a1, a2, a3, a4⟩ := hE u hu
    obtain ⟨c0, hc0⟩ := List.exists_mem_of_ne_nil _ h2
    rw [thr_len]
    exact iso_card a1 a2 hT hgT hp ((growV_iff a1 a2 hT hgT hp c0).1 hc0) h1)]
  refine List.Perm.length_eq ((List.perm_ext_iff_of_nodup (growV_nodup _ _) ?_).2 fun es => ?_)
  · refine List.pairwise_flatMap.2 ⟨fun u hu => ?_, ?_⟩
    · obtain ⟨a1, a2, a3, a4⟩ := hE u (List.mem_filter.1 hu).1
      exact thr_nodup a1 a2 hT hgT hp a4
    · refine List.Pairwise.imp_of_mem ?_ (hD.filter _)
      intro u v hu hv hne x hx y hy e
      subst e
      obtain ⟨hu, hcu⟩ := List.mem_filter.1 hu
      obtain ⟨hv, hcv⟩ := List.mem_filter.1 hv
      obtain ⟨a1, a2, a3, a4⟩ := hE u hu
      obtain ⟨b1, b2, b3, b4⟩ := hE v hv
      have h1 := thr_im hQ hg a1 a2 hT hgT hp a4 (of_decide_eq_true hcu).1 hx
      have h2 := thr_im hQ hg b1 b2 hT hgT hp b4 (of_decide_eq_true hcv).1 hy
      exact hne fun c => (h1 c).symm.trans (h2 c)
  · rw [growV_iff hQ hg hT hgT hp, List.mem_flatMap]
    constructor
    · intro hes
      obtain ⟨u, hu, hi⟩ := hA es hes
      obtain ⟨a1, a2, a3, a4⟩ := hE u hu
      have hm : es ∈ thr Q (S u) T u := (mem_thr hQ hg a1 a2 hT hgT hp a4 es).2 ⟨hes, fun c hc => (hi c).2 (im_self hQ hg hT hes c hc)⟩
      refine ⟨u, List.mem_filter.2 ⟨hu, decide_eq_true ⟨?_, ?_⟩⟩, hm⟩
      · obtain ⟨cs, h1, _⟩ := factor hQ hg a1 a2 a4 hes (fun c hc => (hi c).2 (im_self hQ hg hT hes c hc))
        obtain ⟨ds, h2, _⟩ := factor hQ hg hT hgT hes a4 (fun c hc => (hi c).1 (im_self hQ hg a1 a4 c hc))
        have := emb_le a1 a2 hT h1
        have := emb_le hT hgT a1 h2
        omega
      · intro h0
        unfold thr at hm
        rw [h0] at hm
        simp at hm
    · rintro ⟨u, hu, hm⟩
      obtain ⟨hu, _⟩ := List.mem_filter.1 hu
      obtain ⟨a1, a2, a3, a4⟩ := hE u hu
      exact ((mem_thr hQ hg a1 a2 hT hgT hp a4 es).1 hm).1
theorem auts_pos {T : Tw} (hT : Wf T) (hgT : Tow.Good T) (hp : Prm T) : 0 < (growV T T T.length []).length :=
  List.length_pos_of_mem ((growV_iff hT hgT hT hgT hp _).2 (emb_id hT hgT))
end Go.Proofs.YtabkibmnghbahaaGreat.CcC

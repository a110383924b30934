/-
  Plain facts on towers: lists of levels (a relative order, a power, conjugates) and the product of exponent lists that they define. No program in sight.
-/
namespace Go.Proofs.YtbamkklhkhglnaaGreatDoor.Tow
set_option linter.unusedVariables false
set_option linter.unusedSimpArgs false

/-- one level: the relative order, the power, the conjugates, as exponents of the levels behind it -/
structure Lv where
  o : Nat
  w : List Nat
  c : List (List Nat)

abbrev Tw := List Lv

/-- the elements of a tower -/
def El : Tw → List Nat → Prop
  | [], [] => True
  | L :: T, a :: x => a < L.o ∧ El T x
  | _, _ => False

/-- the entries lie in their ranges -/
def Wf : Tw → Prop
  | [] => True
  | L :: T => 2 ≤ L.o ∧ El T L.w ∧ L.c.length = T.length ∧ (∀ y ∈ L.c, El T y) ∧ Wf T

def one (T : Tw) : List Nat := List.replicate T.length 0

/-- a function, some times -/
def it {α : Type} (f : α → α) : Nat → α → α
  | 0, x => x
  | k + 1, x => it f k (f x)

/-- a product, from the left: behind u the elements c with their exponents -/
def prodL {α : Type} (m : α → α → α) : α → List α → List Nat → α
  | u, c :: cs, a :: x => prodL m (it (fun z => m z c) a u) cs x
  | u, _, _ => u

/-- the product of two exponent lists -/
def mul : Tw → List Nat → List Nat → List Nat
  | [], _, _ => []
  | L :: T, a :: x, b :: y =>
    if L.o ≤ a + b then (a + b - L.o) :: mul T L.w (mul T (it (fun z => prodL (mul T) (one T) L.c z) b x) y)
    else (a + b) :: mul T (it (fun z => prodL (mul T) (one T) L.c z) b x) y
  | _, _, _ => []

/-- the image of an element of the levels behind L under L -/
def img (T : Tw) (c : List (List Nat)) (z : List Nat) : List Nat := prodL (mul T) (one T) c z

theorem mul_cons (L : Lv) (T : Tw) (a b : Nat) (x y : List Nat) : mul (L :: T) (a :: x) (b :: y) =
    if L.o ≤ a + b then (a + b - L.o) :: mul T L.w (mul T (it (img T L.c) b x) y) else (a + b) :: mul T (it (img T L.c) b x) y := rfl

theorem it_succ' {α : Type} (f : α → α) (k : Nat) (x : α) : it f (k + 1) x = f (it f k x) := by
  induction k generalizing x with
  | zero => rfl
  | succ k ih => rw [it, ih, it]
theorem it_add {α : Type} (f : α → α) (a b : Nat) (x : α) : it f (a + b) x = it f a (it f b x) := by
  induction a with
  | zero => simp [it]
  | succ a ih => rw [Nat.succ_add, it_succ', ih, it_succ']
theorem it_inv {α : Type} (M : α → Prop) (f : α → α) (hf : ∀ x, M x → M (f x)) (k : Nat) (x : α) (hx : M x) : M (it f k x) := by
  induction k generalizing x with
  | zero => exact hx
  | succ k ih => exact ih _ (hf _ hx)
theorem it_congr {α : Type} {f g : α → α} (M : α → Prop) (hf : ∀ x, M x → M (f x)) (h : ∀ x, M x → f x = g x) (k : Nat) (x : α) (hx : M x) : it f k x = it g k x := by
  induction k generalizing x with
  | zero => rfl
  | succ k ih => rw [it, it, ← h x hx]; exact ih _ (hf _ hx)

theorem El_length {T : Tw} {x : List Nat} (h : El T x) : x.length = T.length := by
  induction T generalizing x with
  | nil => cases x with
    | nil => rfl
    | cons a x => exact absurd h (by simp [El])
  | cons L T ih => cases x with
    | nil => exact absurd h (by simp [El])
    | cons a x => simp [ih h.2]
theorem El_one {T : Tw} (h : Wf T) : El T (one T) := by
  induction T with
  | nil => trivial
  | cons L T ih => exact ⟨by have := h.1; omega, ih h.2.2.2.2⟩

theorem prodL_inv {α : Type} (M : α → Prop) (m : α → α → α) (hm : ∀ x y, M x → M y → M (m x y)) (cs : List α) (hc : ∀ c ∈ cs, M c) (x : List Nat) (u : α) (hu : M u) : M (prodL m u cs x) := by
  induction cs generalizing u x with
  | nil => cases x <;> exact hu
  | cons c cs ih => cases x with
    | nil => exact hu
    | cons a x => exact ih (fun d hd => hc d (List.mem_cons_of_mem _ hd)) x _ (it_inv M _ (fun z hz => hm _ _ hz (hc c List.mem_cons_self)) a u hu)

theorem El_mul {T : Tw} (h : Wf T) {x y : List Nat} (hx : El T x) (hy : El T y) : El T (mul T x y) := by
  induction T generalizing x y with
  | nil => trivial
  | cons L T ih => cases x with
    | nil => exact absurd hx (by simp [El])
    | cons a x => cases y with
      | nil => exact absurd hy (by simp [El])
      | cons b y =>
        obtain ⟨h1, h2, h3, h4, h5⟩ := h
        have hi : ∀ z, El T z → El T (img T L.c z) := fun z _ => prodL_inv (El T) _ (fun _ _ p q => ih h5 p q) _ h4 z _ (El_one h5)
        have hz := it_inv (El T) _ hi b x hx.2
        have hr := ih h5 hz hy.2
        rw [mul_cons]
        have ha := hx.1
        have hb := hy.1
        split
        · exact ⟨by omega, ih h5 h2 hr⟩
        · exact ⟨by omega, hr⟩
theorem El_img {T : Tw} (h : Wf T) {c : List (List Nat)} (hc : ∀ y ∈ c, El T y) (z : List Nat) : El T (img T c z) :=
  prodL_inv (El T) _ (fun _ _ p q => El_mul h p q) _ hc z _ (El_one h)

/-- a group on some members -/
structure IsG {α : Type} (M : α → Prop) (m : α → α → α) (e : α) : Prop where
  cl : ∀ {a b}, M a → M b → M (m a b)
  me : M e
  as : ∀ {a b c}, M a → M b → M c → m (m a b) c = m a (m b c)
  eL : ∀ {a}, M a → m e a = a
  eR : ∀ {a}, M a → m a e = a
  iv : ∀ {a}, M a → ∃ b, M b ∧ m a b = e ∧ m b a = e

theorem IsG.cancelL {α : Type} {M : α → Prop} {m : α → α → α} {e : α} (G : IsG M m e) {a b c : α} (ha : M a) (hb : M b) (hc : M c) (h : m a b = m a c) : b = c := by
  obtain ⟨d, hd, _, h2⟩ := G.iv ha
  have := congrArg (m d) h
  rwa [← G.as hd ha hb, ← G.as hd ha hc, h2, G.eL hb, G.eL hc] at this
theorem IsG.cancelR {α : Type} {M : α → Prop} {m : α → α → α} {e : α} (G : IsG M m e) {a b c : α} (ha : M a) (hb : M b) (hc : M c) (h : m b a = m c a) : b = c := by
  obtain ⟨d, hd, h1, _⟩ := G.iv ha
  have := congrArg (fun z => m z d) h
  simp only [G.as hb ha hd, G.as hc ha hd, h1, G.eR hb, G.eR hc] at this
  exact this

/-- a power -/
def npow {α : Type} (m : α → α → α) (e : α) (x : α) (k : Nat) : α := it (fun z => m z x) k e
theorem npow_zero {α : Type} (m : α → α → α) (e x : α) : npow m e x 0 = e := rfl
theorem npow_succ {α : Type} (m : α → α → α) (e x : α) (k : Nat) : npow m e x (k + 1) = m (npow m e x k) x := it_succ' _ _ _
theorem IsG.npow {α : Type} {M : α → Prop} {m : α → α → α} {e : α} (G : IsG M m e) {x : α} (hx : M x) (k : Nat) : M (npow m e x k) :=
  it_inv M _ (fun _ hz => G.cl hz hx) k e G.me
theorem IsG.it_mul {α : Type} {M : α → Prop} {m : α → α → α} {e : α} (G : IsG M m e) {x u : α} (hx : M x) (hu : M u) (k : Nat) : it (fun z => m z x) k u = m u (Tow.npow m e x k) := by
  induction k with
  | zero => exact (G.eR hu).symm
  | succ k ih => rw [it_succ', ih, npow_succ, G.as hu (G.npow hx k) hx]
theorem IsG.npow_add {α : Type} {M : α → Prop} {m : α → α → α} {e : α} (G : IsG M m e) {x : α} (hx : M x) (j k : Nat) : Tow.npow m e x (j + k) = m (Tow.npow m e x j) (Tow.npow m e x k) := by
  rw [← G.it_mul hx (G.npow hx j), Nat.add_comm, Tow.npow, it_add]; rfl
theorem IsG.npow_one {α : Type} {M : α → Prop} {m : α → α → α} {e : α} (G : IsG M m e) {x : α} (hx : M x) : Tow.npow m e x 1 = x := G.eL hx

/-- the product of elements with exponents -/
def ev {α : Type} (m : α → α → α) (e : α) : List α → List Nat → α
  | c :: cs, a :: x => m (npow m e c a) (ev m e cs x)
  | _, _ => e
theorem IsG.ev {α : Type} {M : α → Prop} {m : α → α → α} {e : α} (G : IsG M m e) {cs : List α} (hc : ∀ c ∈ cs, M c) (x : List Nat) : M (ev m e cs x) := by
  induction cs generalizing x with
  | nil => cases x <;> exact G.me
  | cons c cs ih => cases x with
    | nil => exact G.me
    | cons a x => exact G.cl (G.npow (hc c List.mem_cons_self) a) (ih (fun d hd => hc d (List.mem_cons_of_mem _ hd)) x)
theorem IsG.prodL {α : Type} {M : α → Prop} {m : α → α → α} {e : α} (G : IsG M m e) {cs : List α} (hc : ∀ c ∈ cs, M c) (x : List Nat) {u : α} (hu : M u) : prodL m u cs x = m u (Tow.ev m e cs x) := by
  induction cs generalizing x u with
  | nil => cases x <;> exact (G.eR hu).symm
  | cons c cs ih => cases x with
    | nil => exact (G.eR hu).symm
    | cons a x =>
      have h1 := hc c List.mem_cons_self
      have h2 : ∀ d ∈ cs, M d := fun d hd => hc d (List.mem_cons_of_mem _ hd)
      rw [Tow.prodL, ih h2 x (it_inv M _ (fun _ hz => G.cl hz h1) a u hu), G.it_mul h1 hu, Tow.ev, G.as hu (G.npow h1 a) (G.ev h2 x)]
theorem IsG.prodL_e {α : Type} {M : α → Prop} {m : α → α → α} {e : α} (G : IsG M m e) {cs : List α} (hc : ∀ c ∈ cs, M c) (x : List Nat) : Tow.prodL m e cs x = Tow.ev m e cs x := by
  rw [G.prodL hc x G.me, G.eL (G.ev hc x)]

/-- the relations of a tower, for elements in the place of its generators -/
def Rel {α : Type} (m : α → α → α) (e : α) : Tw → List α → Prop
  | [], [] => True
  | L :: T, c0 :: cs => npow m e c0 L.o = ev m e cs L.w ∧ (∀ j, (h : j < cs.length) → (h' : j < L.c.length) → m cs[j] c0 = m c0 (ev m e cs L.c[j])) ∧ Rel m e T cs
  | _, _ => False
theorem Rel_length {α : Type} {m : α → α → α} {e : α} {T : Tw} {cs : List α} (h : Rel m e T cs) : cs.length = T.length := by
  induction T generalizing cs with
  | nil => cases cs with
    | nil => rfl
    | cons c cs => exact absurd h (by simp [Rel])
  | cons L T ih => cases cs with
    | nil => exact absurd h (by simp [Rel])
    | cons c cs => simp [ih h.2.2]

/-- past one element: if it takes each of the elements es to that of fs -/
theorem IsG.ev_past {α : Type} {M : α → Prop} {m : α → α → α} {e : α} (G : IsG M m e) {c : α} (hc : M c) {es fs : List α} (he : ∀ d ∈ es, M d) (hf : ∀ d ∈ fs, M d) (hl : es.length = fs.length)
    (h : ∀ j, (h : j < es.length) → (h' : j < fs.length) → m es[j] c = m c fs[j]) (z : List Nat) : m (Tow.ev m e es z) c = m c (Tow.ev m e fs z) := by
  induction es generalizing fs z with
  | nil =>
    obtain rfl : fs = [] := by cases fs with
      | nil => rfl
      | cons _ _ => simp at hl
    cases z <;> exact (G.eL hc).trans (G.eR hc).symm
  | cons d es ih => cases fs with
    | nil => simp at hl
    | cons f fs => cases z with
      | nil => exact (G.eL hc).trans (G.eR hc).symm
      | cons a z =>
        have d1 := he d List.mem_cons_self
        have f1 := hf f List.mem_cons_self
        have d2 : ∀ x ∈ es, M x := fun x hx => he x (List.mem_cons_of_mem _ hx)
        have f2 : ∀ x ∈ fs, M x := fun x hx => hf x (List.mem_cons_of_mem _ hx)
        have h0 : m d c = m c f := h 0 (by simp) (by simp)
        have hp : ∀ k, m (Tow.npow m e d k) c = m c (Tow.npow m e f k) := fun k => by
          induction k with
          | zero => exact (G.eL hc).trans (G.eR hc).symm
          | succ k ihk => rw [npow_succ, npow_succ, G.as (G.npow d1 k) d1 hc, h0, ← G.as (G.npow d1 k) hc f1, ihk, G.as hc (G.npow f1 k) f1]
        have hi := ih d2 f2 (by simpa using hl) (fun j p q => h (j + 1) (by simp; omega) (by simp; omega)) z
        rw [Tow.ev, Tow.ev, G.as (G.npow d1 a) (G.ev d2 z) hc, hi, ← G.as (G.npow d1 a) hc (G.ev f2 z), hp, G.as hc (G.npow f1 a) (G.ev f2 z)]

/-- the evaluation of a tower at elements that meet its relations takes products to products -/
theorem IsG.hom {α : Type} {M : α → Prop} {m : α → α → α} {e : α} (G : IsG M m e) {T : Tw} (hT : Wf T) {cs : List α} (hc : ∀ c ∈ cs, M c) (hR : Rel m e T cs) {x y : List Nat} (hx : El T x) (hy : El T y) :
    Tow.ev m e cs (mul T x y) = m (Tow.ev m e cs x) (Tow.ev m e cs y) := by
  induction T generalizing cs x y with
  | nil => cases cs with
    | nil => exact (G.eL G.me).symm
    | cons c cs => exact absurd hR (by simp [Rel])
  | cons L T ih => cases cs with
    | nil => exact absurd hR (by simp [Rel])
    | cons c cs => cases x with
      | nil => exact absurd hx (by simp [El])
      | cons a x => cases y with
        | nil => exact absurd hy (by simp [El])
        | cons b y =>
          obtain ⟨h1, h2, h3, h4, h5⟩ := hT
          obtain ⟨r1, r2, r3⟩ := hR
          have c1 := hc c List.mem_cons_self
          have c2 : ∀ d ∈ cs, M d := fun d hd => hc d (List.mem_cons_of_mem _ hd)
          have hcl := Rel_length r3
          have IH : ∀ {x y : List Nat}, El T x → El T y → Tow.ev m e cs (mul T x y) = m (Tow.ev m e cs x) (Tow.ev m e cs y) := fun p q => ih h5 c2 r3 p q
          have hone : Tow.ev m e cs (one T) = e := by
            have : ∀ (cs : List α) n, Tow.ev m e cs (List.replicate n 0) = e := by
              intro cs
              induction cs with
              | nil => intro n; cases n <;> rfl
              | cons d ds ihd => intro n; cases n with
                | zero => rfl
                | succ n => exact (congrArg (m _) (ihd n)).trans (by rw [npow_zero, G.eL G.me])
            exact this cs _
          -- the evaluation of a product of elements of T
          have A : ∀ (ds : List (List Nat)), (∀ d ∈ ds, El T d) → ∀ (z : List Nat) (u : List Nat), El T u → Tow.ev m e cs (Tow.prodL (mul T) u ds z) = m (Tow.ev m e cs u) (Tow.ev m e (ds.map (Tow.ev m e cs)) z) := by
            intro ds
            induction ds with
            | nil => intro _ z u hu; cases z <;> exact (G.eR (G.ev c2 u)).symm
            | cons d ds ihd => intro hd z u hu; cases z with
              | nil => exact (G.eR (G.ev c2 u)).symm
              | cons a z =>
                have hd1 := hd d List.mem_cons_self
                have hd2 : ∀ x ∈ ds, El T x := fun x hx => hd x (List.mem_cons_of_mem _ hx)
                have hit : ∀ k, El T (it (fun z => mul T z d) k u) := fun k => it_inv (El T) _ (fun z hz => El_mul h5 hz hd1) k u hu
                have hk : ∀ k, Tow.ev m e cs (it (fun z => mul T z d) k u) = m (Tow.ev m e cs u) (Tow.npow m e (Tow.ev m e cs d) k) := fun k => by
                  induction k with
                  | zero => exact (G.eR (G.ev c2 u)).symm
                  | succ k ihk => rw [it_succ', IH (hit k) hd1, ihk, npow_succ, G.as (G.ev c2 u) (G.npow (G.ev c2 d) k) (G.ev c2 d)]
                rw [Tow.prodL, ihd hd2 z _ (hit a), hk a, List.map_cons, Tow.ev, G.as (G.ev c2 u) (G.npow (G.ev c2 d) a) (G.ev (by intro x hx; obtain ⟨q, _, rfl⟩ := List.mem_map.1 hx; exact G.ev c2 q) z)]
          have hmap : ∀ d ∈ L.c.map (Tow.ev m e cs), M d := by intro x hx; obtain ⟨q, _, rfl⟩ := List.mem_map.1 hx; exact G.ev c2 q
          have B : ∀ z, El T z → m (Tow.ev m e cs z) c = m c (Tow.ev m e cs (img T L.c z)) := fun z hz => by
            rw [img, A L.c h4 z _ (El_one h5), hone, G.eL (G.ev hmap z)]
            exact G.ev_past c1 c2 hmap (by simp [hcl, h3]) (fun j p q => by
              have := r2 j p (by simpa using q)
              simpa using this) z
          have hI : ∀ k z, El T z → El T (it (img T L.c) k z) := fun k z hz => it_inv (El T) _ (fun y _ => El_img h5 h4 y) k z hz
          have D : ∀ k z, El T z → m (Tow.ev m e cs z) (Tow.npow m e c k) = m (Tow.npow m e c k) (Tow.ev m e cs (it (img T L.c) k z)) := by
            intro k
            induction k with
            | zero => intro z hz; exact (G.eR (G.ev c2 z)).trans (G.eL (G.ev c2 _)).symm
            | succ k ihk =>
              intro z hz
              rw [npow_succ, ← G.as (G.ev c2 z) (G.npow c1 k) c1, ihk z hz, G.as (G.npow c1 k) (G.ev c2 _) c1, B _ (hI k z hz), ← it_succ' (img T L.c), G.as (G.npow c1 k) c1 (G.ev c2 _)]
          have hxi := hI b x hx.2
          have hr := El_mul h5 hxi hy.2
          have E : m (Tow.ev m e (c :: cs) (a :: x)) (Tow.ev m e (c :: cs) (b :: y)) = m (Tow.npow m e c (a + b)) (Tow.ev m e cs (mul T (it (img T L.c) b x) y)) := by
            rw [Tow.ev, Tow.ev, G.as (G.npow c1 a) (G.ev c2 x) (G.cl (G.npow c1 b) (G.ev c2 y)), ← G.as (G.ev c2 x) (G.npow c1 b) (G.ev c2 y), D b x hx.2,
              G.as (G.npow c1 b) (G.ev c2 _) (G.ev c2 y), ← IH hxi hy.2, ← G.as (G.npow c1 a) (G.npow c1 b) (G.ev c2 _), ← G.npow_add c1]
          rw [E, mul_cons]
          split
          · next hle =>
            rw [Tow.ev, IH h2 hr, ← r1, ← G.as (G.npow c1 _) (G.npow c1 _) (G.ev c2 _), ← G.npow_add c1, Nat.sub_add_cancel hle]
          · rfl

/-- the vector of a generator -/
def unit (T : Tw) (j : Nat) : List Nat := (one T).set j 1
theorem one_cons (L : Lv) (T : Tw) : one (L :: T) = 0 :: one T := rfl
theorem unit_zero (L : Lv) (T : Tw) : unit (L :: T) 0 = 1 :: one T := rfl
theorem unit_succ (L : Lv) (T : Tw) (j : Nat) : unit (L :: T) (j + 1) = 0 :: unit T j := rfl
theorem El_unit {T : Tw} (h : Wf T) (j : Nat) : El T (unit T j) := by
  induction T generalizing j with
  | nil => exact El_one h
  | cons L T ih => cases j with
    | zero => exact ⟨by have := h.1; omega, El_one h.2.2.2.2⟩
    | succ j => exact ⟨by have := h.1; omega, ih h.2.2.2.2 j⟩

/-- a tower whose tails are consistent, each -/
def Good : Tw → Prop
  | [] => True
  | L :: T => Good T ∧ Rel (mul T) (one T) T L.c ∧ img T L.c L.w = L.w ∧ ∀ j < T.length, mul T L.w (it (img T L.c) L.o (unit T j)) = mul T (unit T j) L.w

/-- the generators -/
def gens (T : Tw) : List (List Nat) := (List.range T.length).map (unit T)
theorem gens_cons (L : Lv) (T : Tw) : gens (L :: T) = unit (L :: T) 0 :: (gens T).map (0 :: ·) := by
  simp [gens, List.range_succ_eq_map, List.map_map, Function.comp_def, unit_succ]

/-- a map that takes products to products takes an evaluation to an evaluation -/
theorem ev_map {α β : Type} {M : α → Prop} {m : α → α → α} {e : α} {m' : β → β → β} {e' : β} (G : IsG M m e) (f : α → β) (he : f e = e') (hf : ∀ a b, M a → M b → f (m a b) = m' (f a) (f b)) {cs : List α} (hc : ∀ c ∈ cs, M c) (x : List Nat) :
    f (ev m e cs x) = ev m' e' (cs.map f) x := by
  induction cs generalizing x with
  | nil => cases x <;> exact he
  | cons c cs ih => cases x with
    | nil => exact he
    | cons a x =>
      have c1 := hc c List.mem_cons_self
      have c2 : ∀ d ∈ cs, M d := fun d hd => hc d (List.mem_cons_of_mem _ hd)
      have hp : ∀ k, f (npow m e c k) = npow m' e' (f c) k := fun k => by
        induction k with
        | zero => exact he
        | succ k ihk => rw [npow_succ, hf _ _ (G.npow c1 k) c1, ihk, npow_succ]
      rw [ev, hf _ _ (G.npow c1 a) (G.ev c2 x), hp, ih c2 x]; rfl

/-- the group of a consistent tower; each element is the evaluation of its own exponents at the generators -/
theorem grp_gens {T : Tw} (h : Wf T) (hg : Good T) : IsG (El T) (mul T) (one T) ∧ ∀ x, El T x → ev (mul T) (one T) (gens T) x = x := by
  induction T with
  | nil =>
    have h0 : ∀ {x}, El [] x → x = [] := by intro x hx; cases x with
      | nil => rfl
      | cons a x => exact absurd hx (by simp [El])
    refine ⟨⟨fun _ _ => trivial, trivial, fun _ _ _ => rfl, fun ha => (h0 ha).symm, fun ha => (h0 ha).symm, fun ha => ⟨[], trivial, rfl, rfl⟩⟩, fun x hx => ?_⟩
    rw [h0 hx]; rfl
  | cons L T ih =>
    obtain ⟨h1, h2, h3, h4, h5⟩ := h
    obtain ⟨g0, g1, g2, g3⟩ := hg
    obtain ⟨G, U⟩ := ih h5 g0
    have hw : Wf (L :: T) := ⟨h1, h2, h3, h4, h5⟩
    -- the image is a map of the group to itself
    have ie : ∀ z, img T L.c z = ev (mul T) (one T) L.c z := fun z => G.prodL_e h4 z
    have iE : ∀ z, El T (img T L.c z) := fun z => El_img h5 h4 z
    have im : ∀ y z, El T y → El T z → img T L.c (mul T y z) = mul T (img T L.c y) (img T L.c z) := fun y z hy hz => by
      rw [ie, ie, ie]; exact G.hom h5 h4 g1 hy hz
    have kE : ∀ k z, El T z → El T (it (img T L.c) k z) := fun k z hz => it_inv (El T) _ (fun y _ => iE y) k z hz
    have km : ∀ k y z, El T y → El T z → it (img T L.c) k (mul T y z) = mul T (it (img T L.c) k y) (it (img T L.c) k z) := fun k => by
      induction k with
      | zero => intro y z _ _; rfl
      | succ k ihk => intro y z hy hz; rw [it_succ', ihk y z hy hz, im _ _ (kE k y hy) (kE k z hz), ← it_succ' (img T L.c), ← it_succ' (img T L.c)]
    have i1 : img T L.c (one T) = one T := by
      have := im _ _ G.me G.me
      rw [G.eL G.me] at this
      exact G.cancelL (iE _) (iE _) G.me (this.symm.trans (G.eR (iE _)).symm)
    have k1 : ∀ k, it (img T L.c) k (one T) = one T := fun k => by
      induction k with
      | zero => rfl
      | succ k ihk => rw [it_succ', ihk, i1]
    have kw : ∀ k, it (img T L.c) k L.w = L.w := fun k => by
      induction k with
      | zero => rfl
      | succ k ihk => rw [it_succ', ihk, g2]
    have mem_gens : ∀ c ∈ gens T, El T c := by intro c hc; obtain ⟨j, _, rfl⟩ := List.mem_map.1 hc; exact El_unit h5 j
    -- o steps of the image are conjugation by w
    have inner : ∀ z, El T z → mul T L.w (it (img T L.c) L.o z) = mul T z L.w := fun z hz => by
      have e1 : it (img T L.c) L.o z = ev (mul T) (one T) ((gens T).map (it (img T L.c) L.o)) z := by
        conv => lhs; rw [← U z hz]
        exact ev_map G _ (k1 _) (fun a b ha hb => km _ a b ha hb) mem_gens z
      have e2 := G.ev_past h2 (es := gens T) (fs := (gens T).map (it (img T L.c) L.o)) mem_gens (by intro d hd; obtain ⟨q, hq, rfl⟩ := List.mem_map.1 hd; exact kE _ q (mem_gens q hq)) (by simp)
        (fun j p q => by
          have := g3 j (by simpa [gens] using p)
          simpa [gens] using this.symm) z
      rw [U z hz, ← e1] at e2
      exact e2.symm
    -- normal forms
    let N : Nat → List Nat → List Nat := fun k z => (k % L.o) :: it (mul T L.w) (k / L.o) z
    have ho : 0 < L.o := by omega
    have N_lt : ∀ k z, k < L.o → N k z = k :: z := fun k z hk => by show _ :: _ = _; rw [Nat.mod_eq_of_lt hk, Nat.div_eq_of_lt hk]; rfl
    have N_ge : ∀ k z, L.o ≤ k → N k z = N (k - L.o) (mul T L.w z) := fun k z hk => by
      show _ :: _ = _ :: _
      rw [Nat.mod_eq_sub_mod hk, Nat.div_eq_sub_div ho hk]; rfl
    have mN : ∀ a x b y, El (L :: T) (a :: x) → El (L :: T) (b :: y) → mul (L :: T) (a :: x) (b :: y) = N (a + b) (mul T (it (img T L.c) b x) y) := fun a x b y hx hy => by
      have := hx.1
      have := hy.1
      rw [mul_cons]
      split
      · next hle => rw [N_ge _ _ hle, N_lt _ _ (by omega)]
      · next hle => rw [N_lt _ _ (by omega)]
    have N_El : ∀ k z, El T z → El (L :: T) (N k z) := fun k z hz => ⟨Nat.mod_lt _ ho, it_inv (El T) _ (fun y hy => G.cl h2 hy) _ z hz⟩
    -- a normal form times an element
    have Nm : ∀ q k z c y, k / L.o = q → El T z → El (L :: T) (c :: y) → mul (L :: T) (N k z) (c :: y) = N (k + c) (mul T (it (img T L.c) c z) y) := fun q => by
      induction q with
      | zero =>
        intro k z c y hq hz hy
        have hk : k < L.o := by rcases Nat.div_eq_zero_iff.1 hq with h | h <;> omega
        rw [N_lt k z hk, mN k z c y ⟨hk, hz⟩ hy]
      | succ q ihq =>
        intro k z c y hq hz hy
        have hk : L.o ≤ k := by
          apply Nat.le_of_not_lt; intro h; rw [Nat.div_eq_of_lt h] at hq; omega
        rw [N_ge k z hk, ihq _ _ _ _ (by rw [Nat.div_eq_sub_div ho hk] at hq; omega) (G.cl h2 hz) hy, N_ge (k + c) _ (by omega), km c _ _ h2 hz, kw, G.as h2 (kE c z hz) hy.2, Nat.sub_add_comm hk]
    have mN' : ∀ q k z a x, k / L.o = q → El T z → El (L :: T) (a :: x) → mul (L :: T) (a :: x) (N k z) = N (a + k) (mul T (it (img T L.c) k x) z) := fun q => by
      induction q with
      | zero =>
        intro k z a x hq hz hx
        have hk : k < L.o := by rcases Nat.div_eq_zero_iff.1 hq with h | h <;> omega
        rw [N_lt k z hk, mN a x k z hx ⟨hk, hz⟩]
      | succ q ihq =>
        intro k z a x hq hz hx
        have hk : L.o ≤ k := by
          apply Nat.le_of_not_lt; intro h; rw [Nat.div_eq_of_lt h] at hq; omega
        have e1 : mul T (it (img T L.c) (k - L.o) x) L.w = mul T L.w (it (img T L.c) k x) := by
          rw [← inner _ (kE _ x hx.2), ← it_add, Nat.add_sub_cancel' hk]
        rw [N_ge k z hk, ihq _ _ _ _ (by rw [Nat.div_eq_sub_div ho hk] at hq; omega) (G.cl h2 hz) hx, N_ge (a + k) _ (by omega), ← G.as (kE _ x hx.2) h2 hz, e1, G.as h2 (kE k x hx.2) hz, Nat.add_sub_assoc hk]
    have hEl : ∀ {x}, El (L :: T) x → ∃ a y, x = a :: y := by intro x hx; cases x with
      | nil => exact absurd hx (by simp [El])
      | cons a y => exact ⟨a, y, rfl⟩
    have as : ∀ {a b c}, El (L :: T) a → El (L :: T) b → El (L :: T) c → mul (L :: T) (mul (L :: T) a b) c = mul (L :: T) a (mul (L :: T) b c) := by
      intro a b c ha hb hc
      obtain ⟨a, x, rfl⟩ := hEl ha
      obtain ⟨b, y, rfl⟩ := hEl hb
      obtain ⟨c, z, rfl⟩ := hEl hc
      rw [mN a x b y ha hb, mN b y c z hb hc, Nm _ _ _ _ _ rfl (G.cl (kE b x ha.2) hb.2) hc, mN' _ _ _ _ _ rfl (G.cl (kE c y hb.2) hc.2) ha, km c _ _ (kE b x ha.2) hb.2, ← it_add, G.as (kE _ x ha.2) (kE c y hb.2) hc.2, Nat.add_comm c b, Nat.add_assoc]
    have me : El (L :: T) (one (L :: T)) := El_one hw
    have eL : ∀ {a}, El (L :: T) a → mul (L :: T) (one (L :: T)) a = a := by
      intro a ha
      obtain ⟨a, x, rfl⟩ := hEl ha
      rw [one_cons, mN 0 (one T) a x me ha, k1, G.eL ha.2, N_lt _ _ (by have := ha.1; omega), Nat.zero_add]
    have eR : ∀ {a}, El (L :: T) a → mul (L :: T) a (one (L :: T)) = a := by
      intro a ha
      obtain ⟨a, x, rfl⟩ := hEl ha
      rw [one_cons, mN a x 0 (one T) ha me, it, G.eR ha.2, N_lt _ _ (by have := ha.1; omega), Nat.add_zero]
    have cl : ∀ {a b}, El (L :: T) a → El (L :: T) b → El (L :: T) (mul (L :: T) a b) := fun ha hb => El_mul hw ha hb
    have ivR : ∀ {a}, El (L :: T) a → ∃ b, El (L :: T) b ∧ mul (L :: T) a b = one (L :: T) := by
      intro a ha
      obtain ⟨a, x, rfl⟩ := hEl ha
      by_cases h0 : a = 0
      · subst h0
        obtain ⟨y, hy, e1, _⟩ := G.iv ha.2
        refine ⟨0 :: y, ⟨ho, hy⟩, ?_⟩
        rw [mN 0 x 0 y ha ⟨ho, hy⟩, it, e1, N_lt _ _ (by omega)]; rfl
      · have hlt := ha.1
        have hx := kE (L.o - a) x ha.2
        obtain ⟨y, hy, e1, _⟩ := G.iv (G.cl h2 hx)
        refine ⟨(L.o - a) :: y, ⟨by omega, hy⟩, ?_⟩
        rw [mN a x _ y ha ⟨by omega, hy⟩, Nat.add_sub_cancel' (by omega), N_ge _ _ (Nat.le_refl _), N_lt _ _ (by omega), ← G.as h2 hx hy, e1, Nat.sub_self]; rfl
    have iv : ∀ {a}, El (L :: T) a → ∃ b, El (L :: T) b ∧ mul (L :: T) a b = one (L :: T) ∧ mul (L :: T) b a = one (L :: T) := by
      intro a ha
      obtain ⟨b, hb, e1⟩ := ivR ha
      obtain ⟨c, hc, e2⟩ := ivR hb
      refine ⟨b, hb, e1, ?_⟩
      have : a = c := by
        rw [← eR ha, ← e2, ← as ha hb hc, e1, eL hc]
      rw [this]; exact e2
    have G' : IsG (El (L :: T)) (mul (L :: T)) (one (L :: T)) := ⟨cl, me, as, eL, eR, iv⟩
    refine ⟨G', fun x hx => ?_⟩
    obtain ⟨a, x, rfl⟩ := hEl hx
    have e0 : ∀ k, k < L.o → npow (mul (L :: T)) (one (L :: T)) (unit (L :: T) 0) k = k :: one T := fun k => by
      induction k with
      | zero => intro _; rfl
      | succ k ihk =>
        intro hk
        rw [npow_succ, ihk (by omega), unit_zero, mN k _ 1 _ ⟨by omega, G.me⟩ ⟨by omega, G.me⟩, k1, G.eL G.me, N_lt _ _ hk]
    have m0 : ∀ y z, El T y → El T z → mul (L :: T) (0 :: y) (0 :: z) = 0 :: mul T y z := fun y z hy hz => by
      rw [mN 0 y 0 z ⟨ho, hy⟩ ⟨ho, hz⟩, it, N_lt _ _ (by omega)]
    rw [gens_cons, ev, e0 a hx.1, ← ev_map (f := (0 :: ·)) (m' := mul (L :: T)) (e' := one (L :: T)) G rfl (fun y z hy hz => (m0 y z hy hz).symm) mem_gens x, U x hx.2, mN a _ 0 x ⟨hx.1, G.me⟩ ⟨ho, hx.2⟩, it, G.eL hx.2, Nat.add_zero, N_lt _ _ hx.1]

theorem grp {T : Tw} (h : Wf T) (hg : Good T) : IsG (El T) (mul T) (one T) := (grp_gens h hg).1
theorem ev_gens {T : Tw} (h : Wf T) (hg : Good T) {x : List Nat} (hx : El T x) : ev (mul T) (one T) (gens T) x = x := (grp_gens h hg).2 x hx
end Go.Proofs.YtbamkklhkhglnaaGreatDoor.Tow

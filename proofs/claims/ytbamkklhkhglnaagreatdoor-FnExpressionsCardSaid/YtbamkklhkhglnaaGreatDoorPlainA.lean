import Derived.Test.YtbamkklhkhglnaaGreatDoorTowB
import Derived.Test.YtbamkklhkhglnaaGreatDoorMem
/-
  Plain facts on towers, third part: the product by a generator, as the program makes it in place. No program in sight.
-/
namespace Go.Proofs.YtbamkklhkhglnaaGreatDoor.Tow
set_option linter.unusedVariables false
set_option linter.unusedSimpArgs false

theorem lvl' {T : Tw} (hT : Wf T) {i : Nat} {L : Lv} (hL : T[i]? = some L) : Wf (T.drop (i + 1)) ∧ L.c.length = T.length - (i + 1) ∧ (∀ y ∈ L.c, El (T.drop (i + 1)) y) ∧ El (T.drop (i + 1)) L.w ∧ 2 ≤ L.o := by
  have hi : i < T.length := (List.getElem?_eq_some_iff.1 hL).1
  have e : T.drop i = L :: T.drop (i + 1) := by rw [List.drop_eq_getElem_cons hi, (List.getElem?_eq_some_iff.1 hL).2]
  have := Wf_drop hT i
  rw [e] at this
  exact ⟨this.2.2.2.2, by rw [this.2.2.1]; simp, this.2.2.2.1, this.2.1, this.1⟩
theorem drop_cons' {T : Tw} {i : Nat} {L : Lv} (hL : T[i]? = some L) : T.drop i = L :: T.drop (i + 1) := by
  have hi : i < T.length := (List.getElem?_eq_some_iff.1 hL).1
  rw [List.drop_eq_getElem_cons hi, (List.getElem?_eq_some_iff.1 hL).2]
/-- times the first generator -/
def tg : Tw → List Nat → List Nat
  | L :: T, a :: r => (if a + 1 = L.o then 0 else a + 1) :: prodL (mul T) (if a + 1 = L.o then L.w else one T) L.c r
  | _, _ => []
theorem tg_mul {L : Lv} {T : Tw} (h : Wf (L :: T)) (hg : Good T) {x : List Nat} (hx : El (L :: T) x) : tg (L :: T) x = mul (L :: T) x (unit (L :: T) 0) := by
  cases x with
  | nil => exact absurd hx (by simp [El])
  | cons a r =>
    obtain ⟨h1, h2, h3, h4, h5⟩ := h
    have G := grp h5 hg
    have ha := hx.1
    rw [unit_zero, mul_cons, tg, show it (img T L.c) 1 r = img T L.c r from rfl, G.eR (El_img h5 h4 r)]
    have hi : img T L.c r = ev (mul T) (one T) L.c r := G.prodL_e h4 r
    by_cases hc : a + 1 = L.o
    · rw [if_pos hc, if_pos hc, if_pos (by omega), G.prodL h4 r h2, hi, show a + 1 - L.o = 0 by omega]
    · rw [if_neg hc, if_neg hc, if_neg (by omega), G.prodL h4 r G.me, hi, G.eL (G.ev h4 r)]
theorem tg_El {L : Lv} {T : Tw} (h : Wf (L :: T)) (hg : Good T) {x : List Nat} (hx : El (L :: T) x) : El (L :: T) (tg (L :: T) x) := by
  rw [tg_mul h hg hx]; exact El_mul h hx (El_unit h 0)

/-- a vector in the making: head u, behind it e times the generators of f that are done -/
def vv (T : Tw) (s : Nat) (u e f : List Nat) (j k : Nat) : List Nat := if j < s then u ++ e else u ++ prR (mul (T.drop s)) e (one (T.drop s)) (gens (T.drop s)) f (j - s) k
theorem gens_length (T : Tw) : (gens T).length = T.length := by simp [gens]
theorem gens_El {T : Tw} (h : Wf T) : ∀ c ∈ gens T, El T c := by intro c hc; obtain ⟨j, _, rfl⟩ := List.mem_map.1 hc; exact El_unit h j
theorem gens_getD {T : Tw} {j : Nat} (h : j < T.length) : (gens T).getD j (one T) = unit T j := by
  rw [List.getD_eq_getElem?_getD]; simp [gens, h]
theorem vv_start (T : Tw) (s : Nat) (u e f : List Nat) : vv T s u e f 0 0 = u ++ e := by
  unfold vv; split
  · rfl
  · rw [Nat.zero_sub, prR_zero]
theorem vv_skip (T : Tw) (s : Nat) (u e f : List Nat) (j : Nat) (h : j < s) : vv T s u e f (j + 1) 0 = vv T s u e f j 0 := by
  unfold vv
  rw [if_pos h]
  split
  · rfl
  · rw [show j + 1 - s = 0 by omega, prR_zero]
theorem prR_El {T : Tw} (h : Wf T) {e : List Nat} (he : El T e) (f : List Nat) (j k : Nat) : El T (prR (mul T) e (one T) (gens T) f j k) :=
  prR_inv (El T) (mul T) (fun _ _ p q => El_mul h p q) _ _ _ _ he (El_one h) (gens_El h) j k
theorem vv_El {T : Tw} (h : Wf T) {s : Nat} {u e : List Nat} (hu : u.length = s) (he : El (T.drop s) e) (f : List Nat) (j k : Nat) : El (T.drop s) ((vv T s u e f j k).drop s) := by
  unfold vv
  split
  · rw [List.drop_left' hu]; exact he
  · rw [List.drop_left' hu]; exact prR_El (Wf_drop h s) he f _ k
theorem vv_length {T : Tw} (h : Wf T) {s : Nat} (hs : s ≤ T.length) {u e : List Nat} (hu : u.length = s) (he : El (T.drop s) e) (f : List Nat) (j k : Nat) : (vv T s u e f j k).length = T.length := by
  unfold vv
  split
  · rw [List.length_append, El_length he, hu, List.length_drop]; omega
  · rw [List.length_append, El_length (prR_El (Wf_drop h s) he f _ k), hu, List.length_drop]; omega
theorem vv_step {T : Tw} (h : Wf T) {s : Nat} (hg : Good (T.drop s)) {u e : List Nat} (hu : u.length = s) (he : El (T.drop s) e) (f : List Nat) {j : Nat} (hj : s ≤ j) (hjn : j < T.length) (k : Nat) :
    (vv T s u e f j k).take j ++ tg (T.drop j) ((vv T s u e f j k).drop j) = vv T s u e f j (k + 1) := by
  have hwf := Wf_drop h s
  have hjl : j - s < (T.drop s).length := by simp; omega
  obtain ⟨t, rfl⟩ : ∃ t, j = s + t := ⟨j - s, by omega⟩
  rw [Nat.add_sub_cancel_left] at hjl
  unfold vv
  rw [if_neg (by omega), if_neg (by omega), Nat.add_sub_cancel_left, prR_step, gens_getD hjl]
  have hv := prR_El hwf he f t k
  generalize prR (mul (T.drop s)) e (one (T.drop s)) (gens (T.drop s)) f t k = v at hv ⊢
  have hd : (T.drop s).drop t = T.drop (s + t) := by rw [List.drop_drop]
  have hL : T.drop (s + t) = T[s + t] :: T.drop (s + t + 1) := List.drop_eq_getElem_cons hjn
  have hvd := El_drop hv t
  rw [hd] at hvd
  rw [show unit (T.drop s) t = pad t (unit ((T.drop s).drop t) 0) from (unit_pad (T.drop s) t 0 (by omega)).symm, mul_pad hwf t hv (El_unit (Wf_drop hwf t) 0) (by omega), hd]
  have e1 : (u ++ v).take (s + t) = u ++ v.take t := by rw [← hu, List.take_length_add_append]
  have e2 : (u ++ v).drop (s + t) = v.drop t := by rw [← hu, List.drop_length_add_append]
  have hgt : Good (T.drop (s + t + 1)) := by have := Good_drop hg (t + 1); rwa [List.drop_drop, show s + (t + 1) = s + t + 1 by omega] at this
  rw [e1, e2, List.append_assoc]
  rw [hL] at hvd ⊢
  rw [tg_mul (by rw [← hL]; exact Wf_drop h (s + t)) hgt hvd]
theorem vv_next {T : Tw} {s : Nat} {u e f : List Nat} {j a : Nat} (hj : s ≤ j) (hjn : j < T.length) (ha : f[j - s]? = some a) : vv T s u e f j a = vv T s u e f (j + 1) 0 := by
  unfold vv
  rw [if_neg (by omega), if_neg (by omega), prR_next _ _ _ _ _ _ a (by rw [gens_length]; simp; omega) ha, show j + 1 - s = j - s + 1 by omega]
theorem vv_end {T : Tw} (h : Wf T) {s : Nat} (hs : s ≤ T.length) (hg : Good (T.drop s)) {u e f : List Nat} (he : El (T.drop s) e) (hf : El (T.drop s) f) : vv T s u e f T.length 0 = u ++ mul (T.drop s) e f := by
  have hwf := Wf_drop h s
  have G := grp hwf hg
  unfold vv
  rw [if_neg (by omega), prR_end _ _ _ _ _ _ (by rw [gens_length]; simp) (by rw [El_length hf]; simp), G.prodL (gens_El hwf) f he, ev_gens hwf hg hf]
end Go.Proofs.YtbamkklhkhglnaaGreatDoor.Tow

/-
  Plain facts on towers, fourth part: a level's conditions by name.
-/
namespace Go.Proofs.YtbamkklhkhglnaaGreatDoor.TowD
open Go.Proofs.YtbamkklhkhglnaaGreatDoor Go.Proofs.YtbamkklhkhglnaaGreatDoor.Tow
set_option linter.unusedVariables false
set_option linter.unusedSimpArgs false

def C1 (L : Lv) (T' : Tw) (j : Nat) : Prop := npow (mul T') (one T') (L.c.getD j (one T')) (T'.getD j default).o = img T' L.c (pad (j + 1) (T'.getD j default).w)
def C2 (L : Lv) (T' : Tw) (j k : Nat) : Prop := mul T' (L.c.getD k (one T')) (L.c.getD j (one T')) = mul T' (L.c.getD j (one T')) (img T' L.c (pad (j + 1) ((T'.getD j default).c.getD (k - j - 1) [])))
def C4 (L : Lv) (T' : Tw) (j : Nat) : Prop := mul T' L.w (it (img T' L.c) L.o (unit T' j)) = mul T' (unit T' j) L.w
def C3 (L : Lv) (T' : Tw) : Prop := img T' L.c L.w = L.w
theorem lvOk_iff {L : Lv} {T' : Tw} (h : Wf (L :: T')) (hg : Tow.Good T') : LvOk L T' ↔ (∀ j < T'.length, C1 L T' j) ∧ (∀ j < T'.length, ∀ k, j < k → k < T'.length → C2 L T' j k) ∧ C3 L T' ∧ ∀ j < T'.length, C4 L T' j := LvOk_iff h hg
theorem ints_inj {a b : List Nat} : ints a = ints b ↔ a = b := by
  constructor
  · intro h
    exact (List.map_inj_right (fun x y e => Int.ofNat.inj e)).1 h
  · intro h; rw [h]
theorem pad_inj {s : Nat} {a b : List Nat} : pad s a = pad s b ↔ a = b := by simp [pad]
theorem dec_pads (s : Nat) (a b : List Nat) : decide (ints (pad s a) = ints (pad s b)) = decide (a = b) := by
  apply decide_eq_decide.2; rw [ints_inj, pad_inj]
theorem conj_dec {T' : Tw} (G : IsG (El T') (mul T') (one T')) (s : Nat) {a c z im : List Nat} (hc : El T' c) (hz : El T' z) (hi : El T' im) (h : mul T' c z = mul T' a c) : decide (ints (pad s z) = ints (pad s im)) = decide (mul T' a c = mul T' c im) := by
  rw [dec_pads]
  apply decide_eq_decide.2
  constructor
  · intro e; rw [← e, h]
  · intro e; exact G.cancelL hc hz hi (h.trans e)
theorem conj_dec' {T' : Tw} (G : IsG (El T') (mul T') (one T')) (s : Nat) {a c z im : List Nat} (hc : El T' c) (hz : El T' z) (hi : El T' im) (h : mul T' c z = mul T' a c) : decide (ints (pad s im) = ints (pad s z)) = decide (mul T' c im = mul T' a c) := by
  rw [dec_pads]
  apply decide_eq_decide.2
  constructor
  · intro e; rw [e, h]
  · intro e; exact G.cancelL hc hi hz (e.trans h.symm)
end Go.Proofs.YtbamkklhkhglnaaGreatDoor.TowD

/-
  Plain facts on valid presentations: a valid presentation is that of a small tower, and the other way round. No program in sight.
-/
namespace Go.Proofs.YtbamkklhkhglnaaGreatDoor.Val
open Go.Proofs.YtbamkklhkhglnaaGreatDoor Go.Proofs.YtbamkklhkhglnaaGreatDoor.Tow
set_option linter.unusedVariables false
set_option linter.unusedSimpArgs false

def primeB (x : Int) : Bool := x == 2 || x == 3 || x == 5 || x == 7
theorem primeB_le {x : Int} (h : primeB x = true) : 2 ≤ x ∧ x ≤ 7 := by
  simp [primeB] at h; omega
/-- a vector in the ranges of orders, zero ahead of an index -/
def TailV (os : List Int) (z : Nat) (v : List Int) : Prop := v.length = os.length ∧ ∀ j x o, v[j]? = some x → os[j]? = some o → 0 ≤ x ∧ x < o ∧ (j < z → x = 0)
def prodI : List Int → Int
  | [] => 1
  | o :: os => o * prodI os
structure Valid (P : Pres) : Prop where
  n6 : P.os.length ≤ 6
  pl : P.ps.length = P.os.length
  cl : P.cs.length = P.os.length
  pr : ∀ o ∈ P.os, primeB o = true
  le : prodI P.os ≤ 729
  pv : ∀ i p, P.ps[i]? = some p → TailV P.os (i + 1) p
  cv : ∀ i c, P.cs[i]? = some c → c.length = P.os.length - 1 - i ∧ ∀ y ∈ c, TailV P.os (i + 1) y

def nats (l : List Int) : List Nat := l.map Int.toNat
/-- a tower out of a presentation's lists -/
def toTw : Nat → List Int → List (List Int) → List (List (List Int)) → Tw
  | s, o :: os, p :: ps, c :: cs => ⟨o.toNat, nats (p.drop (s + 1)), c.map fun y => nats (y.drop (s + 1))⟩ :: toTw (s + 1) os ps cs
  | _, _, _, _ => []
theorem toTw_length (s : Nat) (os : List Int) (ps : List (List Int)) (cs : List (List (List Int))) (h1 : ps.length = os.length) (h2 : cs.length = os.length) : (toTw s os ps cs).length = os.length := by
  induction os generalizing s ps cs with
  | nil => cases ps <;> cases cs <;> rfl
  | cons o os ih => cases ps with
    | nil => simp at h1
    | cons p ps => cases cs with
      | nil => simp at h2
      | cons c cs => simp only [toTw, List.length_cons]; rw [ih (s + 1) ps cs (by simpa using h1) (by simpa using h2)]
theorem toTw_os (s : Nat) (os : List Int) (ps : List (List Int)) (cs : List (List (List Int))) (h1 : ps.length = os.length) (h2 : cs.length = os.length) (hp : ∀ o ∈ os, primeB o = true) : (toTw s os ps cs).map (fun L => (L.o : Int)) = os := by
  induction os generalizing s ps cs with
  | nil => cases ps <;> cases cs <;> rfl
  | cons o os ih => cases ps with
    | nil => simp at h1
    | cons p ps => cases cs with
      | nil => simp at h2
      | cons c cs =>
        simp only [toTw, List.map_cons]
        rw [ih (s + 1) ps cs (by simpa using h1) (by simpa using h2) (fun x hx => hp x (List.mem_cons_of_mem _ hx))]
        have := primeB_le (hp o List.mem_cons_self)
        congr 1
        omega
/-- the entries behind an index are an element of the tower of the orders behind it -/
theorem El_nats {T : Tw} {os : List Int} (hT : T.map (fun L => (L.o : Int)) = os) {v : List Int} (hl : v.length = os.length) (h : ∀ (j : Nat) (x o : Int), v[j]? = some x → os[j]? = some o → 0 ≤ x ∧ x < o) : El T (nats v) := by
  induction T generalizing os v with
  | nil =>
    simp only [List.map_nil] at hT
    subst hT
    have : v = [] := List.eq_nil_of_length_eq_zero hl
    subst this; trivial
  | cons L T ih =>
    simp only [List.map_cons] at hT
    subst hT
    cases v with
    | nil => simp at hl
    | cons x v =>
      have h0 := h 0 x L.o rfl rfl
      refine ⟨?_, ih rfl (by simpa using hl) (fun j y o hy ho => h (j + 1) y o (by simpa using hy) (by simpa using ho))⟩
      show x.toNat < L.o
      omega
theorem ints_nats {v : List Int} (h : ∀ x ∈ v, 0 ≤ x) : ints (nats v) = v := by
  induction v with
  | nil => rfl
  | cons x v ih =>
    have := h x List.mem_cons_self
    simp only [nats, ints, List.map_cons] at ih ⊢
    rw [ih (fun y hy => h y (List.mem_cons_of_mem _ hy))]
    congr 1
    exact Int.toNat_of_nonneg this
theorem tail_pad {OS v : List Int} {z : Nat} (h : TailV OS z v) (hz : z ≤ OS.length) : ints (pad z (nats (v.drop z))) = v := by
  have hl := h.1
  have h0 : ∀ j, j < z → v[j]? = some 0 := fun j hj => by
    have hx : v[j]? = some v[j] := List.getElem?_eq_getElem (by omega)
    have ho : OS[j]? = some OS[j] := List.getElem?_eq_getElem (by omega)
    rw [hx, ((h.2 j _ _ hx ho).2.2 hj)]
  have hn : ∀ x ∈ v.drop z, 0 ≤ x := fun x hx => by
    obtain ⟨j, hj, rfl⟩ := List.getElem_of_mem (List.mem_of_mem_drop hx)
    exact (h.2 j _ _ (List.getElem?_eq_getElem hj) (List.getElem?_eq_getElem (by omega))).1
  have e1 : ints (pad z (nats (v.drop z))) = List.replicate z 0 ++ ints (nats (v.drop z)) := by simp [ints, pad]
  rw [e1, ints_nats hn]
  conv => rhs; rw [← List.take_append_drop z v]
  congr 1
  apply List.ext_getElem?
  intro j
  rw [List.getElem?_take, List.getElem?_replicate]
  split
  · next hj => rw [h0 j hj]
  · rfl
theorem tail_El {OS v : List Int} {s : Nat} (h : TailV OS (s + 1) v) {T : Tw} (hT : T.map (fun L => (L.o : Int)) = OS.drop (s + 1)) : El T (nats (v.drop (s + 1))) :=
  El_nats hT (by simp [h.1]) (fun j x o hx ho => by
    rw [List.getElem?_drop] at hx ho
    have := h.2 _ x o hx ho
    exact ⟨this.1, this.2.1⟩)
theorem toTw_of (OS : List Int) (s : Nat) (os : List Int) (ps : List (List Int)) (cs : List (List (List Int))) (hos : os = OS.drop s) (h1 : ps.length = os.length) (h2 : cs.length = os.length) (hp : ∀ o ∈ os, primeB o = true)
    (hv : ∀ i p, ps[i]? = some p → TailV OS (s + i + 1) p) (hc : ∀ i c, cs[i]? = some c → c.length = OS.length - 1 - (s + i) ∧ ∀ y ∈ c, TailV OS (s + i + 1) y) :
    Wf (toTw s os ps cs) ∧ powF s (toTw s os ps cs) = ps ∧ conF s (toTw s os ps cs) = cs := by
  induction os generalizing s ps cs with
  | nil =>
    have e1 : ps = [] := List.eq_nil_of_length_eq_zero h1
    have e2 : cs = [] := List.eq_nil_of_length_eq_zero h2
    subst e1; subst e2
    exact ⟨trivial, rfl, rfl⟩
  | cons o os ih => cases ps with
    | nil => simp at h1
    | cons p ps => cases cs with
      | nil => simp at h2
      | cons c cs =>
        have hl : s < OS.length := by
          have := congrArg List.length hos
          simp at this; omega
        have hos' : os = OS.drop (s + 1) := by
          rw [List.drop_eq_getElem_cons hl] at hos
          exact (List.cons.inj hos).2
        have hp' : ∀ x ∈ os, primeB x = true := fun x hx => hp x (List.mem_cons_of_mem _ hx)
        have h1' : ps.length = os.length := by simpa using h1
        have h2' : cs.length = os.length := by simpa using h2
        obtain ⟨w1, w2, w3⟩ := ih (s + 1) ps cs hos' h1' h2' hp' (fun i q hq => by have := hv (i + 1) q (by simpa using hq); rwa [show s + (i + 1) + 1 = s + 1 + i + 1 by omega] at this)
          (fun i d hd => by have := hc (i + 1) d (by simpa using hd); rwa [show s + (i + 1) + 1 = s + 1 + i + 1 by omega, show OS.length - 1 - (s + (i + 1)) = OS.length - 1 - (s + 1 + i) by omega] at this)
        have hT : (toTw (s + 1) os ps cs).map (fun L => (L.o : Int)) = OS.drop (s + 1) := by rw [toTw_os _ _ _ _ h1' h2' hp', hos']
        have hpv := hv 0 p rfl
        have hcv := hc 0 c rfl
        simp only [Nat.add_zero] at hpv hcv
        have hln : (toTw (s + 1) os ps cs).length = OS.length - (s + 1) := by rw [toTw_length _ _ _ _ h1' h2', hos']; simp
        refine ⟨⟨?_, ?_, ?_, ?_, w1⟩, ?_, ?_⟩
        · have := primeB_le (hp o List.mem_cons_self)
          show 2 ≤ o.toNat
          omega
        · exact tail_El hpv hT
        · show (c.map _).length = _
          rw [List.length_map, hcv.1, hln]; omega
        · intro y hy
          simp only [List.mem_map] at hy
          obtain ⟨y', hy', rfl⟩ := hy
          exact tail_El (hcv.2 y' hy') hT
        · simp only [toTw, powF]
          rw [w2, tail_pad hpv (by omega)]
        · simp only [toTw, conF]
          rw [w3]
          congr 1
          rw [List.map_map]
          conv => rhs; rw [← List.map_id c]
          apply List.map_congr_left
          intro y hy
          exact tail_pad (hcv.2 y hy) (by omega)
/-- a valid presentation is that of a small tower -/
theorem Valid.tower {P : Pres} (h : Valid P) : ∃ T, Wf T ∧ Small T ∧ P = ofTw T := by
  obtain ⟨w1, w2, w3⟩ := toTw_of P.os 0 P.os P.ps P.cs rfl h.pl h.cl h.pr (fun i p hp => by rw [Nat.zero_add]; exact h.pv i p hp) (fun i c hc => by rw [Nat.zero_add]; exact h.cv i c hc)
  have ho := toTw_os 0 P.os P.ps P.cs h.pl h.cl h.pr
  refine ⟨toTw 0 P.os P.ps P.cs, w1, ⟨by rw [toTw_length _ _ _ _ h.pl h.cl]; exact h.n6, fun L hL => ?_⟩, ?_⟩
  · have hm : (L.o : Int) ∈ P.os := by rw [← ho]; exact List.mem_map.2 ⟨L, hL, rfl⟩
    have := primeB_le (h.pr _ hm)
    omega
  · unfold ofTw
    rw [ho, w2, w3]

theorem prodI_pos {os : List Int} (h : ∀ o ∈ os, primeB o = true) : 1 ≤ prodI os := by
  induction os with
  | nil => exact Int.le_refl _
  | cons o os ih =>
    have h1 := ih (fun x hx => h x (List.mem_cons_of_mem _ hx))
    have h2 := primeB_le (h o List.mem_cons_self)
    have h3 : 1 * 1 ≤ o * prodI os := Int.mul_le_mul (by omega) h1 (by omega) (by omega)
    simpa [prodI] using h3
theorem prodI_append (a b : List Int) : prodI (a ++ b) = prodI a * prodI b := by
  induction a with
  | nil => simp [prodI]
  | cons o a ih => simp [prodI, ih, Int.mul_assoc]
theorem prodI_take_succ {os : List Int} {k : Nat} {o : Int} (h : os[k]? = some o) : prodI (os.take (k + 1)) = prodI (os.take k) * o := by
  rw [List.take_add_one, h, prodI_append]; simp [prodI]
theorem prodI_take_le {os : List Int} (h : ∀ o ∈ os, primeB o = true) (k : Nat) : prodI (os.take k) ≤ prodI os := by
  conv => rhs; rw [← List.take_append_drop k os, prodI_append]
  have h1 := prodI_pos (os := os.take k) (fun o ho => h o (List.mem_of_mem_take ho))
  have h2 := prodI_pos (os := os.drop k) (fun o ho => h o (List.mem_of_mem_drop ho))
  have h3 : prodI (os.take k) * 1 ≤ prodI (os.take k) * prodI (os.drop k) := Int.mul_le_mul (Int.le_refl _) h2 (by omega) (by omega)
  simpa using h3
end Go.Proofs.YtbamkklhkhglnaaGreatDoor.Val

namespace Go.Proofs.YtbamkklhkhglnaaGreatDoor.Grps
open Go.RowKit Go.Proofs.YtbamkklhkhglnaaGreatDoor Go.Proofs.YtbamkklhkhglnaaGreatDoor.Tow Go.Proofs.YtbamkklhkhglnaaGreatDoor.Val
set_option linter.unusedVariables false
theorem map_inj {α β : Type} {f : α → β} (hf : ∀ a b, f a = f b → a = b) : ∀ {l l' : List α}, l.map f = l'.map f → l = l'
  | [], [], _ => rfl
  | [], _ :: _, h => by simp at h
  | _ :: _, [], h => by simp at h
  | a :: l, b :: l', h => by
    simp only [List.map_cons, List.cons.injEq] at h
    rw [hf a b h.1, map_inj hf h.2]
theorem ints_pad_inj {n : Nat} {a b : List Nat} (h : ints (pad n a) = ints (pad n b)) : a = b := by
  have h1 := TowD.ints_inj.1 h
  exact TowD.pad_inj.1 h1
theorem ofTw_inj' : ∀ (s : Nat) (T T' : Tw), T.map (fun L => (L.o : Int)) = T'.map (fun L => (L.o : Int)) → powF s T = powF s T' → conF s T = conF s T' → T = T'
  | _, [], [], _, _, _ => rfl
  | _, [], _ :: _, h, _, _ => by simp at h
  | _, _ :: _, [], h, _, _ => by simp at h
  | s, ⟨o, w, c⟩ :: T, ⟨o', w', c'⟩ :: T', h1, h2, h3 => by
    simp only [List.map_cons, List.cons.injEq] at h1
    simp only [powF, List.cons.injEq] at h2
    simp only [conF, List.cons.injEq] at h3
    obtain rfl := ofTw_inj' (s + 1) T T' h1.2 h2.2 h3.2
    obtain rfl : o = o' := by have := h1.1; omega
    obtain rfl : w = w' := ints_pad_inj h2.1
    obtain rfl : c = c' := by
      have := h3.1
      exact map_inj (fun a b h => ints_pad_inj h) this
    rfl
theorem ofTw_inj {T T' : Tw} (h : ofTw T = ofTw T') : T = T' := by
  simp only [ofTw, Pres.mk.injEq] at h
  exact ofTw_inj' 0 T T' h.1 h.2.1 h.2.2

/-- what a presentation that is a group is made of -/
def Grp (P : Pres) : Prop := ∃ T, Wf T ∧ Small T ∧ P = ofTw T ∧ Valid P ∧ Tow.Good T

theorem Grp.good {T : Tw} (h : Grp (ofTw T)) : Tow.Good T := by
  obtain ⟨T', h1, h2, h3, _, h4⟩ := h
  have := ofTw_inj h3
  exact this ▸ h4
end Go.Proofs.YtbamkklhkhglnaaGreatDoor.Grps

/-
  Plain facts: the number of an element and the element with a number.
-/
namespace Go.Proofs.YtbamkklhkhglnaaGreatDoor.NumT
open Go.Proofs.YtbamkklhkhglnaaGreatDoor.Tow Go.Proofs.YtbamkklhkhglnaaGreatDoor Go.Proofs.YtbamkklhkhglnaaGreatDoor.Val
set_option linter.unusedVariables false
set_option linter.unusedSimpArgs false

def sz : Tw → Nat
  | [] => 1
  | L :: T => L.o * sz T
def num : Tw → List Nat → Nat
  | L :: T, a :: x => a * sz T + num T x
  | _, _ => 0
def at_ : Tw → Nat → List Nat
  | [], _ => []
  | L :: T, k => (k / sz T % L.o) :: at_ T k

theorem sz_pos {T : Tw} (h : Wf T) : 0 < sz T := by
  induction T with
  | nil => simp [sz]
  | cons L T ih => exact Nat.mul_pos (by have := h.1; omega) (ih h.2.2.2.2)
theorem at_length (T : Tw) (k : Nat) : (at_ T k).length = T.length := by
  induction T with
  | nil => rfl
  | cons L T ih => simp [at_, ih]
theorem at_El {T : Tw} (h : Wf T) (k : Nat) : El T (at_ T k) := by
  induction T with
  | nil => trivial
  | cons L T ih => exact ⟨Nat.mod_lt _ (by have := h.1; omega), ih h.2.2.2.2⟩
theorem num_lt {T : Tw} {x : List Nat} (hx : El T x) (h : Wf T) : num T x < sz T := by
  induction T generalizing x with
  | nil => simp [num, sz]
  | cons L T ih =>
    cases x with
    | nil => exact hx.elim
    | cons a x =>
      have h1 := ih hx.2 h.2.2.2.2
      have h2 := hx.1
      show a * sz T + num T x < L.o * sz T
      have : (a + 1) * sz T ≤ L.o * sz T := Nat.mul_le_mul_right _ h2
      rw [Nat.add_mul, Nat.one_mul] at this
      omega
theorem num_at (T : Tw) (k : Nat) : num T (at_ T k) = k % sz T := by
  induction T with
  | nil => simp [num, sz, Nat.mod_one]
  | cons L T ih =>
    show (k / sz T % L.o) * sz T + num T (at_ T k) = k % (L.o * sz T)
    rw [ih, Nat.mul_comm L.o, Nat.mod_mul, Nat.mul_comm (sz T)]
    omega
theorem num_inj {T : Tw} (h : Wf T) {x y : List Nat} (hx : El T x) (hy : El T y) (e : num T x = num T y) : x = y := by
  induction T generalizing x y with
  | nil => cases x <;> cases y <;> first | rfl | exact hx.elim | exact hy.elim
  | cons L T ih =>
    cases x with
    | nil => exact hx.elim
    | cons a x =>
      cases y with
      | nil => exact hy.elim
      | cons b y =>
        have h1 := num_lt hx.2 h.2.2.2.2
        have h2 := num_lt hy.2 h.2.2.2.2
        have e' : a * sz T + num T x = b * sz T + num T y := e
        have hab : a = b := by
          have : (a * sz T + num T x) / sz T = (b * sz T + num T y) / sz T := by rw [e']
          rw [Nat.add_comm, Nat.add_comm (b * sz T), Nat.add_mul_div_right _ _ (by omega), Nat.add_mul_div_right _ _ (by omega), Nat.div_eq_of_lt h1, Nat.div_eq_of_lt h2] at this
          omega
        subst hab
        rw [ih h.2.2.2.2 hx.2 hy.2 (by omega)]
theorem at_num {T : Tw} (h : Wf T) {x : List Nat} (hx : El T x) : at_ T (num T x) = x :=
  num_inj h (at_El h _) hx (by rw [num_at, Nat.mod_eq_of_lt (num_lt hx h)])
theorem at_inj {T : Tw} {j k : Nat} (hj : j < sz T) (hk : k < sz T) (e : at_ T j = at_ T k) : j = k := by
  have := congrArg (num T) e
  rwa [num_at, num_at, Nat.mod_eq_of_lt hj, Nat.mod_eq_of_lt hk] at this
theorem num_one {T : Tw} : num T (one T) = 0 := by
  induction T with
  | nil => rfl
  | cons L T ih => show 0 * sz T + num T (one T) = 0; rw [ih]; omega

/-- a step from the left -/
theorem sz_step {T : Tw} {i : Nat} {L : Lv} (hL : T[i]? = some L) : sz (T.drop i) = L.o * sz (T.drop (i + 1)) := by rw [drop_cons' hL]; rfl
theorem num_step {T : Tw} {i : Nat} {L : Lv} (hL : T[i]? = some L) {x : List Nat} {a : Nat} (ha : x[i]? = some a) : num (T.drop i) (x.drop i) = a * sz (T.drop (i + 1)) + num (T.drop (i + 1)) (x.drop (i + 1)) := by
  rw [drop_cons' hL]
  have : x.drop i = a :: x.drop (i + 1) := by
    have := List.getElem?_eq_some_iff.1 ha
    rw [List.drop_eq_getElem_cons this.1, this.2]
  rw [this]; rfl
theorem sz_end (T : Tw) : sz (T.drop T.length) = 1 := by simp [sz]
theorem num_end (T : Tw) (x : List Nat) : num (T.drop T.length) x = 0 := by simp [num]
/-- a step from the right -/
theorem at_step {T : Tw} {i : Nat} {L : Lv} (hL : T[i]? = some L) (k : Nat) : at_ (T.drop i) k = (k / sz (T.drop (i + 1)) % L.o) :: at_ (T.drop (i + 1)) k := by rw [drop_cons' hL]; rfl
theorem quo_step {T : Tw} {i : Nat} {L : Lv} (hL : T[i]? = some L) (k : Nat) : k / sz (T.drop (i + 1)) / L.o = k / sz (T.drop i) := by
  rw [sz_step hL, Nat.div_div_eq_div_mul, Nat.mul_comm L.o]
theorem sz_drop_dvd (T : Tw) (hT : Wf T) (i : Nat) : sz (T.drop i) ≤ sz T := by
  induction T generalizing i with
  | nil => simp
  | cons L T ih =>
    cases i with
    | zero => exact Nat.le_refl _
    | succ i =>
      show sz (T.drop i) ≤ L.o * sz T
      have h1 := ih hT.2.2.2.2 i
      have h2 : 1 * sz T ≤ L.o * sz T := Nat.mul_le_mul_right _ (by have := hT.1; omega)
      omega
theorem prodI_sz (T : Tw) : prodI (T.map fun L => (L.o : Int)) = (sz T : Int) := by
  induction T with
  | nil => rfl
  | cons L T ih => show (L.o : Int) * prodI _ = _; rw [ih]; simp [sz]
theorem valid_sz {T : Tw} (h : Valid (ofTw T)) : sz T ≤ 729 := by
  have := h.le
  rw [show (ofTw T).os = T.map fun L => (L.o : Int) from rfl, prodI_sz] at this
  omega
theorem Grp.sz {P : Pres} {T : Tw} (h : Grps.Grp P) (e : P = ofTw T) : NumT.sz T ≤ 729 := by
  obtain ⟨T', _, _, h3, hv, _⟩ := h
  subst e
  exact valid_sz hv
end Go.Proofs.YtbamkklhkhglnaaGreatDoor.NumT

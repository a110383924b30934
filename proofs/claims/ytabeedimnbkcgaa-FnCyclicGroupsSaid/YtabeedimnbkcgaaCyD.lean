import Derived.Test.YtabeedimnbkcgaaImplRS
/-
  Plain: the factors of a number, the tower of a cyclic group, by computation. No program in sight.
-/
namespace Go.Proofs.Ytabeedimnbkcgaa.CyD
open Go.RowKit Go.Proofs.Ytabeedimnbkcgaa Go.Proofs.Ytabeedimnbkcgaa.Tow Go.Proofs.Ytabeedimnbkcgaa.Val Go.Proofs.Ytabeedimnbkcgaa.Grps Go.Proofs.Ytabeedimnbkcgaa.NumT
set_option linter.unusedVariables false
set_option linter.unusedSimpArgs false

/-- how often a number divides another, and what is left -/
def stripN : Nat → Nat → Nat → Nat × Nat
  | 0, p, n => (0, n)
  | k + 1, p, n => if n % p = 0 then ((stripN k p (n / p)).1 + 1, (stripN k p (n / p)).2) else (0, n)
def nxt (p n : Nat) : Nat := if n < p * p then n else p
def facI : Nat → Nat → Nat → List (Nat × Nat)
  | 0, p, n => []
  | k + 1, p, n => if n ≤ 1 then [] else (if 0 < (stripN 10 (nxt p n) n).1 then [(nxt p n, (stripN 10 (nxt p n) n).1)] else []) ++ facI k (nxt p n + 1) (stripN 10 (nxt p n) n).2
def doneI : Nat → Nat → Nat → Bool
  | 0, p, n => decide (n ≤ 1)
  | k + 1, p, n => decide (n ≤ 1) || doneI k (nxt p n + 1) (stripN 10 (nxt p n) n).2
def facS : List Nat → Nat → List Nat × Nat
  | [], n => ([], n)
  | d :: ds, n => (List.replicate (stripN 10 d n).1 d ++ (facS ds (stripN 10 d n).2).1, (facS ds (stripN 10 d n).2).2)
def flat : List (Nat × Nat) → List Nat
  | [] => []
  | (p, e) :: l => List.replicate e p ++ flat l
def gp (p : Nat) : Bool := p == 2 || p == 3 || p == 5 || p == 7
/-- the orders of the generators, or the code -/
def resS (n : Nat) : Nat × List Nat := if (facS [2, 3, 5, 7] n).2 = 1 then (if 6 < (facS [2, 3, 5, 7] n).1.length then (3, []) else (0, (facS [2, 3, 5, 7] n).1)) else (2, [])
def resI (n : Nat) : Nat × List Nat := if (facI 40 2 n).all (fun x => gp x.1) then (if 6 < (flat (facI 40 2 n)).length then (3, []) else (0, flat (facI 40 2 n))) else (2, [])
theorem res_all : ((List.range 730).all fun n => n == 0 || (doneI 40 2 n && resI n == resS n)) = true := by decide +kernel
/-- the tower of a cyclic group -/
def cyT : List Nat → Tw
  | [] => []
  | p :: os => ⟨p, (List.range os.length).map (fun j => if j = 0 then 1 else 0), (List.range os.length).map fun i => (List.range os.length).map fun j => if i = j then 1 else 0⟩ :: cyT os

def elB : Tw → List Nat → Bool
  | [], [] => true
  | L :: T, a :: x => decide (a < L.o) && elB T x
  | _, _ => false
theorem elB_iff : ∀ (T : Tw) (x : List Nat), elB T x = true → El T x
  | [], [], _ => trivial
  | L :: T, a :: x, h => by
    rw [elB, Bool.and_eq_true, decide_eq_true_eq] at h
    exact ⟨h.1, elB_iff T x h.2⟩
  | [], _ :: _, h => by simp [elB] at h
  | _ :: _, [], h => by simp [elB] at h
def wfB : Tw → Bool
  | [] => true
  | L :: T => decide (2 ≤ L.o) && elB T L.w && decide (L.c.length = T.length) && L.c.all (elB T) && wfB T
theorem wfB_iff : ∀ T : Tw, wfB T = true → Wf T
  | [], _ => trivial
  | L :: T, h => by
    simp only [wfB, Bool.and_eq_true, decide_eq_true_eq, List.all_eq_true] at h
    obtain ⟨⟨⟨⟨h1, h2⟩, h3⟩, h4⟩, h5⟩ := h
    exact ⟨h1, elB_iff _ _ h2, h3, fun y hy => elB_iff _ _ (h4 y hy), wfB_iff T h5⟩
def relB (m : List Nat → List Nat → List Nat) (e : List Nat) : Tw → List (List Nat) → Bool
  | [], [] => true
  | L :: T, c0 :: cs => decide (npow m e c0 L.o = ev m e cs L.w) && (List.range cs.length).all (fun j => decide (m (cs.getD j []) c0 = m c0 (ev m e cs (L.c.getD j [])))) && relB m e T cs
  | _, _ => false
theorem relB_iff (m : List Nat → List Nat → List Nat) (e : List Nat) : ∀ (T : Tw) (cs : List (List Nat)), relB m e T cs = true → Rel m e T cs
  | [], [], _ => trivial
  | L :: T, c0 :: cs, h => by
    simp only [relB, Bool.and_eq_true, decide_eq_true_eq, List.all_eq_true, List.mem_range] at h
    obtain ⟨⟨h1, h2⟩, h3⟩ := h
    refine ⟨h1, fun j hj hj' => ?_, relB_iff m e T cs h3⟩
    have := h2 j hj
    rw [List.getD_eq_getElem?_getD, List.getD_eq_getElem?_getD, List.getElem?_eq_getElem hj, List.getElem?_eq_getElem hj'] at this
    exact this
  | [], _ :: _, h => by simp [relB] at h
  | _ :: _, [], h => by simp [relB] at h
def goodB : Tw → Bool
  | [] => true
  | L :: T => goodB T && relB (mul T) (one T) T L.c && decide (img T L.c L.w = L.w) && (List.range T.length).all (fun j => decide (mul T L.w (it (img T L.c) L.o (unit T j)) = mul T (unit T j) L.w))
theorem goodB_iff : ∀ T : Tw, goodB T = true → Tow.Good T
  | [], _ => trivial
  | L :: T, h => by
    simp only [goodB, Bool.and_eq_true, decide_eq_true_eq, List.all_eq_true, List.mem_range] at h
    obtain ⟨⟨⟨h1, h2⟩, h3⟩, h4⟩ := h
    exact ⟨goodB_iff T h1, relB_iff _ _ _ _ h2, h3, h4⟩
def tailB (os : List Int) (z : Nat) (v : List Int) : Bool := decide (v.length = os.length) && (List.range v.length).all fun j => decide (0 ≤ v.getD j 0 ∧ v.getD j 0 < os.getD j 0 ∧ (j < z → v.getD j 0 = 0))
theorem tailB_iff {os : List Int} {z : Nat} {v : List Int} (h : tailB os z v = true) : TailV os z v := by
  simp only [tailB, Bool.and_eq_true, decide_eq_true_eq, List.all_eq_true, List.mem_range] at h
  refine ⟨h.1, fun j x o hx ho => ?_⟩
  have := h.2 j (List.getElem?_eq_some_iff.1 hx).1
  rw [List.getD_eq_getElem?_getD, List.getD_eq_getElem?_getD, hx, ho] at this
  exact this
def validB (P : Pres) : Bool := decide (P.os.length ≤ 6) && decide (P.ps.length = P.os.length) && decide (P.cs.length = P.os.length) && P.os.all primeB && decide (prodI P.os ≤ 729) &&
  (List.range P.ps.length).all (fun i => tailB P.os (i + 1) (P.ps.getD i [])) && (List.range P.cs.length).all (fun i => decide ((P.cs.getD i []).length = P.os.length - 1 - i) && (P.cs.getD i []).all (tailB P.os (i + 1)))
theorem validB_iff {P : Pres} (h : validB P = true) : Valid P := by
  simp only [validB, Bool.and_eq_true, decide_eq_true_eq, List.all_eq_true, List.mem_range] at h
  obtain ⟨⟨⟨⟨⟨⟨h1, h2⟩, h3⟩, h4⟩, h5⟩, h6⟩, h7⟩ := h
  refine ⟨h1, h2, h3, h4, h5, fun i p hp => ?_, fun i c hc => ?_⟩
  · have := h6 i (List.getElem?_eq_some_iff.1 hp).1
    rw [List.getD_eq_getElem?_getD, hp] at this
    exact tailB_iff this
  · have := h7 i (List.getElem?_eq_some_iff.1 hc).1
    rw [List.getD_eq_getElem?_getD, hc] at this
    exact ⟨this.1, fun y hy => tailB_iff (this.2 y hy)⟩
def inL (Q : Tw) : Tw → List Nat → List Nat
  | L :: T, x :: im => (List.range L.o).flatMap fun j => (inL Q T im).map fun s => it (ImplP.pr Q x) j s
  | _, _ => [0]
theorem inL_iff (Q : Tw) : ∀ (T : Tw) (im : List Nat) (c : Nat), Grow.inS Q T im c ↔ c ∈ inL Q T im
  | L :: T, x :: im, c => by
    simp only [Grow.inS, inL, List.mem_flatMap, List.mem_range, List.mem_map]
    constructor
    · rintro ⟨j, hj, s, hs, e⟩
      exact ⟨j, hj, s, (inL_iff Q T im s).1 hs, e⟩
    · rintro ⟨j, hj, s, hs, e⟩
      exact ⟨j, hj, s, (inL_iff Q T im s).2 hs, e⟩
  | [], _, c => by simp [Grow.inS, inL]
  | _ :: _, [], c => by simp [Grow.inS, inL]
def fitsB (Q : Tw) (L : Lv) (im : List Nat) (x : Nat) : Bool :=
  decide (it (fun z => ImplP.pr Q z x) L.o 0 = prodL (ImplP.pr Q) 0 im L.w) && (List.range L.c.length).all fun k => decide (ImplP.pr Q (im.getD k 0) x = ImplP.pr Q x (prodL (ImplP.pr Q) 0 im (L.c.getD k [])))
theorem fitsB_iff (Q : Tw) (L : Lv) (im : List Nat) (x : Nat) : ImplS.Fits Q L im x ↔ fitsB Q L im x = true := by
  simp only [fitsB, ImplS.Fits, Bool.and_eq_true, decide_eq_true_eq, List.all_eq_true, List.mem_range]
  refine and_congr Iff.rfl ⟨fun h k hk => ?_, fun h k y hy => ?_⟩
  · have := h k _ (List.getElem?_eq_getElem hk)
    rw [List.getD_eq_getElem?_getD (l := L.c), List.getElem?_eq_getElem hk]
    exact this
  · have := h k (List.getElem?_eq_some_iff.1 hy).1
    rw [List.getD_eq_getElem?_getD (l := L.c), hy] at this
    exact this
def growC (Q T : Tw) : Nat → List Nat → List (List Nat)
  | 0, im => [im]
  | k + 1, im => (List.range (sz Q)).flatMap fun x => if (!(inL Q (T.drop (k + 1)) im).contains x && fitsB Q (T.getD k ⟨0, [], []⟩) im x) = true then growC Q T k (x :: im) else []
theorem growC_eq (Q T : Tw) : ∀ (k : Nat) (im : List Nat), Grow.grow Q T k im = growC Q T k im
  | 0, im => rfl
  | k + 1, im => by
    rw [Grow.grow, growC]
    congr 1
    funext x
    have h : (¬ Grow.inS Q (T.drop (k + 1)) im x ∧ ImplS.Fits Q (T.getD k ⟨0, [], []⟩) im x) ↔ (!(inL Q (T.drop (k + 1)) im).contains x && fitsB Q (T.getD k ⟨0, [], []⟩) im x) = true := by
      rw [inL_iff, fitsB_iff, Bool.and_eq_true, Bool.not_eq_true', ← Bool.not_eq_true, List.contains_iff_mem]
    by_cases hc : (!(inL Q (T.drop (k + 1)) im).contains x && fitsB Q (T.getD k ⟨0, [], []⟩) im x) = true
    · rw [if_pos (h.2 hc), if_pos hc, growC_eq Q T k]
    · rw [if_neg (fun hn => hc (h.1 hn)), if_neg hc]
def zeroL (x : List Nat) : Bool := x.all (· == 0)
/-- the order of an element, as it is found -/
def ordM (T : Tw) : Nat → Nat → List Nat → Nat → Option Nat
  | 0, d, x, k => if zeroL x then some k else none
  | f + 1, d, x, k => if zeroL x then some k else match x[d]?, T[d]? with
    | some a, some L => if a = 0 then ordM T f (d + 1) x k else ordM T f (d + 1) (npow (mul T) (one T) x L.o) (k * L.o)
    | _, _ => none
/-- the steps of Euclid's way -/
def eu (m a : Int) : Nat → Int × Int × Int × Int
  | 0 => (m, a, 0, 1)
  | j + 1 => match eu m a j with
    | (r, n, x, y) => if n = 0 then (r, n, x, y) else (n, r - r.tdiv n * n, y, x - r.tdiv n * y)
/-- one step is in order, in small numbers -/
def euB (m a : Int) (j : Nat) : Bool := match eu m a j with
  | (r, n, x, y) => decide (-1000 ≤ r ∧ r ≤ 1000) && decide (0 ≤ n ∧ n ≤ 1000) && decide (-1000 ≤ x ∧ x ≤ 1000) && decide (-1000 ≤ y ∧ y ≤ 1000) &&
    (if n = 0 then true
     else decide (-1000 ≤ r.tdiv n ∧ r.tdiv n ≤ 1000) && decide (-1000 ≤ r.tdiv n * n ∧ r.tdiv n * n ≤ 1000) && decide (-1000 ≤ r.tdiv n * y ∧ r.tdiv n * y ≤ 1000) && decide (0 ≤ r - r.tdiv n * n ∧ r - r.tdiv n * n < n) && decide (j < 10))
/-- it has an inverse -/
def invB (m a : Nat) : Bool := (eu m a 10).1 == 1
theorem eu_all : ((List.range 28).all fun m => m == 0 || (List.range m).all fun a => (List.range 11).all fun j => euB (m : Nat) (a : Nat) j) = true := by decide +kernel
def units (n : Nat) : Nat := ((List.range n).filter fun a => invB n ((a + 1) % n)).length
def okN (n : Nat) : Bool := match resS n with
  | (0, os) => wfB (cyT os) && goodB (cyT os) && validB (ofTw (cyT os)) && (cyT os).all (fun L => decide (L.o ≤ 7)) && decide (sz (cyT os) = n) && (n == 1 || decide (ordM (cyT os) os.length 0 ((List.replicate os.length 0).set 0 1) 1 = some n)) &&
    (decide (27 < n) || n == 1 || decide ((growC (cyT os) (cyT os) os.length []).length = units n))
  | _ => true
theorem ok_all : ((List.range 730).all fun n => n == 0 || okN n) = true := by decide +kernel
end Go.Proofs.Ytabeedimnbkcgaa.CyD

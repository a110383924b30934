import Derived.Test.YtbamkklhkhglnaaGreatDoorTxB
/-
  The text of a presentation, plain: words, orders, relations as texts; the two readers. No program in sight.
-/
namespace Go.Proofs.YtbamkklhkhglnaaGreatDoor.TxC
open Go.Lib Go.Proofs.YtbamkklhkhglnaaGreatDoor Go.Proofs.YtbamkklhkhglnaaGreatDoor.NumPlain Go.Proofs.YtbamkklhkhglnaaGreatDoor.SplitPlain Go.Proofs.YtbamkklhkhglnaaGreatDoor.TxA Go.Proofs.YtbamkklhkhglnaaGreatDoor.TxB Go.Proofs.YtbamkklhkhglnaaGreatDoor.Val
set_option linter.unusedVariables false
set_option linter.unusedSimpArgs false

/-- letters of a vector -/
def ltr (i : Nat) : UInt8 := UInt8.ofNat (97 + i)
theorem ltr_nat {i : Nat} (h : i ≤ 100) : (ltr i).toNat = 97 + i := by
  unfold ltr
  rw [UInt8.toNat_ofNat']
  omega
theorem ltr_inj {i j : Nat} (hi : i ≤ 100) (hj : j ≤ 100) (h : ltr i = ltr j) : i = j := by
  have := congrArg UInt8.toNat h
  rw [ltr_nat hi, ltr_nat hj] at this
  omega
def wdF : Nat → List Nat → List UInt8
  | _, [] => []
  | k, x :: v => List.replicate x (ltr k) ++ wdF (k + 1) v
def wtx (v : List Nat) : List UInt8 := if wdF 0 v = [] then [49] else wdF 0 v
theorem wdF_app : ∀ (a b : List Nat) (k : Nat), wdF k (a ++ b) = wdF k a ++ wdF (k + a.length) b
  | [], b, k => by simp [wdF]
  | x :: a, b, k => by
    simp only [List.cons_append, wdF, wdF_app a b (k + 1), List.length_cons, List.append_assoc]
    rw [show k + 1 + a.length = k + (a.length + 1) by omega]
theorem wdF_mem : ∀ (v : List Nat) (k : Nat) (b : UInt8), b ∈ wdF k v → ∃ i, i < v.length ∧ b = ltr (k + i)
  | [], _, b, h => by simp [wdF] at h
  | x :: v, k, b, h => by
    unfold wdF at h
    rcases List.mem_append.1 h with h | h
    · exact ⟨0, by simp, (List.mem_replicate.1 h).2⟩
    · obtain ⟨i, hi, rfl⟩ := wdF_mem v (k + 1) b h
      exact ⟨i + 1, by simpa using hi, by rw [show k + 1 + i = k + (i + 1) by omega]⟩
theorem wdF_count : ∀ (v : List Nat) (k i : Nat), k + v.length ≤ 100 → i < v.length → (wdF k v).count (ltr (k + i)) = v.getD i 0
  | [], _, _, _, h => by simp at h
  | x :: v, k, i, hl, hi => by
    unfold wdF
    rw [List.count_append, List.count_replicate]
    cases i with
    | zero =>
      have h0 : (wdF (k + 1) v).count (ltr (k + 0)) = 0 := List.count_eq_zero.2 fun hm => by
        obtain ⟨j, hj, e⟩ := wdF_mem v (k + 1) _ hm
        have := ltr_inj (by simp at hl; omega) (by simp at hl; omega) e
        omega
      rw [h0]
      simp
    | succ i =>
      have ih := wdF_count v (k + 1) i (by simp at hl; omega) (by simpa using hi)
      rw [show k + 1 + i = k + (i + 1) by omega] at ih
      rw [ih, if_neg]
      · simp
      · intro e
        have := ltr_inj (i := k) (j := k + (i + 1)) (by simp at hl; omega) (by simp at hl hi; omega) (by simpa using e)
        omega
theorem wdF_zero : ∀ (v : List Nat) (k : Nat), wdF k v = [] → v = zer v.length
  | [], _, _ => rfl
  | x :: v, k, h => by
    unfold wdF at h
    obtain ⟨h1, h2⟩ := List.append_eq_nil_iff.1 h
    have hx : x = 0 := by simpa using h1
    rw [hx]
    unfold zer
    rw [List.length_cons, List.replicate_succ]
    exact congrArg (0 :: ·) (wdF_zero v (k + 1) h2)
/-- bytes that are letters of n generators -/
def isL (n : Nat) (b : UInt8) : Bool := decide (97 ≤ b.toNat) && decide (b.toNat < 97 + n)
/-- the exponents of a word of positive letters -/
def expsI (n : Nat) (l : List UInt8) : Option (List Nat) :=
  if l = [49] then some (zer n) else if l = [] ∨ ¬ l.all (isL n) = true then none else some ((List.range n).map fun i => l.count (ltr i))
theorem isL_ltr {n i : Nat} (hn : n ≤ 100) (h : i < n) : isL n (ltr i) = true := by
  unfold isL
  rw [ltr_nat (by omega)]
  simp; omega
theorem wdF_all {v : List Nat} {n : Nat} (hv : v.length = n) (hn : n ≤ 100) : (wdF 0 v).all (isL n) = true := by
  rw [List.all_eq_true]
  intro b hb
  obtain ⟨i, hi, rfl⟩ := wdF_mem v 0 b hb
  rw [Nat.zero_add]
  exact isL_ltr hn (by omega)
theorem exps_wtx {v : List Nat} {n : Nat} (hv : v.length = n) (hn : n ≤ 100) : expsI n (wtx v) = some v := by
  unfold wtx expsI
  by_cases h : wdF 0 v = []
  · rw [if_pos h, if_pos rfl, wdF_zero v 0 h, hv]
  · rw [if_neg h]
    have ha := wdF_all hv hn
    have h49 : ¬ wdF 0 v = [49] := fun e => by
      rw [e] at ha
      have h2 : isL n 49 = true := by simpa using ha
      unfold isL at h2
      rw [show (49 : UInt8).toNat = 49 from rfl] at h2
      simp at h2
    rw [if_neg h49, if_neg (by rw [ha]; simp [h])]
    congr 1
    refine List.ext_getElem? fun i => ?_
    by_cases hi : i < n
    · rw [List.getElem?_map, List.getElem?_range hi]
      show some _ = _
      have hc := wdF_count v 0 i (by omega) (by omega)
      rw [Nat.zero_add] at hc
      show some ((wdF 0 v).count (ltr i)) = _
      rw [hc, List.getD_eq_getElem?_getD, List.getElem?_eq_getElem (by omega)]
      rfl
    · rw [List.getElem?_eq_none (by simp; omega), List.getElem?_eq_none (by omega)]
/-- the index of the generator with a letter -/
def genI (n : Nat) (l : List UInt8) : Option Nat := match l with
  | [b] => if isL n b then some (b.toNat - 97) else none
  | _ => none
theorem gen_ltr {n i : Nat} (hn : n ≤ 100) (h : i < n) : genI n [ltr i] = some i := by
  unfold genI
  simp only [isL_ltr hn h, if_true]
  rw [ltr_nat (by omega)]
  simp
/-- the text of an order -/
def dT (o : Int) : List UInt8 := decDigits o.toNat
theorem dT_prime {o : Int} (h : primeB o = true) : ∃ b : UInt8, dT o = [b] ∧ (b = 50 ∨ b = 51 ∨ b = 53 ∨ b = 55) ∧ (b.toNat : Int) = 48 + o := by
  unfold primeB at h
  simp only [Bool.or_eq_true, beq_iff_eq] at h
  unfold dT
  rcases h with ((rfl | rfl) | rfl) | rfl
  · exact ⟨50, by rw [dec_small _ (by decide)]; rfl, by simp, rfl⟩
  · exact ⟨51, by rw [dec_small _ (by decide)]; rfl, by simp, rfl⟩
  · exact ⟨53, by rw [dec_small _ (by decide)]; rfl, by simp, rfl⟩
  · exact ⟨55, by rw [dec_small _ (by decide)]; rfl, by simp, rfl⟩
def ordT (os : List Int) : List UInt8 := if os = [] then [49] else join (os.map dT) [32]
def byT (os : List Int) (r : Rl) : List UInt8 := match r.i with
  | none => dT (os.getD r.j 0)
  | some i => [ltr i]
def relT (os : List Int) (r : Rl) : List UInt8 := ltr r.j :: 94 :: (byT os r ++ 61 :: wtx r.v)
def txt (p : RP) : List UInt8 := join (ordT p.os :: (rels p).map (relT p.os)) [59, 32]

theorem mem_wtx {v : List Nat} {b : UInt8} (hv : v.length ≤ 100) (h : b ∈ wtx v) : b = 49 ∨ (97 ≤ b.toNat ∧ b.toNat < 197) := by
  unfold wtx at h
  split at h
  · exact .inl (by simpa using h)
  · obtain ⟨i, hi, rfl⟩ := wdF_mem v 0 b h
    rw [ltr_nat (by omega)]
    exact .inr (by omega)
theorem mem_dT {o : Int} {b : UInt8} (h : primeB o = true) (hb : b ∈ dT o) : b = 50 ∨ b = 51 ∨ b = 53 ∨ b = 55 := by
  obtain ⟨c, e, hc, _⟩ := dT_prime h
  rw [e] at hb
  obtain rfl : b = c := by simpa using hb
  exact hc
def Prs (os : List Int) : Prop := ∀ o ∈ os, primeB o = true
theorem byT_one {n : Nat} {os : List Int} {r : Rl} (hn : n ≤ 100) (ho : os.length = n) (hp : Prs os) (hr : WR n r) : ∃ b : UInt8, byT os r = [b] ∧ (b = 50 ∨ b = 51 ∨ b = 53 ∨ b = 55 ∨ (97 ≤ b.toNat ∧ b.toNat < 197)) := by
  unfold byT
  match hi : r.i with
  | none =>
    obtain ⟨o, hq⟩ : ∃ o, os[r.j]? = some o := ⟨_, List.getElem?_eq_getElem (by rw [ho]; exact hr.j)⟩
    obtain ⟨b, e, hb, _⟩ := dT_prime (hp o (List.mem_of_getElem? hq))
    refine ⟨b, by show dT _ = _; rw [getD_of hq, e], ?_⟩
    rcases hb with h | h | h | h <;> simp [h]
  | some i =>
    have := hr.i i hi
    have := hr.j
    exact ⟨ltr i, rfl, by rw [ltr_nat (by omega)]; omega⟩
theorem u8_ne {a b : UInt8} (h : a.toNat ≠ b.toNat) : a ≠ b := fun e => h (by rw [e])
/-- the pieces of a relation -/
theorem rel_cut {n : Nat} {os : List Int} {r : Rl} (hn : n ≤ 100) (ho : os.length = n) (hp : Prs os) (hr : WR n r) :
    cut (relT os r) [61] = (ltr r.j :: 94 :: byT os r, wtx r.v, true) ∧ cut (ltr r.j :: 94 :: byT os r) [94] = ([ltr r.j], byT os r, true) := by
  obtain ⟨b, e, hb⟩ := byT_one hn ho hp hr
  have hj := ltr_nat (i := r.j) (by have := hr.j; omega)
  have hj61 : (61 : UInt8) ≠ ltr r.j := u8_ne (by rw [hj]; show 61 ≠ _; omega)
  have hj94 : (94 : UInt8) ≠ ltr r.j := u8_ne (by rw [hj]; show 94 ≠ _; omega)
  have hb61 : (61 : UInt8) ≠ b := by
    rcases hb with h | h | h | h | h
    · rw [h]; decide
    · rw [h]; decide
    · rw [h]; decide
    · rw [h]; decide
    · exact u8_ne (by show 61 ≠ _; omega)
  constructor
  · have := cut_app (c := 61) (ltr r.j :: 94 :: byT os r) (wtx r.v) (by
      rw [e]
      simp only [List.mem_cons, List.not_mem_nil, or_false, not_or]
      exact ⟨hj61, by decide, hb61⟩)
    exact this
  · have := cut_app (c := 94) [ltr r.j] (byT os r) (by simpa using hj94)
    exact this
/-- a relation's text has no semicolon and one sign of equality -/
theorem rel_no {n : Nat} {os : List Int} {r : Rl} (hn : n ≤ 100) (ho : os.length = n) (hp : Prs os) (hr : WR n r) : (59 : UInt8) ∉ relT os r := by
  obtain ⟨b, e, hb⟩ := byT_one hn ho hp hr
  have hj := ltr_nat (i := r.j) (by have := hr.j; omega)
  unfold relT
  rw [e]
  simp only [List.mem_cons, List.cons_append, List.nil_append, not_or]
  refine ⟨u8_ne (by rw [hj]; show 59 ≠ _; omega), by decide, ?_, by decide, fun h => ?_⟩
  · rcases hb with h | h | h | h | h
    · rw [h]; decide
    · rw [h]; decide
    · rw [h]; decide
    · rw [h]; decide
    · exact u8_ne (by show 59 ≠ _; omega)
  · rcases mem_wtx (by rw [hr.v]; omega) h with h | ⟨h, _⟩
    · exact absurd h (by decide)
    · exact absurd h (by decide)
theorem ordT_no {os : List Int} (hp : Prs os) {c : UInt8} (h : c = 59 ∨ c = 61) : c ∉ ordT os := by
  intro hm
  unfold ordT at hm
  split at hm
  · obtain rfl : c = 49 := by simpa using hm
    rcases h with h | h <;> exact absurd h (by decide)
  · have key : ∀ (l : List (List UInt8)), (∀ x ∈ l, c ∉ x) → c ∉ join l [32] := by
      intro l hl hm
      match l with
      | [] => simp [join_nil] at hm
      | x :: l =>
        rw [join_cons] at hm
        rcases List.mem_append.1 hm with hm | hm
        · exact hl x (by simp) hm
        · unfold joinTail at hm
          obtain ⟨y, hy, hc⟩ := List.mem_flatten.1 hm
          obtain ⟨z, hz, rfl⟩ := List.mem_map.1 hy
          rcases List.mem_append.1 hc with hc | hc
          · obtain rfl : c = 32 := by simpa using hc
            rcases h with h | h <;> exact absurd h (by decide)
          · exact hl z (by simp [hz]) hc
    refine key _ (fun x hx hc => ?_) hm
    obtain ⟨o, ho, rfl⟩ := List.mem_map.1 hx
    rcases mem_dT (hp o ho) hc with e | e | e | e <;> rw [e] at h <;> rcases h with h | h <;> exact absurd h (by decide)

/-- the reader of the program -/
def pI (w : List UInt8) : Option Int := match parseIntB 64 w with
  | .ok v => some v
  | _ => none
def ordI (l : List UInt8) : Option (List Int) := if l = [49] then some [] else (split l [32]).mapM pI
def stepI (n : Nat) (p : RP) (part : List UInt8) : Option RP :=
  match expsI n (cut part [61]).2.1, genI n (cut (cut part [61]).1 [94]).1 with
  | some v, some j => match genI n (cut (cut part [61]).1 [94]).2.1 with
    | none => some (p.app ⟨j, none, v⟩)
    | some i => if i < j then some (p.app ⟨j, some i, v⟩) else some p
  | _, _ => none
def readI (t : List UInt8) : Option RP := match split t [59, 32] with
  | [] => none
  | h :: parts => match ordI h with
    | none => none
    | some os => if 6 < os.length then none else parts.foldlM (stepI os.length) (triv os)
theorem stepI_rel {n : Nat} {q : RP} {os : List Int} {r : Rl} (hn : n ≤ 100) (ho : os.length = n) (hp : Prs os) (hr : WR n r) : stepI n q (relT os r) = some (q.app r) := by
  obtain ⟨h1, h2⟩ := rel_cut hn ho hp hr
  unfold stepI
  rw [h1, exps_wtx hr.v hn, h2, gen_ltr hn hr.j]
  have hj := hr.j
  obtain ⟨j, i, v⟩ := r
  cases i with
  | none =>
    obtain ⟨o, hq⟩ : ∃ o, os[j]? = some o := ⟨_, List.getElem?_eq_getElem (by rw [ho]; exact hj)⟩
    obtain ⟨b, e, hb, _⟩ := dT_prime (hp o (List.mem_of_getElem? hq))
    have : genI n (byT os ⟨j, none, v⟩) = none := by
      show genI n (dT (os.getD j 0)) = none
      rw [getD_of hq, e]
      unfold genI isL
      rcases hb with h | h | h | h <;> rw [h] <;> rfl
    simp only [this]
  | some i =>
    have hi := hr.i i rfl
    have : genI n (byT os ⟨j, some i, v⟩) = some i := gen_ltr hn (by show i < n; have : i < j := hi; have : j < n := hj; omega)
    simp only [this]
    rw [if_pos hi]
theorem parse_dT {o : Int} (h : primeB o = true) : pI (dT o) = some o := by
  obtain ⟨b, e, hb, ho⟩ := dT_prime h
  unfold pI
  rw [e]
  rcases hb with rfl | rfl | rfl | rfl
  · have : o = 2 := by have : ((50 : UInt8).toNat : Int) = 50 := rfl; omega
    rw [this]; decide
  · have : o = 3 := by have : ((51 : UInt8).toNat : Int) = 51 := rfl; omega
    rw [this]; decide
  · have : o = 5 := by have : ((53 : UInt8).toNat : Int) = 53 := rfl; omega
    rw [this]; decide
  · have : o = 7 := by have : ((55 : UInt8).toNat : Int) = 55 := rfl; omega
    rw [this]; decide
theorem mapM_map {α β : Type} {f : α → β} {g : β → Option α} : ∀ (l : List α), (∀ x ∈ l, g (f x) = some x) → (l.map f).mapM g = some l
  | [], _ => rfl
  | x :: l, h => by
    rw [List.map_cons, List.mapM_cons, h x (by simp), mapM_map l (fun y hy => h y (List.mem_cons_of_mem _ hy))]
    rfl
theorem ordT_ne1 {os : List Int} (hp : Prs os) (h : os ≠ []) : ordT os ≠ [49] := by
  match os, h with
  | o :: os, _ =>
    unfold ordT
    rw [if_neg (by simp), List.map_cons, join_cons]
    obtain ⟨b, e, hb, _⟩ := dT_prime (hp o (by simp))
    rw [e]
    intro hc
    have : b = 49 := by
      have := congrArg List.head? hc
      simpa using this
    rcases hb with h | h | h | h <;> rw [h] at this <;> exact absurd this (by decide)
theorem ordI_ordT {os : List Int} (hp : Prs os) : ordI (ordT os) = some os := by
  unfold ordI
  by_cases h : os = []
  · subst h; rfl
  · rw [if_neg (ordT_ne1 hp h)]
    unfold ordT
    rw [if_neg h, (split_join (c := 32) (d := []) (os.map dT) (by simpa using h) (fun x hx hc => by
      obtain ⟨o, ho, rfl⟩ := List.mem_map.1 hx
      rcases mem_dT (hp o ho) hc with e | e | e | e <;> exact absurd e (by decide))).1]
    exact mapM_map os (fun o ho => parse_dT (hp o ho))
theorem foldlM_map {α β : Type} {f : β → Rl → β} {g : β → α → Option β} {t : Rl → α} : ∀ (rs : List Rl) (q : β), (∀ r ∈ rs, ∀ q, g q (t r) = some (f q r)) → (rs.map t).foldlM g q = some (rs.foldl f q)
  | [], q, _ => rfl
  | r :: rs, q, h => by
    rw [List.map_cons, List.foldlM_cons, h r (by simp) q]
    exact foldlM_map rs _ (fun x hx => h x (List.mem_cons_of_mem _ hx))
/-- what is asked of a presentation so that its text is read back -/
structure Gd (n : Nat) (p : RP) : Prop where
  sh : Sh n p
  n6 : n ≤ 6
  pr : Prs p.os
  le : prodI p.os ≤ 729
theorem readI_txt {n : Nat} {p : RP} (h : Gd n p) : readI (txt p) = some p := by
  have hs := (split_join (c := 59) (d := [32]) (ordT p.os :: (rels p).map (relT p.os)) (by simp) (fun x hx => by
    rcases List.mem_cons.1 hx with rfl | hx
    · exact ordT_no h.pr (.inl rfl)
    · obtain ⟨r, hr, rfl⟩ := List.mem_map.1 hx
      exact rel_no (by have := h.n6; omega) h.sh.os h.pr (rels_ok h.sh r hr).1)).1
  unfold readI txt
  rw [hs]
  have h6 := h.n6
  simp only [ordI_ordT h.pr, h.sh.os]
  rw [if_neg (by omega), foldlM_map (f := RP.app) (rels p) _ (fun r hr q => stepI_rel (by omega) h.sh.os h.pr (rels_ok h.sh r hr).1)]
  rw [rels_all h.sh]

/-- the reader of the model -/
def vS (w : List UInt8) : Int := if w = [] ∨ 6 < w.length ∨ (1 < w.length ∧ w.head? = some 48) ∨ ¬ w.all isDig = true then -1 else (NumPlain.val w : Int)
def ordS (l : List UInt8) : Option (List Int) := if l = [49] then some [] else
  if (∀ w ∈ spL 32 l, primeB (vS w) = true) ∧ (spL 32 l).length ≤ 6 ∧ prodI ((spL 32 l).map vS) ≤ 729 then some ((spL 32 l).map vS) else none
def stepS (n : Nat) (p : RP) (part : List UInt8) : Option RP := match spL 61 part with
  | [[32, x, 94, y], b] => match expsI n b with
    | none => none
    | some v => if isL n x then (if [y] = dT (p.os.getD (x.toNat - 97) 0) then some (p.app ⟨x.toNat - 97, none, v⟩)
        else if isL (x.toNat - 97) y then some (p.app ⟨x.toNat - 97, some (y.toNat - 97), v⟩) else none) else none
  | _ => none
def readS (t : List UInt8) : Option RP := match spL 59 t with
  | [] => none
  | h :: parts => match ordS h with
    | none => none
    | some os => parts.foldlM (stepS os.length) (triv os)
theorem isL_sub {n : Nat} {b : UInt8} (h : isL n b = true) : 97 ≤ b.toNat ∧ b.toNat - 97 < n := by
  unfold isL at h; simp at h; omega
theorem vS_dT {o : Int} (h : primeB o = true) : vS (dT o) = o := by
  obtain ⟨b, e, hb, ho⟩ := dT_prime h
  unfold vS
  rw [e]
  rcases hb with rfl | rfl | rfl | rfl
  · have : o = 2 := by have : ((50 : UInt8).toNat : Int) = 50 := rfl; omega
    rw [this]; decide
  · have : o = 3 := by have : ((51 : UInt8).toNat : Int) = 51 := rfl; omega
    rw [this]; decide
  · have : o = 5 := by have : ((53 : UInt8).toNat : Int) = 53 := rfl; omega
    rw [this]; decide
  · have : o = 7 := by have : ((55 : UInt8).toNat : Int) = 55 := rfl; omega
    rw [this]; decide
theorem ordS_ordT {n : Nat} {os : List Int} (hn : os.length = n) (h6 : n ≤ 6) (hp : Prs os) (hl : prodI os ≤ 729) : ordS (ordT os) = some os := by
  unfold ordS
  by_cases h : os = []
  · subst h; rfl
  · rw [if_neg (ordT_ne1 hp h)]
    have hs : spL 32 (ordT os) = os.map dT := by
      unfold ordT
      rw [if_neg h]
      match os, h with
      | o :: os, _ =>
        rw [List.map_cons, spL_join (c := 32) (d := []) (dT o) (os.map dT) (fun hc => by
          rcases mem_dT (hp o (by simp)) hc with e | e | e | e <;> exact absurd e (by decide)) (fun x hx hc => by
          obtain ⟨o', ho, rfl⟩ := List.mem_map.1 hx
          rcases mem_dT (hp o' (List.mem_cons_of_mem _ ho)) hc with e | e | e | e <;> exact absurd e (by decide)) (by simp)]
        simp
    have hm : (os.map dT).map vS = os := by
      rw [List.map_map]
      exact (List.map_congr_left (fun o ho => vS_dT (hp o ho))).trans (List.map_id os)
    rw [hs, hm, if_pos]
    refine ⟨fun w hw => ?_, by simp; omega, hl⟩
    obtain ⟨o, ho, rfl⟩ := List.mem_map.1 hw
    rw [vS_dT (hp o ho)]
    exact hp o ho
theorem app_os' (q : RP) (r : Rl) : (q.app r).os = q.os := app_os q r
theorem stepS_rel {n : Nat} {q : RP} {os : List Int} {r : Rl} (hn : n ≤ 100) (ho : os.length = n) (hq : q.os = os) (hp : Prs os) (hr : WR n r) : stepS n q (32 :: relT os r) = some (q.app r) := by
  obtain ⟨b, e, hb⟩ := byT_one hn ho hp hr
  have hj := ltr_nat (i := r.j) (by have := hr.j; omega)
  have hj61 : (61 : UInt8) ≠ ltr r.j := u8_ne (by rw [hj]; show 61 ≠ _; omega)
  have hb61 : (61 : UInt8) ≠ b := by
    rcases hb with h | h | h | h | h
    · rw [h]; decide
    · rw [h]; decide
    · rw [h]; decide
    · rw [h]; decide
    · exact u8_ne (by show 61 ≠ _; omega)
  have hw : (61 : UInt8) ∉ wtx r.v := fun h => by
    rcases mem_wtx (by rw [hr.v]; omega) h with h | ⟨h, _⟩
    · exact absurd h (by decide)
    · exact absurd h (by decide)
  have hs : spL 61 (32 :: relT os r) = [[32, ltr r.j, 94, b], wtx r.v] := by
    unfold relT
    rw [e]
    have := spL_app (b := 61) [32, ltr r.j, 94, b] (wtx r.v) (by
      simp only [List.mem_cons, List.not_mem_nil, or_false, not_or]
      exact ⟨by decide, hj61, by decide, hb61⟩)
    rw [spL_not _ hw] at this
    exact this
  unfold stepS
  rw [hs]
  simp only [exps_wtx hr.v hn, isL_ltr hn hr.j, if_true]
  have hx : (ltr r.j).toNat - 97 = r.j := by rw [hj]; omega
  rw [hx, hq]
  have hjn := hr.j
  obtain ⟨j, i, v⟩ := r
  cases i with
  | none =>
    have e' : dT (os.getD j 0) = [b] := e
    rw [if_pos e'.symm]
  | some i =>
    have hi := hr.i i rfl
    have hij : i < j := hi
    have hjn' : j < n := hjn
    obtain rfl : ltr i = b := by
      have : [ltr i] = [b] := e
      simpa using this
    obtain ⟨o, hq⟩ : ∃ o, os[j]? = some o := ⟨_, List.getElem?_eq_getElem (by rw [ho]; exact hjn)⟩
    obtain ⟨c, e2, hc, _⟩ := dT_prime (hp o (List.mem_of_getElem? hq))
    have hi' := ltr_nat (i := i) (by omega)
    show (if [ltr i] = dT (os.getD j 0) then _ else _) = _
    rw [getD_of hq, e2, if_neg (fun h => by
      have : ltr i = c := by simpa using h
      rw [← this] at hc
      rcases hc with h | h | h | h <;> rw [h] at hi' <;> simp at hi' <;> omega), if_pos (isL_ltr (by omega) hij)]
    rw [hi']
    simp
theorem foldlM_map' {g : RP → List UInt8 → Option RP} {t : Rl → List UInt8} {os : List Int} : ∀ (rs : List Rl) (q : RP), q.os = os → (∀ r ∈ rs, ∀ q : RP, q.os = os → g q (t r) = some (q.app r)) → (rs.map t).foldlM g q = some (rs.foldl RP.app q)
  | [], q, _, _ => rfl
  | r :: rs, q, hq, h => by
    rw [List.map_cons, List.foldlM_cons, h r (by simp) q hq]
    exact foldlM_map' rs _ ((app_os q r).trans hq) (fun x hx => h x (List.mem_cons_of_mem _ hx))
theorem readS_txt {n : Nat} {p : RP} (h : Gd n p) : readS (txt p) = some p := by
  have hs := spL_join (c := 59) (d := [32]) (ordT p.os) ((rels p).map (relT p.os)) (ordT_no h.pr (.inl rfl)) (fun x hx => by
    obtain ⟨r, hr, rfl⟩ := List.mem_map.1 hx
    exact rel_no (by have := h.n6; omega) h.sh.os h.pr (rels_ok h.sh r hr).1) (by decide)
  unfold readS txt
  rw [hs]
  have h6 := h.n6
  simp only [ordS_ordT h.sh.os h.n6 h.pr h.le, h.sh.os]
  rw [List.map_map, foldlM_map' (t := (fun x => [32] ++ x) ∘ relT p.os) (os := p.os) (rels p) (triv p.os) rfl (fun r hr q hq => stepS_rel (by omega) h.sh.os hq h.pr (rels_ok h.sh r hr).1)]
  rw [rels_all h.sh]
end Go.Proofs.YtbamkklhkhglnaaGreatDoor.TxC

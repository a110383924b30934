import Derived.Test.YtbamkklhkhglnaaGreatDoorTxA
/-
  The text of a presentation, plain: its relations; two readers give a presentation back from its own text. No program in sight.
-/
namespace Go.Proofs.YtbamkklhkhglnaaGreatDoor.TxB
open Go.Lib Go.Proofs.YtbamkklhkhglnaaGreatDoor Go.Proofs.YtbamkklhkhglnaaGreatDoor.NumPlain Go.Proofs.YtbamkklhkhglnaaGreatDoor.SplitPlain Go.Proofs.YtbamkklhkhglnaaGreatDoor.TxA Go.Proofs.YtbamkklhkhglnaaGreatDoor.Val
set_option linter.unusedVariables false
set_option linter.unusedSimpArgs false

structure RP where
  os : List Int
  ps : List (List Nat)
  cs : List (List (List Nat))
def RP.val (p : RP) : Pres := ⟨p.os, p.ps.map ints, p.cs.map (·.map ints)⟩
structure Rl where
  j : Nat
  i : Option Nat
  v : List Nat
def RP.app (p : RP) (r : Rl) : RP := match r.i with
  | none => ⟨p.os, p.ps.set r.j r.v, p.cs⟩
  | some i => ⟨p.os, p.ps, p.cs.set i ((p.cs.getD i []).set (r.j - i - 1) r.v)⟩
def zer (n : Nat) : List Nat := List.replicate n 0
def unt (n k : Nat) : List Nat := (List.replicate n 0).set k 1
def crowI (n i : Nat) : List (List Nat) := (List.range (n - (i + 1))).map fun k => unt n (i + 1 + k)
def crow (n : Nat) : List (List (List Nat)) := (List.range n).map (crowI n)
def triv (os : List Int) : RP := ⟨os, List.replicate os.length (zer os.length), crow os.length⟩

structure Sh (n : Nat) (p : RP) : Prop where
  os : p.os.length = n
  pl : p.ps.length = n
  pr : ∀ r ∈ p.ps, r.length = n
  cl : p.cs.length = n
  cr : ∀ i L, p.cs[i]? = some L → L.length = n - (i + 1) ∧ ∀ r ∈ L, r.length = n
def RP.cj (p : RP) (i k : Nat) : Option (List Nat) := (p.cs[i]?).bind (·[k]?)
theorem Sh.triv (os : List Int) : Sh os.length (triv os) := by
  refine ⟨rfl, by simp [TxB.triv], fun r hr => ?_, by simp [TxB.triv, crow], fun i L hL => ?_⟩
  · simp [TxB.triv] at hr
    rw [hr.2]; simp [zer]
  · unfold TxB.triv crow at hL
    simp only [List.getElem?_map] at hL
    obtain ⟨a, ha, rfl⟩ := Option.map_eq_some_iff.1 hL
    obtain rfl : i = a := by
      have := (List.getElem?_eq_some_iff.1 ha)
      simpa using this.2
    refine ⟨by simp [crowI], fun r hr => ?_⟩
    unfold crowI at hr
    obtain ⟨k, _, rfl⟩ := List.mem_map.1 hr
    simp [unt]
structure WR (n : Nat) (r : Rl) : Prop where
  j : r.j < n
  v : r.v.length = n
  i : ∀ i, r.i = some i → i < r.j
theorem Sh.app {n : Nat} {p : RP} {r : Rl} (h : Sh n p) (hr : WR n r) : Sh n (p.app r) := by
  unfold RP.app
  match hi : r.i with
  | none =>
    refine ⟨h.os, by simp [h.pl], fun x hx => ?_, h.cl, h.cr⟩
    rcases List.mem_or_eq_of_mem_set hx with hx | rfl
    · exact h.pr x hx
    · exact hr.v
  | some i =>
    have hij := hr.i i hi
    have hj := hr.j
    refine ⟨h.os, h.pl, h.pr, by simp [h.cl], fun k L hL => ?_⟩
    rw [List.getElem?_set] at hL
    by_cases hk : i = k
    · subst hk
      rw [if_pos rfl, if_pos (by rw [h.cl]; omega)] at hL
      obtain rfl := Option.some.inj hL
      obtain ⟨M, hM⟩ : ∃ M, p.cs[i]? = some M := ⟨_, List.getElem?_eq_getElem (by rw [h.cl]; omega)⟩
      obtain ⟨m1, m2⟩ := h.cr i M hM
      rw [List.getD_eq_getElem?_getD, hM]
      refine ⟨by simp [m1], fun x hx => ?_⟩
      rcases List.mem_or_eq_of_mem_set hx with hx | rfl
      · exact m2 x hx
      · exact hr.v
    · rw [if_neg hk] at hL
      exact h.cr k L hL
theorem Sh.ext {n : Nat} {p q : RP} (hp : Sh n p) (hq : Sh n q) (ho : p.os = q.os) (h1 : ∀ i, i < n → p.ps[i]? = q.ps[i]?) (h2 : ∀ i k, i < n → k < n - (i + 1) → p.cj i k = q.cj i k) : p = q := by
  have e1 : p.ps = q.ps := List.ext_getElem? fun i => by
    by_cases hi : i < n
    · exact h1 i hi
    · rw [List.getElem?_eq_none (by rw [hp.pl]; omega), List.getElem?_eq_none (by rw [hq.pl]; omega)]
  have e2 : p.cs = q.cs := List.ext_getElem? fun i => by
    by_cases hi : i < n
    · obtain ⟨L, hL⟩ : ∃ L, p.cs[i]? = some L := ⟨_, List.getElem?_eq_getElem (by rw [hp.cl]; omega)⟩
      obtain ⟨M, hM⟩ : ∃ M, q.cs[i]? = some M := ⟨_, List.getElem?_eq_getElem (by rw [hq.cl]; omega)⟩
      have hl := (hp.cr i L hL).1
      have hm := (hq.cr i M hM).1
      rw [hL, hM]
      congr 1
      refine List.ext_getElem? fun k => ?_
      by_cases hk : k < n - (i + 1)
      · have := h2 i k hi hk
        unfold RP.cj at this
        rw [hL, hM] at this
        exact this
      · rw [List.getElem?_eq_none (by omega), List.getElem?_eq_none (by omega)]
    · rw [List.getElem?_eq_none (by rw [hp.cl]; omega), List.getElem?_eq_none (by rw [hq.cl]; omega)]
  cases p; cases q
  simp at ho e1 e2
  subst ho e1 e2
  rfl
/-- a relation says what the presentation says -/
def Agr (p : RP) (r : Rl) : Prop := match r.i with
  | none => p.ps[r.j]? = some r.v
  | some i => p.cj i (r.j - i - 1) = some r.v
def At1 (r : Rl) (i : Nat) : Prop := r.i = none ∧ r.j = i
def At2 (r : Rl) (i k : Nat) : Prop := r.i = some i ∧ r.j - i - 1 = k
theorem app_p {n : Nat} {q : RP} {r : Rl} (h : Sh n q) (hr : WR n r) (i : Nat) : (At1 r i → (q.app r).ps[i]? = some r.v) ∧ (¬ At1 r i → (q.app r).ps[i]? = q.ps[i]?) := by
  unfold At1 RP.app
  match hi : r.i with
  | none =>
    refine ⟨fun e => ?_, fun e => ?_⟩
    · obtain ⟨_, rfl⟩ := e
      show (q.ps.set r.j r.v)[r.j]? = _
      rw [List.getElem?_set_self (by rw [h.pl]; exact hr.j)]
    · show (q.ps.set r.j r.v)[i]? = _
      rw [List.getElem?_set_ne (fun he => e ⟨rfl, he⟩)]
  | some k => exact ⟨fun e => by simp at e, fun _ => rfl⟩
theorem app_c {n : Nat} {q : RP} {r : Rl} (h : Sh n q) (hr : WR n r) (i k : Nat) : (At2 r i k → (q.app r).cj i k = some r.v) ∧ (¬ At2 r i k → (q.app r).cj i k = q.cj i k) := by
  unfold At2 RP.app RP.cj
  match hi : r.i with
  | none => exact ⟨fun e => by simp at e, fun _ => rfl⟩
  | some i' =>
    have hij := hr.i i' hi
    have hj := hr.j
    obtain ⟨M, hM⟩ : ∃ M, q.cs[i']? = some M := ⟨_, List.getElem?_eq_getElem (by rw [h.cl]; omega)⟩
    have hm := (h.cr i' M hM).1
    have hD : q.cs.getD i' [] = M := by rw [List.getD_eq_getElem?_getD, hM]; rfl
    refine ⟨fun e => ?_, fun e => ?_⟩
    · obtain ⟨e1, rfl⟩ := e
      obtain rfl : i' = i := by simpa using e1
      show ((q.cs.set i' _)[i']?).bind _ = _
      rw [List.getElem?_set_self (by rw [h.cl]; omega), hD]
      show (M.set _ _)[_]? = _
      rw [List.getElem?_set_self (by omega)]
    · show ((q.cs.set i' _)[i]?).bind _ = _
      by_cases he : i' = i
      · subst he
        rw [List.getElem?_set_self (by rw [h.cl]; omega), hD, hM]
        show (M.set _ _)[k]? = M[k]?
        rw [List.getElem?_set_ne (fun hk => e ⟨rfl, hk⟩)]
      · rw [List.getElem?_set_ne he]
theorem app_os (q : RP) (r : Rl) : (q.app r).os = q.os := by unfold RP.app; split <;> rfl
theorem fold_all {n : Nat} {p : RP} (hp : Sh n p) : ∀ (rs : List Rl) (q : RP), Sh n q → q.os = p.os → (∀ r ∈ rs, WR n r ∧ Agr p r) →
    (∀ i, i < n → q.ps[i]? = p.ps[i]? ∨ ∃ r ∈ rs, At1 r i) → (∀ i k, i < n → k < n - (i + 1) → q.cj i k = p.cj i k ∨ ∃ r ∈ rs, At2 r i k) → rs.foldl RP.app q = p
  | [], q, hq, ho, _, h1, h2 => Sh.ext hq hp ho (fun i hi => by rcases h1 i hi with h | ⟨_, h, _⟩; exact h; simp at h) (fun i k hi hk => by rcases h2 i k hi hk with h | ⟨_, h, _⟩; exact h; simp at h)
  | r :: rs, q, hq, ho, hr, h1, h2 => by
    obtain ⟨hw, ha⟩ := hr r (by simp)
    rw [List.foldl_cons]
    refine fold_all hp rs _ (hq.app hw) ((app_os q r).trans ho) (fun x hx => hr x (List.mem_cons_of_mem _ hx)) (fun i hi => ?_) (fun i k hi hk => ?_)
    · by_cases he : At1 r i
      · left
        rw [(app_p hq hw i).1 he]
        obtain ⟨e1, e2⟩ := he
        unfold Agr at ha
        rw [e1] at ha
        rw [← e2]; exact ha.symm
      · rcases h1 i hi with h | ⟨x, hx, hxi⟩
        · exact .inl (((app_p hq hw i).2 he).trans h)
        · rcases List.mem_cons.1 hx with rfl | hx
          · exact absurd hxi he
          · exact .inr ⟨x, hx, hxi⟩
    · by_cases he : At2 r i k
      · left
        rw [(app_c hq hw i k).1 he]
        obtain ⟨e1, e2⟩ := he
        unfold Agr at ha
        rw [e1] at ha
        rw [← e2]; exact ha.symm
      · rcases h2 i k hi hk with h | ⟨x, hx, hxi⟩
        · exact .inl (((app_c hq hw i k).2 he).trans h)
        · rcases List.mem_cons.1 hx with rfl | hx
          · exact absurd hxi he
          · exact .inr ⟨x, hx, hxi⟩

/-- the relations that are not trivial -/
def pwF (p : RP) (i : Nat) : Option Rl := if p.ps.getD i [] = zer p.os.length then none else some ⟨i, none, p.ps.getD i []⟩
def cjF (p : RP) (i k : Nat) : Option Rl := if (p.cs.getD i []).getD k [] = unt p.os.length (i + 1 + k) then none else some ⟨i + 1 + k, some i, (p.cs.getD i []).getD k []⟩
def powR (p : RP) (m : Nat) : List Rl := (List.range m).filterMap (pwF p)
def conI (p : RP) (i m : Nat) : List Rl := (List.range m).filterMap (cjF p i)
def conR (p : RP) (m : Nat) : List Rl := (List.range m).flatMap fun i => conI p i (p.os.length - (i + 1))
def rels (p : RP) : List Rl := powR p p.os.length ++ conR p p.os.length
theorem getD_of {α : Type} {l : List α} {i : Nat} {d x : α} (h : l[i]? = some x) : l.getD i d = x := by rw [List.getD_eq_getElem?_getD, h]; rfl
theorem rels_ok {n : Nat} {p : RP} (hp : Sh n p) : ∀ r ∈ rels p, WR n r ∧ Agr p r := by
  intro r hr
  unfold rels at hr
  rw [hp.os] at hr
  rcases List.mem_append.1 hr with hr | hr
  · obtain ⟨i, hi, he⟩ := List.mem_filterMap.1 hr
    have hin : i < n := List.mem_range.1 hi
    obtain ⟨v, hv⟩ : ∃ v, p.ps[i]? = some v := ⟨_, List.getElem?_eq_getElem (by rw [hp.pl]; omega)⟩
    unfold pwF at he
    rw [getD_of hv] at he
    split at he
    · exact absurd he (by simp)
    · obtain rfl := Option.some.inj he
      exact ⟨⟨hin, hp.pr v (List.mem_of_getElem? hv), fun i h => by simp at h⟩, hv⟩
  · obtain ⟨i, hi, hr⟩ := List.mem_flatMap.1 hr
    have hin : i < n := List.mem_range.1 hi
    rw [hp.os] at hr
    obtain ⟨k, hk, he⟩ := List.mem_filterMap.1 hr
    have hkn : k < n - (i + 1) := List.mem_range.1 hk
    obtain ⟨L, hL⟩ : ∃ L, p.cs[i]? = some L := ⟨_, List.getElem?_eq_getElem (by rw [hp.cl]; omega)⟩
    obtain ⟨l1, l2⟩ := hp.cr i L hL
    obtain ⟨v, hv⟩ : ∃ v, L[k]? = some v := ⟨_, List.getElem?_eq_getElem (by omega)⟩
    unfold cjF at he
    rw [getD_of hL, getD_of hv] at he
    split at he
    · exact absurd he (by simp)
    · obtain rfl := Option.some.inj he
      refine ⟨⟨by show i + 1 + k < n; omega, l2 v (List.mem_of_getElem? hv), fun i' h => by simp at h; show i' < i + 1 + k; omega⟩, ?_⟩
      show p.cj i (i + 1 + k - i - 1) = some v
      rw [show i + 1 + k - i - 1 = k by omega]
      unfold RP.cj
      rw [hL]; exact hv
theorem rels_all {n : Nat} {p : RP} (hp : Sh n p) : (rels p).foldl RP.app (triv p.os) = p := by
  have ht := Sh.triv p.os
  rw [hp.os] at ht
  refine fold_all hp (rels p) _ ht rfl (rels_ok hp) (fun i hi => ?_) (fun i k hi hk => ?_)
  · obtain ⟨v, hv⟩ : ∃ v, p.ps[i]? = some v := ⟨_, List.getElem?_eq_getElem (by rw [hp.pl]; omega)⟩
    by_cases hz : v = zer n
    · left
      rw [hv, hz]
      unfold triv
      rw [hp.os]
      simp [hi]
    · right
      refine ⟨⟨i, none, v⟩, List.mem_append_left _ (List.mem_filterMap.2 ⟨i, List.mem_range.2 (by rw [hp.os]; exact hi), ?_⟩), rfl, rfl⟩
      unfold pwF
      rw [getD_of hv, hp.os, if_neg hz]
  · obtain ⟨L, hL⟩ : ∃ L, p.cs[i]? = some L := ⟨_, List.getElem?_eq_getElem (by rw [hp.cl]; omega)⟩
    obtain ⟨l1, l2⟩ := hp.cr i L hL
    obtain ⟨v, hv⟩ : ∃ v, L[k]? = some v := ⟨_, List.getElem?_eq_getElem (by omega)⟩
    by_cases hz : v = unt n (i + 1 + k)
    · left
      unfold RP.cj triv crow crowI
      rw [hL, hp.os]
      simp [hi, hk, hv, hz]
    · right
      refine ⟨⟨i + 1 + k, some i, v⟩, List.mem_append_right _ (List.mem_flatMap.2 ⟨i, List.mem_range.2 (by rw [hp.os]; exact hi), List.mem_filterMap.2 ⟨k, List.mem_range.2 (by rw [hp.os]; exact hk), ?_⟩⟩), rfl, by show i + 1 + k - i - 1 = k; omega⟩
      unfold cjF
      rw [getD_of hL, getD_of hv, hp.os, if_neg hz]
end Go.Proofs.YtbamkklhkhglnaaGreatDoor.TxB

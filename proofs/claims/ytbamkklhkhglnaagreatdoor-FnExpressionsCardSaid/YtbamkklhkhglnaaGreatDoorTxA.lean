import Derived.Test.YtbamkklhkhglnaaGreatDoorPlainA
import Derived.Test.YtbamkklhkhglnaaGreatDoorNumPlain
import Derived.Test.YtbamkklhkhglnaaGreatDoorSplitPlain
import Derived.Lib.Split
import Derived.Lib.Join
import Derived.Lib.IndexBytes
/-
  The text of a presentation, plain: pieces and their splitting, words, and the two readings of a text. No program in sight.
-/
namespace Go.Proofs.YtbamkklhkhglnaaGreatDoor.TxA
open Go.Lib Go.Proofs.YtbamkklhkhglnaaGreatDoor Go.Proofs.YtbamkklhkhglnaaGreatDoor.NumPlain Go.Proofs.YtbamkklhkhglnaaGreatDoor.SplitPlain
set_option linter.unusedVariables false
set_option linter.unusedSimpArgs false

theorem pre_ne {c x : UInt8} {d l : List UInt8} (h : ¬ c = x) : (c :: d).isPrefixOf (x :: l) = false := by simp [List.isPrefixOf, h]
theorem pre_app (s l : List UInt8) : s.isPrefixOf (s ++ l) = true := by
  induction s with
  | nil => simp
  | cons a s ih => simp [List.isPrefixOf]
theorem index_app {c : UInt8} {d : List UInt8} : ∀ (a b : List UInt8), c ∉ a → index (a ++ (c :: d) ++ b) (c :: d) = a.length
  | [], b, _ => by
    show index (c :: (d ++ b)) (c :: d) = _
    unfold index
    rw [if_pos (show (c :: d).isPrefixOf (c :: (d ++ b)) = true from pre_app (c :: d) b)]
    rfl
  | x :: a, b, h => by
    have hx : ¬ c = x := fun e => h (by simp [e])
    have ih := index_app (d := d) a b (fun e => h (List.mem_cons_of_mem _ e))
    show index (x :: (a ++ (c :: d) ++ b)) (c :: d) = _
    unfold index
    rw [pre_ne hx, ih, if_neg (by simp), if_neg (by simp only [beq_iff_eq]; omega)]
    simp
theorem index_not {c : UInt8} {d : List UInt8} : ∀ (a : List UInt8), c ∉ a → index a (c :: d) = -1
  | [], _ => rfl
  | x :: a, h => by
    have hx : ¬ c = x := fun e => h (by simp [e])
    unfold index
    rw [pre_ne hx, index_not a (fun e => h (List.mem_cons_of_mem _ e))]
    rfl
theorem cut_app {c : UInt8} (a b : List UInt8) (h : c ∉ a) : cut (a ++ c :: b) [c] = (a, b, true) := by
  have e := index_app (d := []) a b h
  have e' : a ++ [c] ++ b = a ++ c :: b := by simp
  rw [e'] at e
  unfold cut
  rw [e, if_pos (by omega)]
  simp
theorem split_join {c : UInt8} {d : List UInt8} : ∀ (ps : List (List UInt8)), ps ≠ [] → (∀ p ∈ ps, c ∉ p) → split (join ps (c :: d)) (c :: d) = ps ∧ count (join ps (c :: d)) (c :: d) + 1 = ps.length
  | [], h, _ => absurd rfl h
  | [p], _, h => by
    have e := index_not (d := d) p (h p (by simp))
    rw [join_one]
    unfold split
    rw [count_miss e]
    exact ⟨rfl, rfl⟩
  | p :: q :: r, _, h => by
    obtain ⟨ih1, ih2⟩ := split_join (d := d) (q :: r) (by simp) (fun x hx => h x (List.mem_cons_of_mem _ hx))
    have hj : join (p :: q :: r) (c :: d) = p ++ (c :: d) ++ join (q :: r) (c :: d) := by
      rw [join_cons, join_cons]
      simp [joinTail]
    have e := index_app (d := d) p (join (q :: r) (c :: d)) (h p (by simp))
    have hd : (join (p :: q :: r) (c :: d)).drop (p.length + (c :: d).length) = join (q :: r) (c :: d) := by
      rw [hj, ← List.length_append, List.drop_left]
    rw [← hj] at e
    have hc := count_hit (by simp) e
    rw [hd] at hc
    refine ⟨?_, by rw [hc]; simp only [List.length_cons] at ih2 ⊢; omega⟩
    unfold split
    rw [hc, Nat.add_comm 1, splitK, if_neg (by rw [e]; simp only [beq_iff_eq]; omega), e]
    simp only [Int.toNat_natCast]
    rw [hd, hj]
    rw [show p.length + 0 = p.length from rfl, List.append_assoc, List.take_left]
    exact congrArg (p :: ·) ih1

/-- the parts between the occurrences of a byte, read off a list -/
def stp (b : UInt8) (s : List (List UInt8) × List UInt8) (x : UInt8) : List (List UInt8) × List UInt8 := if x = b then (s.1 ++ [s.2], []) else (s.1, s.2 ++ [x])
theorem ext_step (s : ByteArray) (f k : Nat) (hf : f ≤ k) (hk : k < s.size) : (s.extract f (k + 1)).data.toList = (s.extract f k).data.toList ++ [s[k]] := by
  rw [extract_data, extract_data]
  rw [show k + 1 - f = (k - f) + 1 by omega, List.take_add_one, List.getElem?_drop, show f + (k - f) = k by omega, data_getElem? s k hk]
  rfl
theorem spl_fold (s : ByteArray) (b : UInt8) : ∀ k, k ≤ s.size → ((spl s b k).1.map (·.data.toList), (s.extract (spl s b k).2 k).data.toList) = (s.data.toList.take k).foldl (stp b) ([], [])
  | 0, _ => by simp [spl, extract_data]
  | k + 1, hk => by
    have ih := spl_fold s b k (by omega)
    have hf := spl_from s b k
    have hx := data_getElem? s k (by omega)
    rw [List.take_add_one, hx]
    simp only [Option.toList_some, List.foldl_append, List.foldl_cons, List.foldl_nil]
    rw [← ih, spl, hx]
    unfold stp
    by_cases hb : s[k] = b
    · rw [if_pos (by rw [hb]), if_pos hb]
      simp only [List.map_append, List.map_cons, List.map_nil, Prod.mk.injEq, true_and]
      rw [extract_data]
      simp
    · rw [if_neg (by simpa using hb), if_neg hb]
      simp only [Prod.mk.injEq, true_and]
      exact ext_step s _ k hf (by omega)
def spL (b : UInt8) (l : List UInt8) : List (List UInt8) := (l.foldl (stp b) ([], [])).1 ++ [(l.foldl (stp b) ([], [])).2]
theorem parts_list (s : ByteArray) (b : UInt8) : (parts s b).map (·.data.toList) = spL b s.data.toList := by
  have h := spl_fold s b s.size (Nat.le_refl _)
  rw [List.take_of_length_le (by simp)] at h
  unfold parts spL
  rw [← h]
  simp
theorem fold_not (b : UInt8) : ∀ (a : List UInt8), b ∉ a → ∀ s, a.foldl (stp b) s = (s.1, s.2 ++ a)
  | [], _, s => by simp
  | x :: a, h, s => by
    have hx : ¬ x = b := fun e => h (by simp [e])
    rw [List.foldl_cons, fold_not b a (fun e => h (List.mem_cons_of_mem _ e))]
    simp [stp, hx]
theorem fold_pre (b : UInt8) : ∀ (a : List UInt8) (d : List (List UInt8)) (c : List UInt8), a.foldl (stp b) (d, c) = (d ++ (a.foldl (stp b) ([], c)).1, (a.foldl (stp b) ([], c)).2)
  | [], d, c => by simp
  | x :: a, d, c => by
    simp only [List.foldl_cons, stp]
    by_cases hx : x = b
    · rw [if_pos hx, if_pos hx, fold_pre b a (d ++ [c]) [], List.nil_append, fold_pre b a [c] []]
      simp
    · rw [if_neg hx, if_neg hx, fold_pre b a d (c ++ [x])]
theorem spL_not {b : UInt8} (a : List UInt8) (h : b ∉ a) : spL b a = [a] := by
  unfold spL; rw [fold_not b a h]; rfl
theorem spL_app {b : UInt8} (a l : List UInt8) (h : b ∉ a) : spL b (a ++ b :: l) = a :: spL b l := by
  unfold spL
  rw [List.foldl_append, fold_not b a h, List.foldl_cons]
  rw [show stp b ((([] : List (List UInt8)), ([] : List UInt8)).1, (([] : List (List UInt8)), ([] : List UInt8)).2 ++ a) b = ([a], []) by simp [stp]]
  rw [fold_pre b l [a] []]
  simp
theorem spL_join {c : UInt8} {d : List UInt8} : ∀ (p : List UInt8) (ps : List (List UInt8)), c ∉ p → (∀ q ∈ ps, c ∉ q) → c ∉ d → spL c (join (p :: ps) (c :: d)) = p :: ps.map (d ++ ·)
  | p, [], h, _, _ => by rw [join_one, spL_not p h]; rfl
  | p, q :: r, h, hr, hd => by
    have hj : join (p :: q :: r) (c :: d) = p ++ c :: join ((d ++ q) :: r) (c :: d) := by
      rw [join_cons, join_cons]
      simp [joinTail]
    rw [hj, spL_app p _ h, spL_join (d ++ q) r (fun e => by
      rcases List.mem_append.1 e with e | e
      · exact hd e
      · exact hr q (by simp) e) (fun x hx => hr x (List.mem_cons_of_mem _ hx)) hd]
    rfl
end Go.Proofs.YtbamkklhkhglnaaGreatDoor.TxA

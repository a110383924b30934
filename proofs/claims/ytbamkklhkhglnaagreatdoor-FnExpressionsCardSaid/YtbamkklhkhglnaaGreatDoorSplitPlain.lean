/-
  Plain facts on the parts of a text between the occurrences of a byte. No program in sight.
-/
namespace Go.Proofs.YtbamkklhkhglnaaGreatDoor.SplitPlain

/-- after k bytes: the parts that are complete, and where the part begins that is not -/
def spl (s : ByteArray) (by_ : UInt8) : Nat → List ByteArray × Nat
  | 0 => ([], 0)
  | k + 1 => if s.data.toList[k]? = some by_ then ((spl s by_ k).1 ++ [s.extract (spl s by_ k).2 k], k + 1) else spl s by_ k
theorem spl_from (s : ByteArray) (b : UInt8) : ∀ k, (spl s b k).2 ≤ k
  | 0 => Nat.le_refl _
  | k + 1 => by
    have := spl_from s b k
    simp only [spl]
    split
    · exact Nat.le_refl _
    · omega
theorem spl_length (s : ByteArray) (b : UInt8) : ∀ k, (spl s b k).1.length ≤ k
  | 0 => Nat.le_refl _
  | k + 1 => by
    have := spl_length s b k
    simp only [spl]
    split
    · simp; omega
    · omega
/-- the parts of a text -/
def parts (s : ByteArray) (b : UInt8) : List ByteArray := (spl s b s.size).1 ++ [s.extract (spl s b s.size).2 s.size]
theorem spl_none (s : ByteArray) (b : UInt8) : ∀ k, (∀ i, i < k → s.data.toList[i]? ≠ some b) → spl s b k = ([], 0)
  | 0, _ => rfl
  | k + 1, h => by
    simp only [spl]
    rw [if_neg (h k (by omega))]
    exact spl_none s b k (fun i hi => h i (by omega))
theorem spl_some (s : ByteArray) (b : UInt8) : ∀ k, (∃ i, i < k ∧ s.data.toList[i]? = some b) → 1 ≤ (spl s b k).1.length
  | 0, ⟨i, hi, _⟩ => by omega
  | k + 1, ⟨i, hi, he⟩ => by
    simp only [spl]
    split
    · simp
    · rename_i hn
      exact spl_some s b k ⟨i, by
        rcases Nat.lt_succ_iff_lt_or_eq.1 hi with h | h
        · exact h
        · subst h; exact absurd he hn, he⟩
theorem parts_one (s : ByteArray) (b : UInt8) : (parts s b).length = 1 ↔ b ∉ s.data.toList := by
  unfold parts
  simp only [List.length_append, List.length_cons, List.length_nil]
  constructor
  · intro h hm
    obtain ⟨i, hi, he⟩ := List.getElem_of_mem hm
    have := spl_some s b s.size ⟨i, hi, by rw [List.getElem?_eq_getElem hi, he]⟩
    omega
  · intro h
    rw [spl_none s b s.size (fun i _ he => h (List.mem_of_getElem? he))]
    simp
theorem parts_length_pos (s : ByteArray) (b : UInt8) : 1 ≤ (parts s b).length := by simp [parts]
theorem parts_length_le (s : ByteArray) (b : UInt8) : (parts s b).length ≤ s.size + 1 := by
  have := spl_length s b s.size
  simp [parts]; omega
end Go.Proofs.YtbamkklhkhglnaaGreatDoor.SplitPlain

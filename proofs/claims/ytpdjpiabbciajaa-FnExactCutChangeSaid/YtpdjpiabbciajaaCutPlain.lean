/-
  Plain facts on the length of the common beginning of two lists of bytes, and what a cut leaves of a file. No program in sight.
-/
namespace Go.Proofs.Ytpdjpiabbciajaa.CutPlain

/-- the length of the longest common beginning -/
def cp : List UInt8 → List UInt8 → Nat
  | a :: s, b :: t => if a = b then cp s t + 1 else 0
  | _, _ => 0

theorem cp_le_left : ∀ s t : List UInt8, cp s t ≤ s.length
  | [], t => by simp [cp]
  | a :: s, [] => by simp [cp]
  | a :: s, b :: t => by
    simp only [cp, List.length_cons]
    split
    · have := cp_le_left s t; omega
    · omega
theorem cp_le_right : ∀ s t : List UInt8, cp s t ≤ t.length
  | [], t => by simp [cp]
  | a :: s, [] => by simp [cp]
  | a :: s, b :: t => by
    simp only [cp, List.length_cons]
    split
    · have := cp_le_right s t; omega
    · omega
theorem cp_get : ∀ (s t : List UInt8) (k : Nat), k < cp s t → s[k]? = t[k]?
  | [], t, k, h => by simp [cp] at h
  | a :: s, [], k, h => by simp [cp] at h
  | a :: s, b :: t, k, h => by
    simp only [cp] at h
    split at h
    · subst_vars
      cases k with
      | zero => simp
      | succ k => simp; exact cp_get s t k (by omega)
    · omega
theorem cp_end : ∀ (s t : List UInt8), cp s t < s.length → cp s t < t.length → s[cp s t]? ≠ t[cp s t]?
  | [], t, h, _ => by simp at h
  | a :: s, [], _, h => by simp at h
  | a :: s, b :: t, h, h' => by
    simp only [cp] at h h' ⊢
    split
    · rename_i e
      rw [if_pos e] at h h'
      simp only [List.length_cons] at h h'
      simpa using cp_end s t (by omega) (by omega)
    · rename_i e
      simp [e]

/-- the same of byte arrays -/
def cpb (a b : ByteArray) : Nat := cp a.data.toList b.data.toList
theorem cpb_le_left (a b : ByteArray) : cpb a b ≤ a.size := cp_le_left _ _
theorem cpb_le_right (a b : ByteArray) : cpb a b ≤ b.size := cp_le_right _ _
theorem get?_list (a : ByteArray) (k : Nat) (h : k < a.size) : a.data.toList[k]? = some a[k] := by
  have : k < a.data.toList.length := h
  rw [List.getElem?_eq_getElem this]; rfl
theorem cpb_get (a b : ByteArray) (k : Nat) (h : k < cpb a b) (ha : k < a.size) (hb : k < b.size) : a[k] = b[k] := by
  have := cp_get a.data.toList b.data.toList k h
  rw [get?_list a k ha, get?_list b k hb] at this
  exact Option.some.inj this
theorem cpb_end (a b : ByteArray) (ha : cpb a b < a.size) (hb : cpb a b < b.size) : a[cpb a b] ≠ b[cpb a b] := by
  have := cp_end a.data.toList b.data.toList ha hb
  intro h
  apply this
  exact (get?_list a (cpb a b) ha).trans ((congrArg some h).trans (get?_list b (cpb a b) hb).symm)

theorem cpb_exit (a b : ByteArray) : (∃ (h1 : cpb a b < a.size) (h2 : cpb a b < b.size), ((a[cpb a b].toNat : Int) == (b[cpb a b].toNat : Int)) = false) ∨
    (cpb a b < a.size ∧ decide (cpb a b < b.size) = false) ∨ decide (cpb a b < a.size) = false := by
  by_cases h1 : cpb a b < a.size
  · by_cases h2 : cpb a b < b.size
    · refine .inl ⟨h1, h2, ?_⟩
      have := cpb_end a b h1 h2
      simp only [beq_eq_false_iff_ne]
      intro h
      exact this (UInt8.toNat_inj.1 (by omega))
    · refine .inr (.inl ⟨h1, ?_⟩)
      simp; omega
  · refine .inr (.inr ?_)
    simp; omega

/-- what a cut leaves of a file -/
def cutText (a b : ByteArray) (n : Int) : ByteArray :=
  if 6000 < a.size ∨ 6000 < b.size then ⟨#[]⟩
  else if n < 0 ∨ (b.size : Int) - (cpb a b : Int) + 1 < n then ⟨#[]⟩
  else if n = 0 then a
  else b.extract 0 (cpb a b + n.toNat - 1)
def cutCode (a b : ByteArray) (n : Int) : Int :=
  if 6000 < a.size ∨ 6000 < b.size then 1
  else if n < 0 ∨ (b.size : Int) - (cpb a b : Int) + 1 < n then 2
  else 0
end Go.Proofs.Ytpdjpiabbciajaa.CutPlain

/-
  Plain facts on the commands of the console. No program in sight.
-/
import Derived.Test.YtpdjpiabbciajaaDoorNumPlain
import Derived.Lib.IndexMore
import Derived.Lib.IndexBytes
import Derived.Lib.IndexLaws
namespace Go.Proofs.YtpdjpiabbciajaaDoor.ConsPlain
open Go.Lib Go.Proofs.YtpdjpiabbciajaaDoor.NumPlain
set_option linter.unusedSimpArgs false
set_option linter.unusedVariables false

/-- a text up to the first blank, what follows it, whether there is a blank -/
def cutA (s : ByteArray) : ByteArray := ⟨(cut s.data.toList [32]).1.toArray⟩
def cutB (s : ByteArray) : ByteArray := ⟨(cut s.data.toList [32]).2.1.toArray⟩
def cutF (s : ByteArray) : Bool := (cut s.data.toList [32]).2.2

abbrev sOrder : List UInt8 := [111, 114, 100, 101, 114]
abbrev sText : List UInt8 := [116, 101, 120, 116]
abbrev sType : List UInt8 := [116, 121, 112, 101]
abbrev sAbel : List UInt8 := [97, 98, 101, 108, 105, 97, 110]
abbrev sSub : List UInt8 := [115, 117, 98, 103, 114, 111, 117, 112, 115]
abbrev sQuo : List UInt8 := [113, 117, 111, 116, 105, 101, 110, 116, 115]
abbrev sCover : List UInt8 := [99, 111, 118, 101, 114]
abbrev sPar : List UInt8 := [112, 97, 114, 101, 110, 116]
abbrev sRing : List UInt8 := [114, 105, 110, 103]
abbrev sLet : List UInt8 := [108, 101, 116]
abbrev sDrop : List UInt8 := [100, 114, 111, 112]
abbrev sCoh : List UInt8 := [99, 111, 104, 111, 109, 111, 108, 111, 103, 121]
abbrev sDesc : List UInt8 := [100, 101, 115, 99, 101, 110, 100, 97, 110, 116, 115]
abbrev sList : List UInt8 := [108, 105, 115, 116]
/-- what a word stands for: 1: an expression; 2: let; 3: drop; 4: a number and an expression; 5: list; 0: no command -/
def kind (l : List UInt8) : Nat :=
  if l = sOrder ∨ l = sText ∨ l = sType ∨ l = sAbel ∨ l = sSub ∨ l = sQuo ∨ l = sCover ∨ l = sPar ∨ l = sRing then 1
  else if l = sLet then 2 else if l = sDrop then 3 else if l = sCoh ∨ l = sDesc then 4 else if l = sList then 5 else 0
/-- the fifteen cases -/
theorem kind_cases (l : List UInt8) : (l = sOrder ∨ l = sText ∨ l = sType ∨ l = sAbel ∨ l = sSub ∨ l = sQuo ∨ l = sCover ∨ l = sPar ∨ l = sRing) ∨ l = sLet ∨ l = sDrop ∨ (l = sCoh ∨ l = sDesc) ∨ l = sList ∨
    (kind l = 0 ∧ (l == sOrder) = false ∧ (l == sText) = false ∧ (l == sType) = false ∧ (l == sAbel) = false ∧ (l == sSub) = false ∧ (l == sQuo) = false ∧ (l == sCover) = false ∧ (l == sPar) = false ∧ (l == sRing) = false ∧
      (l == sLet) = false ∧ (l == sDrop) = false ∧ (l == sCoh) = false ∧ (l == sDesc) = false ∧ (l == sList) = false) := by
  by_cases h1 : l = sOrder ∨ l = sText ∨ l = sType ∨ l = sAbel ∨ l = sSub ∨ l = sQuo ∨ l = sCover ∨ l = sPar ∨ l = sRing
  · exact .inl h1
  by_cases h2 : l = sLet
  · exact .inr (.inl h2)
  by_cases h3 : l = sDrop
  · exact .inr (.inr (.inl h3))
  by_cases h4 : l = sCoh ∨ l = sDesc
  · exact .inr (.inr (.inr (.inl h4)))
  by_cases h5 : l = sList
  · exact .inr (.inr (.inr (.inr (.inl h5))))
  refine .inr (.inr (.inr (.inr (.inr ?_))))
  refine ⟨by unfold kind; rw [if_neg h1, if_neg h2, if_neg h3, if_neg h4, if_neg h5], ?_⟩
  simp only [not_or] at h1 h4
  simp only [beq_eq_false_iff_ne]
  exact ⟨h1.1, h1.2.1, h1.2.2.1, h1.2.2.2.1, h1.2.2.2.2.1, h1.2.2.2.2.2.1, h1.2.2.2.2.2.2.1, h1.2.2.2.2.2.2.2.1, h1.2.2.2.2.2.2.2.2, h2, h3, h4.1, h4.2, h5⟩

/-- is a line whose word is of kind k, with this rest and this flag, a command? -/
def okOf (k : Nat) (r : ByteArray) (f : Bool) : Bool :=
  f && match k with
    | 1 => true
    | 2 => cutF r && isLet (cutA r).data.toList
    | 3 => isLet r.data.toList
    | 4 => cutF r && isNum (cutA r).data.toList
    | 5 => isNum r.data.toList
    | _ => false
/-- is a line a command? -/
def cmdOk (s : ByteArray) : Bool := okOf (kind (cutA s).data.toList) (cutB s) (cutF s)

/-- the parts of a command -/
def letterOf (k : Nat) (r : ByteArray) : ByteArray := match k with
  | 2 => cutA r
  | 3 => r
  | _ => ⟨#[]⟩
def numberOf (k : Nat) (r : ByteArray) : Int := match k with
  | 4 => (val (cutA r).data.toList : Int)
  | 5 => (val r.data.toList : Int)
  | _ => 0
def restOf (k : Nat) (r : ByteArray) : ByteArray := match k with
  | 2 => cutB r
  | 4 => cutB r
  | _ => r
theorem cut_none (s : ByteArray) (h : (32 : UInt8) ∉ s.data.toList) : cutA s = s ∧ cutB s = ⟨#[]⟩ ∧ cutF s = false := by
  have hi : ¬ 0 ≤ index s.data.toList [32] := by
    rw [index_one]
    intro h0
    obtain ⟨o, ho⟩ := Int.eq_ofNat_of_zero_le h0
    exact h (List.mem_of_getElem? (indexByte_some ho).1)
  unfold cutA cutB cutF cut
  rw [if_neg hi]
  exact ⟨rfl, rfl, rfl⟩
theorem cut_at (s : ByteArray) (k : Nat) (hk : k < s.size) (he : s.data.toList[k]? = some 32) (hn : ∀ i, i < k → s.data.toList[i]? ≠ some 32) :
    cutA s = s.extract 0 k ∧ cutB s = s.extract (k + 1) s.size ∧ cutF s = true := by
  have hi : index s.data.toList [32] = (k : Int) := by
    rw [index_one]
    rcases (show indexByte s.data.toList 32 = -1 ∨ 0 ≤ indexByte s.data.toList 32 by have := indexByte_ge s.data.toList 32; omega) with h | h
    · exact absurd he (indexByte_none h k)
    · obtain ⟨o, ho⟩ := Int.eq_ofNat_of_zero_le h
      have h1 := indexByte_some ho
      rw [ho]
      have e1 : o ≤ k := Nat.le_of_not_lt fun hx => h1.2 k hx he
      have e2 : k ≤ o := Nat.le_of_not_lt fun hx => hn o hx h1.1
      have : o = k := by omega
      rw [this]
  unfold cutA cutB cutF cut
  rw [hi, if_pos (by omega)]
  refine ⟨?_, ?_, rfl⟩
  · apply ByteArray.ext
    apply Array.toList_inj.1
    simp [ByteArray.data_extract, Array.toList_extract]
  · apply ByteArray.ext
    apply Array.toList_inj.1
    simp only [ByteArray.data_extract, Array.toList_extract]
    rw [Int.toNat_natCast, List.length_cons, List.length_nil]
    show (List.drop (k + (0 + 1)) s.data.toList) = _
    rw [List.extract_eq_take_drop, List.take_of_length_le (by rw [List.length_drop]; exact Nat.le_refl _)]
theorem cutB_le (s : ByteArray) : (cutB s).size ≤ s.size ∧ (cutA s).size ≤ s.size := by
  unfold cutB cutA cut
  show (List.toArray _).size ≤ s.data.toList.length ∧ (List.toArray _).size ≤ s.data.toList.length
  split
  · simp [List.length_drop, List.length_take]; omega
  · simp
theorem let_blank (s : ByteArray) (h : cutF s = true) : isLet s.data.toList = false ∧ isNum s.data.toList = false := by
  have hm : (32 : UInt8) ∈ s.data.toList := by
    apply Decidable.byContradiction
    intro hn
    rw [(cut_none s hn).2.2] at h
    exact absurd h (by decide)
  constructor
  · unfold isLet
    split
    · rename_i c hc
      rw [hc] at hm
      simp at hm
      subst hm
      rfl
    · rfl
  · apply Bool.eq_false_iff.2
    intro hn
    simp only [isNum, Bool.and_eq_true] at hn
    have := List.all_eq_true.1 hn.1.2 32 hm
    exact absurd this (by decide)
theorem cut_false2 (s : ByteArray) (h : cutF s = false) : cutA s = s ∧ cutB s = ⟨#[]⟩ := by
  have hm : (32 : UInt8) ∉ s.data.toList := by
    intro hm
    obtain ⟨o, ho⟩ : ∃ o : Nat, indexByte s.data.toList 32 = o := by
      rcases (show indexByte s.data.toList 32 = -1 ∨ 0 ≤ indexByte s.data.toList 32 by have := indexByte_ge s.data.toList 32; omega) with h1 | h1
      · obtain ⟨i, hi, he⟩ := List.getElem_of_mem hm
        exact absurd (by rw [List.getElem?_eq_getElem hi, he]) (indexByte_none h1 i)
      · exact Int.eq_ofNat_of_zero_le h1
    unfold cutF cut at h
    rw [index_one, ho, if_pos (by omega)] at h
    exact absurd h.symm Bool.false_ne_true
  exact ⟨(cut_none s hm).1, (cut_none s hm).2.1⟩
theorem cut_false (s : ByteArray) (h : cutF s = false) : cutA s = s := (cut_false2 s h).1
theorem cutB_false (s : ByteArray) (h : cutF s = false) : cutB s = ⟨#[]⟩ := (cut_false2 s h).2
end Go.Proofs.YtpdjpiabbciajaaDoor.ConsPlain

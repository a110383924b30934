import Derived.Test.YtpdjpiabbciajaaDoorRecWalks
import Derived.Test.YtpdjpiabbciajaaDoorSplit
import Derived.Test.YtpdjpiabbciajaaDoorShelf
import Derived.Lib.IndexLaws
namespace Go.Proofs.YtpdjpiabbciajaaDoor.Content
open Go.RowKit Go.Proofs.YtpdjpiabbciajaaDoor.RecPlain Go.Proofs.YtpdjpiabbciajaaDoor.SplitPlain
set_option linter.unusedVariables false
set_option linter.unusedSimpArgs false

/-- a content of a record -/
def isC (s : ByteArray) : Bool := decide (1 ≤ s.size) && decide (s.size ≤ 600) && !decide ((10 : UInt8) ∈ s.data.toList)
theorem has_iff (l : List UInt8) (c : UInt8) : 0 ≤ Lib.indexByte l c ↔ c ∈ l := by
  constructor
  · intro h
    obtain ⟨o, ho⟩ := Int.eq_ofNat_of_zero_le h
    exact List.mem_of_getElem? (Lib.indexByte_some ho).1
  · intro h
    have h1 := Lib.indexByte_ge l c
    rcases (show Lib.indexByte l c = -1 ∨ 0 ≤ Lib.indexByte l c by omega) with h2 | h2
    · obtain ⟨i, hi, he⟩ := List.getElem_of_mem h
      exact absurd (by rw [List.getElem?_eq_getElem hi, he]) (Lib.indexByte_none h2 i)
    · exact h2

set_option maxHeartbeats 400000 in
theorem isContent_any (s : ByteArray) (w : World) (hs : s.size ≤ 1000000000) :
    Calls Tryd.prog 19 #[.string s] w fun e w' => e = .returned (.bool (isC s)) ∧ w = w' := by
  by_cases h1 : 1 ≤ s.size
  · by_cases h2 : s.size ≤ 600
    · go_enter Tryd.func19, Tryd.ntmps19
      go_wp2_with fail
      refine (Tryd.strings_Contains_one s 10 _).mono ?_; rintro e w' ⟨rfl, rfl⟩
      go_wp2_with fail
      go_ret
      refine ⟨?_, rfl⟩
      simp [isC, h1, h2, has_iff]
    · go_enter Tryd.func19, Tryd.ntmps19
      go_wp2_with fail
      go_ret
      simp [isC, h1, h2]
  · go_enter Tryd.func19, Tryd.ntmps19
    go_wp2_with fail
    go_ret
    simp [isC, h1]

set_option maxHeartbeats 400000 in
theorem content_any (s : ByteArray) (w : World) (hs : s.size ≤ 1000000000) :
    Calls Tryd.prog 18 #[.string s] w fun e w' => e = .returned (.bool (isC s)) ∧ Below w.heap.size w w' := by
  by_cases h1 : 1 ≤ s.size
  · by_cases h2 : s.size ≤ 600
    · go_enter Tryd.func18, Tryd.ntmps18
      go_wp2_with fail
      refine (Split.split_any s 10 _ hs).mono ?_; rintro e w' ⟨v, rfl, hown, hb⟩
      have hex : ∃ g cap, v = .slice (some ⟨g, 0, none⟩) (parts s 10).length cap := by
        have hpos := parts_length_pos s 10
        rcases hown.2 with ⟨_, h0⟩ | ⟨g, cap, cur, hv, _⟩
        · omega
        · exact ⟨g, cap, hv⟩
      obtain ⟨g, cap, hv⟩ := hex
      rw [hv]
      have HB := Lib.hid hb
      clear hb hown hv
      have hone := parts_one s 10
      have hmem : ((parts s 10).length : Int) == 1 ↔ (10 : UInt8) ∉ s.data.toList := by
        rw [← hone, beq_iff_eq]; omega
      have HM := Lib.hid hmem
      clear hone hmem
      generalize (parts s 10).length = n at HM ⊢
      by_cases hp : (n : Int) = 1
      · have hB : ((n : Int) == 1) = true := by simp [hp]
        have HN := Lib.hid (HM.out.1 hB)
        clear hp
        go_wp2_with fail
        go_ret
        refine ⟨?_, HB.out⟩
        simp [isC, h1, h2, HN.out]
      · have hB : ((n : Int) == 1) = false := by simp [hp]
        have HN := Lib.hid (show (10 : UInt8) ∈ s.data.toList from Decidable.byContradiction fun h => by
          have := HM.out.2 h
          rw [hB] at this
          exact absurd this (by decide))
        clear hp
        go_wp2_with fail
        go_ret
        refine ⟨?_, HB.out⟩
        simp [isC, h1, h2, HN.out]
    · go_enter Tryd.func18, Tryd.ntmps18
      go_wp2_with fail
      go_ret
      exact ⟨by simp [isC, h1, h2], Below.refl _ _⟩
  · go_enter Tryd.func18, Tryd.ntmps18
    go_wp2_with fail
    go_ret
    exact ⟨by simp [isC, h1], Below.refl _ _⟩

def recB (s : ByteArray) : ByteArray := ⟨(recList s.data.toList).toArray⟩
theorem recB_size (s : ByteArray) : (recB s).size = s.size + 6 := by
  show (recList s.data.toList).toArray.size = _
  simp [recList, hex4]
/-- what RecordOf returns -/
def recText (s : ByteArray) : ByteArray := if isC s then recB s else ⟨#[]⟩
def recCode (s : ByteArray) : Int := if isC s then 0 else 1

set_option maxHeartbeats 400000 in
theorem implRecordOf_any (s : ByteArray) (w : World) (hs : s.size ≤ 1000000000) (hT : w.cell? ⟨5, 15, none⟩ = some (.int .u8 4)) :
    Calls Tryd.prog 11 #[.string s] w fun e w' => e = .returned (.tuple #[.string (recText s), .int .i64 (recCode s)]) ∧ Below w.heap.size w w' := by
  go_enter Tryd.func11, Tryd.ntmps11
  go_wp2_with fail
  refine (isContent_any s _ hs).mono ?_; rintro e w' ⟨rfl, rfl⟩
  cases hc : isC s
  · have HC := Lib.hid hc
    clear hc
    go_wp2_with fail
    go_ret2
    exact ⟨by simp [recText, recCode, HC.out], Below.refl _ _⟩
  · have HC := Lib.hid hc
    clear hc
    go_wp2_with fail
    refine (RecWalks.recordOf_any s _ hs hT).mono ?_; rintro e w' ⟨rfl, hb⟩
    have HB := Lib.hid hb
    clear hb
    generalize hr : (⟨(recList s.data.toList).toArray⟩ : ByteArray) = r
    have HR := Lib.hid hr
    clear hr
    go_wp2_with fail
    go_ret2
    exact ⟨by simp [recText, recCode, HC.out, recB, HR.out], HB.out⟩

set_option maxHeartbeats 400000 in
theorem specRecordOf_any (s : ByteArray) (w : World) (hs : s.size ≤ 1000000000) :
    Calls Tryd.prog 10 #[.string s] w fun e w' => e = .returned (.tuple #[.string (recText s), .int .i64 (recCode s)]) ∧ Below w.heap.size w w' := by
  go_enter Tryd.func10, Tryd.ntmps10
  go_wp2_with fail
  refine (content_any s _ hs).mono ?_; rintro e w1 ⟨rfl, hb1⟩
  have HB1 := Lib.hid hb1
  clear hb1
  cases hc : isC s
  · have HC := Lib.hid hc
    clear hc
    go_wp2_with fail
    go_ret2
    exact ⟨by simp [recText, recCode, HC.out], HB1.out⟩
  · have HC := Lib.hid hc
    clear hc
    go_wp2_with fail
    refine (RecWalks.record_any s _ hs).mono ?_; rintro e w' ⟨rfl, hb⟩
    have HB := Lib.hid hb
    clear hb
    generalize hr : (⟨(recList s.data.toList).toArray⟩ : ByteArray) = r
    have HR := Lib.hid hr
    clear hr
    go_wp2_with fail
    go_ret2
    exact ⟨by simp [recText, recCode, HC.out, recB, HR.out], HB1.out.trans (HB.out.mono HB1.out.size)⟩
end Go.Proofs.YtpdjpiabbciajaaDoor.Content

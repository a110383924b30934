import Derived.Test.YtpdjpiabbciajaaDoorReadWalks
namespace Go.Proofs.YtpdjpiabbciajaaDoor.RecLaws
open Go.RowKit Go.Proofs.YtpdjpiabbciajaaDoor.RecPlain Go.Proofs.YtpdjpiabbciajaaDoor.Content Go.Proofs.YtpdjpiabbciajaaDoor.ReadWalks
set_option linter.unusedVariables false
set_option linter.unusedSimpArgs false

/-- deBruijn64tab's numbers -/
abbrev d64 : List Int := [0, 1, 56, 2, 57, 49, 28, 3, 61, 58, 42, 50, 38, 29, 17, 4, 62, 47, 59, 36, 45, 43, 51, 22, 53, 39, 33, 30, 24, 18, 12, 5, 63, 55, 48, 27, 60, 41, 37, 16, 46, 35, 44, 21, 52, 32, 23, 11, 54, 26, 40, 15, 34, 20, 31, 10, 25, 14, 19, 9, 13, 8, 7, 6]

set_option maxHeartbeats 400000 in
theorem recordLaw (s : ByteArray) (w : World) (hs : s.size ≤ maxLen) (hT : ∀ i (hi : i < 64), w.cell? ⟨5, i, none⟩ = some (.int .u8 (d64.getD i 0))) :
    Calls Tryd.prog 4 #[.string s] w fun e w' => e = .returned (.bool true) ∧ Below w.heap.size w w' := by
  have HT := Lib.hid (hT 15 (by decide))
  clear hT
  by_cases h1 : 1048576 < s.size
  · go_enter Tryd.func4, Tryd.ntmps4
    go_wp2_with fail
    go_ret
    exact ⟨rfl, Below.refl _ _⟩
  go_enter Tryd.func4, Tryd.ntmps4
  go_wp2_with fail
  refine (specRecordOf_any s _ (by omega)).mono ?_; rintro e w1 ⟨rfl, hb1⟩
  have HT1 := Lib.hid (show w1.cell? ⟨5, 15, none⟩ = some (.int .u8 4) by
    rw [hb1.cell (p := ⟨5, 15, none⟩) (World.block_lt_of_cell? w _ HT.out)]; exact HT.out)
  have HB1 := Lib.hid hb1
  clear hb1
  go_wp2_with fail
  refine (implRecordOf_any s _ (by omega) HT1.out).mono ?_; rintro e w2 ⟨rfl, hb2⟩
  have HB2 := Lib.hid hb2
  clear hb2
  generalize recText s = t
  generalize recCode s = c
  go_wp2_with fail
  go_ret
  exact ⟨rfl, HB1.out.trans (HB2.out.mono HB1.out.size)⟩

set_option maxHeartbeats 400000 in
theorem readLaw (s : ByteArray) (w : World) (hs : s.size ≤ maxLen) (hT : ∀ i (hi : i < 64), w.cell? ⟨5, i, none⟩ = some (.int .u8 (d64.getD i 0))) :
    Calls Tryd.prog 5 #[.string s] w fun e w' => e = .returned (.bool true) ∧ Below w.heap.size w w' := by
  have HT := Lib.hid (hT 15 (by decide))
  clear hT
  by_cases h1 : 1048576 < s.size
  · go_enter Tryd.func5, Tryd.ntmps5
    go_wp2_with fail
    go_ret
    exact ⟨rfl, Below.refl _ _⟩
  go_enter Tryd.func5, Tryd.ntmps5
  go_wp2_with fail
  refine (specRead_any s _ (by omega)).mono ?_; rintro e w1 ⟨rfl, hb1⟩
  have HT1 := Lib.hid (show w1.cell? ⟨5, 15, none⟩ = some (.int .u8 4) by
    rw [hb1.cell (p := ⟨5, 15, none⟩) (World.block_lt_of_cell? w _ HT.out)]; exact HT.out)
  have HB1 := Lib.hid hb1
  clear hb1
  go_wp2_with fail
  refine (implRead_any s _ (by omega) HT1.out).mono ?_; rintro e w2 ⟨rfl, hb2⟩
  have HB2 := Lib.hid hb2
  clear hb2
  generalize rdText s = t
  generalize rdLen s = n
  generalize rdCode s = c
  go_wp2_with fail
  go_ret
  exact ⟨rfl, HB1.out.trans (HB2.out.mono HB1.out.size)⟩
end Go.Proofs.YtpdjpiabbciajaaDoor.RecLaws

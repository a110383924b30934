import Derived.Test.YtpdjpiabbciajaaDoorCmdWalks
import Derived.Test.YtpdjpiabbciajaaDoorReadCmd
namespace Go.Proofs.YtpdjpiabbciajaaDoor.LineLaw
open Go.RowKit Go.Proofs.YtpdjpiabbciajaaDoor.ConsPlain Go.Proofs.YtpdjpiabbciajaaDoor.ConsWalks
set_option linter.unusedVariables false
set_option linter.unusedSimpArgs false

set_option maxHeartbeats 1000000 in
theorem specLine_any (s : ByteArray) (w : World) (hs : s.size ≤ 1000000000) :
    Calls Tryd.prog 14 #[.string s] w fun e w' => e = .returned (.bool (cmdOk s)) ∧ Below w.heap.size w w' := by
  go_enter Tryd.func14, Tryd.ntmps14
  go_wp2_with fail
  refine (ReadCmd.read_any s _ hs).mono ?_; rintro e w1 ⟨a, b, n, c, rfl, _, hb⟩
  have HB := Lib.hid hb
  clear hb
  go_wp2_with fail
  go_ret
  exact ⟨rfl, HB.out.alloc HB.out.size _⟩
set_option maxHeartbeats 1000000 in
theorem implLine_any (s : ByteArray) (w : World) (hs : s.size ≤ 1000000000) (hv : Vars w) :
    Calls Tryd.prog 15 #[.string s] w fun e w' => e = .returned (.bool (cmdOk s)) ∧ Below w.heap.size w w' := by
  have HV := Lib.hid hv
  clear hv
  go_enter Tryd.func15, Tryd.ntmps15
  go_wp2_with fail
  refine (CmdWalks.readCommand_any s _ hs HV.out).mono ?_; rintro e w1 ⟨a, b, n, c, rfl, _, hb⟩
  have HB := Lib.hid hb
  clear hb
  go_wp2_with fail
  go_ret
  exact ⟨rfl, HB.out.alloc HB.out.size _⟩
set_option maxHeartbeats 1000000 in
theorem law (s : ByteArray) (w : World) (hs : s.size ≤ maxLen) (hv : Vars w) :
    Calls Tryd.prog 6 #[.string s] w fun e w' => e = .returned (.bool true) ∧ Below w.heap.size w w' := by
  have HV := Lib.hid hv
  clear hv
  by_cases h1 : 1048576 < s.size
  · go_enter Tryd.func6, Tryd.ntmps6
    go_wp2_with fail
    go_ret
    exact ⟨rfl, Below.refl _ _⟩
  go_enter Tryd.func6, Tryd.ntmps6
  go_wp2_with fail
  refine (specLine_any s _ (by omega)).mono ?_; rintro e w1 ⟨rfl, hb1⟩
  have HB1 := Lib.hid hb1
  have HV1 := Lib.hid (HV.out.below hb1)
  clear hb1
  go_wp2_with fail
  refine (implLine_any s _ (by omega) HV1.out).mono ?_; rintro e w2 ⟨rfl, hb2⟩
  have HB2 := Lib.hid hb2
  clear hb2
  cases cmdOk s
  all_goals
    go_wp2_with fail
    go_ret
    exact ⟨rfl, HB1.out.trans (HB2.out.mono HB1.out.size)⟩
end Go.Proofs.YtpdjpiabbciajaaDoor.LineLaw

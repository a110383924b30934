import Derived.Test.YtpdjpiabbciajaaProg
import Derived.Test.YtpdjpiabbciajaaCutPlain
import Derived.WalkKit
import Derived.WalkSpells
import Derived.WalkLawsBesides
import Derived.BigQuiet
import Derived.Deep.QuietTactic
import Derived.Lib.Hide
import Derived.Outline
namespace Go.Proofs.Ytpdjpiabbciajaa.CutWalks
open Go.RowKit Go.Proofs.Ytpdjpiabbciajaa.CutPlain
set_option linter.unusedVariables false
set_option linter.unusedSimpArgs false

set_option maxHeartbeats 400000 in
theorem common_any (a b : ByteArray) (w : World) (ha : a.size ≤ maxLen) (hb : b.size ≤ maxLen) :
    Calls Try.prog 6 #[.string a, .string b] w fun e w' => e = .returned (.int .i64 (cpb a b)) ∧ ∃ n, w' = w.drewN n := by
  unfold maxLen at ha hb
  go_enter Try.func6, Try.ntmps6
  go_wp2
  go_loopw [5] (fun i wr => ∃ k m : Nat, k ≤ cpb a b ∧ i = .int .i64 k ∧ wr = w.drewN m) (fun i _ => a.size - (intOf i).toNat)
  case atStart => exact ⟨0, 0, Nat.zero_le _, rfl, rfl⟩
  case round =>
    obtain ⟨k, m, hk, rfl, rfl⟩ := hrel
    have hla := cpb_le_left a b
    have hlb := cpb_le_right a b
    by_cases hlt : k < cpb a b
    · have h1 : k < a.size := by omega
      have h2 : k < b.size := by omega
      have h3 : ((a[k].toNat : Int) == (b[k].toNat : Int)) = true := by rw [cpb_get a b k hlt h1 h2]; simp
      go_wp2
      go_quiet (fail)
      go_wp2
      go_roundw
      case rel => exact ⟨k + 1, _, by omega, by go_num, rfl⟩
      case measure => simp [intOf]; omega
    · obtain rfl : k = cpb a b := by omega
      rcases cpb_exit a b with ⟨h1, h2, h3⟩ | ⟨h1, h2⟩ | h1
      all_goals
        go_wp2
        go_quiet (fail)
        go_wp2
        go_ret
        exact ⟨rfl, _, World.drewN_drewN ..⟩

theorem in_any (n lo hi : Int) (w : World) :
    Calls Try.prog 7 #[.int .i64 n, .int .i64 lo, .int .i64 hi] w fun e w' => e = .returned (.bool (decide (lo ≤ n) && decide (n ≤ hi))) ∧ w = w' := by
  by_cases h1 : lo ≤ n <;> by_cases h2 : n ≤ hi
  all_goals
    go_enter Try.func7, Try.ntmps7
    go_wp2
    go_ret
    simp [h1, h2]
theorem inside_any (n lo hi : Int) (w : World) :
    Calls Try.prog 8 #[.int .i64 n, .int .i64 lo, .int .i64 hi] w fun e w' => e = .returned (.bool (decide (lo ≤ n) && decide (n ≤ hi))) ∧ w = w' := by
  by_cases h1 : lo ≤ n <;> by_cases h2 : n ≤ hi
  all_goals
    go_enter Try.func8, Try.ntmps8
    go_wp2
    go_ret
    simp [h1, h2]

set_option maxHeartbeats 400000 in
theorem specCut_any (a b : ByteArray) (n : Int) (w : World) (ha : a.size ≤ maxLen) (hb : b.size ≤ maxLen) (hn : (Lit.int .i64 n).wf = true) :
    Calls Try.prog 4 #[.string a, .string b, .int .i64 n] w fun e w' => e = .returned (.tuple #[.string (cutText a b n), .int .i64 (cutCode a b n)]) ∧ ∃ n, w' = w.drewN n := by
  have hn' : -9223372036854775808 ≤ n ∧ n ≤ 9223372036854775807 := by simpa [Lit.wf, IntKind.min, IntKind.max, IntKind.signed, IntKind.bits] using hn
  obtain ⟨hn1, hn2⟩ := hn'
  have hla := cpb_le_left a b
  have hlb := cpb_le_right a b
  by_cases h1 : 6000 < a.size
  · go_enter Try.func4, Try.ntmps4
    go_wp2
    go_ret2
    exact ⟨by simp [cutText, cutCode, h1], 0, rfl⟩
  by_cases h2 : 6000 < b.size
  · go_enter Try.func4, Try.ntmps4
    go_wp2
    go_ret2
    exact ⟨by simp [cutText, cutCode, h2], 0, rfl⟩
  by_cases h3 : n < 0 ∨ (b.size : Int) - (cpb a b : Int) + 1 < n
  · have hin : (decide (0 ≤ n) && decide (n ≤ (b.size : Int) - (cpb a b : Int) + 1)) = false := by
      rcases h3 with h | h
      · simp; omega
      · simp; omega
    have HIN := Lib.hid hin
    clear hin
    go_enter Try.func4, Try.ntmps4
    go_wp2_with fail
    refine (common_any a b _ ha hb).mono ?_; rintro e w' ⟨rfl, m, rfl⟩
    go_wp2_with fail
    refine (in_any _ _ _ _).mono ?_; rintro e w' ⟨rfl, rfl⟩
    rw [HIN.out]
    go_wp2_with fail
    go_ret2
    exact ⟨by simp [cutText, cutCode, h1, h2, h3], m, rfl⟩
  · have hin : (decide (0 ≤ n) && decide (n ≤ (b.size : Int) - (cpb a b : Int) + 1)) = true := by
      simp; omega
    have HIN := Lib.hid hin
    clear hin
    by_cases h4 : n = 0
    · subst h4
      go_enter Try.func4, Try.ntmps4
      go_wp2_with fail
      refine (common_any a b _ ha hb).mono ?_; rintro e w' ⟨rfl, m, rfl⟩
      go_wp2_with fail
      refine (in_any _ _ _ _).mono ?_; rintro e w' ⟨rfl, rfl⟩
      rw [HIN.out]
      go_wp2_with fail
      go_ret2
      refine ⟨?_, m, rfl⟩
      simp [cutText, cutCode, h1, h2]
      exact ⟨fun h => by omega, by omega⟩
    · obtain ⟨k, rfl⟩ := Int.eq_ofNat_of_zero_le (show 0 ≤ n by omega)
      have h5 : (((k : Nat) : Int) == 0) = false := by simp; omega
      have H3 := Lib.hid h3
      clear h3
      have h6 : (k : Int) ≤ (b.size : Int) - (cpb a b : Int) + 1 := by have := H3.out; omega
      have h7 : 1 ≤ (k : Int) := by omega
      have H4 := Lib.hid h4
      clear h4
      go_enter Try.func4, Try.ntmps4
      go_wp2_with fail
      refine (common_any a b _ ha hb).mono ?_; rintro e w' ⟨rfl, m, rfl⟩
      go_wp2_with fail
      refine (in_any _ _ _ _).mono ?_; rintro e w' ⟨rfl, rfl⟩
      rw [HIN.out]
      go_wp2_with fail
      go_ret2
      refine ⟨?_, m, rfl⟩
      simp [cutText, cutCode, h1, h2, H3.out, H4.out]
      intro h; omega

set_option maxHeartbeats 1000000 in
theorem implCut_any (a b : ByteArray) (n : Int) (w : World) (ha : a.size ≤ maxLen) (hb : b.size ≤ maxLen) (hn : (Lit.int .i64 n).wf = true) :
    Calls Try.prog 5 #[.string a, .string b, .int .i64 n] w fun e w' => e = .returned (.tuple #[.string (cutText a b n), .int .i64 (cutCode a b n)]) ∧ ∃ n, w' = w.drewN n := by
  have hn' : -9223372036854775808 ≤ n ∧ n ≤ 9223372036854775807 := by simpa [Lit.wf, IntKind.min, IntKind.max, IntKind.signed, IntKind.bits] using hn
  obtain ⟨hn1, hn2⟩ := hn'
  unfold maxLen at ha hb
  have hla := cpb_le_left a b
  have hlb := cpb_le_right a b
  by_cases h1 : 6000 < a.size
  · go_enter Try.func5, Try.ntmps5
    go_wp2
    go_ret2
    exact ⟨by simp [cutText, cutCode, h1], 0, rfl⟩
  by_cases h2 : 6000 < b.size
  · go_enter Try.func5, Try.ntmps5
    go_wp2
    go_ret2
    exact ⟨by simp [cutText, cutCode, h2], 0, rfl⟩
  by_cases h3 : n < 0 ∨ (b.size : Int) - (cpb a b : Int) + 1 < n
  · have hin : (decide (0 ≤ n) && decide (n ≤ (b.size : Int) - (cpb a b : Int) + 1)) = false := by
      rcases h3 with h | h
      · simp; omega
      · simp; omega
    have HIN := Lib.hid hin
    clear hin
    go_enter Try.func5, Try.ntmps5
    go_wp2_with fail
    go_loopw [8] (fun i wr => ∃ k m : Nat, k ≤ cpb a b ∧ i = .int .i64 k ∧ wr = w.drewN m) (fun i _ => a.size - (intOf i).toNat)
    case atStart => exact ⟨0, 0, Nat.zero_le _, rfl, rfl⟩
    case round =>
      obtain ⟨k, m, hk, rfl, rfl⟩ := hrel
      by_cases hlt : k < cpb a b
      · have h1 : k < a.size := by omega
        have h2 : k < b.size := by omega
        have h3 : ((a[k].toNat : Int) == (b[k].toNat : Int)) = true := by rw [cpb_get a b k hlt h1 h2]; simp
        go_wp2
        go_quiet (fail)
        go_wp2
        go_roundw
        case rel => exact ⟨k + 1, _, by omega, by go_num, rfl⟩
        case measure => simp [intOf]; omega
      · obtain rfl : k = cpb a b := by omega
        rcases cpb_exit a b with ⟨x1, x2, x3⟩ | ⟨x1, x2⟩ | x1
        all_goals
          go_wp2
          go_quiet (fail)
          go_wp2_with fail
          refine (inside_any _ _ _ _).mono ?_; rintro e w' ⟨rfl, rfl⟩
          rw [HIN.out]
          go_wp2_with fail
          go_ret2
          refine ⟨?_, m + nq, rfl⟩
          simp [cutText, cutCode, h1, h2, h3]
  have hin : (decide (0 ≤ n) && decide (n ≤ (b.size : Int) - (cpb a b : Int) + 1)) = true := by
    simp; omega
  have HIN := Lib.hid hin
  clear hin
  by_cases h4 : n = 0
  · subst h4
    go_enter Try.func5, Try.ntmps5
    go_wp2_with fail
    go_loopw [8] (fun i wr => ∃ k m : Nat, k ≤ cpb a b ∧ i = .int .i64 k ∧ wr = w.drewN m) (fun i _ => a.size - (intOf i).toNat)
    case atStart => exact ⟨0, 0, Nat.zero_le _, rfl, rfl⟩
    case round =>
      obtain ⟨k, m, hk, rfl, rfl⟩ := hrel
      by_cases hlt : k < cpb a b
      · have h1 : k < a.size := by omega
        have h2 : k < b.size := by omega
        have h3 : ((a[k].toNat : Int) == (b[k].toNat : Int)) = true := by rw [cpb_get a b k hlt h1 h2]; simp
        go_wp2
        go_quiet (fail)
        go_wp2
        go_roundw
        case rel => exact ⟨k + 1, _, by omega, by go_num, rfl⟩
        case measure => simp [intOf]; omega
      · obtain rfl : k = cpb a b := by omega
        rcases cpb_exit a b with ⟨x1, x2, x3⟩ | ⟨x1, x2⟩ | x1
        all_goals
          go_wp2
          go_quiet (fail)
          go_wp2_with fail
          refine (inside_any _ _ _ _).mono ?_; rintro e w' ⟨rfl, rfl⟩
          rw [HIN.out]
          go_wp2_with fail
          go_ret2
          refine ⟨?_, m + nq, rfl⟩
          simp [cutText, cutCode, h1, h2]; exact ⟨fun h => by omega, by omega⟩
  · obtain ⟨j, rfl⟩ := Int.eq_ofNat_of_zero_le (show 0 ≤ n by omega)
    have h5 : (((j : Nat) : Int) == 0) = false := by simp; omega
    have H3 := Lib.hid h3
    clear h3
    have h6 : (j : Int) ≤ (b.size : Int) - (cpb a b : Int) + 1 := by have := H3.out; omega
    have h7 : 1 ≤ (j : Int) := by omega
    have H4 := Lib.hid h4
    clear h4
    go_enter Try.func5, Try.ntmps5
    go_wp2_with fail
    go_loopw [8] (fun i wr => ∃ k m : Nat, k ≤ cpb a b ∧ i = .int .i64 k ∧ wr = w.drewN m) (fun i _ => a.size - (intOf i).toNat)
    case atStart => exact ⟨0, 0, Nat.zero_le _, rfl, rfl⟩
    case round =>
      obtain ⟨k, m, hk, rfl, rfl⟩ := hrel
      by_cases hlt : k < cpb a b
      · have h1 : k < a.size := by omega
        have h2 : k < b.size := by omega
        have h3 : ((a[k].toNat : Int) == (b[k].toNat : Int)) = true := by rw [cpb_get a b k hlt h1 h2]; simp
        go_wp2
        go_quiet (fail)
        go_wp2
        go_roundw
        case rel => exact ⟨k + 1, _, by omega, by go_num, rfl⟩
        case measure => simp [intOf]; omega
      · obtain rfl : k = cpb a b := by omega
        rcases cpb_exit a b with ⟨x1, x2, x3⟩ | ⟨x1, x2⟩ | x1
        all_goals
          go_wp2
          go_quiet (fail)
          go_wp2_with fail
          refine (inside_any _ _ _ _).mono ?_; rintro e w' ⟨rfl, rfl⟩
          rw [HIN.out]
          go_wp2_with fail
          go_ret2
          refine ⟨?_, m + nq, rfl⟩
          simp [cutText, cutCode, h1, h2, H3.out, H4.out]; intro h; omega
end Go.Proofs.Ytpdjpiabbciajaa.CutWalks

import Derived.Test.YtpdjpiabbciajaaDoorContent
import Derived.Test.YtpdjpiabbciajaaDoorQB
import Derived.IntWalk
import Derived.Lib.Strings
import Derived.Deep.DeepCutAuto
namespace Go.Proofs.YtpdjpiabbciajaaDoor.ReadWalks
open Go.RowKit Go.Proofs.YtpdjpiabbciajaaDoor.RecPlain Go.Proofs.YtpdjpiabbciajaaDoor.Content
set_option linter.unusedVariables false
set_option linter.unusedSimpArgs false

/-- where the first newline is, or the length -/
def idx (s : ByteArray) : Nat := s.data.toList.findIdx (· == 10)
theorem idx_le (s : ByteArray) : idx s ≤ s.size := List.findIdx_le_length
theorem idx_before (s : ByteArray) (k : Nat) (hk : k < idx s) (h : k < s.size) : ((s[k].toNat : Int) != 10) = true := by
  have hnot := List.not_of_lt_findIdx hk
  rw [bne_iff_ne]
  intro he
  refine Bool.false_ne_true (hnot.symm.trans ?_)
  show (s.data.toList[k] == 10) = true
  have h2 : s[k] = 10 := UInt8.toNat_inj.1 (by show s[k].toNat = 10; omega)
  exact beq_iff_eq.2 h2
theorem idx_at (s : ByteArray) (h : idx s < s.size) : ((s[idx s].toNat : Int) != 10) = false := by
  have := List.findIdx_getElem (w := (show s.data.toList.findIdx (· == 10) < s.data.toList.length from h))
  have h2 : s[idx s] = 10 := beq_iff_eq.1 this
  rw [h2]; rfl

theorem beqT {a b : ByteArray} (h : a = b) : (a.toList == b.toList) = true := by rw [h]; exact beq_iff_eq.2 rfl
theorem beqF {a b : ByteArray} (h : ¬ a = b) : (a.toList == b.toList) = false := by
  rw [beq_eq_false_iff_ne]
  intro he
  rw [Lib.toList_data, Lib.toList_data] at he
  exact h (ByteArray.ext (Array.toList_inj.1 he))

def rdBad (s : ByteArray) : Bool := decide (idx s < 6) || !isC (s.extract 5 (idx s)) || decide (recB (s.extract 5 (idx s)) ≠ s.extract 0 (idx s + 1))
def rdText (s : ByteArray) : ByteArray := if idx s = s.size then ⟨#[]⟩ else if rdBad s then ⟨#[]⟩ else s.extract 5 (idx s)
def rdLen (s : ByteArray) : Int := if idx s = s.size then 0 else if rdBad s then 0 else idx s + 1
def rdCode (s : ByteArray) : Int := if idx s = s.size then 4 else if rdBad s then 6 else 0

theorem record_B (s : ByteArray) (w : World) (hs : s.size ≤ 1000000000) :
    Calls Tryd.prog 16 #[.string s] w fun e w' => e = .returned (.string (recB s)) ∧ Below w.heap.size w w' := RecWalks.record_any s w hs
theorem recordOf_B (s : ByteArray) (w : World) (hs : s.size ≤ 1000000000) (hT : w.cell? ⟨5, 15, none⟩ = some (.int .u8 4)) :
    Calls Tryd.prog 17 #[.string s] w fun e w' => e = .returned (.string (recB s)) ∧ Below w.heap.size w w' := RecWalks.recordOf_any s w hs hT
/-- strings.IndexByte at a newline -/
theorem index_nl (s : ByteArray) : Lib.indexByte s.data.toList (10 : Int).toNat.toUInt8 = if idx s = s.size then -1 else (idx s : Int) := by
  rw [show (10 : Int).toNat.toUInt8 = 10 from rfl]
  by_cases h : idx s = s.size
  · rw [if_pos h]
    rcases (show Lib.indexByte s.data.toList 10 = -1 ∨ 0 ≤ Lib.indexByte s.data.toList 10 by have := Lib.indexByte_ge s.data.toList 10; omega) with h2 | h2
    · exact h2
    · obtain ⟨x, hx, he⟩ := List.getElem_of_mem ((has_iff _ _).1 h2)
      have := List.not_of_lt_findIdx (p := (· == (10 : UInt8))) (show x < s.data.toList.findIdx (· == 10) from by show x < idx s; rw [h]; exact hx)
      rw [he] at this
      exact absurd this (by decide)
  · rw [if_neg h]
    have hlt : s.data.toList.findIdx (· == 10) < s.data.toList.length := by have := idx_le s; show idx s < s.size; omega
    have hat := List.findIdx_getElem (w := hlt)
    have hmem : (10 : UInt8) ∈ s.data.toList := by rw [← beq_iff_eq.1 hat]; exact List.getElem_mem _
    obtain ⟨o, ho⟩ := Int.eq_ofNat_of_zero_le ((has_iff _ _).2 hmem)
    have h1 := Lib.indexByte_some ho
    rw [ho]
    have e1 : o ≤ idx s := by
      apply Nat.le_of_not_lt
      intro hx
      exact h1.2 (idx s) hx ((List.getElem?_eq_getElem hlt).trans (congrArg some (beq_iff_eq.1 hat)))
    have e2 : idx s ≤ o := by
      apply Nat.le_of_not_lt
      intro hx
      have := List.not_of_lt_findIdx (p := (· == (10 : UInt8))) (show o < s.data.toList.findIdx (· == 10) from hx)
      obtain ⟨hh, he⟩ := List.getElem?_eq_some_iff.1 h1.1
      rw [he] at this
      exact absurd this (by decide)
    have : o = idx s := by omega
    rw [this]

set_option maxHeartbeats 1600000 in
theorem specRead_any (s : ByteArray) (w : World) (hs : s.size ≤ 1000000000) :
    Calls Tryd.prog 12 #[.string s] w fun e w' => e = .returned (.tuple #[.string (rdText s), .int .i64 (rdLen s), .int .i64 (rdCode s)]) ∧ Below w.heap.size w w' := by
  have hi := idx_le s
  go_enter Tryd.func12, Tryd.ntmps12
  go_wp2_with fail
  go_loop [5] (fun i => ∃ k : Nat, k ≤ idx s ∧ i = .int .i64 k) (fun i => s.size - (intOf i).toNat)
  case atStart => exact ⟨0, Nat.zero_le _, rfl⟩
  case round =>
    obtain ⟨k, hk, rfl⟩ := hrel
    by_cases hlt : k < idx s
    · have h1 : k < s.size := by omega
      have h2 := idx_before s k hlt h1
      go_wp2_with fail
      go_round
      case rel => exact ⟨k + 1, by omega, by go_num⟩
      case measure => simp [intOf]; omega
    · obtain rfl : k = idx s := by omega
      clear hlt hk
      by_cases hend : idx s = s.size
      · have h1 : ((idx s : Int) == (s.size : Int)) = true := by simp; omega
        have h2 : decide (idx s < s.size) = false := by simp; omega
        have HE := Lib.hid hend
        clear hend
        go_wp2_with fail
        exact bodyPost_ret (v := .tuple #[.string ⟨#[]⟩, .int .i64 0, .int .i64 4]) (by simp [results, Tryd.results12, go_sem]) rfl ⟨by simp [rdText, rdLen, rdCode, HE.out], Below.refl _ _⟩
      · have hlt : idx s < s.size := by omega
        have h1 : ((idx s : Int) == (s.size : Int)) = false := by simp; omega
        have h2 := idx_at s hlt
        have HE := Lib.hid hend
        clear hend
        go_upto_region 6 with fail
        go_cut [41] (fun v wx => v = .bool (rdBad s) ∧ Below w.heap.size w wx)
        case first =>
          have hz : (s.extract 5 (idx s)).size ≤ 1000000000 := by simp; omega
          by_cases h6 : idx s < 6
          · have hB : decide ((idx s : Int) < 6) = true := by simp; omega
            have HB := Lib.hid (show rdBad s = true by simp [rdBad, h6])
            refine wp_region_below w.heap.size w (Below.refl _ _) (by kernel_rfl) (by kernel_rfl) ?_
            repeat (go_big_quiet_step ((first | (go_at_call 18; exact calls_below (Nat.le_refl _) (content_any _ _ hz)) | (go_at_call 16; exact calls_below (Nat.le_refl _) (record_B _ _ hz)))))
            refine wpQuiet_nil ?_
            intro _ hw'
            obtain ⟨⟨wx, hb⟩, rfl⟩ := hw'
            have HBX := Lib.hid hb
            clear hb
            go_wp2_with fail
            go_meet
            exact ⟨by rw [HB.out], HBX.out⟩
          · have hB : decide ((idx s : Int) < 6) = false := by simp; omega
            have h7 : 6 ≤ idx s := by omega
            have h8 : (6 : Int) ≤ (idx s : Int) := by omega
            have b1 : (5 : Int) ≤ (idx s : Int) := by omega
            have b2 : (idx s : Int) ≤ (s.size : Int) := by omega
            have b3 : (idx s : Int) + 1 ≤ (s.size : Int) := by omega
            have b4 : (0 : Int) ≤ (idx s : Int) + 1 := by omega
            have b5 : ((idx s : Int) + 1).toNat = idx s + 1 := by omega
            have b6 : IntKind.i64.wrap ((idx s : Int) + 1) = (idx s : Int) + 1 := IntWalk.i64_in _ (by omega)
            cases hc : isC (s.extract 5 (idx s))
            · have HB := Lib.hid (show rdBad s = true by simp [rdBad, hc])
              refine wp_region_below w.heap.size w (Below.refl _ _) (by kernel_rfl) (by kernel_rfl) ?_
              repeat (go_big_quiet_step ((first | (go_at_call 18; exact calls_below (Nat.le_refl _) (content_any _ _ hz)) | (go_at_call 16; exact calls_below (Nat.le_refl _) (record_B _ _ hz)))))
              refine wpQuiet_nil ?_
              intro _ hw'
              obtain ⟨⟨wx, hb⟩, rfl⟩ := hw'
              have HBX := Lib.hid hb
              clear hb
              go_wp2_with fail
              go_meet
              exact ⟨by rw [HB.out], HBX.out⟩
            · by_cases hr : recB (s.extract 5 (idx s)) = s.extract 0 (idx s + 1)
              · have HB := Lib.hid (show rdBad s = false by simp [rdBad, h6, hc, hr])
                have hx := beqT hr
                clear hr
                refine wp_region_below w.heap.size w (Below.refl _ _) (by kernel_rfl) (by kernel_rfl) ?_
                repeat (go_big_quiet_step ((first | (go_at_call 18; exact calls_below (Nat.le_refl _) (content_any _ _ hz)) | (go_at_call 16; exact calls_below (Nat.le_refl _) (record_B _ _ hz)))))
                refine wpQuiet_nil ?_
                intro _ hw'
                obtain ⟨⟨wx, hb⟩, rfl⟩ := hw'
                have HBX := Lib.hid hb
                clear hb
                go_wp2_with fail
                go_meet
                exact ⟨by rw [HB.out], HBX.out⟩
              · have HB := Lib.hid (show rdBad s = true by simp [rdBad, hr])
                have hx := beqF hr
                clear hr
                refine wp_region_below w.heap.size w (Below.refl _ _) (by kernel_rfl) (by kernel_rfl) ?_
                repeat (go_big_quiet_step ((first | (go_at_call 18; exact calls_below (Nat.le_refl _) (content_any _ _ hz)) | (go_at_call 16; exact calls_below (Nat.le_refl _) (record_B _ _ hz)))))
                refine wpQuiet_nil ?_
                intro _ hw'
                obtain ⟨⟨wx, hb⟩, rfl⟩ := hw'
                have HBX := Lib.hid hb
                clear hb
                go_wp2_with fail
                go_meet
                exact ⟨by rw [HB.out], HBX.out⟩
        case rest =>
          obtain ⟨rfl, hb⟩ := hcut
          have HB := Lib.hid hb
          clear hb
          cases hbad : rdBad s
          · have HX := Lib.hid hbad
            have h7 : 6 ≤ idx s := by
              apply Nat.le_of_not_lt
              intro h
              simp [rdBad, h] at hbad
            clear hbad
            have b1 : (5 : Int) ≤ (idx s : Int) := by omega
            have b2 : (idx s : Int) ≤ (s.size : Int) := by omega
            go_wp2_with fail
            exact bodyPost_ret (v := .tuple #[.string (s.extract 5 (idx s)), .int .i64 ((idx s : Int) + 1), .int .i64 0]) (by simp [results, Tryd.results12, go_sem]) rfl ⟨by simp [rdText, rdLen, rdCode, HE.out, HX.out], HB.out⟩
          · have HX := Lib.hid hbad
            clear hbad
            go_wp2_with fail
            exact bodyPost_ret (v := .tuple #[.string ⟨#[]⟩, .int .i64 0, .int .i64 6]) (by simp [results, Tryd.results12, go_sem]) rfl ⟨by simp [rdText, rdLen, rdCode, HE.out, HX.out], HB.out⟩
        

set_option maxHeartbeats 1600000 in
theorem implRead_any (s : ByteArray) (w : World) (hs : s.size ≤ 1000000000) (hT : w.cell? ⟨5, 15, none⟩ = some (.int .u8 4)) :
    Calls Tryd.prog 13 #[.string s] w fun e w' => e = .returned (.tuple #[.string (rdText s), .int .i64 (rdLen s), .int .i64 (rdCode s)]) ∧ Below w.heap.size w w' := by
  have hi := idx_le s
  have HT : Hid (∀ x : BW w.heap.size w, x.1.cell? ⟨5, 15, none⟩ = some (.int .u8 4)) := Lib.hid fun x => by
    rw [x.2.cell (p := ⟨5, 15, none⟩) (World.block_lt_of_cell? w _ hT)]; exact hT
  clear hT
  go_enter Tryd.func13, Tryd.ntmps13
  go_wp2_with fail
  refine (Tryd.strings_IndexByte s 10 _).mono ?_; rintro e w' ⟨rfl, hww⟩
  obtain rfl := hww.symm
  rw [index_nl]
  by_cases hend : idx s = s.size
  · rw [if_pos hend]
    have HE := Lib.hid hend
    clear hend
    go_wp2_with fail
    exact bodyPost_ret (v := .tuple #[.string ⟨#[]⟩, .int .i64 0, .int .i64 4]) (by simp [results, Tryd.results13, go_sem]) rfl ⟨by simp [rdText, rdLen, rdCode, HE.out], Below.refl _ _⟩
  · rw [if_neg hend]
    have hlt : idx s < s.size := by omega
    have HE := Lib.hid hend
    clear hend
    go_upto_region 4 with fail
    go_cut [29] (fun v wx => v = .bool (rdBad s) ∧ Below w.heap.size w wx)
    case first =>
      have hz : (s.extract 5 (idx s)).size ≤ 1000000000 := by simp; omega
      by_cases h6 : idx s < 6
      · have hB : decide ((idx s : Int) < 6) = true := by simp; omega
        have HB := Lib.hid (show rdBad s = true by simp [rdBad, h6])
        refine wp_region_below w.heap.size w (Below.refl _ _) (by kernel_rfl) (by kernel_rfl) ?_
        repeat (go_big_quiet_step ((first | (go_at_call 19; exact calls_same (isContent_any _ _ hz)) | (go_at_call 17; exact calls_below (Nat.le_refl _) (recordOf_B _ _ hz (HT.out _))))))
        refine wpQuiet_nil ?_
        intro _ hw'
        obtain ⟨⟨wx, hb⟩, rfl⟩ := hw'
        have HBX := Lib.hid hb
        clear hb
        go_wp2_with fail
        go_meet
        exact ⟨by rw [HB.out], HBX.out⟩
      · have hB : decide ((idx s : Int) < 6) = false := by simp; omega
        have h7 : 6 ≤ idx s := by omega
        have h8 : (6 : Int) ≤ (idx s : Int) := by omega
        have b1 : (5 : Int) ≤ (idx s : Int) := by omega
        have b2 : (idx s : Int) ≤ (s.size : Int) := by omega
        have b3 : (idx s : Int) + 1 ≤ (s.size : Int) := by omega
        have b4 : (0 : Int) ≤ (idx s : Int) + 1 := by omega
        have b5 : ((idx s : Int) + 1).toNat = idx s + 1 := by omega
        have b6 : IntKind.i64.wrap ((idx s : Int) + 1) = (idx s : Int) + 1 := IntWalk.i64_in _ (by omega)
        cases hc : isC (s.extract 5 (idx s))
        · have HB := Lib.hid (show rdBad s = true by simp [rdBad, hc])
          refine wp_region_below w.heap.size w (Below.refl _ _) (by kernel_rfl) (by kernel_rfl) ?_
          repeat (go_big_quiet_step ((first | (go_at_call 19; exact calls_same (isContent_any _ _ hz)) | (go_at_call 17; exact calls_below (Nat.le_refl _) (recordOf_B _ _ hz (HT.out _))))))
          refine wpQuiet_nil ?_
          intro _ hw'
          obtain ⟨⟨wx, hb⟩, rfl⟩ := hw'
          have HBX := Lib.hid hb
          clear hb
          go_wp2_with fail
          go_meet
          exact ⟨by rw [HB.out], HBX.out⟩
        · by_cases hr : recB (s.extract 5 (idx s)) = s.extract 0 (idx s + 1)
          · have HB := Lib.hid (show rdBad s = false by simp [rdBad, h6, hc, hr])
            have hx := beqT hr
            clear hr
            refine wp_region_below w.heap.size w (Below.refl _ _) (by kernel_rfl) (by kernel_rfl) ?_
            repeat (go_big_quiet_step ((first | (go_at_call 19; exact calls_same (isContent_any _ _ hz)) | (go_at_call 17; exact calls_below (Nat.le_refl _) (recordOf_B _ _ hz (HT.out _))))))
            refine wpQuiet_nil ?_
            intro _ hw'
            obtain ⟨⟨wx, hb⟩, rfl⟩ := hw'
            have HBX := Lib.hid hb
            clear hb
            go_wp2_with fail
            go_meet
            exact ⟨by rw [HB.out], HBX.out⟩
          · have HB := Lib.hid (show rdBad s = true by simp [rdBad, hr])
            have hx := beqF hr
            clear hr
            refine wp_region_below w.heap.size w (Below.refl _ _) (by kernel_rfl) (by kernel_rfl) ?_
            repeat (go_big_quiet_step ((first | (go_at_call 19; exact calls_same (isContent_any _ _ hz)) | (go_at_call 17; exact calls_below (Nat.le_refl _) (recordOf_B _ _ hz (HT.out _))))))
            refine wpQuiet_nil ?_
            intro _ hw'
            obtain ⟨⟨wx, hb⟩, rfl⟩ := hw'
            have HBX := Lib.hid hb
            clear hb
            go_wp2_with fail
            go_meet
            exact ⟨by rw [HB.out], HBX.out⟩
    case rest =>
      obtain ⟨rfl, hb⟩ := hcut
      have HB := Lib.hid hb
      clear hb
      cases hbad : rdBad s
      · have HX := Lib.hid hbad
        have h7 : 6 ≤ idx s := by
          apply Nat.le_of_not_lt
          intro h
          simp [rdBad, h] at hbad
        clear hbad
        have b1 : (5 : Int) ≤ (idx s : Int) := by omega
        have b2 : (idx s : Int) ≤ (s.size : Int) := by omega
        go_wp2_with fail
        exact bodyPost_ret (v := .tuple #[.string (s.extract 5 (idx s)), .int .i64 ((idx s : Int) + 1), .int .i64 0]) (by simp [results, Tryd.results13, go_sem]) rfl ⟨by simp [rdText, rdLen, rdCode, HE.out, HX.out], HB.out⟩
      · have HX := Lib.hid hbad
        clear hbad
        go_wp2_with fail
        exact bodyPost_ret (v := .tuple #[.string ⟨#[]⟩, .int .i64 0, .int .i64 6]) (by simp [results, Tryd.results13, go_sem]) rfl ⟨by simp [rdText, rdLen, rdCode, HE.out, HX.out], HB.out⟩
    
end Go.Proofs.YtpdjpiabbciajaaDoor.ReadWalks

import Derived.Test.YtpdjpiabbciajaaDoorProg
import Derived.Test.YtpdjpiabbciajaaDoorNumPlain
import Derived.Test.YtpdjpiabbciajaaDoorQB
import Derived.WalkKit
import Derived.WalkSpells
import Derived.WalkLawsBesides
import Derived.Lib.Hide
import Derived.Outline
import Derived.Handy
import Derived.Laws.IdiomStrings
import Derived.IntWalk
import Derived.Lib.Strings
import Derived.Laws.BitsAllLaws
import Derived.Deep.RegionWith
import Derived.Deep.DrawnRows
import Derived.Deep.DeepCutAuto
namespace Go.Proofs.YtpdjpiabbciajaaDoor.NumWalks
open Go.RowKit Go.Lib Go.Proofs.YtpdjpiabbciajaaDoor.NumPlain
set_option linter.unusedVariables false
set_option linter.unusedSimpArgs false

theorem beqT {a b : ByteArray} (h : a = b) : (a.toList == b.toList) = true := by rw [h]; exact beq_iff_eq.2 rfl
theorem beqF {a b : ByteArray} (h : ¬ a = b) : (a.toList == b.toList) = false := by
  rw [beq_eq_false_iff_ne]
  intro he
  rw [Lib.toList_data, Lib.toList_data] at he
  exact h (ByteArray.ext (Array.toList_inj.1 he))
theorem one_byte (x : Nat) (hx : x < 10) (g : Nat) (w' : World) (h : w'.cell? ⟨g, 0, none⟩ = some (.int .u8 (48 + (x : Int)))) :
    (convert 42 9 (.slice (some ⟨g, 0, none⟩) 1 1)).run Tryd.prog w' = .ok (.string ⟨#[dgt x]⟩) w' := by
  refine run_convert_bytes_back (P := Tryd.prog) w' 42 9 5 ⟨g, 0, none⟩ 1 [dgt x] Tryd.underlying42 Tryd.underlying5 Tryd.underlying9 ?_
  intro j hj
  have hj0 : j = 0 := by simp at hj; omega
  subst hj0
  rw [show (Addr.add ⟨g, 0, none⟩ 0) = ⟨g, 0, none⟩ by simp [Addr.add], h]
  simp [dgt]
  omega

attribute [local go_sem ↓] Go.wp_at_zero Go.wp_at_succ
set_option maxHeartbeats 200000 in
theorem dec_any (n : Nat) : ∀ (w : World), n ≤ 1000000000 →
    Calls Tryd.prog 39 #[.int .i64 n] w fun e w' => e = .returned (.string ⟨(decDigits n).toArray⟩) ∧ Below w.heap.size w w' := by
  induction n using Nat.strongRecOn with
  | ind n ih =>
    intro w hn
    by_cases h10 : n < 10
    · have hob := one_byte n (by omega)
      have HD := Lib.hid (dec_small n h10)
      clear ih
      go_enter Tryd.func39, Tryd.ntmps39
      go_wp2_with fail
      go_ret
      exact ⟨congrArg (fun l : List UInt8 => Ending.returned (Value.string ⟨l.toArray⟩)) HD.out.symm, (Below.refl _ _).alloc (Nat.le_refl _) _⟩
    · have hob := one_byte (n % 10) (by omega)
      rw [show ((n % 10 : Nat) : Int) = (n : Int) % 10 by omega] at hob
      have HD := Lib.hid (dec_big n h10)
      have ih' := fun w => ih (n / 10) (by omega) w (by omega)
      rw [show ((n / 10 : Nat) : Int) = (n : Int) / 10 by omega] at ih'
      have IH := Lib.hid ih'
      have hlen : (decDigits (n / 10)).length ≤ 10 := dec_len (n / 10) 9 (by omega)
      clear ih ih'
      generalize hds : decDigits (n / 10) = ds at IH HD hlen
      have q1 : IntKind.i64.wrap ((n : Int) / 10) = (n : Int) / 10 := IntWalk.i64_in _ (by omega)
      have q2 : (n : Int).tmod 10 = (n : Int) % 10 := by rw [Int.tmod_eq_emod_of_nonneg (by omega)]
      have q3 : IntKind.i64.wrap (48 + (n : Int) % 10) = 48 + (n : Int) % 10 := IntWalk.i64_in _ (by omega)
      have q4 : IntKind.u8.wrap (48 + (n : Int) % 10) = 48 + (n : Int) % 10 := by rw [IntKind.wrap_u8']; omega
      go_enter Tryd.func39, Tryd.ntmps39
      go_upto_region 3 with fail
      go_region_with (first | (go_at_call 39; refine (IH.out _).mono ?_; rintro e w1 ⟨rfl, hb1⟩; obtain ⟨hc1, hf1⟩ := bcell hb1))
      all_goals
        go_wp2_with fail
        go_ret
        refine ⟨congrArg (fun l : ByteArray => Ending.returned (Value.string l)) (dec_app ds n HD.out), ?_⟩
        first
          | exact ((Below.refl _ _).drew.trans hb1).alloc hb1.size _
          | exact ((Below.refl _ _).alloc (Nat.le_refl _) _).drew.trans (hb1.mono (by simp))

set_option maxHeartbeats 1000000 in
theorem digits_any (s : ByteArray) (w : World) (hs : s.size ≤ maxLen) :
    Calls Tryd.prog 38 #[.string s] w fun e w' => e = .returned (.int .i64 (digVal s.data.toList)) ∧ w = w' := by
  unfold maxLen at hs
  by_cases h7 : 7 < s.size
  · go_enter Tryd.func38, Tryd.ntmps38
    go_wp2_with fail
    go_ret
    exact ⟨congrArg (fun v => Ending.returned (Value.int .i64 v)) (digVal_long s h7).symm, rfl⟩
  go_enter Tryd.func38, Tryd.ntmps38
  go_wp2_with fail
  go_loop [3, 4] (fun v i => ∃ k : Nat, k ≤ s.size ∧ i = .int .i64 k ∧ v = .int .i64 (val (s.data.toList.take k)) ∧ (s.data.toList.take k).all isDig = true) (fun _ i => s.size - (intOf i).toNat)
  case atStart => exact ⟨0, Nat.zero_le _, rfl, rfl, rfl⟩
  case round =>
    obtain ⟨k, hk, rfl, rfl, hall⟩ := hrel
    have hv := val_take_lt s k hall (by omega)
    have HA := Lib.hid hall
    clear hall
    by_cases hlt : k < s.size
    · have HS := Lib.hid fun hd => take_dig s k hlt hd HA.out
      have HN := Lib.hid fun hd => digVal_bad s k hlt hd (by omega)
      have HV := Lib.hid hv
      clear hv
      go_wp2_with fail
      · go_ret
        exact ⟨congrArg (fun v => Ending.returned (Value.int .i64 v)) (HN.out (by simp [isDig]; omega)).symm, rfl⟩
      · have hd : isDig s[k] = true := by simp [isDig]; omega
        have h48 : (48 : Int) ≤ (s[k].toNat : Int) := by assumption
        have hS := HS.out hd
        have hv := HV.out
        have e1 : wrap64 (10 * (val (s.data.toList.take k) : Int)) = 10 * (val (s.data.toList.take k) : Int) := IntWalk.wrap64_in _ ⟨by omega, by omega⟩
        have e2 : wrap64 (10 * (val (s.data.toList.take k) : Int) + ((s[k].toNat : Int) - 48)) = 10 * (val (s.data.toList.take k) : Int) + ((s[k].toNat : Int) - 48) := IntWalk.wrap64_in _ ⟨by omega, by omega⟩
        refine ⟨⟨k + 1, by omega, by go_num, congrArg (Value.int .i64) (by rw [hS.1, e1, e2]; omega), hS.2⟩, by simp [intOf]; omega⟩
      · go_ret
        exact ⟨congrArg (fun v => Ending.returned (Value.int .i64 v)) (HN.out (by simp [isDig]; omega)).symm, rfl⟩
    · obtain rfl : k = s.size := by omega
      have HF := Lib.hid (digVal_all s HA.out (by omega))
      go_wp2_with fail
      go_ret
      exact ⟨congrArg (fun v => Ending.returned (Value.int .i64 v)) HF.out.symm, rfl⟩

set_option maxHeartbeats 1000000 in
theorem number_any (s : ByteArray) (w : World) (hs : s.size ≤ maxLen) :
    Calls Tryd.prog 31 #[.string s] w fun e w' => e = .returned (.int .i64 (numVal s.data.toList)) ∧ Below w.heap.size w w' := by
  go_enter Tryd.func31, Tryd.ntmps31
  go_wp2_with fail
  refine (digits_any s _ hs).mono ?_; rintro e w1 ⟨rfl, rfl⟩
  unfold maxLen at hs
  by_cases h0 : s.size = 0
  · have hb : ((s.size : Int) == 0) = true := beq_iff_eq.2 (by omega)
    have HX := Lib.hid (numVal_bad s.data.toList (.inl (List.eq_nil_of_length_eq_zero h0)))
    clear h0
    go_wp2_with fail
    go_ret
    exact ⟨congrArg (fun v => Ending.returned (Value.int .i64 v)) HX.out.symm, Below.refl _ _⟩
  have hb : ((s.size : Int) == 0) = false := beq_eq_false_iff_ne.2 (by omega)
  by_cases h6 : 6 < s.size
  · have HX := Lib.hid (numVal_bad s.data.toList (.inr (.inl h6)))
    clear h0
    go_wp2_with fail
    go_ret
    exact ⟨congrArg (fun v => Ending.returned (Value.int .i64 v)) HX.out.symm, Below.refl _ _⟩
  by_cases hd : digVal s.data.toList < 0
  · have HX := Lib.hid (numVal_bad s.data.toList (.inr (.inr (.inl hd))))
    clear h0
    generalize digVal s.data.toList = d at hd ⊢
    go_wp2_with fail
    go_ret
    exact ⟨congrArg (fun v => Ending.returned (Value.int .i64 v)) HX.out.symm, Below.refl _ _⟩
  have hd2 := digVal_nonneg s.data.toList (by omega)
  have hlt := val_lt s.data.toList hd2.1
  have hp : (10 : Nat) ^ s.data.toList.length ≤ 10 ^ 6 := Nat.pow_le_pow_right (by omega) (by show s.size ≤ 6; omega)
  have hdec := fun w => dec_any (val s.data.toList) w (by omega)
  rw [← hd2.2.1] at hdec
  have HDEC := Lib.hid hdec
  clear hdec hp hlt
  by_cases he : decDigits (val s.data.toList) = s.data.toList
  · have HX := Lib.hid (numVal_good s.data.toList (fun h => h0 (congrArg List.length h)) (by show s.size ≤ 6; omega) (by omega) he)
    have HE := Lib.hid (beqT (show (⟨(decDigits (val s.data.toList)).toArray⟩ : ByteArray) = s from by rw [he]))
    clear hd2 he h0
    generalize digVal s.data.toList = d at hd HX HDEC ⊢
    generalize (⟨(decDigits (val s.data.toList)).toArray⟩ : ByteArray) = t at HE HDEC ⊢
    go_wp2_with fail
    refine (HDEC.out _).mono ?_; rintro e w1 ⟨rfl, hb1⟩
    have HB := Lib.hid hb1
    have he := HE.out
    clear hb1
    go_wp2_with fail
    go_ret
    exact ⟨congrArg (fun v => Ending.returned (Value.int .i64 v)) HX.out.symm, HB.out⟩
  · have HX := Lib.hid (numVal_bad s.data.toList (.inr (.inr (.inr he))))
    have HE := Lib.hid (beqF (show ¬ (⟨(decDigits (val s.data.toList)).toArray⟩ : ByteArray) = s from fun h => he (congrArg (fun x : ByteArray => x.data.toList) h)))
    clear hd2 he h0
    generalize digVal s.data.toList = d at hd HX HDEC ⊢
    generalize (⟨(decDigits (val s.data.toList)).toArray⟩ : ByteArray) = t at HE HDEC ⊢
    go_wp2_with fail
    refine (HDEC.out _).mono ?_; rintro e w1 ⟨rfl, hb1⟩
    have HB := Lib.hid hb1
    have he := HE.out
    clear hb1
    go_wp2_with fail
    go_ret
    exact ⟨congrArg (fun v => Ending.returned (Value.int .i64 v)) HX.out.symm, HB.out⟩

theorem one_list (s : ByteArray) (h : s.size = 1) (hz : 0 < s.size) : s.data.toList = [s[0]] := by
  have h1 : s.data.toList.length = 1 := h
  apply List.ext_getElem (by simpa using h1)
  intro i h2 h3
  have : i = 0 := by simp at h3; omega
  subst this
  rfl
theorem isLet_not (l : List UInt8) (h : ¬ l.length = 1) : isLet l = false := by
  unfold isLet
  split
  · simp at h
  · rfl

set_option maxHeartbeats 1000000 in
theorem letter_any (s : ByteArray) (w : World) (hs : s.size ≤ maxLen) :
    Calls Tryd.prog 30 #[.string s] w fun e w' => e = .returned (.bool (isLet s.data.toList)) ∧ w = w' := by
  unfold maxLen at hs
  by_cases h1 : s.size = 1
  · have hz : 0 < s.size := by omega
    have hb : ((s.size : Int) == 1) = true := beq_iff_eq.2 (by omega)
    have hl := one_list s h1 hz
    clear h1
    by_cases h97 : 97 ≤ s[0].toNat
    · by_cases h122 : s[0].toNat ≤ 122
      · have b1 : decide ((97 : Int) ≤ (s[0].toNat : Int)) = true := by simp; omega
        have b2 : decide ((s[0].toNat : Int) ≤ 122) = true := by simp; omega
        have HL := Lib.hid (show isLet s.data.toList = true by rw [hl]; simp [isLet, h97, h122])
        clear h97 h122 hl
        go_enter Tryd.func30, Tryd.ntmps30
        go_wp2_with fail
        go_ret
        exact ⟨congrArg (fun b => Ending.returned (Value.bool b)) HL.out.symm, rfl⟩
      · have b1 : decide ((97 : Int) ≤ (s[0].toNat : Int)) = true := by simp; omega
        have b2 : decide ((s[0].toNat : Int) ≤ 122) = false := by simp; omega
        have HL := Lib.hid (show isLet s.data.toList = false by rw [hl]; simp [isLet, h122])
        clear h97 h122 hl
        go_enter Tryd.func30, Tryd.ntmps30
        go_wp2_with fail
        go_ret
        exact ⟨congrArg (fun b => Ending.returned (Value.bool b)) HL.out.symm, rfl⟩
    · have b1 : decide ((97 : Int) ≤ (s[0].toNat : Int)) = false := by simp; omega
      have HL := Lib.hid (show isLet s.data.toList = false by rw [hl]; simp [isLet, h97])
      clear h97 hl
      go_enter Tryd.func30, Tryd.ntmps30
      go_wp2_with fail
      go_ret
      exact ⟨congrArg (fun b => Ending.returned (Value.bool b)) HL.out.symm, rfl⟩
  · have b1 : ((s.size : Int) == 1) = false := beq_eq_false_iff_ne.2 (by omega)
    have HL := Lib.hid (isLet_not s.data.toList h1)
    clear h1
    go_enter Tryd.func30, Tryd.ntmps30
    go_wp2_with fail
    go_ret
    exact ⟨congrArg (fun b => Ending.returned (Value.bool b)) HL.out.symm, rfl⟩

set_option maxHeartbeats 1000000 in
theorem isLetter_any (s : ByteArray) (w : World) (hs : s.size ≤ maxLen) :
    Calls Tryd.prog 33 #[.string s] w fun e w' => e = .returned (.bool (isLet s.data.toList)) ∧ w = w' := by
  unfold maxLen at hs
  by_cases h1 : s.size = 1
  · have hz : 0 < s.size := by omega
    have hb : ((s.size : Int) == 1) = true := beq_iff_eq.2 (by omega)
    have hl := one_list s h1 hz
    clear h1
    by_cases h97 : 97 ≤ s[0].toNat
    · by_cases h122 : s[0].toNat ≤ 122
      · have b1 : decide ((97 : Int) ≤ (s[0].toNat : Int)) = true := by simp; omega
        have b2 : decide ((s[0].toNat : Int) ≤ 122) = true := by simp; omega
        have HL := Lib.hid (show isLet s.data.toList = true by rw [hl]; simp [isLet, h97, h122])
        clear h97 h122 hl
        go_enter Tryd.func33, Tryd.ntmps33
        go_wp2_with fail
        go_ret
        exact ⟨congrArg (fun b => Ending.returned (Value.bool b)) HL.out.symm, rfl⟩
      · have b1 : decide ((97 : Int) ≤ (s[0].toNat : Int)) = true := by simp; omega
        have b2 : decide ((s[0].toNat : Int) ≤ 122) = false := by simp; omega
        have HL := Lib.hid (show isLet s.data.toList = false by rw [hl]; simp [isLet, h122])
        clear h97 h122 hl
        go_enter Tryd.func33, Tryd.ntmps33
        go_wp2_with fail
        go_ret
        exact ⟨congrArg (fun b => Ending.returned (Value.bool b)) HL.out.symm, rfl⟩
    · have b1 : decide ((97 : Int) ≤ (s[0].toNat : Int)) = false := by simp; omega
      have HL := Lib.hid (show isLet s.data.toList = false by rw [hl]; simp [isLet, h97])
      clear h97 hl
      go_enter Tryd.func33, Tryd.ntmps33
      go_wp2_with fail
      go_ret
      exact ⟨congrArg (fun b => Ending.returned (Value.bool b)) HL.out.symm, rfl⟩
  · have b1 : ((s.size : Int) == 1) = false := beq_eq_false_iff_ne.2 (by omega)
    have HL := Lib.hid (isLet_not s.data.toList h1)
    clear h1
    go_enter Tryd.func33, Tryd.ntmps33
    go_wp2_with fail
    go_ret
    exact ⟨congrArg (fun b => Ending.returned (Value.bool b)) HL.out.symm, rfl⟩
end Go.Proofs.YtpdjpiabbciajaaDoor.NumWalks

import Derived.Test.YtbamkklhkhglnaaGreatDoorProg
import Derived.Test.YtbamkklhkhglnaaGreatDoorNumPlain
import Derived.Test.YtbamkklhkhglnaaGreatDoorQB
import Derived.WalkKit
import Derived.WalkSpells
import Derived.WalkLawsBesides
import Derived.Lib.Hide
import Derived.Outline
import Derived.Handy
import Derived.Laws.IdiomStrings
import Derived.IntWalk
import Derived.Lib.Strings
import Derived.Laws.BitsAllLaws
import Derived.Deep.RegionWith
import Derived.Deep.DrawnRows
import Derived.Deep.DeepCutAuto
namespace Go.Proofs.YtbamkklhkhglnaaGreatDoor.NumD
open Go.RowKit Go.Lib Go.Proofs.YtbamkklhkhglnaaGreatDoor.NumPlain
set_option linter.unusedVariables false
set_option linter.unusedSimpArgs false

theorem beqT {a b : ByteArray} (h : a = b) : (a.toList == b.toList) = true := by rw [h]; exact beq_iff_eq.2 rfl
theorem beqF {a b : ByteArray} (h : ¬ a = b) : (a.toList == b.toList) = false := by
  rw [beq_eq_false_iff_ne]
  intro he
  rw [Lib.toList_data, Lib.toList_data] at he
  exact h (ByteArray.ext (Array.toList_inj.1 he))
theorem one_byte (x : Nat) (hx : x < 10) (g : Nat) (w' : World) (h : w'.cell? ⟨g, 0, none⟩ = some (.int .u8 (48 + (x : Int)))) :
    (convert 22 9 (.slice (some ⟨g, 0, none⟩) 1 1)).run Tryz.prog w' = .ok (.string ⟨#[dgt x]⟩) w' := by
  refine run_convert_bytes_back (P := Tryz.prog) w' 22 9 5 ⟨g, 0, none⟩ 1 [dgt x] Tryz.underlying22 Tryz.underlying5 Tryz.underlying9 ?_
  intro j hj
  have hj0 : j = 0 := by simp at hj; omega
  subst hj0
  rw [show (Addr.add ⟨g, 0, none⟩ 0) = ⟨g, 0, none⟩ by simp [Addr.add], h]
  simp [dgt]
  omega

attribute [local go_sem ↓] Go.wp_at_zero Go.wp_at_succ
set_option maxHeartbeats 200000 in
theorem dec_any (n : Nat) : ∀ (w : World), n ≤ 1000000000 →
    Calls Tryz.prog 139 #[.int .i64 n] w fun e w' => e = .returned (.string ⟨(decDigits n).toArray⟩) ∧ Below w.heap.size w w' := by
  induction n using Nat.strongRecOn with
  | ind n ih =>
    intro w hn
    by_cases h10 : n < 10
    · have hob := one_byte n (by omega)
      have HD := Lib.hid (dec_small n h10)
      clear ih
      go_enter Tryz.func139, Tryz.ntmps139
      go_wp2_with fail
      go_ret
      exact ⟨congrArg (fun l : List UInt8 => Ending.returned (Value.string ⟨l.toArray⟩)) HD.out.symm, (Below.refl _ _).alloc (Nat.le_refl _) _⟩
    · have hob := one_byte (n % 10) (by omega)
      rw [show ((n % 10 : Nat) : Int) = (n : Int) % 10 by omega] at hob
      have HD := Lib.hid (dec_big n h10)
      have ih' := fun w => ih (n / 10) (by omega) w (by omega)
      rw [show ((n / 10 : Nat) : Int) = (n : Int) / 10 by omega] at ih'
      have IH := Lib.hid ih'
      have hlen : (decDigits (n / 10)).length ≤ 10 := dec_len (n / 10) 9 (by omega)
      clear ih ih'
      generalize hds : decDigits (n / 10) = ds at IH HD hlen
      have q1 : IntKind.i64.wrap ((n : Int) / 10) = (n : Int) / 10 := IntWalk.i64_in _ (by omega)
      have q2 : (n : Int).tmod 10 = (n : Int) % 10 := by rw [Int.tmod_eq_emod_of_nonneg (by omega)]
      have q3 : IntKind.i64.wrap (48 + (n : Int) % 10) = 48 + (n : Int) % 10 := IntWalk.i64_in _ (by omega)
      have q4 : IntKind.u8.wrap (48 + (n : Int) % 10) = 48 + (n : Int) % 10 := by rw [IntKind.wrap_u8']; omega
      go_enter Tryz.func139, Tryz.ntmps139
      go_upto_region 3 with fail
      go_region_with (first | (go_at_call 139; refine (IH.out _).mono ?_; rintro e w1 ⟨rfl, hb1⟩; obtain ⟨hc1, hf1⟩ := bcell hb1))
      all_goals
        go_wp2_with fail
        go_ret
        refine ⟨congrArg (fun l : ByteArray => Ending.returned (Value.string l)) (dec_app ds n HD.out), ?_⟩
        first
          | exact ((Below.refl _ _).drew.trans hb1).alloc hb1.size _
          | exact ((Below.refl _ _).alloc (Nat.le_refl _) _).drew.trans (hb1.mono (by simp))

end Go.Proofs.YtbamkklhkhglnaaGreatDoor.NumD

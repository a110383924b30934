import Derived.Test.YtbamkklhkhglnaaGreatDoorProg
import Derived.Test.YtbamkklhkhglnaaGreatDoorSplitPlain
import Derived.WalkKit
import Derived.WalkSpells
import Derived.WalkLawsBesides
import Derived.BigQuiet
import Derived.Deep.QuietTactic
import Derived.Lib.Hide
import Derived.Outline
import Derived.Handy
import Derived.Below
import Derived.Laws.AppendOwn
namespace Go.Proofs.YtbamkklhkhglnaaGreatDoor.Split
open Go.RowKit Go.Proofs.YtbamkklhkhglnaaGreatDoor.SplitPlain
set_option linter.unusedVariables false
set_option linter.unusedSimpArgs false

theorem infoS : (Tryz.prog.info? 9).map (fun i => (i.zero, i.size, i.bytes)) = some (some (.string ⟨#[]⟩), 1, 16) := by kernel_rfl

set_option maxHeartbeats 1000000 in
theorem split_any (s : ByteArray) (b : UInt8) (w : World) (hs : s.size ≤ 1000000000) :
    Calls Tryz.prog 104 #[.string s, .int .u8 b.toNat] w fun e w' => ∃ v, e = .returned v ∧
      w'.ownsRow w.heap.size 9 1 v (parts s b).length ((parts s b).map Value.string) ∧ Below w.heap.size w w' := by
  obtain ⟨i0, hi, hz0, hz1, hz2⟩ := info_parts infoS
  go_enter Tryz.func104, Tryz.ntmps104
  go_wp2_with fail
  go_loopw [5, 6, 7] (fun v f i wr => ∃ k : Nat, k ≤ s.size ∧ i = .int .i64 k ∧ f = .int .i64 (spl s b k).2 ∧
      wr.ownsRow w.heap.size 9 1 v (spl s b k).1.length ((spl s b k).1.map Value.string) ∧ Below w.heap.size w wr) (fun _ _ i _ => s.size - (intOf i).toNat)
  case atStart => exact ⟨0, Nat.zero_le _, rfl, rfl, World.ownsRow_made w #[] 0 (Nat.le_refl _) (Nat.zero_le _) rfl, (Below.refl _ _).alloc (Nat.le_refl _) _⟩
  case round =>
    obtain ⟨k, hk, rfl, rfl, hown, hbel⟩ := hrel
    have hf := spl_from s b k
    have hl := spl_length s b k
    have hsz := hbel.size
    by_cases hlt : k < s.size
    · by_cases hb : s[k] = b
      · have hs1 : Hid (spl s b (k + 1) = ((spl s b k).1 ++ [s.extract (spl s b k).2 k], k + 1)) := Lib.hid (by
          have : s.data.toList[k]? = some b := by rw [List.getElem?_eq_getElem (by exact hlt)]; exact congrArg some hb
          simp [spl, this])
        have ht : ((s[k].toNat : Int) == (b.toNat : Int)) = true := by rw [hb]; simp
        have HB := Lib.hid hb
        have HO := Lib.hid hown
        have HBel := Lib.hid hbel
        clear hb hown hbel
        generalize hfe : (spl s b k).2 = f at hf ⊢
        generalize hle : (spl s b k).1 = ps at hl ⊢
        have HF := Lib.hid hfe
        have HL := Lib.hid hle
        clear hfe hle
        go_wp2_with (at_builtin; refine wpList_append_own _ rfl _ _ 35 rfl w.heap.size 9 i0 (.string ⟨#[]⟩) 1 16 Tryz.underlying35 hi hz0 hz1 hz2 rfl (by decide) _ _ _ rfl ((show wr.ownsRow w.heap.size 9 1 _ ps.length (ps.map Value.string) by rw [← HL.out]; exact HO.out).alloc _) ⟨wr.heap.size, 0, none⟩ 1 1 [.string (s.extract f k)] rfl rfl ?c1 ?c2 ?c3 ?c4 ?c5 ?_)
        case c1 => exact cell_one_new _ _ _
        case c2 => intro u hu; simp only [List.mem_cons, List.not_mem_nil, or_false] at hu; subst hu; rfl
        case c3 => unfold maxLen; omega
        case c4 => omega
        case c5 => simp; omega
        intro v' w1 hown' hgrow _
        have hlt2 := World.ownsRow.lt (show wr.ownsRow w.heap.size 9 1 u5 _ _ from HO.out)
        have HO' := Lib.hid hown'
        have HB1 := Lib.hid ((HBel.out.alloc hsz _).grown hgrow (by simp; omega) (fun k hk => (hlt2 k hk).1))
        clear hown' hgrow hlt2
        go_wp2_with fail
        go_roundw
        case rel => exact ⟨k + 1, by omega, by go_num, by rw [hs1.out]; show _ = Value.int .i64 ((k + 1 : Nat) : Int); go_num, by rw [hs1.out, HL.out, HF.out]; simpa using HO'.out, HB1.out⟩
        case measure => simp [intOf]; omega
      · have hs1 : Hid (spl s b (k + 1) = spl s b k) := Lib.hid (by
          have : ¬ s.data.toList[k]? = some b := by
            rw [List.getElem?_eq_getElem (by exact hlt)]
            exact fun h => hb (Option.some.inj h)
          rw [spl]
          exact if_neg this)
        have ht : ((s[k].toNat : Int) == (b.toNat : Int)) = false := by
          simp only [beq_eq_false_iff_ne]
          intro h
          exact hb (UInt8.toNat_inj.1 (by omega))
        have HO := Lib.hid hown
        have HBel := Lib.hid hbel
        clear hb hown hbel
        go_wp2_with fail
        go_roundw
        case rel => exact ⟨k + 1, by omega, by go_num, by rw [hs1.out], by rw [hs1.out]; exact HO.out, HBel.out⟩
        case measure => simp [intOf]; omega
    · obtain rfl : k = s.size := by omega
      have HO := Lib.hid hown
      have HBel := Lib.hid hbel
      clear hown hbel hlt hk
      have hpl : Hid ((parts s b) = (spl s b s.size).1 ++ [s.extract (spl s b s.size).2 s.size]) := Lib.hid rfl
      generalize hfe : (spl s b s.size).2 = f at hf ⊢
      generalize hle : (spl s b s.size).1 = ps at hl ⊢
      have HF := Lib.hid hfe
      have HL := Lib.hid hle
      clear hfe hle
      go_wp2_with (at_builtin; refine wpList_append_own _ rfl _ _ 35 rfl w.heap.size 9 i0 (.string ⟨#[]⟩) 1 16 Tryz.underlying35 hi hz0 hz1 hz2 rfl (by decide) _ _ _ rfl ((show wr.ownsRow w.heap.size 9 1 _ ps.length (ps.map Value.string) by rw [← HL.out]; exact HO.out).alloc _) ⟨wr.heap.size, 0, none⟩ 1 1 [.string (s.extract f s.size)] rfl rfl ?c1 ?c2 ?c3 ?c4 ?c5 ?_)
      case c1 => exact cell_one_new _ _ _
      case c2 => intro u hu; simp only [List.mem_cons, List.not_mem_nil, or_false] at hu; subst hu; rfl
      case c3 => unfold maxLen; omega
      case c4 => omega
      case c5 => simp; omega
      intro v' w1 hown' hgrow _
      have hlt2 := World.ownsRow.lt (show wr.ownsRow w.heap.size 9 1 u5 _ _ from HO.out)
      have HO' := Lib.hid hown'
      have HB1 := Lib.hid ((HBel.out.alloc hsz _).grown hgrow (by simp; omega) (fun k hk => (hlt2 k hk).1))
      clear hown' hgrow hlt2
      go_wp2_with fail
      go_ret
      refine ⟨v', rfl, ?_, HB1.out⟩
      rw [hpl.out, HL.out, HF.out]
      simpa using HO'.out
end Go.Proofs.YtbamkklhkhglnaaGreatDoor.Split

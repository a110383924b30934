import Derived.Test.YtbamkklhkhglnaaGreatDoorOwn
import Derived.Laws.AppendOwnNone
namespace Go.Proofs.YtbamkklhkhglnaaGreatDoor.SpecA
open Go.RowKit Go.Proofs.YtbamkklhkhglnaaGreatDoor Go.Proofs.YtbamkklhkhglnaaGreatDoor.Tow
set_option linter.unusedVariables false
set_option linter.unusedSimpArgs false

set_option maxHeartbeats 400000 in
theorem own_any (S : Nat → Prop) (v : Value) (l : List Int) (w : World) (hv : SlI S w v l) (hl : l.length ≤ 1000000) :
    Calls Tryz.prog 134 #[v] w (NewS l w) := by
  obtain ⟨i0, hi, hz0, hz1, hz2⟩ := info_parts infoI
  obtain ⟨ao, c, rfl, hc, hm, hn, hx⟩ := hv
  have HL := Lib.hid hl
  have HM := Lib.hid hm
  clear hl hm
  have hsl : SlI S w (.slice ao l.length c) l := ⟨ao, c, rfl, hc, HM.out, hn, hx⟩
  have HS := Lib.hid hsl
  have h00 := World.ownsRow_made (base := w.heap.size) (e := 2) (size := 1) w #[] 0 (Nat.le_refl _) (Nat.zero_le _) rfl
  have HX := Lib.hid hx
  clear hsl hx
  cases ao with
  | none =>
    obtain rfl : c = 0 := hn rfl
    obtain rfl : l = [] := List.eq_nil_of_length_eq_zero (by omega)
    go_enter Tryz.func134, Tryz.ntmps134
    go_wp2_with fail
    go_ret
    exact ⟨w.heap.size, 0, rfl, h00, (Below.refl _ _).alloc (Nat.le_refl _) _⟩
  | some ad =>
    have C1 := Lib.hid (SlI.src (w' := w.alloc (.cells #[] 2)) HS.out ((Keep.refl _ _).alloc _))
    have C2 := Lib.hid (vals_one l)
    have C3 := Lib.hid (show 0 + l.length ≤ maxLen from by have := HL.out; unfold maxLen; omega)
    have C4 := Lib.hid (show (0 + l.length) * 8 ≤ 140737488355328 from by have := HL.out; omega)
    have C5 := Lib.hid (show (vals l).length = l.length * 1 by simp [vals])
    go_enter Tryz.func134, Tryz.ntmps134
    go_wp2_with (at_builtin; refine wpList_append_own _ rfl _ _ 87 rfl w.heap.size 2 i0 (.int .i64 0) 1 8 Tryz.underlying87 hi hz0 hz1 hz2 rfl (by decide) _ _ _ rfl h00 ad l.length c (vals l) rfl C5.out C1.out C2.out C3.out C4.out (by simp) ?_)
    intro v' w1 hown' hgrow hnil
    have hO : Own w.heap.size w1 v' l := by simpa [Own] using hown'
    have hB : Below w.heap.size w w1 := ((Below.refl _ _).alloc (Nat.le_refl _) _).grown hgrow (by simp) (by intro k hk; simp [Value.ownBlock] at hk; omega)
    have hne : v' ≠ .slice none 0 0 := hnil
    clear hown' hgrow hnil
    go_wp2_with fail
    go_ret
    obtain ⟨g, cap, rfl⟩ := hO.head hne
    exact ⟨g, cap, rfl, hO, hB⟩
end Go.Proofs.YtbamkklhkhglnaaGreatDoor.SpecA

import Derived.Test.YtbamkklhkhglnaaGreatDoorOwn
import Derived.Test.YtbamkklhkhglnaaGreatDoorPlainA
import Derived.Laws.AppendOwnNone
namespace Go.Proofs.YtbamkklhkhglnaaGreatDoor.ImplB
open Go.RowKit Go.Proofs.YtbamkklhkhglnaaGreatDoor Go.Proofs.YtbamkklhkhglnaaGreatDoor.Tow
set_option linter.unusedVariables false
set_option linter.unusedSimpArgs false

set_option maxHeartbeats 400000 in
theorem clone_any (S : Nat → Prop) (v : Value) (l : List Int) (w : World) (hv : SlI S w v l) (hl : l.length ≤ 1000000) :
    Calls Tryz.prog 117 #[v] w (NewI l w) := by
  obtain ⟨i0, hi, hz0, hz1, hz2⟩ := info_parts infoI
  obtain ⟨ao, c, rfl, hc, hm, hn, hx⟩ := hv
  have HL := Lib.hid hl
  have HM := Lib.hid hm
  clear hl hm
  have hsl : SlI S w (.slice ao l.length c) l := ⟨ao, c, rfl, hc, HM.out, hn, hx⟩
  have HS := Lib.hid hsl
  have h00 := World.ownsRow_made (base := w.heap.size) (e := 2) (size := 1) w #[] 0 (Nat.le_refl _) (Nat.zero_le _) rfl
  have hen := fun (w : World) (a : Option Addr) (n c n' c' : Nat) => Lib.run_eql_slice_nil (P := Tryz.prog) w 87 2 a n c n' c' Tryz.underlying87
  clear hsl hx
  cases ao with
  | none =>
    obtain rfl : c = 0 := hn rfl
    obtain rfl : l = [] := List.eq_nil_of_length_eq_zero (by omega)
    go_enter Tryz.func117, Tryz.ntmps117
    go_wp2_with fail
    go_ret
    exact ⟨_, rfl, World.ownsRow_nil _ _ _ _, Below.refl _ _⟩
  | some ad =>
    have C1 := Lib.hid (SlI.src (w' := w.alloc (.cells #[] 2)) HS.out ((Keep.refl _ _).alloc _))
    have C2 := Lib.hid (vals_one l)
    have C3 := Lib.hid (show 0 + l.length ≤ maxLen from by have := HL.out; unfold maxLen; omega)
    have C4 := Lib.hid (show (0 + l.length) * 8 ≤ 140737488355328 from by have := HL.out; omega)
    have C5 := Lib.hid (show (vals l).length = l.length * 1 by simp [vals])
    go_enter Tryz.func117, Tryz.ntmps117
    go_wp2_with (at_builtin; refine wpList_append_own _ rfl _ _ 87 rfl w.heap.size 2 i0 (.int .i64 0) 1 8 Tryz.underlying87 hi hz0 hz1 hz2 rfl (by decide) _ _ _ rfl h00 ad l.length c (vals l) rfl C5.out C1.out C2.out C3.out C4.out (by simp) ?_)
    intro v' w1 hown' hgrow hnil
    have hO : Own w.heap.size w1 v' l := by simpa [Own] using hown'
    have hB : Below w.heap.size w w1 := ((Below.refl _ _).alloc (Nat.le_refl _) _).grown hgrow (by simp) (by intro k hk; simp [Value.ownBlock] at hk; omega)
    clear hown' hgrow hnil
    go_wp2_with fail
    go_ret
    exact ⟨_, rfl, hO, hB⟩

theorem grown_trans {a b c : World} {row : Option Nat} (h1 : a.grownBy b row) (h2 : b.grownBy c row) : a.grownBy c row :=
  ⟨h2.os.trans h1.os, h2.tape.trans h1.tape, h2.output.trans h1.output, Nat.le_trans h1.size h2.size, fun k hk hr => (h2.block k (Nat.lt_of_lt_of_le hk h1.size) hr).trans (h1.block k hk hr)⟩
theorem grown_refl (a : World) (row : Option Nat) : a.grownBy a row := ⟨rfl, rfl, rfl, Nat.le_refl _, fun _ _ _ => rfl⟩
theorem grown_below {a b : World} {row : Option Nat} (h : Below a.heap.size a b) : a.grownBy b row := ⟨h.os, h.tape, h.output, h.size, fun k hk _ => h.block k hk⟩
theorem grown_drewN (a : World) (n : Nat) (row : Option Nat) : a.grownBy (a.drewN n) row := ⟨rfl, rfl, rfl, Nat.le_refl _, fun _ _ _ => rfl⟩
theorem keep_grown {S : Nat → Prop} {a b : World} {g : Nat} (h : a.grownBy b (some g)) (hS : ¬ S g) : Keep S a b := Keep.grown h (fun k hk e => hS (by cases e; exact hk))

/-- a row is written in place -/
def InPl (B g cap : Nat) (x : List Nat) (w : World) (e : Ending) (w' : World) : Prop := e = .returned (.tuple #[]) ∧ Own B w' (.slice (some ⟨g, 0, none⟩) x.length cap) (ints x) ∧ w.grownBy w' (some g)

def TvSpec (T : Tw) (s : Nat) : Prop := ∀ (S : Nat → Prop) (w : World) (b o B g cap : Nat) (vf : Value) (u e f : List Nat), PtrP S w b o (ofTw T) → SlI S w vf (ints (pad s f)) → ¬ S g → u.length = s → El (T.drop s) e → El (T.drop s) f →
  Own B w (.slice (some ⟨g, 0, none⟩) T.length cap) (ints (u ++ e)) →
  Calls Tryz.prog 190 #[.pointer (some ⟨b, o, none⟩), .slice (some ⟨g, 0, none⟩) T.length cap, vf] w (InPl B g cap (u ++ mul (T.drop s) e f) w)
def TgSpec (T : Tw) (j : Nat) : Prop := ∀ (S : Nat → Prop) (w : World) (b o B g cap : Nat) (x : List Nat), PtrP S w b o (ofTw T) → ¬ S g → x.length = T.length → El (T.drop j) (x.drop j) →
  Own B w (.slice (some ⟨g, 0, none⟩) T.length cap) (ints x) →
  Calls Tryz.prog 201 #[.pointer (some ⟨b, o, none⟩), .slice (some ⟨g, 0, none⟩) T.length cap, .int .i64 (j : Int)] w (InPl B g cap (x.take j ++ tg (T.drop j) (x.drop j)) w)

set_option maxHeartbeats 2000000 in
theorem tv_of (T : Tw) (hT : Wf T) (hs : Small T) (s : Nat) (hsl : s ≤ T.length) (hg : Tow.Good (T.drop s)) (hTg : ∀ j, s ≤ j → j < T.length → TgSpec T j) : TvSpec T s := by
  intro S w b o B g cap vf u e f hP hf hSg hu he hfE hO
  have hs6 := hs.1
  obtain ⟨aF, cF, rfl, hF1⟩ := hf.open
  have hfl : (pad s f).length = T.length := by rw [pad_length, El_length hfE]; simp; omega
  rw [hfl] at hF1 hf ⊢
  obtain ⟨V, hV⟩ : ∃ V : Nat → Nat → List Nat, V = fun j k => vv T s u e f j k := ⟨_, rfl⟩
  have HVE := Lib.hid (show ∀ j k, El (T.drop s) ((V j k).drop s) ∧ (V j k).length = T.length from fun j k => by rw [hV]; exact ⟨vv_El hT hu he f j k, vv_length hT hsl hu he f j k⟩)
  have HV0 := Lib.hid (show V 0 0 = u ++ e by rw [hV]; exact vv_start T s u e f)
  have HVk := Lib.hid (show ∀ j, j < s → V (j + 1) 0 = V j 0 from fun j hj => by rw [hV]; exact vv_skip T s u e f j hj)
  have HVs := Lib.hid (show ∀ j k, s ≤ j → j < T.length → (V j k).take j ++ tg (T.drop j) ((V j k).drop j) = V j (k + 1) from fun j k h1 h2 => by rw [hV]; exact vv_step hT hg hu he f h1 h2 k)
  have HVn := Lib.hid (show ∀ j a, s ≤ j → j < T.length → f[j - s]? = some a → V j a = V (j + 1) 0 from fun j a h1 h2 h3 => by rw [hV]; exact vv_next h1 h2 h3)
  have HVz := Lib.hid (show V T.length 0 = u ++ mul (T.drop s) e f by rw [hV]; exact vv_end hT hsl hg he hfE)
  have HO := Lib.hid hO
  have HP := Lib.hid hP
  have HF := Lib.hid hf
  have HTG := Lib.hid hTg
  have HSM := Lib.hid hs
  have HFE := Lib.hid hfE
  have HFL := Lib.hid hfl
  have HUL := Lib.hid hu
  clear hO hP hf hTg hV he hfE hs hfl hu
  go_enter Tryz.func190, Tryz.ntmps190
  go_wp2_with fail
  go_loopw [10] (fun j wr => ∃ m : Nat, m ≤ T.length ∧ j = .int .i64 (m : Int) ∧ Own B wr (.slice (some ⟨g, 0, none⟩) T.length cap) (ints (V m 0)) ∧ w.grownBy wr (some g)) (fun j _ => T.length - (intOf j).toNat)
  case atStart => exact ⟨0, Nat.zero_le _, rfl, by rw [HV0.out]; exact HO.out, grown_refl _ _⟩
  case round =>
    obtain ⟨m, hm, rfl, ho, hgr⟩ := hrel
    have HOr := Lib.hid ho
    have HGr := Lib.hid hgr
    clear ho hgr
    by_cases hlt : m < T.length
    · obtain ⟨a, ha⟩ : ∃ a, (pad s f)[m]? = some a := ⟨_, List.getElem?_eq_getElem (by rw [HFL.out]; exact hlt)⟩
      obtain ⟨bF, oF, rfl, hSF, hbF, hcF⟩ := HF.out.at ha
      have ha7 : a < 7 := by
        by_cases hms : m < s
        · rw [pad, List.getElem?_append_left (by simp; omega)] at ha; simp [hms] at ha; omega
        · exact HSM.out.lt (s := s) (x := pad s f) (by rw [pad_drop]; exact HFE.out) (by omega) ha
      have hk := keep_grown HGr.out hSg
      have hcF2 : wr.cell? ⟨bF, oF + m, none⟩ = some (.int .i64 (a : Int)) := by rw [hk.cell hSF hbF]; exact hcF
      have HA := Lib.hid ha
      clear ha hcF hk
      go_wp2_with fail
      go_loopw [16] (fun k wi => ∃ q : Nat, q ≤ a ∧ k = .int .i64 (q : Int) ∧ Own B wi (.slice (some ⟨g, 0, none⟩) T.length cap) (ints (V m q)) ∧ w.grownBy wi (some g)) (fun k _ => a - (intOf k).toNat)
      case atStart => exact ⟨0, Nat.zero_le _, rfl, HOr.out, HGr.out⟩
      case round =>
        clear HOr HGr
        obtain ⟨q, hq, rfl, ho, hgr⟩ := hrel
        have HOr := Lib.hid ho
        have HGr := Lib.hid hgr
        clear ho hgr
        by_cases hqa : q < a
        · have hsm : s ≤ m := by
            apply Nat.le_of_not_lt; intro hms
            have ha := HA.out
            rw [pad, List.getElem?_append_left (by simp; omega)] at ha; simp [hms] at ha; omega
          go_wp2_with fail
          refine (HTG.out m hsm hlt S _ b o B g cap (V m q) (HP.out.keep (keep_grown HGr.out hSg)) hSg (HVE.out m q).2 (by have := El_drop (HVE.out m q).1 (m - s); rwa [List.drop_drop, List.drop_drop, Nat.add_sub_cancel' hsm] at this) HOr.out).mono ?_
          rintro e' w5 ⟨rfl, ho5, hg5⟩
          rw [HVs.out m q hsm hlt] at ho5
          rw [show (V m (q + 1)).length = T.length from (HVE.out m (q + 1)).2] at ho5
          have HO5 := Lib.hid ho5
          have HG5 := Lib.hid (grown_trans HGr.out hg5)
          clear ho5 hg5
          go_wp2_with fail
          go_roundw
          case rel => exact ⟨q + 1, by omega, by go_num, HO5.out, HG5.out⟩
          case measure => simp [intOf]; omega
        · obtain rfl : q = a := by omega
          have HN := Lib.hid (show V m q = V (m + 1) 0 from by
            by_cases hms : m < s
            · have ha := HA.out
              rw [pad, List.getElem?_append_left (by simp; omega)] at ha; simp [hms] at ha
              rw [← ha, HVk.out m hms]
            · exact HVn.out m q (by omega) hlt (by have ha := HA.out; rw [pad, List.getElem?_append_right (by simp; omega)] at ha; simpa using ha))
          go_wp2_with fail
          go_roundw
          case rel => exact ⟨m + 1, by omega, by go_num, by rw [← HN.out]; exact HOr.out, HGr.out⟩
          case measure => simp [intOf]; omega
    · obtain rfl : m = T.length := by omega
      go_wp2_with fail
      go_end0
      exact ⟨rfl, by rw [← HVz.out]; have h1 := HOr.out; rw [show (V T.length 0).length = T.length from (HVE.out _ 0).2]; exact h1, HGr.out⟩
end Go.Proofs.YtbamkklhkhglnaaGreatDoor.ImplB

import Derived.Test.YtabkibmnghbahaaGreatSpecF
import Derived.Test.YtabkibmnghbahaaGreatSpecVW
import Derived.Test.YtabkibmnghbahaaGreatPlainA
import Derived.Test.YtabkibmnghbahaaGreatSpecN
namespace Go.Proofs.YtabkibmnghbahaaGreat.SpecG
open Go.RowKit Go.Proofs.YtabkibmnghbahaaGreat Go.Proofs.YtabkibmnghbahaaGreat.Tow Go.Proofs.YtabkibmnghbahaaGreat.Val Go.Proofs.YtabkibmnghbahaaGreat.SpecF
set_option linter.unusedVariables false
set_option linter.unusedSimpArgs false

abbrev Any : Nat → Prop := fun _ => True

set_option maxHeartbeats 2000000 in
theorem fault_any (T : Tw) (hT : Wf T) (hs : Small T) (w : World) (vO vP vC : Value) (hP : ValP Any w vO vP vC (ofTw T)) :
    Calls Tryz.prog 113 #[.agg #[vO, vP, vC]] w (LvRes (Tow.Good T) w) := by
  have hs6 := hs.1
  obtain ⟨aO, cO, aP, cP, aC, cC, rfl, rfl, rfl, hO1, hP1, hC1⟩ := hP.open
  have HP := Lib.hid hP
  have HLV := Lib.hid (fun i L hL hg W hP => level_any T hT hs i L hL hg W (.slice aO T.length cO) (.slice aP T.length cP) (.slice aC T.length cC) hP)
  clear hP
  go_enter Tryz.func113, Tryz.ntmps113
  go_wp2_with fail
  go_loopw [3] (fun iv wr => ∃ k : Nat, k ≤ T.length ∧ iv = .int .i64 ((k : Int) - 1) ∧ Hid (Tow.Good (T.drop k)) ∧ Below (w.heap.size + 2) ((w.alloc (.cells #[.slice aO T.length cO, .slice aP T.length cP, .slice aC T.length cC] 30)).alloc (.cells #[.int .i64 0, .int .i64 0, .int .i64 0, .int .i64 0] 121)) wr) (fun iv _ => (intOf iv + 1).toNat)
  case atStart => exact ⟨T.length, Nat.le_refl _, rfl, Lib.hid (by rw [List.drop_length]; trivial), Below.refl _ _⟩
  case round =>
    obtain ⟨k, hk, rfl, hg, hb⟩ := hrel
    obtain ⟨⟨e0, e1, e2⟩, hf, hkk, hbw, hsz⟩ := box2 hb
    have HB := Lib.hid hb
    have HK := Lib.hid hkk
    have HBW := Lib.hid hbw
    have f0 := cell_of_row _ (w.heap.size + 1) 0 _ _ (0, 0) hf
    have f1 := cell_of_row _ (w.heap.size + 1) 1 _ _ (0, 0) hf
    have f2 := cell_of_row _ (w.heap.size + 1) 2 _ _ (0, 0) hf
    have f3 := cell_of_row _ (w.heap.size + 1) 3 _ _ (0, 0) hf
    have z0 := frozen_of_row _ (w.heap.size + 1) 0 _ _ hf
    have z1 := frozen_of_row _ (w.heap.size + 1) 1 _ _ hf
    have z2 := frozen_of_row _ (w.heap.size + 1) 2 _ _ hf
    have z3 := frozen_of_row _ (w.heap.size + 1) 3 _ _ hf
    simp at f0 f1 f2 f3
    clear hb hkk hbw hf
    by_cases h0 : k = 0
    · subst h0
      have hd : decide (((0 : Nat) : Int) - 1 ≥ 0) = false := by decide
      go_wp2_with fail
      exact bodyPost_ret (v := .agg #[.int .i64 0, .int .i64 0, .int .i64 0, .int .i64 0]) (by simp [results, Tryz.results113, go_sem, f0, f1, f2, f3]) rfl
        ⟨0, _, _, _, rfl, ⟨fun _ => hg.out, fun _ => rfl⟩, (((HBW.out.setCell (by simp) _).setCell (by simp) _).setCell (by simp) _).setCell (by simp) _⟩
    · obtain ⟨i, rfl⟩ : ∃ i, k = i + 1 := ⟨k - 1, by omega⟩
      obtain ⟨L, hL⟩ : ∃ L, T[i]? = some L := ⟨_, List.getElem?_eq_getElem (by omega)⟩
      have HL := Lib.hid hL
      have HIF := Lib.hid (show Tow.Good (T.drop i) ↔ LvOk L (T.drop (i + 1)) from by
        rw [drop_cons' hL, Good_cons]
        exact ⟨fun h => h.2, fun h => ⟨hg.out, h⟩⟩)
      have hii : (((i + 1 : Nat) : Int) - 1) = (i : Int) := by omega
      rw [hii]
      clear hL h0 hii
      go_wp2_with fail
      refine (HLV.out i L HL.out hg.out _ (HP.out.keep HK.out)).mono ?_
      rintro e w1 ⟨k, l, a, b, rfl, hif, hbel⟩
      have HIF1 := Lib.hid hif
      have HB1 := Lib.hid (HB.out.trans (hbel.mono hsz))
      clear hbel f0 f1 f2 f3 z0 z1 z2 z3 e0 e1 e2 hif
      have hsz1 : w.heap.size + 2 ≤ w1.heap.size := (box2 HB1.out).2.2.2.2
      by_cases hk0 : k = 0
      · subst hk0
        have HGI := Lib.hid (HIF.out.2 (HIF1.out.1 rfl))
        go_wp2_with fail
        go_roundw
        case rel => exact ⟨i, by omega, rfl, HGI, (HB1.out.alloc (by omega) _)⟩
        case measure => simp [intOf] <;> omega
      · have hkn : (k != 0) = true := by simpa using hk0
        have HN := Lib.hid (show ¬ Tow.Good T from fun h => hk0 (HIF1.out.2 (HIF.out.1 (Good_drop h i))))
        have HK0 := Lib.hid hk0
        clear hk0
        obtain ⟨⟨e0, e1, e2⟩, hf, hkk, hbw, hsz⟩ := box2 HB1.out
        have f0 := cell_of_row _ (w.heap.size + 1) 0 _ _ (0, 0) hf
        have f1 := cell_of_row _ (w.heap.size + 1) 1 _ _ (0, 0) hf
        have f2 := cell_of_row _ (w.heap.size + 1) 2 _ _ (0, 0) hf
        have f3 := cell_of_row _ (w.heap.size + 1) 3 _ _ (0, 0) hf
        have z0 := frozen_of_row _ (w.heap.size + 1) 0 _ _ hf
        have z1 := frozen_of_row _ (w.heap.size + 1) 1 _ _ hf
        have z2 := frozen_of_row _ (w.heap.size + 1) 2 _ _ hf
        have z3 := frozen_of_row _ (w.heap.size + 1) 3 _ _ hf
        simp at f0 f1 f2 f3
        have HBW1 := Lib.hid hbw
        have hlt1 : w.heap.size + 1 < w1.heap.size := by omega
        clear hf hkk hbw
        go_wp2_with fail
        exact bodyPost_ret (v := .agg #[.int .i64 k, .int .i64 l, .int .i64 a, .int .i64 b]) (by simp [results, Tryz.results113, go_sem, f0, f1, f2, f3, hlt1]) rfl
          ⟨k, _, _, _, rfl, ⟨fun h => absurd h HK0.out, fun h => absurd h HN.out⟩, ((((HBW1.out.setCell (by simp) _).setCell (by simp) _).setCell (by simp) _).setCell (by simp) _).alloc (by simp; omega) _⟩
end Go.Proofs.YtabkibmnghbahaaGreat.SpecG

namespace Go.Proofs.YtabkibmnghbahaaGreat.SpecH
open Go.RowKit Go.Proofs.YtabkibmnghbahaaGreat Go.Proofs.YtabkibmnghbahaaGreat.Tow Go.Proofs.YtabkibmnghbahaaGreat.Val Go.Proofs.YtabkibmnghbahaaGreat.SpecF Go.Proofs.YtabkibmnghbahaaGreat.ImplW Go.Proofs.YtabkibmnghbahaaGreat.Grps
set_option linter.unusedVariables false
set_option linter.unusedSimpArgs false

set_option maxRecDepth 100000 in
set_option maxHeartbeats 1000000 in
theorem consistent_any (T : Tw) (hT : Wf T) (hs : Small T) (w : World) (vO vP vC : Value) (hP : ValP (fun _ => True) w vO vP vC (ofTw T)) :
    Calls Tryz.prog 72 #[.agg #[vO, vP, vC]] w (ExB (Tow.Good T) w) := by
  have HP := Lib.hid hP
  have HF := Lib.hid (fun W hP => SpecG.fault_any T hT hs W vO vP vC hP)
  clear hP hs hT
  go_enter Tryz.func72, Tryz.ntmps72
  go_wp2_with fail
  have HB : Hid (Below w.heap.size w (w.alloc (.cells #[vO, vP, vC] 30))) := Lib.hid ((Below.refl _ _).alloc (by simp) _)
  refine (HF.out _ (HP.out.keep (Keep.of_below HB.out))).mono ?_
  rintro e w1 ⟨k, l, a, b, rfl, hif, hbel⟩
  have HBW := Lib.hid (HB.out.trans (hbel.mono (by simp)))
  have HIF := Lib.hid hif
  have hfd : ∀ w : World, (Instr.field 121 (.agg #[.int .i64 k, .int .i64 l, .int .i64 a, .int .i64 b]) 0).run Tryz.prog w = .ok (.int .i64 k) w := fun _ => by kernel_rfl
  clear hbel hif
  by_cases hk : k = 0
  · subst hk
    have HY := Lib.hid (HIF.out.1 rfl)
    go_wp2_with fail
    go_ret
    exact ExB_true HY.out HBW.out
  · have hd : (k == 0) = false := by simpa using hk
    have HN := Lib.hid (show ¬ Tow.Good T from fun h => hk (HIF.out.2 h))
    clear hk
    go_wp2_with fail
    go_ret
    exact ExB_false HN.out HBW.out

set_option maxHeartbeats 1000000 in
theorem group_any (w : World) (vO vP vC : Value) (P : Pres) (hP : ValP (fun _ => True) w vO vP vC P) :
    Calls Tryz.prog 40 #[.agg #[vO, vP, vC]] w (ExB (Grp P) w) := by
  have HP := Lib.hid hP
  have HV := Lib.hid (fun W h => SpecW.isPres_any W vO vP vC P h)
  have HC := Lib.hid (fun T (hT : Wf T) (hs : Small T) W h => consistent_any T hT hs W vO vP vC h)
  clear hP
  have HB : Hid (Below w.heap.size w (w.alloc (.cells #[vO, vP, vC] 30))) := Lib.hid ((Below.refl _ _).alloc (by simp) _)
  by_cases hv : Valid P
  · obtain ⟨T, hT, hs, rfl⟩ := hv.tower
    have HVA := Lib.hid hv
    have HT := Lib.hid hT
    have HS := Lib.hid hs
    clear hv hT hs
    by_cases hg : Tow.Good T
    · have HG := Lib.hid hg
      clear hg
      go_enter Tryz.func40, Tryz.ntmps40
      go_wp2_with fail
      refine (HV.out _ (HP.out.keep (Keep.of_below HB.out))).mono ?_
      rintro e w1 ⟨r, rfl, hr, hb1⟩
      obtain rfl := hr.2 HVA.out
      obtain ⟨e0, e1, e2⟩ := box_cells (((Below.refl _ _).trans (hb1.mono (by simp))))
      have HB1 := Lib.hid (HB.out.trans (hb1.mono (by simp)))
      clear hb1 hr
      go_wp2_with (go_at_call 72; refine (HC.out T HT.out HS.out _ (HP.out.keep (Keep.of_below HB1.out))).mono ?_; rintro e w2 ⟨r, rfl, hr, hb2⟩; obtain rfl := hr.2 HG.out; replace hb2 := Lib.hid hb2)
      go_ret
      exact ExB_true ⟨T, HT.out, HS.out, rfl, HVA.out, HG.out⟩ (HB1.out.trans (hb2.out.mono HB1.out.size))
    · have HG := Lib.hid hg
      clear hg
      have HNG : Hid (¬ Grp (ofTw T)) := Lib.hid (fun h => HG.out h.good)
      go_enter Tryz.func40, Tryz.ntmps40
      go_wp2_with fail
      refine (HV.out _ (HP.out.keep (Keep.of_below HB.out))).mono ?_
      rintro e w1 ⟨r, rfl, hr, hb1⟩
      obtain rfl := hr.2 HVA.out
      obtain ⟨e0, e1, e2⟩ := box_cells (((Below.refl _ _).trans (hb1.mono (by simp))))
      have HB1 := Lib.hid (HB.out.trans (hb1.mono (by simp)))
      clear hb1 hr
      go_wp2_with (go_at_call 72; refine (HC.out T HT.out HS.out _ (HP.out.keep (Keep.of_below HB1.out))).mono ?_; rintro e w2 ⟨r, rfl, hr, hb2⟩; obtain rfl := (Bool.eq_false_iff.2 (fun h => HG.out (hr.1 h))); replace hb2 := Lib.hid hb2)
      go_ret
      exact ExB_false HNG.out (HB1.out.trans (hb2.out.mono HB1.out.size))
  · have HN := Lib.hid hv
    have HNG : Hid (¬ Grp P) := Lib.hid (by rintro ⟨T', _, _, _, h, _⟩; exact HN.out h)
    clear hv
    go_enter Tryz.func40, Tryz.ntmps40
    go_wp2_with fail
    refine (HV.out _ (HP.out.keep (Keep.of_below HB.out))).mono ?_
    rintro e w1 ⟨r, rfl, hr, hb1⟩
    obtain rfl := (Bool.eq_false_iff.2 (fun h => HN.out (hr.1 h)))
    have HB1 := Lib.hid (HB.out.trans (hb1.mono (by simp)))
    clear hb1 hr
    go_wp2_with fail
    go_ret
    exact ExB_false HNG.out HB1.out
end Go.Proofs.YtabkibmnghbahaaGreat.SpecH

import Derived.Test.YtbamkklhkhglnaaGreatDoorSpecF
import Derived.Test.YtbamkklhkhglnaaGreatDoorSpecVW
import Derived.Test.YtbamkklhkhglnaaGreatDoorPlainA
import Derived.Test.YtbamkklhkhglnaaGreatDoorLbY
import Derived.Test.YtbamkklhkhglnaaGreatDoorLbX
import Derived.Test.YtbamkklhkhglnaaGreatDoorNumD
import Derived.Deep.Slices
import Derived.Deep.Strs
import Derived.ChangeSlices
import Derived.Lib.SmallJoins
namespace Go.Proofs.YtbamkklhkhglnaaGreatDoor.SpecG
open Go.RowKit Go.Proofs.YtbamkklhkhglnaaGreatDoor Go.Proofs.YtbamkklhkhglnaaGreatDoor.Tow Go.Proofs.YtbamkklhkhglnaaGreatDoor.Val Go.Proofs.YtbamkklhkhglnaaGreatDoor.SpecF
set_option linter.unusedVariables false
set_option linter.unusedSimpArgs false

abbrev Any : Nat → Prop := fun _ => True

set_option maxHeartbeats 2000000 in
theorem fault_any (T : Tw) (hT : Wf T) (hs : Small T) (w : World) (vO vP vC : Value) (hP : ValP Any w vO vP vC (ofTw T)) :
    Calls Tryz.prog 110 #[.agg #[vO, vP, vC]] w (LvRes (Tow.Good T) w) := by
  have hs6 := hs.1
  obtain ⟨aO, cO, aP, cP, aC, cC, rfl, rfl, rfl, hO1, hP1, hC1⟩ := hP.open
  have HP := Lib.hid hP
  have HLV := Lib.hid (fun i L hL hg W hP => level_any T hT hs i L hL hg W (.slice aO T.length cO) (.slice aP T.length cP) (.slice aC T.length cC) hP)
  clear hP
  go_enter Tryz.func110, Tryz.ntmps110
  go_wp2_with fail
  go_loopw [3] (fun iv wr => ∃ k : Nat, k ≤ T.length ∧ iv = .int .i64 ((k : Int) - 1) ∧ Hid (Tow.Good (T.drop k)) ∧ Below (w.heap.size + 2) ((w.alloc (.cells #[.slice aO T.length cO, .slice aP T.length cP, .slice aC T.length cC] 91)).alloc (.cells #[.int .i64 0, .int .i64 0, .int .i64 0, .int .i64 0] 154)) wr) (fun iv _ => (intOf iv + 1).toNat)
  case atStart => exact ⟨T.length, Nat.le_refl _, rfl, Lib.hid (by rw [List.drop_length]; trivial), Below.refl _ _⟩
  case round =>
    obtain ⟨k, hk, rfl, hg, hb⟩ := hrel
    obtain ⟨⟨e0, e1, e2⟩, hf, hkk, hbw, hsz⟩ := box2 hb
    have HB := Lib.hid hb
    have HK := Lib.hid hkk
    have HBW := Lib.hid hbw
    have f0 := cell_of_row _ (w.heap.size + 1) 0 _ _ (0, 0) hf
    have f1 := cell_of_row _ (w.heap.size + 1) 1 _ _ (0, 0) hf
    have f2 := cell_of_row _ (w.heap.size + 1) 2 _ _ (0, 0) hf
    have f3 := cell_of_row _ (w.heap.size + 1) 3 _ _ (0, 0) hf
    have z0 := frozen_of_row _ (w.heap.size + 1) 0 _ _ hf
    have z1 := frozen_of_row _ (w.heap.size + 1) 1 _ _ hf
    have z2 := frozen_of_row _ (w.heap.size + 1) 2 _ _ hf
    have z3 := frozen_of_row _ (w.heap.size + 1) 3 _ _ hf
    simp at f0 f1 f2 f3
    clear hb hkk hbw hf
    by_cases h0 : k = 0
    · subst h0
      have hd : decide (((0 : Nat) : Int) - 1 ≥ 0) = false := by decide
      go_wp2_with fail
      exact bodyPost_ret (v := .agg #[.int .i64 0, .int .i64 0, .int .i64 0, .int .i64 0]) (by simp [results, Tryz.results110, go_sem, f0, f1, f2, f3]) rfl
        ⟨0, _, _, _, rfl, ⟨fun _ => hg.out, fun _ => rfl⟩, (((HBW.out.setCell (by simp) _).setCell (by simp) _).setCell (by simp) _).setCell (by simp) _⟩
    · obtain ⟨i, rfl⟩ : ∃ i, k = i + 1 := ⟨k - 1, by omega⟩
      obtain ⟨L, hL⟩ : ∃ L, T[i]? = some L := ⟨_, List.getElem?_eq_getElem (by omega)⟩
      have HL := Lib.hid hL
      have HIF := Lib.hid (show Tow.Good (T.drop i) ↔ LvOk L (T.drop (i + 1)) from by
        rw [drop_cons' hL, Good_cons]
        exact ⟨fun h => h.2, fun h => ⟨hg.out, h⟩⟩)
      have hii : (((i + 1 : Nat) : Int) - 1) = (i : Int) := by omega
      rw [hii]
      clear hL h0 hii
      go_wp2_with fail
      refine (HLV.out i L HL.out hg.out _ (HP.out.keep HK.out)).mono ?_
      rintro e w1 ⟨k, l, a, b, rfl, hif, hbel⟩
      have HIF1 := Lib.hid hif
      have HB1 := Lib.hid (HB.out.trans (hbel.mono hsz))
      clear hbel f0 f1 f2 f3 z0 z1 z2 z3 e0 e1 e2 hif
      have hsz1 : w.heap.size + 2 ≤ w1.heap.size := (box2 HB1.out).2.2.2.2
      by_cases hk0 : k = 0
      · subst hk0
        have HGI := Lib.hid (HIF.out.2 (HIF1.out.1 rfl))
        go_wp2_with fail
        go_roundw
        case rel => exact ⟨i, by omega, rfl, HGI, (HB1.out.alloc (by omega) _)⟩
        case measure => simp [intOf] <;> omega
      · have hkn : (k != 0) = true := by simpa using hk0
        have HN := Lib.hid (show ¬ Tow.Good T from fun h => hk0 (HIF1.out.2 (HIF.out.1 (Good_drop h i))))
        have HK0 := Lib.hid hk0
        clear hk0
        obtain ⟨⟨e0, e1, e2⟩, hf, hkk, hbw, hsz⟩ := box2 HB1.out
        have f0 := cell_of_row _ (w.heap.size + 1) 0 _ _ (0, 0) hf
        have f1 := cell_of_row _ (w.heap.size + 1) 1 _ _ (0, 0) hf
        have f2 := cell_of_row _ (w.heap.size + 1) 2 _ _ (0, 0) hf
        have f3 := cell_of_row _ (w.heap.size + 1) 3 _ _ (0, 0) hf
        have z0 := frozen_of_row _ (w.heap.size + 1) 0 _ _ hf
        have z1 := frozen_of_row _ (w.heap.size + 1) 1 _ _ hf
        have z2 := frozen_of_row _ (w.heap.size + 1) 2 _ _ hf
        have z3 := frozen_of_row _ (w.heap.size + 1) 3 _ _ hf
        simp at f0 f1 f2 f3
        have HBW1 := Lib.hid hbw
        have hlt1 : w.heap.size + 1 < w1.heap.size := by omega
        clear hf hkk hbw
        go_wp2_with fail
        exact bodyPost_ret (v := .agg #[.int .i64 k, .int .i64 l, .int .i64 a, .int .i64 b]) (by simp [results, Tryz.results110, go_sem, f0, f1, f2, f3, hlt1]) rfl
          ⟨k, _, _, _, rfl, ⟨fun h => absurd h HK0.out, fun h => absurd h HN.out⟩, ((((HBW1.out.setCell (by simp) _).setCell (by simp) _).setCell (by simp) _).setCell (by simp) _).alloc (by simp; omega) _⟩
end Go.Proofs.YtbamkklhkhglnaaGreatDoor.SpecG

namespace Go.Proofs.YtbamkklhkhglnaaGreatDoor.SpecH
open Go.RowKit Go.Proofs.YtbamkklhkhglnaaGreatDoor Go.Proofs.YtbamkklhkhglnaaGreatDoor.Tow Go.Proofs.YtbamkklhkhglnaaGreatDoor.Val Go.Proofs.YtbamkklhkhglnaaGreatDoor.SpecF Go.Proofs.YtbamkklhkhglnaaGreatDoor.ImplW Go.Proofs.YtbamkklhkhglnaaGreatDoor.Grps
set_option linter.unusedVariables false
set_option linter.unusedSimpArgs false

set_option maxRecDepth 100000 in
set_option maxHeartbeats 1000000 in
theorem consistent_any (T : Tw) (hT : Wf T) (hs : Small T) (w : World) (vO vP vC : Value) (hP : ValP (fun _ => True) w vO vP vC (ofTw T)) :
    Calls Tryz.prog 86 #[.agg #[vO, vP, vC]] w (ExB (Tow.Good T) w) := by
  have HP := Lib.hid hP
  have HF := Lib.hid (fun W hP => SpecG.fault_any T hT hs W vO vP vC hP)
  clear hP hs hT
  go_enter Tryz.func86, Tryz.ntmps86
  go_wp2_with fail
  have HB : Hid (Below w.heap.size w (w.alloc (.cells #[vO, vP, vC] 91))) := Lib.hid ((Below.refl _ _).alloc (by simp) _)
  refine (HF.out _ (HP.out.keep (Keep.of_below HB.out))).mono ?_
  rintro e w1 ⟨k, l, a, b, rfl, hif, hbel⟩
  have HBW := Lib.hid (HB.out.trans (hbel.mono (by simp)))
  have HIF := Lib.hid hif
  have hfd : ∀ w : World, (Instr.field 154 (.agg #[.int .i64 k, .int .i64 l, .int .i64 a, .int .i64 b]) 0).run Tryz.prog w = .ok (.int .i64 k) w := fun _ => by kernel_rfl
  clear hbel hif
  by_cases hk : k = 0
  · subst hk
    have HY := Lib.hid (HIF.out.1 rfl)
    go_wp2_with fail
    go_ret
    exact ExB_true HY.out HBW.out
  · have hd : (k == 0) = false := by simpa using hk
    have HN := Lib.hid (show ¬ Tow.Good T from fun h => hk (HIF.out.2 h))
    clear hk
    go_wp2_with fail
    go_ret
    exact ExB_false HN.out HBW.out

end Go.Proofs.YtbamkklhkhglnaaGreatDoor.SpecH

/-
  spec.l36Presentation: is a text that of a consistent presentation?
-/
namespace Go.Proofs.YtbamkklhkhglnaaGreatDoor.LbH
open Go.RowKit Go.Lib Go.Proofs.YtbamkklhkhglnaaGreatDoor Go.Proofs.YtbamkklhkhglnaaGreatDoor.Tow Go.Proofs.YtbamkklhkhglnaaGreatDoor.CyA Go.Proofs.YtbamkklhkhglnaaGreatDoor.LbE Go.Proofs.YtbamkklhkhglnaaGreatDoor.TmA Go.Proofs.YtbamkklhkhglnaaGreatDoor.TrA Go.Proofs.YtbamkklhkhglnaaGreatDoor.TrB Go.Proofs.YtbamkklhkhglnaaGreatDoor.TsG Go.Proofs.YtbamkklhkhglnaaGreatDoor.TxA Go.Proofs.YtbamkklhkhglnaaGreatDoor.TxB Go.Proofs.YtbamkklhkhglnaaGreatDoor.TxC Go.Proofs.YtbamkklhkhglnaaGreatDoor.Val Go.Proofs.YtbamkklhkhglnaaGreatDoor.Grps Go.Proofs.YtbamkklhkhglnaaGreatDoor.ImplW
open Go.Proofs.YtbamkklhkhglnaaGreatDoor.DwB (row3f put3)
set_option linter.unusedVariables false
set_option linter.unusedSimpArgs false

set_option maxRecDepth 100000 in
set_option maxHeartbeats 2000000 in
theorem spGT_any (s : ByteArray) (hs : s.size ≤ 100000000) (w : World) :
    Calls Tryz.prog 62 #[.string s] w (ExB (GrpT s.data.toList) w) := by
  have HR := Lib.hid (fun W => parse_any s hs W)
  go_enter Tryz.func62, Tryz.ntmps62
  go_upto_region 2 with (first | (go_at_call 85; refine (HR.out _).mono ?_; rintro e w1 ⟨vO, vP, vC, b, rfl, hrd, hb1⟩; obtain ⟨a1, n1, c1, a2, n2, c2, a3, n3, c3, rfl, rfl, rfl⟩ := rdn_form hrd) | fail)
  obtain ⟨w2, hw2⟩ : ∃ w2, w1.alloc (.cells #[.slice a1 n1 c1, .slice a2 n2 c2, .slice a3 n3 c3] 91) = w2 := ⟨_, rfl⟩
  obtain ⟨g, hg⟩ : ∃ g, w1.heap.size = g := ⟨_, rfl⟩
  rw [hw2, hg]
  have hB2 : Below w.heap.size w w2 := by rw [← hw2]; exact hb1.alloc hb1.size _
  have hrow : w2.heap[g]? = some (.cells #[.slice a1 n1 c1, .slice a2 n2 c2, .slice a3 n3 c3] 91 (0, 0)) := by rw [← hw2, ← hg]; exact World.alloc_heap_new w1 _
  obtain ⟨⟨d0, d1, d2⟩, -⟩ := row3f hrow
  have hgl := (Array.getElem?_eq_some_iff.1 hrow).1
  cases b with
  | false =>
    have HN := Lib.hid (show ¬ GrpT s.data.toList from fun ⟨p, h1, _, h2⟩ => by
      rcases hrd.1 with ⟨h, _⟩ | ⟨_, h⟩
      · exact absurd h (by simp)
      · exact h ⟨p, h1, h2⟩)
    clear hrd hw2 hg hrow
    go_wp2_with fail
    go_ret
    exact ExB_false HN.out hB2
  | true =>
    obtain ⟨p, hp, ht, hpp⟩ : ∃ p, Vl p ∧ txt p = s.data.toList ∧ PP w.heap.size w1 (.slice a1 n1 c1) (.slice a2 n2 c2) (.slice a3 n3 c3) p := by
      rcases hrd.1 with ⟨_, h⟩ | ⟨h, _⟩
      · exact h
      · exact absurd h (by simp)
    have hI : GrpT s.data.toList ↔ Grp p.val := ⟨fun ⟨q, h1, h2, h3⟩ => by rw [txt_inj hp h1 (ht.trans h3.symm)]; exact h2, fun h => ⟨p, hp, h, ht⟩⟩
    have hV : ValP Any w2 (.slice a1 n1 c1) (.slice a2 n2 c2) (.slice a3 n3 c3) p.val := by rw [← hw2]; exact (hpp.val.mono (S' := Any) fun _ _ => trivial).keep ((Keep.refl _ w1).alloc _)
    have hvl : Valid p.val := hp
    obtain ⟨T, hT, hsm, hpT⟩ := hvl.tower
    have HI := Lib.hid (show GrpT s.data.toList ↔ Tow.Good T from hI.trans ⟨fun h => by rw [hpT] at h; exact h.good, fun h => by rw [hpT]; exact ⟨T, hT, hsm, rfl, by rw [← hpT]; exact hvl, h⟩⟩)
    rw [hpT] at hV
    have HG := Lib.hid (SpecH.consistent_any T hT hsm w2 _ _ _ (hV.mono (S' := fun _ => True) fun _ _ => trivial))
    clear hrd hw2 hg hrow hpp hI hV hvl hT hsm hpT
    go_wp2_with (go_at_call 86; refine HG.out.mono ?_; rintro e w3 ⟨r, rfl, hr, hb3⟩)
    go_ret
    exact ⟨r, rfl, hr.trans HI.out.symm, hB2.trans (hb3.mono hB2.size)⟩
end Go.Proofs.YtbamkklhkhglnaaGreatDoor.LbH

/-
  spec.l36Node: how many operands a node has.
-/
namespace Go.Proofs.YtbamkklhkhglnaaGreatDoor.LbJ
open Go.RowKit Go.Lib Go.Proofs.YtbamkklhkhglnaaGreatDoor Go.Proofs.YtbamkklhkhglnaaGreatDoor.Tow Go.Proofs.YtbamkklhkhglnaaGreatDoor.CyA Go.Proofs.YtbamkklhkhglnaaGreatDoor.LbC Go.Proofs.YtbamkklhkhglnaaGreatDoor.LbP Go.Proofs.YtbamkklhkhglnaaGreatDoor.LbD Go.Proofs.YtbamkklhkhglnaaGreatDoor.LbE Go.Proofs.YtbamkklhkhglnaaGreatDoor.LbF Go.Proofs.YtbamkklhkhglnaaGreatDoor.LbG Go.Proofs.YtbamkklhkhglnaaGreatDoor.LbH Go.Proofs.YtbamkklhkhglnaaGreatDoor.LbN Go.Proofs.YtbamkklhkhglnaaGreatDoor.TmA Go.Proofs.YtbamkklhkhglnaaGreatDoor.TrA Go.Proofs.YtbamkklhkhglnaaGreatDoor.TrB Go.Proofs.YtbamkklhkhglnaaGreatDoor.TxA Go.Proofs.YtbamkklhkhglnaaGreatDoor.TxB Go.Proofs.YtbamkklhkhglnaaGreatDoor.TxC Go.Proofs.YtbamkklhkhglnaaGreatDoor.Val Go.Proofs.YtbamkklhkhglnaaGreatDoor.Grps Go.Proofs.YtbamkklhkhglnaaGreatDoor.ImplW
open Go.Proofs.YtbamkklhkhglnaaGreatDoor.DwB (row3f put3)
set_option linter.unusedVariables false
set_option linter.unusedSimpArgs false

set_option maxRecDepth 100000 in
set_option maxHeartbeats 8000000 in
theorem ops_any (k : Int) (tx mk : ByteArray) (hs : tx.size ≤ 100000000) (w : World) :
    Calls Tryz.prog 49 #[.agg #[.int .i64 k, .string tx, .string mk]] w (OpR k tx.data.toList mk.data.toList w) := by
  have HPL := Lib.hid (fun W => pl_any tx W)
  have HGT := Lib.hid (fun W => spGT_any tx hs W)
  have HLT := Lib.hid (fun W => slet_any tx W)
  have HMK := Lib.hid (fun W => smk_any mk W)
  obtain ⟨g0, hg0⟩ : ∃ g0, w.heap.size = g0 := ⟨_, rfl⟩
  obtain ⟨w1, hw1⟩ : ∃ w1, w1 = w.alloc (.cells #[.int .i64 k, .string tx, .string mk] 63) := ⟨_, rfl⟩
  have HB1 := Lib.hid (show Below w.heap.size w w1 by rw [hw1]; exact (Below.refl _ _).alloc (Nat.le_refl _) _)
  have HC := Lib.hid (fun (W : World) (hb : Below w1.heap.size w1 W) => show g0 < W.heap.size ∧ W.cell? ⟨g0, 0, none⟩ = some (.int .i64 k) ∧ W.cell? ⟨g0, 1, none⟩ = some (.string tx) ∧ W.cell? ⟨g0, 2, none⟩ = some (.string mk) from by
    have e : w1.heap[g0]? = some (.cells #[.int .i64 k, .string tx, .string mk] 63 (0, 0)) := by rw [hw1, ← hg0]; exact heap_alloc_new _ _
    have hl := (Array.getElem?_eq_some_iff.1 e).1
    exact ⟨Nat.lt_of_lt_of_le hl hb.size, (row3f ((hb.block g0 hl).trans e)).1⟩)
  have HM0 := Lib.hid (show (mk.toList == []) = decide (mk.data.toList = []) from by rw [toList_data, Bool.eq_iff_iff]; simp)
  have HT0 := Lib.hid (show (tx.toList == []) = decide (tx.data.toList = []) from by rw [toList_data, Bool.eq_iff_iff]; simp)
  generalize tx.data.toList = t at *
  generalize mk.data.toList = mm at *
  obtain ⟨hgl, q0, q1, q2⟩ := HC.out w1 (Below.refl _ _)
  go_enter Tryz.func49, Tryz.ntmps49
  go_upto_region 1 with fail
  rw [← hw1]
  clear hw1 hg0
  by_cases e0 : k = 0
  · subst e0
    by_cases h1 : (rowN t).isSome = true
    · have HX := Lib.hid h1
      clear h1
      by_cases h2 : mm = []
      · have HX2 := Lib.hid h2
        have mb : (mk.toList == []) = true := by rw [HM0.out]; simpa using h2
        clear h2
        have HO := Lib.hid (show opnd 0 t mm = 0 from opnd_lo (.inl ⟨rfl, HX.out, HX2.out⟩))
        go_wp2_with (go_at_call 61; refine (HPL.out _).mono ?_; rintro e wN ⟨n1, n2, rfl, hbN⟩; rw [if_pos HX.out]; have HBN := Lib.hid hbN; clear hbN; obtain ⟨hgl, q0, q1, q2⟩ := HC.out wN HBN.out)
        go_ret
        exact ⟨by rw [HO.out] <;> rfl, HB1.out.trans (HBN.out.mono HB1.out.size)⟩
      · have HX2 := Lib.hid h2
        have mb : (mk.toList == []) = false := by rw [HM0.out]; simpa using h2
        clear h2
        have HO := Lib.hid (show opnd 0 t mm = -1 from opnd_no (fun h => HX2.out h.2.2) (fun h => by have := h.1; omega) (fun h => by have := h.1; omega) (fun h => by have := h.1; omega) (fun h => by have := h.1; omega))
        go_wp2_with (go_at_call 61; refine (HPL.out _).mono ?_; rintro e wN ⟨n1, n2, rfl, hbN⟩; rw [if_pos HX.out]; have HBN := Lib.hid hbN; clear hbN; obtain ⟨hgl, q0, q1, q2⟩ := HC.out wN HBN.out)
        go_ret
        exact ⟨by rw [HO.out] <;> rfl, HB1.out.trans (HBN.out.mono HB1.out.size)⟩
    · have HX := Lib.hid h1
      clear h1
      have HO := Lib.hid (show opnd 0 t mm = -1 from opnd_no (fun h => HX.out h.2.1) (fun h => by have := h.1; omega) (fun h => by have := h.1; omega) (fun h => by have := h.1; omega) (fun h => by have := h.1; omega))
      go_wp2_with (go_at_call 61; refine (HPL.out _).mono ?_; rintro e wN ⟨n1, n2, rfl, hbN⟩; rw [if_neg HX.out]; have HBN := Lib.hid hbN; clear hbN; obtain ⟨hgl, q0, q1, q2⟩ := HC.out wN HBN.out)
      go_ret
      exact ⟨by rw [HO.out] <;> rfl, HB1.out.trans (HBN.out.mono HB1.out.size)⟩
  by_cases e1 : k = 1
  · subst e1
    by_cases h1 : GrpT t
    · have HX := Lib.hid h1
      clear h1
      by_cases h2 : mm = []
      · have HX2 := Lib.hid h2
        have mb : (mk.toList == []) = true := by rw [HM0.out]; simpa using h2
        clear h2
        have HO := Lib.hid (show opnd 1 t mm = 0 from opnd_lo (.inr (.inl ⟨rfl, HX.out, HX2.out⟩)))
        go_wp2_with (go_at_call 62; refine (HGT.out _).mono ?_; rintro e wN ⟨r, rfl, hr, hbN⟩; obtain rfl : r = true := hr.2 HX.out; clear hr; have HBN := Lib.hid hbN; clear hbN; obtain ⟨hgl, q0, q1, q2⟩ := HC.out wN HBN.out)
        go_ret
        exact ⟨by rw [HO.out] <;> rfl, HB1.out.trans (HBN.out.mono HB1.out.size)⟩
      · have HX2 := Lib.hid h2
        have mb : (mk.toList == []) = false := by rw [HM0.out]; simpa using h2
        clear h2
        have HO := Lib.hid (show opnd 1 t mm = -1 from opnd_no (fun h => by have := h.1; omega) (fun h => HX2.out h.2.2) (fun h => by have := h.1; omega) (fun h => by have := h.1; omega) (fun h => by have := h.1; omega))
        go_wp2_with (go_at_call 62; refine (HGT.out _).mono ?_; rintro e wN ⟨r, rfl, hr, hbN⟩; obtain rfl : r = true := hr.2 HX.out; clear hr; have HBN := Lib.hid hbN; clear hbN; obtain ⟨hgl, q0, q1, q2⟩ := HC.out wN HBN.out)
        go_ret
        exact ⟨by rw [HO.out] <;> rfl, HB1.out.trans (HBN.out.mono HB1.out.size)⟩
    · have HX := Lib.hid h1
      clear h1
      have HO := Lib.hid (show opnd 1 t mm = -1 from opnd_no (fun h => by have := h.1; omega) (fun h => HX.out h.2.1) (fun h => by have := h.1; omega) (fun h => by have := h.1; omega) (fun h => by have := h.1; omega))
      go_wp2_with (go_at_call 62; refine (HGT.out _).mono ?_; rintro e wN ⟨r, rfl, hr, hbN⟩; obtain rfl : r = false := (by cases r with | false => rfl | true => exact absurd (hr.1 rfl) HX.out); clear hr; have HBN := Lib.hid hbN; clear hbN; obtain ⟨hgl, q0, q1, q2⟩ := HC.out wN HBN.out)
      go_ret
      exact ⟨by rw [HO.out] <;> rfl, HB1.out.trans (HBN.out.mono HB1.out.size)⟩
  by_cases e2 : k = 2
  · subst e2
    by_cases h1 : isLt t = true
    · have HX := Lib.hid h1
      clear h1
      by_cases h2 : mm = []
      · have HX2 := Lib.hid h2
        have mb : (mk.toList == []) = true := by rw [HM0.out]; simpa using h2
        clear h2
        have HO := Lib.hid (show opnd 2 t mm = 0 from opnd_lo (.inr (.inr ⟨rfl, HX.out, HX2.out⟩)))
        go_wp2_with (go_at_call 63; refine (HLT.out _).mono ?_; rintro e wN ⟨rfl, rfl⟩; rw [HX.out]; have HBN := Lib.hid (Below.refl wN.heap.size wN))
        go_ret
        exact ⟨by rw [HO.out] <;> rfl, HB1.out.trans (HBN.out.mono HB1.out.size)⟩
      · have HX2 := Lib.hid h2
        have mb : (mk.toList == []) = false := by rw [HM0.out]; simpa using h2
        clear h2
        have HO := Lib.hid (show opnd 2 t mm = -1 from opnd_no (fun h => by have := h.1; omega) (fun h => by have := h.1; omega) (fun h => HX2.out h.2.2) (fun h => by have := h.1; omega) (fun h => by have := h.1; omega))
        go_wp2_with (go_at_call 63; refine (HLT.out _).mono ?_; rintro e wN ⟨rfl, rfl⟩; rw [HX.out]; have HBN := Lib.hid (Below.refl wN.heap.size wN))
        go_ret
        exact ⟨by rw [HO.out] <;> rfl, HB1.out.trans (HBN.out.mono HB1.out.size)⟩
    · have HX := Lib.hid h1
      clear h1
      have HO := Lib.hid (show opnd 2 t mm = -1 from opnd_no (fun h => by have := h.1; omega) (fun h => by have := h.1; omega) (fun h => HX.out h.2.1) (fun h => by have := h.1; omega) (fun h => by have := h.1; omega))
      go_wp2_with (go_at_call 63; refine (HLT.out _).mono ?_; rintro e wN ⟨rfl, rfl⟩; rw [Bool.eq_false_iff.2 HX.out]; have HBN := Lib.hid (Below.refl wN.heap.size wN))
      go_ret
      exact ⟨by rw [HO.out] <;> rfl, HB1.out.trans (HBN.out.mono HB1.out.size)⟩
  by_cases e3 : k = 3
  · subst e3
    by_cases h1 : t = []
    · have HX := Lib.hid h1
      have tb : (tx.toList == []) = true := by rw [HT0.out]; simpa using h1
      clear h1
      by_cases h2 : mm = []
      · have HX2 := Lib.hid h2
        have mb : (mk.toList == []) = true := by rw [HM0.out]; simpa using h2
        clear h2
        have HO := Lib.hid (show opnd 3 t mm = 2 from opnd_3 ⟨rfl, HX.out, HX2.out⟩)
        go_wp2_with fail
        go_ret
        exact ⟨by rw [HO.out] <;> rfl, HB1.out⟩
      · have HX2 := Lib.hid h2
        have mb : (mk.toList == []) = false := by rw [HM0.out]; simpa using h2
        clear h2
        have HO := Lib.hid (show opnd 3 t mm = -1 from opnd_no (fun h => by have := h.1; omega) (fun h => by have := h.1; omega) (fun h => by have := h.1; omega) (fun h => HX2.out h.2.2) (fun h => by have := h.1; omega))
        go_wp2_with fail
        go_ret
        exact ⟨by rw [HO.out] <;> rfl, HB1.out⟩
    · have HX := Lib.hid h1
      have tb : (tx.toList == []) = false := by rw [HT0.out]; simpa using h1
      clear h1
      have HO := Lib.hid (show opnd 3 t mm = -1 from opnd_no (fun h => by have := h.1; omega) (fun h => by have := h.1; omega) (fun h => by have := h.1; omega) (fun h => HX.out h.2.1) (fun h => by have := h.1; omega))
      go_wp2_with fail
      go_ret
      exact ⟨by rw [HO.out] <;> rfl, HB1.out⟩
  by_cases e4 : k = 4
  · subst e4
    by_cases h1 : t = []
    · have HX := Lib.hid h1
      have tb : (tx.toList == []) = true := by rw [HT0.out]; simpa using h1
      clear h1
      by_cases h2 : isMk mm = true
      · have HX2 := Lib.hid h2
        clear h2
        have HO := Lib.hid (show opnd 4 t mm = 1 from opnd_4 ⟨by omega, HX.out, HX2.out⟩)
        go_wp2_with (go_at_call 56; refine (HMK.out _).mono ?_; rintro e wN ⟨rfl, rfl⟩; rw [HX2.out]; have HBN := Lib.hid (Below.refl wN.heap.size wN))
        go_ret
        exact ⟨by rw [HO.out] <;> rfl, HB1.out.trans (HBN.out.mono HB1.out.size)⟩
      · have HX2 := Lib.hid h2
        clear h2
        have HO := Lib.hid (show opnd 4 t mm = -1 from opnd_no (fun h => by have := h.1; omega) (fun h => by have := h.1; omega) (fun h => by have := h.1; omega) (fun h => by have := h.1; omega) (fun h => HX2.out h.2.2))
        go_wp2_with (go_at_call 56; refine (HMK.out _).mono ?_; rintro e wN ⟨rfl, rfl⟩; rw [Bool.eq_false_iff.2 HX2.out]; have HBN := Lib.hid (Below.refl wN.heap.size wN))
        go_ret
        exact ⟨by rw [HO.out] <;> rfl, HB1.out.trans (HBN.out.mono HB1.out.size)⟩
    · have HX := Lib.hid h1
      have tb : (tx.toList == []) = false := by rw [HT0.out]; simpa using h1
      clear h1
      have HO := Lib.hid (show opnd 4 t mm = -1 from opnd_no (fun h => by have := h.1; omega) (fun h => by have := h.1; omega) (fun h => by have := h.1; omega) (fun h => by have := h.1; omega) (fun h => HX.out h.2.1))
      go_wp2_with fail
      go_ret
      exact ⟨by rw [HO.out] <;> rfl, HB1.out⟩
  by_cases e5 : k = 5
  · subst e5
    by_cases h1 : t = []
    · have HX := Lib.hid h1
      have tb : (tx.toList == []) = true := by rw [HT0.out]; simpa using h1
      clear h1
      by_cases h2 : isMk mm = true
      · have HX2 := Lib.hid h2
        clear h2
        have HO := Lib.hid (show opnd 5 t mm = 1 from opnd_4 ⟨by omega, HX.out, HX2.out⟩)
        go_wp2_with (go_at_call 56; refine (HMK.out _).mono ?_; rintro e wN ⟨rfl, rfl⟩; rw [HX2.out]; have HBN := Lib.hid (Below.refl wN.heap.size wN))
        go_ret
        exact ⟨by rw [HO.out] <;> rfl, HB1.out.trans (HBN.out.mono HB1.out.size)⟩
      · have HX2 := Lib.hid h2
        clear h2
        have HO := Lib.hid (show opnd 5 t mm = -1 from opnd_no (fun h => by have := h.1; omega) (fun h => by have := h.1; omega) (fun h => by have := h.1; omega) (fun h => by have := h.1; omega) (fun h => HX2.out h.2.2))
        go_wp2_with (go_at_call 56; refine (HMK.out _).mono ?_; rintro e wN ⟨rfl, rfl⟩; rw [Bool.eq_false_iff.2 HX2.out]; have HBN := Lib.hid (Below.refl wN.heap.size wN))
        go_ret
        exact ⟨by rw [HO.out] <;> rfl, HB1.out.trans (HBN.out.mono HB1.out.size)⟩
    · have HX := Lib.hid h1
      have tb : (tx.toList == []) = false := by rw [HT0.out]; simpa using h1
      clear h1
      have HO := Lib.hid (show opnd 5 t mm = -1 from opnd_no (fun h => by have := h.1; omega) (fun h => by have := h.1; omega) (fun h => by have := h.1; omega) (fun h => by have := h.1; omega) (fun h => HX.out h.2.1))
      go_wp2_with fail
      go_ret
      exact ⟨by rw [HO.out] <;> rfl, HB1.out⟩
  have HK := Lib.hid (And.intro e0 (And.intro e1 (And.intro e2 (And.intro e3 (And.intro e4 e5)))))
  have b0 : (k == 0) = false := beq_eq_false_iff_ne.2 e0
  have b1 : (k == 1) = false := beq_eq_false_iff_ne.2 e1
  have b2 : (k == 2) = false := beq_eq_false_iff_ne.2 e2
  have b3 : (k == 3) = false := beq_eq_false_iff_ne.2 e3
  have b4 : (k == 4) = false := beq_eq_false_iff_ne.2 e4
  have b5 : (k == 5) = false := beq_eq_false_iff_ne.2 e5
  have HO := Lib.hid (show opnd k t mm = -1 from opnd_no (fun h => e0 h.1) (fun h => e1 h.1) (fun h => e2 h.1) (fun h => e3 h.1) (fun h => h.1.elim e4 e5))
  clear e0 e1 e2 e3 e4 e5
  go_wp2_with fail
  go_ret
  exact ⟨by rw [HO.out] <;> rfl, HB1.out⟩
end Go.Proofs.YtbamkklhkhglnaaGreatDoor.LbJ

/-
  spec.IsExpression: is a list of nodes an expression?
-/
namespace Go.Proofs.YtbamkklhkhglnaaGreatDoor.LbL
open Go.RowKit Go.Lib Go.Proofs.YtbamkklhkhglnaaGreatDoor Go.Proofs.YtbamkklhkhglnaaGreatDoor.Tow Go.Proofs.YtbamkklhkhglnaaGreatDoor.CyA Go.Proofs.YtbamkklhkhglnaaGreatDoor.LbC Go.Proofs.YtbamkklhkhglnaaGreatDoor.LbN Go.Proofs.YtbamkklhkhglnaaGreatDoor.LbJ Go.Proofs.YtbamkklhkhglnaaGreatDoor.TmA Go.Proofs.YtbamkklhkhglnaaGreatDoor.TrA Go.Proofs.YtbamkklhkhglnaaGreatDoor.ImplW
open Go.Proofs.YtbamkklhkhglnaaGreatDoor.DwB (row3f put3)
set_option linter.unusedVariables false
set_option linter.unusedSimpArgs false

set_option maxRecDepth 100000 in
set_option maxHeartbeats 4000000 in
theorem sx_any (L : List Nd) (v : Value) (w : World) (h : NdS w v L) (hz : Szs L) (hn : L.length ≤ 100000000) :
    Calls Tryz.prog 34 #[v] w (BxR (isEx L) w) := by
  obtain ⟨a, c, rfl⟩ := h.form
  obtain ⟨n, hN⟩ : ∃ n, L.length = n := ⟨_, rfl⟩
  have HN := Lib.hid hN
  have HOP := Lib.hid (fun x (hx : x ∈ L) W => ops_any x.k x.t x.m (hz x hx) W)
  have HAT := Lib.hid (fun (W : World) (hb : Below w.heap.size w W) i x (hx : L[i]? = some x) => show ∃ b o, a = some ⟨b, o, none⟩ ∧ b < W.heap.size ∧ W.cell? ⟨b, o + i * 3, none⟩ = some (.int .i64 x.k) ∧ W.cell? ⟨b, o + i * 3 + 1, none⟩ = some (.string x.t) ∧ W.cell? ⟨b, o + i * 3 + 2, none⟩ = some (.string x.m) from by
    obtain ⟨b, o, c', h1, h2, h3, h4, h5⟩ := (h.below hb).at_ i x hx
    obtain ⟨rfl, rfl⟩ : a = some ⟨b, o, none⟩ ∧ c = c' := by simpa using h1
    exact ⟨b, o, rfl, h2, h3, h4, h5⟩)
  rw [hN] at hn ⊢
  clear h hz hN
  by_cases h2 : 30 < n
  · have HE := Lib.hid (show isEx L = false from by
      unfold isEx
      rw [HN.out, decide_eq_false (by omega)]
      rfl)
    have h2i : (30 : Int) < (n : Int) := by omega
    go_enter Tryz.func34, Tryz.ntmps34
    go_wp2_with fail
    go_ret
    exact ⟨by rw [HE.out] <;> rfl, Below.refl _ _⟩
  · have HE := Lib.hid (show isEx L = exs (L.map Nd.ops) 1 from by
      unfold isEx
      rw [HN.out, decide_eq_true (by omega)]
      rfl)
    have h2i : ¬ (30 : Int) < (n : Int) := by omega
    go_enter Tryz.func34, Tryz.ntmps34
    go_wp2_with fail
    go_loopw [3, 4] (fun jv iv wr => ∃ (k : Nat) (o : Int), k ≤ n ∧ jv = .int .i64 o ∧ iv = .int .i64 (k : Int) ∧ 0 ≤ o ∧ o ≤ 1 + k ∧ Hid (exs (L.map Nd.ops) 1 = exs ((L.drop k).map Nd.ops) o) ∧ Hid (Below w.heap.size w wr)) (fun _ iv _ => n - (intOf iv).toNat)
    case atStart => exact ⟨0, 1, Nat.zero_le _, rfl, rfl, by omega, by omega, Lib.hid rfl, Lib.hid (Below.refl _ _)⟩
    case round =>
      obtain ⟨k, o, hk, rfl, rfl, ho0, ho1, HX, hB⟩ := hrel
      by_cases hlt : k < n
      · have hki : (k : Int) < (n : Int) := by omega
        obtain ⟨x, hx⟩ : ∃ x, L[k]? = some x := ⟨_, List.getElem?_eq_getElem (by rw [HN.out]; exact hlt)⟩
        obtain ⟨b, of, rfl, hbl, q0, q1, q2⟩ := HAT.out wr hB.out k x hx
        obtain ⟨p, hp⟩ : ∃ p, opnd x.k x.t.data.toList x.m.data.toList = p := ⟨_, rfl⟩
        have HP := Lib.hid (show x.ops = p from hp)
        have hpl := opnd_le x.k x.t.data.toList x.m.data.toList
        have HOX := Lib.hid ((HOP.out x (List.mem_of_getElem? hx) wr).mono (R' := fun e w' => e = .returned (.int .i64 p) ∧ Below wr.heap.size wr w') (fun e w' h => by rw [← hp]; exact h))
        rw [hp] at hpl
        clear hp
        by_cases hbad : o = 0 ∨ p < 0
        · have HN0 := Lib.hid (show isEx L = false from by rw [HE.out]; exact exs_bad hx HX.out (by rw [HP.out]; exact hbad))
          by_cases hp0 : p < 0
          · clear hx hbad
            go_wp2_with (go_at_call 49; refine HOX.out.mono ?_; rintro e w4 ⟨rfl, hb4⟩)
            go_ret
            exact ⟨by rw [HN0.out] <;> rfl, hB.out.trans (hb4.mono hB.out.size)⟩
          · obtain rfl : o = 0 := hbad.resolve_right hp0
            clear hx hbad
            go_wp2_with (go_at_call 49; refine HOX.out.mono ?_; rintro e w4 ⟨rfl, hb4⟩)
            go_ret
            exact ⟨by rw [HN0.out] <;> rfl, hB.out.trans (hb4.mono hB.out.size)⟩
        · have HST := Lib.hid (exs_step hx HX.out (by rw [HP.out]; exact hbad))
          rw [HP.out] at HST
          have h0b : (o == 0) = false := beq_eq_false_iff_ne.2 fun e => hbad (.inl e)
          have hp0 : ¬ p < 0 := fun e => hbad (.inr e)
          have ho' : 0 ≤ o + (p - 1) := by have : ¬ o = 0 := fun e => hbad (.inl e); omega
          have hw1 : IntKind.i64.wrap (o - 1) = o - 1 := IntWalk.i64_in _ (by omega)
          have hw2 : IntKind.i64.wrap (o - 1 + p) = o + (p - 1) := by rw [IntWalk.i64_in _ (by omega)]; omega
          clear hx hbad
          go_wp2_with (go_at_call 49; refine HOX.out.mono ?_; rintro e w4 ⟨rfl, hb4⟩)
          go_roundw
          case rel => exact ⟨k + 1, _, by omega, rfl, by go_num, ho', by omega, HST, Lib.hid (hB.out.trans (hb4.mono hB.out.size))⟩
          case measure => simp [intOf]; omega
      · obtain rfl : n = k := by omega
        have hki : ¬ (n : Int) < (n : Int) := by omega
        have HEN := Lib.hid (show isEx L = (o == 0) from by rw [HE.out]; exact exs_end (by rw [HN.out]; exact HX.out))
        go_wp2_with fail
        go_ret
        exact ⟨by rw [HEN.out] <;> rfl, hB.out⟩
end Go.Proofs.YtbamkklhkhglnaaGreatDoor.LbL

/-
  spec.VariablesOf.
-/
namespace Go.Proofs.YtbamkklhkhglnaaGreatDoor.LbW
open Go.RowKit Go.Lib Go.Sort Go.Proofs Go.Proofs.YtbamkklhkhglnaaGreatDoor Go.Proofs.YtbamkklhkhglnaaGreatDoor.Tow Go.Proofs.YtbamkklhkhglnaaGreatDoor.LbC Go.Proofs.YtbamkklhkhglnaaGreatDoor.LbD Go.Proofs.YtbamkklhkhglnaaGreatDoor.LbN Go.Proofs.YtbamkklhkhglnaaGreatDoor.LbO Go.Proofs.YtbamkklhkhglnaaGreatDoor.LbL Go.Proofs.YtbamkklhkhglnaaGreatDoor.LbV Go.Proofs.YtbamkklhkhglnaaGreatDoor.TmA Go.Proofs.YtbamkklhkhglnaaGreatDoor.TrA Go.Proofs.YtbamkklhkhglnaaGreatDoor.ImplW
open Go.Proofs.YtbamkklhkhglnaaGreatDoor.DwB (row3f put3)
set_option linter.unusedVariables false
set_option linter.unusedSimpArgs false

def vslN (L : List Nd) (j : Nat) : List (List UInt8) := ((List.range j).filter fun i => hasV L (lt26 i)).map lt26
theorem vslN_snoc (L : List Nd) (j : Nat) : vslN L (j + 1) = vslN L j ++ (if hasV L (lt26 j) then [lt26 j] else []) := by
  unfold vslN
  rw [List.range_succ, List.filter_append, List.map_append]
  congr 1
  cases h : hasV L (lt26 j) <;> simp [h]
theorem vslN_le (L : List Nd) (j : Nat) : (vslN L j).length ≤ j := by
  unfold vslN
  rw [List.length_map]
  exact Nat.le_trans (List.length_filter_le _ _) (by simp)
/-- a node is the variable that is asked for -/
def hitV (x : Nd) (t : List UInt8) : Prop := x.k = 2 ∧ x.t.data.toList = t
theorem hasV_yes {L : List Nd} {i : Nat} {x : Nd} {t : List UInt8} (hx : L[i]? = some x) (h : hitV x t) : hasV L t = true := by
  unfold hasV
  rw [List.any_eq_true]
  exact ⟨x, List.mem_of_getElem? hx, by simp [h.1, h.2]⟩
theorem hasV_no {L : List Nd} {t : List UInt8} (h : ∀ (i : Nat) (x : Nd), L[i]? = some x → ¬ hitV x t) : hasV L t = false := by
  unfold hasV
  rw [List.any_eq_false]
  intro x hx
  obtain ⟨i, hi⟩ := List.getElem?_of_mem hx
  have := h i x hi
  intro hb
  simp only [Bool.and_eq_true] at hb
  exact this ⟨by simpa using hb.1, by simpa using hb.2⟩
theorem one_let (j : Nat) (hj : j < 26) (g : Nat) (w' : World) (h : w'.cell? ⟨g, 0, none⟩ = some (.int .u8 (97 + (j : Int)))) :
    (convert 22 9 (.slice (some ⟨g, 0, none⟩) 1 1)).run Tryz.prog w' = .ok (.string (ba (lt26 j))) w' := by
  refine run_convert_bytes_back (P := Tryz.prog) w' 22 9 5 ⟨g, 0, none⟩ 1 (lt26 j) Tryz.underlying22 Tryz.underlying5 Tryz.underlying9 ?_
  intro i hi
  have hi0 : i = 0 := by unfold lt26 at hi; simp at hi; omega
  subst hi0
  rw [show (Addr.add ⟨g, 0, none⟩ 0) = ⟨g, 0, none⟩ by simp [Addr.add], h]
  simp [lt26]
  omega
set_option maxRecDepth 100000 in
set_option maxHeartbeats 4000000 in
theorem sva_any (L : List Nd) (v : Value) (w : World) (h : NdS w v L) (hz : Szs L) (hn : L.length ≤ 100000000) :
    Calls Tryz.prog 16 #[v] w (VaR L w) := by
  obtain ⟨i0, hi, hz0, hz1, hz2⟩ := info_parts infoS
  have HX := Lib.hid (sx_any L v w h hz hn)
  obtain ⟨a, c, rfl⟩ := h.form
  obtain ⟨n, hN⟩ : ∃ n, L.length = n := ⟨_, rfl⟩
  have HN := Lib.hid hN
  have HAT := Lib.hid (fun (W : World) (hb : Below w.heap.size w W) i x (hx : L[i]? = some x) => show ∃ b o, a = some ⟨b, o, none⟩ ∧ b < W.heap.size ∧ W.cell? ⟨b, o + i * 3, none⟩ = some (.int .i64 x.k) ∧ W.cell? ⟨b, o + i * 3 + 1, none⟩ = some (.string x.t) ∧ W.cell? ⟨b, o + i * 3 + 2, none⟩ = some (.string x.m) from by
    obtain ⟨b, o, c', h1, h2, h3, h4, h5⟩ := (h.below hb).at_ i x hx
    obtain ⟨rfl, rfl⟩ : a = some ⟨b, o, none⟩ ∧ c = c' := by simpa using h1
    exact ⟨b, o, rfl, h2, h3, h4, h5⟩)
  rw [hN] at HX hn ⊢
  clear h hz hN
  cases hex : isEx L with
  | false =>
    rw [hex] at HX
    go_enter Tryz.func16, Tryz.ntmps16
    go_wp2_with (go_at_call 34; refine HX.out.mono ?_; rintro e w1 ⟨rfl, hb1⟩)
    refine bodyPost_ret (v := .tuple #[.slice none 0 0, .int .i64 1]) (by simp [results, Tryz.results16, go_sem]) rfl ?_
    exact ⟨_, by rw [hex]; rfl, hb1, by rw [hex]; exact World.ownsRow_nil _ _ _ _⟩
  | true =>
    have HEX := Lib.hid hex
    rw [hex] at HX
    clear hex
    go_enter Tryz.func16, Tryz.ntmps16
    go_upto_region 5 with (first | (go_at_call 34; refine HX.out.mono ?_; rintro e w1 ⟨rfl, hb1⟩) | fail)
    obtain ⟨w2, hw2⟩ : ∃ w2, w1.alloc (.cells #[] 9) = w2 := ⟨_, rfl⟩
    obtain ⟨gO, hgO⟩ : ∃ gO, w1.heap.size = gO := ⟨_, rfl⟩
    have HB2 := Lib.hid (show Below w.heap.size w w2 from by rw [← hw2]; exact hb1.alloc hb1.size _)
    have HO2 := Lib.hid (show w2.ownsRow w.heap.size 9 1 (.slice (some ⟨gO, 0, none⟩) 0 0) 0 ((vslN L 0).map encStr) from by
      rw [← hw2, ← hgO]
      exact World.ownsRow_lit (base := w.heap.size) (e := 9) (size := 1) w1 #[] 0 hb1.size (by unfold maxLen; omega) (by simp))
    rw [hw2, hgO]
    clear hw2 hgO hb1 HX
    go_loopw [4, 5] (fun jv iv wr => ∃ (j m : Nat) (av : Option Addr) (cv : Nat), j ≤ 26 ∧ jv = .slice av m cv ∧ iv = .int .u8 (97 + (j : Int)) ∧ Hid ((vslN L j).length = m) ∧ Hid (wr.ownsRow w.heap.size 9 1 (.slice av m cv) m ((vslN L j).map encStr)) ∧ Hid (Below w.heap.size w wr)) (fun _ iv _ => 123 - (intOf iv).toNat)
    case atStart => exact ⟨0, 0, _, _, Nat.zero_le _, rfl, rfl, Lib.hid rfl, HO2, HB2⟩
    case round =>
      clear HO2 HB2
      obtain ⟨j, m, av, cv, hj, rfl, rfl, HM, HO, hB⟩ := hrel
      have hml : m ≤ 26 := by have h1 := HM.out; have h2 := vslN_le L j; omega
      by_cases hlt : j < 26
      · have hj1 : 97 + (j : Int) ≤ 122 := by omega
        have hob := one_let j hlt
        have hwr : IntKind.u8.wrap (97 + (j : Int) + 1) = 97 + (j : Int) + 1 := by
          have h : ∀ x : Int, 0 ≤ x → x < 256 → IntKind.u8.wrap x = x := fun x h1 h2 => by
            simp only [IntKind.wrap, IntKind.bits, IntKind.signed]
            simp
            omega
          exact h _ (by omega) (by omega)
        have HSN := Lib.hid (vslN_snoc L j)
        rename World => wo
        go_upto_region 8 with fail
        obtain ⟨ww, hww⟩ : ∃ ww, wo.alloc (.cells #[.int .u8 (97 + (j : Int))] 5) = ww := ⟨_, rfl⟩
        have HBw := Lib.hid (show Below w.heap.size w ww from by rw [← hww]; exact hB.out.alloc hB.out.size _)
        have HOw := Lib.hid (show ww.ownsRow w.heap.size 9 1 (.slice av m cv) m ((vslN L j).map encStr) from by rw [← hww]; exact HO.out.alloc _)
        rw [hww]
        clear hww hob HO hB
        have HJ := Lib.hid (And.intro hlt hj1)
        clear hlt
        obtain ⟨cj, hcj⟩ : ∃ cj : Int, 97 + (j : Int) = cj := ⟨_, rfl⟩
        have HCJ := Lib.hid hcj
        rw [hcj] at hwr hj1 ⊢
        clear hcj
        go_wp2_with fail
        go_loopw [4, 7] (fun jv iv wr => ∃ (i : Nat), i ≤ n ∧ jv = .slice av m cv ∧ iv = .int .i64 (i : Int) ∧ Hid (∀ (i' : Nat) (x : Nd), i' < i → L[i']? = some x → ¬ hitV x (lt26 j)) ∧ Hid (wr.ownsRow w.heap.size 9 1 (.slice av m cv) m ((vslN L j).map encStr)) ∧ Hid (Below w.heap.size w wr)) (fun _ iv _ => n - (intOf iv).toNat)
        case atStart => exact ⟨0, Nat.zero_le _, rfl, rfl, Lib.hid (fun i' x h => absurd h (by omega)), HOw, HBw⟩
        case round =>
          obtain ⟨i, hin, rfl, rfl, HNO, HO, hB⟩ := hrel
          by_cases hltn : i < n
          · have hki : (i : Int) < (n : Int) := by omega
            obtain ⟨x, hx⟩ : ∃ x, L[i]? = some x := ⟨_, List.getElem?_eq_getElem (by rw [HN.out]; exact hltn)⟩
            obtain ⟨b, of, rfl, hbl, q0, q1, q2⟩ := HAT.out wr hB.out i x hx
            by_cases hh : hitV x (lt26 j)
            · have kb : (x.k == 2) = true := beq_iff_eq.2 hh.1
              have tb : (x.t.toList == (ba (lt26 j)).toList) = true := by rw [toList_data, toList_data]; exact beq_iff_eq.2 hh.2
              have HY := Lib.hid (hasV_yes hx hh)
              have hsz := hB.out.size
              clear hh hx
              go_wp2_with (at_builtin; refine wpList_append_own _ rfl _ _ 35 rfl w.heap.size 9 i0 (.string ⟨#[]⟩) 1 16 Tryz.underlying35 hi hz0 hz1 hz2 rfl (by decide) _ _ _ rfl (HO.out.alloc _) ⟨wr.heap.size, 0, none⟩ 1 1 [.string (ba (lt26 j))] rfl rfl ?c1 ?c2 ?c3 ?c4 ?c5 ?_)
              case c1 => exact cell_one_new _ _ _
              case c2 => intro u hu; simp only [List.mem_cons, List.not_mem_nil, or_false] at hu; subst hu; rfl
              case c3 => unfold maxLen; omega
              case c4 => omega
              case c5 => simp; omega
              intro v' w4 hown' hgrow _
              have hlt2 := World.ownsRow.lt HO.out
              have HB4 := Lib.hid ((hB.out.alloc hsz _).grown hgrow (by simp; omega) (fun k hk => (hlt2 k hk).1))
              obtain ⟨av2, cv2, rfl⟩ := DwB.owns_form hown'
              have HO4 := Lib.hid (show w4.ownsRow w.heap.size 9 1 (.slice av2 (m + 1) cv2) (m + 1) ((vslN L (j + 1)).map encStr) from by
                rw [HSN.out, HY.out]
                simpa [encStr, ba] using hown')
              have HM4 := Lib.hid (show (vslN L (j + 1)).length = m + 1 from by rw [HSN.out, HY.out, List.length_append, HM.out]; rfl)
              clear hown' hgrow hlt2
              go_wp2_with fail
              go_roundw
              case rel => exact ⟨j + 1, m + 1, av2, cv2, by have := HJ.out.1; omega, rfl, congrArg (Value.int .u8) (by have := HCJ.out; omega), HM4, HO4, HB4⟩
              case measure => have h1 := HCJ.out; have h2 := HJ.out.1; simp [intOf]; omega
            · have HNO2 := Lib.hid (show ∀ (i' : Nat) (x : Nd), i' < i + 1 → L[i']? = some x → ¬ hitV x (lt26 j) from fun i' y h hy => by
                by_cases hii : i' = i
                · rw [hii, hx] at hy
                  obtain rfl := Option.some.inj hy
                  exact hh
                · exact HNO.out i' y (by omega) hy)
              have hi64 : (i : Int) + 1 ≤ 9223372036854775807 := by omega
              by_cases hk2 : x.k = 2
              · have kb : (x.k == 2) = true := beq_iff_eq.2 hk2
                have tb : (x.t.toList == (ba (lt26 j)).toList) = false := by rw [toList_data, toList_data]; exact beq_eq_false_iff_ne.2 fun e => hh ⟨hk2, e⟩
                clear hh hk2 hx
                go_wp2_with fail
                go_roundw
                case rel => exact ⟨i + 1, by omega, rfl, by go_num, HNO2, HO, hB⟩
                case measure => simp [intOf]; omega
              · have kb : (x.k == 2) = false := beq_eq_false_iff_ne.2 hk2
                clear hh hk2 hx
                go_wp2_with fail
                go_roundw
                case rel => exact ⟨i + 1, by omega, rfl, by go_num, HNO2, HO, hB⟩
                case measure => simp [intOf]; omega
          · obtain rfl : n = i := by omega
            have hki : ¬ (n : Int) < (n : Int) := by omega
            have HY := Lib.hid (show hasV L (lt26 j) = false from hasV_no fun i' x hx => HNO.out i' x (by have := (List.getElem?_eq_some_iff.1 hx).1; rw [HN.out] at this; exact this) hx)
            have HO4 := Lib.hid (show wr.ownsRow w.heap.size 9 1 (.slice av m cv) m ((vslN L (j + 1)).map encStr) from by
              rw [HSN.out, HY.out]
              simpa using HO.out)
            have HM4 := Lib.hid (show (vslN L (j + 1)).length = m from by rw [HSN.out, HY.out, List.length_append, HM.out]; rfl)
            go_wp2_with fail
            go_roundw
            case rel => exact ⟨j + 1, m, av, cv, by have := HJ.out.1; omega, rfl, congrArg (Value.int .u8) (by have := HCJ.out; omega), HM4, HO4, hB⟩
            case measure => have h1 := HCJ.out; have h2 := HJ.out.1; simp [intOf]; omega
      · obtain rfl : j = 26 := by omega
        have hj1 : ¬ 97 + ((26 : Nat) : Int) ≤ 122 := by omega
        go_wp2_with fail
        refine bodyPost_ret (v := .tuple #[.slice av m cv, .int .i64 0]) (by simp [results, Tryz.results16, go_sem]) rfl ?_
        refine ⟨_, by rw [HEX.out]; rfl, hB.out, ?_⟩
        rw [HEX.out]
        have h1 := HO.out
        have h2 : vsl L = vslN L 26 := rfl
        rw [if_pos rfl, h2, HM.out]
        exact h1
end Go.Proofs.YtbamkklhkhglnaaGreatDoor.LbW

/-
  The law's own functions over texts: markText, eqStringS, markStringS, heldStringS.
-/
namespace Go.Proofs.YtbamkklhkhglnaaGreatDoor.LwA
open Go.RowKit Go.Lib Go.Proofs Go.Proofs.YtbamkklhkhglnaaGreatDoor Go.Proofs.YtbamkklhkhglnaaGreatDoor.Tow Go.Proofs.YtbamkklhkhglnaaGreatDoor.NumPlain Go.Proofs.YtbamkklhkhglnaaGreatDoor.LbC
set_option linter.unusedVariables false
set_option linter.unusedSimpArgs false

def dd (j : Nat) : List UInt8 := if j = 0 then [] else decDigits j
theorem dd_step (j : Nat) (h : 0 < j) : dd j = dd (j / 10) ++ [dgt (j % 10)] := by
  unfold dd
  rw [if_neg (by omega)]
  by_cases h10 : j < 10
  · rw [if_pos (by omega), dec_small j h10, Nat.mod_eq_of_lt h10]
    rfl
  · rw [if_neg (by omega), dec_big j h10]
/-- the text of a mark -/
def mtx (k : Nat) : List UInt8 := 109 :: dd k
def MtR (k : Nat) (w : World) (e : Ending) (w' : World) : Prop := e = .returned (.string (ba (mtx k))) ∧ Below w.heap.size w w'
set_option maxHeartbeats 1000000 in
theorem mark_any (k : Nat) (hk : 1 ≤ k) (hk9 : k ≤ 100000000) (w : World) : Calls Tryz.prog 40 #[.int .i64 (k : Int)] w (MtR k w) := by
  have hk0 : ¬ (k : Int) ≤ 0 := by omega
  have HOB := Lib.hid (fun x hx => NumD.one_byte x hx)
  have HLK := Lib.hid (show (dd k).length ≤ 9 from by
    unfold dd
    split
    · simp
    · exact dec_len k 8 (by omega))
  go_enter Tryz.func40, Tryz.ntmps40
  go_wp2_with fail
  go_loopw [0, 3] (fun jv ov wr => ∃ (j : Nat) (o : ByteArray), jv = .int .i64 (j : Int) ∧ ov = .string o ∧ j ≤ k ∧ Hid (dd k = dd j ++ o.data.toList) ∧ Hid (Below w.heap.size w wr)) (fun jv _ _ => (intOf jv).toNat)
  case atStart => exact ⟨k, _, rfl, rfl, Nat.le_refl _, Lib.hid (by simp), Lib.hid (Below.refl _ _)⟩
  case round =>
    obtain ⟨j, o, rfl, rfl, hj, HD, hB⟩ := hrel
    have ho : o.size ≤ 9 := by
      have h1 := congrArg List.length HD.out
      have h2 := HLK.out
      have h3 : o.data.toList.length = o.size := by simp
      rw [List.length_append] at h1
      omega
    by_cases h0 : 0 < j
    · have hji : (0 : Int) < (j : Int) := by omega
      have hob := HOB.out (j % 10) (by omega)
      rw [show ((j % 10 : Nat) : Int) = (j : Int) % 10 by omega] at hob
      go_wp2_with fail
      go_roundw
      case rel =>
        exact ⟨j / 10, _, by rw [Int.natCast_ediv]; rfl, rfl, by omega, Lib.hid (by rw [HD.out, dd_step j h0, ByteArray.data_append]; simp), Lib.hid (hB.out.alloc hB.out.size _)⟩
      case measure => simp [intOf]; omega
    · obtain rfl : j = 0 := by omega
      have HE := Lib.hid (show ({ data := #[109] } ++ o : ByteArray) = ba (mtx k) from eq_ba (by
        rw [ByteArray.data_append]
        unfold mtx
        rw [HD.out]
        simp [dd]))
      go_wp2_with fail
      go_ret
      exact ⟨by rw [← HE.out] <;> rfl, hB.out⟩
theorem row_form {W : World} {B n : Nat} {e : TypeId} {s : Nat} {v : Value} {xs : List Value} (h : W.ownsRow B e s v n xs) : ∃ a c, v = .slice a n c := DwB.owns_form h
theorem str_at {W : World} {B n c : Nat} {a : Option Addr} {l : List (List UInt8)} (h : W.ownsRow B 9 1 (.slice a n c) n (l.map encStr)) {i : Nat} {x : List UInt8} (hx : l[i]? = some x) :
    ∃ g, a = some ⟨g, 0, none⟩ ∧ B ≤ g ∧ g < W.heap.size ∧ W.cell? ⟨g, i, none⟩ = some (.string (ba x)) := by
  have hn : 0 < n := by
    have h1 := h.1
    have h2 := (List.getElem?_eq_some_iff.1 hx).1
    simp at h1
    omega
  obtain ⟨g, e, hb, hl, hc⟩ := LbF.cell_row h hn
  exact ⟨g, e, hb, hl, hc i _ (by rw [List.getElem?_map, hx]; rfl)⟩
set_option maxHeartbeats 1000000 in
theorem eqS_any (l : List (List UInt8)) (v1 v2 : Value) (B1 B2 : Nat) (w : World) (h1 : w.ownsRow B1 9 1 v1 l.length (l.map encStr)) (h2 : w.ownsRow B2 9 1 v2 l.length (l.map encStr)) (hl : l.length ≤ 100000000) :
    Calls Tryz.prog 19 #[v1, v2] w fun e w' => e = .returned (.bool true) ∧ Below w.heap.size w w' := by
  obtain ⟨a1, c1, rfl⟩ := row_form h1
  obtain ⟨a2, c2, rfl⟩ := row_form h2
  obtain ⟨n, hn⟩ : ∃ n, l.length = n := ⟨_, rfl⟩
  have HN := Lib.hid hn
  rw [hn] at h1 h2 hl ⊢
  have H1 := Lib.hid (fun i x (hx : l[i]? = some x) => str_at h1 hx)
  have H2 := Lib.hid (fun i x (hx : l[i]? = some x) => str_at h2 hx)
  clear h1 h2 hn
  go_enter Tryz.func19, Tryz.ntmps19
  go_wp2_with fail
  go_loopw [5] (fun iv wr => ∃ (i : Nat), i ≤ n ∧ iv = .int .i64 (i : Int) ∧ Hid (Below w.heap.size w wr)) (fun iv _ => n - (intOf iv).toNat)
  case atStart => exact ⟨0, Nat.zero_le _, rfl, Lib.hid (Below.refl _ _)⟩
  case round =>
    obtain ⟨i, hi, rfl, HW⟩ := hrel
    by_cases hlt : i < n
    · have hki : (i : Int) < (n : Int) := by omega
      obtain ⟨x, hx⟩ : ∃ x, l[i]? = some x := ⟨_, List.getElem?_eq_getElem (by rw [HN.out]; exact hlt)⟩
      obtain ⟨g1, rfl, hb1, hl1, p1⟩ := H1.out i x hx
      obtain ⟨g2, rfl, hb2, hl2, p2⟩ := H2.out i x hx
      have q1 : wr.cell? ⟨g1, i, none⟩ = some (.string (ba x)) := (HW.out.cell (p := ⟨g1, i, none⟩) hl1).trans p1
      have q2 : wr.cell? ⟨g2, i, none⟩ = some (.string (ba x)) := (HW.out.cell (p := ⟨g2, i, none⟩) hl2).trans p2
      have hlw1 : g1 < wr.heap.size := Nat.lt_of_lt_of_le hl1 HW.out.size
      have hlw2 : g2 < wr.heap.size := Nat.lt_of_lt_of_le hl2 HW.out.size
      clear p1 p2 hx
      go_wp2_with fail
      go_quiet (fail)
      have HW2 := Lib.hid (below_drewN HW.out nq)
      go_wp2_with fail
      go_roundw
      case rel => exact ⟨i + 1, by omega, by go_num, HW2⟩
      case measure => simp [intOf]; omega
    · obtain rfl : n = i := by omega
      have hki : ¬ (n : Int) < (n : Int) := by omega
      go_wp2_with fail
      go_ret
      exact ⟨rfl, HW.out⟩
/-- the marks from a number on -/
def mks (k n : Nat) : List (List UInt8) := (List.range n).map fun i => mtx (k + i)
set_option maxHeartbeats 2000000 in
theorem mkS_any (k n : Nat) (hk : 1 ≤ k) (hkn : k + n ≤ 100000000) (v : Value) (us : List Value) (B : Nat) (w : World) (h : w.ownsRow B 9 1 v n us) :
    Calls Tryz.prog 22 #[v, .int .i64 (k : Int)] w fun e w' => e = .returned (.int .i64 ((k : Int) + (n : Int))) ∧ w'.ownsRow B 9 1 v n ((mks k n).map encStr) ∧ Keep (fun j => some j ≠ v.ownBlock) w w' ∧ Below B w w' := by
  obtain ⟨a, c, rfl⟩ := row_form h
  have hus : us.length = n := by have := h.1; omega
  have HM := Lib.hid (fun j (h1 : 1 ≤ j) (h2 : j ≤ 100000000) W => mark_any j h1 h2 W)
  go_enter Tryz.func22, Tryz.ntmps22
  go_wp2_with fail
  go_loopw [1, 5] (fun kv iv wr => ∃ (i : Nat) (vs : List Value), i ≤ n ∧ kv = .int .i64 ((k : Int) + (i : Int)) ∧ iv = .int .i64 (i : Int) ∧ Hid (wr.ownsRow B 9 1 (.slice a n c) n vs) ∧ Hid (vs.length = n ∧ ∀ j < i, vs[j]? = some (encStr (mtx (k + j)))) ∧ Hid (Keep (fun j => some j ≠ (Value.slice a n c).ownBlock) w wr) ∧ Hid (Below B w wr)) (fun _ iv _ => n - (intOf iv).toNat)
  case atStart => exact ⟨0, us, Nat.zero_le _, by simp, rfl, Lib.hid h, Lib.hid ⟨hus, fun j hj => absurd hj (by omega)⟩, Lib.hid (Keep.refl _ _), Lib.hid (Below.refl _ _)⟩
  case round =>
    clear h hus
    obtain ⟨i, vs, hi, rfl, rfl, HO, HV, HK, HB⟩ := hrel
    by_cases hlt : i < n
    · have hki : (i : Int) < (n : Int) := by omega
      have HMI := Lib.hid (show ∀ W, Calls Tryz.prog 40 #[.int .i64 ((k : Int) + (i : Int))] W (MtR (k + i) W) from fun W => by
        have := HM.out (k + i) (by omega) (by omega) W
        rwa [Int.natCast_add] at this)
      have hw1 : IntKind.i64.wrap ((k : Int) + (i : Int) + 1) = (k : Int) + (i : Int) + 1 := IntWalk.i64_in _ (by omega)
      obtain ⟨g, ha⟩ : ∃ g, a = some ⟨g, 0, none⟩ := by
        rcases HO.out.2 with ⟨_, h0⟩ | ⟨g, cap, cur, h0, _⟩
        · omega
        · exact ⟨g, by simpa using (Value.slice.inj h0).1⟩
      subst ha
      have hgl := (HO.out.lt g rfl).2
      go_wp2_with (go_at_call 40; refine (HMI.out _).mono ?_; rintro e w2 ⟨rfl, hb2⟩; have HB2 := Lib.hid hb2; have HO2 := Lib.hid (ownsRow_keep HO.out (S := fun _ => True) (Keep.of_below hb2) fun _ _ => trivial); clear hb2; have hf := HO2.out.frozenAt i; obtain ⟨cu, hcu⟩ : ∃ cu, w2.cell? ⟨g, i, none⟩ = some cu := ⟨_, (HO2.out.cellAt i (by omega)).trans (List.getElem?_eq_getElem (by rw [HV.out.1]; omega))⟩; have hgl2 := (HO2.out.lt g rfl).2)
      go_roundw
      case rel =>
        refine ⟨i + 1, vs.set i (encStr (mtx (k + i))), by omega, by go_num, by go_num, Lib.hid (HO2.out.stored i _).1, Lib.hid ⟨by rw [List.length_set]; exact HV.out.1, fun j hj => ?_⟩, Lib.hid ((HK.out.trans (Keep.of_below HB2.out)).setCell (p := ⟨g, i, none⟩) (by simp [Value.ownBlock]) _), Lib.hid ((HB.out.trans (HB2.out.mono (by have := HO.out.lt g rfl; omega))).setCell (p := ⟨g, i, none⟩) (HO.out.lt g rfl).1 _)⟩
        by_cases hji : j = i
        · subst hji
          rw [List.getElem?_set_self (by rw [HV.out.1]; omega)]
        · rw [List.getElem?_set_ne (by omega)]
          exact HV.out.2 j (by omega)
      case measure => simp [intOf]; omega
    · obtain rfl : n = i := by omega
      have hki : ¬ (n : Int) < (n : Int) := by omega
      have HE := Lib.hid (show vs = (mks k n).map encStr from by
        refine List.ext_getElem? fun j => ?_
        by_cases hj : j < n
        · rw [HV.out.2 j hj]
          unfold mks
          simp [hj]
        · rw [List.getElem?_eq_none (by rw [HV.out.1]; omega), List.getElem?_eq_none (by unfold mks; simp; omega)])
      go_wp2_with fail
      go_ret
      exact ⟨rfl, by rw [← HE.out]; exact HO.out, HK.out, HB.out⟩
theorem mks_at {k n i : Nat} (h : i < n) : (mks k n)[i]? = some (mtx (k + i)) := by
  unfold mks
  simp [h]
set_option maxHeartbeats 2000000 in
theorem hdS_any (k n : Nat) (hk : 1 ≤ k) (hkn : k + n ≤ 100000000) (v : Value) (B : Nat) (w : World) (h : w.ownsRow B 9 1 v n ((mks k n).map encStr)) :
    Calls Tryz.prog 23 #[v, .int .i64 (k : Int)] w fun e w' => e = .returned (.int .i64 ((k : Int) + (n : Int))) ∧ Below w.heap.size w w' := by
  obtain ⟨a, c, rfl⟩ := row_form h
  have HM := Lib.hid (fun j (h1 : 1 ≤ j) (h2 : j ≤ 100000000) W => mark_any j h1 h2 W)
  have H1 := Lib.hid (fun i x (hx : (mks k n)[i]? = some x) => str_at h hx)
  clear h
  go_enter Tryz.func23, Tryz.ntmps23
  go_wp2_with fail
  go_loopw [1, 5] (fun kv iv wr => ∃ (i : Nat), i ≤ n ∧ kv = .int .i64 ((k : Int) + (i : Int)) ∧ iv = .int .i64 (i : Int) ∧ Hid (Below w.heap.size w wr)) (fun _ iv _ => n - (intOf iv).toNat)
  case atStart => exact ⟨0, Nat.zero_le _, by simp, rfl, Lib.hid (Below.refl _ _)⟩
  case round =>
    obtain ⟨i, hi, rfl, rfl, HB⟩ := hrel
    by_cases hlt : i < n
    · have hki : (i : Int) < (n : Int) := by omega
      have HMI := Lib.hid (show ∀ W, Calls Tryz.prog 40 #[.int .i64 ((k : Int) + (i : Int))] W (MtR (k + i) W) from fun W => by
        have := HM.out (k + i) (by omega) (by omega) W
        rwa [Int.natCast_add] at this)
      have hw1 : IntKind.i64.wrap ((k : Int) + (i : Int) + 1) = (k : Int) + (i : Int) + 1 := IntWalk.i64_in _ (by omega)
      obtain ⟨g, rfl, hgB, hgl, hc0⟩ := H1.out i _ (mks_at hlt)
      have hc := (HB.out.cell (p := ⟨g, i, none⟩) hgl).trans hc0
      have hglw : g < wr.heap.size := Nat.lt_of_lt_of_le hgl HB.out.size
      clear hc0
      go_upto_region 4 with fail
      go_cut [18] (fun v W => v = .bool false ∧ Hid (Below wr.heap.size wr W))
      case first =>
        go_region_law
          (first | (go_simp; go_at_call 40; refine (HMI.out _).mono ?_; rintro e w2 ⟨rfl, hb2⟩; have HB2 := Lib.hid (show Below wr.heap.size wr w2 from (by first | exact hb2 | exact ((Below.refl _ _).drew).trans hb2)); have hc2 := (HB2.out.cell (p := ⟨g, i, none⟩) hglw).trans hc; have hgl2 : g < w2.heap.size := Nat.lt_of_lt_of_le hglw HB2.out.size; clear hb2) | (fail))
        all_goals
          go_wp2_with fail
          go_meet
          exact ⟨by simp, HB2⟩
      case rest =>
        obtain ⟨rfl, HB3⟩ := hcut
        rename World => w3
        go_wp2_with fail
        go_roundw
        case rel => exact ⟨i + 1, by omega, by go_num, by go_num, Lib.hid (HB.out.trans (HB3.out.mono HB.out.size))⟩
        case measure => simp [intOf]; omega
    · obtain rfl : n = i := by omega
      have hki : ¬ (n : Int) < (n : Int) := by omega
      go_wp2_with fail
      go_ret
      exact ⟨rfl, HB.out⟩
end Go.Proofs.YtbamkklhkhglnaaGreatDoor.LwA

/-
  The law's own functions over nodes: what came in, sizes, copies, comparison, marks.
-/
namespace Go.Proofs.YtbamkklhkhglnaaGreatDoor.LwB
open Go.RowKit Go.Lib Go.Proofs Go.Proofs.YtbamkklhkhglnaaGreatDoor Go.Proofs.YtbamkklhkhglnaaGreatDoor.Tow Go.Proofs.YtbamkklhkhglnaaGreatDoor.NumPlain Go.Proofs.YtbamkklhkhglnaaGreatDoor.LbC Go.Proofs.YtbamkklhkhglnaaGreatDoor.LbN Go.Proofs.YtbamkklhkhglnaaGreatDoor.LwA
open Go.Proofs.YtbamkklhkhglnaaGreatDoor.DwB (row3f put3)
set_option linter.unusedVariables false
set_option linter.unusedSimpArgs false

theorem spot_of {w : World} {a : Addr} {v : Value} (h : w.cell? a = some v) : a = ⟨a.block, a.off, none⟩ ∧ a.block < w.heap.size := by
  refine ⟨?_, World.block_lt_of_cell? w a h⟩
  unfold World.cell? at h
  split at h
  · next c _ _ hb =>
    split at h
    · cases h
    · next hs =>
      cases a with
      | mk b o s =>
        cases s with
        | none => rfl
        | some s => simp at hs
  · cases h
/-- nodes that came in: their sizes are bounded -/
structure NdI (W : World) (v : Value) (L : List Nd) : Prop where
  nd : NdS W v L
  len : L.length ≤ maxLen
  sz : ∀ x ∈ L, x.t.size ≤ maxLen ∧ x.m.size ≤ maxLen
section
variable {H : Type} {enc : TypeId × Value → H} {w : World} {base : Nat} {spare : Nat → Bool} {held : Bool}
theorem ce_i : Tryz.prog.cellsOf 2 = 1 := by kernel_rfl
theorem ce_s : Tryz.prog.cellsOf 9 = 1 := by kernel_rfl
theorem ce_n : Tryz.prog.cellsOf 65 = 3 := by kernel_rfl
set_option maxRecDepth 100000 in
theorem node_cells (n : Nat) (cs : List Value) (y : DataW H × List MemPlace) (h : DataW.trod enc Tryz.prog w base spare held n 65 cs = some y) : ∃ x : Nd, cs = [.int .i64 x.k, .string x.t, .string x.m] ∧ x.t.size ≤ maxLen ∧ x.m.size ≤ maxLen := by
  obtain ⟨y0, y1, y2, m, _, hl, h0, h1, h2⟩ := Go.Deep.trod_struct3 Tryz.underlying65 h
  rw [ce_n] at hl
  match cs, hl with
  | [a, b, c], _ =>
    obtain ⟨k, e0, _⟩ := DataW.trod_int Tryz.underlying2 h0
    obtain ⟨s, e1, _, hs⟩ := DataW.trod_string Tryz.underlying9 h1
    obtain ⟨u, e2, _, hu⟩ := DataW.trod_string Tryz.underlying9 h2
    rw [ce_i] at e0
    rw [ce_s] at e1 e2
    simp only [List.drop_zero, List.drop_succ_cons, List.take_succ_cons, List.take_zero, List.cons.injEq, and_true] at e0 e1 e2
    subst e0 e1 e2
    exact ⟨⟨k, s, u⟩, rfl, hs, hu⟩
theorem open_nodes {v : Value} {d : DataW H} {p : List MemPlace} (hv : v.cells = #[v]) (h : DataW.Trod enc Tryz.prog w base spare held 33 v d p) : ∃ L, NdI w v L := by
  obtain ⟨fuel, hf⟩ := h
  rw [hv] at hf
  rcases Go.Deep.open_slice Tryz.underlying33 hf with ⟨hcs, _⟩ | ⟨a, len, cap, m, n, D, Pl, hcs, hb, hl, hm, hmm, _, hx⟩
  · simp only [List.cons.injEq, and_true] at hcs
    subst hcs
    exact ⟨[], ⟨⟨none, 0, rfl⟩, fun i x hx => by simp at hx⟩, Nat.zero_le _, fun x hx => by simp at hx⟩
  · simp only [List.cons.injEq, and_true] at hcs
    subst hcs
    have hlm : len ≤ m := by rw [hmm]; split <;> omega
    rw [ce_n] at hx
    have hz : ∀ i : Fin len, ∃ x : Nd, (w.cell? (a.add (i.1 * 3)) = some (.int .i64 x.k) ∧ w.cell? (a.add (i.1 * 3 + 1)) = some (.string x.t) ∧ w.cell? (a.add (i.1 * 3 + 2)) = some (.string x.m)) ∧ x.t.size ≤ maxLen ∧ x.m.size ≤ maxLen := fun i => by
      obtain ⟨cs', h1, h2⟩ := hx i.1 (by have := i.2; omega)
      obtain ⟨x, rfl, hs, hu⟩ := node_cells _ _ _ h2
      obtain ⟨_, _, hcell⟩ := World.cells?_some h1
      have e0 := hcell 0 (by omega)
      have e1 := hcell 1 (by omega)
      have e2 := hcell 2 (by omega)
      rw [Go.Deep.add_add] at e0 e1 e2
      exact ⟨x, ⟨by simpa using e0, by simpa using e1, by simpa using e2⟩, hs, hu⟩
    refine ⟨(List.finRange len).map fun i => Classical.choose (hz i), ⟨⟨some a, cap, by simp⟩, fun i x hx' => ?_⟩, by simp; omega, fun x hx' => ?_⟩
    · simp only [List.getElem?_map, Option.map_eq_some_iff] at hx'
      obtain ⟨j, hj, rfl⟩ := hx'
      have hjl := (List.getElem?_eq_some_iff.1 hj).1
      simp only [List.length_finRange] at hjl
      have hji : j.1 = i := by
        have := (List.getElem?_eq_some_iff.1 hj).2
        rw [← this]; simp
      subst hji
      obtain ⟨u0, h0⟩ : ∃ u, w.cell? (a.add 0) = some u := by
        obtain ⟨x, ⟨h, _⟩, _⟩ := hz ⟨0, by omega⟩
        exact ⟨_, by simpa using h⟩
      rw [Addr.add_zero'] at h0
      have hs := spot_of h0
      obtain ⟨⟨c0, c1, c2⟩, _⟩ := Classical.choose_spec (hz j)
      generalize Classical.choose (hz j) = y at c0 c1 c2 ⊢
      obtain ⟨ab, ao, asp⟩ := a
      simp only [Addr.mk.injEq, true_and] at hs
      obtain ⟨rfl, hlt⟩ := hs
      rw [addr_add] at c0 c1 c2
      exact ⟨ab, ao, cap, by simp, hlt, c0, c1, c2⟩
    · obtain ⟨j, _, rfl⟩ := List.mem_map.1 hx'
      exact (Classical.choose_spec (hz j)).2
end
end Go.Proofs.YtbamkklhkhglnaaGreatDoor.LwB

/-
  The law's own functions over nodes: sizes, copies, comparison, marks.
-/
namespace Go.Proofs.YtbamkklhkhglnaaGreatDoor.LwC
open Go.RowKit Go.Lib Go.Proofs Go.Proofs.YtbamkklhkhglnaaGreatDoor Go.Proofs.YtbamkklhkhglnaaGreatDoor.Tow Go.Proofs.YtbamkklhkhglnaaGreatDoor.NumPlain Go.Proofs.YtbamkklhkhglnaaGreatDoor.LbC Go.Proofs.YtbamkklhkhglnaaGreatDoor.LbN Go.Proofs.YtbamkklhkhglnaaGreatDoor.LwA Go.Proofs.YtbamkklhkhglnaaGreatDoor.LwB
open Go.Proofs.YtbamkklhkhglnaaGreatDoor.DwB (row3f put3)
set_option linter.unusedVariables false
set_option linter.unusedSimpArgs false

/-- what is left of a budget; below 0 it is used up -/
def SzR (l : Int) (c : Prop) (w : World) (e : Ending) (w' : World) : Prop := ∃ r : Int, e = .returned (.int .i64 r) ∧ Below w.heap.size w w' ∧ r ≤ l ∧ -1 ≤ r ∧ (0 ≤ r → c)
set_option maxHeartbeats 1000000 in
theorem szn_any (x : Nd) (l : Int) (hl0 : 0 ≤ l) (hl1 : l ≤ 1048576) (ht : x.t.size ≤ maxLen) (hm : x.m.size ≤ maxLen) (w : World) :
    Calls Tryz.prog 35 #[.agg #[.int .i64 x.k, .string x.t, .string x.m], .int .i64 l] w (SzR l (x.t.size ≤ 1048576 ∧ x.m.size ≤ 1048576) w) := by
  unfold maxLen at ht hm
  obtain ⟨kk, t, m⟩ := x
  simp only at ht hm ⊢
  have HB := Lib.hid (show Below w.heap.size w (w.alloc (.cells #[.int .i64 kk, .string t, .string m] 65)) from (Below.refl _ _).alloc (Nat.le_refl _) _)
  have hrow : (w.alloc (.cells #[.int .i64 kk, .string t, .string m] 65)).heap[w.heap.size]? = some (.cells #[.int .i64 kk, .string t, .string m] 65 (0, 0)) := World.alloc_heap_new w _
  obtain ⟨⟨s0, s1, s2⟩, -⟩ := row3f hrow
  have hw1 : IntKind.i64.wrap (l - (t.size : Int)) = l - (t.size : Int) := IntWalk.i64_in _ (by omega)
  clear hrow
  by_cases h1 : l - (t.size : Int) < 0
  · go_enter Tryz.func35, Tryz.ntmps35
    go_wp2_with fail
    go_ret
    exact ⟨-1, rfl, HB.out, by omega, by omega, fun h => by omega⟩
  · have hw2 : IntKind.i64.wrap (l - (t.size : Int) - (m.size : Int)) = l - (t.size : Int) - (m.size : Int) := IntWalk.i64_in _ (by omega)
    by_cases h2 : l - (t.size : Int) - (m.size : Int) < 0
    · go_enter Tryz.func35, Tryz.ntmps35
      go_wp2_with fail
      go_ret
      exact ⟨-1, rfl, HB.out, by omega, by omega, fun h => by omega⟩
    · go_enter Tryz.func35, Tryz.ntmps35
      go_wp2_with fail
      go_ret
      exact ⟨_, rfl, HB.out, by omega, by omega, fun h => by omega⟩
/-- the nodes of a slice, one by one -/
theorem nds_at {w : World} {a : Option Addr} {n c : Nat} {L : List Nd} (h : NdS w (.slice a n c) L) {W : World} (hb : Below w.heap.size w W) {i : Nat} {x : Nd} (hx : L[i]? = some x) :
    ∃ b o, a = some ⟨b, o, none⟩ ∧ b < W.heap.size ∧ W.cell? ⟨b, o + i * 3, none⟩ = some (.int .i64 x.k) ∧ W.cell? ⟨b, o + i * 3 + 1, none⟩ = some (.string x.t) ∧ W.cell? ⟨b, o + i * 3 + 2, none⟩ = some (.string x.m) := by
  obtain ⟨b, o, c', h1, h2, h3, h4, h5⟩ := (h.below hb).at_ i x hx
  have : a = some ⟨b, o, none⟩ := (Value.slice.inj h1).1
  exact ⟨b, o, this, h2, h3, h4, h5⟩
/-- nodes of a bounded size -/
def SzOk (L : List Nd) : Prop := L.length ≤ 1048576 ∧ ∀ x ∈ L, x.t.size ≤ 1048576 ∧ x.m.size ≤ 1048576
set_option maxHeartbeats 2000000 in
theorem szs_any (L : List Nd) (v : Value) (w : World) (h : NdI w v L) : Calls Tryz.prog 15 #[v, .int .i64 1048576] w (SzR 1048576 (SzOk L) w) := by
  obtain ⟨a, c, rfl⟩ := h.nd.form
  obtain ⟨n, hn⟩ : ∃ n, L.length = n := ⟨_, rfl⟩
  have HN := Lib.hid hn
  have HSZ := Lib.hid h.sz
  have hlen := h.len
  have hnd := h.nd
  unfold maxLen at hlen
  rw [hn] at hlen hnd ⊢
  have HAT := Lib.hid (fun (W : World) (hb : Below w.heap.size w W) (i : Nat) (x : Nd) (hx : L[i]? = some x) => nds_at hnd hb hx)
  have HSN := Lib.hid (fun (x : Nd) (hx : x ∈ L) (l : Int) h0 h1 W => szn_any x l h0 h1 (HSZ.out x hx).1 (HSZ.out x hx).2 W)
  clear h hn hnd
  obtain ⟨big, hbig⟩ : ∃ big : Int, 1048576 = big := ⟨_, rfl⟩
  have HBIG := Lib.hid hbig
  have hw1 : IntKind.i64.wrap (1048576 - (n : Int)) = 1048576 - (n : Int) := IntWalk.i64_in _ (by omega)
  clear hbig
  by_cases h1 : (1048576 : Int) - (n : Int) < 0
  · go_enter Tryz.func15, Tryz.ntmps15
    go_wp2_with fail
    go_ret
    exact ⟨-1, rfl, Below.refl _ _, by omega, by omega, fun h => by omega⟩
  · have hn2 : n ≤ 1048576 := by omega
    go_enter Tryz.func15, Tryz.ntmps15
    go_wp2_with fail
    go_loopw [1, 5] (fun lv iv wr => ∃ (i : Nat) (l : Int), i ≤ n ∧ lv = .int .i64 l ∧ iv = .int .i64 (i : Int) ∧ 0 ≤ l ∧ l ≤ 1048576 ∧ Hid (∀ (j : Nat) (x : Nd), j < i → L[j]? = some x → x.t.size ≤ 1048576 ∧ x.m.size ≤ 1048576) ∧ Hid (Below w.heap.size w wr)) (fun _ iv _ => n - (intOf iv).toNat)
    case atStart => exact ⟨0, _, Nat.zero_le _, rfl, rfl, by omega, by omega, Lib.hid (fun j x hj => absurd hj (by omega)), Lib.hid (Below.refl _ _)⟩
    case round =>
      obtain ⟨i, l, hi, rfl, rfl, hl0, hl1, HD, HB⟩ := hrel
      by_cases hlt : i < n
      · have hki : (i : Int) < (n : Int) := by omega
        obtain ⟨x, hx⟩ : ∃ x, L[i]? = some x := ⟨_, List.getElem?_eq_getElem (by rw [HN.out]; exact hlt)⟩
        obtain ⟨b, o, rfl, hbl, q0, q1, q2⟩ := HAT.out wr HB.out i x hx
        have HSX := Lib.hid (HSN.out x (List.mem_of_getElem? hx) l hl0 hl1 wr)
        have HX := Lib.hid hx
        clear hx
        go_upto_region 8 with (first | (go_at_call 35; refine HSX.out.mono ?_; rintro e w2 ⟨r, rfl, hb2, hr1, hr2, hr3⟩) | fail)
        have HB2 := Lib.hid (HB.out.trans (hb2.mono HB.out.size))
        clear hb2
        by_cases hr0 : r < 0
        · clear hr3
          go_wp2_with fail
          go_ret
          exact ⟨-1, rfl, HB2.out, by omega, by omega, fun h => by omega⟩
        · have HD2 := Lib.hid (show ∀ (j : Nat) (y : Nd), j < i + 1 → L[j]? = some y → y.t.size ≤ 1048576 ∧ y.m.size ≤ 1048576 from fun j y hj hy => by
            by_cases hji : j = i
            · rw [hji, HX.out] at hy
              obtain rfl := Option.some.inj hy
              exact hr3 (by omega)
            · exact HD.out j y (by omega) hy)
          clear hr3
          go_wp2_with fail
          go_roundw
          case rel => exact ⟨i + 1, r, by omega, rfl, by go_num, by omega, by omega, HD2, HB2⟩
          case measure => simp [intOf]; omega
      · obtain rfl : n = i := by omega
        have hki : ¬ (n : Int) < (n : Int) := by omega
        go_wp2_with fail
        go_ret
        exact ⟨l, rfl, HB.out, hl1, by omega, fun _ => ⟨by rw [HN.out]; exact hn2, fun x hx => by
          obtain ⟨j, hj⟩ := List.getElem?_of_mem hx
          exact HD.out j x (by have := (List.getElem?_eq_some_iff.1 hj).1; rw [HN.out] at this; exact this) hj⟩⟩
/-- the cells of nodes -/
def ncs (L : List Nd) : List Value := L.flatMap fun x => [.int .i64 x.k, .string x.t, .string x.m]
theorem ncs_len (L : List Nd) : (ncs L).length = L.length * 3 := by
  unfold ncs
  induction L with
  | nil => rfl
  | cons x l ih => rw [List.flatMap_cons, List.length_append, ih, List.length_cons]; simp; omega
theorem ncs_snoc (L : List Nd) (x : Nd) : ncs (L ++ [x]) = ncs L ++ [.int .i64 x.k, .string x.t, .string x.m] := by
  unfold ncs
  rw [List.flatMap_append]
  rfl
theorem ncs_at {L : List Nd} {i : Nat} {x : Nd} (h : L[i]? = some x) : (ncs L)[i * 3]? = some (.int .i64 x.k) ∧ (ncs L)[i * 3 + 1]? = some (.string x.t) ∧ (ncs L)[i * 3 + 2]? = some (.string x.m) := by
  induction L generalizing i with
  | nil => simp at h
  | cons a l ih =>
    have e : ncs (a :: l) = [.int .i64 a.k, .string a.t, .string a.m] ++ ncs l := rfl
    rw [e]
    cases i with
    | zero =>
      obtain rfl : a = x := by simpa using h
      exact ⟨rfl, rfl, rfl⟩
    | succ i =>
      obtain ⟨h1, h2, h3⟩ := ih (i := i) (by simpa using h)
      refine ⟨?_, ?_, ?_⟩
      · rw [List.getElem?_append_right (by simp; omega), ← h1]; congr 1; simp; omega
      · rw [List.getElem?_append_right (by simp; omega), ← h2]; congr 1; simp; omega
      · rw [List.getElem?_append_right (by simp; omega), ← h3]; congr 1; simp; omega
/-- nodes that a call has copied -/
def OwnN (B : Nat) (W : World) (v : Value) (L : List Nd) : Prop := W.ownsRow B 63 3 v L.length (ncs L) ∧ ∃ g, v = .slice (some ⟨g, 0, none⟩) L.length L.length
theorem OwnN.nds {B : Nat} {W : World} {v : Value} {L : List Nd} (h : OwnN B W v L) : NdS W v L := by
  obtain ⟨h1, g, rfl⟩ := h
  refine ⟨⟨_, _, rfl⟩, fun i x hx => ?_⟩
  obtain ⟨k1, k2, k3⟩ := ncs_at hx
  have hl := (List.getElem?_eq_some_iff.1 hx).1
  refine ⟨g, 0, _, rfl, (h1.lt g rfl).2, ?_, ?_, ?_⟩
  · rw [Nat.zero_add, h1.cellAt _ (by omega)]; exact k1
  · rw [Nat.zero_add, h1.cellAt _ (by omega)]; exact k2
  · rw [Nat.zero_add, h1.cellAt _ (by omega)]; exact k3
theorem OwnN.below {B : Nat} {W W' : World} {v : Value} {L : List Nd} (h : OwnN B W v L) (hb : Below W.heap.size W W') : OwnN B W' v L :=
  ⟨ownsRow_keep h.1 (S := fun _ => True) (Keep.of_below hb) fun _ _ => trivial, h.2⟩
set_option maxHeartbeats 1000000 in
theorem ton_any (x : Nd) (w : World) : Calls Tryz.prog 36 #[.agg #[.int .i64 x.k, .string x.t, .string x.m]] w fun e w' => e = .returned (.agg #[.int .i64 x.k, .string x.t, .string x.m]) ∧ Below w.heap.size w w' := by
  obtain ⟨k, t, m⟩ := x
  simp only
  go_enter Tryz.func36, Tryz.ntmps36
  go_wp2
  have hrow : (((w.alloc (.cells #[.int .i64 k, .string t, .string m] 65)).alloc (.cells #[.int .i64 k, .string t, .string m] 63)).alloc (.cells #[.int .i64 k, .string t, .string m] 63)).heap[w.heap.size + 1]? = some (.cells #[.int .i64 k, .string t, .string m] 63 (0, 0)) := by
    have h := World.alloc_heap_new (w.alloc (.cells #[.int .i64 k, .string t, .string m] 65)) (.cells #[.int .i64 k, .string t, .string m] 63)
    rw [World.size_alloc] at h
    exact (Below.heap_alloc _ _ _ (by simp)).trans h
  obtain ⟨⟨z0, z1, z2⟩, -⟩ := row3f hrow
  exact bodyPost_ret (v := .agg #[.int .i64 k, .string t, .string m]) (by simp [results, Tryz.results36, go_sem, z0, z1, z2]) rfl ⟨rfl, (((Below.refl _ w).alloc (Nat.le_refl _) _).alloc (by simp) _).alloc (by simp only [World.size_alloc]; omega) _⟩
theorem infoNd : (Tryz.prog.info? 63).map (fun i => (i.zero, i.size, i.bytes)) = some (some (.agg #[.int .i64 0, .string ByteArray.empty, .string ByteArray.empty]), 3, 40) := by kernel_rfl
theorem tri_take {vs : List Value} {i : Nat} (h : i * 3 + 3 ≤ vs.length) (a b c : Value) : ((((vs.set (i * 3) a).set (i * 3 + 1) b).set (i * 3 + 2) c)).take ((i + 1) * 3) = vs.take (i * 3) ++ [a, b, c] := by
  refine List.ext_getElem? fun j => ?_
  rw [List.getElem?_take]
  by_cases h3 : j < i * 3
  · rw [if_pos (by omega), List.getElem?_set_ne (by omega), List.getElem?_set_ne (by omega), List.getElem?_set_ne (by omega), List.getElem?_append_left (by rw [List.length_take]; omega), List.getElem?_take, if_pos h3]
  · rw [List.getElem?_append_right (by rw [List.length_take]; omega), List.length_take, Nat.min_eq_left (by omega)]
    by_cases h0 : j = i * 3
    · subst h0
      rw [if_pos (by omega), List.getElem?_set_ne (by omega), List.getElem?_set_ne (by omega), List.getElem?_set_self (by omega)]
      simp
    · by_cases h1 : j = i * 3 + 1
      · subst h1
        rw [if_pos (by omega), List.getElem?_set_ne (by omega), List.getElem?_set_self (by rw [List.length_set]; omega)]
        simp
      · by_cases h2 : j = i * 3 + 2
        · subst h2
          rw [if_pos (by omega), List.getElem?_set_self (by rw [List.length_set, List.length_set]; omega)]
          simp
        · rw [if_neg (by omega), List.getElem?_eq_none (by simp; omega)]
set_option maxHeartbeats 2000000 in
theorem tos_any (L : List Nd) (v : Value) (w : World) (h : NdS w v L) (hl : L.length ≤ 1048576) : Calls Tryz.prog 17 #[v] w fun e w' => ∃ u, e = .returned u ∧ OwnN w.heap.size w' u L ∧ Below w.heap.size w w' := by
  obtain ⟨a, c, rfl⟩ := h.form
  obtain ⟨n, hn⟩ : ∃ n, L.length = n := ⟨_, rfl⟩
  have HN := Lib.hid hn
  rw [hn] at h hl ⊢
  have HAT := Lib.hid (fun (W : World) (hb : Below w.heap.size w W) (i : Nat) (x : Nd) (hx : L[i]? = some x) => nds_at h hb hx)
  obtain ⟨i0, hi, hz0, hz1, hz2⟩ := info_parts infoNd
  obtain ⟨w1, hmk, ho1, hg1⟩ := run_make_full (P := Tryz.prog) (w := w) w.heap.size 25 63 i0 _ 3 Tryz.underlying25 hi hz0 hz1 .i64 .i64 n (by rw [hz2]; omega) (by unfold maxLen; omega) (Nat.le_refl _)
  obtain ⟨g, hg⟩ : ∃ g, w.heap.size = g := ⟨_, rfl⟩
  have HG := Lib.hid hg
  have HO1 := Lib.hid ho1
  have HB1 := Lib.hid (show Below w.heap.size w w1 from (Below.refl _ _).grown hg1 (Nat.le_refl _) (fun k e => by cases e))
  rw [hg] at hmk HO1
  have hl9 : (n : Int) ≤ 9223372036854775807 := by omega
  clear h hn hl hi hz0 hz1 hz2 ho1 hg1 hg
  go_enter Tryz.func17, Tryz.ntmps17
  go_wp2_with fail
  clear hmk
  go_loopw [4] (fun iv wr => ∃ (i : Nat) (vs : List Value), i ≤ n ∧ iv = .int .i64 (i : Int) ∧ Hid (wr.ownsRow g 63 3 (.slice (some ⟨g, 0, none⟩) n n) n vs) ∧ Hid (vs.length = n * 3 ∧ vs.take (i * 3) = ncs (L.take i)) ∧ Hid (Below w.heap.size w wr)) (fun iv _ => n - (intOf iv).toNat)
  case atStart => exact ⟨0, _, Nat.zero_le _, rfl, HO1, Lib.hid ⟨HO1.out.1, by simp [ncs]⟩, HB1⟩
  case round =>
    clear HO1 HB1
    obtain ⟨i, vs, hi, rfl, HO, HV, HB⟩ := hrel
    by_cases hlt : i < n
    · have hki : (i : Int) < (n : Int) := by omega
      have hi64 : (i : Int) + 1 ≤ 9223372036854775807 := by omega
      obtain ⟨x, hx⟩ : ∃ x, L[i]? = some x := ⟨_, List.getElem?_eq_getElem (by rw [HN.out]; exact hlt)⟩
      obtain ⟨b, o, rfl, hbl, q0, q1, q2⟩ := HAT.out wr HB.out i x hx
      have HTK := Lib.hid (show ncs (L.take (i + 1)) = ncs (L.take i) ++ [.int .i64 x.k, .string x.t, .string x.m] from by
        rw [List.take_add_one, hx]
        exact ncs_snoc _ _)
      have HTO := Lib.hid (ton_any x wr)
      clear hx
      go_wp2_with (go_at_call 36; refine HTO.out.mono ?_; rintro e w2 ⟨rfl, hb2⟩; have HB2 := Lib.hid hb2; have HO2 := Lib.hid (ownsRow_keep HO.out (S := fun _ => True) (Keep.of_below hb2) fun _ _ => trivial); clear hb2; have hf0 := HO2.out.frozenAt (i * 3); have hf1 := HO2.out.frozenAt (i * 3 + 1); have hf2 := HO2.out.frozenAt (i * 3 + 2); obtain ⟨c0, hc0⟩ : ∃ cu, w2.cell? ⟨g, i * 3, none⟩ = some cu := ⟨_, (HO2.out.cellAt (i * 3) (by omega)).trans (List.getElem?_eq_getElem (by rw [HV.out.1]; omega))⟩; obtain ⟨c1, hc1⟩ : ∃ cu, w2.cell? ⟨g, i * 3 + 1, none⟩ = some cu := ⟨_, (HO2.out.cellAt (i * 3 + 1) (by omega)).trans (List.getElem?_eq_getElem (by rw [HV.out.1]; omega))⟩; obtain ⟨c2, hc2⟩ : ∃ cu, w2.cell? ⟨g, i * 3 + 2, none⟩ = some cu := ⟨_, (HO2.out.cellAt (i * 3 + 2) (by omega)).trans (List.getElem?_eq_getElem (by rw [HV.out.1]; omega))⟩; have hgl2 := (HO2.out.lt g rfl).2)
      go_roundw
      case rel =>
        have h1 := (HO2.out.stored (i * 3) (.int .i64 x.k)).1
        have h2 := (h1.stored (i * 3 + 1) (.string x.t)).1
        have h3 := (h2.stored (i * 3 + 2) (.string x.m)).1
        have hgw : w.heap.size ≤ g := Nat.le_of_eq HG.out
        exact ⟨i + 1, _, by omega, by go_num, Lib.hid h3, Lib.hid ⟨by simp [HV.out.1], by rw [tri_take (by rw [HV.out.1]; omega), HV.out.2, HTK.out]⟩, Lib.hid ((((HB.out.trans (HB2.out.mono HB.out.size)).setCell (p := ⟨g, i * 3, none⟩) hgw _).setCell (p := ⟨g, i * 3 + 1, none⟩) hgw _).setCell (p := ⟨g, i * 3 + 2, none⟩) hgw _)⟩
      case measure => simp [intOf]; omega
    · obtain rfl : n = i := by omega
      have hki : ¬ (n : Int) < (n : Int) := by omega
      have HE := Lib.hid (show vs = ncs L from by
        have h1 := HV.out.2
        rw [List.take_of_length_le (by rw [HV.out.1]; exact Nat.le_refl _), List.take_of_length_le (by rw [HN.out]; exact Nat.le_refl _)] at h1
        exact h1)
      go_wp2_with fail
      go_ret
      refine ⟨_, rfl, ⟨?_, g, by rw [HN.out]; rfl⟩, HB.out⟩
      rw [HN.out, ← HE.out, HG.out]
      exact HO.out
set_option maxHeartbeats 1000000 in
theorem eqn_any (x : Nd) (w : World) : Calls Tryz.prog 39 #[.agg #[.int .i64 x.k, .string x.t, .string x.m], .agg #[.int .i64 x.k, .string x.t, .string x.m]] w fun e w' => e = .returned (.bool true) ∧ Below w.heap.size w w' := by
  obtain ⟨k, t, m⟩ := x
  simp only
  have hr1 : ((w.alloc (.cells #[.int .i64 k, .string t, .string m] 63)).alloc (.cells #[.int .i64 k, .string t, .string m] 63)).heap[w.heap.size]? = some (.cells #[.int .i64 k, .string t, .string m] 63 (0, 0)) := (Below.heap_alloc _ _ _ (by simp)).trans (World.alloc_heap_new w _)
  have hr2 : ((w.alloc (.cells #[.int .i64 k, .string t, .string m] 63)).alloc (.cells #[.int .i64 k, .string t, .string m] 63)).heap[w.heap.size + 1]? = some (.cells #[.int .i64 k, .string t, .string m] 63 (0, 0)) := by
    have h := World.alloc_heap_new (w.alloc (.cells #[.int .i64 k, .string t, .string m] 63)) (.cells #[.int .i64 k, .string t, .string m] 63)
    rwa [World.size_alloc] at h
  obtain ⟨⟨s0, s1, s2⟩, -⟩ := row3f hr1
  obtain ⟨⟨t0, t1, t2⟩, -⟩ := row3f hr2
  clear hr1 hr2
  go_enter Tryz.func39, Tryz.ntmps39
  go_wp2_with fail
  go_ret
  exact ⟨rfl, ((Below.refl _ w).alloc (Nat.le_refl _) _).alloc (by simp) _⟩
set_option maxHeartbeats 2000000 in
theorem eqns_any (L : List Nd) (v1 v2 : Value) (w : World) (h1 : NdS w v1 L) (h2 : NdS w v2 L) (hl : L.length ≤ 100000000) : Calls Tryz.prog 20 #[v1, v2] w fun e w' => e = .returned (.bool true) ∧ Below w.heap.size w w' := by
  obtain ⟨a1, c1, rfl⟩ := h1.form
  obtain ⟨a2, c2, rfl⟩ := h2.form
  obtain ⟨n, hn⟩ : ∃ n, L.length = n := ⟨_, rfl⟩
  have HN := Lib.hid hn
  rw [hn] at h1 h2 hl ⊢
  have HA1 := Lib.hid (fun (W : World) (hb : Below w.heap.size w W) (i : Nat) (x : Nd) (hx : L[i]? = some x) => nds_at h1 hb hx)
  have HA2 := Lib.hid (fun (W : World) (hb : Below w.heap.size w W) (i : Nat) (x : Nd) (hx : L[i]? = some x) => nds_at h2 hb hx)
  have hl9 : (n : Int) ≤ 9223372036854775807 := by omega
  clear h1 h2 hn hl
  go_enter Tryz.func20, Tryz.ntmps20
  go_wp2_with fail
  go_loopw [5] (fun iv wr => ∃ (i : Nat), i ≤ n ∧ iv = .int .i64 (i : Int) ∧ Hid (Below w.heap.size w wr)) (fun iv _ => n - (intOf iv).toNat)
  case atStart => exact ⟨0, Nat.zero_le _, rfl, Lib.hid (Below.refl _ _)⟩
  case round =>
    obtain ⟨i, hi, rfl, HB⟩ := hrel
    by_cases hlt : i < n
    · have hki : (i : Int) < (n : Int) := by omega
      have hi64 : (i : Int) + 1 ≤ 9223372036854775807 := by omega
      obtain ⟨x, hx⟩ : ∃ x, L[i]? = some x := ⟨_, List.getElem?_eq_getElem (by rw [HN.out]; exact hlt)⟩
      obtain ⟨b1, o1, rfl, hb1, p0, p1, p2⟩ := HA1.out wr HB.out i x hx
      obtain ⟨b2, o2, rfl, hb2, q0, q1, q2⟩ := HA2.out wr HB.out i x hx
      have HEX := Lib.hid (fun W => eqn_any x W)
      clear hx
      go_upto_region 6 with fail
      go_cut [26] (fun v W => v = .bool false ∧ Hid (Below wr.heap.size wr W))
      case first =>
        go_region_law
          (first | (go_simp; go_at_call 39; refine (HEX.out _).mono ?_; rintro e w2 ⟨rfl, hb2'⟩; have HB2 := Lib.hid (show Below wr.heap.size wr w2 from (by first | exact hb2' | exact ((Below.refl _ _).drew).trans hb2')); clear hb2') | (fail))
        all_goals
          go_wp2_with fail
          go_meet
          exact ⟨by simp, HB2⟩
      case rest =>
        obtain ⟨rfl, HB3⟩ := hcut
        rename World => w3
        go_wp2_with fail
        go_roundw
        case rel => exact ⟨i + 1, by omega, by go_num, Lib.hid (HB.out.trans (HB3.out.mono HB.out.size))⟩
        case measure => simp [intOf]; omega
    · obtain rfl : n = i := by omega
      have hki : ¬ (n : Int) < (n : Int) := by omega
      go_wp2_with fail
      go_ret
      exact ⟨rfl, HB.out⟩
set_option maxHeartbeats 2000000 in
theorem mkn_any (L : List Nd) (v : Value) (B : Nat) (w : World) (h : OwnN B w v L) (hl : L.length ≤ 10000000) :
    Calls Tryz.prog 21 #[v, .int .i64 1] w fun e w' => (∃ r : Int, e = .returned (.int .i64 r) ∧ 0 ≤ r) ∧ Keep (fun j => some j ≠ v.ownBlock) w w' ∧ Below B w w' := by
  obtain ⟨ho, g, rfl⟩ := h
  obtain ⟨n, hn⟩ : ∃ n, L.length = n := ⟨_, rfl⟩
  have hlen := ho.1
  rw [hn] at ho hl hlen ⊢
  have HM := Lib.hid (fun j (h1 : 1 ≤ j) (h2 : j ≤ 100000000) W => mark_any j h1 h2 W)
  have hl9 : (n : Int) ≤ 10000000 := by omega
  have HLN := Lib.hid hl9
  have HO0 := Lib.hid ho
  clear hn hl hl9 ho
  go_enter Tryz.func21, Tryz.ntmps21
  go_wp2_with fail
  go_loopw [1, 5] (fun kv iv wr => ∃ (i : Nat) (k : Nat) (vs : List Value), i ≤ n ∧ kv = .int .i64 (k : Int) ∧ Hid (k = 1 + 3 * i) ∧ iv = .int .i64 (i : Int) ∧ Hid (wr.ownsRow B 63 3 (.slice (some ⟨g, 0, none⟩) n n) n vs) ∧ Hid (Keep (fun j => some j ≠ (Value.slice (some ⟨g, 0, none⟩) n n).ownBlock) w wr) ∧ Hid (Below B w wr)) (fun _ iv _ => n - (intOf iv).toNat)
  case atStart => exact ⟨0, 1, _, Nat.zero_le _, rfl, Lib.hid rfl, rfl, HO0, Lib.hid (Keep.refl _ _), Lib.hid (Below.refl _ _)⟩
  case round =>
    clear HO0
    obtain ⟨i, k, vs, hi, rfl, HKK, rfl, HO, HK, HB⟩ := hrel
    by_cases hlt : i < n
    · have hlen := HO.out.1
      have HLE := Lib.hid hlen
      have HK4 := Lib.hid (show k ≤ 40000000 from by have h1 := HLN.out; have h2 := HKK.out; omega)
      have hki : (i : Int) < (n : Int) := by omega
      have hi64 : (i : Int) + 1 ≤ 9223372036854775807 := by have := HLN.out; omega
      have HM1 := Lib.hid (show ∀ W, Calls Tryz.prog 40 #[.int .i64 ((k : Int) + 1)] W (MtR (k + 1) W) from fun W => by
        have := HM.out (k + 1) (by omega) (by have := HK4.out; omega) W
        rwa [Int.natCast_add] at this)
      have HM2 := Lib.hid (show ∀ W, Calls Tryz.prog 40 #[.int .i64 ((k : Int) + 1 + 1)] W (MtR (k + 1 + 1) W) from fun W => by
        have := HM.out (k + 1 + 1) (by omega) (by have := HK4.out; omega) W
        rwa [Int.natCast_add, Int.natCast_add] at this)
      have hw1 : IntKind.i64.wrap ((k : Int) + 1) = (k : Int) + 1 := IntWalk.i64_in _ (by have := HK4.out; omega)
      have hw2 : IntKind.i64.wrap ((k : Int) + 1 + 1) = (k : Int) + 1 + 1 := IntWalk.i64_in _ (by have := HK4.out; omega)
      have hw3 : IntKind.i64.wrap ((k : Int) + 1 + 1 + 1) = (k : Int) + 1 + 1 + 1 := IntWalk.i64_in _ (by have := HK4.out; omega)
      have HAT := Lib.hid (fun (W : World) (us : List Value) (ho : W.ownsRow B 63 3 (.slice (some ⟨g, 0, none⟩) n n) n us) (j : Nat) (hj : j < n * 3) => show (∃ u, W.cell? ⟨g, j, none⟩ = some u) ∧ W.frozen? ⟨g, j, none⟩ = false ∧ g < W.heap.size ∧ B ≤ g from
        ⟨⟨_, (ho.cellAt j hj).trans (List.getElem?_eq_getElem (by rw [ho.1]; omega))⟩, ho.frozenAt j, (ho.lt g rfl).2, (ho.lt g rfl).1⟩)
      have HKP := Lib.hid (fun (W W' : World) (us : List Value) (ho : W.ownsRow B 63 3 (.slice (some ⟨g, 0, none⟩) n n) n us) (hb : Below W.heap.size W W') => ownsRow_keep ho (S := fun _ => True) (Keep.of_below hb) fun _ _ => trivial)
      obtain ⟨⟨c0, hc0⟩, hf0, hgl, hBg⟩ := HAT.out wr vs HO.out (i * 3) (by omega)
      have HBg := Lib.hid hBg
      go_upto_region 6 with fail
      obtain ⟨u1, hu1⟩ : ∃ u1, wr.setCell ⟨g, i * 3, none⟩ (.int .i64 (k : Int)) = u1 := ⟨_, rfl⟩
      have HO1 := Lib.hid (show u1.ownsRow B 63 3 (.slice (some ⟨g, 0, none⟩) n n) n (vs.set (i * 3) (.int .i64 (k : Int))) from by rw [← hu1]; exact (HO.out.stored (i * 3) _).1)
      have HK1 := Lib.hid (show Keep (fun j => some j ≠ (Value.slice (some ⟨g, 0, none⟩) n n).ownBlock) w u1 from by rw [← hu1]; exact HK.out.setCell (p := ⟨g, i * 3, none⟩) (by simp [Value.ownBlock]) _)
      have HB1 := Lib.hid (show Below B w u1 from by rw [← hu1]; exact HB.out.setCell (p := ⟨g, i * 3, none⟩) HBg.out _)
      rw [hu1]
      clear hu1 hc0 hf0 hgl HO HK HB
      go_upto_region 7 with (first | (go_at_call 40; refine (HM1.out _).mono ?_; rintro e w2 ⟨rfl, hb2⟩; have HB2 := Lib.hid hb2; have HO2 := Lib.hid (HKP.out _ _ _ HO1.out hb2); clear hb2; obtain ⟨⟨c1, hc1⟩, hf1, hgl2, -⟩ := HAT.out w2 _ HO2.out (i * 3 + 1) (by omega)) | fail)
      obtain ⟨u2, hu2⟩ : ∃ u2, w2.setCell ⟨g, i * 3 + 1, none⟩ (.string (ba (mtx (k + 1)))) = u2 := ⟨_, rfl⟩
      have HO3 := Lib.hid (show u2.ownsRow B 63 3 (.slice (some ⟨g, 0, none⟩) n n) n ((vs.set (i * 3) (.int .i64 (k : Int))).set (i * 3 + 1) (.string (ba (mtx (k + 1))))) from by rw [← hu2]; exact (HO2.out.stored (i * 3 + 1) _).1)
      have hbs : B ≤ u1.heap.size := by have h1 := HO1.out.lt g rfl; omega
      have HK3 := Lib.hid (show Keep (fun j => some j ≠ (Value.slice (some ⟨g, 0, none⟩) n n).ownBlock) w u2 from by rw [← hu2]; exact (HK1.out.trans (Keep.of_below HB2.out)).setCell (p := ⟨g, i * 3 + 1, none⟩) (by simp [Value.ownBlock]) _)
      have HB3 := Lib.hid (show Below B w u2 from by rw [← hu2]; exact (HB1.out.trans (HB2.out.mono hbs)).setCell (p := ⟨g, i * 3 + 1, none⟩) HBg.out _)
      rw [hu2]
      clear hu2 hc1 hf1 hgl2 HO1 HK1 HB1 HO2 HB2 hbs
      go_wp2_with (go_at_call 40; refine (HM2.out _).mono ?_; rintro e w4 ⟨rfl, hb4⟩; have HB4 := Lib.hid hb4; have HO4 := Lib.hid (HKP.out _ _ _ HO3.out hb4); clear hb4; obtain ⟨⟨c2, hc2⟩, hf2, hgl4, -⟩ := HAT.out w4 _ HO4.out (i * 3 + 2) (by omega))
      go_roundw
      case rel =>
        have hbs : B ≤ u2.heap.size := by have h1 := HO3.out.lt g rfl; omega
        exact ⟨i + 1, k + 3, _, by omega, congrArg (Value.int .i64) (by omega), Lib.hid (by have := HKK.out; omega), by go_num, Lib.hid (HO4.out.stored (i * 3 + 2) _).1, Lib.hid ((HK3.out.trans (Keep.of_below HB4.out)).setCell (p := ⟨g, i * 3 + 2, none⟩) (by simp [Value.ownBlock]) _), Lib.hid ((HB3.out.trans (HB4.out.mono hbs)).setCell (p := ⟨g, i * 3 + 2, none⟩) HBg.out _)⟩
      case measure => simp [intOf]; omega
    · obtain rfl : n = i := by omega
      have hki : ¬ (n : Int) < (n : Int) := by omega
      go_wp2_with fail
      go_ret
      exact ⟨⟨_, rfl, by omega⟩, HK.out, HB.out⟩
end Go.Proofs.YtbamkklhkhglnaaGreatDoor.LwC

/-
  The law FnExactVariablesOf: its walk.
-/
namespace Go.Proofs.YtbamkklhkhglnaaGreatDoor.LwD
open Go.RowKit Go.Lib Go.Proofs Go.Proofs.YtbamkklhkhglnaaGreatDoor Go.Proofs.YtbamkklhkhglnaaGreatDoor.Tow Go.Proofs.YtbamkklhkhglnaaGreatDoor.LbN Go.Proofs.YtbamkklhkhglnaaGreatDoor.LbO Go.Proofs.YtbamkklhkhglnaaGreatDoor.LbV Go.Proofs.YtbamkklhkhglnaaGreatDoor.LbW Go.Proofs.YtbamkklhkhglnaaGreatDoor.LwA Go.Proofs.YtbamkklhkhglnaaGreatDoor.LwB Go.Proofs.YtbamkklhkhglnaaGreatDoor.LwC Go.Proofs.YtbamkklhkhglnaaGreatDoor.TrA
set_option linter.unusedVariables false
set_option linter.unusedSimpArgs false

/-- the letters that both sides give -/
noncomputable def ans (L : List Nd) : List (List UInt8) := if isEx L then vsl L else []
theorem ans_len (L : List Nd) : (ans L).length ≤ 26 := by
  unfold ans
  split
  · exact vslN_le L 26
  · simp
theorem szs_of {L : List Nd} (h : SzOk L) : Szs L := fun x hx => by
  have := (h.2 x hx).1
  omega
/-- a copy, then the question -/
def OwnS (B : Nat) (W : World) (v : Value) (l : List (List UInt8)) : Prop := W.ownsRow B 9 1 v l.length (l.map encStr)
theorem OwnS.below {B : Nat} {W W' : World} {v : Value} {l : List (List UInt8)} (h : OwnS B W v l) (hb : Below W.heap.size W W') : OwnS B W' v l := ownsRow_keep h (S := fun _ => True) (Keep.of_below hb) fun _ _ => trivial
theorem OwnS.keep {B : Nat} {W W' : World} {v : Value} {l : List (List UInt8)} {S : Nat → Prop} (h : OwnS B W v l) (hk : Keep S W W') (hS : ∀ g, v.ownBlock = some g → S g) : OwnS B W' v l := by
  refine ⟨h.1, ?_⟩
  rcases h.2 with h0 | ⟨g, cap, cur, rfl, hb, hgb, hr⟩
  · exact .inl h0
  · exact .inr ⟨g, cap, cur, rfl, hb, (hk.block g (hS g rfl) (Array.getElem?_eq_some_iff.1 hgb).1).trans hgb, hr⟩
set_option maxRecDepth 100000 in
set_option maxHeartbeats 4000000 in
theorem law (v : Value) (L : List Nd) (w : World) (h : NdI w v L) (hv : Vars w) :
    Calls Tryz.prog 5 #[v] w fun e w' => e = .returned (.bool true) ∧ Below w.heap.size w w' := by
  have HSZ := Lib.hid (szs_any L v w h)
  have HND := Lib.hid h.nd
  have HV := Lib.hid hv
  obtain ⟨a, c, rfl⟩ := h.nd.form
  obtain ⟨n, hn⟩ : ∃ n, L.length = n := ⟨_, rfl⟩
  rw [hn] at HSZ HND ⊢
  clear h hv hn
  go_enter Tryz.func5, Tryz.ntmps5
  go_upto_region 3 with (first | (go_at_call 15; refine HSZ.out.mono ?_; rintro e w1 ⟨r, rfl, hb1, hr1, hr2, hr3⟩) | fail)
  have HB1 := Lib.hid hb1
  clear hb1 HSZ
  by_cases hr0 : r < 0
  · clear hr3
    go_wp2_with fail
    go_ret
    exact ⟨rfl, HB1.out⟩
  · have HOK := Lib.hid (hr3 (by omega))
    clear hr3 hr1 hr2
    have HTO := Lib.hid (fun (W : World) (hb : Below w.heap.size w W) => tos_any L _ W (HND.out.below hb) HOK.out.1)
    have HSV := Lib.hid (fun (W : World) (u : Value) (B : Nat) (h : OwnN B W u L) => sva_any L u W h.nds (szs_of HOK.out) (by have := HOK.out.1; omega))
    have HIV := Lib.hid (fun (W : World) (hb : Below w.heap.size w W) (u : Value) (B : Nat) (h : OwnN B W u L) => iva_any L u W h.nds (szs_of HOK.out) (by have := HOK.out.1; omega) (HV.out.below hb))
    go_upto_region 6 with (first | (go_at_call 17; refine (HTO.out _ HB1.out).mono ?_; rintro e w2 ⟨u2, rfl, ho2, hb2⟩; have HO2 := Lib.hid ho2; have HB2 := Lib.hid (HB1.out.trans (hb2.mono HB1.out.size)); clear ho2 hb2) | (go_at_call 16; refine (HSV.out _ _ _ HO2.out).mono ?_; rintro e w3 ⟨s3, rfl, hb3, ho3⟩) | fail)
    obtain ⟨cd, hcd⟩ : ∃ cd : Int, (if isEx L = true then 0 else 1) = cd := ⟨_, rfl⟩
    have HCD := Lib.hid hcd
    have HS3 := Lib.hid (show OwnS w2.heap.size w3 s3 (ans L) from ho3)
    have HB3 := Lib.hid (HB2.out.trans (hb3.mono HB2.out.size))
    rw [hcd]
    clear hcd ho3 hb3
    go_upto_region 8 with (first | (go_at_call 17; refine (HTO.out _ HB3.out).mono ?_; rintro e w4 ⟨u4, rfl, ho4, hb4⟩; have HO4 := Lib.hid ho4; have HB34 := Lib.hid hb4; have HB4 := Lib.hid (HB3.out.trans (hb4.mono HB3.out.size)); clear ho4 hb4) | (go_at_call 18; refine (HIV.out _ HB4.out _ _ HO4.out).mono ?_; rintro e w5 ⟨s5, rfl, hb5, ho5⟩; rw [HCD.out]; have HS5 := Lib.hid (show OwnS w4.heap.size w5 s5 (ans L) from ho5); have HB45 := Lib.hid hb5; have HB5 := Lib.hid (HB4.out.trans (hb5.mono HB4.out.size)); clear ho5 hb5) | fail)
    have HB35 := Lib.hid (HB34.out.trans (HB45.out.mono HB34.out.size))
    have HEQ := Lib.hid (fun (W : World) (x y : Value) (B1 B2 : Nat) (h1 : OwnS B1 W x (ans L)) (h2 : OwnS B2 W y (ans L)) => eqS_any (ans L) x y B1 B2 W h1 h2 (by have := ans_len L; omega))
    go_upto_region 10 with (first | (go_at_call 19; refine (HEQ.out _ _ _ _ _ HS5.out (HS3.out.below HB35.out)).mono ?_; rintro e w6 ⟨rfl, hb6⟩; have HB56 := Lib.hid hb6; have HB6 := Lib.hid (HB5.out.trans (hb6.mono HB5.out.size)); clear hb6) | fail)
    have HEN := Lib.hid (fun (W : World) (x y : Value) (h1 : NdS W x L) (h2 : NdS W y L) => eqns_any L x y W h1 h2 (by have := HOK.out.1; omega))
    go_upto_region 13 with (first | (go_at_call 17; refine (HTO.out _ HB6.out).mono ?_; rintro e w7 ⟨u7, rfl, ho7, hb7⟩; have HO7 := Lib.hid ho7; have HB67 := Lib.hid hb7; have HB7 := Lib.hid (HB6.out.trans (hb7.mono HB6.out.size)); have HB47 := Lib.hid ((HB45.out.trans (HB56.out.mono HB45.out.size)).trans (hb7.mono (Nat.le_trans HB45.out.size HB56.out.size))); clear ho7 hb7) | (go_at_call 20; refine (HEN.out _ _ _ (HO4.out.below HB47.out).nds HO7.out.nds).mono ?_; rintro e w8 ⟨rfl, hb8⟩; have HB78 := Lib.hid hb8; have HB8 := Lib.hid (HB7.out.trans (hb8.mono HB7.out.size)); clear hb8) | fail)
    have HB58 := Lib.hid (show Below w5.heap.size w5 w8 from (HB56.out.trans (HB67.out.mono HB56.out.size)).trans (HB78.out.mono (Nat.le_trans HB56.out.size HB67.out.size)))
    have HS58 := Lib.hid (HS5.out.below HB58.out)
    have HS38 := Lib.hid ((HS3.out.below HB35.out).below HB58.out)
    have HO48 := Lib.hid ((HO4.out.below HB45.out).below HB58.out)
    have HLT3 := Lib.hid (show ∀ g, s3.ownBlock = some g → g < w3.heap.size from fun g e => (HS3.out.lt g e).2)
    have HGE5 := Lib.hid (show ∀ g, s5.ownBlock = some g → w4.heap.size ≤ g from fun g e => (HS5.out.lt g e).1)
    have HU4 := Lib.hid (show ∀ g, u4.ownBlock = some g → w3.heap.size ≤ g ∧ g < w4.heap.size from fun g e => HO4.out.1.lt g e)
    have HW := Lib.hid (show w.heap.size ≤ w3.heap.size ∧ w3.heap.size ≤ w4.heap.size ∧ w4.heap.size ≤ w5.heap.size from ⟨HB3.out.size, HB34.out.size, HB45.out.size⟩)
    have HMN := Lib.hid (mkn_any L u4 w3.heap.size w8 HO48.out (by have := HOK.out.1; omega))
    go_upto_region 14 with (first | (go_at_call 21; refine HMN.out.mono ?_; rintro e w9 ⟨⟨r9, rfl, hr9⟩, hk9, hb9⟩) | fail)
    have HS59 := Lib.hid (HS58.out.keep hk9 (fun g e he => by have h1 := HGE5.out g e; have h2 := HU4.out g he.symm; omega))
    have HS39 := Lib.hid (HS38.out.keep hk9 (fun g e he => by have h1 := HLT3.out g e; have h2 := HU4.out g he.symm; omega))
    have HB9 := Lib.hid (HB8.out.trans (hb9.mono HW.out.1))
    have hr9n : ¬ r9 < 0 := by omega
    clear hk9 hb9 hr9
    go_upto_region 17 with (first | (go_at_call 19; refine (HEQ.out _ _ _ _ _ HS59.out HS39.out).mono ?_; rintro e w10 ⟨rfl, hb10⟩; have HB910 := Lib.hid hb10; have HB10 := Lib.hid (HB9.out.trans (hb10.mono HB9.out.size)); clear hb10) | fail)
    obtain ⟨m, hm⟩ : ∃ m, (ans L).length = m := ⟨_, rfl⟩
    have hm26 := ans_len L
    obtain ⟨qv, hqv⟩ : ∃ qv : Int, (1 : Int) + (m : Int) = qv := ⟨_, rfl⟩
    have hq0 : ¬ qv < 0 := by omega
    have HS510 := Lib.hid (show w10.ownsRow w4.heap.size 9 1 s5 m ((ans L).map encStr) from by rw [← hm]; exact HS59.out.below HB910.out)
    have HS310 := Lib.hid (HS39.out.below HB910.out)
    have HMS := Lib.hid (show Calls Tryz.prog 22 #[s5, .int .i64 1] w10 fun e w' => e = .returned (.int .i64 qv) ∧ w'.ownsRow w4.heap.size 9 1 s5 m ((mks 1 m).map encStr) ∧ Keep (fun j => some j ≠ s5.ownBlock) w10 w' ∧ Below w4.heap.size w10 w' from by
      rw [← hqv]
      exact mkS_any 1 m (by omega) (by omega) s5 _ _ w10 HS510.out)
    have HHD := Lib.hid (fun (W : World) (ho : W.ownsRow w4.heap.size 9 1 s5 m ((mks 1 m).map encStr)) => show Calls Tryz.prog 23 #[s5, .int .i64 1] W fun e w' => e = .returned (.int .i64 qv) ∧ Below W.heap.size W w' from by
      rw [← hqv]
      exact hdS_any 1 m (by omega) (by omega) s5 _ W ho)
    clear hm hqv hm26
    go_upto_region 18 with (first | (go_at_call 22; refine HMS.out.mono ?_; rintro e w11 ⟨rfl, ho11, hk11, hb11⟩) | fail)
    have HO11 := Lib.hid ho11
    have HS311 := Lib.hid (HS310.out.keep hk11 (fun g e he => by have h1 := HLT3.out g e; have h2 := HGE5.out g he.symm; have h3 := HW.out; omega))
    have HB11 := Lib.hid (HB10.out.trans (hb11.mono (by have := HW.out; omega)))
    clear ho11 hk11 hb11 HMS
    go_upto_region 24 with (first | (go_at_call 23; refine (HHD.out _ HO11.out).mono ?_; rintro e w12 ⟨rfl, hb12⟩; have HB1112 := Lib.hid hb12; have HB12 := Lib.hid (HB11.out.trans (hb12.mono HB11.out.size)); clear hb12) | fail)
    go_upto_region 25 with (first | (go_at_call 17; refine (HTO.out _ HB12.out).mono ?_; rintro e w13 ⟨u13, rfl, ho13, hb13⟩; have HO13 := Lib.hid ho13; have HB1213 := Lib.hid hb13; have HB13 := Lib.hid (HB12.out.trans (hb13.mono HB12.out.size)); clear ho13 hb13) | (go_at_call 18; refine (HIV.out _ HB13.out _ _ HO13.out).mono ?_; rintro e w14 ⟨s14, rfl, hb14, ho14⟩; rw [HCD.out]; have HS14 := Lib.hid (show OwnS w13.heap.size w14 s14 (ans L) from ho14); have HB1314 := Lib.hid hb14; have HB14 := Lib.hid (HB13.out.trans (hb14.mono HB13.out.size)); clear ho14 hb14) | fail)
    have HB1114 := Lib.hid (show Below w11.heap.size w11 w14 from (HB1112.out.trans (HB1213.out.mono HB1112.out.size)).trans (HB1314.out.mono (Nat.le_trans HB1112.out.size HB1213.out.size)))
    have HS314 := Lib.hid (HS311.out.below HB1114.out)
    go_upto_region 28 with (first | (go_at_call 19; refine (HEQ.out _ _ _ _ _ HS14.out HS314.out).mono ?_; rintro e w15 ⟨rfl, hb15⟩; have HB1415 := Lib.hid hb15; have HB15 := Lib.hid (HB14.out.trans (hb15.mono HB14.out.size)); clear hb15) | fail)
    have HO15 := Lib.hid (ownsRow_keep HO11.out (S := fun _ => True) ((Keep.of_below HB1114.out).trans (Keep.of_below HB1415.out)) fun _ _ => trivial)
    go_wp2_with (go_at_call 23; refine (HHD.out _ HO15.out).mono ?_; rintro e w16 ⟨rfl, hb16⟩)
    go_ret
    exact ⟨rfl, HB15.out.trans (hb16.mono HB15.out.size)⟩
end Go.Proofs.YtbamkklhkhglnaaGreatDoor.LwD

import Derived.Test.YtabkibmnghbahaaGreatSpecP
/-
  spec.l12Full, spec.l12Close at the trivial group.
-/
namespace Go.Proofs.YtabkibmnghbahaaGreat.SpecPZ
open Go.RowKit Go.Proofs.YtabkibmnghbahaaGreat Go.Proofs.YtabkibmnghbahaaGreat.Tow Go.Proofs.YtabkibmnghbahaaGreat.Gen Go.Proofs.YtabkibmnghbahaaGreat.GenC Go.Proofs.YtabkibmnghbahaaGreat.GenL Go.Proofs.YtabkibmnghbahaaGreat.Tab Go.Proofs.YtabkibmnghbahaaGreat.SpecB Go.Proofs.YtabkibmnghbahaaGreat.SpecO Go.Proofs.YtabkibmnghbahaaGreat.SpecP
set_option linter.unusedVariables false
set_option linter.unusedSimpArgs false

theorem bz1 {w wr : World} {a0 a1 a2 : Value} {t : TypeId} (hb : Below (w.heap.size + 1) (w.alloc (.cells #[a0, a1, a2] t)) wr) :
    (wr.cell? ⟨w.heap.size, 0, none⟩ = some a0 ∧ wr.cell? ⟨w.heap.size, 1, none⟩ = some a1 ∧ wr.cell? ⟨w.heap.size, 2, none⟩ = some a2) ∧
    Keep Any w wr ∧ Below w.heap.size w wr ∧ w.heap.size + 1 ≤ wr.heap.size := ⟨box_cells hb, keep_boxed hb _, below_unboxed hb, by have := hb.size; simpa using this⟩
def NilR (w : World) (e : Ending) (w' : World) : Prop := ∃ v, e = .returned v ∧ Sl2 Any w' v [] ∧ Below w.heap.size w w'
theorem mk0 (w : World) : (Instr.makeSlice 23 (.int .i64 0) (.int .i64 0)).run Tryz.prog w = .ok (.slice (some ⟨w.heap.size, 0, none⟩) 0 0) (w.alloc (.cells (madeCells #[.slice none 0 0] 0) 22)) := mk23 0 (by omega) w
theorem sl2_nil (w : World) (b o c : Nat) (hc : c ≤ maxLen) : Sl2 Any w (.slice (some ⟨b, o, none⟩) 0 c) [] := ⟨_, c, rfl, Nat.zero_le _, hc, fun h => (by cases h), fun i x hx => (by simp at hx)⟩
set_option maxRecDepth 100000 in
set_option maxHeartbeats 1000000 in
theorem full0_any (w : World) (vO vP vC : Value) (aT : Option Addr) (cT : Nat) : Calls Tryz.prog 165 #[.agg #[vO, vP, vC], .slice aT 0 cT] w (NilR w) := by
  have hmk := mk0
  obtain ⟨W0, hW0⟩ : ∃ W0, W0 = w.alloc (.cells #[vO, vP, vC] 30) := ⟨_, rfl⟩
  have HB0 := Lib.hid (show Below (w.heap.size + 1) (w.alloc (.cells #[vO, vP, vC] 30)) W0 by rw [hW0]; exact Below.refl _ _)
  have HB1 := Lib.hid (show Below (w.heap.size + 1) (w.alloc (.cells #[vO, vP, vC] 30)) (W0.alloc (.cells (madeCells #[.slice none 0 0] 0) 22)) from HB0.out.alloc (bz1 HB0.out).2.2.2 _)
  go_enter Tryz.func165, Tryz.ntmps165
  go_upto_region 1 with fail
  rw [← hW0]
  clear hW0
  obtain ⟨g, hg⟩ : ∃ g, W0.heap.size = g := ⟨_, rfl⟩
  go_wp2_with fail
  go_loopw [6] (fun dv wr => dv = .int .i64 (-1) ∧ Hid (Below (w.heap.size + 1) (w.alloc (.cells #[vO, vP, vC] 30)) wr)) (fun _ _ => 0)
  case atStart => exact ⟨by first | rfl | simp, HB1⟩
  case round =>
    obtain ⟨rfl, hB⟩ := hrel
    have hd : decide ((-1 : Int) ≥ 0) = false := by decide
    clear HB1 HB0
    have hsB := (bz1 hB.out).2.2.2
    go_wp2_with fail
    rename World => wo
    have HB2 := Lib.hid (hB.out.alloc hsB (.cells #[] 22))
    go_loopw [9, 10] (fun ov iv wr => (∃ b, ov = .slice (some ⟨b, 0, none⟩) 0 0) ∧ iv = .int .i64 0 ∧ Hid (Below (w.heap.size + 1) (w.alloc (.cells #[vO, vP, vC] 30)) wr)) (fun _ _ _ => 0)
    case atStart => exact ⟨⟨_, rfl⟩, rfl, HB2⟩
    case round =>
      obtain ⟨⟨b, rfl⟩, rfl, hB'⟩ := hrel
      have hd0 : decide ((0 : Int) < 0) = false := by decide
      have HR := Lib.hid (show NilR w (.returned (.slice (some ⟨b, 0, none⟩) 0 0)) wr from ⟨_, rfl, sl2_nil _ _ _ _ (Nat.zero_le _), (bz1 hB'.out).2.2.1⟩)
      clear hB' hB HB2
      go_wp2_with fail
      go_ret
      exact HR.out
set_option maxRecDepth 100000 in
set_option maxHeartbeats 1000000 in
theorem close0_any (w : World) (vP vC vi : Value) (aO : Option Addr) (cO : Nat) (hi : Sl2 Any w vi []) : Calls Tryz.prog 116 #[.agg #[.slice aO 0 cO, vP, vC], vi] w (NilR w) := by
  have hmk := mk0
  have HF := Lib.hid (fun W a c => full0_any W (.slice aO 0 cO) vP vC a c)
  have HI := Lib.hid hi
  have HOW := Lib.hid (fun W (h : Sl2 Any W vi []) => SpecL.own2_any W vi [] h (by simp) (by simp))
  obtain ⟨aI, cI, hvi, _, hmI, _, _⟩ := hi
  simp only [List.length_nil] at hvi
  subst hvi
  obtain ⟨W0, hW0⟩ : ∃ W0, W0 = w.alloc (.cells #[.slice aO 0 cO, vP, vC] 30) := ⟨_, rfl⟩
  have HB0 := Lib.hid (show Below (w.heap.size + 1) (w.alloc (.cells #[.slice aO 0 cO, vP, vC] 30)) W0 by rw [hW0]; exact Below.refl _ _)
  have HB1 := Lib.hid (show Below (w.heap.size + 1) (w.alloc (.cells #[.slice aO 0 cO, vP, vC] 30)) (W0.alloc (.cells (madeCells #[.slice none 0 0] 0) 22)) from HB0.out.alloc (bz1 HB0.out).2.2.2 _)
  have HOC := Lib.hid (HOW.out _ (Sl2.keep HI.out (bz1 HB1.out).2.1))
  clear hmI HOW
  go_enter Tryz.func116, Tryz.ntmps116
  go_upto_region 1 with fail
  rw [← hW0]
  clear hW0
  obtain ⟨⟨e0, e1, e2⟩, hk0, hbw0, hs0⟩ := bz1 HB0.out
  go_wp2_with fail
  refine HOC.out.mono ?_
  rintro e w1 ⟨v1, rfl, ho1, hb1⟩
  obtain ⟨a1, c1, hv1, _, _⟩ := ho1.form
  simp only [List.length_nil] at hv1
  subst hv1
  have HB2 := Lib.hid (HB1.out.trans (hb1.mono (bz1 HB1.out).2.2.2))
  clear ho1 hb1 HOC e0 e1 e2 hk0 hbw0 hs0 HB0 HB1
  go_wp2_with fail
  go_loopw [7] (fun qv wr => (∃ a c, qv = .slice a 0 c) ∧ Hid (Below (w.heap.size + 1) (w.alloc (.cells #[.slice aO 0 cO, vP, vC] 30)) wr)) (fun _ _ => 0)
  case atStart => exact ⟨⟨_, _, rfl⟩, HB2⟩
  case round =>
    obtain ⟨⟨a, c, rfl⟩, hB⟩ := hrel
    have hd0 : decide ((0 : Int) > 0) = false := by decide
    obtain ⟨⟨e0, e1, e2⟩, -, -, hsB⟩ := bz1 hB.out
    have hw0 : w.heap.size < wr.heap.size := by omega
    clear HB2
    go_wp2_with fail
    refine (HF.out _ _ _).mono ?_
    rintro e w3 ⟨v3, rfl, h3, hb3⟩
    have HR := Lib.hid (show NilR w (.returned v3) w3 from ⟨v3, rfl, h3, (bz1 (hB.out.trans (hb3.mono hsB))).2.2.1⟩)
    clear h3 hb3
    go_wp2_with fail
    go_ret
    exact HR.out

theorem closeZ_any (w : World) (vO vP vC vi : Value) (hP : ValP Any w vO vP vC (ofTw [])) (hi : Sl2 Any w vi []) : Calls Tryz.prog 116 #[.agg #[vO, vP, vC], vi] w (CloseR [] [] w) := by
  obtain ⟨aO, cO, aP, cP, aC, cC, rfl, rfl, rfl, _, _, _⟩ := hP.open
  refine (close0_any w _ _ vi aO cO hi).mono ?_
  rintro e w' ⟨v, rfl, h, hb⟩
  have htab : tabF ([] : List (List Nat)) = fun _ => none := tabF_replicate 0
  refine ⟨v, [], [], rfl, ?_, rfl, fun d => ⟨fun _ => ⟨fun h => h, fun y hy => by rw [htab] at hy; cases hy⟩, fun h => absurd h (Nat.not_lt_zero _)⟩, h, hb⟩
  have F := fil (T := []) trivial trivial
  have := LInv.clo F (im := []) (fun c hc => absurd hc (by simp)) (LInv.start F (fun c hc => absurd hc (by simp)))
  rw [← htab] at this
  exact this
end Go.Proofs.YtabkibmnghbahaaGreat.SpecPZ

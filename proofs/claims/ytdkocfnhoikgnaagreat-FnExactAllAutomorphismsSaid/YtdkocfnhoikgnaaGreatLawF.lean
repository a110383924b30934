import Derived.Test.YtdkocfnhoikgnaaGreatLawBG
import Derived.Test.YtdkocfnhoikgnaaGreatSpecX
/-
  The law FnExactCountAutomorphisms, walked.
-/
namespace Go.Proofs.YtdkocfnhoikgnaaGreat.LawF
open Go.RowKit Go.Proofs.YtdkocfnhoikgnaaGreat Go.Proofs.YtdkocfnhoikgnaaGreat.Tow Go.Proofs.YtdkocfnhoikgnaaGreat.SpecB Go.Proofs.YtdkocfnhoikgnaaGreat.LawB Go.Proofs.YtdkocfnhoikgnaaGreat.LawC Go.Proofs.YtdkocfnhoikgnaaGreat.LawD Go.Proofs.YtdkocfnhoikgnaaGreat.LawE
set_option linter.unusedVariables false
set_option linter.unusedSimpArgs false

theorem cnt_one {P : Pres} {n k n' k' : Int} (h : ImplZ.CntV P n k) (h' : ImplZ.CntV P n' k') : n' = n ∧ k' = k := by
  rcases h with ⟨rfl, rfl, hn⟩ | ⟨T, rfl, hG, h⟩
  · rcases h' with ⟨rfl, rfl, _⟩ | ⟨T', _, hG, _⟩
    · exact ⟨rfl, rfl⟩
    · exact absurd hG hn
  · rcases h' with ⟨_, _, hn⟩ | ⟨T', hT, _, h'⟩
    · exact absurd hG hn
    · obtain rfl := Grps.ofTw_inj hT
      rcases h with ⟨rfl, rfl, h1⟩ | ⟨rfl, h1, rfl⟩ <;> rcases h' with ⟨rfl, rfl, h2⟩ | ⟨rfl, h2, rfl⟩
      · exact ⟨rfl, rfl⟩
      · omega
      · omega
      · exact ⟨rfl, rfl⟩
theorem bx1 {w wr : World} {a0 a1 a2 : Value} {t : TypeId} (hb : Below (w.heap.size + 1) (w.alloc (.cells #[a0, a1, a2] t)) wr) :
    (wr.cell? ⟨w.heap.size, 0, none⟩ = some a0 ∧ wr.cell? ⟨w.heap.size, 1, none⟩ = some a1 ∧ wr.cell? ⟨w.heap.size, 2, none⟩ = some a2) ∧
    Keep Any w wr ∧ Below w.heap.size w wr ∧ w.heap.size + 1 ≤ wr.heap.size := ⟨box_cells hb, keep_boxed hb _, below_unboxed hb, by have := hb.size; simpa using this⟩

set_option maxRecDepth 100000 in
set_option maxHeartbeats 2000000 in
theorem law_any (w : World) (pO pP pC : Value) (P : Pres) (hP : ValP Any w pO pP pC P) :
    Calls Tryz.prog 3 #[.agg #[pO, pP, pC]] w fun e w' => e = .returned (.bool true) ∧ Below w.heap.size w w' := by
  have HP := Lib.hid hP
  have HSZ := Lib.hid (fun W h => (szP_any W pO pP pC P h 1048576 (by omega) : Calls Tryz.prog 10 #[.agg #[pO, pP, pC], .int .i64 1048576] W (SzPR 1048576 (BP 1048576 P) W)))
  have HTO := Lib.hid (fun W h hl => toP_any W pO pP pC P h hl)
  have HQ1 := Lib.hid (fun (n k n' k' : Int) (h : ImplZ.CntV P n k) (h' : ImplZ.CntV P n' k') => cnt_one h h')
  obtain ⟨W0, hW0⟩ : ∃ W0, W0 = w.alloc (.cells #[pO, pP, pC] 26) := ⟨_, rfl⟩
  have HB0 := Lib.hid (show Below (w.heap.size + 1) (w.alloc (.cells #[pO, pP, pC] 26)) W0 by rw [hW0]; exact Below.refl _ _)
  clear hP
  go_enter Tryz.func3, Tryz.ntmps3
  go_upto_region 1 with fail
  rw [← hW0]
  clear hW0
  obtain ⟨⟨e0, e1, e2⟩, hk0, hbw0, hs0⟩ := bx1 HB0.out
  go_wp2_with fail
  refine (HSZ.out _ (HP.out.keep hk0)).mono ?_
  rintro e w1 ⟨⟨r, rfl, hr⟩, hb1⟩
  have HB1 := Lib.hid (HB0.out.trans (hb1.mono hs0))
  have HBW1 := Lib.hid (bx1 HB1.out).2.2.1
  clear e0 e1 e2 hk0 hbw0 hs0 hb1
  rcases hr with rfl | ⟨m, rfl, hm, hBP⟩
  · go_wp2_with fail
    go_ret
    exact ⟨rfl, HBW1.out⟩
  have HBP := Lib.hid hBP
  have hm0 : decide ((m : Int) < 0) = false := by simp
  clear hBP hm
  obtain ⟨⟨e0, e1, e2⟩, hk1, hbw1, hs1⟩ := bx1 HB1.out
  go_wp2_with fail
  refine (HTO.out _ (HP.out.keep hk1) HBP.out).mono ?_
  rintro e w2 ⟨vO, vP, vC, rfl, hV, hb2⟩
  have HB2 := Lib.hid (HB1.out.trans (hb2.mono hs1))
  have HV := Lib.hid (hV.mono (fun _ _ => trivial) : ValP Any w2 vO vP vC P)
  clear e0 e1 e2 hk1 hbw1 hs1 hb2 hV
  go_wp2_with fail
  refine (SpecX.count_any _ vO vP vC P HV.out).mono ?_
  rintro e w3 ⟨n, k, rfl, hc, hb3⟩
  have HC := Lib.hid hc
  have HB3 := Lib.hid (HB2.out.trans (hb3.mono (bx1 HB2.out).2.2.2))
  clear hc hb3 HV
  obtain ⟨⟨e0, e1, e2⟩, hk3, hbw3, hs3⟩ := bx1 HB3.out
  go_wp2_with fail
  refine (HTO.out _ (HP.out.keep hk3) HBP.out).mono ?_
  rintro e w4 ⟨xO, xP, xC, rfl, hV, hb4⟩
  obtain ⟨aO, cO, rfl, _, _⟩ := SlG.form hV.os
  obtain ⟨aP, cP, rfl, _, _⟩ := SlG.form hV.ps
  obtain ⟨aC, cC, rfl, _, _⟩ := SlG.form hV.cs
  have HB4 := Lib.hid (HB3.out.trans (hb4.mono hs3))
  have HX := Lib.hid (hV.mono (fun _ _ => trivial) : ValP Any w4 (.slice aO P.os.length cO) (.slice aP P.ps.length cP) (.slice aC P.cs.length cC) P)
  clear e0 e1 e2 hk3 hbw3 hs3 hb4 hV
  go_upto_region 7 with fail
  obtain ⟨g, hg⟩ : ∃ g, w4.heap.size = g := ⟨_, rfl⟩
  obtain ⟨W5, hW5⟩ : ∃ W5, W5 = w4.alloc (.cells #[.slice aO P.os.length cO, .slice aP P.ps.length cP, .slice aC P.cs.length cC] 30) := ⟨_, rfl⟩
  rw [← hW5]
  have G5 : W5.heap[g]? = some (.cells #[.slice aO P.os.length cO, .slice aP P.ps.length cP, .slice aC P.cs.length cC] 30 (0, 0)) := by rw [hW5, ← hg]; exact new_blk
  have HS5 := Lib.hid (show W5.heap.size = g + 1 by rw [hW5, ← hg]; simp)
  have HB5 := Lib.hid (show Below (w.heap.size + 1) (w.alloc (.cells #[pO, pP, pC] 26)) W5 by rw [hW5]; exact HB4.out.alloc (bx1 HB4.out).2.2.2 _)
  have HX5 := Lib.hid (show ValP Any W5 _ _ _ P by rw [hW5]; exact HX.out.keep ((Keep.refl _ _).alloc _))
  simp only [hg]
  clear hW5 hg
  obtain ⟨⟨x0, x1, x2⟩, _⟩ := row3 G5
  go_wp2_with fail
  refine (ImplZ.count_any _ _ _ _ P HX5.out).mono ?_
  rintro e w6 ⟨n', k', rfl, hc, hb6⟩
  obtain ⟨rfl, rfl⟩ := HQ1.out _ _ _ _ HC.out hc
  have HB6 := Lib.hid (HB5.out.trans (hb6.mono (bx1 HB5.out).2.2.2))
  have HX6 := Lib.hid (HX5.out.keep (Keep.of_below hb6))
  have G6 : w6.heap[g]? = some (.cells #[.slice aO P.os.length cO, .slice aP P.ps.length cP, .slice aC P.cs.length cC] 30 (0, 0)) := blk hb6 (by rw [HS5.out]; omega) G5
  have hg6 : g < w6.heap.size := (Array.getElem?_eq_some_iff.1 G6).1
  clear hc hb6 x0 x1 x2 G5 HX HB4 HB3 HB2 HB1 HB0 HX5 HS5 HQ1 HC
  obtain ⟨⟨x0, x1, x2⟩, _⟩ := row3 G6
  obtain ⟨⟨e0, e1, e2⟩, hk6, hbw6, hs6⟩ := bx1 HB6.out
  have HP6 := Lib.hid (HP.out.keep hk6)
  have hw6 : w.heap.size < w6.heap.size := by omega
  have n1 : (n' != n') = false := by simp
  have n2 : (k' != k') = false := by simp
  clear G6 hk6 hbw6
  go_wp2_with fail
  go_region_held3 (fun w' => (∀ b o, b < w6.heap.size → w'.cell? ⟨b, o, none⟩ = w6.cell? ⟨b, o, none⟩) ∧ Keep (fun _ => True) w6 w')
    (first | exact ks_mk (by repeat (first | exact (Keep.refl _ _).drew | exact Keep.refl _ _ | refine Keep.drewN ?_ _ | refine Keep.trans ?_ (Keep.of_below (by assumption)))))
    (first | (go_at_call 12; refine (HTO.out _ (HP6.out.keep (by repeat (first | exact (Keep.refl _ _).drew | exact Keep.refl _ _ | exact (Keep.refl _ _).alloc _ | exact ((Keep.refl _ _).alloc _).drew | refine Keep.drewN ?_ _ | refine Keep.trans ?_ (Keep.of_below (by assumption))))) HBP.out).mono ?_; rintro e w7 ⟨yO, yP, yC, rfl, hV7, hb7⟩) | (go_at_call 14; refine (eqP_any _ _ _ _ yO yP yC P P (HX6.out.keep (by repeat (first | exact (Keep.refl _ _).drew | exact Keep.refl _ _ | exact (Keep.refl _ _).alloc _ | exact ((Keep.refl _ _).alloc _).drew | refine Keep.drewN ?_ _ | refine Keep.trans ?_ (Keep.of_below (by assumption))))) ((hV7.mono (fun _ _ => trivial)).keep (by repeat (first | exact (Keep.refl _ _).drew | exact Keep.refl _ _ | exact (Keep.refl _ _).alloc _ | exact ((Keep.refl _ _).alloc _).drew | refine Keep.drewN ?_ _ | refine Keep.trans ?_ (Keep.of_below (by assumption)))))).mono ?_; rintro e w8 ⟨b, rfl, hbt, hb8⟩; obtain rfl : b = true := hbt.2 rfl))
  have HB7 := Lib.hid ((HB6.out.drew).trans (hb7.mono hs6))
  have HB8 := Lib.hid (HB7.out.trans (hb8.mono (bx1 HB7.out).2.2.2))
  have HBW8 := Lib.hid (bx1 HB8.out).2.2.1
  clear hV7 hb7 hbt hb8 x0 x1 x2 e0 e1 e2
  go_wp2_with fail
  go_ret
  exact ⟨rfl, HBW8.out⟩
theorem walk (pO pP pC : Value) (P : Pres) (w : World) (hP : ValP Any w pO pP pC P) :
    Calls Tryz.prog 3 #[.agg #[pO, pP, pC]] w fun e w' => e = .returned (.bool true) ∧ Below w.heap.size w w' := law_any w pO pP pC P hP
end Go.Proofs.YtdkocfnhoikgnaaGreat.LawF

import Derived.Test.YtdkocfnhoikgnaaGreatLawF
import Derived.Test.YtdkocfnhoikgnaaGreatIsoA
/-
  The law FnExactCountIsomorphisms, walked.
-/
namespace Go.Proofs.YtdkocfnhoikgnaaGreat.LawH
open Go.RowKit Go.Proofs.YtdkocfnhoikgnaaGreat Go.Proofs.YtdkocfnhoikgnaaGreat.Tow Go.Proofs.YtdkocfnhoikgnaaGreat.SpecB Go.Proofs.YtdkocfnhoikgnaaGreat.LawB Go.Proofs.YtdkocfnhoikgnaaGreat.LawC Go.Proofs.YtdkocfnhoikgnaaGreat.LawD Go.Proofs.YtdkocfnhoikgnaaGreat.LawE Go.Proofs.YtdkocfnhoikgnaaGreat.IsoA
set_option linter.unusedVariables false
set_option linter.unusedSimpArgs false

set_option maxRecDepth 100000 in
set_option maxHeartbeats 4000000 in
theorem walk (pO pP pC : Value) (P : Pres) (qO qP qC : Value) (Q : Pres) (w : World) (hP : ValP Any w pO pP pC P) (hQ : ValP Any w qO qP qC Q) :
    Calls Tryz.prog 4 #[.agg #[pO, pP, pC], .agg #[qO, qP, qC]] w fun e w' => e = .returned (.bool true) ∧ Below w.heap.size w w' := by
  have HP := Lib.hid hP
  have HQ := Lib.hid hQ
  have HSZ := Lib.hid (fun W h => (szP_any W pO pP pC P h 1048576 (by omega) : Calls Tryz.prog 10 #[.agg #[pO, pP, pC], .int .i64 1048576] W (SzPR 1048576 (BP 1048576 P) W)))
  have HTO := Lib.hid (fun W h hl => toP_any W pO pP pC P h hl)
  have HTQ := Lib.hid (fun W h hl => toP_any W qO qP qC Q h hl)
  have HQ1 := Lib.hid (fun (n k n' k' : Int) (h : CntIV P Q n k) (h' : CntIV P Q n' k') => cntI_one h h')
  obtain ⟨W0, hW0⟩ : ∃ W0, W0 = (w.alloc (.cells #[pO, pP, pC] 26)).alloc (.cells #[qO, qP, qC] 26) := ⟨_, rfl⟩
  have HB0 := Lib.hid (show Below (w.heap.size + 2) ((w.alloc (.cells #[pO, pP, pC] 26)).alloc (.cells #[qO, qP, qC] 26)) W0 by rw [hW0]; exact Below.refl _ _)
  clear hP hQ
  go_enter Tryz.func4, Tryz.ntmps4
  go_upto_region 1 with fail
  rw [← hW0]
  clear hW0
  obtain ⟨⟨p0, p1, p2⟩, ⟨q0, q1, q2⟩, hk0, hbw0, hs0⟩ := bx2 HB0.out
  go_wp2_with fail
  refine (HSZ.out _ (HP.out.keep hk0)).mono ?_
  rintro e w1 ⟨⟨r, rfl, hr⟩, hb1⟩
  have HB1 := Lib.hid (HB0.out.trans (hb1.mono hs0))
  clear p0 p1 p2 q0 q1 q2 hk0 hbw0 hs0 hb1
  obtain ⟨⟨p0, p1, p2⟩, ⟨q0, q1, q2⟩, hk0, hbw0, hs0⟩ := bx2 HB1.out
  have HBW1 := Lib.hid hbw0
  rcases hr with rfl | ⟨m, rfl, hm, hBP⟩
  · go_wp2_with fail
    go_ret
    exact ⟨rfl, HBW1.out⟩
  have HBP := Lib.hid hBP
  have hm0 : decide ((m : Int) < 0) = false := by simp
  have HM := Lib.hid hm
  have HSQ := Lib.hid (szP_any w1 qO qP qC Q (HQ.out.keep hk0) m (by omega))
  clear hBP hm hk0 hbw0
  go_wp2_with fail
  refine HSQ.out.mono ?_
  rintro e w2 ⟨⟨r, rfl, hr⟩, hb2⟩
  have HB2 := Lib.hid (HB1.out.trans (hb2.mono hs0))
  clear p0 p1 p2 q0 q1 q2 hs0 hb2
  obtain ⟨⟨p0, p1, p2⟩, ⟨q0, q1, q2⟩, hk0, hbw0, hs0⟩ := bx2 HB2.out
  have HBW2 := Lib.hid hbw0
  rcases hr with rfl | ⟨m2, rfl, hm2, hBQ⟩
  · go_wp2_with fail
    go_ret
    exact ⟨rfl, HBW2.out⟩
  have HBQ := Lib.hid (BP.le HM.out hBQ)
  have hm02 : decide ((m2 : Int) < 0) = false := by simp
  have HP2 := Lib.hid (HP.out.keep hk0)
  have HQ2 := Lib.hid (HQ.out.keep hk0)
  have hl0 : w.heap.size < w2.heap.size := by omega
  have hl1 : w.heap.size + 1 < w2.heap.size := by omega
  clear hBQ hm2 hk0 hbw0 HM HSQ HSZ
  go_wp2_with fail
  go_region_held3 (fun w' => (∀ b o, b < w2.heap.size → w'.cell? ⟨b, o, none⟩ = w2.cell? ⟨b, o, none⟩) ∧ Keep (fun _ => True) w2 w')
    (first | exact ks_mk (by repeat (first | exact (Keep.refl _ _).drew | exact Keep.refl _ _ | refine Keep.drewN ?_ _ | refine Keep.trans ?_ (Keep.of_below (by assumption)))))
    (first | (go_at_call_of 12 pO; refine (HTO.out _ (HP2.out.keep (by repeat (first | exact (Keep.refl _ _).drew | exact Keep.refl _ _ | exact (Keep.refl _ _).alloc _ | exact ((Keep.refl _ _).alloc _).drew | refine Keep.drewN ?_ _ | refine Keep.trans ?_ (Keep.of_below (by assumption))))) HBP.out).mono ?_; rintro e w3 ⟨vO, vP, vC, rfl, hV3, hb3⟩) | (go_at_call_of 12 qO; refine (HTQ.out _ (HQ2.out.keep (by repeat (first | exact (Keep.refl _ _).drew | exact Keep.refl _ _ | exact (Keep.refl _ _).alloc _ | exact ((Keep.refl _ _).alloc _).drew | refine Keep.drewN ?_ _ | refine Keep.trans ?_ (Keep.of_below (by assumption))))) HBQ.out).mono ?_; rintro e w4 ⟨uO, uP, uC, rfl, hV4, hb4⟩) | (go_at_call 15; refine (spec_count _ vO vP vC uO uP uC P Q ((hV3.mono (fun _ _ => trivial)).keep (by repeat (first | exact (Keep.refl _ _).drew | exact Keep.refl _ _ | exact (Keep.refl _ _).alloc _ | exact ((Keep.refl _ _).alloc _).drew | refine Keep.drewN ?_ _ | refine Keep.trans ?_ (Keep.of_below (by assumption))))) ((hV4.mono (fun _ _ => trivial)).keep (by repeat (first | exact (Keep.refl _ _).drew | exact Keep.refl _ _ | exact (Keep.refl _ _).alloc _ | exact ((Keep.refl _ _).alloc _).drew | refine Keep.drewN ?_ _ | refine Keep.trans ?_ (Keep.of_below (by assumption)))))).mono ?_; rintro e w5 ⟨n, k, rfl, hc, hb5⟩))
  rename_i hHd
  clear hHd
  have HB3 := Lib.hid (HB2.out.drew.trans (hb3.mono hs0))
  have HB4 := Lib.hid (HB3.out.trans (hb4.mono (bx2 HB3.out).2.2.2.2))
  have HB5 := Lib.hid (HB4.out.trans (hb5.mono (bx2 HB4.out).2.2.2.2))
  have HC := Lib.hid hc
  clear p0 p1 p2 q0 q1 q2 hs0 hV3 hb3 hV4 hb4 hc hb5 HP2 HQ2 hl0 hl1 HB0 HB1 HBW1 HB2 HBW2 hm0 hm02 HB3 HB4
  obtain ⟨⟨p0, p1, p2⟩, ⟨q0, q1, q2⟩, hk, hbw, hs⟩ := bx2 HB5.out
  go_wp2_with fail
  refine (HTO.out _ (HP.out.keep hk) HBP.out).mono ?_
  rintro e w6 ⟨xO, xP, xC, rfl, hV, hb6⟩
  obtain ⟨aO, cO, rfl, _, _⟩ := SlG.form hV.os
  obtain ⟨aP, cP, rfl, _, _⟩ := SlG.form hV.ps
  obtain ⟨aC, cC, rfl, _, _⟩ := SlG.form hV.cs
  have HB6 := Lib.hid (HB5.out.trans (hb6.mono hs))
  have HX := Lib.hid (hV.mono (fun _ _ => trivial) : ValP Any w6 (.slice aO P.os.length cO) (.slice aP P.ps.length cP) (.slice aC P.cs.length cC) P)
  clear p0 p1 p2 q0 q1 q2 hk hbw hs hb6 hV
  go_upto_region 10 with fail
  obtain ⟨g, hg⟩ : ∃ g, w6.heap.size = g := ⟨_, rfl⟩
  obtain ⟨W7, hW7⟩ : ∃ W7, W7 = w6.alloc (.cells #[.slice aO P.os.length cO, .slice aP P.ps.length cP, .slice aC P.cs.length cC] 30) := ⟨_, rfl⟩
  rw [← hW7]
  have G7 := Lib.hid (show W7.heap[g]? = some (.cells #[.slice aO P.os.length cO, .slice aP P.ps.length cP, .slice aC P.cs.length cC] 30 (0, 0)) by rw [hW7, ← hg]; exact new_blk)
  have HS7 := Lib.hid (show W7.heap.size = g + 1 by rw [hW7, ← hg]; simp)
  have HB7 := Lib.hid (show Below (w.heap.size + 2) ((w.alloc (.cells #[pO, pP, pC] 26)).alloc (.cells #[qO, qP, qC] 26)) W7 by rw [hW7]; exact HB6.out.alloc (bx2 HB6.out).2.2.2.2 _)
  have HX7 := Lib.hid (show ValP Any W7 _ _ _ P by rw [hW7]; exact HX.out.keep ((Keep.refl _ _).alloc _))
  simp only [hg]
  clear hW7 hg HX HB6 HB5
  obtain ⟨⟨p0, p1, p2⟩, ⟨q0, q1, q2⟩, hk, hbw, hs⟩ := bx2 HB7.out
  go_wp2_with fail
  refine (HTQ.out _ (HQ.out.keep hk) HBQ.out).mono ?_
  rintro e w8 ⟨yO, yP, yC, rfl, hV, hb8⟩
  obtain ⟨bO, dO, rfl, _, _⟩ := SlG.form hV.os
  obtain ⟨bP, dP, rfl, _, _⟩ := SlG.form hV.ps
  obtain ⟨bC, dC, rfl, _, _⟩ := SlG.form hV.cs
  have HB8 := Lib.hid (HB7.out.trans (hb8.mono hs))
  have G8 := Lib.hid (blk hb8 (by rw [HS7.out]; omega) G7.out)
  have HX8 := Lib.hid (HX7.out.keep (Keep.of_below hb8))
  have HY := Lib.hid (hV.mono (fun _ _ => trivial) : ValP Any w8 (.slice bO Q.os.length dO) (.slice bP Q.ps.length dP) (.slice bC Q.cs.length dC) Q)
  clear p0 p1 p2 q0 q1 q2 hk hbw hs hb8 hV
  go_upto_region 11 with fail
  obtain ⟨g', hg'⟩ : ∃ g', w8.heap.size = g' := ⟨_, rfl⟩
  obtain ⟨W9, hW9⟩ : ∃ W9, W9 = w8.alloc (.cells #[.slice bO Q.os.length dO, .slice bP Q.ps.length dP, .slice bC Q.cs.length dC] 30) := ⟨_, rfl⟩
  rw [← hW9]
  have G9 := Lib.hid (show W9.heap[g]? = some (.cells #[.slice aO P.os.length cO, .slice aP P.ps.length cP, .slice aC P.cs.length cC] 30 (0, 0)) by rw [hW9]; exact old_blk G8.out)
  have K9 := Lib.hid (show W9.heap[g']? = some (.cells #[.slice bO Q.os.length dO, .slice bP Q.ps.length dP, .slice bC Q.cs.length dC] 30 (0, 0)) by rw [hW9, ← hg']; exact new_blk)
  have HB9 := Lib.hid (show Below (w.heap.size + 2) ((w.alloc (.cells #[pO, pP, pC] 26)).alloc (.cells #[qO, qP, qC] 26)) W9 by rw [hW9]; exact HB8.out.alloc (bx2 HB8.out).2.2.2.2 _)
  have HX9 := Lib.hid (show ValP Any W9 _ _ _ P by rw [hW9]; exact HX8.out.keep ((Keep.refl _ _).alloc _))
  have HY9 := Lib.hid (show ValP Any W9 _ _ _ Q by rw [hW9]; exact HY.out.keep ((Keep.refl _ _).alloc _))
  simp only [hg']
  clear hW9 hg' HX8 HX7 HY HB8 HB7 G7 G8 HS7
  obtain ⟨⟨x0, x1, x2⟩, _⟩ := row3 G9.out
  obtain ⟨⟨y0, y1, y2⟩, _⟩ := row3 K9.out
  go_wp2_with fail
  refine (impl_count _ _ _ _ _ _ _ P Q HX9.out HY9.out).mono ?_
  rintro e w10 ⟨n', k', rfl, hc, hb10⟩
  obtain ⟨rfl, rfl⟩ := HQ1.out _ _ _ _ HC.out hc
  have HB10 := Lib.hid (HB9.out.trans (hb10.mono (bx2 HB9.out).2.2.2.2))
  have HX10 := Lib.hid (HX9.out.keep (Keep.of_below hb10))
  have HY10 := Lib.hid (HY9.out.keep (Keep.of_below hb10))
  have hg9 := (Array.getElem?_eq_some_iff.1 G9.out).1
  have hk9 := (Array.getElem?_eq_some_iff.1 K9.out).1
  have G10 := Lib.hid (blk hb10 hg9 G9.out)
  have K10 := Lib.hid (blk hb10 hk9 K9.out)
  have hg10 : g < w10.heap.size := Nat.lt_of_lt_of_le hg9 hb10.size
  have hk10 : g' < w10.heap.size := Nat.lt_of_lt_of_le hk9 hb10.size
  clear hc hb10 x0 x1 x2 y0 y1 y2 G9 K9 HX9 HY9 HB9 HQ1 HC hg9 hk9
  obtain ⟨⟨x0, x1, x2⟩, _⟩ := row3 G10.out
  obtain ⟨⟨p0, p1, p2⟩, ⟨q0, q1, q2⟩, hk, hbw, hs⟩ := bx2 HB10.out
  have HP10 := Lib.hid (HP.out.keep hk)
  have hw0 : w.heap.size < w10.heap.size := by omega
  have hw1 : w.heap.size + 1 < w10.heap.size := by omega
  have n1 : (n' != n') = false := by simp
  have n2 : (k' != k') = false := by simp
  clear hk hbw
  go_wp2_with fail
  go_region_held3 (fun w' => (∀ b o, b < w10.heap.size → w'.cell? ⟨b, o, none⟩ = w10.cell? ⟨b, o, none⟩) ∧ Keep (fun _ => True) w10 w')
    (first | exact ks_mk (by repeat (first | exact (Keep.refl _ _).drew | exact Keep.refl _ _ | refine Keep.drewN ?_ _ | refine Keep.trans ?_ (Keep.of_below (by assumption)))))
    (first | (go_at_call 12; refine (HTO.out _ (HP10.out.keep (by repeat (first | exact (Keep.refl _ _).drew | exact Keep.refl _ _ | exact (Keep.refl _ _).alloc _ | exact ((Keep.refl _ _).alloc _).drew | refine Keep.drewN ?_ _ | refine Keep.trans ?_ (Keep.of_below (by assumption))))) HBP.out).mono ?_; rintro e w11 ⟨zO, zP, zC, rfl, hV11, hb11⟩) | (go_at_call 14; refine (eqP_any _ _ _ _ zO zP zC P P (HX10.out.keep (by repeat (first | exact (Keep.refl _ _).drew | exact Keep.refl _ _ | exact (Keep.refl _ _).alloc _ | exact ((Keep.refl _ _).alloc _).drew | refine Keep.drewN ?_ _ | refine Keep.trans ?_ (Keep.of_below (by assumption))))) ((hV11.mono (fun _ _ => trivial)).keep (by repeat (first | exact (Keep.refl _ _).drew | exact Keep.refl _ _ | exact (Keep.refl _ _).alloc _ | exact ((Keep.refl _ _).alloc _).drew | refine Keep.drewN ?_ _ | refine Keep.trans ?_ (Keep.of_below (by assumption)))))).mono ?_; rintro e w12 ⟨b, rfl, hbt, hb12⟩; obtain rfl : b = true := hbt.2 rfl))
  rename_i hHd
  have hk12 := hHd.2
  clear hHd
  have HB11 := Lib.hid (HB10.out.drew.trans (hb11.mono hs))
  have HB12 := Lib.hid (HB11.out.trans (hb12.mono (bx2 HB11.out).2.2.2.2))
  have hs12 : w10.heap.size ≤ w12.heap.size := hk12.size
  have HY12 := Lib.hid (HY10.out.keep hk12)
  have K12 := Lib.hid ((hk12.block g' trivial hk10).trans K10.out)
  clear hV11 hb11 hbt hb12 x0 x1 x2 p0 p1 p2 q0 q1 q2 hs hk12 HP10 HX10 HY10 G10 K10 HB10 HB11
  obtain ⟨⟨x0, x1, x2⟩, _⟩ := row3 K12.out
  obtain ⟨⟨p0, p1, p2⟩, ⟨q0, q1, q2⟩, hk, hbw, hs⟩ := bx2 HB12.out
  have HQ12 := Lib.hid (HQ.out.keep hk)
  have hw2 : w.heap.size < w12.heap.size := by omega
  have hw3 : w.heap.size + 1 < w12.heap.size := by omega
  have hk12 : g' < w12.heap.size := by omega
  clear hk hbw
  go_wp2_with fail
  go_region_held3 (fun w' => (∀ b o, b < w12.heap.size → w'.cell? ⟨b, o, none⟩ = w12.cell? ⟨b, o, none⟩) ∧ Keep (fun _ => True) w12 w')
    (first | exact ks_mk (by repeat (first | exact (Keep.refl _ _).drew | exact Keep.refl _ _ | refine Keep.drewN ?_ _ | refine Keep.trans ?_ (Keep.of_below (by assumption)))))
    (first | (go_at_call 12; refine (HTQ.out _ (HQ12.out.keep (by repeat (first | exact (Keep.refl _ _).drew | exact Keep.refl _ _ | exact (Keep.refl _ _).alloc _ | exact ((Keep.refl _ _).alloc _).drew | refine Keep.drewN ?_ _ | refine Keep.trans ?_ (Keep.of_below (by assumption))))) HBQ.out).mono ?_; rintro e w13 ⟨zO, zP, zC, rfl, hV13, hb13⟩) | (go_at_call 14; refine (eqP_any _ _ _ _ zO zP zC Q Q (HY12.out.keep (by repeat (first | exact (Keep.refl _ _).drew | exact Keep.refl _ _ | exact (Keep.refl _ _).alloc _ | exact ((Keep.refl _ _).alloc _).drew | refine Keep.drewN ?_ _ | refine Keep.trans ?_ (Keep.of_below (by assumption))))) ((hV13.mono (fun _ _ => trivial)).keep (by repeat (first | exact (Keep.refl _ _).drew | exact Keep.refl _ _ | exact (Keep.refl _ _).alloc _ | exact ((Keep.refl _ _).alloc _).drew | refine Keep.drewN ?_ _ | refine Keep.trans ?_ (Keep.of_below (by assumption)))))).mono ?_; rintro e w14 ⟨b, rfl, hbt, hb14⟩; obtain rfl : b = true := hbt.2 rfl))
  rename_i hHd
  clear hHd
  have HB13 := Lib.hid (HB12.out.drew.trans (hb13.mono hs))
  have HB14 := Lib.hid (HB13.out.trans (hb14.mono (bx2 HB13.out).2.2.2.2))
  have HBW14 := Lib.hid (bx2 HB14.out).2.2.2.1
  clear hV13 hb13 hbt hb14 x0 x1 x2 p0 p1 p2 q0 q1 q2
  go_wp2_with fail
  go_ret
  exact ⟨rfl, HBW14.out⟩
end Go.Proofs.YtdkocfnhoikgnaaGreat.LawH

import Derived.Test.YtdkocfnhoikgnaaGreatFindAD
/-
  The law FnExactFindIsomorphism, walked.
-/
namespace Go.Proofs.YtdkocfnhoikgnaaGreat.FindE
open Go.RowKit Go.Proofs.YtdkocfnhoikgnaaGreat Go.Proofs.YtdkocfnhoikgnaaGreat.Tow Go.Proofs.YtdkocfnhoikgnaaGreat.SpecB Go.Proofs.YtdkocfnhoikgnaaGreat.LawB Go.Proofs.YtdkocfnhoikgnaaGreat.LawC Go.Proofs.YtdkocfnhoikgnaaGreat.LawD Go.Proofs.YtdkocfnhoikgnaaGreat.LawE Go.Proofs.YtdkocfnhoikgnaaGreat.LawN Go.Proofs.YtdkocfnhoikgnaaGreat.Mark Go.Proofs.YtdkocfnhoikgnaaGreat.FindA Go.Proofs.YtdkocfnhoikgnaaGreat.FindB Go.Proofs.YtdkocfnhoikgnaaGreat.FindC Go.Proofs.YtdkocfnhoikgnaaGreat.FindD
set_option linter.unusedVariables false
set_option linter.unusedSimpArgs false

set_option maxRecDepth 100000 in
set_option maxHeartbeats 4000000 in
theorem walk (pO pP pC : Value) (P : Pres) (qO qP qC : Value) (Q : Pres) (w : World) (hP : ValP Any w pO pP pC P) (hQ : ValP Any w qO qP qC Q) :
    Calls Tryz.prog 5 #[.agg #[pO, pP, pC], .agg #[qO, qP, qC]] w fun e w' => e = .returned (.bool true) ∧ Below w.heap.size w w' := by
  have HP := Lib.hid hP
  have HQ := Lib.hid hQ
  have HSZ := Lib.hid (fun W h => (szP_any W pO pP pC P h 1048576 (by omega) : Calls Tryz.prog 10 #[.agg #[pO, pP, pC], .int .i64 1048576] W (SzPR 1048576 (BP 1048576 P) W)))
  have HTO := Lib.hid (fun W h hl => toP_any W pO pP pC P h hl)
  have HTQ := Lib.hid (fun W h hl => toP_any W qO qP qC Q h hl)
  have HTN := Lib.hid (fun W h hl => toP_nf W pO pP pC P h hl)
  have HTQN := Lib.hid (fun W h hl => toP_nf W qO qP qC Q h hl)
  obtain ⟨W0, hW0⟩ : ∃ W0, W0 = (w.alloc (.cells #[pO, pP, pC] 26)).alloc (.cells #[qO, qP, qC] 26) := ⟨_, rfl⟩
  have HB0 := Lib.hid (show Below (w.heap.size + 2) ((w.alloc (.cells #[pO, pP, pC] 26)).alloc (.cells #[qO, qP, qC] 26)) W0 by rw [hW0]; exact Below.refl _ _)
  clear hP hQ
  go_enter Tryz.func5, Tryz.ntmps5
  go_upto_region 1 with fail
  rw [← hW0]
  clear hW0
  obtain ⟨⟨p0, p1, p2⟩, ⟨q0, q1, q2⟩, hk0, hbw0, hs0⟩ := bx2 HB0.out
  go_wp2_with fail
  refine (HSZ.out _ (HP.out.keep hk0)).mono ?_
  rintro e w1 ⟨⟨r, rfl, hr⟩, hb1⟩
  have HB1 := Lib.hid (HB0.out.trans (hb1.mono hs0))
  clear p0 p1 p2 q0 q1 q2 hk0 hbw0 hs0 hb1
  obtain ⟨⟨p0, p1, p2⟩, ⟨q0, q1, q2⟩, hk0, hbw0, hs0⟩ := bx2 HB1.out
  have HBW1 := Lib.hid hbw0
  rcases hr with rfl | ⟨m, rfl, hm, hBP⟩
  · go_wp2_with fail
    go_ret
    exact ⟨rfl, HBW1.out⟩
  have HBP := Lib.hid hBP
  have hm0 : decide ((m : Int) < 0) = false := by simp
  have HM := Lib.hid hm
  have HSQ := Lib.hid (szP_any w1 qO qP qC Q (HQ.out.keep hk0) m (by omega))
  clear hBP hm hk0 hbw0
  go_wp2_with fail
  refine HSQ.out.mono ?_
  rintro e w2 ⟨⟨r, rfl, hr⟩, hb2⟩
  have HB2 := Lib.hid (HB1.out.trans (hb2.mono hs0))
  clear p0 p1 p2 q0 q1 q2 hs0 hb2
  obtain ⟨⟨p0, p1, p2⟩, ⟨q0, q1, q2⟩, hk0, hbw0, hs0⟩ := bx2 HB2.out
  have HBW2 := Lib.hid hbw0
  rcases hr with rfl | ⟨m2, rfl, hm2, hBQ⟩
  · go_wp2_with fail
    go_ret
    exact ⟨rfl, HBW2.out⟩
  have HBQ := Lib.hid (BP.le HM.out hBQ)
  have hm02 : decide ((m2 : Int) < 0) = false := by simp
  have HP2 := Lib.hid (HP.out.keep hk0)
  have HQ2 := Lib.hid (HQ.out.keep hk0)
  have hl0 : w.heap.size < w2.heap.size := by omega
  have hl1 : w.heap.size + 1 < w2.heap.size := by omega
  clear hBQ hm2 hk0 hbw0 HM HSQ HSZ
  go_wp2_with fail
  go_region_held3 (fun w' => (∀ b o, b < w2.heap.size → w'.cell? ⟨b, o, none⟩ = w2.cell? ⟨b, o, none⟩) ∧ Keep (fun _ => True) w2 w')
    (first | exact ks_mk (by repeat (first | exact (Keep.refl _ _).drew | exact Keep.refl _ _ | refine Keep.drewN ?_ _ | refine Keep.trans ?_ (Keep.of_below (by assumption)))))
    (first | (go_at_call_of 12 pO; refine (HTO.out _ (HP2.out.keep (by repeat (first | exact (Keep.refl _ _).drew | exact Keep.refl _ _ | exact (Keep.refl _ _).alloc _ | exact ((Keep.refl _ _).alloc _).drew | refine Keep.drewN ?_ _ | refine Keep.trans ?_ (Keep.of_below (by assumption))))) HBP.out).mono ?_; rintro e w3 ⟨vO, vP, vC, rfl, hV3, hb3⟩) | (go_at_call_of 12 qO; refine (HTQ.out _ (HQ2.out.keep (by repeat (first | exact (Keep.refl _ _).drew | exact Keep.refl _ _ | exact (Keep.refl _ _).alloc _ | exact ((Keep.refl _ _).alloc _).drew | refine Keep.drewN ?_ _ | refine Keep.trans ?_ (Keep.of_below (by assumption))))) HBQ.out).mono ?_; rintro e w4 ⟨uO, uP, uC, rfl, hV4, hb4⟩) | (go_at_call 17; refine (spec_find _ vO vP vC uO uP uC P Q ((hV3.mono (fun _ _ => trivial)).keep (by repeat (first | exact (Keep.refl _ _).drew | exact Keep.refl _ _ | exact (Keep.refl _ _).alloc _ | exact ((Keep.refl _ _).alloc _).drew | refine Keep.drewN ?_ _ | refine Keep.trans ?_ (Keep.of_below (by assumption))))) ((hV4.mono (fun _ _ => trivial)).keep (by repeat (first | exact (Keep.refl _ _).drew | exact Keep.refl _ _ | exact (Keep.refl _ _).alloc _ | exact ((Keep.refl _ _).alloc _).drew | refine Keep.drewN ?_ _ | refine Keep.trans ?_ (Keep.of_below (by assumption)))))).mono ?_; rintro e w5 ⟨vW, k, res, rfl, hc, hsW, hb5⟩))
  rename_i hHd
  clear hHd
  have HB3 := Lib.hid (HB2.out.drew.trans (hb3.mono hs0))
  have HB4 := Lib.hid (HB3.out.trans (hb4.mono (bx2 HB3.out).2.2.2.2))
  have HB5 := Lib.hid (HB4.out.trans (hb5.mono (bx2 HB4.out).2.2.2.2))
  have HC := Lib.hid hc
  have HVW := Lib.hid (show Sl2 (fun b => b < w5.heap.size) w5 vW res from Sl2.mono (Sl2.bnd hsW) (fun b hb => hb.2))
  clear p0 p1 p2 q0 q1 q2 hs0 hV3 hb3 hV4 hb4 hc hsW hb5 HP2 HQ2 hl0 hl1 HB0 HB1 HBW1 HB2 HBW2 hm0 hm02 HB3 HB4
  obtain ⟨⟨p0, p1, p2⟩, ⟨q0, q1, q2⟩, hk, hbw, hs⟩ := bx2 HB5.out
  go_wp2_with fail
  refine (HTN.out _ (HP.out.keep hk) HBP.out).mono ?_
  rintro e w6 ⟨xO, xP, xC, rfl, hV, hb6, hn6⟩
  obtain ⟨aO, cO, rfl, _, _⟩ := SlG.form hV.os
  obtain ⟨aP, cP, rfl, _, _⟩ := SlG.form hV.ps
  obtain ⟨aC, cC, rfl, _, _⟩ := SlG.form hV.cs
  have HB6 := Lib.hid (HB5.out.trans (hb6.mono hs))
  have HS56 := Lib.hid hb6.size
  have HVW6 := Lib.hid (Sl2.keep HVW.out (Keep.of_below hb6))
  have HN5 := Lib.hid hs
  have HX := Lib.hid (show ValP (fun b => w5.heap.size ≤ b ∧ b < w6.heap.size) w6 (.slice aO P.os.length cO) (.slice aP P.ps.length cP) (.slice aC P.cs.length cC) P from hV.bnd)
  have HNX := Lib.hid (show NFS (fun b => w5.heap.size ≤ b ∧ b < w6.heap.size) w6 from NFS.of hn6 (fun b hb => hb.1))
  clear p0 p1 p2 q0 q1 q2 hk hbw hs hb6 hV hn6 HVW
  go_upto_region 10 with fail
  obtain ⟨n5, hn5⟩ : ∃ n5, w5.heap.size = n5 := ⟨_, rfl⟩
  rw [hn5] at HS56 HVW6 HX HNX HN5
  clear hn5
  obtain ⟨g, hg⟩ : ∃ g, w6.heap.size = g := ⟨_, rfl⟩
  obtain ⟨W7, hW7⟩ : ∃ W7, W7 = w6.alloc (.cells #[.slice aO P.os.length cO, .slice aP P.ps.length cP, .slice aC P.cs.length cC] 30) := ⟨_, rfl⟩
  rw [← hW7]
  rw [hg] at HS56 HX HNX
  have hb67 : Below w6.heap.size w6 W7 := by rw [hW7]; exact (Below.refl _ _).alloc (Nat.le_refl _) _
  have G7 := Lib.hid (show W7.heap[g]? = some (.cells #[.slice aO P.os.length cO, .slice aP P.ps.length cP, .slice aC P.cs.length cC] 30 (0, 0)) by rw [hW7, ← hg]; exact new_blk)
  have HS7 := Lib.hid (show W7.heap.size = g + 1 by rw [hW7, ← hg]; simp)
  have HB7 := Lib.hid (show Below (w.heap.size + 2) ((w.alloc (.cells #[pO, pP, pC] 26)).alloc (.cells #[qO, qP, qC] 26)) W7 by rw [hW7]; exact HB6.out.alloc (bx2 HB6.out).2.2.2.2 _)
  have HX7 := Lib.hid (HX.out.keep (Keep.of_below hb67))
  have HNX7 := Lib.hid (HNX.out.keep (Keep.of_below (S := Any) hb67) (fun b hb => ⟨trivial, by omega⟩))
  have HVW7 := Lib.hid (Sl2.keep HVW6.out (Keep.of_below hb67))
  simp only [hg]
  clear hW7 hg hb67 HX HNX HVW6 HB6 HB5
  obtain ⟨⟨p0, p1, p2⟩, ⟨q0, q1, q2⟩, hk, hbw, hs⟩ := bx2 HB7.out
  go_wp2_with fail
  refine (HTQN.out _ (HQ.out.keep hk) HBQ.out).mono ?_
  rintro e w8 ⟨yO, yP, yC, rfl, hV, hb8, hn8⟩
  obtain ⟨bO, dO, rfl, _, _⟩ := SlG.form hV.os
  obtain ⟨bP, dP, rfl, _, _⟩ := SlG.form hV.ps
  obtain ⟨bC, dC, rfl, _, _⟩ := SlG.form hV.cs
  have HB8 := Lib.hid (HB7.out.trans (hb8.mono hs))
  have HS78 := Lib.hid (show g + 1 ≤ w8.heap.size by rw [← HS7.out]; exact hb8.size)
  have G8 := Lib.hid (blk hb8 (by rw [HS7.out]; omega) G7.out)
  have HX8 := Lib.hid (HX7.out.keep (Keep.of_below hb8))
  have HNX8 := Lib.hid (HNX7.out.keep (Keep.of_below (S := Any) hb8) (fun b hb => ⟨trivial, by rw [HS7.out]; omega⟩))
  have HVW8 := Lib.hid (Sl2.keep HVW7.out (Keep.of_below hb8))
  have HY := Lib.hid (show ValP (fun b => g + 1 ≤ b ∧ b < w8.heap.size) w8 (.slice bO Q.os.length dO) (.slice bP Q.ps.length dP) (.slice bC Q.cs.length dC) Q from by
    have h := hV.bnd
    rw [HS7.out] at h
    exact h)
  have HNY := Lib.hid (show NFS (fun b => g + 1 ≤ b ∧ b < w8.heap.size) w8 from NFS.of hn8 (fun b hb => by rw [HS7.out]; exact hb.1))
  clear p0 p1 p2 q0 q1 q2 hk hbw hs hb8 hV hn8 HX7 HNX7 HVW7 G7
  go_upto_region 11 with fail
  obtain ⟨g', hg'⟩ : ∃ g', w8.heap.size = g' := ⟨_, rfl⟩
  obtain ⟨W9, hW9⟩ : ∃ W9, W9 = w8.alloc (.cells #[.slice bO Q.os.length dO, .slice bP Q.ps.length dP, .slice bC Q.cs.length dC] 30) := ⟨_, rfl⟩
  rw [← hW9]
  rw [hg'] at HS78 HY HNY
  have hb89 : Below w8.heap.size w8 W9 := by rw [hW9]; exact (Below.refl _ _).alloc (Nat.le_refl _) _
  have hs78 := HS78.out
  have G9 := Lib.hid (show W9.heap[g]? = some (.cells #[.slice aO P.os.length cO, .slice aP P.ps.length cP, .slice aC P.cs.length cC] 30 (0, 0)) by rw [hW9]; exact old_blk G8.out)
  have K9 := Lib.hid (show W9.heap[g']? = some (.cells #[.slice bO Q.os.length dO, .slice bP Q.ps.length dP, .slice bC Q.cs.length dC] 30 (0, 0)) by rw [hW9, ← hg']; exact new_blk)
  have HS9 := Lib.hid (show W9.heap.size = g' + 1 by rw [hW9, ← hg']; simp)
  have HB9 := Lib.hid (show Below (w.heap.size + 2) ((w.alloc (.cells #[pO, pP, pC] 26)).alloc (.cells #[qO, qP, qC] 26)) W9 by rw [hW9]; exact HB8.out.alloc (bx2 HB8.out).2.2.2.2 _)
  have HX9 := Lib.hid (HX8.out.keep (Keep.of_below hb89))
  have HY9 := Lib.hid (HY.out.keep (Keep.of_below hb89))
  have HNX9 := Lib.hid (HNX8.out.keep (Keep.of_below (S := Any) hb89) (fun b hb => ⟨trivial, by omega⟩))
  have HNY9 := Lib.hid (HNY.out.keep (Keep.of_below (S := Any) hb89) (fun b hb => ⟨trivial, by omega⟩))
  have HVW9 := Lib.hid (Sl2.keep HVW8.out (Keep.of_below hb89))
  simp only [hg']
  clear hW9 hg' hb89 hs78 HX8 HY HNX8 HNY HVW8 HB8 HB7 G8 HS7
  obtain ⟨⟨x0, x1, x2⟩, _⟩ := row3 G9.out
  obtain ⟨⟨y0, y1, y2⟩, _⟩ := row3 K9.out
  go_wp2_with fail
  refine (impl_find _ _ _ _ _ _ _ P Q (HX9.out.mono (fun _ _ => trivial)) (HY9.out.mono (fun _ _ => trivial))).mono ?_
  rintro e w10 ⟨vG, k', res', rfl, hc, ⟨L, hL, hLr, hnd⟩, hb10⟩
  obtain ⟨rfl, rfl⟩ := find_one HC.out hc
  have HB10 := Lib.hid (HB9.out.trans (hb10.mono (bx2 HB9.out).2.2.2.2))
  have HST := Lib.hid (show St n5 g g' vW vG _ _ _ _ _ _ P Q res' L w10 from by
    rw [HS9.out] at hL
    have hg9 := (Array.getElem?_eq_some_iff.1 G9.out).1
    have hk9 := (Array.getElem?_eq_some_iff.1 K9.out).1
    have h1 := HS56.out
    have h2 := HS78.out
    have h3 := hb10.size
    exact ⟨Sl2.keep HVW9.out (Keep.of_below hb10), HX9.out.keep (Keep.of_below hb10), HY9.out.keep (Keep.of_below hb10), HNX9.out.keep (Keep.of_below (S := Any) hb10) (fun b hb => ⟨trivial, by omega⟩), HNY9.out.keep (Keep.of_below (S := Any) hb10) (fun b hb => ⟨trivial, by omega⟩), blk hb10 hg9 G9.out, blk hb10 hk9 K9.out, hL, by omega, by omega, by omega⟩)
  have HND := Lib.hid hnd
  have HLR := Lib.hid hLr
  have n2 : (k' != k') = false := by simp
  clear hc hb10 x0 x1 x2 y0 y1 y2 G9 K9 HX9 HY9 HNX9 HNY9 HVW9 HB9 hL hLr hnd HS9 HS56 HS78
  go_wp2_with fail
  refine (eqII_any w10 vG vW res' res' (by have h := Rows2.sl2 HST.out.own.rows; rwa [HLR.out] at h) (Sl2.mono HST.out.vw (fun _ _ => trivial))).mono ?_
  rintro e w11 ⟨b, rfl, hbt, hn11⟩
  obtain rfl : b = true := hbt.2 rfl
  have hb11 := bel_drawn (Below.refl w10.heap.size w10) hn11
  have HB11 := Lib.hid (HB10.out.trans (hb11.mono (bx2 HB10.out).2.2.2.2))
  have HST11 := Lib.hid (HST.out.below hb11)
  clear hbt hn11 hb11 HB10 HST
  obtain ⟨⟨x0, x1, x2⟩, _⟩ := row3 HST11.out.bx
  obtain ⟨⟨p0, p1, p2⟩, ⟨q0, q1, q2⟩, hk, hbw, hs⟩ := bx2 HB11.out
  have HP11 := Lib.hid (HP.out.keep hk)
  have HX11 := Lib.hid (HST11.out.xs.mono (S' := Any) (fun _ _ => trivial))
  have hw0 : w.heap.size < w11.heap.size := by omega
  have hw1 : w.heap.size + 1 < w11.heap.size := by omega
  have hg11 : g < w11.heap.size := by have := HST11.out.le; omega
  clear hk hbw
  go_wp2_with fail
  go_region_held3 (fun w' => (∀ b o, b < w11.heap.size → w'.cell? ⟨b, o, none⟩ = w11.cell? ⟨b, o, none⟩) ∧ Keep (fun _ => True) w11 w')
    (first | exact ks_mk (by repeat (first | exact (Keep.refl _ _).drew | exact Keep.refl _ _ | refine Keep.drewN ?_ _ | refine Keep.trans ?_ (Keep.of_below (by assumption)))))
    (first | (go_at_call 12; refine (HTO.out _ (HP11.out.keep (by repeat (first | exact (Keep.refl _ _).drew | exact Keep.refl _ _ | exact (Keep.refl _ _).alloc _ | exact ((Keep.refl _ _).alloc _).drew | refine Keep.drewN ?_ _ | refine Keep.trans ?_ (Keep.of_below (by assumption))))) HBP.out).mono ?_; rintro e w12 ⟨zO, zP, zC, rfl, hV12, hb12⟩) | (go_at_call 14; refine (eqP_any _ _ _ _ zO zP zC P P (HX11.out.keep (by repeat (first | exact (Keep.refl _ _).drew | exact Keep.refl _ _ | exact (Keep.refl _ _).alloc _ | exact ((Keep.refl _ _).alloc _).drew | refine Keep.drewN ?_ _ | refine Keep.trans ?_ (Keep.of_below (by assumption))))) ((hV12.mono (fun _ _ => trivial)).keep (by repeat (first | exact (Keep.refl _ _).drew | exact Keep.refl _ _ | exact (Keep.refl _ _).alloc _ | exact ((Keep.refl _ _).alloc _).drew | refine Keep.drewN ?_ _ | refine Keep.trans ?_ (Keep.of_below (by assumption)))))).mono ?_; rintro e w13 ⟨b, rfl, hbt, hb13⟩; obtain rfl : b = true := hbt.2 rfl))
  rename_i hHd
  clear hHd
  have hb12' : Below w11.heap.size w11 w12 := ((Below.refl _ _).drew).trans hb12
  have hb13' : Below w11.heap.size w11 w13 := hb12'.trans (hb13.mono hb12'.size)
  have HB13 := Lib.hid (HB11.out.trans (hb13'.mono hs))
  have HST13 := Lib.hid (HST11.out.below hb13')
  clear hV12 hb12 hbt hb13 hb12' hb13' x0 x1 x2 p0 p1 p2 q0 q1 q2 hs HP11 HX11 HB11 HST11 hw0 hw1 hg11
  obtain ⟨⟨x0, x1, x2⟩, _⟩ := row3 HST13.out.by'
  obtain ⟨⟨p0, p1, p2⟩, ⟨q0, q1, q2⟩, hk, hbw, hs⟩ := bx2 HB13.out
  have HQ13 := Lib.hid (HQ.out.keep hk)
  have HY13 := Lib.hid (HST13.out.ys.mono (S' := Any) (fun _ _ => trivial))
  have hw0 : w.heap.size < w13.heap.size := by omega
  have hw1 : w.heap.size + 1 < w13.heap.size := by omega
  have hg13 : g' < w13.heap.size := HST13.out.le.2.2
  clear hk hbw
  go_wp2_with fail
  go_region_held3 (fun w' => (∀ b o, b < w13.heap.size → w'.cell? ⟨b, o, none⟩ = w13.cell? ⟨b, o, none⟩) ∧ Keep (fun _ => True) w13 w')
    (first | exact ks_mk (by repeat (first | exact (Keep.refl _ _).drew | exact Keep.refl _ _ | refine Keep.drewN ?_ _ | refine Keep.trans ?_ (Keep.of_below (by assumption)))))
    (first | (go_at_call 12; refine (HTQ.out _ (HQ13.out.keep (by repeat (first | exact (Keep.refl _ _).drew | exact Keep.refl _ _ | exact (Keep.refl _ _).alloc _ | exact ((Keep.refl _ _).alloc _).drew | refine Keep.drewN ?_ _ | refine Keep.trans ?_ (Keep.of_below (by assumption))))) HBQ.out).mono ?_; rintro e w14 ⟨zO, zP, zC, rfl, hV14, hb14⟩) | (go_at_call 14; refine (eqP_any _ _ _ _ zO zP zC Q Q (HY13.out.keep (by repeat (first | exact (Keep.refl _ _).drew | exact Keep.refl _ _ | exact (Keep.refl _ _).alloc _ | exact ((Keep.refl _ _).alloc _).drew | refine Keep.drewN ?_ _ | refine Keep.trans ?_ (Keep.of_below (by assumption))))) ((hV14.mono (fun _ _ => trivial)).keep (by repeat (first | exact (Keep.refl _ _).drew | exact Keep.refl _ _ | exact (Keep.refl _ _).alloc _ | exact ((Keep.refl _ _).alloc _).drew | refine Keep.drewN ?_ _ | refine Keep.trans ?_ (Keep.of_below (by assumption)))))).mono ?_; rintro e w15 ⟨b, rfl, hbt, hb15⟩; obtain rfl : b = true := hbt.2 rfl))
  rename_i hHd
  clear hHd
  have hb14' : Below w13.heap.size w13 w14 := ((Below.refl _ _).drew).trans hb14
  have hb15' : Below w13.heap.size w13 w15 := hb14'.trans (hb15.mono hb14'.size)
  have HB15 := Lib.hid (HB13.out.trans (hb15'.mono hs))
  have HST15 := Lib.hid (HST13.out.below hb15')
  clear hV14 hb14 hbt hb15 hb14' hb15' x0 x1 x2 p0 p1 p2 q0 q1 q2 hs HQ13 HY13 HB13 HST13 hw0 hw1 hg13
  obtain ⟨⟨x0, x1, x2⟩, _⟩ := row3 HST15.out.bx
  obtain ⟨m1, hm1⟩ : ∃ m1, 1 + totP P = m1 := ⟨_, rfl⟩
  have HM1 := Lib.hid (show (m1 : Int) ≤ 1152922604119523329 from by have := totP_B HBP.out; omega)
  have HMP := Lib.hid (show Calls Tryz.prog 20 #[.agg #[.slice aO P.os.length cO, .slice aP P.ps.length cP, .slice aC P.cs.length cC], .int .i64 1] w15 (fun e w' => e = .returned (.int .i64 (m1 : Int)) ∧ ∃ W, Below w15.heap.size w15 W ∧ W.heap.size = w15.heap.size + 1 ∧ NFS (fun b => n5 ≤ b ∧ b < g) W ∧ Mrk (fun b => n5 ≤ b ∧ b < g) W w') from by
    have h := markP (fun b => n5 ≤ b ∧ b < g) w15 (fun b hb => by have := HST15.out.le; omega) _ _ _ P HST15.out.xs HST15.out.fx 1 (by rw [hm1]; have := HM1.out; omega)
    rw [hm1] at h
    exact h)
  clear hm1
  go_wp2_with fail
  refine HMP.out.mono ?_
  rintro e w16 ⟨rfl, W16, hbm, -, -, hmk⟩
  have HMY := Lib.hid (HST15.out.mark1y hbm hmk)
  have HBM := Lib.hid (And.intro hbm hmk)
  have HW16 := Lib.hid (show w15.heap.size ≤ w16.heap.size by rw [hmk.size]; exact hbm.size)
  have HB16 := Lib.hid ((HB15.out.trans (hbm.mono (bx2 HB15.out).2.2.2.2)).trans (hmk.below (fun b hb => Nat.le_trans HN5.out hb.1)))
  have hm0 : (0 : Int) ≤ (m1 : Int) := by omega
  obtain ⟨m2, hm2⟩ : ∃ m2, m1 + totP Q = m2 := ⟨_, rfl⟩
  have HM2 := Lib.hid (show (m2 : Int) ≤ 2305845208239046657 from by have := totP_B HBQ.out; have := HM1.out; omega)
  have HMQ := Lib.hid (show Calls Tryz.prog 20 #[.agg #[.slice bO Q.os.length dO, .slice bP Q.ps.length dP, .slice bC Q.cs.length dC], .int .i64 (m1 : Int)] w16 (fun e w' => e = .returned (.int .i64 (m2 : Int)) ∧ ∃ W, Below w16.heap.size w16 W ∧ W.heap.size = w16.heap.size + 1 ∧ NFS (fun b => g + 1 ≤ b ∧ b < g') W ∧ Mrk (fun b => g + 1 ≤ b ∧ b < g') W w') from by
    have h := markP (fun b => g + 1 ≤ b ∧ b < g') w16 (fun b hb => by have := HST15.out.le; have := HW16.out; omega) _ _ _ Q HMY.out.1 HMY.out.2.1 m1 (by rw [hm2]; have := HM2.out; omega)
    rw [hm2] at h
    exact h)
  clear hm2 hm0 hbm hmk x0 x1 x2 HMP
  obtain ⟨⟨x0, x1, x2⟩, _⟩ := row3 HMY.out.2.2
  go_wp2_with fail
  refine HMQ.out.mono ?_
  rintro e w17 ⟨rfl, W17, hbm, -, -, hmk⟩
  have HS2 := Lib.hid (HST15.out.marks HBM.out.1 HBM.out.2 hbm hmk)
  have HB17 := Lib.hid ((HB16.out.trans (hbm.mono (bx2 HB16.out).2.2.2.2)).trans (hmk.below (fun b hb => by have := HN5.out; have := HST15.out.le; omega)))
  have hd2 : decide ((m2 : Int) < 0) = false := by simp
  clear hbm hmk x0 x1 x2 HMQ HMY HBM HW16 HB16 HB15
  go_wp2_with fail
  refine (eqII_any w17 vG vW res' res' (by have h := Rows2.sl2 HS2.out.own.rows; rwa [HLR.out] at h) (Sl2.mono HS2.out.vw (fun _ _ => trivial))).mono ?_
  rintro e w18 ⟨b, rfl, hbt, hn18⟩
  obtain rfl : b = true := hbt.2 rfl
  have hb18 := bel_drawn (Below.refl w17.heap.size w17) hn18
  have HB18 := Lib.hid (HB17.out.trans (hb18.mono (bx2 HB17.out).2.2.2.2))
  have HS18 := Lib.hid (HS2.out.below hb18)
  obtain ⟨m3, hm3⟩ : ∃ m3, 1 + tot L = m3 := ⟨_, rfl⟩
  have HM3 := Lib.hid (show m3 ≤ 37 from by have := tot_find HC.out HLR.out; omega)
  have HMG := Lib.hid (show Calls Tryz.prog 21 #[vG, .int .i64 1] w18 (fun e w' => e = .returned (.int .i64 (m3 : Int)) ∧ Mrk (fun b => b ∈ L.map (·.1)) w18 w' ∧ Rows2 (fun b => g' + 1 ≤ b) w' vG (mrk 1 L)) from by
    have h := mark2 (fun b => g' + 1 ≤ b) w18 vG L HS18.out.own.rows HND.out HS18.out.own.nfs 1 (by rw [hm3]; have := HM3.out; omega)
    rw [hm3] at h
    exact h)
  have HHG := Lib.hid (fun W (h : Rows2 (fun b => g' + 1 ≤ b) W vG (mrk 1 L)) => (show Calls Tryz.prog 22 #[vG, .int .i64 1] W (fun e w' => e = .returned (.int .i64 (m3 : Int)) ∧ W = w') from by
    have h := held2 (fun b => g' + 1 ≤ b) W vG L 1 h (by rw [hm3]; have := HM3.out; omega)
    rw [hm3] at h
    exact h))
  clear hbt hn18 hb18 hm3 HB17 HS2 hd2
  go_wp2_with fail
  refine HMG.out.mono ?_
  rintro e w19 ⟨rfl, hmk, hrows⟩
  have HS19 := Lib.hid (show St3 n5 g' vW vG res' L w19 from ⟨Sl2.keep HS18.out.vw (hmk.keep.mono (fun b hb hm => by
    obtain ⟨p, hp, e⟩ := List.mem_map.1 hm
    have := (HS18.out.own.lt p hp).1
    have := HS18.out.le
    omega)), hrows⟩)
  have HB19 := Lib.hid (HB18.out.trans (hmk.below (fun b hm => by
    obtain ⟨p, hp, e⟩ := List.mem_map.1 hm
    have := (HS18.out.own.lt p hp).1
    have := HS18.out.le
    have := HN5.out
    omega)))
  clear hmk hrows HMG HS18 HB18
  go_wp2_with fail
  refine (HHG.out w19 HS19.out.rows).mono ?_
  rintro e w20 ⟨rfl, rfl⟩
  have hd3 : decide ((m3 : Int) < 0) = false := by simp
  have hn3 : ((m3 : Int) != (m3 : Int)) = false := by simp
  obtain ⟨⟨p0, p1, p2⟩, ⟨q0, q1, q2⟩, hk, hbw, hs⟩ := bx2 HB19.out
  have HP19 := Lib.hid (HP.out.keep hk)
  have HQ19 := Lib.hid (HQ.out.keep hk)
  have hl0 : w.heap.size < w19.heap.size := by omega
  have hl1 : w.heap.size + 1 < w19.heap.size := by omega
  clear hk hbw
  go_wp2_with fail
  go_region_held3 (fun w' => (∀ b o, b < w19.heap.size → w'.cell? ⟨b, o, none⟩ = w19.cell? ⟨b, o, none⟩) ∧ Keep (fun _ => True) w19 w')
    (first | exact ks_mk (by repeat (first | exact (Keep.refl _ _).drew | exact Keep.refl _ _ | refine Keep.drewN ?_ _ | refine Keep.trans ?_ (Keep.of_below (by assumption)))))
    (first | (go_at_call_of 12 pO; refine (HTO.out _ (HP19.out.keep (by repeat (first | exact (Keep.refl _ _).drew | exact Keep.refl _ _ | exact (Keep.refl _ _).alloc _ | exact ((Keep.refl _ _).alloc _).drew | refine Keep.drewN ?_ _ | refine Keep.trans ?_ (Keep.of_below (by assumption))))) HBP.out).mono ?_; rintro e w21 ⟨zO, zP, zC, rfl, hV21, hb21⟩) | (go_at_call_of 12 qO; refine (HTQ.out _ (HQ19.out.keep (by repeat (first | exact (Keep.refl _ _).drew | exact Keep.refl _ _ | exact (Keep.refl _ _).alloc _ | exact ((Keep.refl _ _).alloc _).drew | refine Keep.drewN ?_ _ | refine Keep.trans ?_ (Keep.of_below (by assumption))))) HBQ.out).mono ?_; rintro e w22 ⟨rO, rP, rC, rfl, hV22, hb22⟩) | (go_at_call 18; refine (impl_find _ zO zP zC rO rP rC P Q ((hV21.mono (fun _ _ => trivial)).keep (by repeat (first | exact (Keep.refl _ _).drew | exact Keep.refl _ _ | exact (Keep.refl _ _).alloc _ | exact ((Keep.refl _ _).alloc _).drew | refine Keep.drewN ?_ _ | refine Keep.trans ?_ (Keep.of_below (by assumption))))) ((hV22.mono (fun _ _ => trivial)).keep (by repeat (first | exact (Keep.refl _ _).drew | exact Keep.refl _ _ | exact (Keep.refl _ _).alloc _ | exact ((Keep.refl _ _).alloc _).drew | refine Keep.drewN ?_ _ | refine Keep.trans ?_ (Keep.of_below (by assumption)))))).mono ?_; rintro e w23 ⟨vH, k'', res'', rfl, hc, ⟨L', hL', hLr', -⟩, hb23⟩))
  rename_i hHd
  clear hHd
  obtain ⟨rfl, rfl⟩ := find_one HC.out hc
  have hb21' : Below w19.heap.size w19 w21 := ((Below.refl _ _).drew).trans hb21
  have hb22' : Below w19.heap.size w19 w22 := hb21'.trans (hb22.mono hb21'.size)
  have hb23' : Below w19.heap.size w19 w23 := hb22'.trans (hb23.mono hb22'.size)
  have HB23 := Lib.hid (HB19.out.trans (hb23'.mono hs))
  have HS23 := Lib.hid (HS19.out.below hb23')
  have HH23 := Lib.hid (show Sl2 Any w23 vH res'' from by have h := Rows2.sl2 hL'.rows; rwa [hLr'] at h)
  have n2 : (k'' != k'') = false := by simp
  clear hV21 hb21 hV22 hb22 hc hL' hLr' hb23 hb21' hb22' hb23' p0 p1 p2 q0 q1 q2 hs HP19 HQ19 hl0 hl1 HS19 HB19
  go_wp2_with fail
  refine (eqII_any w23 vH vW res'' res'' HH23.out (Sl2.mono HS23.out.vw (fun _ _ => trivial))).mono ?_
  rintro e w24 ⟨b, rfl, hbt, hn24⟩
  obtain rfl : b = true := hbt.2 rfl
  have hb24 := bel_drawn (Below.refl w23.heap.size w23) hn24
  have HB24 := Lib.hid (HB23.out.trans (hb24.mono (bx2 HB23.out).2.2.2.2))
  have HS24 := Lib.hid (HS23.out.below hb24)
  have HBW := Lib.hid (bx2 HB24.out).2.2.2.1
  clear hbt hn24 hb24 HB23 HS23 HH23
  go_wp2_with fail
  refine (HHG.out w24 HS24.out.rows).mono ?_
  rintro e w25 ⟨rfl, rfl⟩
  go_wp2_with fail
  go_ret
  exact ⟨rfl, HBW.out⟩
end Go.Proofs.YtdkocfnhoikgnaaGreat.FindE

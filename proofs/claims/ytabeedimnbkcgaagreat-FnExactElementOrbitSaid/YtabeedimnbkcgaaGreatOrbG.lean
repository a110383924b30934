import Derived.Test.YtabeedimnbkcgaaGreatOrbDF
/-
  The law FnExactElementOrbit, walked.
-/
namespace Go.Proofs.YtabeedimnbkcgaaGreat.OrbG
open Go.RowKit Go.Proofs.YtabeedimnbkcgaaGreat Go.Proofs.YtabeedimnbkcgaaGreat.Tow Go.Proofs.YtabeedimnbkcgaaGreat.SpecB Go.Proofs.YtabeedimnbkcgaaGreat.LawB Go.Proofs.YtabeedimnbkcgaaGreat.LawC Go.Proofs.YtabeedimnbkcgaaGreat.LawD Go.Proofs.YtabeedimnbkcgaaGreat.LawE Go.Proofs.YtabeedimnbkcgaaGreat.LawF Go.Proofs.YtabeedimnbkcgaaGreat.LawN Go.Proofs.YtabeedimnbkcgaaGreat.Mark Go.Proofs.YtabeedimnbkcgaaGreat.FindA Go.Proofs.YtabeedimnbkcgaaGreat.FindB Go.Proofs.YtabeedimnbkcgaaGreat.FindD Go.Proofs.YtabeedimnbkcgaaGreat.OrbC Go.Proofs.YtabeedimnbkcgaaGreat.OrbF
set_option linter.unusedVariables false
set_option linter.unusedSimpArgs false

set_option maxRecDepth 100000 in
set_option maxHeartbeats 4000000 in
theorem walk (pO pP pC : Value) (P : Pres) (vx : Value) (l : List Int) (w : World) (hP : ValP Any w pO pP pC P) (hl : SlI Any w vx l) :
    Calls Tryz.prog 10 #[.agg #[pO, pP, pC], vx] w fun e w' => e = .returned (.bool true) ∧ Below w.heap.size w w' := by
  have HP := Lib.hid hP
  have HL := Lib.hid hl
  have HSZ := Lib.hid (fun W h => (szP_any W pO pP pC P h 1048576 (by omega) : Calls Tryz.prog 12 #[.agg #[pO, pP, pC], .int .i64 1048576] W (SzPR 1048576 (BP 1048576 P) W)))
  have HTO := Lib.hid (fun W h hl => toP_any W pO pP pC P h hl)
  have HTN := Lib.hid (fun W h hl => toP_nf W pO pP pC P h hl)
  have HTI := Lib.hid (fun W h hl => toI_any W vx l h hl)
  have HTIN := Lib.hid (fun W h hl => toI_nf W vx l h hl)
  obtain ⟨aX, cX, rfl, _, _⟩ := SlG.form hl
  obtain ⟨W0, hW0⟩ : ∃ W0, W0 = w.alloc (.cells #[pO, pP, pC] 26) := ⟨_, rfl⟩
  have HB0 := Lib.hid (show Below (w.heap.size + 1) (w.alloc (.cells #[pO, pP, pC] 26)) W0 by rw [hW0]; exact Below.refl _ _)
  obtain ⟨nl, hnl⟩ : ∃ nl, l.length = nl := ⟨_, rfl⟩
  have HNL := Lib.hid hnl
  have hnl63 : (nl : Int) ≤ 9223372036854775807 := by
    have := (SlG.form hl)
    obtain ⟨_, _, _, h1, h2⟩ := this
    unfold maxLen at h2
    omega
  rw [hnl] at HL HTI HTIN ⊢
  clear hP hl hnl
  go_enter Tryz.func10, Tryz.ntmps10
  go_upto_region 1 with fail
  rw [← hW0]
  clear hW0
  by_cases hbig : 1048576 < nl
  · have hd : decide ((nl : Int) > 1048576) = true := by simp; omega
    have HBW := Lib.hid (bx1 HB0.out).2.2.1
    go_wp2_with fail
    go_ret
    exact ⟨rfl, HBW.out⟩
  have hd : decide ((nl : Int) > 1048576) = false := by simp; omega
  have HBL := Lib.hid (show B1 1048576 l by have := HNL.out; unfold B1; omega)
  clear hbig
  obtain ⟨⟨p0, p1, p2⟩, hk0, hbw0, hs0⟩ := bx1 HB0.out
  go_wp2_with fail
  refine (HSZ.out _ (HP.out.keep hk0)).mono ?_
  rintro e w2 ⟨⟨r, rfl, hr⟩, hb1⟩
  have HB2 := Lib.hid (HB0.out.trans (hb1.mono hs0))
  clear p0 p1 p2 hk0 hbw0 hs0 hb1
  obtain ⟨⟨p0, p1, p2⟩, hk0, hbw0, hs0⟩ := bx1 HB2.out
  have HBW2 := Lib.hid hbw0
  rcases hr with rfl | ⟨m, rfl, hm, hBP⟩
  · go_wp2_with fail
    go_ret
    exact ⟨rfl, HBW2.out⟩
  have HBP := Lib.hid hBP
  have hm0 : decide ((m : Int) < 0) = false := by simp
  have HC1 := Lib.hid (HTO.out w2 (HP.out.keep hk0) hBP)
  clear hBP hm hk0 hbw0 HSZ
  go_wp2_with fail
  refine HC1.out.mono ?_
  rintro e w3 ⟨vO, vP, vC, rfl, hV3, hb3⟩
  have HB3 := Lib.hid (HB2.out.trans (hb3.mono hs0))
  have HV3 := Lib.hid (hV3.mono (S' := Any) (fun _ _ => trivial))
  have HC2 := Lib.hid (HTI.out w3 (HL.out.keep (bx1 HB3.out).2.1) HBL.out)
  clear hV3 hb3 hs0 p0 p1 p2 HC1
  go_wp2_with fail
  refine HC2.out.mono ?_
  rintro e w4 ⟨vX, rfl, hX4, hb4⟩
  have HB4 := Lib.hid (HB3.out.trans (hb4.mono (bx1 HB3.out).2.2.2))
  have HC3 := Lib.hid (spec_orbit w4 vO vP vC vX P l (HV3.out.keep (Keep.of_below hb4)) (hX4.mono (fun _ _ => trivial)))
  clear hX4 hb4 HC2
  go_wp2_with fail
  refine HC3.out.mono ?_
  rintro e w5 ⟨vW, k, res, rfl, hc, hsW, hb5⟩
  have HB5 := Lib.hid (HB4.out.trans (hb5.mono (bx1 HB4.out).2.2.2))
  have HC := Lib.hid hc
  have HVW := Lib.hid (show Sl2 (fun b => b < w5.heap.size) w5 vW res from Sl2.mono (Sl2.bnd hsW) (fun b hb => hb.2))
  clear hc hsW hb5 HC3 HB0 HB2 HBW2 hm0 HB3 HB4 HV3
  obtain ⟨⟨p0, p1, p2⟩, hk, hbw, hs⟩ := bx1 HB5.out
  go_wp2_with fail
  refine (HTN.out _ (HP.out.keep hk) HBP.out).mono ?_
  rintro e w6 ⟨xO, xP, xC, rfl, hV, hb6, hn6⟩
  obtain ⟨aO, cO, rfl, _, _⟩ := SlG.form hV.os
  obtain ⟨aP, cP, rfl, _, _⟩ := SlG.form hV.ps
  obtain ⟨aC, cC, rfl, _, _⟩ := SlG.form hV.cs
  have HB6 := Lib.hid (HB5.out.trans (hb6.mono hs))
  have HS56 := Lib.hid hb6.size
  have HVW6 := Lib.hid (Sl2.keep HVW.out (Keep.of_below hb6))
  have HN5 := Lib.hid hs
  have HX := Lib.hid (show ValP (fun b => w5.heap.size ≤ b ∧ b < w6.heap.size) w6 (.slice aO P.os.length cO) (.slice aP P.ps.length cP) (.slice aC P.cs.length cC) P from hV.bnd)
  have HNX := Lib.hid (show NFS (fun b => w5.heap.size ≤ b ∧ b < w6.heap.size) w6 from NFS.of hn6 (fun b hb => hb.1))
  clear p0 p1 p2 hk hbw hs hb6 hV hn6 HVW
  go_upto_region 9 with fail
  obtain ⟨n5, hn5⟩ : ∃ n5, w5.heap.size = n5 := ⟨_, rfl⟩
  rw [hn5] at HS56 HVW6 HX HNX HN5
  clear hn5
  obtain ⟨g, hg⟩ : ∃ g, w6.heap.size = g := ⟨_, rfl⟩
  obtain ⟨W7, hW7⟩ : ∃ W7, W7 = w6.alloc (.cells #[.slice aO P.os.length cO, .slice aP P.ps.length cP, .slice aC P.cs.length cC] 30) := ⟨_, rfl⟩
  rw [← hW7]
  rw [hg] at HS56 HX HNX
  have hb67 : Below w6.heap.size w6 W7 := by rw [hW7]; exact (Below.refl _ _).alloc (Nat.le_refl _) _
  have G7 := Lib.hid (show W7.heap[g]? = some (.cells #[.slice aO P.os.length cO, .slice aP P.ps.length cP, .slice aC P.cs.length cC] 30 (0, 0)) by rw [hW7, ← hg]; exact new_blk)
  have HS7 := Lib.hid (show W7.heap.size = g + 1 by rw [hW7, ← hg]; simp)
  have HB7 := Lib.hid (show Below (w.heap.size + 1) (w.alloc (.cells #[pO, pP, pC] 26)) W7 by rw [hW7]; exact HB6.out.alloc (bx1 HB6.out).2.2.2 _)
  have HX7 := Lib.hid (HX.out.keep (Keep.of_below hb67))
  have HNX7 := Lib.hid (HNX.out.keep (Keep.of_below (S := Any) hb67) (fun b hb => ⟨trivial, by omega⟩))
  have HVW7 := Lib.hid (Sl2.keep HVW6.out (Keep.of_below hb67))
  simp only [hg]
  clear hW7 hg hb67 HX HNX HVW6 HB6 HB5
  obtain ⟨⟨p0, p1, p2⟩, hk, hbw, hs⟩ := bx1 HB7.out
  have HC4 := Lib.hid (HTIN.out W7 (HL.out.keep hk) HBL.out)
  clear hk hbw
  go_wp2_with fail
  refine HC4.out.mono ?_
  rintro e w8 ⟨vY, rfl, hY, hb8, hn8⟩
  have HB8 := Lib.hid (HB7.out.trans (hb8.mono hs))
  have HS78 := Lib.hid (show g + 1 ≤ w8.heap.size by rw [← HS7.out]; exact hb8.size)
  have G8 := Lib.hid (blk hb8 (by rw [HS7.out]; omega) G7.out)
  have HX8 := Lib.hid (HX7.out.keep (Keep.of_below hb8))
  have HNX8 := Lib.hid (HNX7.out.keep (Keep.of_below (S := Any) hb8) (fun b hb => ⟨trivial, by rw [HS7.out]; omega⟩))
  have HVW8 := Lib.hid (Sl2.keep HVW7.out (Keep.of_below hb8))
  have HY := Lib.hid (show SlI (fun b => g + 1 ≤ b ∧ b < w8.heap.size) w8 vY l from by
    have h := SlI.bnd hY
    rw [HS7.out] at h
    exact h)
  have HNY := Lib.hid (show NFS (fun b => g + 1 ≤ b ∧ b < w8.heap.size) w8 from NFS.of hn8 (fun b hb => by rw [HS7.out]; exact hb.1))
  obtain ⟨g', hg'⟩ : ∃ g', w8.heap.size = g' := ⟨_, rfl⟩
  rw [hg'] at HS78 HY HNY
  have HG' := Lib.hid hg'
  clear p0 p1 p2 hs hb8 hY hn8 HX7 HNX7 HVW7 G7 HC4 hg' HB7 HS7
  obtain ⟨⟨x0, x1, x2⟩, _⟩ := row3 G8.out
  have HC5 := Lib.hid (impl_orbit w8 _ _ _ vY P l (HX8.out.mono (fun _ _ => trivial)) (HY.out.mono (fun _ _ => trivial)))
  go_wp2_with fail
  refine HC5.out.mono ?_
  rintro e w10 ⟨vG, k', res', rfl, hc, ⟨L, hL, hLr, hnd⟩, hb10⟩
  obtain ⟨rfl, rfl⟩ := orb_one HC.out hc
  have HB10 := Lib.hid (HB8.out.trans (hb10.mono (bx1 HB8.out).2.2.2))
  have HST := Lib.hid (show OrbF.St n5 g g' vW vG _ _ _ vY P l res' L w10 from by
    have hg0 := HG'.out
    rw [hg0] at hL
    have h1 := HS56.out
    have h2 := HS78.out
    have h3 := hb10.size
    exact ⟨Sl2.keep HVW8.out (Keep.of_below hb10), HX8.out.keep (Keep.of_below hb10), HY.out.keep (Keep.of_below hb10), HNX8.out.keep (Keep.of_below (S := Any) hb10) (fun b hb => ⟨trivial, by omega⟩), HNY.out.keep (Keep.of_below (S := Any) hb10) (fun b hb => ⟨trivial, by omega⟩), blk hb10 (by omega) G8.out, hL, by omega, by omega, by omega⟩)
  have HND := Lib.hid hnd
  have HLR := Lib.hid hLr
  have n2 : (k' != k') = false := by simp
  clear hc hb10 x0 x1 x2 G8 HX8 HY HNX8 HNY HVW8 HB8 hL hLr hnd HS56 HS78 HC5 HG'
  go_wp2_with fail
  refine (eqII_any w10 vG vW res' res' (by have h := Rows2.sl2 HST.out.own.rows; rwa [HLR.out] at h) (Sl2.mono HST.out.vw (fun _ _ => trivial))).mono ?_
  rintro e w11 ⟨b, rfl, hbt, hn11⟩
  obtain rfl : b = true := hbt.2 rfl
  have hb11 := bel_drawn (Below.refl w10.heap.size w10) hn11
  have HB11 := Lib.hid (HB10.out.trans (hb11.mono (bx1 HB10.out).2.2.2))
  have HST11 := Lib.hid (HST.out.below hb11)
  clear hbt hn11 hb11 HB10 HST
  obtain ⟨⟨x0, x1, x2⟩, _⟩ := row3 HST11.out.bx
  obtain ⟨⟨p0, p1, p2⟩, hk, hbw, hs⟩ := bx1 HB11.out
  have HP11 := Lib.hid (HP.out.keep hk)
  have HX11 := Lib.hid (HST11.out.xs.mono (S' := Any) (fun _ _ => trivial))
  have hw0 : w.heap.size < w11.heap.size := by omega
  have hg11 : g < w11.heap.size := by have := HST11.out.le; omega
  clear hk hbw
  go_wp2_with fail
  go_region_held3 (fun w' => (∀ b o, b < w11.heap.size → w'.cell? ⟨b, o, none⟩ = w11.cell? ⟨b, o, none⟩) ∧ Keep (fun _ => True) w11 w')
    (first | exact ks_mk (by repeat (first | exact (Keep.refl _ _).drew | exact Keep.refl _ _ | refine Keep.drewN ?_ _ | refine Keep.trans ?_ (Keep.of_below (by assumption)))))
    (first | (go_at_call 14; refine (HTO.out _ (HP11.out.keep (by repeat (first | exact (Keep.refl _ _).drew | exact Keep.refl _ _ | exact (Keep.refl _ _).alloc _ | exact ((Keep.refl _ _).alloc _).drew | refine Keep.drewN ?_ _ | refine Keep.trans ?_ (Keep.of_below (by assumption))))) HBP.out).mono ?_; rintro e w12 ⟨zO, zP, zC, rfl, hV12, hb12⟩) | (go_at_call 16; refine (eqP_any _ _ _ _ zO zP zC P P (HX11.out.keep (by repeat (first | exact (Keep.refl _ _).drew | exact Keep.refl _ _ | exact (Keep.refl _ _).alloc _ | exact ((Keep.refl _ _).alloc _).drew | refine Keep.drewN ?_ _ | refine Keep.trans ?_ (Keep.of_below (by assumption))))) ((hV12.mono (fun _ _ => trivial)).keep (by repeat (first | exact (Keep.refl _ _).drew | exact Keep.refl _ _ | exact (Keep.refl _ _).alloc _ | exact ((Keep.refl _ _).alloc _).drew | refine Keep.drewN ?_ _ | refine Keep.trans ?_ (Keep.of_below (by assumption)))))).mono ?_; rintro e w13 ⟨b, rfl, hbt, hb13⟩; obtain rfl : b = true := hbt.2 rfl))
  rename_i hHd
  clear hHd
  have hb12' : Below w11.heap.size w11 w12 := ((Below.refl _ _).drew).trans hb12
  have hb13' : Below w11.heap.size w11 w13 := hb12'.trans (hb13.mono hb12'.size)
  have HB13 := Lib.hid (HB11.out.trans (hb13'.mono hs))
  have HST13 := Lib.hid (HST11.out.below hb13')
  clear hV12 hb12 hbt hb13 hb12' hb13' x0 x1 x2 p0 p1 p2 hs HP11 HX11 HB11 HST11 hw0 hg11
  have HC6 := Lib.hid (HTI.out w13 (HL.out.keep (bx1 HB13.out).2.1) HBL.out)
  go_wp2_with fail
  refine HC6.out.mono ?_
  rintro e w14 ⟨vZ, rfl, hZ, hb14⟩
  have HB14 := Lib.hid (HB13.out.trans (hb14.mono (bx1 HB13.out).2.2.2))
  have HST14 := Lib.hid (HST13.out.below hb14)
  have HZ14 := Lib.hid (hZ.mono (S' := Any) (fun _ _ => trivial))
  clear hZ hb14 HC6 HB13 HST13
  go_wp2_with fail
  refine (eqI_any w14 vY vZ l l (HST14.out.ys.mono (fun _ _ => trivial)) HZ14.out).mono ?_
  rintro e w15 ⟨b, rfl, hbt, hn15⟩
  obtain rfl : b = true := hbt.2 rfl
  have hb15 := bel_drawn (Below.refl w14.heap.size w14) hn15
  have HB15 := Lib.hid (HB14.out.trans (hb15.mono (bx1 HB14.out).2.2.2))
  have HST15 := Lib.hid (HST14.out.below hb15)
  clear hbt hn15 hb15 HB14 HST14 HZ14
  obtain ⟨⟨x0, x1, x2⟩, _⟩ := row3 HST15.out.bx
  obtain ⟨m1, hm1⟩ : ∃ m1, 1 + totP P = m1 := ⟨_, rfl⟩
  have HM1 := Lib.hid (show (m1 : Int) ≤ 1152922604119523329 from by have := totP_B HBP.out; omega)
  have HMP := Lib.hid (show Calls Tryz.prog 22 #[.agg #[.slice aO P.os.length cO, .slice aP P.ps.length cP, .slice aC P.cs.length cC], .int .i64 1] w15 (fun e w' => e = .returned (.int .i64 (m1 : Int)) ∧ ∃ W, Below w15.heap.size w15 W ∧ W.heap.size = w15.heap.size + 1 ∧ NFS (fun b => n5 ≤ b ∧ b < g) W ∧ Mrk (fun b => n5 ≤ b ∧ b < g) W w') from by
    have h := markP (fun b => n5 ≤ b ∧ b < g) w15 (fun b hb => by have := HST15.out.le; omega) _ _ _ P HST15.out.xs HST15.out.fx 1 (by rw [hm1]; have := HM1.out; omega)
    rw [hm1] at h
    exact h)
  clear hm1
  go_wp2_with fail
  refine HMP.out.mono ?_
  rintro e w16 ⟨rfl, W16, hbm, -, -, hmk⟩
  have HMY := Lib.hid (HST15.out.mark1y hbm hmk)
  have HB16 := Lib.hid ((HB15.out.trans (hbm.mono (bx1 HB15.out).2.2.2)).trans (hmk.below (fun b hb => Nat.le_trans HN5.out hb.1)))
  have HLE := Lib.hid HST15.out.le
  obtain ⟨m2, hm2⟩ : ∃ m2, m1 + l.length = m2 := ⟨_, rfl⟩
  have HM2 := Lib.hid (show (m2 : Int) ≤ 1152922604120571905 from by have h := HBL.out; unfold B1 at h; have := HM1.out; omega)
  have HMQ := Lib.hid (show Calls Tryz.prog 45 #[vY, .int .i64 (m1 : Int)] w16 (fun e w' => e = .returned (.int .i64 (m2 : Int)) ∧ Mrk (fun b => g + 1 ≤ b ∧ b < g') w16 w') from by
    refine (mark1 (fun b => g + 1 ≤ b ∧ b < g') w16 vY l HMY.out.1 HMY.out.2.1 m1 (by rw [hm2]; have := HM2.out; omega)).mono ?_
    rintro e w' ⟨rfl, h, -⟩
    rw [hm2]
    exact ⟨rfl, h⟩)
  clear hm2 hbm hmk x0 x1 x2 HMP HST15 HB15
  go_wp2_with fail
  refine HMQ.out.mono ?_
  rintro e w17 ⟨rfl, hmk⟩
  have HS2 := Lib.hid (HMY.out.2.2.mark hmk HLE.out.1)
  have HB17 := Lib.hid (HB16.out.trans (hmk.below (fun b hb => by have := HN5.out; have := HLE.out; omega)))
  have hd2 : decide ((m2 : Int) < 0) = false := by simp
  clear hmk HMQ HMY HB16
  go_wp2_with fail
  refine (eqII_any w17 vG vW res' res' (by have h := Rows2.sl2 HS2.out.own.rows; rwa [HLR.out] at h) (Sl2.mono HS2.out.vw (fun _ _ => trivial))).mono ?_
  rintro e w18 ⟨b, rfl, hbt, hn18⟩
  obtain rfl : b = true := hbt.2 rfl
  have hb18 := bel_drawn (Below.refl w17.heap.size w17) hn18
  have HB18 := Lib.hid (HB17.out.trans (hb18.mono (bx1 HB17.out).2.2.2))
  have HS18 := Lib.hid (HS2.out.below hb18)
  obtain ⟨m3, hm3⟩ : ∃ m3, 1 + tot L = m3 := ⟨_, rfl⟩
  have HM3 := Lib.hid (show m3 ≤ 201 from by have := tot_orb HC.out HLR.out; omega)
  have HMG := Lib.hid (show Calls Tryz.prog 23 #[vG, .int .i64 1] w18 (fun e w' => e = .returned (.int .i64 (m3 : Int)) ∧ Mrk (fun b => b ∈ L.map (·.1)) w18 w' ∧ Rows2 (fun b => g' ≤ b) w' vG (mrk 1 L)) from by
    have h := mark2 (fun b => g' ≤ b) w18 vG L HS18.out.own.rows HND.out HS18.out.own.nfs 1 (by rw [hm3]; have := HM3.out; omega)
    rw [hm3] at h
    exact h)
  have HHG := Lib.hid (fun W (h : Rows2 (fun b => g' ≤ b) W vG (mrk 1 L)) => (show Calls Tryz.prog 24 #[vG, .int .i64 1] W (fun e w' => e = .returned (.int .i64 (m3 : Int)) ∧ W = w') from by
    have h := held2 (fun b => g' ≤ b) W vG L 1 h (by rw [hm3]; have := HM3.out; omega)
    rw [hm3] at h
    exact h))
  clear hbt hn18 hb18 hm3 HB17 HS2 hd2
  go_wp2_with fail
  refine HMG.out.mono ?_
  rintro e w19 ⟨rfl, hmk, hrows⟩
  have HS19 := Lib.hid (show OrbF.St3 n5 g' vW vG res' L w19 from ⟨Sl2.keep HS18.out.vw (hmk.keep.mono (fun b hb hm => by
    obtain ⟨p, hp, e⟩ := List.mem_map.1 hm
    have := (HS18.out.own.lt p hp).1
    have := HS18.out.le
    omega)), hrows⟩)
  have HB19 := Lib.hid (HB18.out.trans (hmk.below (fun b hm => by
    obtain ⟨p, hp, e⟩ := List.mem_map.1 hm
    have := (HS18.out.own.lt p hp).1
    have := HS18.out.le
    have := HN5.out
    omega)))
  clear hmk hrows HMG HS18 HB18
  go_wp2_with fail
  refine (HHG.out w19 HS19.out.rows).mono ?_
  rintro e w20 ⟨rfl, rfl⟩
  have hd3 : decide ((m3 : Int) < 0) = false := by simp
  have hn3 : ((m3 : Int) != (m3 : Int)) = false := by simp
  obtain ⟨⟨p0, p1, p2⟩, hk, hbw, hs⟩ := bx1 HB19.out
  have HC7 := Lib.hid (HTO.out w19 (HP.out.keep hk) HBP.out)
  clear hk hbw
  go_wp2_with fail
  refine HC7.out.mono ?_
  rintro e w21 ⟨zO, zP, zC, rfl, hV21, hb21⟩
  have HB21 := Lib.hid (HB19.out.trans (hb21.mono hs))
  have HS21 := Lib.hid (HS19.out.below hb21)
  have HV21 := Lib.hid (hV21.mono (S' := Any) (fun _ _ => trivial))
  have HC8 := Lib.hid (HTI.out w21 (HL.out.keep (bx1 HB21.out).2.1) HBL.out)
  clear hV21 hb21 p0 p1 p2 hs HC7 HS19 HB19
  go_wp2_with fail
  refine HC8.out.mono ?_
  rintro e w22 ⟨vT, rfl, hT22, hb22⟩
  have HB22 := Lib.hid (HB21.out.trans (hb22.mono (bx1 HB21.out).2.2.2))
  have HS22 := Lib.hid (HS21.out.below hb22)
  have HC9 := Lib.hid (impl_orbit w22 zO zP zC vT P l (HV21.out.keep (Keep.of_below hb22)) (hT22.mono (fun _ _ => trivial)))
  clear hT22 hb22 HC8 HB21 HS21 HV21
  go_wp2_with fail
  refine HC9.out.mono ?_
  rintro e w23 ⟨vH, k'', res'', rfl, hc, ⟨L', hL', hLr', -⟩, hb23⟩
  obtain ⟨rfl, rfl⟩ := orb_one HC.out hc
  have HB23 := Lib.hid (HB22.out.trans (hb23.mono (bx1 HB22.out).2.2.2))
  have HS23 := Lib.hid (HS22.out.below hb23)
  have HH23 := Lib.hid (show Sl2 Any w23 vH res'' from by have h := Rows2.sl2 hL'.rows; rwa [hLr'] at h)
  have n2 : (k'' != k'') = false := by simp
  clear hc hL' hLr' hb23 HC9 HB22 HS22
  go_wp2_with fail
  refine (eqII_any w23 vH vW res'' res'' HH23.out (Sl2.mono HS23.out.vw (fun _ _ => trivial))).mono ?_
  rintro e w24 ⟨b, rfl, hbt, hn24⟩
  obtain rfl : b = true := hbt.2 rfl
  have hb24 := bel_drawn (Below.refl w23.heap.size w23) hn24
  have HB24 := Lib.hid (HB23.out.trans (hb24.mono (bx1 HB23.out).2.2.2))
  have HS24 := Lib.hid (HS23.out.below hb24)
  have HBW := Lib.hid (bx1 HB24.out).2.2.1
  clear hbt hn24 hb24 HB23 HS23 HH23
  go_wp2_with fail
  refine (HHG.out w24 HS24.out.rows).mono ?_
  rintro e w25 ⟨rfl, rfl⟩
  go_wp2_with fail
  go_ret
  exact ⟨rfl, HBW.out⟩
end Go.Proofs.YtabeedimnbkcgaaGreat.OrbG

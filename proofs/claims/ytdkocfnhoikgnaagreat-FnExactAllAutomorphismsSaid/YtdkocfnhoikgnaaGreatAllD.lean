import Derived.Test.YtdkocfnhoikgnaaGreatAllAC
/-
  The law FnExactAllAutomorphisms, walked.
-/
namespace Go.Proofs.YtdkocfnhoikgnaaGreat.AllD
open Go.RowKit Go.Proofs.YtdkocfnhoikgnaaGreat Go.Proofs.YtdkocfnhoikgnaaGreat.Tow Go.Proofs.YtdkocfnhoikgnaaGreat.NumT Go.Proofs.YtdkocfnhoikgnaaGreat.SpecB Go.Proofs.YtdkocfnhoikgnaaGreat.LawB Go.Proofs.YtdkocfnhoikgnaaGreat.LawC Go.Proofs.YtdkocfnhoikgnaaGreat.LawD Go.Proofs.YtdkocfnhoikgnaaGreat.LawE Go.Proofs.YtdkocfnhoikgnaaGreat.LawF Go.Proofs.YtdkocfnhoikgnaaGreat.LawN Go.Proofs.YtdkocfnhoikgnaaGreat.Mark Go.Proofs.YtdkocfnhoikgnaaGreat.FindA Go.Proofs.YtdkocfnhoikgnaaGreat.FindD Go.Proofs.YtdkocfnhoikgnaaGreat.AllB Go.Proofs.YtdkocfnhoikgnaaGreat.AllC
set_option linter.unusedVariables false
set_option linter.unusedSimpArgs false

theorem Rows3.sl3 {S : Nat → Prop} {w : World} {v : Value} {LL : List (List (Nat × List Int))} (h : Rows3 S w v LL) : Sl3 Any w v (LL.map fun L => L.map (·.2)) := by
  obtain ⟨ao, c, h1, h2, h3, h0, h4⟩ := h
  refine ⟨ao, c, by simpa using h1, by simpa using h2, h3, h0, fun i x hx => ?_⟩
  simp only [List.getElem?_map, Option.map_eq_some_iff] at hx
  obtain ⟨p, hp, rfl⟩ := hx
  obtain ⟨b, o, e1, _, e3, u, e4, e5⟩ := h4 i p hp
  exact ⟨b, o, e1, trivial, e3, u, e4, Rows2.sl2 e5⟩
theorem tt3_tot3 : ∀ LL : List (List (Nat × List Int)), tt3 LL = tot3 (LL.map fun L => L.map (·.2))
  | [] => rfl
  | L :: LL => by rw [tt3, List.map_cons, tot3, tot_tot2, tt3_tot3 LL]
theorem tot3_ats {U : Tw} {n : Nat} (h36 : n * U.length ≤ 36) : ∀ F : List (List Nat), (∀ f ∈ F, f.length = n) → tot3 (F.map fun f => f.map fun q => ints (at_ U q)) ≤ F.length * 36
  | [], _ => by simp [tot3]
  | f :: F, h => by
    have h1 := tot3_ats h36 F (fun x hx => h x (List.mem_cons_of_mem _ hx))
    rw [List.map_cons, tot3, tot2_ats, h f List.mem_cons_self, List.length_cons, Nat.succ_mul]
    omega
theorem tot_all {P : Pres} {res : List (List (List Int))} {k : Int} (h : AllV P res k) {LL : List (List (Nat × List Int))} (hL : LL.map (fun L => L.map (·.2)) = res) : tt3 LL ≤ 7200 := by
  rw [tt3_tot3, hL]
  rcases h with ⟨rfl, _⟩ | ⟨T, rfl, gT, ⟨rfl, _⟩ | ⟨_, _, h200, F, hF, _, rfl⟩⟩
  · simp [tot3]
  · simp [tot3]
  · have h6 := (SpecX.grp_parts gT).2.1.1
    have h1 := tot3_ats (U := T) (n := T.length) (Nat.mul_le_mul h6 h6) F (fun f hf => by simpa using ImplY.grow_rows _ _ _ (hF.mem_iff.1 hf))
    have h2 := hF.length_eq
    omega

structure St (n5 g : Nat) (vW vG x0 x1 x2 : Value) (P : Pres) (res : List (List (List Int))) (LL : List (List (Nat × List Int))) (W : World) : Prop where
  vw : Sl3 (fun b => b < n5) W vW res
  xs : ValP (fun b => n5 ≤ b ∧ b < g) W x0 x1 x2 P
  fx : NFS (fun b => n5 ≤ b ∧ b < g) W
  bx : W.heap[g]? = some (.cells #[x0, x1, x2] 30 (0, 0))
  own : OwnE3 (g + 1) W vG LL
  le : n5 ≤ g ∧ g < W.heap.size
theorem St.below {n5 g : Nat} {vW vG x0 x1 x2 : Value} {P : Pres} {res : List (List (List Int))} {LL : List (List (Nat × List Int))} {W W' : World} (h : St n5 g vW vG x0 x1 x2 P res LL W) (hb : Below W.heap.size W W') : St n5 g vW vG x0 x1 x2 P res LL W' := by
  have hl := h.le
  have hs := hb.size
  exact ⟨Sl3.keep h.vw (Keep.of_below hb), h.xs.keep (Keep.of_below hb), h.fx.keep (Keep.of_below (S := Any) hb) (fun b hb => ⟨trivial, by omega⟩), blk hb (by omega) h.bx, h.own.keep hb, by omega⟩
structure St2 (n5 g : Nat) (vW vG : Value) (res : List (List (List Int))) (LL : List (List (Nat × List Int))) (W : World) : Prop where
  vw : Sl3 (fun b => b < n5) W vW res
  own : OwnE3 (g + 1) W vG LL
  le : n5 ≤ g
theorem St2.below {n5 g : Nat} {vW vG : Value} {res : List (List (List Int))} {LL : List (List (Nat × List Int))} {W W' : World} (h : St2 n5 g vW vG res LL W) (hb : Below W.heap.size W W') : St2 n5 g vW vG res LL W' :=
  ⟨Sl3.keep h.vw (Keep.of_below hb), h.own.keep hb, h.le⟩
theorem St.marks {n5 g : Nat} {vW vG x0 x1 x2 : Value} {P : Pres} {res : List (List (List Int))} {LL : List (List (Nat × List Int))} {W W1 W2 : World} (h : St n5 g vW vG x0 x1 x2 P res LL W)
    (hb : Below W.heap.size W W1) (hm : Mrk (fun b => n5 ≤ b ∧ b < g) W1 W2) : St2 n5 g vW vG res LL W2 := by
  have hl := h.le
  exact ⟨Sl3.keep (Sl3.keep h.vw (Keep.of_below hb)) (hm.keep.mono (fun b hb => by omega)), (h.own.keep hb).keepS hm.keep (fun k hk => by omega), hl.1⟩
structure St3 (n5 g : Nat) (vW vG : Value) (res : List (List (List Int))) (LL : List (List (Nat × List Int))) (W : World) : Prop where
  vw : Sl3 (fun b => b < n5) W vW res
  rows : Rows3 (fun b => g + 1 ≤ b) W vG (mrk3 1 LL)
theorem Rows3.keep {S : Nat → Prop} {w w' : World} {v : Value} {LL : List (List (Nat × List Int))} (h : Rows3 S w v LL) (hb : Below w.heap.size w w') : Rows3 S w' v LL :=
  SlG.keep h (Keep.of_below hb) (fun u p hu => Rows2.keep hu hb)
theorem St3.below {n5 g : Nat} {vW vG : Value} {res : List (List (List Int))} {LL : List (List (Nat × List Int))} {W W' : World} (h : St3 n5 g vW vG res LL W) (hb : Below W.heap.size W W') : St3 n5 g vW vG res LL W' :=
  ⟨Sl3.keep h.vw (Keep.of_below hb), Rows3.keep h.rows hb⟩

set_option maxRecDepth 100000 in
set_option maxHeartbeats 4000000 in
theorem walk (pO pP pC : Value) (P : Pres) (w : World) (hP : ValP Any w pO pP pC P) :
    Calls Tryz.prog 6 #[.agg #[pO, pP, pC]] w fun e w' => e = .returned (.bool true) ∧ Below w.heap.size w w' := by
  have HP := Lib.hid hP
  have HSZ := Lib.hid (fun W h => (szP_any W pO pP pC P h 1048576 (by omega) : Calls Tryz.prog 10 #[.agg #[pO, pP, pC], .int .i64 1048576] W (SzPR 1048576 (BP 1048576 P) W)))
  have HTO := Lib.hid (fun W h hl => toP_any W pO pP pC P h hl)
  have HTN := Lib.hid (fun W h hl => toP_nf W pO pP pC P h hl)
  obtain ⟨W0, hW0⟩ : ∃ W0, W0 = w.alloc (.cells #[pO, pP, pC] 26) := ⟨_, rfl⟩
  have HB0 := Lib.hid (show Below (w.heap.size + 1) (w.alloc (.cells #[pO, pP, pC] 26)) W0 by rw [hW0]; exact Below.refl _ _)
  clear hP
  go_enter Tryz.func6, Tryz.ntmps6
  go_upto_region 1 with fail
  rw [← hW0]
  clear hW0
  obtain ⟨⟨e0, e1, e2⟩, hk0, hbw0, hs0⟩ := bx1 HB0.out
  go_wp2_with fail
  refine (HSZ.out _ (HP.out.keep hk0)).mono ?_
  rintro e w1 ⟨⟨r, rfl, hr⟩, hb1⟩
  have HB1 := Lib.hid (HB0.out.trans (hb1.mono hs0))
  have HBW1 := Lib.hid (bx1 HB1.out).2.2.1
  clear e0 e1 e2 hk0 hbw0 hs0 hb1
  rcases hr with rfl | ⟨m, rfl, hm, hBP⟩
  · go_wp2_with fail
    go_ret
    exact ⟨rfl, HBW1.out⟩
  have HBP := Lib.hid hBP
  have hm0 : decide ((m : Int) < 0) = false := by simp
  clear hBP hm
  obtain ⟨⟨e0, e1, e2⟩, hk1, hbw1, hs1⟩ := bx1 HB1.out
  go_wp2_with fail
  refine (HTO.out _ (HP.out.keep hk1) HBP.out).mono ?_
  rintro e w2 ⟨vO, vP, vC, rfl, hV, hb2⟩
  have HB2 := Lib.hid (HB1.out.trans (hb2.mono hs1))
  have HV := Lib.hid (hV.mono (fun _ _ => trivial) : ValP Any w2 vO vP vC P)
  clear e0 e1 e2 hk1 hbw1 hs1 hb2 hV
  go_wp2_with fail
  refine (spec_all _ vO vP vC P HV.out).mono ?_
  rintro e w5 ⟨vW, k, res, rfl, hc, hsW, hb5⟩
  have HC := Lib.hid hc
  have HB5 := Lib.hid (HB2.out.trans (hb5.mono (bx1 HB2.out).2.2.2))
  have HVW := Lib.hid (show Sl3 (fun b => b < w5.heap.size) w5 vW res from Sl3.mono (Sl3.bnd hsW) (fun b hb => hb.2))
  clear hc hb5 hsW HV HB2 HB1 HB0 HBW1 hm0
  obtain ⟨⟨e0, e1, e2⟩, hk, hbw, hs⟩ := bx1 HB5.out
  go_wp2_with fail
  refine (HTN.out _ (HP.out.keep hk) HBP.out).mono ?_
  rintro e w6 ⟨xO, xP, xC, rfl, hV, hb6, hn6⟩
  obtain ⟨aO, cO, rfl, _, _⟩ := SlG.form hV.os
  obtain ⟨aP, cP, rfl, _, _⟩ := SlG.form hV.ps
  obtain ⟨aC, cC, rfl, _, _⟩ := SlG.form hV.cs
  have HB6 := Lib.hid (HB5.out.trans (hb6.mono hs))
  have HS56 := Lib.hid hb6.size
  have HVW6 := Lib.hid (Sl3.keep HVW.out (Keep.of_below hb6))
  have HN5 := Lib.hid hs
  have HX := Lib.hid (show ValP (fun b => w5.heap.size ≤ b ∧ b < w6.heap.size) w6 (.slice aO P.os.length cO) (.slice aP P.ps.length cP) (.slice aC P.cs.length cC) P from hV.bnd)
  have HNX := Lib.hid (show NFS (fun b => w5.heap.size ≤ b ∧ b < w6.heap.size) w6 from NFS.of hn6 (fun b hb => hb.1))
  clear e0 e1 e2 hk hbw hs hb6 hV hn6 HVW
  go_upto_region 7 with fail
  obtain ⟨n5, hn5⟩ : ∃ n5, w5.heap.size = n5 := ⟨_, rfl⟩
  rw [hn5] at HS56 HVW6 HX HNX HN5
  clear hn5
  obtain ⟨g, hg⟩ : ∃ g, w6.heap.size = g := ⟨_, rfl⟩
  obtain ⟨W7, hW7⟩ : ∃ W7, W7 = w6.alloc (.cells #[.slice aO P.os.length cO, .slice aP P.ps.length cP, .slice aC P.cs.length cC] 30) := ⟨_, rfl⟩
  rw [← hW7]
  rw [hg] at HS56 HX HNX
  have hb67 : Below w6.heap.size w6 W7 := by rw [hW7]; exact (Below.refl _ _).alloc (Nat.le_refl _) _
  have G7 := Lib.hid (show W7.heap[g]? = some (.cells #[.slice aO P.os.length cO, .slice aP P.ps.length cP, .slice aC P.cs.length cC] 30 (0, 0)) by rw [hW7, ← hg]; exact new_blk)
  have HS7 := Lib.hid (show W7.heap.size = g + 1 by rw [hW7, ← hg]; simp)
  have HB7 := Lib.hid (show Below (w.heap.size + 1) (w.alloc (.cells #[pO, pP, pC] 26)) W7 by rw [hW7]; exact HB6.out.alloc (bx1 HB6.out).2.2.2 _)
  have HX7 := Lib.hid (HX.out.keep (Keep.of_below hb67))
  have HNX7 := Lib.hid (HNX.out.keep (Keep.of_below (S := Any) hb67) (fun b hb => ⟨trivial, by omega⟩))
  have HVW7 := Lib.hid (Sl3.keep HVW6.out (Keep.of_below hb67))
  simp only [hg]
  clear hW7 hg hb67 HX HNX HVW6 HB6 HB5
  obtain ⟨⟨x0, x1, x2⟩, _⟩ := row3 G7.out
  go_wp2_with fail
  refine (impl_all _ _ _ _ P (HX7.out.mono (fun _ _ => trivial))).mono ?_
  rintro e w10 ⟨vG, k', res', rfl, hc, ⟨LL, hL, hLr, hnd⟩, hb10⟩
  obtain ⟨rfl, rfl⟩ := all_one HC.out hc
  have HB10 := Lib.hid (HB7.out.trans (hb10.mono (bx1 HB7.out).2.2.2))
  have HST := Lib.hid (show St n5 g vW vG _ _ _ P res' LL w10 from by
    rw [HS7.out] at hL
    have hg9 := (Array.getElem?_eq_some_iff.1 G7.out).1
    have h1 := HS56.out
    have h3 := hb10.size
    exact ⟨Sl3.keep HVW7.out (Keep.of_below hb10), HX7.out.keep (Keep.of_below hb10), HNX7.out.keep (Keep.of_below (S := Any) hb10) (fun b hb => ⟨trivial, by omega⟩), blk hb10 hg9 G7.out, hL, by omega, by omega⟩)
  have HND := Lib.hid hnd
  have HLR := Lib.hid hLr
  have n2 : (k' != k') = false := by simp
  clear hc hb10 x0 x1 x2 G7 HX7 HNX7 HVW7 HB7 hL hLr hnd HS7 HS56
  go_wp2_with fail
  refine (eqIII_any w10 vG vW res' res' (by have h := Rows3.sl3 HST.out.own.rows; rwa [HLR.out] at h) (Sl3.mono HST.out.vw (fun _ _ => trivial))).mono ?_
  rintro e w11 ⟨b, rfl, hbt, hn11⟩
  obtain rfl : b = true := hbt.2 rfl
  have hb11 := bel_drawn (Below.refl w10.heap.size w10) hn11
  have HB11 := Lib.hid (HB10.out.trans (hb11.mono (bx1 HB10.out).2.2.2))
  have HST11 := Lib.hid (HST.out.below hb11)
  clear hbt hn11 hb11 HB10 HST
  obtain ⟨⟨x0, x1, x2⟩, _⟩ := row3 HST11.out.bx
  obtain ⟨⟨e0, e1, e2⟩, hk, hbw, hs⟩ := bx1 HB11.out
  have HP11 := Lib.hid (HP.out.keep hk)
  have HX11 := Lib.hid (HST11.out.xs.mono (S' := Any) (fun _ _ => trivial))
  have hw0 : w.heap.size < w11.heap.size := by omega
  have hg11 : g < w11.heap.size := HST11.out.le.2
  clear hk hbw
  go_wp2_with fail
  go_region_held3 (fun w' => (∀ b o, b < w11.heap.size → w'.cell? ⟨b, o, none⟩ = w11.cell? ⟨b, o, none⟩) ∧ Keep (fun _ => True) w11 w')
    (first | exact ks_mk (by repeat (first | exact (Keep.refl _ _).drew | exact Keep.refl _ _ | refine Keep.drewN ?_ _ | refine Keep.trans ?_ (Keep.of_below (by assumption)))))
    (first | (go_at_call 12; refine (HTO.out _ (HP11.out.keep (by repeat (first | exact (Keep.refl _ _).drew | exact Keep.refl _ _ | exact (Keep.refl _ _).alloc _ | exact ((Keep.refl _ _).alloc _).drew | refine Keep.drewN ?_ _ | refine Keep.trans ?_ (Keep.of_below (by assumption))))) HBP.out).mono ?_; rintro e w12 ⟨zO, zP, zC, rfl, hV12, hb12⟩) | (go_at_call 14; refine (eqP_any _ _ _ _ zO zP zC P P (HX11.out.keep (by repeat (first | exact (Keep.refl _ _).drew | exact Keep.refl _ _ | exact (Keep.refl _ _).alloc _ | exact ((Keep.refl _ _).alloc _).drew | refine Keep.drewN ?_ _ | refine Keep.trans ?_ (Keep.of_below (by assumption))))) ((hV12.mono (fun _ _ => trivial)).keep (by repeat (first | exact (Keep.refl _ _).drew | exact Keep.refl _ _ | exact (Keep.refl _ _).alloc _ | exact ((Keep.refl _ _).alloc _).drew | refine Keep.drewN ?_ _ | refine Keep.trans ?_ (Keep.of_below (by assumption)))))).mono ?_; rintro e w13 ⟨b, rfl, hbt, hb13⟩; obtain rfl : b = true := hbt.2 rfl))
  rename_i hHd
  clear hHd
  have hb12' : Below w11.heap.size w11 w12 := ((Below.refl _ _).drew).trans hb12
  have hb13' : Below w11.heap.size w11 w13 := hb12'.trans (hb13.mono hb12'.size)
  have HB15 := Lib.hid (HB11.out.trans (hb13'.mono hs))
  have HST15 := Lib.hid (HST11.out.below hb13')
  clear hV12 hb12 hbt hb13 hb12' hb13' x0 x1 x2 e0 e1 e2 hs HP11 HX11 HB11 HST11 hw0 hg11
  obtain ⟨⟨x0, x1, x2⟩, _⟩ := row3 HST15.out.bx
  obtain ⟨m1, hm1⟩ : ∃ m1, 1 + totP P = m1 := ⟨_, rfl⟩
  have HM1 := Lib.hid (show (m1 : Int) ≤ 1152922604119523329 from by have := totP_B HBP.out; omega)
  have HMP := Lib.hid (show Calls Tryz.prog 20 #[.agg #[.slice aO P.os.length cO, .slice aP P.ps.length cP, .slice aC P.cs.length cC], .int .i64 1] w13 (fun e w' => e = .returned (.int .i64 (m1 : Int)) ∧ ∃ W, Below w13.heap.size w13 W ∧ W.heap.size = w13.heap.size + 1 ∧ NFS (fun b => n5 ≤ b ∧ b < g) W ∧ Mrk (fun b => n5 ≤ b ∧ b < g) W w') from by
    have h := markP (fun b => n5 ≤ b ∧ b < g) w13 (fun b hb => by have := HST15.out.le; omega) _ _ _ P HST15.out.xs HST15.out.fx 1 (by rw [hm1]; have := HM1.out; omega)
    rw [hm1] at h
    exact h)
  clear hm1
  go_wp2_with fail
  refine HMP.out.mono ?_
  rintro e w17 ⟨rfl, W16, hbm, -, -, hmk⟩
  have HS2 := Lib.hid (HST15.out.marks hbm hmk)
  have HB17 := Lib.hid ((HB15.out.trans (hbm.mono (bx1 HB15.out).2.2.2)).trans (hmk.below (fun b hb => Nat.le_trans HN5.out hb.1)))
  have hd2 : decide ((m1 : Int) < 0) = false := by simp
  clear hbm hmk x0 x1 x2 HMP HB15 HST15
  go_wp2_with fail
  refine (eqIII_any w17 vG vW res' res' (by have h := Rows3.sl3 HS2.out.own.rows; rwa [HLR.out] at h) (Sl3.mono HS2.out.vw (fun _ _ => trivial))).mono ?_
  rintro e w18 ⟨b, rfl, hbt, hn18⟩
  obtain rfl : b = true := hbt.2 rfl
  have hb18 := bel_drawn (Below.refl w17.heap.size w17) hn18
  have HB18 := Lib.hid (HB17.out.trans (hb18.mono (bx1 HB17.out).2.2.2))
  have HS18 := Lib.hid (HS2.out.below hb18)
  obtain ⟨m3, hm3⟩ : ∃ m3, 1 + tt3 LL = m3 := ⟨_, rfl⟩
  have HM3 := Lib.hid (show m3 ≤ 7201 from by have := tot_all HC.out HLR.out; omega)
  have HMG := Lib.hid (show Calls Tryz.prog 26 #[vG, .int .i64 1] w18 (fun e w' => e = .returned (.int .i64 (m3 : Int)) ∧ Mrk (Bl LL) w18 w' ∧ Rows3 (fun b => g + 1 ≤ b) w' vG (mrk3 1 LL)) from by
    have h := mark3 (fun b => g + 1 ≤ b) w18 vG LL HS18.out.own.rows HND.out HS18.out.own.nfs 1 (by rw [hm3]; have := HM3.out; omega)
    rw [hm3] at h
    exact h)
  have HHG := Lib.hid (fun W (h : Rows3 (fun b => g + 1 ≤ b) W vG (mrk3 1 LL)) => (show Calls Tryz.prog 27 #[vG, .int .i64 1] W (fun e w' => e = .returned (.int .i64 (m3 : Int)) ∧ W = w') from by
    have h := held3 (fun b => g + 1 ≤ b) W vG LL 1 h (by rw [hm3]; have := HM3.out; omega)
    rw [hm3] at h
    exact h))
  clear hbt hn18 hb18 hm3 HB17 HS2 hd2
  go_wp2_with fail
  refine HMG.out.mono ?_
  rintro e w19 ⟨rfl, hmk, hrows⟩
  have HS19 := Lib.hid (show St3 n5 g vW vG res' LL w19 from ⟨Sl3.keep HS18.out.vw (hmk.keep.mono (fun b hb ⟨L, hL, hm⟩ => by
    obtain ⟨p, hp, e⟩ := List.mem_map.1 hm
    have := (HS18.out.own.lt L hL p hp).1
    have := HS18.out.le
    omega)), hrows⟩)
  have HB19 := Lib.hid (HB18.out.trans (hmk.below (fun b ⟨L, hL, hm⟩ => by
    obtain ⟨p, hp, e⟩ := List.mem_map.1 hm
    have := (HS18.out.own.lt L hL p hp).1
    have := HS18.out.le
    have := HN5.out
    omega)))
  clear hmk hrows HMG HS18 HB18
  go_wp2_with fail
  refine (HHG.out w19 HS19.out.rows).mono ?_
  rintro e w20 ⟨rfl, rfl⟩
  have hd3 : decide ((m3 : Int) < 0) = false := by simp
  have hn3 : ((m3 : Int) != (m3 : Int)) = false := by simp
  obtain ⟨⟨e0, e1, e2⟩, hk, hbw, hs⟩ := bx1 HB19.out
  go_wp2_with fail
  refine (HTO.out _ (HP.out.keep hk) HBP.out).mono ?_
  rintro e w21 ⟨zO, zP, zC, rfl, hV, hb21⟩
  have HV21 := Lib.hid (hV.mono (fun _ _ => trivial) : ValP Any w21 zO zP zC P)
  have HB21 := Lib.hid (HB19.out.trans (hb21.mono hs))
  have HS21 := Lib.hid (HS19.out.below hb21)
  clear e0 e1 e2 hk hbw hs hV hb21 HS19 HB19
  go_wp2_with fail
  refine (impl_all _ zO zP zC P HV21.out).mono ?_
  rintro e w23 ⟨vH, k'', res'', rfl, hc, ⟨L', hL', hLr', -⟩, hb23⟩
  obtain ⟨rfl, rfl⟩ := all_one HC.out hc
  have HB23 := Lib.hid (HB21.out.trans (hb23.mono (bx1 HB21.out).2.2.2))
  have HS23 := Lib.hid (HS21.out.below hb23)
  have HH23 := Lib.hid (show Sl3 Any w23 vH res'' from by have h := Rows3.sl3 hL'.rows; rwa [hLr'] at h)
  have n2 : (k'' != k'') = false := by simp
  clear hc hL' hLr' hb23 HS21 HB21 HV21
  go_wp2_with fail
  refine (eqIII_any w23 vH vW res'' res'' HH23.out (Sl3.mono HS23.out.vw (fun _ _ => trivial))).mono ?_
  rintro e w24 ⟨b, rfl, hbt, hn24⟩
  obtain rfl : b = true := hbt.2 rfl
  have hb24 := bel_drawn (Below.refl w23.heap.size w23) hn24
  have HB24 := Lib.hid (HB23.out.trans (hb24.mono (bx1 HB23.out).2.2.2))
  have HS24 := Lib.hid (HS23.out.below hb24)
  have HBW := Lib.hid (bx1 HB24.out).2.2.1
  clear hbt hn24 hb24 HB23 HS23 HH23
  go_wp2_with fail
  refine (HHG.out w24 HS24.out.rows).mono ?_
  rintro e w25 ⟨rfl, rfl⟩
  go_wp2_with fail
  go_ret
  exact ⟨rfl, HBW.out⟩
end Go.Proofs.YtdkocfnhoikgnaaGreat.AllD

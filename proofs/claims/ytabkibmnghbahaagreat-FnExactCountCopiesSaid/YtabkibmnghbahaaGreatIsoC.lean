import Derived.Test.YtabkibmnghbahaaGreatSpecXA
/-
  The numbers of isomorphisms: spec.l26Code, spec.l26Maps, spec.CountIsomorphisms, impl.CountIsomorphisms.
-/
namespace Go.Proofs.YtabkibmnghbahaaGreat.IsoA
open Go.RowKit Go.Proofs.YtabkibmnghbahaaGreat Go.Proofs.YtabkibmnghbahaaGreat.Tow Go.Proofs.YtabkibmnghbahaaGreat.NumT Go.Proofs.YtabkibmnghbahaaGreat.GenD Go.Proofs.YtabkibmnghbahaaGreat.GenG Go.Proofs.YtabkibmnghbahaaGreat.SpecB Go.Proofs.YtabkibmnghbahaaGreat.SpecS Go.Proofs.YtabkibmnghbahaaGreat.SpecX
set_option linter.unusedVariables false
set_option linter.unusedSimpArgs false

def Cod2V (P Q : Pres) (k : Int) : Prop := (k = 1 ∧ ¬ (Grps.Grp P ∧ Grps.Grp Q)) ∨ ∃ T U, P = ofTw T ∧ Q = ofTw U ∧ Grps.Grp P ∧ Grps.Grp Q ∧ ((k = 3 ∧ (27 < sz T ∨ 27 < sz U)) ∨ (k = 0 ∧ sz T ≤ 27 ∧ sz U ≤ 27))
def Cod2R (P Q : Pres) (w : World) (e : Ending) (w' : World) : Prop := ∃ k : Int, e = .returned (.int .i64 k) ∧ Cod2V P Q k ∧ Below w.heap.size w w'
theorem grp_sz {T : Tw} (h : Grps.Grp (ofTw T)) : SpecN.Os T ∧ sz T ≤ 729 := by
  obtain ⟨T', h1, h2, h3, h5, h4⟩ := h
  obtain rfl := Grps.ofTw_inj h3
  have hz := valid_sz h5
  exact ⟨SpecN.Os.of h1 h2 hz, hz⟩

set_option maxRecDepth 100000 in
set_option maxHeartbeats 2000000 in
theorem code2_any (w : World) (pO pP pC qO qP qC : Value) (P Q : Pres) (hP : ValP Any w pO pP pC P) (hQ : ValP Any w qO qP qC Q) :
    Calls Tryz.prog 19 #[.agg #[pO, pP, pC], .agg #[qO, qP, qC]] w (Cod2R P Q w) := by
  have HP := Lib.hid hP
  have HQ := Lib.hid hQ
  have HG := Lib.hid (fun W h => SpecH.group_any W pO pP pC P h)
  have HGQ := Lib.hid (fun W h => SpecH.group_any W qO qP qC Q h)
  obtain ⟨W0, hW0⟩ : ∃ W0, W0 = (w.alloc (.cells #[pO, pP, pC] 30)).alloc (.cells #[qO, qP, qC] 30) := ⟨_, rfl⟩
  have HB0 := Lib.hid (show Below (w.heap.size + 2) ((w.alloc (.cells #[pO, pP, pC] 30)).alloc (.cells #[qO, qP, qC] 30)) W0 by rw [hW0]; exact Below.refl _ _)
  clear hP hQ
  go_enter Tryz.func19, Tryz.ntmps19
  go_upto_region 1 with fail
  rw [← hW0]
  clear hW0
  obtain ⟨⟨p0, p1, p2⟩, ⟨q0, q1, q2⟩, hk, hbw, hs⟩ := bx HB0.out
  go_wp2_with fail
  refine (HG.out _ (HP.out.keep hk)).mono ?_
  rintro e w1 ⟨r, rfl, hr, hb1⟩
  have HB1 := Lib.hid (HB0.out.trans (hb1.mono hs))
  clear p0 p1 p2 q0 q1 q2 hk hbw hs hb1
  obtain ⟨⟨p0, p1, p2⟩, ⟨q0, q1, q2⟩, hk, hbw, hs⟩ := bx HB1.out
  by_cases hGP : Grps.Grp P
  · obtain rfl : r = true := hr.2 hGP
    have HGP := Lib.hid hGP
    clear hr hGP
    go_wp2_with fail
    refine (HGQ.out _ (HQ.out.keep hk)).mono ?_
    rintro e w2 ⟨r, rfl, hr, hb2⟩
    have HB2 := Lib.hid (HB1.out.trans (hb2.mono hs))
    clear p0 p1 p2 q0 q1 q2 hk hbw hs hb2
    obtain ⟨⟨p0, p1, p2⟩, ⟨q0, q1, q2⟩, hk, hbw, hs⟩ := bx HB2.out
    by_cases hGQ : Grps.Grp Q
    · obtain rfl : r = true := hr.2 hGQ
      obtain ⟨T, hTE⟩ : ∃ T, P = ofTw T := by obtain ⟨T, _, _, h, _⟩ := HGP.out; exact ⟨T, h⟩
      obtain ⟨U, hUE⟩ : ∃ U, Q = ofTw U := by obtain ⟨T, _, _, h, _⟩ := hGQ; exact ⟨T, h⟩
      subst hTE
      subst hUE
      have HGQQ := Lib.hid hGQ
      have HSZ := Lib.hid (SpecN.order_any T (grp_sz HGP.out).1 w2 pO pP pC (by have h := (HP.out.keep hk).os; rwa [SpecN.ofTw_ords] at h))
      clear hr hGQ
      go_wp2_with fail
      refine HSZ.out.mono ?_
      rintro e w3 ⟨rfl, hb3⟩
      have HB3 := Lib.hid (HB2.out.trans (hb3.mono hs))
      clear p0 p1 p2 q0 q1 q2 hk hbw hs hb3
      obtain ⟨⟨p0, p1, p2⟩, ⟨q0, q1, q2⟩, hk, hbw, hs⟩ := bx HB3.out
      have HBW := Lib.hid hbw
      by_cases h27 : 27 < sz T
      · have hd : decide ((sz T : Int) > 27) = true := by simp; omega
        have HR := Lib.hid (show Cod2R (ofTw T) (ofTw U) w (.returned (.int .i64 3)) w3 from ⟨3, rfl, .inr ⟨T, U, rfl, rfl, HGP.out, HGQQ.out, .inl ⟨rfl, .inl h27⟩⟩, HBW.out⟩)
        clear hk hbw hs
        go_wp2_with fail
        go_ret
        exact HR.out
      · have hd : decide ((sz T : Int) > 27) = false := by simp; omega
        have HSU := Lib.hid (SpecN.order_any U (grp_sz HGQQ.out).1 w3 qO qP qC (by have h := (HQ.out.keep hk).os; rwa [SpecN.ofTw_ords] at h))
        clear hk hbw
        go_wp2_with fail
        refine HSU.out.mono ?_
        rintro e w4 ⟨rfl, hb4⟩
        have HBW4 := Lib.hid (bx (HB3.out.trans (hb4.mono hs))).2.2.2.1
        clear p0 p1 p2 q0 q1 q2 hb4
        by_cases h28 : 27 < sz U
        · have hd2 : decide ((sz U : Int) > 27) = true := by simp; omega
          have HR := Lib.hid (show Cod2R (ofTw T) (ofTw U) w (.returned (.int .i64 3)) w4 from ⟨3, rfl, .inr ⟨T, U, rfl, rfl, HGP.out, HGQQ.out, .inl ⟨rfl, .inr h28⟩⟩, HBW4.out⟩)
          go_wp2_with fail
          go_ret
          exact HR.out
        · have hd2 : decide ((sz U : Int) > 27) = false := by simp; omega
          have HR := Lib.hid (show Cod2R (ofTw T) (ofTw U) w (.returned (.int .i64 0)) w4 from ⟨0, rfl, .inr ⟨T, U, rfl, rfl, HGP.out, HGQQ.out, .inr ⟨rfl, by omega, by omega⟩⟩, HBW4.out⟩)
          go_wp2_with fail
          go_ret
          exact HR.out
    · obtain rfl : r = false := by
        cases r with
        | false => rfl
        | true => exact absurd (hr.1 rfl) hGQ
      have HR := Lib.hid (show Cod2R P Q w (.returned (.int .i64 1)) w2 from ⟨1, rfl, .inl ⟨rfl, fun h => hGQ h.2⟩, hbw⟩)
      clear hr hGQ hk hbw hs
      go_wp2_with fail
      go_ret
      exact HR.out
  · obtain rfl : r = false := by
      cases r with
      | false => rfl
      | true => exact absurd (hr.1 rfl) hGP
    have HR := Lib.hid (show Cod2R P Q w (.returned (.int .i64 1)) w1 from ⟨1, rfl, .inl ⟨rfl, fun h => hGP h.1⟩, hbw⟩)
    clear hr hGP hk hbw hs
    go_wp2_with fail
    go_ret
    exact HR.out

theorem sz_one {U : Tw} (hU : Wf U) (h : sz U = 1) : U = [] := by
  cases U with
  | nil => rfl
  | cons L U =>
    exfalso
    have h2 : 2 ≤ L.o := hU.1
    have h3 := sz_pos hU.2.2.2.2
    simp only [sz] at h
    have := Nat.mul_le_mul h2 h3
    omega
end Go.Proofs.YtabkibmnghbahaaGreat.IsoA

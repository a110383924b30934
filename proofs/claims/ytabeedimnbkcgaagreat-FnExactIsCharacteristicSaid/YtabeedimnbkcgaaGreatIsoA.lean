import Derived.Test.YtabeedimnbkcgaaGreatSpecX
/-
  The numbers of isomorphisms: spec.l26Code, spec.l26Maps, spec.CountIsomorphisms, impl.CountIsomorphisms.
-/
namespace Go.Proofs.YtabeedimnbkcgaaGreat.IsoA
open Go.RowKit Go.Proofs.YtabeedimnbkcgaaGreat Go.Proofs.YtabeedimnbkcgaaGreat.Tow Go.Proofs.YtabeedimnbkcgaaGreat.NumT Go.Proofs.YtabeedimnbkcgaaGreat.GenD Go.Proofs.YtabeedimnbkcgaaGreat.GenG Go.Proofs.YtabeedimnbkcgaaGreat.SpecB Go.Proofs.YtabeedimnbkcgaaGreat.SpecS Go.Proofs.YtabeedimnbkcgaaGreat.SpecX
set_option linter.unusedVariables false
set_option linter.unusedSimpArgs false

def Cod2V (P Q : Pres) (k : Int) : Prop := (k = 1 ∧ ¬ (Grps.Grp P ∧ Grps.Grp Q)) ∨ ∃ T U, P = ofTw T ∧ Q = ofTw U ∧ Grps.Grp P ∧ Grps.Grp Q ∧ ((k = 3 ∧ (27 < sz T ∨ 27 < sz U)) ∨ (k = 0 ∧ sz T ≤ 27 ∧ sz U ≤ 27))
def Cod2R (P Q : Pres) (w : World) (e : Ending) (w' : World) : Prop := ∃ k : Int, e = .returned (.int .i64 k) ∧ Cod2V P Q k ∧ Below w.heap.size w w'
theorem grp_sz {T : Tw} (h : Grps.Grp (ofTw T)) : SpecN.Os T ∧ sz T ≤ 729 := by
  obtain ⟨T', h1, h2, h3, h5, h4⟩ := h
  obtain rfl := Grps.ofTw_inj h3
  have hz := valid_sz h5
  exact ⟨SpecN.Os.of h1 h2 hz, hz⟩

set_option maxRecDepth 100000 in
set_option maxHeartbeats 2000000 in
theorem code2_any (w : World) (pO pP pC qO qP qC : Value) (P Q : Pres) (hP : ValP Any w pO pP pC P) (hQ : ValP Any w qO qP qC Q) :
    Calls Tryz.prog 54 #[.agg #[pO, pP, pC], .agg #[qO, qP, qC]] w (Cod2R P Q w) := by
  have HP := Lib.hid hP
  have HQ := Lib.hid hQ
  have HG := Lib.hid (fun W h => SpecH.group_any W pO pP pC P h)
  have HGQ := Lib.hid (fun W h => SpecH.group_any W qO qP qC Q h)
  obtain ⟨W0, hW0⟩ : ∃ W0, W0 = (w.alloc (.cells #[pO, pP, pC] 30)).alloc (.cells #[qO, qP, qC] 30) := ⟨_, rfl⟩
  have HB0 := Lib.hid (show Below (w.heap.size + 2) ((w.alloc (.cells #[pO, pP, pC] 30)).alloc (.cells #[qO, qP, qC] 30)) W0 by rw [hW0]; exact Below.refl _ _)
  clear hP hQ
  go_enter Tryz.func54, Tryz.ntmps54
  go_upto_region 1 with fail
  rw [← hW0]
  clear hW0
  obtain ⟨⟨p0, p1, p2⟩, ⟨q0, q1, q2⟩, hk, hbw, hs⟩ := bx HB0.out
  go_wp2_with fail
  refine (HG.out _ (HP.out.keep hk)).mono ?_
  rintro e w1 ⟨r, rfl, hr, hb1⟩
  have HB1 := Lib.hid (HB0.out.trans (hb1.mono hs))
  clear p0 p1 p2 q0 q1 q2 hk hbw hs hb1
  obtain ⟨⟨p0, p1, p2⟩, ⟨q0, q1, q2⟩, hk, hbw, hs⟩ := bx HB1.out
  by_cases hGP : Grps.Grp P
  · obtain rfl : r = true := hr.2 hGP
    have HGP := Lib.hid hGP
    clear hr hGP
    go_wp2_with fail
    refine (HGQ.out _ (HQ.out.keep hk)).mono ?_
    rintro e w2 ⟨r, rfl, hr, hb2⟩
    have HB2 := Lib.hid (HB1.out.trans (hb2.mono hs))
    clear p0 p1 p2 q0 q1 q2 hk hbw hs hb2
    obtain ⟨⟨p0, p1, p2⟩, ⟨q0, q1, q2⟩, hk, hbw, hs⟩ := bx HB2.out
    by_cases hGQ : Grps.Grp Q
    · obtain rfl : r = true := hr.2 hGQ
      obtain ⟨T, hTE⟩ : ∃ T, P = ofTw T := by obtain ⟨T, _, _, h, _⟩ := HGP.out; exact ⟨T, h⟩
      obtain ⟨U, hUE⟩ : ∃ U, Q = ofTw U := by obtain ⟨T, _, _, h, _⟩ := hGQ; exact ⟨T, h⟩
      subst hTE
      subst hUE
      have HGQQ := Lib.hid hGQ
      have HSZ := Lib.hid (SpecN.order_any T (grp_sz HGP.out).1 w2 pO pP pC (by have h := (HP.out.keep hk).os; rwa [SpecN.ofTw_ords] at h))
      clear hr hGQ
      go_wp2_with fail
      refine HSZ.out.mono ?_
      rintro e w3 ⟨rfl, hb3⟩
      have HB3 := Lib.hid (HB2.out.trans (hb3.mono hs))
      clear p0 p1 p2 q0 q1 q2 hk hbw hs hb3
      obtain ⟨⟨p0, p1, p2⟩, ⟨q0, q1, q2⟩, hk, hbw, hs⟩ := bx HB3.out
      have HBW := Lib.hid hbw
      by_cases h27 : 27 < sz T
      · have hd : decide ((sz T : Int) > 27) = true := by simp; omega
        have HR := Lib.hid (show Cod2R (ofTw T) (ofTw U) w (.returned (.int .i64 3)) w3 from ⟨3, rfl, .inr ⟨T, U, rfl, rfl, HGP.out, HGQQ.out, .inl ⟨rfl, .inl h27⟩⟩, HBW.out⟩)
        clear hk hbw hs
        go_wp2_with fail
        go_ret
        exact HR.out
      · have hd : decide ((sz T : Int) > 27) = false := by simp; omega
        have HSU := Lib.hid (SpecN.order_any U (grp_sz HGQQ.out).1 w3 qO qP qC (by have h := (HQ.out.keep hk).os; rwa [SpecN.ofTw_ords] at h))
        clear hk hbw
        go_wp2_with fail
        refine HSU.out.mono ?_
        rintro e w4 ⟨rfl, hb4⟩
        have HBW4 := Lib.hid (bx (HB3.out.trans (hb4.mono hs))).2.2.2.1
        clear p0 p1 p2 q0 q1 q2 hb4
        by_cases h28 : 27 < sz U
        · have hd2 : decide ((sz U : Int) > 27) = true := by simp; omega
          have HR := Lib.hid (show Cod2R (ofTw T) (ofTw U) w (.returned (.int .i64 3)) w4 from ⟨3, rfl, .inr ⟨T, U, rfl, rfl, HGP.out, HGQQ.out, .inl ⟨rfl, .inr h28⟩⟩, HBW4.out⟩)
          go_wp2_with fail
          go_ret
          exact HR.out
        · have hd2 : decide ((sz U : Int) > 27) = false := by simp; omega
          have HR := Lib.hid (show Cod2R (ofTw T) (ofTw U) w (.returned (.int .i64 0)) w4 from ⟨0, rfl, .inr ⟨T, U, rfl, rfl, HGP.out, HGQQ.out, .inr ⟨rfl, by omega, by omega⟩⟩, HBW4.out⟩)
          go_wp2_with fail
          go_ret
          exact HR.out
    · obtain rfl : r = false := by
        cases r with
        | false => rfl
        | true => exact absurd (hr.1 rfl) hGQ
      have HR := Lib.hid (show Cod2R P Q w (.returned (.int .i64 1)) w2 from ⟨1, rfl, .inl ⟨rfl, fun h => hGQ h.2⟩, hbw⟩)
      clear hr hGQ hk hbw hs
      go_wp2_with fail
      go_ret
      exact HR.out
  · obtain rfl : r = false := by
      cases r with
      | false => rfl
      | true => exact absurd (hr.1 rfl) hGP
    have HR := Lib.hid (show Cod2R P Q w (.returned (.int .i64 1)) w1 from ⟨1, rfl, .inl ⟨rfl, fun h => hGP h.1⟩, hbw⟩)
    clear hr hGP hk hbw hs
    go_wp2_with fail
    go_ret
    exact HR.out

theorem sz_one {U : Tw} (hU : Wf U) (h : sz U = 1) : U = [] := by
  cases U with
  | nil => rfl
  | cons L U =>
    exfalso
    have h2 : 2 ≤ L.o := hU.1
    have h3 := sz_pos hU.2.2.2.2
    simp only [sz] at h
    have := Nat.mul_le_mul h2 h3
    omega
/-- the maps that are isomorphisms, or none -/
def MapR (T U : Tw) (w : World) (e : Ending) (w' : World) : Prop := New3 (if sz T = sz U then growV U T T.length [] else []) w e w'

set_option maxRecDepth 100000 in
set_option maxHeartbeats 2000000 in
theorem maps_any (T U : Tw) (gT : Grps.Grp (ofTw T)) (gU : Grps.Grp (ofTw U)) (hz : sz U ≤ 27) (w : World) (pO pP pC qO qP qC : Value) (hP : ValP Any w pO pP pC (ofTw T)) (hQ : ValP Any w qO qP qC (ofTw U)) :
    Calls Tryz.prog 55 #[.agg #[pO, pP, pC], .agg #[qO, qP, qC]] w (MapR T U w) := by
  have HP := Lib.hid hP
  have HQ := Lib.hid hQ
  have HSP := Lib.hid (fun W (h : ValP Any W pO pP pC (ofTw T)) => SpecN.order_any T (grp_sz gT).1 W pO pP pC (by have h := h.os; rwa [SpecN.ofTw_ords] at h))
  have HSQ := Lib.hid (fun W (h : ValP Any W qO qP qC (ofTw U)) => SpecN.order_any U (grp_sz gU).1 W qO qP qC (by have h := h.os; rwa [SpecN.ofTw_ords] at h))
  obtain ⟨hT, hsT, hgT, hpT⟩ := grp_parts gT
  obtain ⟨hU, hsU, hgU, hpU⟩ := grp_parts gU
  have HEM := Lib.hid (fun W (hq : sz T = sz U) h1 h2 => embed_any T U hT hsT hU hsU hgU hpU hz (fun h => by
    rcases Nat.lt_or_ge 0 (List.length U) with h' | h'
    · exact h'
    · exfalso
      obtain rfl : U = [] := List.eq_nil_of_length_eq_zero (by omega)
      obtain rfl := sz_one hT (by rw [hq]; rfl)
      simp at h) W pO pP pC qO qP qC h1 h2)
  obtain ⟨W0, hW0⟩ : ∃ W0, W0 = (w.alloc (.cells #[pO, pP, pC] 30)).alloc (.cells #[qO, qP, qC] 30) := ⟨_, rfl⟩
  have HB0 := Lib.hid (show Below (w.heap.size + 2) ((w.alloc (.cells #[pO, pP, pC] 30)).alloc (.cells #[qO, qP, qC] 30)) W0 by rw [hW0]; exact Below.refl _ _)
  clear hP hQ hT hsT hgT hpT hU hsU hgU hpU gT gU
  go_enter Tryz.func55, Tryz.ntmps55
  go_upto_region 1 with fail
  rw [← hW0]
  clear hW0
  obtain ⟨⟨p0, p1, p2⟩, ⟨q0, q1, q2⟩, hk, hbw, hs⟩ := bx HB0.out
  have HP0 := Lib.hid (HP.out.keep hk)
  have HQ0 := Lib.hid (HQ.out.keep hk)
  have hl0 : w.heap.size < W0.heap.size := by omega
  have hl1 : w.heap.size + 1 < W0.heap.size := by omega
  clear hk hbw
  go_region_held3 (fun w' => (∀ b o, b < W0.heap.size → w'.cell? ⟨b, o, none⟩ = W0.cell? ⟨b, o, none⟩) ∧ Keep (fun _ => True) W0 w')
    (first | exact ks_mk (by repeat (first | exact (Keep.refl _ _).drew | exact Keep.refl _ _ | refine Keep.drewN ?_ _ | refine Keep.trans ?_ (Keep.of_below (by assumption)))))
    (first | (go_at_call_of 66 pO; refine (HSP.out _ (HP0.out.keep (by repeat (first | exact (Keep.refl _ _).drew | exact Keep.refl _ _ | exact (Keep.refl _ _).alloc _ | exact ((Keep.refl _ _).alloc _).drew | refine Keep.drewN ?_ _ | refine Keep.trans ?_ (Keep.of_below (by assumption)))))).mono ?_; rintro e w1 ⟨rfl, hb1⟩) | (go_at_call_of 66 qO; refine (HSQ.out _ (HQ0.out.keep (by repeat (first | exact (Keep.refl _ _).drew | exact Keep.refl _ _ | exact (Keep.refl _ _).alloc _ | exact ((Keep.refl _ _).alloc _).drew | refine Keep.drewN ?_ _ | refine Keep.trans ?_ (Keep.of_below (by assumption)))))).mono ?_; rintro e w2 ⟨rfl, hb2⟩))
  rename_i hHd
  clear hHd
  have HB1 := Lib.hid (HB0.out.drew.trans (hb1.mono hs))
  have HB2 := Lib.hid (HB1.out.trans (hb2.mono (bx HB1.out).2.2.2.2))
  clear p0 p1 p2 q0 q1 q2 hb1 hb2 hs HP0 HQ0
  obtain ⟨⟨p0, p1, p2⟩, ⟨q0, q1, q2⟩, hk, hbw, hs⟩ := bx HB2.out
  have HBW := Lib.hid hbw
  by_cases hq : sz T = sz U
  · have hb : ((sz T : Int) != (sz U : Int)) = false := by rw [hq]; simp
    have HE := Lib.hid (HEM.out w2 hq (HP.out.keep hk) (HQ.out.keep hk))
    have HQQ := Lib.hid hq
    clear hq hk hbw
    go_wp2_with fail
    refine HE.out.mono ?_
    rintro e w3 ⟨v, rfl, ho, hb3⟩
    have HR := Lib.hid (show MapR T U w (.returned v) w3 from ⟨v, rfl, by rw [if_pos HQQ.out]; exact ho.mono (by omega), HBW.out.trans (hb3.mono (by omega))⟩)
    clear ho hb3
    go_wp2_with fail
    go_ret
    exact HR.out
  · have hb : ((sz T : Int) != (sz U : Int)) = true := by simp; omega
    have HR := Lib.hid (show MapR T U w (.returned (.slice none 0 0)) w2 from ⟨_, rfl, by rw [if_neg hq]; exact Own3.nil _ _, HBW.out⟩)
    clear hq hk hbw
    go_wp2_with fail
    go_ret
    exact HR.out

/-- how many isomorphisms, with the code -/
def CntIV (P Q : Pres) (n k : Int) : Prop :=
  (n = 0 ∧ k = 1 ∧ ¬ (Grps.Grp P ∧ Grps.Grp Q)) ∨ ∃ T U, P = ofTw T ∧ Q = ofTw U ∧ Grps.Grp P ∧ Grps.Grp Q ∧
    ((n = 0 ∧ k = 3 ∧ (27 < sz T ∨ 27 < sz U)) ∨ (n = 0 ∧ k = 0 ∧ sz T ≤ 27 ∧ sz U ≤ 27 ∧ sz T ≠ sz U) ∨ (k = 0 ∧ sz T = sz U ∧ sz U ≤ 27 ∧ n = ((Grow.grow U T T.length []).length : Int)))
def CntIR (P Q : Pres) (w : World) (e : Ending) (w' : World) : Prop := ∃ n k : Int, e = .returned (.tuple #[.int .i64 n, .int .i64 k]) ∧ CntIV P Q n k ∧ Below w.heap.size w w'
theorem cntI_one {P Q : Pres} {n k n' k' : Int} (h : CntIV P Q n k) (h' : CntIV P Q n' k') : n' = n ∧ k' = k := by
  rcases h with ⟨rfl, rfl, hn⟩ | ⟨T, U, rfl, rfl, hG, hG2, h⟩
  · rcases h' with ⟨rfl, rfl, _⟩ | ⟨T', U', _, _, hG, hG2, _⟩
    · exact ⟨rfl, rfl⟩
    · exact absurd ⟨hG, hG2⟩ hn
  · rcases h' with ⟨_, _, hn⟩ | ⟨T', U', hT, hU, _, _, h'⟩
    · exact absurd ⟨hG, hG2⟩ hn
    · obtain rfl := Grps.ofTw_inj hT
      obtain rfl := Grps.ofTw_inj hU
      rcases h with ⟨rfl, rfl, h1⟩ | ⟨rfl, rfl, h1⟩ | ⟨rfl, h1, h2, rfl⟩ <;> rcases h' with ⟨rfl, rfl, h3⟩ | ⟨rfl, rfl, h3⟩ | ⟨rfl, h3, h4, rfl⟩ <;> first | exact ⟨rfl, rfl⟩ | omega
theorem iso_form2 {P Q : Pres} {w w' : World} {e : Ending} (h : ImplY.IsoRes P Q w e w') : ∃ a n c k, e = .returned (.tuple #[.slice a n c, .int .i64 k]) ∧ n ≤ 1000000000 ∧ Below w.heap.size w w' ∧ CntIV P Q (n : Int) k := by
  obtain ⟨v, k, rfl, hb, h⟩ := h
  rcases h with ⟨rfl, rfl, h⟩ | ⟨T, U, hT, hU, gP, gQ, h⟩
  · exact ⟨none, 0, 0, 1, rfl, by omega, hb, .inl ⟨rfl, rfl, h⟩⟩
  · rcases h with ⟨rfl, rfl, h⟩ | ⟨rfl, rfl, h1, h2, h3⟩ | ⟨rfl, h1, h2, F, hperm, _, ho⟩
    · exact ⟨none, 0, 0, 3, rfl, by omega, hb, .inr ⟨T, U, hT, hU, gP, gQ, .inl ⟨rfl, rfl, h⟩⟩⟩
    · exact ⟨none, 0, 0, 0, rfl, by omega, hb, .inr ⟨T, U, hT, hU, gP, gQ, .inr (.inl ⟨rfl, rfl, h1, h2, h3⟩)⟩⟩
    · obtain ⟨a, c, rfl, _, _⟩ := ho.form
      have hl := hperm.length_eq
      have hg := Grow.grow_length U T h2 T.length []
      have h6 : 27 ^ T.length ≤ 27 ^ 6 := Nat.pow_le_pow_right (by omega) (by
        obtain ⟨T', _, hs, e, _⟩ := gP
        obtain rfl : T = T' := Grps.ofTw_inj (hT.symm.trans e)
        exact hs.1)
      exact ⟨a, F.length, c, 0, rfl, by omega, hb, .inr ⟨T, U, hT, hU, gP, gQ, .inr (.inr ⟨rfl, h1, h2, by rw [hl]⟩)⟩⟩

set_option maxHeartbeats 1000000 in
theorem impl_count (w : World) (pO pP pC qO qP qC : Value) (P Q : Pres) (hP : ValP Any w pO pP pC P) (hQ : ValP Any w qO qP qC Q) :
    Calls Tryz.prog 18 #[.agg #[pO, pP, pC], .agg #[qO, qP, qC]] w (CntIR P Q w) := by
  obtain ⟨W0, hW0⟩ : ∃ W0, W0 = (w.alloc (.cells #[pO, pP, pC] 30)).alloc (.cells #[qO, qP, qC] 30) := ⟨_, rfl⟩
  have HB0 := Lib.hid (show Below (w.heap.size + 2) ((w.alloc (.cells #[pO, pP, pC] 30)).alloc (.cells #[qO, qP, qC] 30)) W0 by rw [hW0]; exact Below.refl _ _)
  obtain ⟨⟨p0, p1, p2⟩, ⟨q0, q1, q2⟩, hk, hbw, hs⟩ := bx HB0.out
  have HC := Lib.hid (ImplY.isomorphisms_any W0 w.heap.size 0 (w.heap.size + 1) 0 P Q ⟨trivial, by omega, _, _, _, p0, p1, p2, hP.keep hk⟩ ⟨trivial, by omega, _, _, _, q0, q1, q2, hQ.keep hk⟩)
  have HBW := Lib.hid hbw
  clear p0 p1 p2 q0 q1 q2 hk hbw hP hQ
  go_enter Tryz.func18, Tryz.ntmps18
  go_upto_region 1 with fail
  rw [← hW0]
  clear hW0
  go_wp2_with fail
  refine HC.out.mono ?_
  rintro e w1 h
  obtain ⟨a, n, c, k, rfl, hn, hb, hv⟩ := iso_form2 h
  have HR := Lib.hid (show CntIR P Q w (.returned (.tuple #[.int .i64 (n : Int), .int .i64 k])) w1 from ⟨_, _, rfl, hv, HBW.out.trans (hb.mono (by omega))⟩)
  clear h hb hv
  go_wp2_with fail
  exact bodyPost_ret (v := .tuple #[.int .i64 (n : Int), .int .i64 k]) (by simp [results, Tryz.results18, go_sem]) rfl HR.out

theorem grow_mem_len {U T : Tw} (gT : Grps.Grp (ofTw T)) (gU : Grps.Grp (ofTw U)) : (growV U T T.length []).length = (Grow.grow U T T.length []).length := by
  obtain ⟨hT, hsT, hgT, hpT⟩ := grp_parts gT
  obtain ⟨hU, hsU, hgU, hpU⟩ := grp_parts gU
  exact growV_count hU hgU hT

set_option maxRecDepth 100000 in
set_option maxHeartbeats 1000000 in
theorem spec_count (w : World) (pO pP pC qO qP qC : Value) (P Q : Pres) (hP : ValP Any w pO pP pC P) (hQ : ValP Any w qO qP qC Q) :
    Calls Tryz.prog 17 #[.agg #[pO, pP, pC], .agg #[qO, qP, qC]] w (CntIR P Q w) := by
  have HP := Lib.hid hP
  have HQ := Lib.hid hQ
  obtain ⟨W0, hW0⟩ : ∃ W0, W0 = (w.alloc (.cells #[pO, pP, pC] 30)).alloc (.cells #[qO, qP, qC] 30) := ⟨_, rfl⟩
  have HB0 := Lib.hid (show Below (w.heap.size + 2) ((w.alloc (.cells #[pO, pP, pC] 30)).alloc (.cells #[qO, qP, qC] 30)) W0 by rw [hW0]; exact Below.refl _ _)
  clear hP hQ
  go_enter Tryz.func17, Tryz.ntmps17
  go_upto_region 1 with fail
  rw [← hW0]
  clear hW0
  obtain ⟨⟨p0, p1, p2⟩, ⟨q0, q1, q2⟩, hk, hbw, hs⟩ := bx HB0.out
  go_wp2_with fail
  refine (code2_any _ _ _ _ _ _ _ P Q (HP.out.keep hk) (HQ.out.keep hk)).mono ?_
  rintro e w1 ⟨k, rfl, hc, hb1⟩
  have HB1 := Lib.hid (HB0.out.trans (hb1.mono hs))
  clear p0 p1 p2 q0 q1 q2 hk hbw hs hb1
  obtain ⟨⟨p0, p1, p2⟩, ⟨q0, q1, q2⟩, hk, hbw, hs⟩ := bx HB1.out
  rcases hc with ⟨rfl, hG⟩ | ⟨T, U, rfl, rfl, hG, hG2, ⟨rfl, h27⟩ | ⟨rfl, h27, h28⟩⟩
  · have HR := Lib.hid (show CntIR P Q w (.returned (.tuple #[.int .i64 0, .int .i64 1])) w1 from ⟨0, 1, rfl, .inl ⟨rfl, rfl, hG⟩, hbw⟩)
    clear hG hk hbw
    go_wp2_with fail
    exact bodyPost_ret (v := .tuple #[.int .i64 0, .int .i64 1]) (by simp [results, Tryz.results17, go_sem]) rfl HR.out
  · have HR := Lib.hid (show CntIR (ofTw T) (ofTw U) w (.returned (.tuple #[.int .i64 0, .int .i64 3])) w1 from ⟨0, 3, rfl, .inr ⟨T, U, rfl, rfl, hG, hG2, .inl ⟨rfl, rfl, h27⟩⟩, hbw⟩)
    clear hG hG2 hk hbw h27
    go_wp2_with fail
    exact bodyPost_ret (v := .tuple #[.int .i64 0, .int .i64 3]) (by simp [results, Tryz.results17, go_sem]) rfl HR.out
  · have HM := Lib.hid (maps_any T U hG hG2 h28 w1 pO pP pC qO qP qC (HP.out.keep hk) (HQ.out.keep hk))
    have HG := Lib.hid (And.intro hG hG2)
    have HBW := Lib.hid hbw
    have HLE := Lib.hid (And.intro h27 h28)
    clear hk hG hG2 hbw h27 h28
    go_wp2_with fail
    refine HM.out.mono ?_
    rintro e w2 ⟨v, rfl, ho, hb2⟩
    obtain ⟨a, c, rfl, _, _⟩ := ho.form
    obtain ⟨n, hn⟩ : ∃ n, (if sz T = sz U then growV U T T.length [] else []).length = n := ⟨_, rfl⟩
    rw [hn]
    have HR := Lib.hid (show CntIR (ofTw T) (ofTw U) w (.returned (.tuple #[.int .i64 (n : Int), .int .i64 0])) w2 from ⟨_, 0, rfl, .inr ⟨T, U, rfl, rfl, HG.out.1, HG.out.2, by
      by_cases hq : sz T = sz U
      · rw [if_pos hq, grow_mem_len HG.out.1 HG.out.2] at hn
        exact .inr (.inr ⟨rfl, hq, HLE.out.2, by rw [hn]⟩)
      · rw [if_neg hq] at hn
        exact .inr (.inl ⟨by rw [← hn]; rfl, rfl, HLE.out.1, HLE.out.2, hq⟩)⟩, HBW.out.trans (hb2.mono (by omega))⟩)
    clear ho hb2 hn
    go_wp2_with fail
    exact bodyPost_ret (v := .tuple #[.int .i64 (n : Int), .int .i64 0]) (by simp [results, Tryz.results17, go_sem]) rfl HR.out
end Go.Proofs.YtabeedimnbkcgaaGreat.IsoA

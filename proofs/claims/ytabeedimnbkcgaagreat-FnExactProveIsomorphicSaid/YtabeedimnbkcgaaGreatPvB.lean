import Derived.Test.YtabeedimnbkcgaaGreatPvA
/-
  spec.l07Own.
-/
namespace Go.Proofs.YtabeedimnbkcgaaGreat.PvB
open Go.RowKit Go.Proofs.YtabeedimnbkcgaaGreat Go.Proofs.YtabeedimnbkcgaaGreat.Tow Go.Proofs.YtabeedimnbkcgaaGreat.NumT Go.Proofs.YtabeedimnbkcgaaGreat.SpecB Go.Proofs.YtabeedimnbkcgaaGreat.SpecS Go.Proofs.YtabeedimnbkcgaaGreat.LawC Go.Proofs.YtabeedimnbkcgaaGreat.Mark Go.Proofs.YtabeedimnbkcgaaGreat.FindA Go.Proofs.YtabeedimnbkcgaaGreat.FindB Go.Proofs.YtabeedimnbkcgaaGreat.FindD Go.Proofs.YtabeedimnbkcgaaGreat.AllB Go.Proofs.YtabeedimnbkcgaaGreat.AllC Go.Proofs.YtabeedimnbkcgaaGreat.PvA
set_option linter.unusedVariables false
set_option linter.unusedSimpArgs false

def blkOf : Value → Nat
  | .slice (some a) _ _ => a.block
  | _ => 0
theorem own2_E {B : Nat} {w : World} {v : Value} {rows : List (List Nat)} (h : Own2 22 2 B w v rows) : ∃ L, OwnE B w v L ∧ L.map (·.2) = rows.map ints := by
  obtain ⟨us, h1, h2, h4⟩ := h
  have hl : ((us.zip rows).map fun p => (blkOf p.1, ints p.2)).length = rows.length := by simp [h2]
  refine ⟨(us.zip rows).map fun p => (blkOf p.1, ints p.2), ⟨us, by rw [hl]; exact h1, by rw [hl]; exact h2, fun i p u hp hu => ?_⟩, ?_⟩
  · rw [List.getElem?_map, Option.map_eq_some_iff] at hp
    obtain ⟨⟨u', r⟩, hz, rfl⟩ := hp
    rw [List.getElem?_zip_eq_some] at hz
    obtain ⟨hz1, hz2⟩ := hz
    have hz1' : us[i]? = some u' := hz1
    have hz2' : rows[i]? = some r := hz2
    rw [hu] at hz1'
    cases hz1'
    obtain ⟨⟨g, c, rfl⟩, ho⟩ := h4 i r u hz2' hu
    refine ⟨⟨c, by rw [ints_length]; rfl⟩, ?_⟩
    unfold Own
    rw [ints_length]
    exact ho
  · rw [List.map_map]
    apply List.ext_getElem
    · simp [h2]
    · intro i q1 q2
      simp
def CopS (P : Pres) (w : World) (e : Ending) (w' : World) : Prop := ∃ v0 v1 v2, e = .returned (.agg #[v0, v1, v2]) ∧ ValP (fun b => w.heap.size ≤ b) w' v0 v1 v2 P ∧ Below w.heap.size w w'
theorem OwnE3.sl3 {B : Nat} {w : World} {v : Value} {C : List (List (Nat × List Int))} (h : OwnE3 B w v C) : Sl3 Any w v (C.map fun L => L.map (·.2)) := by
  obtain ⟨a, cap, rfl, h1, h2, h0⟩ := h.form
  refine ⟨a, cap, by simp, by simpa using h1, h2, h0, fun i x hx => ?_⟩
  simp only [List.getElem?_map, Option.map_eq_some_iff] at hx
  obtain ⟨L, hL, rfl⟩ := hx
  obtain ⟨ao, c, e, q1, q2, q0, q3⟩ := h.rows
  simp only [Value.slice.injEq] at e
  obtain ⟨rfl, -, rfl⟩ := e
  obtain ⟨b, o, e1, _, e3, u, e4, e5⟩ := q3 i L hL
  exact ⟨b, o, e1, trivial, e3, u, e4, Rows2.sl2 e5⟩
theorem OwnE.sl2 {B : Nat} {w : World} {v : Value} {L : List (Nat × List Int)} (h : OwnE B w v L) : Sl2 (fun b => B ≤ b) w v (L.map (·.2)) := by
  obtain ⟨ao, c, h1, h2, h3, h0, h4⟩ := h.rows
  refine ⟨ao, c, by simpa using h1, by simpa using h2, h3, h0, fun i x hx => ?_⟩
  simp only [List.getElem?_map, Option.map_eq_some_iff] at hx
  obtain ⟨p, hp, rfl⟩ := hx
  obtain ⟨b, o, e1, e2, e3, u, e4, e5⟩ := h4 i p hp
  have hl := (h.lt p (List.mem_of_getElem? hp)).1
  exact ⟨b, o, e1, e2, e3, u, e4, e5.mono (fun k hk => by rw [hk]; exact hl)⟩
theorem OwnE3.sl3S {B : Nat} {w : World} {v : Value} {C : List (List (Nat × List Int))} (h : OwnE3 B w v C) : Sl3 (fun b => B ≤ b) w v (C.map fun L => L.map (·.2)) := by
  obtain ⟨a, cap, rfl, h1, h2, h0⟩ := h.form
  refine ⟨a, cap, by simp, by simpa using h1, h2, h0, fun i x hx => ?_⟩
  simp only [List.getElem?_map, Option.map_eq_some_iff] at hx
  obtain ⟨L, hL, rfl⟩ := hx
  obtain ⟨us, o1, o2, o4⟩ := h
  have hil := (List.getElem?_eq_some_iff.1 hL).1
  obtain ⟨u, hu⟩ : ∃ u, us[i]? = some u := ⟨_, List.getElem?_eq_getElem (by omega)⟩
  have ho := o4 i L u hL hu
  rcases o1.2 with ⟨e, hn⟩ | ⟨g, cap', cur, e, hb, hgg, _⟩
  · omega
  · cases e
    refine ⟨g, 0, rfl, hb, (Array.getElem?_eq_some_iff.1 hgg).1, u, ?_, OwnE.sl2 ho⟩
    rw [Nat.zero_add, World.ownsRow.cellAt o1 i (by omega)]
    exact hu
theorem cos_fin {w w1 W : World} {g m M r : Nat} {v0 v1 v2 : Value} {a : Nat × List Int} {R : List (Nat × List Int)} {C : List (List (Nat × List Int))} {P : Pres} (hb1 : Below w.heap.size w w1) (hr : w.heap.size ≤ r) (hs1 : r < w1.heap.size) (h : St2 False w1 W g m M v0 v1 v2 a R C P P.cs.length) :
    CopS P w (.returned (.agg #[v0, v1, v2])) (((W.setCell ⟨r, 0, none⟩ v0).setCell ⟨r, 1, none⟩ v1).setCell ⟨r, 2, none⟩ v2) := by
  have hk : Keep (fun k => k ≠ r) W (((W.setCell ⟨r, 0, none⟩ v0).setCell ⟨r, 1, none⟩ v1).setCell ⟨r, 2, none⟩ v2) := (((Keep.refl _ _).setCell (by simp) _).setCell (by simp) _).setCell (by simp) _
  have hlow : ∀ k, w1.heap.size ≤ k → k ≠ r := fun k hk => by omega
  have h3 := h.Cv
  rw [List.take_length] at h3
  refine ⟨v0, v1, v2, rfl, ⟨?_, ?_, ?_⟩, ?_⟩
  · rw [← h.av]
    exact (Own.keep h.oa.1 hk (fun k hk => hlow k (World.ownsRow.lt h.oa.1 k hk).1)).sl.mono (fun _ h => Nat.le_trans hb1.size h)
  · rw [← h.Rv]
    exact Sl2.mono (OwnE.sl2 (FindD.OwnE.keepS h.oR hk hlow)) (fun _ h => Nat.le_trans hb1.size h)
  · rw [← h3]
    exact Sl3.mono (OwnE3.sl3S (h.oC.keepS hk hlow)) (fun _ h => Nat.le_trans hb1.size h)
  · have hb := hb1.trans (h.bel.mono hb1.size)
    exact ((hb.setCell (p := ⟨r, 0, none⟩) hr _).setCell (p := ⟨r, 1, none⟩) hr _).setCell (p := ⟨r, 2, none⟩) hr _

set_option maxRecDepth 100000 in
set_option maxHeartbeats 2000000 in
theorem ownP_any (w : World) (vO vP vC : Value) (P : Pres) (hV : ValP Any w vO vP vC P) (h1 : P.os.length ≤ 1000) (h2 : ∃ rs : List (List Nat), P.ps = rs.map ints ∧ rs.length ≤ 1000 ∧ ∀ r ∈ rs, r.length ≤ 1000) (h3 : P.cs.length ≤ 1000 ∧ ∀ c ∈ P.cs, ∃ rs : List (List Nat), c = rs.map ints ∧ rs.length ≤ 1000 ∧ ∀ r ∈ rs, r.length ≤ 1000) :
    Calls Tryz.prog 61 #[.agg #[vO, vP, vC]] w (CopS P w) := by
  obtain ⟨i0, hi, hz0, hz1, hz2⟩ := info_parts infoR3
  obtain ⟨aO, cO, rfl, _, _⟩ := SlG.form hV.os
  obtain ⟨aP, cP, rfl, _, _⟩ := SlG.form hV.ps
  obtain ⟨aC, cC, rfl, _, _⟩ := SlG.form hV.cs
  obtain ⟨rs, hrs, hrl, hrr⟩ := h2
  have HCL := Lib.hid (fun W hv => SpecA.own_any Any (.slice aO P.os.length cO) P.os W hv (by omega))
  have HCR := Lib.hid (fun W v (rows : List (List Nat)) hv h1 h2 => SpecL.own2_any W v rows hv h1 h2)
  have HV := Lib.hid hV
  have H1 := Lib.hid h1
  have H2 := Lib.hid (And.intro hrs (And.intro hrl hrr))
  have H3 := Lib.hid h3
  clear hV h1 h3 hrs hrl hrr
  go_enter Tryz.func61, Tryz.ntmps61
  go_upto_region 1 with fail
  obtain ⟨w1, hw1⟩ : ∃ w1, w1 = (w.alloc (.cells #[.slice aO P.os.length cO, .slice aP P.ps.length cP, .slice aC P.cs.length cC] 30)).alloc (.cells #[.slice none 0 0, .slice none 0 0, .slice none 0 0] 30) := ⟨_, rfl⟩
  rw [← hw1]
  have hb1 : Below w.heap.size w w1 := by rw [hw1]; exact ((Below.refl _ _).alloc (Nat.le_refl _) _).alloc (by simp) _
  have hs1 : w1.heap.size = w.heap.size + 2 := by rw [hw1]; simp
  have G1 := Lib.hid (show w1.heap[w.heap.size + 1]? = some (.cells #[.slice none 0 0, .slice none 0 0, .slice none 0 0] 30 (0, 0)) by rw [hw1]; have := heap_alloc_new (w.alloc (.cells #[.slice aO P.os.length cO, .slice aP P.ps.length cP, .slice aC P.cs.length cC] 30)) (.cells #[.slice none 0 0, .slice none 0 0, .slice none 0 0] 30); simpa using this)
  have K1 := Lib.hid (show w1.heap[w.heap.size]? = some (.cells #[.slice aO P.os.length cO, .slice aP P.ps.length cP, .slice aC P.cs.length cC] 30 (0, 0)) by rw [hw1]; exact old_blk (heap_alloc_new w _))
  have HV1 := Lib.hid (HV.out.keep (Keep.of_below hb1))
  have HPS := Lib.hid (show Sl2 Any w1 (.slice aP P.ps.length cP) (rs.map ints) from by rw [← H2.out.1]; exact HV1.out.ps)
  obtain ⟨⟨q0, q1, q2⟩, _⟩ := row3 K1.out
  obtain ⟨b, hb⟩ : ∃ b, w.heap.size = b := ⟨_, rfl⟩
  have hbl1 : b < w1.heap.size := by omega
  have HB1 := Lib.hid hb1
  have HS1 := Lib.hid (show w.heap.size ≤ b + 1 ∧ b + 1 < w1.heap.size from by omega)
  rw [hb] at q0 q1 q2 G1
  simp only [hb]
  clear hw1 hb1 hs1 hb K1
  go_cut [3] (fun sv W => ∃ g m v0 v1 a R, sv = .pointer (some ⟨g, 0, none⟩) ∧ Hid (St1 False w1 W g m v0 v1 a R P))
  case rest =>
    obtain ⟨g, m, v0, v1, a, R, rfl, hS⟩ := hcut
    have HS0 := Lib.hid hS.out.start
    obtain ⟨M, hM⟩ : ∃ M, wc.heap.size = M := ⟨_, rfl⟩
    rw [hM] at HS0
    have hcs63 : (P.cs.length : Int) ≤ 9223372036854775807 := by have := H3.out.1; omega
    clear hM q0 q1 hS HCL
    go_wp2_with fail
    go_loopw [4] (fun iv wr => ∃ (i : Nat) (v2 : Value) (C : List (List (Nat × List Int))), i ≤ P.cs.length ∧ iv = .int .i64 (i : Int) ∧ Hid (St2 False w1 wr g m M v0 v1 v2 a R C P i)) (fun iv _ => P.cs.length - (intOf iv).toNat)
    case atStart => exact ⟨0, _, [], Nat.zero_le _, rfl, HS0⟩
    case round =>
      obtain ⟨i, v2, C, hi', rfl, hS⟩ := hrel
      have hqr := ((Keep.of_below (S := Any) hS.out.bel).cell (b := b) (o := 2) trivial hbl1).trans q2
      have hblr : b < wr.heap.size := Nat.lt_of_lt_of_le hbl1 hS.out.bel.size
      by_cases hlt : i < P.cs.length
      · obtain ⟨c, hc⟩ : ∃ c, P.cs[i]? = some c := ⟨_, List.getElem?_eq_getElem hlt⟩
        obtain ⟨bC, oC, u, rfl, _, hbC, hcC, hu⟩ := SlG.get (HV1.out.keep (Keep.of_below hS.out.bel)).cs hc
        obtain ⟨rs2, hc1, hc2, hc3⟩ := H3.out.2 c (List.mem_of_getElem? hc)
        have HCC := Lib.hid (fun W hv => HCR.out W u rs2 hv hc2 hc3)
        have HUU := Lib.hid (show Sl2 Any wr u (rs2.map ints) by rw [← hc1]; exact hu)
        have HC1 := Lib.hid hc1
        obtain ⟨a2, c2, rfl, _, hc2m, _⟩ := hS.out.oC.form
        obtain ⟨⟨e0, e1, e2⟩, f0, f1, f2⟩ := row3 hS.out.blk
        have hgl : g < wr.heap.size := (Array.getElem?_eq_some_iff.1 hS.out.blk).1
        obtain ⟨us, h1, h2, h4⟩ := hS.out.oC
        have HU := Lib.hid (And.intro h1 (And.intro h2 h4))
        have HCI := Lib.hid hc
        have HBK := Lib.hid hS.out.blk
        have HBS := Lib.hid hS.out.bel.size
        have hCl : C.length = i := by
          have := congrArg List.length hS.out.Cv
          rw [List.length_map, List.length_take] at this
          omega
        have hi1000 : (i : Int) ≤ 1000 := by have := H3.out.1; omega
        have hi0 : (0 : Int) ≤ (i : Int) := by omega
        have hil : (i : Int) < (P.cs.length : Int) := by omega
        have HCB := Lib.hid (show C.length ≤ 1000 by have := H3.out.1; omega)
        clear hu hc1 hc2 hc3 hc h1 h2 h4 hCl hc2m
        go_upto_region 5 with fail
        rename World => w4
        go_region_law
          (first | (go_simp; go_at_call 94; refine (HCC.out _ (Sl2.keep HUU.out (by repeat (first | exact (Keep.refl _ _).drew | exact Keep.refl _ _ | exact (Keep.refl _ _).alloc _ | exact ((Keep.refl _ _).alloc _).drew | refine Keep.drew ?_ | refine Keep.alloc ?_ _ | refine Keep.trans ?_ (Keep.of_below (by assumption)))))).mono ?_; rintro e w5 ⟨v5, rfl, hL0, hb5⟩; obtain ⟨L, hL, hLr0⟩ := own2_E hL0; have hLr := hLr0.trans HC1.out.symm; obtain ⟨a5, c5, rfl, _, _, _⟩ := hL.form; have k5 := (show Keep Any w4 w5 from (by repeat (first | exact (Keep.refl _ _).drew | exact Keep.refl _ _ | exact (Keep.refl _ _).alloc _ | exact ((Keep.refl _ _).alloc _).drew | refine Keep.drew ?_ | refine Keep.alloc ?_ _ | refine Keep.trans ?_ (Keep.of_below (by assumption))))); have p5 := (k5.cell (b := g) (o := 2) trivial hgl).trans e2; have hgl5 : g < w5.heap.size := Nat.lt_of_lt_of_le hgl k5.size; have hq5 := (k5.cell (b := b) (o := 2) trivial hblr).trans hqr; have hb55 : b < w5.heap.size := Nat.lt_of_lt_of_le hblr k5.size; have hc5 := (k5.cell (b := bC) (o := oC + i) trivial hbC).trans hcC; have hbC5 : bC < w5.heap.size := Nat.lt_of_lt_of_le hbC k5.size) | (refine step_append_lies _ (by rfl) _ _ _ (by rfl) w1.heap.size 23 i0 (.slice none 0 0) 1 24 Tryz.underlying24 hi hz0 hz1 hz2 rfl (by omega) (.slice a2 C.length c2) C.length us (by rfl) ((ownsRow_keep HU.out.1 (S := Any) k5 (fun _ _ => trivial)).alloc _) ⟨w5.heap.size, 0, none⟩ 1 1 [.slice a5 L.length c5] (by rfl) (by rfl) (World.news_of_block (cs := #[.slice a5 L.length c5]) (t := 23) (fr := (0, 0)) (heap_alloc_new _ _)) (by simp [Value.oneCell']) (by omega) (by have := HCB.out; unfold maxLen; omega) (by have := HCB.out; omega) (by have := k5.size; have := HBS.out; simp; omega) _ rfl ?_; intro gg cap w10 hown10 hgrow10 hat10 hlt10; have g10 := (hgrow10.block g (by simp; omega) (grow_ne HU.out.1 HBK.out)).trans (al_old (k5.block g trivial hgl) HBK.out); obtain ⟨⟨m0, m1, m2⟩, n0, n1, n2⟩ := row3 g10))
        all_goals
          have hb5' : Below w4.heap.size w4 w5 := by first | exact hb5 | exact ((Below.refl _ _).drew).trans hb5
          have HN := Lib.hid (St2.step hS.out HCI.out hb5' hL hLr (fun h => h.elim) HU.out.1 HU.out.2.1 HU.out.2.2 hown10 hgrow10)
          clear hb5' hb5 hL hL0 hLr hLr0 hown10 hgrow10 hat10 hlt10 g10 m0 m1 m2 n0 n1 n2 k5 p5 hgl5 hq5 hb55 hc5 hbC5 hS e0 e1 e2 f0 f1 f2 hcC hqr
          go_wp2_with fail
          go_roundw
          case rel => exact ⟨i + 1, _, _, by omega, by go_num, HN⟩
          case measure => simp [intOf] <;> omega
      · obtain rfl : i = P.cs.length := by omega
        have hdl : decide ((P.cs.length : Int) < (P.cs.length : Int)) = false := by simp
        have HR0 := Lib.hid (blk hS.out.bel (by have := HS1.out; omega) G1.out)
        obtain ⟨⟨r0, r1, r2⟩, s0, s1, s2⟩ := row3 HR0.out
        obtain ⟨⟨e0, e1, e2⟩, f0, f1, f2⟩ := row3 hS.out.blk
        obtain ⟨⟨z0, z1, z2⟩, -⟩ := row3 (put3 (x := v0) (y := v1) (z := v2) HR0.out)
        have hS' := hS.out
        obtain ⟨aa, cc, rfl, _⟩ := SlG.form hS'.oa.1.sl
        obtain ⟨aa1, cc1, rfl, _⟩ := hS'.oR.form
        obtain ⟨aa2, cc2, rfl, _⟩ := hS'.oC.form
        have HFIN := Lib.hid (cos_fin (w := w) (r := b + 1) HB1.out HS1.out.1 HS1.out.2 hS')
        clear hS hS'
        go_wp2_with fail
        exact bodyPost_ret (v := .agg #[.slice aa a.2.length cc, .slice aa1 R.length cc1, .slice aa2 C.length cc2]) (by simp [results, Tryz.results61, go_sem, z0, z1, z2]) rfl HFIN.out
  go_region_law
    (first | (go_simp; go_at_call 93; refine (HCL.out _ (HV1.out.os.keep (by repeat (first | exact (Keep.refl _ _).drew | exact Keep.refl _ _ | exact (Keep.refl _ _).alloc _ | exact ((Keep.refl _ _).alloc _).drew | refine Keep.drew ?_ | refine Keep.alloc ?_ _ | refine Keep.trans ?_ (Keep.of_below (by assumption)))))).mono ?_; rintro e w2 ⟨g2, c2, rfl, ho2, hb2⟩; have k2 := (show Keep Any w1 w2 from (by repeat (first | exact (Keep.refl _ _).drew | exact Keep.refl _ _ | exact (Keep.refl _ _).alloc _ | exact ((Keep.refl _ _).alloc _).drew | refine Keep.drew ?_ | refine Keep.alloc ?_ _ | refine Keep.trans ?_ (Keep.of_below (by assumption))))); have p2 := (k2.cell (b := b) (o := 1) trivial hbl1).trans q1; have hbl2 : b < w2.heap.size := Nat.lt_of_lt_of_le hbl1 k2.size; first | (have gNo : Below w1.drew.heap.size w1.drew w2 := hb2) | (have gA2 : w2.heap[w1.heap.size]? = some (.cells #[.slice none 0 0, .slice none 0 0, .slice none 0 0] 30 (0, 0)) := by exact blk hb2 (lt_al w1 _) (al_new w1 _))) | (go_simp; go_at_call 94; refine (HCR.out _ _ rs (Sl2.keep HPS.out (by repeat (first | exact (Keep.refl _ _).drew | exact Keep.refl _ _ | exact (Keep.refl _ _).alloc _ | exact ((Keep.refl _ _).alloc _).drew | refine Keep.drew ?_ | refine Keep.alloc ?_ _ | refine Keep.trans ?_ (Keep.of_below (by assumption))))) H2.out.2.1 H2.out.2.2).mono ?_; rintro e w3 ⟨v3, rfl, hL0, hb3⟩; obtain ⟨L, hL, hLr0⟩ := own2_E hL0; have hLr := hLr0.trans H2.out.1.symm; obtain ⟨a3, c3, rfl, _, _, _⟩ := hL.form; first | (have gC := gNo; have gC2 : Below w2.heap.size w2 w3 := hb3) | (have gB : w3.heap[w2.heap.size]? = some (.cells #[.slice none 0 0, .slice none 0 0, .slice none 0 0] 30 (0, 0)) := blk hb3 (by simp) (heap_alloc_new _ _); obtain ⟨⟨eB0, eB1, eB2⟩, fB0, fB1, fB2⟩ := row3 gB) | (have gA : w3.heap[w1.heap.size]? = some (.cells #[.slice none 0 0, .slice none 0 0, .slice none 0 0] 30 (0, 0)) := blk hb3 (Array.getElem?_eq_some_iff.1 gA2).1 gA2; obtain ⟨⟨eA0, eA1, eA2⟩, fA0, fA1, fA2⟩ := row3 gA)))
  all_goals (go_wp2_with fail; go_meet)
  all_goals first
    | (have B2 : Below w1.heap.size w1 w2 := ((Below.refl _ _).drew).trans gNo
       have B3 : Below w1.heap.size w1 w3 := B2.trans (gC2.mono B2.size)
       obtain ⟨aa, hst⟩ := st1_mk (q := False) (g := w3.heap.size) (m := w2.heap.size) (B3.alloc B3.size _) B3.size (heap_alloc_new w3 (.cells #[.slice (some ⟨g2, 0, none⟩) P.os.length c2, .slice a3 L.length c3, .slice none 0 0] 30)) ((ho2.mono (Nat.le_refl _)).keep (S := Any) ((Keep.of_below gC2).alloc _) (fun _ _ => trivial)) (fun g0 h => (World.ownsRow.lt ho2 g0 h).2) (Nat.le_refl _) B2.size (hL.keep ((Below.refl _ _).alloc (Nat.le_refl _) _)) hLr (fun h => h.elim) (Keep.refl _ _) (Below.refl _ _) (heap_alloc_new w3 _) (by have := gC2.size; simp; omega)
       exact ⟨_, _, _, _, _, _, rfl, Lib.hid hst⟩)
    | (have B2 : Below w1.heap.size w1 w2 := ((Below.refl _ _).drew).trans gNo
       have B3 : Below w1.heap.size w1 w3 := (B2.alloc B2.size _).trans (hb3.mono (by have := B2.size; simp; omega))
       obtain ⟨aa, hst⟩ := st1_mk (q := False) (g := w2.heap.size) (m := w2.heap.size) (W := ((w3.setCell ⟨w2.heap.size, 0, none⟩ (.slice (some ⟨g2, 0, none⟩) P.os.length c2)).setCell ⟨w2.heap.size, 1, none⟩ (.slice a3 L.length c3)).setCell ⟨w2.heap.size, 2, none⟩ (.slice none 0 0)) B3 B2.size gB ((ho2.mono (Nat.le_refl _)).keep (S := Any) (((Keep.refl _ _).alloc _).trans (Keep.of_below hb3)) (fun _ _ => trivial)) (fun g0 h => (World.ownsRow.lt ho2 g0 h).2) (by simp) B2.size hL hLr (fun h => h.elim) ((((Keep.refl _ _).setCell (by simp) _).setCell (by simp) _).setCell (by simp) _) ((((Below.refl _ _).setCell (p := ⟨w2.heap.size, 0, none⟩) B2.size _).setCell (p := ⟨w2.heap.size, 1, none⟩) B2.size _).setCell (p := ⟨w2.heap.size, 2, none⟩) B2.size _) (put3 gB) (by have := hb3.size; simp [World.setCell] at *; omega)
       exact ⟨_, _, _, _, _, _, rfl, Lib.hid hst⟩)
    | (have B2 : Below w1.heap.size w1 w2 := (((Below.refl _ _).drew).alloc (Nat.le_refl _) _).trans (hb2.mono (Nat.le_of_lt (lt_al w1 _)))
       have B3 : Below w1.heap.size w1 w3 := B2.trans (hb3.mono B2.size)
       obtain ⟨aa, hst⟩ := st1_mk (q := False) (g := w1.heap.size) (m := w2.heap.size) (W := ((w3.setCell ⟨w1.heap.size, 0, none⟩ (.slice (some ⟨g2, 0, none⟩) P.os.length c2)).setCell ⟨w1.heap.size, 1, none⟩ (.slice a3 L.length c3)).setCell ⟨w1.heap.size, 2, none⟩ (.slice none 0 0)) B3 (Nat.le_refl _) gA ((ho2.mono (Nat.le_of_lt (lt_al w1 _))).keep (S := Any) (Keep.of_below hb3) (fun _ _ => trivial)) (fun g0 h => (World.ownsRow.lt ho2 g0 h).2) (Nat.le_refl _) B2.size hL hLr (fun h => h.elim) ((((Keep.refl _ _).setCell (by simp) _).setCell (by simp) _).setCell (by simp) _) ((((Below.refl _ _).setCell (p := ⟨w1.heap.size, 0, none⟩) (Nat.le_refl _) _).setCell (p := ⟨w1.heap.size, 1, none⟩) (Nat.le_refl _) _).setCell (p := ⟨w1.heap.size, 2, none⟩) (Nat.le_refl _) _) (put3 gA) (by have := hb3.size; simp [World.setCell] at *; omega)
       exact ⟨_, _, _, _, _, _, rfl, Lib.hid hst⟩)
end Go.Proofs.YtabeedimnbkcgaaGreat.PvB

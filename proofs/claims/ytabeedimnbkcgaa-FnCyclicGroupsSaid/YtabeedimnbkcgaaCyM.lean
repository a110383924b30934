import Derived.Test.YtabeedimnbkcgaaCyL
/-
  spec.CyclicPresentation.
-/
namespace Go.Proofs.Ytabeedimnbkcgaa.CyM
open Go.RowKit Go.Proofs.Ytabeedimnbkcgaa Go.Proofs.Ytabeedimnbkcgaa.Tow Go.Proofs.Ytabeedimnbkcgaa.Val Go.Proofs.Ytabeedimnbkcgaa.Grps Go.Proofs.Ytabeedimnbkcgaa.NumT Go.Proofs.Ytabeedimnbkcgaa.CyA Go.Proofs.Ytabeedimnbkcgaa.CyD Go.Proofs.Ytabeedimnbkcgaa.CyI Go.Proofs.Ytabeedimnbkcgaa.CyJ Go.Proofs.Ytabeedimnbkcgaa.CyK Go.Proofs.Ytabeedimnbkcgaa.CyH Go.Proofs.Ytabeedimnbkcgaa.CyL
set_option linter.unusedVariables false
set_option linter.unusedSimpArgs false

theorem swap_at {B n i b m : Nat} {W W1 : World} {g gp cp : Nat} {vO vC : Value} {os bs : List Nat} {rows : List (List Nat)} {cl : List (List (List Nat))} {r : List Nat} (hm : bs.length = m) (h : TS B n W g vO (.slice (some ⟨gp, 0, none⟩) m cp) vC os bs rows cl) (hb : Below W.heap.size W W1) (hbb : W.heap.size ≤ b)
    (hO : Own B W1 (rowV n b) (ints r)) (hr : r.length = n) (hi : i < m) :
    TS B n (W1.setCell ⟨gp, i, none⟩ (rowV n b)) g vO (.slice (some ⟨gp, 0, none⟩) m cp) vC os (bs.set i b) (rows.set i r) cl := by
  subst hm
  exact TS.swap h hb hbb hO hr hi
theorem facS_len : ((List.range 730).all fun n => n == 0 || decide ((facS [2, 3, 5, 7] n).1.length ≤ 10)) = true := by decide +kernel
set_option maxRecDepth 100000 in
set_option maxHeartbeats 8000000 in
theorem scyc_any (n : Int) (w : World) : Calls Try.prog 7 #[.int .i64 n] w (CycR (resN n) w) := by
  go_enter Try.func7, Try.ntmps7
  go_upto_region 1 with fail
  obtain ⟨w1, hw1⟩ : ∃ w1, w1 = w.alloc (.cells #[.slice none 0 0, .slice none 0 0, .slice none 0 0] 29) := ⟨_, rfl⟩
  rw [← hw1]
  have hb1 : Below w.heap.size w w1 := by rw [hw1]; exact (Below.refl _ _).alloc (Nat.le_refl _) _
  have hs1 : w1.heap.size = w.heap.size + 1 := by rw [hw1]; simp
  have G1 := Lib.hid (show w1.heap[w.heap.size]? = some (.cells #[.slice none 0 0, .slice none 0 0, .slice none 0 0] 29 (0, 0)) by rw [hw1]; exact heap_alloc_new _ _)
  have HB1 := Lib.hid hb1
  have HS1 := Lib.hid hs1
  clear hw1 hb1 hs1
  by_cases hin : 1 ≤ n ∧ n ≤ 729
  · obtain ⟨m, rfl⟩ : ∃ m : Nat, n = (m : Int) := ⟨n.toNat, by omega⟩
    have hm1 : 1 ≤ m := by omega
    have hm2 : m ≤ 729 := by omega
    have HFA := Lib.hid (fun W => facS_any m hm1 hm2 W)
    have hol : (facS [2, 3, 5, 7] m).1.length ≤ 10 := by
      have h := List.all_eq_true.1 facS_len m (List.mem_range.2 (by omega))
      simp only [Bool.or_eq_true, beq_iff_eq, decide_eq_true_eq] at h
      rcases h with h | h
      · omega
      · exact h
    obtain ⟨R, hR⟩ : ∃ R, facS [2, 3, 5, 7] m = R := ⟨_, rfl⟩
    have HRS := Lib.hid (show resN (m : Int) = if R.2 = 1 then (if 6 < R.1.length then (3, []) else (0, R.1)) else (2, []) from by
      rw [← hR]; unfold resN; rw [if_pos hin]; rfl)
    rw [hR] at HFA hol
    have HIN := Lib.hid (fun W => in_T (m : Int) 1 729 (by omega) (by omega) W)
    obtain ⟨⟨e0, e1, e2⟩, f0, f1, f2⟩ := row3f G1.out
    clear hR hin
    go_wp2_with fail
    refine (HIN.out _).mono ?_
    rintro e w2 ⟨rfl, rfl⟩
    go_wp2_with fail
    refine (HFA.out _).mono ?_
    rintro e wf ⟨vo, rfl, hoo, hbf⟩
    obtain ⟨os, ro⟩ := R
    simp only at HRS hol hoo ⊢
    obtain ⟨aO, cO, rfl⟩ := owns_form hoo
    obtain ⟨l, hl⟩ : ∃ l, os.length = l := ⟨_, rfl⟩
    have HL := Lib.hid hl
    have HSO := Lib.hid (ow_sl hoo rfl)
    have HBR := Lib.hid hbf
    have HBFS := Lib.hid hbf.size
    have HR0 := Lib.hid (blk' HBR.out (by have := HS1.out; omega) G1.out)
    obtain ⟨⟨r0, r1, r2⟩, s0, s1, s2⟩ := row3f HR0.out
    rw [hl] at HSO HRS hol ⊢
    clear hl hoo hbf HFA HIN e0 e1 e2 f0 f1 f2
    by_cases hro : ro = 1
    · have hrob : (ro == 1) = true := by simp [hro]
      by_cases h6 : 6 < l
      · have HC3 := Lib.hid (show (resN (m : Int)).1 = 3 from by rw [HRS.out, if_pos hro, if_pos h6])
        have h6i : (l : Int) > 6 := by omega
        clear h6 hro
        go_wp2_with fail
        obtain ⟨⟨z0, z1, z2⟩, -⟩ := row3f (put3 (x := .slice none 0 0) (y := .slice none 0 0) (z := .slice none 0 0) HR0.out)
        exact bodyPost_ret (v := .tuple #[.agg #[.slice none 0 0, .slice none 0 0, .slice none 0 0], .int .i64 3]) (by simp [results, Try.results7, go_sem, z0, z1, z2]) rfl (cyc_err (c := 3) HC3.out (by decide) (HB1.out.trans (HBR.out.mono (by have := HS1.out; omega))))
      · have HC0 := Lib.hid (show resN (m : Int) = (0, os) from by rw [HRS.out, if_pos hro, if_neg h6])
        have h6i : ¬ (l : Int) > 6 := by omega
        have HTV := Lib.hid (CyK.triv_any os (.slice aO l cO) wf HSO.out (by rw [HL.out]; omega))
        have hl6 : l ≤ 6 := by omega
        clear h6 hro
        go_wp2_with fail
        refine HTV.out.mono ?_
        rintro e w6 ⟨vO, vP, vC, bs, g6, rfl, hT6, hb6⟩
        rw [HL.out] at hT6
        obtain ⟨a1, c1, rfl, _, _⟩ := slg_form hT6.O
        obtain ⟨a2, c2, rfl⟩ := owns_form hT6.P
        obtain ⟨us, k1, k2, k3⟩ := hT6.C
        obtain ⟨a3, c3, rfl⟩ := owns_form k1
        rw [crow_len] at hT6 ⊢
        rw [ints_length, HL.out] at hT6 ⊢
        have hbl : bs.length = l := by have := hT6.len; unfold zrows at this; rw [List.length_replicate] at this; omega
        rw [hbl] at hT6 ⊢
        obtain ⟨g7, hg7⟩ : ∃ g7, w6.heap.size = g7 := ⟨_, rfl⟩
        obtain ⟨w7, hw7⟩ : ∃ w7, w7 = w6.alloc (.cells #[.slice a1 l c1, .slice a2 l c2, .slice a3 l c3] 29) := ⟨_, rfl⟩
        have HT7 := Lib.hid (show TS wf.heap.size l w7 g7 (.slice a1 l c1) (.slice a2 l c2) (.slice a3 l c3) os bs (zrows l l) (crow l) from
          TS.rebox hT6 (by rw [hw7]; exact (Below.refl _ _).alloc (Nat.le_refl _) _) (by omega) (by rw [hw7, ← hg7]; exact heap_alloc_new _ _))
        have HB7 := Lib.hid (show Below wf.heap.size wf w7 from by rw [hw7]; exact hb6.alloc hb6.size _)
        clear hT6 hb6 k1 k2 k3 HTV HSO
        go_upto_region 9 with fail
        rw [← hw7]
        rw [prk_zero] at HT7
        clear hw7 hg7
        have HFF := Lib.hid HBR.out
        go_wp2_with fail
        go_loopw [7] (fun kv wr => ∃ (k : Nat) (bs : List Nat), (k + 1 ≤ l ∨ k = 0) ∧ kv = .int .i64 (k : Int) ∧ bs.length = l ∧ Hid (TS wf.heap.size l wr g7 (.slice a1 l c1) (.slice a2 l c2) (.slice a3 l c3) os bs (prk l k) (crow l)) ∧ Hid (Below wf.heap.size w7 wr)) (fun kv _ => l - (intOf kv).toNat)
        case atStart => exact ⟨0, bs, .inr rfl, rfl, hbl, HT7, Lib.hid (Below.refl _ _)⟩
        case round =>
          obtain ⟨k, bs', hk, rfl, hbl', hT, hB2⟩ := hrel
          have HBL := Lib.hid hbl'
          clear hbl'
          obtain ⟨⟨e0, e1, e2⟩, f0, f1, f2⟩ := row3f hT.out.bx
          have hgl : g7 < wr.heap.size := hT.out.lt
          have hwk : IntKind.i64.wrap ((k : Int) + 1) = (k : Int) + 1 := IntWalk.i64_in _ (by omega)
          by_cases hk1 : k + 1 < l
          · have hki : (k : Int) + 1 < (l : Int) := by omega
            obtain ⟨gp2, cp2, hv2⟩ := owns_some hT.out.P (by rw [HBL.out]; omega)
            rw [HBL.out] at hv2
            obtain ⟨rfl, rfl⟩ : a2 = some ⟨gp2, 0, none⟩ ∧ c2 = cp2 := by simpa using hv2
            have HUC := Lib.hid (fun W => (show Calls Try.prog 26 #[.int .i64 (l : Int), .int .i64 ((k : Int) + 1)] W (UnitR l (k + 1) W) from by
              have h := unit_row l (k + 1) hl6 hk1 W
              rw [show (((k + 1 : Nat)) : Int) = (k : Int) + 1 by omega] at h
              exact h))
            obtain ⟨b, hb⟩ : ∃ b, bs'[k]? = some b := ⟨_, List.getElem?_eq_getElem (by rw [HBL.out]; omega)⟩
            have hc1 := World.ownsRow.cells hT.out.P (g := gp2) rfl k (rowV l b) (by rw [List.getElem?_map, hb]; rfl)
            have hPP := hT.out.P
            rw [HBL.out] at hPP
            have hc2 := World.ownsRow.frozenAt hPP k
            have HPP := Lib.hid hPP
            clear hPP
            rw [addr_add, Nat.zero_add] at hc1
            have hgp := (World.ownsRow.lt hT.out.P gp2 rfl).2
            have hk0 : (0 : Int) ≤ (k : Int) := by omega
            have hkl : (k : Int) < (l : Int) := by omega
            clear hb hv2
            go_upto_region 12 with fail
            go_region_law
              (first | (go_simp; go_at_call 26; refine (HUC.out _).mono ?_; rintro e w5 ⟨g5, rfl, ho5, hb5⟩; have k5 := (show Keep Any wr w5 from (by repeat (first | exact (Keep.refl _ _).drew | exact Keep.refl _ _ | refine Keep.drew ?_ | refine Keep.trans ?_ (Keep.of_below (by assumption))))); have p1 := (k5.cell (b := g7) (o := 1) trivial hgl).trans e1; have q1 := (k5.cell (b := gp2) (o := k) trivial hgp).trans hc1; have q2 := World.ownsRow.frozenAt (ownsRow_keep HPP.out k5 (fun _ _ => trivial)) k; have hgp5 : gp2 < w5.heap.size := Nat.lt_of_lt_of_le hgp k5.size; have hgl5 : g7 < w5.heap.size := Nat.lt_of_lt_of_le hgl k5.size))
            all_goals
              have hb6 : Below wr.heap.size wr w5 := by first | exact hb5 | exact ((Below.refl _ _).drew).trans hb5
              have hN := swap_at (b := g5) (i := k) HBL.out hT.out hb6 ho5.lt.1 (ho5.mono (Nat.le_trans hT.out.hg (Nat.le_of_lt hgl))) (by simp) (by omega)
              rw [prk_succ (by omega)] at hN
              have HN := Lib.hid hN
              have HBN := Lib.hid ((hB2.out.trans (hb6.mono (Nat.le_trans hT.out.hg (Nat.le_of_lt hgl)))).setCell (p := ⟨gp2, k, none⟩) (World.ownsRow.lt HPP.out gp2 rfl).1 (rowV l g5))
              clear hN hT hB2 ho5 hb5 hb6 k5 p1 q1 q2 hgp5 hgl5 e0 e1 e2 hc1 hc2
              go_wp2_with fail
              go_roundw
              case rel => exact ⟨k + 1, _, .inl (by omega), by go_num, by rw [List.length_set]; exact HBL.out, HN, HBN⟩
              case measure => simp [intOf]; omega
          · have hki : ¬ (k : Int) + 1 < (l : Int) := by omega
            have HBf7 := Lib.hid (show Below wf.heap.size wf w7 from HB7.out)
            have HBL := HBL
            have HWF := Lib.hid (Nat.le_refl wf.heap.size)
            have HBF := Lib.hid HBR.out
            have HBR2 := Lib.hid (HBf7.out.trans (hB2.out.mono HWF.out))
            have HBF2 := Lib.hid (HBF.out.trans (HBR2.out.mono HBFS.out))
            have HR2 := Lib.hid (blk' HBF2.out (by have := HS1.out; omega) G1.out)
            obtain ⟨⟨t0, t1, t2⟩, u0, u1, u2⟩ := row3f HR2.out
            obtain ⟨⟨z0, z1, z2⟩, -⟩ := row3f (put3 (x := .slice a1 l c1) (y := .slice a2 l c2) (z := .slice a3 l c3) HR2.out)
            have HFIN := Lib.hid (show CycR (resN (m : Int)) w (.returned (.tuple #[.agg #[.slice a1 l c1, .slice a2 l c2, .slice a3 l c3], .int .i64 0])) (((wr.setCell ⟨w.heap.size, 0, none⟩ (.slice a1 l c1)).setCell ⟨w.heap.size, 1, none⟩ (.slice a2 l c2)).setCell ⟨w.heap.size, 2, none⟩ (.slice a3 l c3)) from by
              have hq : w.heap.size + 1 ≤ wf.heap.size := by have := HS1.out; have := HBFS.out; have := HWF.out; omega
              refine ⟨_, _, _, by rw [HC0.out]; rfl, ?_, ?_⟩
              · rw [HC0.out]
                unfold resP
                rw [if_pos rfl]
                show ValP Any _ _ _ _ ⟨ints os, (prow os.length).map ints, (crow os.length).map (·.map ints)⟩
                rw [HL.out, ← prk_full (k := k) (by omega)]
                exact TS.val (TS.kept hT.out ((((Keep.refl _ wr).setCell (by simp; omega) _).setCell (by simp; omega) _).setCell (by simp; omega) _)) (by rw [HBL.out]; omega)
              · exact (((HB1.out.trans (HBF2.out.mono (by have := HS1.out; omega))).setCell (p := ⟨w.heap.size, 0, none⟩) (Nat.le_refl _) _).setCell (p := ⟨w.heap.size, 1, none⟩) (Nat.le_refl _) _).setCell (p := ⟨w.heap.size, 2, none⟩) (Nat.le_refl _) _)
            clear hT hB2 HBR2 HBF2
            go_wp2_with fail
            exact bodyPost_ret (v := .tuple #[.agg #[.slice a1 l c1, .slice a2 l c2, .slice a3 l c3], .int .i64 0]) (by simp [results, Try.results7, go_sem, z0, z1, z2]) rfl HFIN.out
    · have hrob : (ro == 1) = false := by simp [hro]
      have HC2 := Lib.hid (show (resN (m : Int)).1 = 2 from by rw [HRS.out, if_neg hro])
      clear hro
      go_wp2_with fail
      obtain ⟨⟨z0, z1, z2⟩, -⟩ := row3f (put3 (x := .slice none 0 0) (y := .slice none 0 0) (z := .slice none 0 0) HR0.out)
      exact bodyPost_ret (v := .tuple #[.agg #[.slice none 0 0, .slice none 0 0, .slice none 0 0], .int .i64 2]) (by simp [results, Try.results7, go_sem, z0, z1, z2]) rfl (cyc_err (c := 2) HC2.out (by decide) (HB1.out.trans (HBR.out.mono (by have := HS1.out; omega))))
  · have HRN := Lib.hid (show (resN n).1 = 2 from by unfold resN; rw [if_neg hin])
    have HIN := Lib.hid (fun W => in_F n 1 729 hin W)
    obtain ⟨⟨e0, e1, e2⟩, f0, f1, f2⟩ := row3f G1.out
    clear hin
    go_wp2_with fail
    refine (HIN.out _).mono ?_
    rintro e w2 ⟨rfl, rfl⟩
    go_wp2_with fail
    obtain ⟨⟨z0, z1, z2⟩, -⟩ := row3f (put3 (x := .slice none 0 0) (y := .slice none 0 0) (z := .slice none 0 0) G1.out)
    exact bodyPost_ret (v := .tuple #[.agg #[.slice none 0 0, .slice none 0 0, .slice none 0 0], .int .i64 2]) (by simp [results, Try.results7, go_sem, z0, z1, z2]) rfl (cyc_err (c := 2) HRN.out (by decide) HB1.out)
end Go.Proofs.Ytabeedimnbkcgaa.CyM

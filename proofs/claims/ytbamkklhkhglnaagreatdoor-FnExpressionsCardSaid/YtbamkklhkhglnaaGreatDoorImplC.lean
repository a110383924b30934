import Derived.Test.YtbamkklhkhglnaaGreatDoorImplB
namespace Go.Proofs.YtbamkklhkhglnaaGreatDoor.ImplC
open Go.RowKit Go.Proofs.YtbamkklhkhglnaaGreatDoor Go.Proofs.YtbamkklhkhglnaaGreatDoor.Tow Go.Proofs.YtbamkklhkhglnaaGreatDoor.ImplB
set_option linter.unusedVariables false
set_option linter.unusedSimpArgs false

theorem Own_cap {B : Nat} {w : World} {g n cap : Nat} {x : List Int} (h : Own B w (.slice (some ⟨g, 0, none⟩) n cap) x) : n = x.length ∧ n ≤ cap ∧ cap ≤ maxLen ∧ g < w.heap.size := by
  rcases h.2 with ⟨e, _⟩ | ⟨g', cap', cur, e, _, hh, h1, h2, _⟩
  · simp at e
  · simp only [Value.slice.injEq, Option.some.injEq, Addr.mk.injEq, and_true, true_and] at e
    obtain ⟨rfl, rfl, rfl⟩ := e
    exact ⟨rfl, h1, h2, (h.lt).2⟩

theorem Own_tail {B : Nat} {w : World} {g n cap : Nat} {x : List Nat} (h : Own B w (.slice (some ⟨g, 0, none⟩) n cap) (ints x)) (s : Nat) (hs : s ≤ n) : SlI (fun _ => True) w (.slice (some ⟨g, s, none⟩) (n - s) (cap - s)) (ints (x.drop s)) := by
  obtain ⟨h1, h2, h3, h4⟩ := Own_cap h
  rw [ints_length] at h1
  refine ⟨some ⟨g, s, none⟩, cap - s, by rw [ints_length, List.length_drop, h1], by rw [ints_length, List.length_drop]; omega, by omega, fun e => absurd e (by simp), fun i y hy => ⟨g, s, rfl, trivial, h4, .int .i64 y, ?_, rfl⟩⟩
  exact (h.cell (j := s + i) (a := y) (by rw [ints_get] at hy ⊢; rw [List.getElem?_drop] at hy; exact hy)).1
theorem SlI_none (w : World) (g : Nat) : SlI (fun _ => True) w (.slice (some ⟨g, 0, none⟩) 0 0) (ints []) :=
  ⟨_, 0, rfl, Nat.le_refl _, Nat.zero_le _, fun e => absurd e (by simp), fun i y hy => by simp [ints] at hy⟩

set_option maxHeartbeats 4000000 in
theorem tg_of (T : Tw) (hT : Wf T) (hs : Small T) (j : Nat) (L : Lv) (hL : T[j]? = some L) (hg : Tow.Good (T.drop (j + 1))) (hTv : TvSpec T (j + 1)) : TgSpec T j := by
  intro S w b o B g cap x hP hSg hxl hxE hO
  have hj : j < T.length := (List.getElem?_eq_some_iff.1 hL).1
  have hs6 := hs.1
  have HK := Lib.hid (lvl' hT hL)
  obtain ⟨hc1, hc2, hgl⟩ := (Own_cap hO).2
  have HC2 := Lib.hid hc2
  clear hc2
  obtain ⟨hSb, hbl, vO, vP, vC, hp0, hp1, hp2, hV⟩ := hP
  obtain ⟨aO, cO, aP, cP, aC, cC, rfl, rfl, rfl, hO1, hP1, hC1⟩ := hV.open
  obtain ⟨bO, oO, rfl, hSO, hbO, hcO⟩ := hV.ord hL
  obtain ⟨bP, oP, uP, rfl, hSP, hbP, hcP, huP⟩ := hV.pow hL
  obtain ⟨bC, oC, a2, c2, rfl, hSC, hbC, hcC, h21, hC4⟩ := hV.con hL
  obtain ⟨a, ha⟩ : ∃ a, x[j]? = some a := ⟨_, List.getElem?_eq_getElem (by omega)⟩
  have ha7 : a < 7 := hs.lt hxE (Nat.le_refl _) ha
  have ho7 : L.o ≤ 7 := hs.2 L (List.mem_of_getElem? hL)
  have HR := Lib.hid (show x.drop j = a :: x.drop (j + 1) by rw [List.drop_eq_getElem_cons (by omega), (List.getElem?_eq_some_iff.1 ha).2])
  obtain ⟨r, hr⟩ : ∃ r, r = x.drop (j + 1) := ⟨_, rfl⟩
  have hrl : r.length = T.length - (j + 1) := by rw [hr, List.length_drop, hxl]
  have hne1 : ¬ b = g := fun e => hSg (e ▸ hSb)
  have hne2 : ¬ bO = g := fun e => hSg (e ▸ hSO)
  have hne3 : ¬ bP = g := fun e => hSg (e ▸ hSP)
  have hne4 : ¬ bC = g := fun e => hSg (e ▸ hSC)
  have HCO := Lib.hid hcO
  have HCP := Lib.hid hcP
  have HCC := Lib.hid hcC
  have HPP := Lib.hid (And.intro hp0 (And.intro hp1 hp2))
  have HP := Lib.hid (show PtrP S w b o (ofTw T) from ⟨hSb, hbl, _, _, _, hp0, hp1, hp2, hV⟩)
  have HUP := Lib.hid huP
  have HC4 := Lib.hid hC4
  have HO := Lib.hid hO
  have HL := Lib.hid hL
  have HX := Lib.hid ha
  have HXL := Lib.hid hxl
  have HXE := Lib.hid (show El (T.drop (j + 1)) r by rw [hr]; have := El_drop hxE 1; rwa [List.drop_drop, List.drop_drop] at this)
  have HRR := Lib.hid hr
  have HRL := Lib.hid hrl
  have HTV := Lib.hid hTv
  have HG := Lib.hid (grp HK.out.1 hg)
  have HSM := Lib.hid hs
  have hbg : g < w.heap.size := hgl
  have HSL := Lib.hid (show SlI (fun _ => True) w (.slice (some ⟨g, j + 1, none⟩) (T.length - (j + 1)) (cap - (j + 1))) (ints r) by rw [hr]; exact Own_tail HO.out (j + 1) (by omega))
  clear hcO hcP hcC hp0 hp1 hp2 huP hC4 hO hL ha hxl hxE hr hTv hg hs hV
  go_enter Tryz.func201, Tryz.ntmps201
  go_upto_region 0 with fail
  go_cut [6] (fun v1 wx => Own w.heap.size wx v1 (ints r) ∧ Below w.heap.size w wx)
  case first =>
    by_cases hcap : cap = j + 1
    · subst hcap
      go_wp2_with fail
      refine (clone_any (fun _ => True) _ (ints r) _ (by rw [show r = [] from List.eq_nil_of_length_eq_zero (by omega)]; exact SlI_none _ _) (by rw [ints_length]; omega)).mono ?_
      rintro e w5 ⟨v5, rfl, ho5, hb5⟩
      have HO5 := Lib.hid ho5
      have HB5 := Lib.hid hb5
      clear ho5 hb5
      go_wp2_with fail
      go_meet
      exact ⟨HO5.out, HB5.out⟩
    · have hcap2 : ¬ j + 1 = cap := fun e => hcap e.symm
      go_wp2_with fail
      refine (clone_any (fun _ => True) _ (ints r) _ (HSL.out) (by rw [ints_length]; omega)).mono ?_
      rintro e w5 ⟨v5, rfl, ho5, hb5⟩
      have HO5 := Lib.hid ho5
      have HB5 := Lib.hid hb5
      clear ho5 hb5
      go_wp2_with fail
      go_meet
      exact ⟨HO5.out, HB5.out⟩
  case rest =>
    obtain ⟨hc1o, hc1b⟩ := hcut
    obtain ⟨aR, cR, rfl, hR1⟩ := hc1o.sl.open
    rw [hrl] at hR1 hc1o ⊢
    have HR1 := Lib.hid (show SlI (fun k => w.heap.size ≤ k) wc (.slice aR (T.length - (j + 1)) cR) (ints r) from hc1o.sl)
    have HO1' := Lib.hid (HO.out.of_below hc1b)
    have HG1 := Lib.hid (grown_below (row := some g) hc1b)
    have HB1 := Lib.hid hc1b
    clear hc1o hc1b HSL
    -- the zeros
    obtain ⟨Z, hZ⟩ : ∃ Z : Nat → List Nat, Z = fun k => x.take (j + 1) ++ List.replicate k 0 ++ x.drop (j + 1 + k) := ⟨_, rfl⟩
    have HZ0 := Lib.hid (show Z 0 = x by rw [hZ]; simp)
    have HZl := Lib.hid (show ∀ k, k ≤ T.length - (j + 1) → (Z k).length = T.length from fun k hk => by rw [hZ]; simp [HXL.out]; omega)
    have HZs := Lib.hid (show ∀ k, k < T.length - (j + 1) → (Z k).set (j + 1 + k) 0 = Z (k + 1) from fun k hk => by
      rw [hZ]
      have hl := HXL.out
      show (x.take (j + 1) ++ List.replicate k 0 ++ x.drop (j + 1 + k)).set (j + 1 + k) 0 = x.take (j + 1) ++ List.replicate (k + 1) 0 ++ x.drop (j + 1 + (k + 1))
      rw [List.set_append_right _ _ (by simp; omega), List.drop_eq_getElem_cons (show j + 1 + k < x.length by omega)]
      simp only [List.length_append, List.length_take, List.length_replicate, hl]
      rw [show j + 1 + k - (min (j + 1) T.length + k) = 0 by omega, List.set_cons_zero, List.replicate_succ']
      simp [Nat.add_assoc])
    have HZz := Lib.hid (show Z (T.length - (j + 1)) = x.take j ++ a :: one (T.drop (j + 1)) from by
      rw [hZ]
      have hl := HXL.out
      show x.take (j + 1) ++ List.replicate (T.length - (j + 1)) 0 ++ x.drop (j + 1 + (T.length - (j + 1))) = _
      rw [List.drop_eq_nil_of_le (by omega), List.append_nil, List.take_add_one, HX.out]
      simp [one])
    have HZg := Lib.hid (show ∀ k, k < T.length - (j + 1) → ∃ y, (Z k)[j + 1 + k]? = some y from fun k hk => ⟨_, List.getElem?_eq_getElem (by rw [HZl.out k (by omega)]; omega)⟩)
    clear hZ
    go_wp2_with fail
    go_loopw [17] (fun kv wr => ∃ k : Nat, k ≤ T.length - (j + 1) ∧ kv = .int .i64 (k : Int) ∧ Own B wr (.slice (some ⟨g, 0, none⟩) T.length cap) (ints (Z k)) ∧ wc.grownBy wr (some g)) (fun kv _ => T.length - (intOf kv).toNat)
    case atStart => exact ⟨0, Nat.zero_le _, rfl, by rw [HZ0.out]; exact HO1'.out, grown_refl _ _⟩
    case round =>
      obtain ⟨k, hk, rfl, ho, hgr⟩ := hrel
      by_cases hlt : k < T.length - (j + 1)
      · obtain ⟨y, hy⟩ := HZg.out k hlt
        obtain ⟨s1, f1⟩ := ho.cell (j := j + 1 + k) (a := (y : Int)) (by rw [ints_get, hy]; rfl)
        obtain ⟨h1, h2⟩ := ho.set_n (j + 1 + k) 0
        rw [HZs.out k hlt] at h1
        have H1 := Lib.hid h1
        have H2 := Lib.hid (grown_trans hgr h2)
        clear ho hgr hy h1 h2
        go_wp2_with fail
        go_roundw
        case rel => exact ⟨k + 1, by omega, by go_num, H1.out, H2.out⟩
        case measure => simp [intOf]; omega
      · obtain rfl : k = T.length - (j + 1) := by omega
        have HOr := Lib.hid ho
        have HGr := Lib.hid hgr
        clear ho hgr hlt hk
        rw [HZz.out] at HOr
        have hxt : (x.take j).length = j := by rw [List.length_take, HXL.out]; omega
        have HXT := Lib.hid hxt
        clear hxt
        have hga : (x.take j ++ a :: one (T.drop (j + 1)))[j]? = some a := by rw [List.getElem?_append_right (by rw [HXT.out]; exact Nat.le_refl _), HXT.out]; simp
        obtain ⟨s1, f1⟩ := HOr.out.cell (j := j) (a := (a : Int)) (by rw [ints_get, hga]; rfl)
        obtain ⟨h1, h2⟩ := HOr.out.set_n j (a + 1)
        have hset : ∀ y, (x.take j ++ a :: one (T.drop (j + 1))).set j y = x.take j ++ y :: one (T.drop (j + 1)) := fun y => by
          rw [List.set_append_right _ _ (by rw [HXT.out]; exact Nat.le_refl _), HXT.out, Nat.sub_self, List.set_cons_zero]
        rw [hset] at h1
        have HO2 := Lib.hid (show Own B (wr.setCell ⟨g, j, none⟩ (.int .i64 ((a : Int) + 1))) (.slice (some ⟨g, 0, none⟩) T.length cap) (ints (x.take j ++ (a + 1) :: one (T.drop (j + 1)))) from h1)
        have HG2 := Lib.hid (show wc.grownBy (wr.setCell ⟨g, j, none⟩ (.int .i64 ((a : Int) + 1))) (some g) from grown_trans HGr.out h2)
        clear hset h1 h2 hga
        go_upto_region 7 with fail
        clear s1 f1 HOr HGr
        generalize wr.setCell ⟨g, j, none⟩ (.int .i64 ((a : Int) + 1)) = w3 at HO2 HG2 ⊢
        -- the state behind the carry
        obtain ⟨a', ha'⟩ : ∃ a', a' = if a + 1 = L.o then 0 else a + 1 := ⟨_, rfl⟩
        obtain ⟨z0, hz0⟩ : ∃ z0, z0 = if a + 1 = L.o then L.w else one (T.drop (j + 1)) := ⟨_, rfl⟩
        have HA' := Lib.hid ha'
        have HZ0' := Lib.hid hz0
        have HZE := Lib.hid (show El (T.drop (j + 1)) z0 by rw [hz0]; split; exact HK.out.2.2.2.1; exact El_one HK.out.1)
        clear ha' hz0
        have hk3 := Keep.trans (Keep.of_below (S := S) HB1.out) (keep_grown HG2.out hSg)
        have hp0 : w3.cell? ⟨b, o, none⟩ = some (.slice (some ⟨bO, oO, none⟩) T.length cO) := by rw [hk3.cell hSb hbl]; exact HPP.out.1
        have hp1 : w3.cell? ⟨b, o + 1, none⟩ = some (.slice (some ⟨bP, oP, none⟩) T.length cP) := by rw [hk3.cell hSb hbl]; exact HPP.out.2.1
        have hcO : w3.cell? ⟨bO, oO + j, none⟩ = some (.int .i64 (L.o : Int)) := by rw [hk3.cell hSO hbO]; exact HCO.out
        have hcP : w3.cell? ⟨bP, oP + j, none⟩ = some uP := by rw [hk3.cell hSP hbP]; exact HCP.out
        obtain ⟨s1, f1⟩ := HO2.out.cell (j := j) (a := (a : Int) + 1) (by rw [ints_get, List.getElem?_append_right (by rw [HXT.out]; exact Nat.le_refl _), HXT.out]; simp)
        have w6 : (j : Int) < (T.length : Int) := by omega
        have w7 : (0 : Int) ≤ (j : Int) := by omega
        have HP3 := Lib.hid (HP.out.keep hk3)
        have HUP3 := Lib.hid (HUP.out.keep hk3)
        clear hk3
        by_cases hcar : a + 1 = L.o
        · have hci : ((a : Int) + 1 == (L.o : Int)) = true := by simp; omega
          have HCAR := Lib.hid hcar
          clear hcar
          go_wp2_with fail
          go_quiet (fail)
          obtain ⟨h1, h2⟩ := (HO2.out.drewN nq).set_n j 0
          have hset : (x.take j ++ (a + 1) :: one (T.drop (j + 1))).set j 0 = (x.take j ++ [0]) ++ one (T.drop (j + 1)) := by
            rw [List.set_append_right _ _ (by rw [HXT.out]; exact Nat.le_refl _), HXT.out, Nat.sub_self, List.set_cons_zero]; simp
          rw [hset] at h1
          have HO4 := Lib.hid h1
          have HG4 := Lib.hid h2
          clear hset h1 h2
          go_wp2_with fail
          refine (HTV.out S _ b o B g cap uP (x.take j ++ [0]) (one (T.drop (j + 1))) L.w (HP3.out.keep (((Keep.refl _ _).drewN nq).setCell hSg _)) (HUP3.out.keep (((Keep.refl _ _).drewN nq).setCell hSg _)) hSg (by rw [List.length_append, HXT.out]; rfl) (El_one HK.out.1) HK.out.2.2.2.1 HO4.out).mono ?_
          rintro e w5 ⟨rfl, ho5, hg5⟩
          rw [HG.out.eL HK.out.2.2.2.1] at ho5
          have HOS := Lib.hid (show Own B w5 (.slice (some ⟨g, 0, none⟩) T.length cap) (ints (x.take j ++ a' :: z0)) from by
            rw [HA'.out, HZ0'.out, if_pos HCAR.out, if_pos HCAR.out]
            have e1 : (x.take j ++ [0] ++ L.w).length = T.length := by rw [List.length_append, List.length_append, HXT.out, El_length HK.out.2.2.2.1, List.length_drop]; simp; omega
            rw [e1] at ho5; simpa using ho5)
          have HGS := Lib.hid (grown_trans HG2.out (grown_trans (grown_drewN _ nq _) (grown_trans HG4.out hg5)))
          clear ho5 hg5 s1 f1 hp0 hp1 hcO hcP HO2 HG2 HO4 HG4 HP3 HUP3
          go_wp2_with fail
          have hxu : (x.take j ++ [a']).length = j + 1 := by rw [List.length_append, HXT.out]; rfl
          have HXU := Lib.hid hxu
          have HY7 := Lib.hid (show ∀ k y, r[k]? = some y → y < 7 from fun k y hy => HSM.out.lt (s := j + 1) (x := x) (by rw [← HRR.out]; exact HXE.out) (j := j + 1 + k) (by omega) (by rw [HRR.out, List.getElem?_drop] at hy; exact hy))
          obtain ⟨V, hV⟩ : ∃ V : Nat → Nat → List Nat, V = fun m q => prR (mul (T.drop (j + 1))) z0 (one (T.drop (j + 1))) L.c r m q := ⟨_, rfl⟩
          have HVE := Lib.hid (show ∀ m q, El (T.drop (j + 1)) (V m q) from fun m q => by rw [hV]; exact prR_inv (El _) (mul _) (fun _ _ p q => El_mul HK.out.1 p q) _ _ _ _ HZE.out (El_one HK.out.1) HK.out.2.2.1 m q)
          have HV0 := Lib.hid (show V 0 0 = z0 by rw [hV]; exact prR_zero _ _ _ _ _)
          have HVs := Lib.hid (show ∀ m q y, L.c[m]? = some y → mul (T.drop (j + 1)) (V m q) y = V m (q + 1) from fun m q y hy => by rw [hV]; simp only [prR_step]; rw [List.getD_eq_getElem?_getD, hy]; rfl)
          have HVn := Lib.hid (show ∀ m y, m < T.length - (j + 1) → r[m]? = some y → V m y = V (m + 1) 0 from fun m y hm hy => by rw [hV]; exact prR_next _ _ _ _ _ _ _ (by rw [HK.out.2.1]; omega) hy)
          have HVz := Lib.hid (show a' :: V (T.length - (j + 1)) 0 = tg (T.drop j) (x.drop j) from by
            rw [hV]
            simp only []
            rw [prR_end _ _ _ _ _ _ (by rw [HK.out.2.1]; exact Nat.le_refl _) (by rw [HRL.out]; exact Nat.le_refl _), drop_cons' HL.out, HR.out, ← HRR.out, tg, ← HA'.out, ← HZ0'.out])
          clear hV hxu
          go_loopw [60] (fun kv wr => ∃ m : Nat, m ≤ T.length - (j + 1) ∧ kv = .int .i64 (m : Int) ∧ Own B wr (.slice (some ⟨g, 0, none⟩) T.length cap) (ints (x.take j ++ a' :: V m 0)) ∧ wc.grownBy wr (some g)) (fun kv _ => T.length - (intOf kv).toNat)
          case atStart => exact ⟨0, Nat.zero_le _, rfl, by rw [HV0.out]; exact HOS.out, HGS.out⟩
          case round =>
            clear HOS HGS
            obtain ⟨m, hm, rfl, ho, hgr⟩ := hrel
            have HOr := Lib.hid ho
            have HGr := Lib.hid hgr
            clear ho hgr
            by_cases hlt : m < T.length - (j + 1)
            · obtain ⟨y, hy⟩ : ∃ y, r[m]? = some y := ⟨_, List.getElem?_eq_getElem (by omega)⟩
              obtain ⟨bR, oR, rfl, hSR, hbR, hcR⟩ := HR1.out.at hy
              obtain ⟨c, hc⟩ : ∃ c, L.c[m]? = some c := ⟨_, List.getElem?_eq_getElem (by rw [HK.out.2.1]; omega)⟩
              obtain ⟨b2, o2, uc, rfl, hS2, hb2, hc2c, huc⟩ := HC4.out m c hc
              have hy7 := HY7.out m y hy
              have hbRg : ¬ bR = g := by omega
              have hcR2 : wr.cell? ⟨bR, oR + m, none⟩ = some (.int .i64 (y : Int)) := by rw [(keep_grown (S := fun k => ¬ k = g) HGr.out (by simp)).cell hbRg hbR]; exact hcR
              have hd : decide ((m : Int) < ((T.length - (j + 1) : Nat) : Int)) = true := by simp; omega
              have HY := Lib.hid hy
              have HC := Lib.hid hc
              have HC2C := Lib.hid hc2c
              have HUC := Lib.hid huc
              have HCE := Lib.hid (HK.out.2.2.1 c (List.mem_of_getElem? hc))
              have hcl : L.c.length = T.length - (j + 1) := HK.out.2.1
              clear hy hc hc2c huc hcR
              go_wp2_with fail
              go_loopw [66] (fun qv wi => ∃ q : Nat, q ≤ y ∧ qv = .int .i64 (q : Int) ∧ Own B wi (.slice (some ⟨g, 0, none⟩) T.length cap) (ints (x.take j ++ a' :: V m q)) ∧ wc.grownBy wi (some g)) (fun qv _ => y - (intOf qv).toNat)
              case atStart => exact ⟨0, Nat.zero_le _, rfl, HOr.out, HGr.out⟩
              case round =>
                clear HOr HGr
                obtain ⟨q, hq, rfl, ho, hgr⟩ := hrel
                have HOr := Lib.hid ho
                have HGr := Lib.hid hgr
                clear ho hgr
                by_cases hqy : q < y
                · have hk4 := Keep.trans (Keep.of_below (S := S) HB1.out) (keep_grown HGr.out hSg)
                  have g0 : wr.cell? ⟨b, o, none⟩ = some (.slice (some ⟨bO, oO, none⟩) T.length cO) := by rw [hk4.cell hSb hbl]; exact HPP.out.1
                  have g2 : wr.cell? ⟨b, o + 2, none⟩ = some (.slice (some ⟨bC, oC, none⟩) T.length cC) := by rw [hk4.cell hSb hbl]; exact HPP.out.2.2
                  have g3 : wr.cell? ⟨bC, oC + j, none⟩ = some (.slice (some ⟨b2, o2, none⟩) L.c.length c2) := by rw [hk4.cell hSC hbC]; exact HCC.out
                  have g4 : wr.cell? ⟨b2, o2 + m, none⟩ = some uc := by rw [hk4.cell hS2 hb2]; exact HC2C.out
                  have HP4 := Lib.hid (HP.out.keep hk4)
                  have HUC4 := Lib.hid (HUC.out.keep hk4)
                  clear hk4
                  go_wp2_with fail
                  refine (HTV.out S _ b o B g cap uc (x.take j ++ [a']) (V m q) c HP4.out HUC4.out hSg HXU.out (HVE.out m q) HCE.out (by simpa using HOr.out)).mono ?_
                  rintro e w5 ⟨rfl, ho5, hg5⟩
                  rw [HVs.out m q c HC.out] at ho5
                  have HO5 := Lib.hid (show Own B w5 (.slice (some ⟨g, 0, none⟩) T.length cap) (ints (x.take j ++ a' :: V m (q + 1))) from by
                    have e1 : (x.take j ++ [a'] ++ V m (q + 1)).length = T.length := by rw [List.length_append, HXU.out, El_length (HVE.out m (q + 1)), List.length_drop]; omega
                    rw [e1] at ho5; simpa using ho5)
                  have HG5 := Lib.hid (grown_trans HGr.out hg5)
                  clear ho5 hg5
                  go_wp2_with fail
                  go_roundw
                  case rel => exact ⟨q + 1, by omega, by go_num, HO5.out, HG5.out⟩
                  case measure => simp [intOf]; omega
                · obtain rfl : q = y := by omega
                  go_wp2_with fail
                  go_roundw
                  case rel => exact ⟨m + 1, by omega, by go_num, by rw [← HVn.out m q (by omega) HY.out]; exact HOr.out, HGr.out⟩
                  case measure => simp [intOf]; omega
            · obtain rfl : m = T.length - (j + 1) := by omega
              go_wp2_with fail
              go_end0
              refine ⟨rfl, ?_, grown_trans HG1.out HGr.out⟩
              rw [← HVz.out]
              have e1 : (x.take j ++ a' :: V (T.length - (j + 1)) 0).length = T.length := by rw [List.length_append, HXT.out, List.length_cons, El_length (HVE.out _ 0), List.length_drop]; omega
              rw [e1]; exact HOr.out
        · have hci : ((a : Int) + 1 == (L.o : Int)) = false := by simp; omega
          have HCAR := Lib.hid hcar
          clear hcar
          go_wp2_with fail
          go_quiet (fail)
          have HOS := Lib.hid (show Own B (w3.drewN nq) (.slice (some ⟨g, 0, none⟩) T.length cap) (ints (x.take j ++ a' :: z0)) from by
            rw [HA'.out, HZ0'.out, if_neg HCAR.out, if_neg HCAR.out]; exact HO2.out.drewN nq)
          have HGS := Lib.hid (grown_trans HG2.out (grown_drewN _ nq _))
          clear s1 f1 hp0 hp1 hcO hcP HO2 HG2 HP3 HUP3
          go_wp2_with fail
          have hxu : (x.take j ++ [a']).length = j + 1 := by rw [List.length_append, HXT.out]; rfl
          have HXU := Lib.hid hxu
          have HY7 := Lib.hid (show ∀ k y, r[k]? = some y → y < 7 from fun k y hy => HSM.out.lt (s := j + 1) (x := x) (by rw [← HRR.out]; exact HXE.out) (j := j + 1 + k) (by omega) (by rw [HRR.out, List.getElem?_drop] at hy; exact hy))
          obtain ⟨V, hV⟩ : ∃ V : Nat → Nat → List Nat, V = fun m q => prR (mul (T.drop (j + 1))) z0 (one (T.drop (j + 1))) L.c r m q := ⟨_, rfl⟩
          have HVE := Lib.hid (show ∀ m q, El (T.drop (j + 1)) (V m q) from fun m q => by rw [hV]; exact prR_inv (El _) (mul _) (fun _ _ p q => El_mul HK.out.1 p q) _ _ _ _ HZE.out (El_one HK.out.1) HK.out.2.2.1 m q)
          have HV0 := Lib.hid (show V 0 0 = z0 by rw [hV]; exact prR_zero _ _ _ _ _)
          have HVs := Lib.hid (show ∀ m q y, L.c[m]? = some y → mul (T.drop (j + 1)) (V m q) y = V m (q + 1) from fun m q y hy => by rw [hV]; simp only [prR_step]; rw [List.getD_eq_getElem?_getD, hy]; rfl)
          have HVn := Lib.hid (show ∀ m y, m < T.length - (j + 1) → r[m]? = some y → V m y = V (m + 1) 0 from fun m y hm hy => by rw [hV]; exact prR_next _ _ _ _ _ _ _ (by rw [HK.out.2.1]; omega) hy)
          have HVz := Lib.hid (show a' :: V (T.length - (j + 1)) 0 = tg (T.drop j) (x.drop j) from by
            rw [hV]
            simp only []
            rw [prR_end _ _ _ _ _ _ (by rw [HK.out.2.1]; exact Nat.le_refl _) (by rw [HRL.out]; exact Nat.le_refl _), drop_cons' HL.out, HR.out, ← HRR.out, tg, ← HA'.out, ← HZ0'.out])
          clear hV hxu
          go_loopw [60] (fun kv wr => ∃ m : Nat, m ≤ T.length - (j + 1) ∧ kv = .int .i64 (m : Int) ∧ Own B wr (.slice (some ⟨g, 0, none⟩) T.length cap) (ints (x.take j ++ a' :: V m 0)) ∧ wc.grownBy wr (some g)) (fun kv _ => T.length - (intOf kv).toNat)
          case atStart => exact ⟨0, Nat.zero_le _, rfl, by rw [HV0.out]; exact HOS.out, HGS.out⟩
          case round =>
            clear HOS HGS
            obtain ⟨m, hm, rfl, ho, hgr⟩ := hrel
            have HOr := Lib.hid ho
            have HGr := Lib.hid hgr
            clear ho hgr
            by_cases hlt : m < T.length - (j + 1)
            · obtain ⟨y, hy⟩ : ∃ y, r[m]? = some y := ⟨_, List.getElem?_eq_getElem (by omega)⟩
              obtain ⟨bR, oR, rfl, hSR, hbR, hcR⟩ := HR1.out.at hy
              obtain ⟨c, hc⟩ : ∃ c, L.c[m]? = some c := ⟨_, List.getElem?_eq_getElem (by rw [HK.out.2.1]; omega)⟩
              obtain ⟨b2, o2, uc, rfl, hS2, hb2, hc2c, huc⟩ := HC4.out m c hc
              have hy7 := HY7.out m y hy
              have hbRg : ¬ bR = g := by omega
              have hcR2 : wr.cell? ⟨bR, oR + m, none⟩ = some (.int .i64 (y : Int)) := by rw [(keep_grown (S := fun k => ¬ k = g) HGr.out (by simp)).cell hbRg hbR]; exact hcR
              have hd : decide ((m : Int) < ((T.length - (j + 1) : Nat) : Int)) = true := by simp; omega
              have HY := Lib.hid hy
              have HC := Lib.hid hc
              have HC2C := Lib.hid hc2c
              have HUC := Lib.hid huc
              have HCE := Lib.hid (HK.out.2.2.1 c (List.mem_of_getElem? hc))
              have hcl : L.c.length = T.length - (j + 1) := HK.out.2.1
              clear hy hc hc2c huc hcR
              go_wp2_with fail
              go_loopw [66] (fun qv wi => ∃ q : Nat, q ≤ y ∧ qv = .int .i64 (q : Int) ∧ Own B wi (.slice (some ⟨g, 0, none⟩) T.length cap) (ints (x.take j ++ a' :: V m q)) ∧ wc.grownBy wi (some g)) (fun qv _ => y - (intOf qv).toNat)
              case atStart => exact ⟨0, Nat.zero_le _, rfl, HOr.out, HGr.out⟩
              case round =>
                clear HOr HGr
                obtain ⟨q, hq, rfl, ho, hgr⟩ := hrel
                have HOr := Lib.hid ho
                have HGr := Lib.hid hgr
                clear ho hgr
                by_cases hqy : q < y
                · have hk4 := Keep.trans (Keep.of_below (S := S) HB1.out) (keep_grown HGr.out hSg)
                  have g0 : wr.cell? ⟨b, o, none⟩ = some (.slice (some ⟨bO, oO, none⟩) T.length cO) := by rw [hk4.cell hSb hbl]; exact HPP.out.1
                  have g2 : wr.cell? ⟨b, o + 2, none⟩ = some (.slice (some ⟨bC, oC, none⟩) T.length cC) := by rw [hk4.cell hSb hbl]; exact HPP.out.2.2
                  have g3 : wr.cell? ⟨bC, oC + j, none⟩ = some (.slice (some ⟨b2, o2, none⟩) L.c.length c2) := by rw [hk4.cell hSC hbC]; exact HCC.out
                  have g4 : wr.cell? ⟨b2, o2 + m, none⟩ = some uc := by rw [hk4.cell hS2 hb2]; exact HC2C.out
                  have HP4 := Lib.hid (HP.out.keep hk4)
                  have HUC4 := Lib.hid (HUC.out.keep hk4)
                  clear hk4
                  go_wp2_with fail
                  refine (HTV.out S _ b o B g cap uc (x.take j ++ [a']) (V m q) c HP4.out HUC4.out hSg HXU.out (HVE.out m q) HCE.out (by simpa using HOr.out)).mono ?_
                  rintro e w5 ⟨rfl, ho5, hg5⟩
                  rw [HVs.out m q c HC.out] at ho5
                  have HO5 := Lib.hid (show Own B w5 (.slice (some ⟨g, 0, none⟩) T.length cap) (ints (x.take j ++ a' :: V m (q + 1))) from by
                    have e1 : (x.take j ++ [a'] ++ V m (q + 1)).length = T.length := by rw [List.length_append, HXU.out, El_length (HVE.out m (q + 1)), List.length_drop]; omega
                    rw [e1] at ho5; simpa using ho5)
                  have HG5 := Lib.hid (grown_trans HGr.out hg5)
                  clear ho5 hg5
                  go_wp2_with fail
                  go_roundw
                  case rel => exact ⟨q + 1, by omega, by go_num, HO5.out, HG5.out⟩
                  case measure => simp [intOf]; omega
                · obtain rfl : q = y := by omega
                  go_wp2_with fail
                  go_roundw
                  case rel => exact ⟨m + 1, by omega, by go_num, by rw [← HVn.out m q (by omega) HY.out]; exact HOr.out, HGr.out⟩
                  case measure => simp [intOf]; omega
            · obtain rfl : m = T.length - (j + 1) := by omega
              go_wp2_with fail
              go_end0
              refine ⟨rfl, ?_, grown_trans HG1.out HGr.out⟩
              rw [← HVz.out]
              have e1 : (x.take j ++ a' :: V (T.length - (j + 1)) 0).length = T.length := by rw [List.length_append, HXT.out, List.length_cons, El_length (HVE.out _ 0), List.length_drop]; omega
              rw [e1]; exact HOr.out
end Go.Proofs.YtbamkklhkhglnaaGreatDoor.ImplC

import Derived.Test.YtabeedimnbkcgaaCyC
import Derived.Test.YtabeedimnbkcgaaCyE
import Derived.Test.YtabeedimnbkcgaaCyF
import Derived.Test.YtabeedimnbkcgaaCyM
import Derived.Test.YtabeedimnbkcgaaImplYZ
/-
  The law FnCyclicGroups.
-/
namespace Go.Proofs.Ytabeedimnbkcgaa.CyN
open Go.RowKit Go.Proofs.Ytabeedimnbkcgaa Go.Proofs.Ytabeedimnbkcgaa.Tow Go.Proofs.Ytabeedimnbkcgaa.Val Go.Proofs.Ytabeedimnbkcgaa.Grps Go.Proofs.Ytabeedimnbkcgaa.NumT Go.Proofs.Ytabeedimnbkcgaa.CyA Go.Proofs.Ytabeedimnbkcgaa.CyD Go.Proofs.Ytabeedimnbkcgaa.CyE Go.Proofs.Ytabeedimnbkcgaa.CyF Go.Proofs.Ytabeedimnbkcgaa.CyI Go.Proofs.Ytabeedimnbkcgaa.CyJ Go.Proofs.Ytabeedimnbkcgaa.CyL
set_option linter.unusedVariables false
set_option linter.unusedSimpArgs false

theorem el_all : ((List.range 730).all fun n => n == 0 || (match resS n with | (0, os) => n == 1 || elB (cyT os) ((List.replicate os.length 0).set 0 1) | _ => true)) = true := by decide +kernel
/-- what the law needs of a cyclic group -/
structure CyOk (n : Nat) (os : List Nat) (T : Tw) : Prop where
  pr : (⟨ints os, (prow os.length).map ints, (crow os.length).map (·.map ints)⟩ : Pres) = ofTw T
  len : T.length = os.length
  l6 : os.length ≤ 6
  wf : Wf T
  sm : Small T
  gd : Tow.Good T
  gr : Grp (ofTw T)
  ab : Abl T
  size : sz T = n
  pos : n ≠ 1 → 0 < os.length
  el : n ≠ 1 → El T ((List.replicate os.length 0).set 0 1)
  ord : n ≠ 1 → ordM T T.length 0 ((List.replicate os.length 0).set 0 1) 1 = some n
  un : n ≠ 1 → n ≤ 27 → (Grow.grow T T T.length []).length = units n
theorem cy_ok {n : Nat} {os : List Nat} (h1 : 1 ≤ n) (h2 : n ≤ 729) (hr : resS n = (0, os)) : CyOk n os (cyT os) := by
  have hA := List.all_eq_true.1 ok_all n (List.mem_range.2 (by omega))
  have hB := List.all_eq_true.1 pres_all n (List.mem_range.2 (by omega))
  have hC := List.all_eq_true.1 el_all n (List.mem_range.2 (by omega))
  rw [hr] at hB
  rw [hr] at hC
  unfold okN at hA
  rw [hr] at hA
  have hn0 : (n == 0) = false := by simp; omega
  simp only [hn0, Bool.false_or, Bool.and_eq_true, Bool.or_eq_true, decide_eq_true_eq, List.all_eq_true, beq_iff_eq] at hA hB hC
  obtain ⟨⟨⟨⟨⟨⟨a1, a2⟩, a3⟩, a4⟩, a5⟩, a6⟩, a7⟩ := hA
  obtain ⟨⟨b1, b2⟩, b3⟩ := hB
  obtain ⟨p1, p2, p3⟩ := presB_pres b1
  have hwf := wfB_iff _ a1
  have hgd := goodB_iff _ a2
  have hsm : Small (cyT os) := ⟨by rw [p2]; exact b2, fun L hL => a4 L hL⟩
  refine ⟨p1.symm, p2, b2, hwf, hsm, hgd, ⟨cyT os, hwf, hsm, rfl, validB_iff a3, hgd⟩, p3, a5, fun hn => ?_, fun hn => ?_, fun hn => ?_, fun hn h27 => ?_⟩
  · rcases Nat.eq_zero_or_pos os.length with h | h
    · have : os = [] := List.eq_nil_of_length_eq_zero h
      subst this
      exact absurd a5.symm hn
    · exact h
  · rcases hC with h | h
    · exact absurd h hn
    · exact elB_iff _ _ h
  · rw [p2]
    rcases a6 with h | h
    · exact absurd h hn
    · exact h
  · rw [growC_eq, p2]
    rcases a7 with (h | h) | h
    · omega
    · exact absurd h hn
    · exact h

theorem big_any (w : World) (a : Option Addr) (len cap : Nat) : Calls Try.prog 4 #[.slice a len cap] w fun e w' => e = .returned (.bool (decide ((len : Int) > 4096))) ∧ w = w' := by
  go_enter Try.func4, Try.ntmps4
  go_wp2_with fail
  exact bodyPost_ret (v := .bool (decide ((len : Int) > 4096))) (by simp [results, Try.results4, go_sem]) rfl ⟨rfl, rfl⟩

/-- how many of the first k have an inverse -/
def uc (n k : Nat) : Nat := ((List.range k).filter fun a => invB n ((a + 1) % n)).length
theorem uc_zero (n : Nat) : uc n 0 = 0 := rfl
theorem uc_succ (n k : Nat) : uc n (k + 1) = uc n k + if invB n ((k + 1) % n) then 1 else 0 := by
  unfold uc
  rw [List.range_succ, List.filter_append, List.length_append]
  by_cases h : invB n ((k + 1) % n) = true
  · simp [h]
  · simp [h]
theorem uc_le (n k : Nat) : uc n k ≤ k := Nat.le_trans (List.length_filter_le _ _) (by simp)

theorem cnt_ok {P : Pres} {os : List Nat} {m : Nat} {x q : Int} (hP : P = ofTw (cyT os)) (hK : CyOk m os (cyT os)) (hu : (Grow.grow (cyT os) (cyT os) (cyT os).length []).length = units m) (h27 : m ≤ 27) (h : ImplZ.CntV P x q) : x = ((uc m m : Nat) : Int) ∧ q = 0 := by
  rcases h with ⟨_, _, h⟩ | ⟨T, hT, hg, h⟩
  · exact absurd (by rw [hP]; exact hK.gr) h
  · obtain rfl : T = cyT os := ofTw_inj (hT.symm.trans hP)
    rcases h with ⟨_, _, h⟩ | ⟨h1, h2, h3⟩
    · rw [hK.size] at h; omega
    · exact ⟨by rw [h3, hu]; rfl, h1⟩
def CycQ (c : Nat) (P : Pres) (w : World) (e : Ending) (w' : World) : Prop :=
  ∃ vO vP vC, e = .returned (.tuple #[.agg #[vO, vP, vC], .int .i64 (c : Int)]) ∧ ValP Any w' vO vP vC P ∧ Below w.heap.size w w'
/-- what is known of the number and its presentation -/
def NOk (n : Int) (c : Nat) (P : Pres) : Prop := c = 0 → ∃ (m : Nat) (os : List Nat), n = (m : Int) ∧ 1 ≤ m ∧ m ≤ 729 ∧ P = ofTw (cyT os) ∧ CyOk m os (cyT os)
theorem n_ok (n : Int) : ∃ c P, (∀ w e w', CycR (resN n) w e w' → CycQ c P w e w') ∧ NOk n c P := by
  refine ⟨(resN n).1, resP (resN n), fun w e w' h => h, fun h => ?_⟩
  unfold resN at h ⊢
  by_cases hin : 1 ≤ n ∧ n ≤ 729
  · rw [if_pos hin] at h ⊢
    obtain ⟨m, rfl⟩ : ∃ m : Nat, n = (m : Int) := ⟨n.toNat, by omega⟩
    rw [Int.toNat_natCast] at h ⊢
    obtain ⟨os, hos⟩ : ∃ os, resS m = (0, os) := ⟨(resS m).2, by rw [← h]⟩
    have hc := cy_ok (by omega) (by omega) hos
    refine ⟨m, os, rfl, by omega, by omega, ?_, hc⟩
    rw [hos]
    unfold resP
    rw [if_pos rfl]
    exact hc.pr
  · rw [if_neg hin] at h
    exact absurd h (by decide)
set_option maxRecDepth 100000 in
set_option maxHeartbeats 16000000 in
theorem walk (a : Option Addr) (len cap : Nat) (w : World) (hR : len ≤ 4096 → CyC.Rd0 w a len) :
    Calls Try.prog 3 #[.slice a len cap] w (TrueR w) := by
  have HBG := Lib.hid (fun W => big_any W a len cap)
  by_cases hbig : (len : Int) > 4096
  · have hbb : decide ((len : Int) > 4096) = true := decide_eq_true hbig
    have HT := Lib.hid (show TrueR w (.returned (.bool true)) w from ⟨rfl, Below.refl _ _⟩)
    rw [hbb] at HBG
    clear hR hbig hbb
    go_enter Try.func3, Try.ntmps3
    go_wp2_with fail
    refine (HBG.out _).mono ?_
    rintro e w1 ⟨rfl, rfl⟩
    go_wp2_with fail
    exact bodyPost_ret (v := .bool true) (by simp [results, Try.results3, go_sem]) rfl HT.out
  · have hbb : decide ((len : Int) > 4096) = false := decide_eq_false hbig
    have HDR := Lib.hid (CyC.draw_any w a len cap (by omega) (hR (by omega)))
    rw [hbb] at HBG
    clear hR hbig hbb
    go_enter Try.func3, Try.ntmps3
    go_wp2_with fail
    refine (HBG.out _).mono ?_
    rintro e w1 ⟨rfl, rfl⟩
    go_wp2_with fail
    refine HDR.out.mono ?_
    rintro e w1 ⟨n, rfl, hb1⟩
    obtain ⟨c, P, hq, hok⟩ := n_ok n
    have HIC := Lib.hid (fun W => (icyc_any n W).mono (hq W))
    have HSC := Lib.hid (fun W => (CyM.scyc_any n W).mono (hq W))
    have HOK := Lib.hid hok
    have HB1 := Lib.hid hb1
    clear hq hok hb1 HBG HDR
    go_wp2_with fail
    refine (HIC.out _).mono ?_
    rintro e w2 ⟨vO, vP, vC, rfl, hV, hb2⟩
    obtain ⟨a0, c0, rfl, _, _⟩ := slg_form hV.os
    obtain ⟨a1, c1, rfl, _, _⟩ := slg_form hV.ps
    obtain ⟨a2, c2, rfl, _, _⟩ := slg_form hV.cs
    have HB2 := Lib.hid (HB1.out.trans (hb2.mono HB1.out.size))
    have HV := Lib.hid hV
    clear hV hb2
    go_upto_region 5 with fail
    obtain ⟨g4, hg4⟩ : ∃ g4, w2.heap.size = g4 := ⟨_, rfl⟩
    obtain ⟨w3, hw3⟩ : ∃ w3, w3 = w2.alloc (.cells #[.slice a0 P.os.length c0, .slice a1 P.ps.length c1, .slice a2 P.cs.length c2] 29) := ⟨_, rfl⟩
    have HB3 := Lib.hid (show Below w.heap.size w w3 from by rw [hw3]; exact HB2.out.alloc HB2.out.size _)
    have HG3 := Lib.hid (show w3.heap[g4]? = some (.cells #[.slice a0 P.os.length c0, .slice a1 P.ps.length c1, .slice a2 P.cs.length c2] 29 (0, 0)) from by rw [hw3, ← hg4]; exact heap_alloc_new _ _)
    have HV3 := Lib.hid (show ValP Any w3 _ _ _ P from HV.out.keep (by rw [hw3]; exact (Keep.refl _ _).alloc _))
    have HL3 := Lib.hid (show g4 < w3.heap.size from (Array.getElem?_eq_some_iff.1 HG3.out).1)
    rw [← hw3, hg4]
    clear hw3 hg4 HV HB2
    go_wp2_with fail
    refine (HSC.out _).mono ?_
    rintro e w4 ⟨vO, vP, vC, rfl, hV, hb4⟩
    obtain ⟨b0, d0, rfl, _, _⟩ := slg_form hV.os
    obtain ⟨b1, d1, rfl, _, _⟩ := slg_form hV.ps
    obtain ⟨b2, d2, rfl, _, _⟩ := slg_form hV.cs
    have HB4 := Lib.hid (HB3.out.trans (hb4.mono HB3.out.size))
    have HV4 := Lib.hid hV
    have HG4 := Lib.hid (blk' hb4 HL3.out HG3.out)
    have HP4 := Lib.hid (HV3.out.keep (Keep.of_below hb4))
    have HL4 := Lib.hid (Nat.lt_of_lt_of_le HL3.out hb4.size)
    clear hV hb4
    go_upto_region 6 with fail
    obtain ⟨g6, hg6⟩ : ∃ g6, w4.heap.size = g6 := ⟨_, rfl⟩
    obtain ⟨w5, hw5⟩ : ∃ w5, w5 = w4.alloc (.cells #[.slice b0 P.os.length d0, .slice b1 P.ps.length d1, .slice b2 P.cs.length d2] 29) := ⟨_, rfl⟩
    have HB5 := Lib.hid (show Below w.heap.size w w5 from by rw [hw5]; exact HB4.out.alloc HB4.out.size _)
    have HG5 := Lib.hid (show w5.heap[g6]? = some (.cells #[.slice b0 P.os.length d0, .slice b1 P.ps.length d1, .slice b2 P.cs.length d2] 29 (0, 0)) from by rw [hw5, ← hg6]; exact heap_alloc_new _ _)
    have HV5 := Lib.hid (show ValP Any w5 _ _ _ P from HV4.out.keep (by rw [hw5]; exact (Keep.refl _ _).alloc _))
    have HP5 := Lib.hid (show ValP Any w5 _ _ _ P from HP4.out.keep (by rw [hw5]; exact (Keep.refl _ _).alloc _))
    have HQ5 := Lib.hid (show w5.heap[g4]? = some (.cells #[.slice a0 P.os.length c0, .slice a1 P.ps.length c1, .slice a2 P.cs.length c2] 29 (0, 0)) from by rw [hw5]; exact (Below.heap_alloc w4 _ g4 HL4.out).trans HG4.out)
    rw [← hw5, hg6]
    clear hw5 hg6 HV4 HP4 HG4 HB4 HV3 HG3 HB3
    have hlt4 : g4 < w5.heap.size := (Array.getElem?_eq_some_iff.1 HQ5.out).1
    have hlt6 : g6 < w5.heap.size := (Array.getElem?_eq_some_iff.1 HG5.out).1
    obtain ⟨e0, e1, e2⟩ := row3' HQ5.out
    obtain ⟨f0, f1, f2⟩ := row3' HG5.out
    have hcc : ((c : Int) != (c : Int)) = false := by simp
    have HLK := Lib.hid (likeP_any w5 _ _ _ _ _ _ P HP5.out HV5.out)
    go_wp2_with fail
    refine HLK.out.mono ?_
    rintro e w6 ⟨rfl, hb6⟩
    have HB6 := Lib.hid (HB5.out.trans (hb6.mono HB5.out.size))
    have HV6 := Lib.hid (HP5.out.keep (Keep.of_below hb6))
    have HG6 := Lib.hid (blk' hb6 hlt4 HQ5.out)
    clear hb6 HLK e0 e1 e2 f0 f1 f2 HP5 HV5 HQ5 HG5 hlt4 hlt6 HB5
    by_cases hc : c = 0
    · subst hc
      obtain ⟨m, os, rfl, hm1, hm729, hP, hK⟩ := HOK.out rfl
      have HK := Lib.hid hK
      have HP := Lib.hid hP
      by_cases hm : m = 1
      · have hmi : ((m : Int) == 1) = true := by simp [hm]
        have HT := Lib.hid (show TrueR w (.returned (.bool true)) w6 from ⟨rfl, HB6.out⟩)
        clear hm hK hP
        go_wp2_with fail
        exact bodyPost_ret (v := .bool true) (by simp [results, Try.results3, go_sem]) rfl HT.out
      · have hmi : ((m : Int) == 1) = false := by simp; omega
        obtain ⟨l, hl⟩ : ∃ l, P.os.length = l := ⟨_, rfl⟩
        have hlo : os.length = l := by rw [← hl, hP, ← hK.pr]; simp [ints]
        have hl6 : l ≤ 6 := by rw [← hlo]; exact hK.l6
        have hl0 : 0 < l := by rw [← hlo]; exact hK.pos hm
        have HUN := Lib.hid (fun W => (unit9_any l hl6 hl0 W).mono (R' := fun e w' => ∃ g c, e = .returned (.slice (some ⟨g, 0, none⟩) l c) ∧ SlI Any w' (.slice (some ⟨g, 0, none⟩) l c) (ints ((List.replicate l 0).set 0 1)) ∧ Below W.heap.size W w') (by
          rintro e w' ⟨g, c, rfl, ho, hb⟩
          rw [show (ints ((List.replicate l 0).set 0 1)).length = l by simp [ints]] at ho ⊢
          exact ⟨g, c, rfl, ho.sl.mono fun _ _ => trivial, hb⟩))
        have HEO := Lib.hid (fun W vO vP vC vx (hV : ValP Any W vO vP vC P) (hx : SlI Any W vx (ints ((List.replicate l 0).set 0 1))) =>
          elementOrder_any (cyT os) hK.wf hK.sm hK.gd hK.gr W vO vP vC vx ((List.replicate l 0).set 0 1) m (by rw [hP] at hV; exact hV) hx (by rw [← hlo]; exact hK.el hm) (by rw [← hlo]; exact hK.ord hm))
        have HAB := Lib.hid (fun W vO vP vC (hV : ValP Any W vO vP vC P) => isAbelianGroup_any (cyT os) (by rw [hK.len]; exact hK.l6) hK.ab hK.gr W vO vP vC (by rw [hP] at hV; exact hV))
        have HCT := Lib.hid (fun W vO vP vC (hV : ValP Any W vO vP vC P) => ImplZ.count_any W vO vP vC P hV)
        have HUM := Lib.hid (hK.un hm)
        obtain ⟨e0, e1, e2⟩ := row3' HG6.out
        have hgl : g4 < w6.heap.size := (Array.getElem?_eq_some_iff.1 HG6.out).1
        rw [hl] at HV6 HG6 e0 ⊢
        clear hm hK hP hl hlo HIC HSC HOK HB1
        go_upto_region 10 with fail
        rename World => wr
        go_region_held3 (fun w' => (∀ b o, b < wr.heap.size → w'.cell? ⟨b, o, none⟩ = wr.cell? ⟨b, o, none⟩) ∧ Keep (fun _ => True) wr w')
          (first | exact ks_mk (by repeat (first | exact (Keep.refl _ _).drew | exact Keep.refl _ _ | refine Keep.trans ?_ (Keep.of_below (by assumption)))))
          (first | (go_at_call 10; refine (HUN.out _).mono ?_; rintro e w7 ⟨g7, c7, rfl, ho7, hb7⟩) | (go_at_call 9; refine (HEO.out _ _ _ _ _ (HV6.out.keep (by repeat (first | exact (Keep.refl _ _).drew | exact Keep.refl _ _ | refine Keep.trans ?_ (Keep.of_below (by assumption))))) (ho7.keep (by repeat (first | exact (Keep.refl _ _).drew | exact Keep.refl _ _ | refine Keep.trans ?_ (Keep.of_below (by assumption)))))).mono ?_; rintro e w8 ⟨rfl, hb8⟩))
        have hb8' : Below wr.heap.size wr w8 := ((Below.refl _ wr).drew).trans (hb7.trans (hb8.mono hb7.size))
        have HB8 := Lib.hid (HB6.out.trans (hb8'.mono HB6.out.size))
        have HV8 := Lib.hid (HV6.out.keep (Keep.of_below hb8'))
        have HG8 := Lib.hid (blk' hb8' hgl HG6.out)
        have hgl8 : g4 < w8.heap.size := Nat.lt_of_lt_of_le hgl hb8'.size
        rename_i hHd
        clear hHd hb8' hb7 hb8 ho7 HV6 HG6 HB6 HUN HEO e0 e1 e2 hgl
        obtain ⟨e0, e1, e2⟩ := row3' HG8.out
        have HAC := Lib.hid (HAB.out _ _ _ _ HV8.out)
        go_wp2_with fail
        refine HAC.out.mono ?_
        rintro e w9 ⟨rfl, hb9⟩
        have HB9 := Lib.hid (HB8.out.trans (hb9.mono HB8.out.size))
        have HV9 := Lib.hid (HV8.out.keep (Keep.of_below hb9))
        have HG9 := Lib.hid (blk' hb9 hgl8 HG8.out)
        have hgl9 : g4 < w9.heap.size := Nat.lt_of_lt_of_le hgl8 hb9.size
        have hmm : ((m : Int) != (m : Int)) = false := by simp
        clear hb9 HV8 HG8 HB8 HAB HAC e0 e1 e2 hgl8
        by_cases h27 : m ≤ 27
        · have hgt : ¬ (m : Int) > 27 := by omega
          have HMV := Lib.hid (fun k hk W => modInverse_any m k h27 (by omega) hk W)
          have HUV := Lib.hid (HUM.out h27)
          go_wp2_with fail
          go_loopw [12, 13] (fun uv av wr => ∃ k : Nat, k ≤ m ∧ av = .int .i64 ((k : Int) + 1) ∧ uv = .int .i64 ((uc m k : Nat) : Int) ∧ w9 = wr) (fun _ av _ => m + 1 - (intOf av).toNat)
          case atStart => exact ⟨0, Nat.zero_le _, by simp, by rw [uc_zero]; rfl, rfl⟩
          case round =>
            obtain ⟨k, hk, rfl, rfl, rfl⟩ := hrel
            have hwk : IntKind.i64.wrap ((k : Int) + 1 + 1) = (k : Int) + 1 + 1 := IntWalk.i64_in _ (by omega)
            by_cases hlt : k < m
            · have hki : (k : Int) + 1 ≤ (m : Int) := by omega
              have HMC := Lib.hid (show Calls Try.prog 12 #[.int .i64 ((k : Int) + 1), .int .i64 (m : Int)] w9 (MInvR m (k + 1) w9) from by
                have h := HMV.out (k + 1) (by omega) w9
                rw [show (((k + 1 : Nat)) : Int) = (k : Int) + 1 by omega] at h
                exact h)
              have hu := uc_succ m k
              have hul := uc_le m k
              obtain ⟨u, huu⟩ : ∃ u, uc m k = u := ⟨_, rfl⟩
              rw [huu] at hu hul ⊢
              have hwu : IntKind.i64.wrap ((u : Int) + 1) = (u : Int) + 1 := IntWalk.i64_in _ (by omega)
              by_cases hv : invB m ((k + 1) % m) = true
              · rw [if_pos hv] at hu
                have HU1 := Lib.hid hu
                have HMD := Lib.hid (HMC.out.mono (R' := fun e w' => ∃ c : Int, e = .returned (.tuple #[.int .i64 c, .int .i64 0]) ∧ w9 = w') (by
                  rintro e w' ⟨c, rfl, rfl⟩
                  rw [if_pos hv]
                  exact ⟨c, rfl, rfl⟩))
                clear hv huu hu HMC
                go_wp2_with fail
                refine HMD.out.mono ?_
                rintro e w' ⟨c, rfl, rfl⟩
                go_wp2_with fail
                go_roundw
                case rel => exact ⟨k + 1, by omega, by go_num, by rw [HU1.out]; go_num, by first | rfl | trivial⟩
                case measure => simp [intOf]; omega
              · rw [if_neg hv] at hu
                have HU1 := Lib.hid hu
                have HMD := Lib.hid (HMC.out.mono (R' := fun e w' => ∃ c : Int, e = .returned (.tuple #[.int .i64 c, .int .i64 4]) ∧ w9 = w') (by
                  rintro e w' ⟨c, rfl, rfl⟩
                  rw [if_neg hv]
                  exact ⟨c, rfl, rfl⟩))
                clear hv huu hu HMC
                go_wp2_with fail
                refine HMD.out.mono ?_
                rintro e w' ⟨c, rfl, rfl⟩
                go_wp2_with fail
                go_roundw
                case rel => exact ⟨k + 1, by omega, by go_num, by rw [HU1.out]; rfl, by first | rfl | trivial⟩
                case measure => simp [intOf]; omega
            · obtain rfl : k = m := by omega
              have hki : ¬ (k : Int) + 1 ≤ (k : Int) := by omega
              have HCC := Lib.hid (HCT.out _ _ _ _ HV9.out)
              obtain ⟨e0, e1, e2⟩ := row3' HG9.out
              clear hwk hlt
              go_wp2_with fail
              refine HCC.out.mono ?_
              rintro e w10 ⟨x, q, rfl, hxq, hb10⟩
              have hxv : x = ((uc k k : Nat) : Int) ∧ q = 0 := cnt_ok HP.out HK.out HUV.out h27 hxq
              obtain ⟨rfl, rfl⟩ := hxv
              have HT := Lib.hid (show TrueR w (.returned (.bool true)) w10 from ⟨rfl, HB9.out.trans (hb10.mono HB9.out.size)⟩)
              clear hxq hb10
              go_wp2_with fail
              exact bodyPost_ret (v := .bool true) (by simp [results, Try.results3, go_sem]) rfl HT.out
        · have hgt : (m : Int) > 27 := by omega
          have HT := Lib.hid (show TrueR w (.returned (.bool true)) w9 from ⟨rfl, HB9.out⟩)
          clear h27
          go_wp2_with fail
          exact bodyPost_ret (v := .bool true) (by simp [results, Try.results3, go_sem]) rfl HT.out
    · have hci : ((c : Int) != 0) = true := by simp; omega
      have HT := Lib.hid (show TrueR w (.returned (.bool true)) w6 from ⟨rfl, HB6.out⟩)
      clear hc
      go_wp2_with fail
      exact bodyPost_ret (v := .bool true) (by simp [results, Try.results3, go_sem]) rfl HT.out
end Go.Proofs.Ytabeedimnbkcgaa.CyN

import Derived.Test.YtabeedimnbkcgaaGreatOrbDF
import Derived.Maps.OwnOps
import Derived.Maps.OwnSet
import Derived.Maps.Views
/-
  Counting orbits: what is seen after some elements; spec.CountOrbits.
-/
namespace Go.Proofs.YtabeedimnbkcgaaGreat.CoA
open Go.RowKit Go.Proofs.YtabeedimnbkcgaaGreat Go.Proofs.YtabeedimnbkcgaaGreat.Tow Go.Proofs.YtabeedimnbkcgaaGreat.Val Go.Proofs.YtabeedimnbkcgaaGreat.NumT Go.Proofs.YtabeedimnbkcgaaGreat.SpecB Go.Proofs.YtabeedimnbkcgaaGreat.SpecR Go.Proofs.YtabeedimnbkcgaaGreat.SpecX Go.Proofs.YtabeedimnbkcgaaGreat.LawF Go.Proofs.YtabeedimnbkcgaaGreat.OrbB Go.Proofs.YtabeedimnbkcgaaGreat.OrbC
set_option linter.unusedVariables false
set_option linter.unusedSimpArgs false

/-- what was seen -/
noncomputable def seenN (T : Tw) : Nat → Nat → Bool
  | 0, _ => false
  | t + 1, k => seenN T t k || (!seenN T t t && orb T (at_ T t) k)
noncomputable def cntN (T : Tw) : Nat → Nat
  | 0 => 0
  | t + 1 => cntN T t + if seenN T t t = true then 0 else 1
theorem seen_skip {T : Tw} {t : Nat} (h : seenN T t t = true) : seenN T (t + 1) = seenN T t := by funext k; simp [seenN, h]
theorem seen_take {T : Tw} {t : Nat} (h : seenN T t t = false) (k : Nat) : seenN T (t + 1) k = (seenN T t k || orb T (at_ T t) k) := by simp [seenN, h]
theorem cnt_skip {T : Tw} {t : Nat} (h : seenN T t t = true) : cntN T (t + 1) = cntN T t := by simp [cntN, h]
theorem cnt_take {T : Tw} {t : Nat} (h : seenN T t t = false) : cntN T (t + 1) = cntN T t + 1 := by simp [cntN, h]
theorem cnt_le (T : Tw) : ∀ t, cntN T t ≤ t
  | 0 => Nat.le_refl _
  | t + 1 => by
    have := cnt_le T t
    rw [cntN]
    split <;> omega
/-- the marks, some of them renewed -/
noncomputable def mixS (T : Tw) (t j : Nat) : List Bool := (List.range (sz T)).map fun k => if k < j then seenN T (t + 1) k else seenN T t k
theorem mixS_length (T : Tw) (t j : Nat) : (mixS T t j).length = sz T := by simp [mixS]
theorem mixS_get {T : Tw} {t j k : Nat} (h : k < sz T) : (mixS T t j)[k]? = some (if k < j then seenN T (t + 1) k else seenN T t k) := by simp [mixS, h]
theorem mixS_succ {T : Tw} {t j : Nat} : mixS T t (j + 1) = (mixS T t j).set j (seenN T (t + 1) j) := by
  apply List.ext_getElem?
  intro k
  by_cases hk : k < sz T
  · rw [mixS_get hk]
    by_cases e : j = k
    · subst e
      rw [List.getElem?_set_self (by rw [mixS_length]; exact hk), if_pos (by omega)]
    · rw [List.getElem?_set_ne e, mixS_get hk]
      by_cases h : k < j
      · rw [if_pos (by omega), if_pos h]
      · rw [if_neg (by omega), if_neg h]
  · rw [List.getElem?_eq_none (by rw [mixS_length]; omega), List.getElem?_eq_none (by rw [List.length_set, mixS_length]; omega)]
theorem mixS_zero (T : Tw) (t : Nat) : mixS T t 0 = (List.range (sz T)).map (seenN T t) := by simp [mixS]
theorem mixS_end (T : Tw) (t : Nat) : mixS T t (sz T) = (List.range (sz T)).map (seenN T (t + 1)) := by
  unfold mixS
  refine List.map_congr_left fun k hk => ?_
  rw [if_pos (List.mem_range.1 hk)]
theorem seen0 (T : Tw) : (List.range (sz T)).map (seenN T 0) = List.replicate (sz T) false := by
  refine List.eq_replicate_iff.2 ⟨by simp, fun b hb => ?_⟩
  obtain ⟨k, _, rfl⟩ := List.mem_map.1 hb
  rfl
def OrcV (P : Pres) (n k : Int) : Prop := (n = 0 ∧ k = 1 ∧ ¬ Grps.Grp P) ∨ ∃ T, P = ofTw T ∧ Grps.Grp P ∧ ((n = 0 ∧ k = 3 ∧ 27 < sz T) ∨ (k = 0 ∧ sz T ≤ 27 ∧ n = (cntN T (sz T) : Int)))
def OrcR (P : Pres) (w : World) (e : Ending) (w' : World) : Prop := ∃ n k : Int, e = .returned (.tuple #[.int .i64 n, .int .i64 k]) ∧ OrcV P n k ∧ Below w.heap.size w w'
theorem orc_one {P : Pres} {n k n' k' : Int} (h : OrcV P n k) (h' : OrcV P n' k') : n' = n ∧ k' = k := by
  rcases h with ⟨rfl, rfl, hn⟩ | ⟨T, rfl, hG, h⟩
  · rcases h' with ⟨rfl, rfl, _⟩ | ⟨T', _, hG, _⟩
    · exact ⟨rfl, rfl⟩
    · exact absurd hG hn
  · rcases h' with ⟨_, _, hn⟩ | ⟨T', hT, _, h'⟩
    · exact absurd hG hn
    · obtain rfl := Grps.ofTw_inj hT
      rcases h with ⟨rfl, rfl, h1⟩ | ⟨rfl, h1, rfl⟩ <;> rcases h' with ⟨rfl, rfl, h2⟩ | ⟨rfl, h2, rfl⟩ <;> first | exact ⟨rfl, rfl⟩ | omega
/-- rows of another element type stay while one block is written -/
theorem row_apart {w w' : World} {B n gI : Nat} {e e' : TypeId} {v : Value} {us : List Value} {cs : Array Value} {fr : Nat × Nat} (h : w.ownsRow B e 1 v n us) (hk : Keep (fun k => k ≠ gI) w w') (hI : w.heap[gI]? = some (.cells cs e' fr)) (he : e ≠ e') : w'.ownsRow B e 1 v n us := by
  refine ⟨h.1, ?_⟩
  rcases h.2 with hn | ⟨g, cap, cur, rfl, hb, hgg, rest⟩
  · exact .inl hn
  · refine .inr ⟨g, cap, cur, rfl, hb, ?_, rest⟩
    rw [hk.block g (fun hg => ?_) (Array.getElem?_eq_some_iff.1 hgg).1]
    · exact hgg
    · subst hg
      rw [hgg] at hI
      cases hI
      exact he rfl
theorem own2_apart {w w' : World} {B gI : Nat} {e2 e e' : TypeId} {v : Value} {rows : List (List Nat)} {cs : Array Value} {fr : Nat × Nat} (h : Own2 e2 e B w v rows) (hk : Keep (fun k => k ≠ gI) w w') (hI : w.heap[gI]? = some (.cells cs e' fr)) (he2 : e2 ≠ e') (he : e ≠ e') : Own2 e2 e B w' v rows := by
  obtain ⟨us, h1, h2, h4⟩ := h
  exact ⟨us, row_apart h1 hk hI he2, h2, fun i r u hr hu => ⟨(h4 i r u hr hu).1, row_apart (h4 i r u hr hu).2 hk hI he⟩⟩
theorem own3_apart {w w' : World} {B gI : Nat} {v : Value} {L : List (List (List Nat))} {cs : Array Value} {fr : Nat × Nat} (h : Own3 B w v L) (hk : Keep (fun k => k ≠ gI) w w') (hI : w.heap[gI]? = some (.cells cs 4 fr)) : Own3 B w' v L := by
  obtain ⟨us, h1, h2, h4⟩ := h
  exact ⟨us, row_apart h1 hk hI (by decide), h2, fun i r u hr hu => own2_apart (h4 i r u hr hu) hk hI (by decide) (by decide)⟩
theorem OwnB.blk {B : Nat} {w : World} {g n c : Nat} {l : List Bool} (h : OwnB B w (.slice (some ⟨g, 0, none⟩) n c) l) : ∃ cs, w.heap[g]? = some (.cells cs 4 (0, 0)) := by
  rcases h.2 with ⟨e, _⟩ | ⟨g', cap, cur, e, _, hgg, _⟩
  · cases e
  · cases e; exact ⟨cur, hgg⟩

set_option maxRecDepth 100000 in
set_option maxHeartbeats 4000000 in
theorem spec_co (w : World) (vO vP vC : Value) (P : Pres) (hP : ValP Any w vO vP vC P) :
    Calls Tryz.prog 35 #[.agg #[vO, vP, vC]] w (OrcR P w) := by
  have HP := Lib.hid hP
  have HCO := Lib.hid (fun W h => SpecT.code_any W vO vP vC P h)
  obtain ⟨W0, hW0⟩ : ∃ W0, W0 = w.alloc (.cells #[vO, vP, vC] 30) := ⟨_, rfl⟩
  have HB0 := Lib.hid (show Below (w.heap.size + 1) (w.alloc (.cells #[vO, vP, vC] 30)) W0 by rw [hW0]; exact Below.refl _ _)
  clear hP
  go_enter Tryz.func35, Tryz.ntmps35
  go_upto_region 1 with fail
  rw [← hW0]
  clear hW0
  obtain ⟨⟨e0, e1, e2⟩, hk0, hbw0, hs0⟩ := bx1 HB0.out
  go_wp2_with fail
  refine (HCO.out _ (HP.out.keep hk0)).mono ?_
  rintro e w1 ⟨k, rfl, hc, hb1⟩
  have HB1 := Lib.hid (HB0.out.trans (hb1.mono hs0))
  clear e0 e1 e2 hk0 hb1 hbw0 hs0
  obtain ⟨⟨e0, e1, e2⟩, hk1, hbw1, hs1⟩ := bx1 HB1.out
  rcases hc with ⟨rfl, hG⟩ | ⟨T, rfl, hG, ⟨rfl, h27⟩ | ⟨rfl, h27⟩⟩
  · have HR := Lib.hid (show OrcR P w (.returned (.tuple #[.int .i64 0, .int .i64 1])) w1 from ⟨0, 1, rfl, .inl ⟨rfl, rfl, hG⟩, hbw1⟩)
    clear hG hk1 hbw1
    go_wp2_with fail
    exact bodyPost_ret (v := .tuple #[.int .i64 0, .int .i64 1]) (by simp [results, Tryz.results35, go_sem]) rfl HR.out
  · have HR := Lib.hid (show OrcR (ofTw T) w (.returned (.tuple #[.int .i64 0, .int .i64 3])) w1 from ⟨0, 3, rfl, .inr ⟨T, rfl, hG, .inl ⟨rfl, rfl, h27⟩⟩, hbw1⟩)
    clear hG hk1 hbw1 h27
    go_wp2_with fail
    exact bodyPost_ret (v := .tuple #[.int .i64 0, .int .i64 3]) (by simp [results, Tryz.results35, go_sem]) rfl HR.out
  · obtain ⟨hT, hsT, hgT, hpT⟩ := grp_parts hG
    have HEM := Lib.hid (embed_any T T hT hsT hT hsT hgT hpT h27 (fun h => h) w1 vO vP vC vO vP vC (HP.out.keep hk1) (HP.out.keep hk1))
    have HME := Lib.hid (FindC.maps_eq hG hG)
    have HOB := Lib.hid (fun B W vF vx x G h1 h2 h3 h6 h4 h5 => orbit_any T hT hsT hgT (by omega) B W vO vP vC vF vx G x h1 h2 h3 h6 h4 h5)
    have HAT := Lib.hid (fun W q (hq : q ≤ 1000000) hO => SpecN.at_any T (SpecN.Os.of hT hsT (by omega)) (fun L h => by have := hsT.2 L h; omega) q hq W vO vP vC hO)
    have HSZ := Lib.hid (fun W hO => SpecN.order_any T (SpecN.Os.of hT hsT (by omega)) W vO vP vC hO)
    have HGL := Lib.hid (show (∀ f ∈ Grow.grow T T T.length [], f.length = T.length) ∧ (Grow.grow T T T.length []).length ≤ 1000000000 from ⟨fun f hf => by simpa using ImplY.grow_rows _ _ _ hf, by
      have h1 := Grow.grow_length T T h27 T.length []
      have h6 : 27 ^ T.length ≤ 27 ^ 6 := Nat.pow_le_pow_right (by omega) hsT.1
      omega⟩)
    have HTT := Lib.hid hT
    have HG := Lib.hid hG
    have hmkb := mkB66 (sz T) (by omega)
    have HOT := Lib.hid (SpecN.ofTw_ords T)
    clear hG hk1 hbw1 hT hsT hgT hpT
    go_wp2_with fail
    refine HEM.out.mono ?_
    rintro e w2 ⟨v5, rfl, ho2, hb2⟩
    rw [HME.out] at ho2
    have HB2 := Lib.hid (HB1.out.trans (hb2.mono hs1))
    have HO2 := Lib.hid ho2
    clear e0 e1 e2 hs1 hb2 ho2
    obtain ⟨⟨e0, e1, e2⟩, hk2, hbw2, hs2⟩ := bx1 HB2.out
    have HSO := Lib.hid (HSZ.out w2 (by have h := (HP.out.keep hk2).os; rwa [HOT.out] at h))
    clear hk2 hbw2
    go_upto_region 6 with (refine HSO.out.mono ?_; rintro e w3 ⟨rfl, hb3⟩)
    have HB3 := Lib.hid (HB2.out.trans (hb3.mono hs2))
    have HO3 := Lib.hid (HO2.out.keep (S := Any) (Keep.of_below hb3) (fun _ _ _ => trivial))
    obtain ⟨gI, hgI⟩ : ∃ gI, w3.heap.size = gI := ⟨_, rfl⟩
    obtain ⟨w5, hw5⟩ : ∃ w5, w5 = w3.alloc (.cells (madeCells #[.bool false] (sz T)) 4) := ⟨_, rfl⟩
    rw [← hw5]
    have HI5 := Lib.hid (show OwnB gI w5 (.slice (some ⟨gI, 0, none⟩) (sz T) (sz T)) ((List.range (sz T)).map (seenN T 0)) by
      rw [seen0, hw5, ← hgI]; exact OwnB.made w3 (sz T) (Nat.le_refl _) (by unfold maxLen; omega))
    have HO5 := Lib.hid (show Own3 w1.heap.size w5 v5 ((Grow.grow T T T.length []).map fun l => l.map (at_ T)) by rw [hw5]; exact HO3.out.keep (S := Any) ((Keep.refl _ _).alloc _) (fun _ _ _ => trivial))
    have HB5 := Lib.hid (show Below (w.heap.size + 1) (w.alloc (.cells #[vO, vP, vC] 30)) w5 by rw [hw5]; exact HB3.out.alloc (by have := (bx1 HB3.out).2.2.2; exact this) _)
    have HS5 := Lib.hid (show w5.heap.size = gI + 1 ∧ w.heap.size + 1 ≤ gI by rw [hw5, ← hgI]; exact ⟨by simp, (bx1 HB3.out).2.2.2⟩)
    simp only [hgI]
    clear hw5 hgI hb3 HB2 HB3 e0 e1 e2 hs2 HSO HB0 HB1 HO2 HO3 HEM
    obtain ⟨-, hk5, hbw5, -⟩ := bx1 HB5.out
    have hgIw := HS5.out.2
    have HP5 := Lib.hid (show ValP (fun b => b ≠ gI) w5 vO vP vC (ofTw T) from (((HP.out.bnd).mono (S' := fun b => b < w.heap.size) (fun b hb => hb.2)).keep (hk5.mono (fun _ _ => trivial))).mono (fun b hb => by omega))
    clear hk5 hbw5
    go_wp2_with fail
    go_loopw [7, 8] (fun cv tv wr => ∃ t : Nat, t ≤ sz T ∧ tv = .int .i64 (t : Int) ∧ cv = .int .i64 (cntN T t : Int) ∧ Hid (OwnB gI wr (.slice (some ⟨gI, 0, none⟩) (sz T) (sz T)) ((List.range (sz T)).map (seenN T t))) ∧ Hid (Keep (fun k => k ≠ gI) w5 wr) ∧ Hid (Below (w.heap.size + 1) (w.alloc (.cells #[vO, vP, vC] 30)) wr)) (fun _ tv _ => sz T - (intOf tv).toNat)
    case atStart => exact ⟨0, Nat.zero_le _, rfl, rfl, HI5, Lib.hid (Keep.refl _ _), HB5⟩
    case round =>
      obtain ⟨t, ht, rfl, rfl, hIr, hKr, hB⟩ := hrel
      rename World => wo
      have HBWr := Lib.hid (bx1 hB.out).2.2.1
      by_cases hlt : t < sz T
      · have hti : decide ((t : Int) < (sz T : Int)) = true := by simp; omega
        have ht0 : (0 : Int) ≤ (t : Int) := by omega
        have ht1 : (t : Int) < (sz T : Int) := by omega
        obtain ⟨s8, f8⟩ := hIr.out.cell (j := t) (b := seenN T t t) (by simp [hlt])
        cases hst : seenN T t t with
        | true =>
          rw [hst] at s8
          have HN := Lib.hid (show OwnB gI wo (.slice (some ⟨gI, 0, none⟩) (sz T) (sz T)) ((List.range (sz T)).map (seenN T (t + 1))) by rw [seen_skip hst]; exact hIr.out)
          have HCN := Lib.hid (cnt_skip hst)
          clear hst f8
          go_wp2_with fail
          go_roundw
          case rel => exact ⟨t + 1, by omega, by go_num, by rw [HCN.out], HN, hKr, hB⟩
          case measure => simp [intOf] <;> omega
        | false =>
          rw [hst] at s8
          have HST := Lib.hid hst
          have HCL := Lib.hid (cnt_le T t)
          have hc27 : (cntN T t : Int) ≤ 27 := by have := HCL.out; omega
          clear hst f8
          obtain ⟨⟨e0, e1, e2⟩, hkw, hbw, hsw⟩ := bx1 hB.out
          have HPr := Lib.hid ((HP5.out.keep hKr.out).mono (S' := Any) (fun _ _ => trivial))
          have HFr := Lib.hid (show Own3 w1.heap.size wo v5 ((Grow.grow T T T.length []).map fun l => l.map (at_ T)) from by obtain ⟨cs, hcs⟩ := OwnB.blk HI5.out; exact own3_apart HO5.out hKr.out hcs)
          have HXE := Lib.hid (at_El HTT.out t)
          have hw0 : w.heap.size < wo.heap.size := by omega
          have HSW := Lib.hid hsw
          clear hkw hbw hsw
          go_upto_region 12 with fail
          go_region_held3 (fun w' => (∀ b o, b < wo.heap.size → w'.cell? ⟨b, o, none⟩ = wo.cell? ⟨b, o, none⟩) ∧ Keep (fun _ => True) wo w')
            (first | exact ks_mk (by repeat (first | exact (Keep.refl _ _).drew | exact Keep.refl _ _ | refine Keep.drewN ?_ _ | refine Keep.trans ?_ (Keep.of_below (by assumption)))))
            (first | (go_at_call 68; refine (HAT.out _ t (by omega) (by have h := (HPr.out.keep (by repeat (first | exact (Keep.refl _ _).drew | exact Keep.refl _ _ | exact (Keep.refl _ _).alloc _ | exact ((Keep.refl _ _).alloc _).drew | refine Keep.drewN ?_ _ | refine Keep.trans ?_ (Keep.of_below (by assumption))))).os; rwa [HOT.out] at h)).mono ?_; rintro e w6 ⟨g6, c6, rfl, ho6, hb6⟩) | (go_at_call 67; refine (HOB.out _ _ v5 _ (at_ T t) _ (HPr.out.keep (by repeat (first | exact (Keep.refl _ _).drew | exact Keep.refl _ _ | exact (Keep.refl _ _).alloc _ | exact ((Keep.refl _ _).alloc _).drew | refine Keep.drewN ?_ _ | refine Keep.trans ?_ (Keep.of_below (by assumption))))) (HFr.out.keep (S := fun _ => True) (by repeat (first | exact (Keep.refl _ _).drew | exact Keep.refl _ _ | exact (Keep.refl _ _).alloc _ | exact ((Keep.refl _ _).alloc _).drew | refine Keep.drewN ?_ _ | refine Keep.trans ?_ (Keep.of_below (by assumption)))) (fun _ _ _ => trivial)) ((ho6.sl.mono (fun _ _ => trivial)).keep (by repeat (first | exact (Keep.refl _ _).drew | exact Keep.refl _ _ | exact (Keep.refl _ _).alloc _ | exact ((Keep.refl _ _).alloc _).drew | refine Keep.drewN ?_ _ | refine Keep.trans ?_ (Keep.of_below (by assumption))))) HXE.out HGL.out.1 HGL.out.2).mono ?_; rintro e w7 ⟨v7, rfl, ho7, hb7⟩))
          rename_i hHd
          clear hHd
          have hb6' : Below wo.heap.size wo w6 := ((Below.refl _ _).drew).trans hb6
          have hb7' : Below wo.heap.size wo w7 := hb6'.trans (hb7.mono hb6'.size)
          have HB7 := Lib.hid (hB.out.trans (hb7'.mono HSW.out))
          have HK7 := Lib.hid (hKr.out.trans (Keep.of_below (S := fun k => k ≠ gI) hb7'))
          have HI7 := Lib.hid (show OwnB gI w7 (.slice (some ⟨gI, 0, none⟩) (sz T) (sz T)) (mixS T t 0) by rw [mixS_zero]; exact hIr.out.keep (S := Any) (Keep.of_below hb7') (fun _ _ => trivial))
          have hzp : 0 < sz T := by omega
          obtain ⟨gM, cap, hv7, hgB, hgl⟩ := World.ownsRow.form ho7 (by rw [mkl_length]; exact hzp)
          rw [mkl_length] at hv7
          subst hv7
          have HMK := Lib.hid (fun t' => orb_mks T (at_ T t) t')
          obtain ⟨n, hn⟩ : ∃ n, (Grow.grow T T T.length []).length = n := ⟨_, rfl⟩
          rw [hn] at ho7 HMK
          have HO7 := Lib.hid ho7
          have HGM := Lib.hid (show gI < w7.heap.size ∧ gM ≠ gI from by
            have h1 := (Array.getElem?_eq_some_iff.1 (OwnB.blk hIr.out).choose_spec).1
            have h2 := hb6'.size
            omega)
          clear hn ho6 hb6 ho7 hb7 hb6' hb7' hgB e0 e1 e2 s8 hw0 hIr hKr hB
          obtain ⟨gw, hgw⟩ : ∃ gw, w7 = gw := ⟨_, rfl⟩
          clear hgw
          clear gw
          go_wp2_with fail
          go_loopw [10] (fun jv wi => ∃ j : Nat, j ≤ sz T ∧ jv = .int .i64 (j : Int) ∧ Hid (OwnB gI wi (.slice (some ⟨gI, 0, none⟩) (sz T) (sz T)) (mixS T t j)) ∧ Hid (Keep (fun k => k ≠ gI) w7 wi) ∧ Hid (Below (w.heap.size + 1) (w.alloc (.cells #[vO, vP, vC] 30)) wi)) (fun jv _ => sz T - (intOf jv).toNat)
          case atStart => exact ⟨0, Nat.zero_le _, rfl, HI7, Lib.hid (Keep.refl _ _), HB7⟩
          case round =>
            obtain ⟨j, hj, rfl, hIi, hKi, hBi⟩ := hrel
            by_cases hjl : j < sz T
            · have hji : decide ((j : Int) < (sz T : Int)) = true := by simp; omega
              have hj0 : (0 : Int) ≤ (j : Int) := by omega
              have hj1 : (j : Int) < (sz T : Int) := by omega
              obtain ⟨s9, f9⟩ := hIi.out.cell (mixS_get (t := t) (j := j) hjl)
              rw [if_neg (Nat.lt_irrefl _)] at s9
              obtain ⟨m9, -⟩ := (HO7.out.cell (mkl_get hjl))
              rw [HMK.out] at m9
              have m9' := (hKi.out.cell (b := gM) (o := j) HGM.out.2 hgl).trans m9
              have HSU := Lib.hid (show mixS T t (j + 1) = (mixS T t j).set j (seenN T t j || orb T (at_ T t) j) by rw [mixS_succ, seen_take HST.out])
              obtain ⟨b1, hb1⟩ : ∃ b1, seenN T t j = b1 := ⟨_, rfl⟩
              obtain ⟨b2, hb2⟩ : ∃ b2, orb T (at_ T t) j = b2 := ⟨_, rfl⟩
              rw [hb1] at s9 HSU
              rw [hb2] at m9' HSU
              clear m9 hb1 hb2
              have HN := Lib.hid (fun b3 (h : (b1 || b2) = b3) => (show OwnB gI (wr.setCell ⟨gI, j, none⟩ (.bool b3)) (.slice (some ⟨gI, 0, none⟩) (sz T) (sz T)) (mixS T t (j + 1)) ∧ Keep (fun k => k ≠ gI) w7 (wr.setCell ⟨gI, j, none⟩ (.bool b3)) ∧ Below (w.heap.size + 1) (w.alloc (.cells #[vO, vP, vC] 30)) (wr.setCell ⟨gI, j, none⟩ (.bool b3)) from by
                subst h
                exact ⟨by rw [HSU.out]; exact hIi.out.set j _, hKi.out.setCell (by simp) _, hBi.out.setCell (p := ⟨gI, j, none⟩) hgIw _⟩))
              cases b1 with
              | true =>
                have HN1 := Lib.hid (HN.out true rfl)
                go_wp2_with fail
                go_roundw
                case rel => exact ⟨j + 1, by omega, by go_num, Lib.hid HN1.out.1, Lib.hid HN1.out.2.1, Lib.hid HN1.out.2.2⟩
                case measure => simp [intOf] <;> omega
              | false =>
                cases b2 with
                | true =>
                  have HN1 := Lib.hid (HN.out true rfl)
                  go_wp2_with fail
                  go_roundw
                  case rel => exact ⟨j + 1, by omega, by go_num, Lib.hid HN1.out.1, Lib.hid HN1.out.2.1, Lib.hid HN1.out.2.2⟩
                  case measure => simp [intOf] <;> omega
                | false =>
                  have HN1 := Lib.hid (HN.out false rfl)
                  go_wp2_with fail
                  go_roundw
                  case rel => exact ⟨j + 1, by omega, by go_num, Lib.hid HN1.out.1, Lib.hid HN1.out.2.1, Lib.hid HN1.out.2.2⟩
                  case measure => simp [intOf] <;> omega
            · obtain rfl : j = sz T := by omega
              have hji : decide ((sz T : Int) < (sz T : Int)) = false := by simp
              have HN := Lib.hid (show OwnB gI wr (.slice (some ⟨gI, 0, none⟩) (sz T) (sz T)) ((List.range (sz T)).map (seenN T (t + 1))) by rw [← mixS_end]; exact hIi.out)
              have HNK := Lib.hid (HK7.out.trans hKi.out)
              have HCN := Lib.hid (cnt_take HST.out)
              clear hIi hKi
              go_wp2_with fail
              go_roundw
              case rel => exact ⟨t + 1, by omega, by go_num, congrArg (Value.int .i64) (by have := HCN.out; omega), HN, HNK, hBi⟩
              case measure => simp [intOf] <;> omega
      · obtain rfl : t = sz T := by omega
        have hti : decide ((sz T : Int) < (sz T : Int)) = false := by simp
        have HR := Lib.hid (show OrcR (ofTw T) w (.returned (.tuple #[.int .i64 (cntN T (sz T) : Int), .int .i64 0])) wo from ⟨_, 0, rfl, .inr ⟨T, rfl, HG.out, .inr ⟨rfl, h27, rfl⟩⟩, HBWr.out⟩)
        clear hIr hKr hB
        go_wp2_with fail
        exact bodyPost_ret (v := .tuple #[.int .i64 (cntN T (sz T) : Int), .int .i64 0]) (by simp [results, Tryz.results35, go_sem]) rfl HR.out
end Go.Proofs.YtabeedimnbkcgaaGreat.CoA

/-
  The look-up of a bool in a map that the call made; impl.CountOrbits.
-/
namespace Go.Proofs.YtabeedimnbkcgaaGreat.MapB
open Go Go.Maps
set_option linter.unusedVariables false
set_option linter.unusedSimpArgs false

theorem plainElem_bool_inv {H : Type} {P : Program} {e : TypeId} (he : P.underlying e = some .bool) {v : Value} {z : DataW H × List MemPlace} (h : plainElem P e v = some z) : ∃ x, v = .bool x ∧ z = (.lit (.bool x), []) := by
  unfold plainElem at h
  rw [he] at h
  cases v <;> simp at h
  exact ⟨_, rfl, h.symm⟩
/-- m[k] at elements of a kind of bool. -/
theorem wpList_lookup_own_bool {H : Type} {P : Program} (w : World) {ops : Array Oper} {rest : List Oper} {o : Oper} {a : Act} {Q : Exit → Act → World → Prop}
    (hg : o.guard = none) (m x : Operand) (t : TypeId) (hop : o.op = Op.lookup t m x false)
    (k e : TypeId) (K : Keyed P k) (ht : P.underlying t = some (.map k e)) (he : P.underlying e = some .bool) (hz : (zeroValue e).run P w = .ok (.bool false) w) (b n : Nat) (D : DataW H)
    (hm : a.eval m = .map (some b)) (hown : w.ownsMap P k (plainElem P e) b n D) (key : Value) (kl : Lit) (hx : a.eval x = key) (hkey : keyOf P k key = some kl)
    (hK : ∀ c : Bool, D.atKey kl (.lit (.bool false)) = .lit (.bool c) → wpList P ops Q rest (a.put o.dst (.bool c)) w) :
    wpList P ops Q (o :: rest) a w := by
  refine wpList_plain hg fun K' hK' => ?_
  obtain ⟨v, ps, hrun, hv⟩ := hown.lookup K ht hz (plainElem_bool he false) hkey
  obtain ⟨c, rfl, hc⟩ := plainElem_bool_inv he hv
  simp only [Prod.mk.injEq] at hc
  unfold Oper.wp
  simp [execOp, hop, hm, hx, hrun, Result.andThen]
  exact hK' _ _ (hK c hc.1)
end Go.Proofs.YtabeedimnbkcgaaGreat.MapB

namespace Go.Proofs.YtabeedimnbkcgaaGreat.CoB
open Go.RowKit Go.Maps Go.Proofs.YtabeedimnbkcgaaGreat Go.Proofs.YtabeedimnbkcgaaGreat.Tow Go.Proofs.YtabeedimnbkcgaaGreat.Val Go.Proofs.YtabeedimnbkcgaaGreat.NumT Go.Proofs.YtabeedimnbkcgaaGreat.SpecB Go.Proofs.YtabeedimnbkcgaaGreat.SpecR Go.Proofs.YtabeedimnbkcgaaGreat.LawE Go.Proofs.YtabeedimnbkcgaaGreat.LawF Go.Proofs.YtabeedimnbkcgaaGreat.FindA Go.Proofs.YtabeedimnbkcgaaGreat.FindD Go.Proofs.YtabeedimnbkcgaaGreat.OrbC Go.Proofs.YtabeedimnbkcgaaGreat.CoA
set_option linter.unusedVariables false
set_option linter.unusedSimpArgs false

theorem law : Keyed Tryz.prog 2 := int_keyed (q := .i64) Tryz.underlying2
theorem zeroB (w : World) : (zeroValue 4).run Tryz.prog w = .ok (.bool false) w := by kernel_rfl
/-- a map of marks -/
def MapM (w : World) (b n : Nat) (z : Nat) (f : Nat → Bool) : Prop := ∃ D : DataW Unit, w.ownsMap Tryz.prog 2 (plainElem Tryz.prog 4) b n D ∧ IsMap D ∧ ∀ k, k < z → D.atKey (.int .i64 (k : Int)) (.lit (.bool false)) = .lit (.bool (f k))
theorem MapM.made (w : World) (z : Nat) : MapM (w.alloc (.map #[] 0)) w.heap.size 0 z (fun _ => false) := ⟨.map [], World.ownsMap_made _ _ _ _, isMap_empty, fun k _ => rfl⟩
theorem MapM.kept {w w' : World} {b n z : Nat} {f : Nat → Bool} (h : MapM w b n z f) (hb : Below w.heap.size w w') : MapM w' b n z f := by
  obtain ⟨D, ⟨es, clock, hh, r⟩, h2, h3⟩ := h
  exact ⟨D, ⟨es, clock, (hb.block b (Array.getElem?_eq_some_iff.1 hh).1).trans hh, r⟩, h2, h3⟩
theorem MapM.lt {w : World} {b n z : Nat} {f : Nat → Bool} (h : MapM w b n z f) : b < w.heap.size := by
  obtain ⟨D, h1, _⟩ := h
  exact h1.lt
theorem MapM.notCells {w : World} {b n z : Nat} {f : Nat → Bool} (h : MapM w b n z f) {cs : Array Value} {t : TypeId} {fr : Nat × Nat} : w.heap[b]? ≠ some (.cells cs t fr) := by
  obtain ⟨D, ⟨es, clock, hh, r⟩, h2, h3⟩ := h
  rw [hh]
  simp
theorem MapM.fun_eq {w : World} {b n z : Nat} {f g : Nat → Bool} (h : MapM w b n z f) (e : ∀ k, k < z → f k = g k) : MapM w b n z g := by
  obtain ⟨D, h1, h2, h3⟩ := h
  exact ⟨D, h1, h2, fun k hk => by rw [h3 k hk, e k hk]⟩
theorem MapM.put {w' : World} {b n z q : Nat} {f : Nat → Bool} {D : DataW Unit} (h2 : IsMap D) (h3 : ∀ k, k < z → D.atKey (.int .i64 (k : Int)) (.lit (.bool false)) = .lit (.bool (f k)))
    (h1 : w'.ownsMap Tryz.prog 2 (plainElem Tryz.prog 4) b n (D.put (.int .i64 (q : Int)) (.lit (.bool true)))) : MapM w' b n z (fun k => f k || k == q) := by
  refine ⟨_, h1, h2.put _ _, fun k hk => ?_⟩
  by_cases e : k = q
  · subst e
    rw [atKey_put_same h2 (by trivial)]
    simp
  · rw [atKey_put_other (by simp; omega), h3 k hk]
    simp [e]
theorem row_map {w w' : World} {B n gI : Nat} {e : TypeId} {v : Value} {us : List Value} (h : w.ownsRow B e 1 v n us) (hk : Keep (fun k => k ≠ gI) w w') (hI : ∀ cs t fr, w.heap[gI]? ≠ some (.cells cs t fr)) : w'.ownsRow B e 1 v n us := by
  refine ⟨h.1, ?_⟩
  rcases h.2 with hn | ⟨g, cap, cur, rfl, hb, hgg, rest⟩
  · exact .inl hn
  · refine .inr ⟨g, cap, cur, rfl, hb, ?_, rest⟩
    rw [hk.block g (fun hg => ?_) (Array.getElem?_eq_some_iff.1 hgg).1]
    · exact hgg
    · subst hg
      exact hI _ _ _ hgg
theorem own2_map {w w' : World} {B gI : Nat} {e2 e : TypeId} {v : Value} {rows : List (List Nat)} (h : Own2 e2 e B w v rows) (hk : Keep (fun k => k ≠ gI) w w') (hI : ∀ cs t fr, w.heap[gI]? ≠ some (.cells cs t fr)) : Own2 e2 e B w' v rows := by
  obtain ⟨us, h1, h2, h4⟩ := h
  exact ⟨us, row_map h1 hk hI, h2, fun i r u hr hu => ⟨(h4 i r u hr hu).1, row_map (h4 i r u hr hu).2 hk hI⟩⟩
/-- the numbers of a list, taken one by one -/
noncomputable def umk (T : Tw) (t : Nat) (l : List Nat) (k : Nat) : Bool := seenN T t k || decide (k ∈ l)
theorem umk_nil (T : Tw) (t : Nat) : umk T t [] = seenN T t := by funext k; simp [umk]
theorem umk_snoc (T : Tw) (t : Nat) (l : List Nat) (q k : Nat) : (umk T t l k || k == q) = umk T t (l ++ [q]) k := by
  rw [Bool.eq_iff_iff]
  simp [umk, or_assoc]
theorem umk_all {T : Tw} {t : Nat} (h : seenN T t t = false) (k : Nat) (hk : k < sz T) : umk T t (nums (orb T (at_ T t)) (sz T)) k = seenN T (t + 1) k := by
  rw [seen_take h, umk, Bool.eq_iff_iff]
  simp [nums, hk]
theorem nums_lt {p : Nat → Bool} {n t : Nat} (h : t ∈ nums p n) : t < n := List.mem_range.1 (List.mem_filter.1 h).1

set_option maxRecDepth 100000 in
set_option maxHeartbeats 4000000 in
theorem impl_co (w : World) (vO vP vC : Value) (P : Pres) (hP : ValP Any w vO vP vC P) :
    Calls Tryz.prog 36 #[.agg #[vO, vP, vC]] w (OrcR P w) := by
  obtain ⟨W0, hW0⟩ : ∃ W0, W0 = w.alloc (.cells #[vO, vP, vC] 30) := ⟨_, rfl⟩
  have HB0 := Lib.hid (show Below (w.heap.size + 1) (w.alloc (.cells #[vO, vP, vC] 30)) W0 by rw [hW0]; exact Below.refl _ _)
  obtain ⟨⟨e0, e1, e2⟩, hk, hbw, hs⟩ := bx1 HB0.out
  have HPT := Lib.hid (show PtrP Any W0 w.heap.size 0 P from ⟨trivial, by omega, _, _, _, e0, e1, e2, hP.keep hk⟩)
  have HC := Lib.hid (ImplY.isomorphisms_any W0 w.heap.size 0 w.heap.size 0 P P HPT.out HPT.out)
  have HBW := Lib.hid hbw
  have HSS := Lib.hid hs
  have hmm := @run_makeMap Tryz.prog
  clear e0 e1 e2 hk hbw hs hP
  go_enter Tryz.func36, Tryz.ntmps36
  go_upto_region 1 with fail
  rw [← hW0]
  clear hW0
  go_wp2_with fail
  refine HC.out.mono ?_
  rintro e w1 ⟨v, k, rfl, hb, h⟩
  have HB1 := Lib.hid (HB0.out.trans (hb.mono HSS.out))
  have HK1 := Lib.hid (Keep.of_below (S := Any) hb)
  have HBW1 := Lib.hid (bx1 HB1.out).2.2.1
  clear hb
  rcases h with ⟨rfl, rfl, h⟩ | ⟨T, U, hTE, hUE, gP, -, h⟩
  · have HR := Lib.hid (show OrcR P w (.returned (.tuple #[.int .i64 0, .int .i64 1])) w1 from ⟨0, 1, rfl, .inl ⟨rfl, rfl, fun h' => h ⟨h', h'⟩⟩, HBW1.out⟩)
    clear h
    go_wp2_with fail
    exact bodyPost_ret (v := .tuple #[.int .i64 0, .int .i64 1]) (by simp [results, Tryz.results36, go_sem]) rfl HR.out
  subst hTE
  obtain rfl : T = U := Grps.ofTw_inj hUE
  clear hUE
  rcases h with ⟨rfl, rfl, h⟩ | ⟨rfl, rfl, h1, h2, h3⟩ | ⟨rfl, h1, h2, F, hperm, hasc, ho⟩
  · have HR := Lib.hid (show OrcR (ofTw T) w (.returned (.tuple #[.int .i64 0, .int .i64 3])) w1 from ⟨0, 3, rfl, .inr ⟨T, rfl, gP, .inl ⟨rfl, rfl, by omega⟩⟩, HBW1.out⟩)
    clear h gP
    go_wp2_with fail
    exact bodyPost_ret (v := .tuple #[.int .i64 0, .int .i64 3]) (by simp [results, Tryz.results36, go_sem]) rfl HR.out
  · exact absurd rfl h3
  · obtain ⟨aF, cF, rfl, _, _⟩ := ho.form
    obtain ⟨hT, hsT, hgT, hpT⟩ := SpecX.grp_parts gP
    have hF9 : F.length ≤ 1000000000 := by
      have h6 : 27 ^ T.length ≤ 27 ^ 6 := Nat.pow_le_pow_right (by omega) hsT.1
      have hgl := Grow.grow_length T T h2 T.length []
      rw [hperm.length_eq]
      omega
    have HGP := Lib.hid gP
    have HTT := Lib.hid hT
    have HO := Lib.hid ho
    have HOO := Lib.hid (fun B W vx x q1 q2 q3 q4 => OrbE.orbitOf_any T hT hsT hgT h2 B W w.heap.size 0 q1 (.slice aF F.length cF) vx F x q2 hperm q3 q4 hF9)
    have HAE := Lib.hid (fun W hp => ImplO.all_any T hT hsT.1 (by omega) W w.heap.size 0 hp)
    have HNM := Lib.hid (fun W vx x h1 h2 h3 => ImplN.number_any T hT hsT.1 (by omega) W w.heap.size 0 vx x h1 h2 h3)
    have HP1 := Lib.hid (ImplY.PtrP.strong (HPT.out.keep HK1.out))
    clear hperm hasc ho gP hT hsT hgT hpT h1 HC
    go_upto_region 6 with fail
    obtain ⟨gm, hgm⟩ : ∃ gm, w1.heap.size = gm := ⟨_, rfl⟩
    obtain ⟨w2, hw2⟩ : ∃ w2, w2 = w1.alloc (.map #[] 0) := ⟨_, rfl⟩
    rw [← hw2]
    have HM2 := Lib.hid (show MapM w2 gm 0 (sz T) (seenN T 0) from by rw [hw2, ← hgm]; exact MapM.made w1 (sz T))
    have hb2 : Below w1.heap.size w1 w2 := by rw [hw2]; exact (Below.refl _ _).alloc (Nat.le_refl _) _
    have HB2 := Lib.hid (HB1.out.trans (hb2.mono (bx1 HB1.out).2.2.2))
    have HP2 := Lib.hid (show PtrP (fun k => k ≠ gm) w2 w.heap.size 0 (ofTw T) from (HP1.out.keep (Keep.of_below hb2)).mono (fun k hk => by rw [← hgm]; omega))
    have HO2 := Lib.hid (HO.out.of_below hb2)
    have HGW := Lib.hid (show w.heap.size + 1 ≤ gm by rw [← hgm]; exact (bx1 HB1.out).2.2.2)
    simp only [hgm]
    clear hw2 hgm hb2
    have HAA := Lib.hid (HAE.out w2 (HP2.out.mono (fun _ _ => trivial)))
    go_wp2_with fail
    refine HAA.out.mono ?_
    rintro e w3 ⟨v3, rfl, ho3, hb3⟩
    have HB3 := Lib.hid (HB2.out.trans (hb3.mono (bx1 HB2.out).2.2.2))
    have HM3 := Lib.hid (HM2.out.kept hb3)
    have HP3 := Lib.hid (HP2.out.keep (Keep.of_below hb3))
    have HO3 := Lib.hid (HO2.out.of_below hb3)
    obtain ⟨aE, cE, rfl, _, _⟩ := ho3.form
    rw [ImplO.allE_length] at ho3 ⊢
    have HE3 := Lib.hid ho3
    clear ho3 hb3 HAA HB2 HM2 HP2 HO2
    go_wp2_with fail
    go_loopw [6, 22] (fun cv tv wr => ∃ t : Nat, t ≤ sz T ∧ tv = .int .i64 (t : Int) ∧ cv = .int .i64 (cntN T t : Int) ∧ Hid (∃ n, n ≤ 27 * t ∧ MapM wr gm n (sz T) (seenN T t)) ∧ Hid (Keep (fun k => k ≠ gm) w3 wr) ∧ Hid (Below (w.heap.size + 1) (w.alloc (.cells #[vO, vP, vC] 30)) wr)) (fun _ tv _ => sz T - (intOf tv).toNat)
    case atStart => exact ⟨0, Nat.zero_le _, rfl, rfl, Lib.hid ⟨0, by omega, HM3.out⟩, Lib.hid (Keep.refl _ _), HB3⟩
    case round =>
      obtain ⟨t, ht, rfl, rfl, hMr, hKr, hB⟩ := hrel
      rename World => wo
      have HBWr := Lib.hid (bx1 hB.out).2.2.1
      by_cases hlt : t < sz T
      · have hti : decide ((t : Int) < (sz T : Int)) = true := by simp; omega
        have ht0 : (0 : Int) ≤ (t : Int) := by omega
        have ht1 : (t : Int) < (sz T : Int) := by omega
        obtain ⟨n, hn, hM⟩ := hMr.out
        have HEr := Lib.hid (own2_map HE3.out hKr.out (fun _ _ _ => HM3.out.notCells))
        obtain ⟨g, cap, u, e1, _, hgl, hcx, hrow⟩ := HEr.out.at (i := t) (r := at_ T t) (by unfold ImplO.allE; simp [hlt])
        rw [ImplO.allE_length] at e1
        simp only [Value.slice.injEq] at e1
        obtain ⟨rfl, -, rfl⟩ := e1
        have HPr := Lib.hid ((HP3.out.keep hKr.out).mono (S' := Any) (fun _ _ => trivial))
        have HUr := Lib.hid (hrow.sl.mono (S' := Any) (fun _ _ => trivial))
        have HNN := Lib.hid (show Calls Tryz.prog 70 #[.pointer (some ⟨w.heap.size, 0, none⟩), u] wo (ImplN.IntR t wo) from by
          have h := HNM.out wo u (at_ T t) HPr.out HUr.out (at_El HTT.out t)
          rwa [num_at, Nat.mod_eq_of_lt hlt] at h)
        obtain ⟨D, hD1, hD2, hD3⟩ := hM
        have HD1 := Lib.hid hD1
        have HD3 := Lib.hid (hD3 t hlt)
        have HMM := Lib.hid (show MapM wo gm n (sz T) (seenN T t) from ⟨D, hD1, hD2, hD3⟩)
        have HNB := Lib.hid hn
        clear hrow hD1 hD3 hMr hn
        cases hst : seenN T t t with
        | true =>
          rw [hst] at HD3
          have HST := Lib.hid hst
          clear hst
          go_wp2_with fail
          refine HNN.out.mono ?_
          rintro e w4 ⟨rfl, hb4⟩
          have HB4 := Lib.hid (hB.out.trans (hb4.mono (bx1 hB.out).2.2.2))
          have HK4 := Lib.hid (hKr.out.trans (Keep.of_below (S := fun k => k ≠ gm) hb4))
          have HM4 := Lib.hid (HMM.out.kept hb4)
          have hD4 : w4.ownsMap Tryz.prog 2 (plainElem Tryz.prog 4) gm n D := by
            obtain ⟨es, clock, hh, r⟩ := HD1.out
            exact ⟨es, clock, (hb4.block gm (Array.getElem?_eq_some_iff.1 hh).1).trans hh, r⟩
          have HP4 := Lib.hid (HPr.out.keep (Keep.of_below hb4))
          have HU4 := Lib.hid (HUr.out.keep (Keep.of_below hb4))
          clear hb4 hB hKr
          go_wp2_with (at_lookup; refine MapB.wpList_lookup_own_bool _ rfl _ _ 80 rfl 2 4 law Tryz.underlying80 Tryz.underlying4 (zeroB _) gm n D rfl hD4 _ _ rfl (keyOf_int_mk Tryz.underlying2 (WalkArith.wf_i64 (by omega))) ?_; intro c hat; obtain rfl : c = true := (by have h := HD3.out; rw [h] at hat; simpa using hat.symm))
          have HN := Lib.hid (show ∃ n, n ≤ 27 * (t + 1) ∧ MapM w4 gm n (sz T) (seenN T (t + 1)) from ⟨n, by have := HNB.out; omega, by rw [seen_skip HST.out]; exact HM4.out⟩)
          have HCN := Lib.hid (cnt_skip HST.out)
          clear hD4
          go_roundw
          case rel => exact ⟨t + 1, by omega, by go_num, by rw [HCN.out], HN, HK4, HB4⟩
          case measure => simp [intOf] <;> omega
        | false =>
          rw [hst] at HD3
          have HST := Lib.hid hst
          clear hst
          go_wp2_with fail
          refine HNN.out.mono ?_
          rintro e w4 ⟨rfl, hb4⟩
          have HB4 := Lib.hid (hB.out.trans (hb4.mono (bx1 hB.out).2.2.2))
          have HK4 := Lib.hid (hKr.out.trans (Keep.of_below (S := fun k => k ≠ gm) hb4))
          have HM4 := Lib.hid (HMM.out.kept hb4)
          have hD4 : w4.ownsMap Tryz.prog 2 (plainElem Tryz.prog 4) gm n D := by
            obtain ⟨es, clock, hh, r⟩ := HD1.out
            exact ⟨es, clock, (hb4.block gm (Array.getElem?_eq_some_iff.1 hh).1).trans hh, r⟩
          have HP4 := Lib.hid (HPr.out.keep (Keep.of_below hb4))
          have HU4 := Lib.hid (HUr.out.keep (Keep.of_below hb4))
          clear hb4 hB hKr
          go_upto_region 10 with (at_lookup; refine MapB.wpList_lookup_own_bool _ rfl _ _ 80 rfl 2 4 law Tryz.underlying80 Tryz.underlying4 (zeroB _) gm n D rfl hD4 _ _ rfl (keyOf_int_mk Tryz.underlying2 (WalkArith.wf_i64 (by omega))) ?_; intro c hat; obtain rfl : c = false := (by have h := HD3.out; rw [h] at hat; simpa using hat.symm))
          have HCL := Lib.hid (cnt_le T t)
          have hc27 : (cntN T t : Int) ≤ 27 := by have := HCL.out; omega
          have HF4 := Lib.hid (own2_map HO3.out HK4.out (fun _ _ _ => HM3.out.notCells))
          have HCO := Lib.hid (HOO.out _ w4 u (at_ T t) HP4.out HF4.out HU4.out (at_El HTT.out t))
          clear hD4
          go_wp2_with fail
          refine HCO.out.mono ?_
          rintro e w5 ⟨v5, rfl, ⟨L, hL, hLr, -⟩, hb5⟩
          have HB5 := Lib.hid (HB4.out.trans (hb5.mono (bx1 HB4.out).2.2.2))
          have HK5 := Lib.hid (HK4.out.trans (Keep.of_below (S := fun k => k ≠ gm) hb5))
          have HM5 := Lib.hid (HM4.out.kept hb5)
          have HP5 := Lib.hid (HP3.out.keep HK5.out)
          obtain ⟨Q, hQ⟩ : ∃ Q, nums (orb T (at_ T t)) (sz T) = Q := ⟨_, rfl⟩
          rw [hQ] at hLr
          obtain ⟨m, hm⟩ : ∃ m, L.length = m := ⟨_, rfl⟩
          have hqm : Q.length = m := by
            have := congrArg List.length hLr
            rw [List.length_map, List.length_map] at this
            omega
          have hm27 : m ≤ 27 := by have := nums_length (orb T (at_ T t)) (sz T); rw [hQ, hqm] at this; omega
          have HQL := Lib.hid (show ∀ q ∈ Q, q < sz T from fun q hq => by rw [← hQ] at hq; exact nums_lt hq)
          have HQE := Lib.hid hQ
          have HQM := Lib.hid hqm
          have HL5 := Lib.hid hL
          have HLR := Lib.hid hLr
          have HG4 := Lib.hid HM4.out.lt
          have HLM := Lib.hid hm
          obtain ⟨a5, c5, rfl, _, _, _⟩ := hL.form
          rw [hm]
          clear hL hLr hb5 hQ hqm hm HB4 HK4 HM4 HP4 HU4 HF4 HCO
          go_wp2_with fail
          go_loopw [36] (fun jv wi => ∃ j : Nat, j ≤ m ∧ jv = .int .i64 (j : Int) ∧ Hid (∃ n', n' ≤ n + j ∧ MapM wi gm n' (sz T) (umk T t (Q.take j))) ∧ Hid (Keep (fun k => k ≠ gm) w5 wi) ∧ Hid (Below (w.heap.size + 1) (w.alloc (.cells #[vO, vP, vC] 30)) wi)) (fun jv _ => m - (intOf jv).toNat)
          case atStart => exact ⟨0, Nat.zero_le _, rfl, Lib.hid ⟨n, Nat.le_refl _, by rw [List.take_zero, umk_nil]; exact HM5.out⟩, Lib.hid (Keep.refl _ _), HB5⟩
          case round =>
            obtain ⟨j, hj, rfl, hMi, hKi, hBi⟩ := hrel
            by_cases hjl : j < m
            · have hji : decide ((j : Int) < (m : Int)) = true := by simp; omega
              have hj0 : (0 : Int) ≤ (j : Int) := by omega
              have hj1 : (j : Int) < (m : Int) := by omega
              obtain ⟨q, hq⟩ : ∃ q, Q[j]? = some q := ⟨_, List.getElem?_eq_getElem (by have := HQM.out; omega)⟩
              have hqz := HQL.out q (List.mem_of_getElem? hq)
              have HLi := Lib.hid (show Sl2 Any wr (.slice a5 m c5) (Q.map fun t => ints (at_ T t)) from by
                have h := Rows2.sl2 (FindD.OwnE.keepS HL5.out hKi.out (fun k hk => by have := HG4.out; omega)).rows
                rwa [HLR.out, HLM.out] at h)
              obtain ⟨bL, oL, y, rfl, _, hbl, hcy, hys⟩ := SlG.get HLi.out (k := j) (x := ints (at_ T q)) (by rw [List.getElem?_map, hq]; rfl)
              have HYS := Lib.hid hys
              have HNQ := Lib.hid (show Calls Tryz.prog 70 #[.pointer (some ⟨w.heap.size, 0, none⟩), y] wr (ImplN.IntR q wr) from by
                have h := HNM.out wr y (at_ T q) ((HP5.out.keep hKi.out).mono (fun _ _ => trivial)) hys (at_El HTT.out q)
                rwa [num_at, Nat.mod_eq_of_lt hqz] at h)
              obtain ⟨n', hn', D', hD1', hD2', hD3'⟩ := hMi.out
              have HD1' := Lib.hid hD1'
              have HD3' := Lib.hid hD3'
              have HNB' := Lib.hid hn'
              have HTK := Lib.hid (take_succ hq)
              clear hys hMi hq hn' hD1' hD3'
              go_wp2_with fail
              refine HNQ.out.mono ?_
              rintro e w6 ⟨rfl, hb6⟩
              have HB6 := Lib.hid (hBi.out.trans (hb6.mono (bx1 hBi.out).2.2.2))
              have HK6 := Lib.hid (hKi.out.trans (Keep.of_below (S := fun k => k ≠ gm) hb6))
              have hD6 : w6.ownsMap Tryz.prog 2 (plainElem Tryz.prog 4) gm n' D' := by
                obtain ⟨es, clock, hh, r⟩ := HD1'.out
                exact ⟨es, clock, (hb6.block gm (Array.getElem?_eq_some_iff.1 hh).1).trans hh, r⟩
              clear hb6 hBi hKi hcy
              go_wp2_with (at_mapUpdate; refine wpList_mapUpdate_own _ rfl _ _ _ 80 rfl 2 4 law Tryz.underlying80 _ gm n' D' rfl hD6 (by have := HNB'.out; have := HNB.out; unfold maxLen; omega) _ _ _ rfl rfl (keyOf_int_mk Tryz.underlying2 (WalkArith.wf_i64 (by omega))) _ [] (plainElem_bool Tryz.underlying4 true) ?_; intro w7 hown7 hgrow7)
              have HN := Lib.hid (show ∃ n'', n'' ≤ n + (j + 1) ∧ MapM w7 gm n'' (sz T) (umk T t (Q.take (j + 1))) from ⟨n' + 1, by have := HNB'.out; omega, MapM.fun_eq (MapM.put hD2' HD3'.out hown7) (fun k _ => by rw [umk_snoc, HTK.out])⟩)
              have HK7 := Lib.hid (HK6.out.trans (Keep.grown (S := fun k => k ≠ gm) hgrow7 (fun k hk => by simpa using hk)))
              have HB7 := Lib.hid (HB6.out.grown hgrow7 (bx1 HB6.out).2.2.2 (fun g hg => by cases hg; exact HGW.out))
              clear hown7 hgrow7 hD6
              go_wp2_with fail
              go_roundw
              case rel => exact ⟨j + 1, by omega, by go_num, HN, HK7, HB7⟩
              case measure => simp [intOf] <;> omega
            · obtain rfl : j = m := by omega
              have hji : decide ((j : Int) < (j : Int)) = false := by simp
              have HN := Lib.hid (show ∃ n, n ≤ 27 * (t + 1) ∧ MapM wr gm n (sz T) (seenN T (t + 1)) from by
                obtain ⟨n', hn', h⟩ := hMi.out
                have h1 := HNB.out
                refine ⟨n', by omega, h.fun_eq (fun k hk => ?_)⟩
                rw [← HQM.out, List.take_length, ← HQE.out]
                exact umk_all HST.out k hk)
              have HNK := Lib.hid (HK5.out.trans hKi.out)
              have HCN := Lib.hid (cnt_take HST.out)
              clear hMi hKi
              go_wp2_with fail
              go_roundw
              case rel => exact ⟨t + 1, by omega, by go_num, congrArg (Value.int .i64) (by have := HCN.out; omega), HN, HNK, hBi⟩
              case measure => simp [intOf] <;> omega
      · obtain rfl : t = sz T := by omega
        have hti : decide ((sz T : Int) < (sz T : Int)) = false := by simp
        have HR := Lib.hid (show OrcR (ofTw T) w (.returned (.tuple #[.int .i64 (cntN T (sz T) : Int), .int .i64 0])) wo from ⟨_, 0, rfl, .inr ⟨T, rfl, HGP.out, .inr ⟨rfl, h2, rfl⟩⟩, HBWr.out⟩)
        clear hMr hKr hB
        go_wp2_with fail
        exact bodyPost_ret (v := .tuple #[.int .i64 (cntN T (sz T) : Int), .int .i64 0]) (by simp [results, Tryz.results36, go_sem]) rfl HR.out
end Go.Proofs.YtabeedimnbkcgaaGreat.CoB

/-
  The law FnExactCountOrbits, walked.
-/
namespace Go.Proofs.YtabeedimnbkcgaaGreat.CoC
open Go.RowKit Go.Proofs.YtabeedimnbkcgaaGreat Go.Proofs.YtabeedimnbkcgaaGreat.Tow Go.Proofs.YtabeedimnbkcgaaGreat.SpecB Go.Proofs.YtabeedimnbkcgaaGreat.LawB Go.Proofs.YtabeedimnbkcgaaGreat.LawC Go.Proofs.YtabeedimnbkcgaaGreat.LawD Go.Proofs.YtabeedimnbkcgaaGreat.LawE Go.Proofs.YtabeedimnbkcgaaGreat.LawF
set_option linter.unusedVariables false
set_option linter.unusedSimpArgs false

set_option maxRecDepth 100000 in
set_option maxHeartbeats 2000000 in
theorem law_any (w : World) (pO pP pC : Value) (P : Pres) (hP : ValP Any w pO pP pC P) :
    Calls Tryz.prog 8 #[.agg #[pO, pP, pC]] w fun e w' => e = .returned (.bool true) ∧ Below w.heap.size w w' := by
  have HP := Lib.hid hP
  have HSZ := Lib.hid (fun W h => (szP_any W pO pP pC P h 1048576 (by omega) : Calls Tryz.prog 12 #[.agg #[pO, pP, pC], .int .i64 1048576] W (SzPR 1048576 (BP 1048576 P) W)))
  have HTO := Lib.hid (fun W h hl => toP_any W pO pP pC P h hl)
  have HQ1 := Lib.hid (fun (n k n' k' : Int) (h : CoA.OrcV P n k) (h' : CoA.OrcV P n' k') => CoA.orc_one h h')
  obtain ⟨W0, hW0⟩ : ∃ W0, W0 = w.alloc (.cells #[pO, pP, pC] 26) := ⟨_, rfl⟩
  have HB0 := Lib.hid (show Below (w.heap.size + 1) (w.alloc (.cells #[pO, pP, pC] 26)) W0 by rw [hW0]; exact Below.refl _ _)
  clear hP
  go_enter Tryz.func8, Tryz.ntmps8
  go_upto_region 1 with fail
  rw [← hW0]
  clear hW0
  obtain ⟨⟨e0, e1, e2⟩, hk0, hbw0, hs0⟩ := bx1 HB0.out
  go_wp2_with fail
  refine (HSZ.out _ (HP.out.keep hk0)).mono ?_
  rintro e w1 ⟨⟨r, rfl, hr⟩, hb1⟩
  have HB1 := Lib.hid (HB0.out.trans (hb1.mono hs0))
  have HBW1 := Lib.hid (bx1 HB1.out).2.2.1
  clear e0 e1 e2 hk0 hbw0 hs0 hb1
  rcases hr with rfl | ⟨m, rfl, hm, hBP⟩
  · go_wp2_with fail
    go_ret
    exact ⟨rfl, HBW1.out⟩
  have HBP := Lib.hid hBP
  have hm0 : decide ((m : Int) < 0) = false := by simp
  clear hBP hm
  obtain ⟨⟨e0, e1, e2⟩, hk1, hbw1, hs1⟩ := bx1 HB1.out
  go_wp2_with fail
  refine (HTO.out _ (HP.out.keep hk1) HBP.out).mono ?_
  rintro e w2 ⟨vO, vP, vC, rfl, hV, hb2⟩
  have HB2 := Lib.hid (HB1.out.trans (hb2.mono hs1))
  have HV := Lib.hid (hV.mono (fun _ _ => trivial) : ValP Any w2 vO vP vC P)
  clear e0 e1 e2 hk1 hbw1 hs1 hb2 hV
  go_wp2_with fail
  refine (CoA.spec_co _ vO vP vC P HV.out).mono ?_
  rintro e w3 ⟨n, k, rfl, hc, hb3⟩
  have HC := Lib.hid hc
  have HB3 := Lib.hid (HB2.out.trans (hb3.mono (bx1 HB2.out).2.2.2))
  clear hc hb3 HV
  obtain ⟨⟨e0, e1, e2⟩, hk3, hbw3, hs3⟩ := bx1 HB3.out
  go_wp2_with fail
  refine (HTO.out _ (HP.out.keep hk3) HBP.out).mono ?_
  rintro e w4 ⟨xO, xP, xC, rfl, hV, hb4⟩
  obtain ⟨aO, cO, rfl, _, _⟩ := SlG.form hV.os
  obtain ⟨aP, cP, rfl, _, _⟩ := SlG.form hV.ps
  obtain ⟨aC, cC, rfl, _, _⟩ := SlG.form hV.cs
  have HB4 := Lib.hid (HB3.out.trans (hb4.mono hs3))
  have HX := Lib.hid (hV.mono (fun _ _ => trivial) : ValP Any w4 (.slice aO P.os.length cO) (.slice aP P.ps.length cP) (.slice aC P.cs.length cC) P)
  clear e0 e1 e2 hk3 hbw3 hs3 hb4 hV
  go_upto_region 7 with fail
  obtain ⟨g, hg⟩ : ∃ g, w4.heap.size = g := ⟨_, rfl⟩
  obtain ⟨W5, hW5⟩ : ∃ W5, W5 = w4.alloc (.cells #[.slice aO P.os.length cO, .slice aP P.ps.length cP, .slice aC P.cs.length cC] 30) := ⟨_, rfl⟩
  rw [← hW5]
  have G5 : W5.heap[g]? = some (.cells #[.slice aO P.os.length cO, .slice aP P.ps.length cP, .slice aC P.cs.length cC] 30 (0, 0)) := by rw [hW5, ← hg]; exact new_blk
  have HS5 := Lib.hid (show W5.heap.size = g + 1 by rw [hW5, ← hg]; simp)
  have HB5 := Lib.hid (show Below (w.heap.size + 1) (w.alloc (.cells #[pO, pP, pC] 26)) W5 by rw [hW5]; exact HB4.out.alloc (bx1 HB4.out).2.2.2 _)
  have HX5 := Lib.hid (show ValP Any W5 _ _ _ P by rw [hW5]; exact HX.out.keep ((Keep.refl _ _).alloc _))
  simp only [hg]
  clear hW5 hg
  obtain ⟨⟨x0, x1, x2⟩, _⟩ := row3 G5
  go_wp2_with fail
  refine (CoB.impl_co _ _ _ _ P HX5.out).mono ?_
  rintro e w6 ⟨n', k', rfl, hc, hb6⟩
  obtain ⟨rfl, rfl⟩ := HQ1.out _ _ _ _ HC.out hc
  have HB6 := Lib.hid (HB5.out.trans (hb6.mono (bx1 HB5.out).2.2.2))
  have HX6 := Lib.hid (HX5.out.keep (Keep.of_below hb6))
  have G6 : w6.heap[g]? = some (.cells #[.slice aO P.os.length cO, .slice aP P.ps.length cP, .slice aC P.cs.length cC] 30 (0, 0)) := blk hb6 (by rw [HS5.out]; omega) G5
  have hg6 : g < w6.heap.size := (Array.getElem?_eq_some_iff.1 G6).1
  clear hc hb6 x0 x1 x2 G5 HX HB4 HB3 HB2 HB1 HB0 HX5 HS5 HQ1 HC
  obtain ⟨⟨x0, x1, x2⟩, _⟩ := row3 G6
  obtain ⟨⟨e0, e1, e2⟩, hk6, hbw6, hs6⟩ := bx1 HB6.out
  have HP6 := Lib.hid (HP.out.keep hk6)
  have hw6 : w.heap.size < w6.heap.size := by omega
  have n1 : (n' != n') = false := by simp
  have n2 : (k' != k') = false := by simp
  clear G6 hk6 hbw6
  go_wp2_with fail
  go_region_held3 (fun w' => (∀ b o, b < w6.heap.size → w'.cell? ⟨b, o, none⟩ = w6.cell? ⟨b, o, none⟩) ∧ Keep (fun _ => True) w6 w')
    (first | exact ks_mk (by repeat (first | exact (Keep.refl _ _).drew | exact Keep.refl _ _ | refine Keep.drewN ?_ _ | refine Keep.trans ?_ (Keep.of_below (by assumption)))))
    (first | (go_at_call 14; refine (HTO.out _ (HP6.out.keep (by repeat (first | exact (Keep.refl _ _).drew | exact Keep.refl _ _ | exact (Keep.refl _ _).alloc _ | exact ((Keep.refl _ _).alloc _).drew | refine Keep.drewN ?_ _ | refine Keep.trans ?_ (Keep.of_below (by assumption))))) HBP.out).mono ?_; rintro e w7 ⟨yO, yP, yC, rfl, hV7, hb7⟩) | (go_at_call 16; refine (eqP_any _ _ _ _ yO yP yC P P (HX6.out.keep (by repeat (first | exact (Keep.refl _ _).drew | exact Keep.refl _ _ | exact (Keep.refl _ _).alloc _ | exact ((Keep.refl _ _).alloc _).drew | refine Keep.drewN ?_ _ | refine Keep.trans ?_ (Keep.of_below (by assumption))))) ((hV7.mono (fun _ _ => trivial)).keep (by repeat (first | exact (Keep.refl _ _).drew | exact Keep.refl _ _ | exact (Keep.refl _ _).alloc _ | exact ((Keep.refl _ _).alloc _).drew | refine Keep.drewN ?_ _ | refine Keep.trans ?_ (Keep.of_below (by assumption)))))).mono ?_; rintro e w8 ⟨b, rfl, hbt, hb8⟩; obtain rfl : b = true := hbt.2 rfl))
  have HB7 := Lib.hid ((HB6.out.drew).trans (hb7.mono hs6))
  have HB8 := Lib.hid (HB7.out.trans (hb8.mono (bx1 HB7.out).2.2.2))
  have HBW8 := Lib.hid (bx1 HB8.out).2.2.1
  clear hV7 hb7 hbt hb8 x0 x1 x2 e0 e1 e2
  go_wp2_with fail
  go_ret
  exact ⟨rfl, HBW8.out⟩
theorem walk (pO pP pC : Value) (P : Pres) (w : World) (hP : ValP Any w pO pP pC P) :
    Calls Tryz.prog 8 #[.agg #[pO, pP, pC]] w fun e w' => e = .returned (.bool true) ∧ Below w.heap.size w w' := law_any w pO pP pC P hP
end Go.Proofs.YtabeedimnbkcgaaGreat.CoC

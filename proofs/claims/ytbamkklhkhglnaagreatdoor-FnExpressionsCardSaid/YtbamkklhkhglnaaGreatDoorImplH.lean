import Derived.Test.YtbamkklhkhglnaaGreatDoorImplG
import Derived.Laws.ResultCell
namespace Go.Proofs.YtbamkklhkhglnaaGreatDoor.ImplH
open Go.RowKit Go.Proofs.YtbamkklhkhglnaaGreatDoor Go.Proofs.YtbamkklhkhglnaaGreatDoor.Tow Go.Proofs.YtbamkklhkhglnaaGreatDoor.TowD Go.Proofs.YtbamkklhkhglnaaGreatDoor.ImplB Go.Proofs.YtbamkklhkhglnaaGreatDoor.ImplC Go.Proofs.YtbamkklhkhglnaaGreatDoor.ImplD Go.Proofs.YtbamkklhkhglnaaGreatDoor.ImplE Go.Proofs.YtbamkklhkhglnaaGreatDoor.ImplF Go.Proofs.YtbamkklhkhglnaaGreatDoor.ImplG
set_option linter.unusedVariables false
set_option linter.unusedSimpArgs false

/-- a level is held against its conditions -/
def LvRes (p : Prop) (w : World) (e : Ending) (w' : World) : Prop := ∃ k l a b : Int, e = .returned (.agg #[.int .i64 k, .int .i64 l, .int .i64 a, .int .i64 b]) ∧ ((k = 0 ∧ l = 0 ∧ a = 0 ∧ b = 0) ↔ p) ∧ Below w.heap.size w w'

theorem box1 {w wr : World} {t2 : TypeId} {d : Array Value} (hb : Below (w.heap.size + 1) (w.alloc (.cells d t2)) wr) :
    wr.heap[w.heap.size]? = some (.cells d t2) ∧ Keep (fun _ => True) w wr ∧ Below w.heap.size w wr ∧ w.heap.size + 1 ≤ wr.heap.size := by
  have hs := hb.size
  simp at hs
  refine ⟨?_, keep_boxed hb _, below_unboxed hb, by omega⟩
  rw [hb.block w.heap.size (by omega)]
  exact heap_alloc_new w (.cells d t2)

set_option maxRecDepth 100000 in
set_option maxHeartbeats 40000000 in
theorem fault_any (T : Tw) (hT : Wf T) (hs : Small T) (i : Nat) (L : Lv) (hL : T[i]? = some L) (hg : Tow.Good (T.drop (i + 1))) (w : World) (b o : Nat) (hP : PtrP Any w b o (ofTw T)) :
    Calls Tryz.prog 130 #[.pointer (some ⟨b, o, none⟩), .int .i64 (i : Int)] w (LvRes (LvOk L (T.drop (i + 1))) w) := by
  have hi : i < T.length := (List.getElem?_eq_some_iff.1 hL).1
  have hs6 := hs.1
  have HK := Lib.hid (lvl' hT hL)
  have HP := Lib.hid hP
  obtain ⟨_, hbl, vO, vP, vC, hp0, hp1, hp2, hV⟩ := hP
  obtain ⟨aO, cO, aP, cP, aC, cC, rfl, rfl, rfl, hO1, hP1, hC1⟩ := hV.open
  have hw := Wf_drop hT i
  rw [drop_cons' hL] at hw
  have HIF := Lib.hid (lvOk_iff hw hg)
  obtain ⟨bC, oC, a2, c2, rfl, _, hbC, hcC, h21, hC4⟩ := hV.con hL
  obtain ⟨bO, oO, rfl, _, hbO, hcOi⟩ := hV.ord hL
  obtain ⟨bP, oP, uW, rfl, _, hbP, hcPi, huW⟩ := hV.pow hL
  have hcl : L.c.length = T.length - (i + 1) := HK.out.2.1
  have ho7i : L.o ≤ 7 := hs.2 L (List.mem_of_getElem? hL)
  have HV := Lib.hid hV
  have HPP := Lib.hid (And.intro hp0 (And.intro hp1 hp2))
  have HL := Lib.hid hL
  have HGR := Lib.hid (grp (Wf_drop hT (i + 1)) hg)
  have HT := Lib.hid hT
  have HS := Lib.hid hs
  have HCC := Lib.hid hcC
  have HCOI := Lib.hid hcOi
  have HCPI := Lib.hid hcPi
  have HUW := Lib.hid huW
  have HC4 := Lib.hid hC4
  have HPOW := Lib.hid (fun W va x K (hK : K ≤ 1000) hP ha hx => power_any T hT hs (i + 1) (by omega) hg W b o va x K hK hP ha hx)
  have HIMG := Lib.hid (fun W vx x hP hx hxl hxE => imageBy_any T hT hs i L hL hg W b o vx x hP hx hxl hxE)
  have HCON := Lib.hid (fun W va vc x y hP ha hn hb hnc hx hy => conjugate_any T hT hs (i + 1) (by omega) hg W b o va vc x y hP ha hn hb hnc hx hy)
  clear hV hL hg hT hs hw hcC hC4 hcOi hcPi huW
  go_enter Tryz.func130, Tryz.ntmps130
  go_wp2_with fail
  clear hp0 hp1 hp2
  go_loopw [7] (fun j wr => ∃ m : Nat, m ≤ T.length - (i + 1) ∧ j = .int .i64 ((i : Int) + 1 + (m : Int)) ∧ Hid (∀ t, t < m → C1 L (T.drop (i + 1)) t) ∧ Below (w.heap.size + 1) (w.alloc (.cells #[.int .i64 0, .int .i64 0, .int .i64 0, .int .i64 0] 154)) wr) (fun j _ => T.length - (intOf j).toNat)
  case atStart => exact ⟨0, Nat.zero_le _, by go_num, Lib.hid (fun t h => absurd h (Nat.not_lt_zero _)), Below.refl _ _⟩
  case round =>
    obtain ⟨m, hm, rfl, hR, hb⟩ := hrel
    have HB := Lib.hid hb
    clear hb
    by_cases hlt : m < T.length - (i + 1)
    · skip
      obtain ⟨hf, hk, hbw, hsz⟩ := box1 HB.out
      have HKW := Lib.hid hk
      have HF := Lib.hid hf
      have HBW := Lib.hid hbw
      have hszw : w.heap.size < wr.heap.size := by omega
      have HPr := Lib.hid (HP.out.keep hk)
      have p0 : wr.cell? ⟨b, o, none⟩ = some (.slice (some ⟨bO, oO, none⟩) T.length cO) := by rw [hk.cell trivial hbl]; exact HPP.out.1
      have p1 : wr.cell? ⟨b, o + 1, none⟩ = some (.slice (some ⟨bP, oP, none⟩) T.length cP) := by rw [hk.cell trivial hbl]; exact HPP.out.2.1
      have p2 : wr.cell? ⟨b, o + 2, none⟩ = some (.slice (some ⟨bC, oC, none⟩) T.length cC) := by rw [hk.cell trivial hbl]; exact HPP.out.2.2
      have hbl2 : b < wr.heap.size := by omega
      clear hf hbw
      obtain ⟨y, hy⟩ : ∃ y, L.c[m]? = some y := ⟨_, List.getElem?_eq_getElem (by omega)⟩
      obtain ⟨b2, o2, uy, rfl, _, hb2, hcy, huy⟩ := HC4.out m y hy
      obtain ⟨Lj, hLj⟩ : ∃ Lj, T[i + 1 + m]? = some Lj := ⟨_, List.getElem?_eq_getElem (by omega)⟩
      obtain ⟨bO', oO', eO, _, _, hcO⟩ := HV.out.ord hLj
      obtain ⟨rfl, rfl⟩ : bO = bO' ∧ oO = oO' := by simpa using eO
      obtain ⟨bP', oP', uP, eP, _, _, hcP, huP⟩ := HV.out.pow hLj
      obtain ⟨rfl, rfl⟩ : bP = bP' ∧ oP = oP' := by simpa using eP
      have ho7 : Lj.o ≤ 7 := HS.out.2 Lj (List.mem_of_getElem? hLj)
      have HCO := Lib.hid hcO
      have HCP := Lib.hid hcP
      have HCY := Lib.hid hcy
      have HUP := Lib.hid huP
      have HUY := Lib.hid huy
      have HYE := Lib.hid (HK.out.2.2.1 y (List.mem_of_getElem? hy))
      have HLE := Lib.hid (show El (T.drop (i + 1)) (pad (m + 1) Lj.w) from El_pad HK.out.1 (m + 1) (by rw [List.drop_drop, show i + 1 + (m + 1) = i + 1 + m + 1 by omega]; exact (lvl' HT.out hLj).2.2.2.1) (by simp; omega))
      have HLW := Lib.hid (show (pad (i + 1 + m + 1) Lj.w).length = T.length ∧ El (T.drop (i + 1)) ((pad (i + 1 + m + 1) Lj.w).drop (i + 1)) ∧ (pad (i + 1 + m + 1) Lj.w).drop (i + 1) = pad (m + 1) Lj.w from by
        have e : pad (i + 1 + m + 1) Lj.w = pad (i + 1) (pad (m + 1) Lj.w) := by rw [pad_add]; congr 1
        rw [e, pad_drop]
        exact ⟨by rw [pad_length, El_length HLE.out]; simp; omega, HLE.out, rfl⟩)
      have HC1 := Lib.hid (show C1 L (T.drop (i + 1)) m ↔ npow (mul (T.drop (i + 1))) (one (T.drop (i + 1))) y Lj.o = img (T.drop (i + 1)) L.c (pad (m + 1) Lj.w) from by
        unfold C1
        rw [List.getD_eq_getElem?_getD, hy, List.getD_eq_getElem?_getD, List.getElem?_drop, hLj]; rfl)
      clear eO eP hcO hcP hcy huP huy hLj hy
      have hcC : wr.cell? ⟨bC, oC + i, none⟩ = some (.slice (some ⟨b2, o2, none⟩) L.c.length c2) := by rw [hk.cell trivial hbC]; exact HCC.out
      have hbC2 : bC < wr.heap.size := by omega
      have hcy : wr.cell? ⟨b2, o2 + m, none⟩ = some (uy) := by rw [hk.cell trivial hb2]; exact HCY.out
      have hb22 : b2 < wr.heap.size := by omega
      have hcO : wr.cell? ⟨bO, oO + (i + 1 + m), none⟩ = some (.int .i64 (Lj.o : Int)) := by rw [hk.cell trivial hbO]; exact HCO.out
      have hbO2 : bO < wr.heap.size := by omega
      have hcP : wr.cell? ⟨bP, oP + (i + 1 + m), none⟩ = some (uP) := by rw [hk.cell trivial hbP]; exact HCP.out
      have hbP2 : bP < wr.heap.size := by omega
      have w3 : IntKind.i64.wrap ((i : Int) + 1) = (i : Int) + 1 := IntWalk.i64_in _ (by omega)
      have w6 : (i : Int) < (T.length : Int) := by omega
      have w7 : (0 : Int) ≤ (i : Int) := by omega
      have w1 : IntKind.i64.wrap (((i : Int) + 1 + (m : Int)) - (i : Int)) = (m : Int) + 1 := by rw [IntWalk.i64_in _ (by omega)]; omega
      have w2 : IntKind.i64.wrap (((m : Int) + 1) - 1) = (m : Int) := by rw [IntWalk.i64_in _ (by omega)]; omega
      have w8 : IntKind.i64.wrap (m : Int) = (m : Int) := IntWalk.i64_in _ (by omega)
      have w4 : (m : Int) < (L.c.length : Int) := by omega
      have w5 : (0 : Int) ≤ (m : Int) := by omega
      have w9 : (i : Int) + 1 + (m : Int) < (T.length : Int) := by omega
      have w10 : (0 : Int) ≤ (i : Int) + 1 + (m : Int) := by omega
      have w11 : ((i : Int) + 1 + (m : Int)).toNat = i + 1 + m := by omega
      have HUY2 := Lib.hid (HUY.out.keep hk)
      have HUP2 := Lib.hid (HUP.out.keep hk)
      clear hk
      by_cases hc : C1 L (T.drop (i + 1)) m
      · skip
        have hdec := Lib.hid (show decide (ints (pad (i + 1) (npow (mul (T.drop (i + 1))) (one (T.drop (i + 1))) y Lj.o)) = ints (pad (i + 1) (img (T.drop (i + 1)) L.c (pad (m + 1) Lj.w)))) = true by
          rw [dec_pads]; exact decide_eq_true (HC1.out.1 hc))
        have HCM := Lib.hid hc
        clear hc
        go_wp2_with fail
        go_region_held3 (fun w' => (∀ b o, b < wr.heap.size → w'.cell? ⟨b, o, none⟩ = wr.cell? ⟨b, o, none⟩) ∧ Keep (fun _ => True) wr w')
          (first | exact ks_mk ((Keep.refl _ _).drew) | exact ks_mk (Keep.trans ((Keep.refl _ _).drew) (Keep.of_below (by assumption))) | exact ks_mk (Keep.drewN (Keep.trans ((Keep.refl _ _).drew) (Keep.of_below (by assumption))) _) | exact ks_mk (Keep.trans (Keep.trans ((Keep.refl _ _).drew) (Keep.of_below (by assumption))) (Keep.of_below (by assumption))) | exact ks_mk (Keep.drewN (Keep.trans (Keep.trans ((Keep.refl _ _).drew) (Keep.of_below (by assumption))) (Keep.of_below (by assumption))) _))
          (first | (go_at_call 165; refine (HPOW.out _ _ y Lj.o (by omega) (HPr.out.keep (by first | exact ((Keep.refl _ _).drew) | exact Keep.trans ((Keep.refl _ _).drew) (Keep.of_below (by assumption)))) (HUY2.out.keep (by first | exact ((Keep.refl _ _).drew) | exact Keep.trans ((Keep.refl _ _).drew) (Keep.of_below (by assumption)))) HYE.out).mono ?_; rintro e wa ⟨ga, ca, rfl, hoa, hba⟩) | (go_at_call 166; refine (HIMG.out _ _ (pad (i + 1 + m + 1) Lj.w) (HPr.out.keep (by first | exact ((Keep.refl _ _).drew) | exact Keep.trans ((Keep.refl _ _).drew) (Keep.of_below (by assumption)))) (HUP2.out.keep (by first | exact ((Keep.refl _ _).drew) | exact Keep.trans ((Keep.refl _ _).drew) (Keep.of_below (by assumption)))) HLW.out.1 HLW.out.2.1).mono ?_; rintro e wb ⟨gb, cb, rfl, hob, hbb⟩; rw [HLW.out.2.2] at hob ⊢) | (go_at_call 129; refine (equal_any _ _ _ _ _ (by first | exact hoa.sl.mono (fun _ _ => trivial) | exact (hoa.sl.mono (fun _ _ => trivial)).keep (Keep.of_below hbb)) (by first | exact hob.sl.mono (fun _ _ => trivial) | exact (hob.sl.mono (fun _ _ => trivial)).keep (Keep.of_below hba))).mono ?_; rintro e w7 ⟨rfl, n7, rfl⟩; rw [hdec.out]))
        all_goals
          have hs5 : w.heap.size + 1 ≤ wr.heap.size := hsz
          have HB7 := Lib.hid (HB.out.trans (((Below.refl _ _).drew).trans (below_drewN (by first | exact (hba.mono hs5).trans (hbb.mono (Nat.le_trans hs5 hba.size)) | exact (hbb.mono hs5).trans (hba.mono (Nat.le_trans hs5 hbb.size))) n7)))
          clear hoa hba hob hbb
          go_wp2_with fail
          go_roundw
          case rel => exact ⟨m + 1, by omega, by go_num, Lib.hid (fun t ht => by
            rcases Nat.lt_succ_iff_lt_or_eq.1 ht with h | h
            · exact hR.out t h
            · subst h; exact HCM.out), HB7.out⟩
          case measure => simp [intOf]; omega
      · skip
        have hdec := Lib.hid (show decide (ints (pad (i + 1) (npow (mul (T.drop (i + 1))) (one (T.drop (i + 1))) y Lj.o)) = ints (pad (i + 1) (img (T.drop (i + 1)) L.c (pad (m + 1) Lj.w)))) = false by
          rw [dec_pads]; exact decide_eq_false (fun h => hc (HC1.out.2 h)))
        have HNO := Lib.hid (show ¬ LvOk L (T.drop (i + 1)) from fun h => hc ((HIF.out.1 h).1 m (by simp; omega)))
        clear hc
        go_wp2_with fail
        go_region_held3 (fun w' => (∀ b o, b < wr.heap.size → w'.cell? ⟨b, o, none⟩ = wr.cell? ⟨b, o, none⟩) ∧ Keep (fun _ => True) wr w')
          (first | exact ks_mk ((Keep.refl _ _).drew) | exact ks_mk (Keep.trans ((Keep.refl _ _).drew) (Keep.of_below (by assumption))) | exact ks_mk (Keep.drewN (Keep.trans ((Keep.refl _ _).drew) (Keep.of_below (by assumption))) _) | exact ks_mk (Keep.trans (Keep.trans ((Keep.refl _ _).drew) (Keep.of_below (by assumption))) (Keep.of_below (by assumption))) | exact ks_mk (Keep.drewN (Keep.trans (Keep.trans ((Keep.refl _ _).drew) (Keep.of_below (by assumption))) (Keep.of_below (by assumption))) _))
          (first | (go_at_call 165; refine (HPOW.out _ _ y Lj.o (by omega) (HPr.out.keep (by first | exact ((Keep.refl _ _).drew) | exact Keep.trans ((Keep.refl _ _).drew) (Keep.of_below (by assumption)))) (HUY2.out.keep (by first | exact ((Keep.refl _ _).drew) | exact Keep.trans ((Keep.refl _ _).drew) (Keep.of_below (by assumption)))) HYE.out).mono ?_; rintro e wa ⟨ga, ca, rfl, hoa, hba⟩) | (go_at_call 166; refine (HIMG.out _ _ (pad (i + 1 + m + 1) Lj.w) (HPr.out.keep (by first | exact ((Keep.refl _ _).drew) | exact Keep.trans ((Keep.refl _ _).drew) (Keep.of_below (by assumption)))) (HUP2.out.keep (by first | exact ((Keep.refl _ _).drew) | exact Keep.trans ((Keep.refl _ _).drew) (Keep.of_below (by assumption)))) HLW.out.1 HLW.out.2.1).mono ?_; rintro e wb ⟨gb, cb, rfl, hob, hbb⟩; rw [HLW.out.2.2] at hob ⊢) | (go_at_call 129; refine (equal_any _ _ _ _ _ (by first | exact hoa.sl.mono (fun _ _ => trivial) | exact (hoa.sl.mono (fun _ _ => trivial)).keep (Keep.of_below hbb)) (by first | exact hob.sl.mono (fun _ _ => trivial) | exact (hob.sl.mono (fun _ _ => trivial)).keep (Keep.of_below hba))).mono ?_; rintro e w7 ⟨rfl, n7, rfl⟩; rw [hdec.out]))
        all_goals
          have hs5 : w.heap.size + 1 ≤ wr.heap.size := hsz
          have HB7 := Lib.hid (HB.out.trans (((Below.refl _ _).drew).trans (below_drewN (by first | exact (hba.mono hs5).trans (hbb.mono (Nat.le_trans hs5 hba.size)) | exact (hbb.mono hs5).trans (hba.mono (Nat.le_trans hs5 hbb.size))) n7)))
          clear hoa hba hob hbb
          obtain ⟨hf8, _, _, _⟩ := box1 HB.out
          have r0 := cell_of_row _ w.heap.size 0 _ _ (0, 0) hf8
          have r1 := cell_of_row _ w.heap.size 1 _ _ (0, 0) hf8
          have r2 := cell_of_row _ w.heap.size 2 _ _ (0, 0) hf8
          have r3 := cell_of_row _ w.heap.size 3 _ _ (0, 0) hf8
          clear hf8
          simp at r0 r1 r2 r3
          obtain ⟨hf7, _, hbw7, hsz7⟩ := box1 HB7.out
          have f0 := cell_of_row _ w.heap.size 0 _ _ (0, 0) hf7
          have f1 := cell_of_row _ w.heap.size 1 _ _ (0, 0) hf7
          have f2 := cell_of_row _ w.heap.size 2 _ _ (0, 0) hf7
          have f3 := cell_of_row _ w.heap.size 3 _ _ (0, 0) hf7
          have z0 := frozen_of_row _ w.heap.size 0 _ _ hf7
          have z1 := frozen_of_row _ w.heap.size 1 _ _ hf7
          have z2 := frozen_of_row _ w.heap.size 2 _ _ hf7
          have z3 := frozen_of_row _ w.heap.size 3 _ _ hf7
          have HBW7 := Lib.hid hbw7
          clear hf7 hbw7 hsz7
          simp at f0 f1 f2 f3
          go_wp2_with fail
          exact bodyPost_ret (v := .agg #[.int .i64 1, .int .i64 (i), .int .i64 ((i : Int) + 1 + (m : Int)), .int .i64 (0)]) (by simp [results, Tryz.results130, go_sem, f0, f1, f2, f3]) rfl
            ⟨1, _, _, _, rfl, ⟨fun h => absurd h.1 (by decide), fun h => absurd h HNO.out⟩, (((HBW7.out.setCell (by simp) _).setCell (by simp) _).setCell (by simp) _).setCell (by simp) _⟩
    · skip
      obtain rfl : m = T.length - (i + 1) := by omega
      have H1 := Lib.hid (show ∀ j < (T.drop (i + 1)).length, C1 L (T.drop (i + 1)) j from fun j hj => hR.out j (by simpa using hj))
      clear hR hlt hm
      go_wp2_with fail
      go_loopw [8] (fun j wr => ∃ m : Nat, m ≤ T.length - (i + 1) ∧ j = .int .i64 ((i : Int) + 1 + (m : Int)) ∧ Hid (∀ t, t < m → ∀ k, t < k → k < T.length - (i + 1) → C2 L (T.drop (i + 1)) t k) ∧ Below (w.heap.size + 1) (w.alloc (.cells #[.int .i64 0, .int .i64 0, .int .i64 0, .int .i64 0] 154)) wr) (fun j _ => T.length - (intOf j).toNat)
      case atStart => exact ⟨0, Nat.zero_le _, by go_num, Lib.hid (fun t h => absurd h (Nat.not_lt_zero _)), HB.out⟩
      case round =>
        clear HB
        obtain ⟨m, hm, rfl, hR, hb⟩ := hrel
        have HB := Lib.hid hb
        clear hb
        by_cases hlt : m < T.length - (i + 1)
        · skip
          have hd : decide ((i : Int) + 1 + (m : Int) < (T.length : Int)) = true := by simp; omega
          obtain ⟨x, hx⟩ : ∃ x, L.c[m]? = some x := ⟨_, List.getElem?_eq_getElem (by omega)⟩
          obtain ⟨b2, o2, ux, rfl, _, hb2, hcx, hux⟩ := HC4.out m x hx
          obtain ⟨Lj, hLj⟩ : ∃ Lj, T[i + 1 + m]? = some Lj := ⟨_, List.getElem?_eq_getElem (by omega)⟩
          obtain ⟨bC', oC', aJ, cJ, eC, _, _, hcJ, hJ1, hJ4⟩ := HV.out.con hLj
          obtain ⟨rfl, rfl⟩ : bC = bC' ∧ oC = oC' := by simpa using eC
          have HCX := Lib.hid hcx
          have HUX := Lib.hid hux
          have HCJ := Lib.hid hcJ
          have HJ4 := Lib.hid hJ4
          have HX := Lib.hid hx
          have HLJ := Lib.hid hLj
          have HXE := Lib.hid (HK.out.2.2.1 x (List.mem_of_getElem? hx))
          have HJL := Lib.hid (lvl' HT.out hLj).2.1
          clear hx hcx hux eC hcJ hJ4 hLj
          go_wp2_with fail
          go_loopw [9] (fun kv wr => ∃ q : Nat, m + 1 ≤ q ∧ q ≤ T.length - (i + 1) ∧ kv = .int .i64 ((i : Int) + 1 + (q : Int)) ∧ Hid (∀ k, m < k → k < q → C2 L (T.drop (i + 1)) m k) ∧ Below (w.heap.size + 1) (w.alloc (.cells #[.int .i64 0, .int .i64 0, .int .i64 0, .int .i64 0] 154)) wr) (fun kv _ => T.length - (intOf kv).toNat)
          case atStart => exact ⟨m + 1, Nat.le_refl _, by omega, by go_num, Lib.hid (fun k h1 h2 => absurd h2 (by omega)), HB.out⟩
          case round =>
            clear HB
            obtain ⟨q, hq1, hq, rfl, hQ, hb⟩ := hrel
            have HB := Lib.hid hb
            clear hb
            by_cases hqt : q < T.length - (i + 1)
            · skip
              obtain ⟨hf, hk, hbw, hsz⟩ := box1 HB.out
              have HKW := Lib.hid hk
              have HF := Lib.hid hf
              have HBW := Lib.hid hbw
              have hszw : w.heap.size < wr.heap.size := by omega
              have HPr := Lib.hid (HP.out.keep hk)
              have p0 : wr.cell? ⟨b, o, none⟩ = some (.slice (some ⟨bO, oO, none⟩) T.length cO) := by rw [hk.cell trivial hbl]; exact HPP.out.1
              have p1 : wr.cell? ⟨b, o + 1, none⟩ = some (.slice (some ⟨bP, oP, none⟩) T.length cP) := by rw [hk.cell trivial hbl]; exact HPP.out.2.1
              have p2 : wr.cell? ⟨b, o + 2, none⟩ = some (.slice (some ⟨bC, oC, none⟩) T.length cC) := by rw [hk.cell trivial hbl]; exact HPP.out.2.2
              have hbl2 : b < wr.heap.size := by omega
              clear hf hbw
              obtain ⟨y, hy⟩ : ∃ y, L.c[q]? = some y := ⟨_, List.getElem?_eq_getElem (by omega)⟩
              obtain ⟨b2', o2', uy, e2', _, _, hcy, huy⟩ := HC4.out q y hy
              obtain ⟨rfl, rfl⟩ : b2 = b2' ∧ o2 = o2' := by simpa using e2'
              obtain ⟨d, hd'⟩ : ∃ d, q = m + 1 + d := ⟨q - (m + 1), by omega⟩
              have hdl : d < Lj.c.length := by rw [HJL.out]; omega
              obtain ⟨z, hz⟩ : ∃ z, Lj.c[d]? = some z := ⟨_, List.getElem?_eq_getElem hdl⟩
              obtain ⟨bJ, oJ, uz, rfl, _, hbJ, hcz, huz⟩ := HJ4.out d z hz
              have HCY := Lib.hid hcy
              have HUY := Lib.hid huy
              have HCZ := Lib.hid hcz
              have HUZ := Lib.hid huz
              have HYE := Lib.hid (HK.out.2.2.1 y (List.mem_of_getElem? hy))
              have HZE := Lib.hid (show El (T.drop (i + 1)) (pad (m + 1) z) from El_pad HK.out.1 (m + 1) (by rw [List.drop_drop, show i + 1 + (m + 1) = i + 1 + m + 1 by omega]; exact (lvl' HT.out HLJ.out).2.2.1 z (List.mem_of_getElem? hz)) (by simp; omega))
              have HZW := Lib.hid (show (pad (i + 1 + m + 1) z).length = T.length ∧ El (T.drop (i + 1)) ((pad (i + 1 + m + 1) z).drop (i + 1)) ∧ (pad (i + 1 + m + 1) z).drop (i + 1) = pad (m + 1) z from by
                have e : pad (i + 1 + m + 1) z = pad (i + 1) (pad (m + 1) z) := by rw [pad_add]; congr 1
                rw [e, pad_drop]
                exact ⟨by rw [pad_length, El_length HZE.out]; simp; omega, HZE.out, rfl⟩)
              have HC2 := Lib.hid (show C2 L (T.drop (i + 1)) m q ↔ mul (T.drop (i + 1)) y x = mul (T.drop (i + 1)) x (img (T.drop (i + 1)) L.c (pad (m + 1) z)) from by
                unfold C2
                rw [List.getD_eq_getElem?_getD, hy, List.getD_eq_getElem?_getD, HX.out, List.getD_eq_getElem?_getD (l := T.drop (i + 1)), List.getElem?_drop, HLJ.out, List.getD_eq_getElem?_getD, show q - m - 1 = d by omega]
                simp only [Option.getD_some]
                rw [hz]; rfl)
              clear e2' hcy huy hcz huz hy hz
              have hcC : wr.cell? ⟨bC, oC + i, none⟩ = some (.slice (some ⟨b2, o2, none⟩) L.c.length c2) := by rw [hk.cell trivial hbC]; exact HCC.out
              have hbC2 : bC < wr.heap.size := by omega
              have hcx : wr.cell? ⟨b2, o2 + m, none⟩ = some (ux) := by rw [hk.cell trivial hb2]; exact HCX.out
              have hb22 : b2 < wr.heap.size := by omega
              have hcy : wr.cell? ⟨b2, o2 + q, none⟩ = some uy := by rw [hk.cell trivial hb2]; exact HCY.out
              have hcJ : wr.cell? ⟨bC, oC + (i + 1 + m), none⟩ = some (.slice (some ⟨bJ, oJ, none⟩) Lj.c.length cJ) := by rw [hk.cell trivial hbC]; exact HCJ.out
              have hcz : wr.cell? ⟨bJ, oJ + d, none⟩ = some (uz) := by rw [hk.cell trivial hbJ]; exact HCZ.out
              have hbJ2 : bJ < wr.heap.size := by omega
              have w3 : IntKind.i64.wrap ((i : Int) + 1) = (i : Int) + 1 := IntWalk.i64_in _ (by omega)
              have w6 : (i : Int) < (T.length : Int) := by omega
              have w7 : (0 : Int) ≤ (i : Int) := by omega
              have w1 : IntKind.i64.wrap (((i : Int) + 1 + (m : Int)) - (i : Int)) = (m : Int) + 1 := by rw [IntWalk.i64_in _ (by omega)]; omega
              have w2 : IntKind.i64.wrap (((m : Int) + 1) - 1) = (m : Int) := by rw [IntWalk.i64_in _ (by omega)]; omega
              have w8 : IntKind.i64.wrap (m : Int) = (m : Int) := IntWalk.i64_in _ (by omega)
              have w4 : (m : Int) < (L.c.length : Int) := by omega
              have w5 : (0 : Int) ≤ (m : Int) := by omega
              have w9 : (i : Int) + 1 + (m : Int) < (T.length : Int) := by omega
              have w10 : (0 : Int) ≤ (i : Int) + 1 + (m : Int) := by omega
              have w11 : ((i : Int) + 1 + (m : Int)).toNat = i + 1 + m := by omega
              have w1q : IntKind.i64.wrap (((i : Int) + 1 + (q : Int)) - (i : Int)) = (q : Int) + 1 := by rw [IntWalk.i64_in _ (by omega)]; omega
              have w2q : IntKind.i64.wrap (((q : Int) + 1) - 1) = (q : Int) := by rw [IntWalk.i64_in _ (by omega)]; omega
              have w8q : IntKind.i64.wrap (q : Int) = (q : Int) := IntWalk.i64_in _ (by omega)
              have w4q : (q : Int) < (L.c.length : Int) := by omega
              have w5q : (0 : Int) ≤ (q : Int) := by omega
              have w9q : (i : Int) + 1 + (q : Int) < (T.length : Int) := by omega
              have w10q : (0 : Int) ≤ (i : Int) + 1 + (q : Int) := by omega
              have w11q : ((i : Int) + 1 + (q : Int)).toNat = i + 1 + q := by omega
              have wA : IntKind.i64.wrap (((i : Int) + 1 + (q : Int)) - ((i : Int) + 1 + (m : Int))) = (d : Int) + 1 := by rw [IntWalk.i64_in _ (by omega)]; omega
              have wB : IntKind.i64.wrap (((d : Int) + 1) - 1) = (d : Int) := by rw [IntWalk.i64_in _ (by omega)]; omega
              have wD : IntKind.i64.wrap (d : Int) = (d : Int) := IntWalk.i64_in _ (by omega)
              have wE : (d : Int) < (Lj.c.length : Int) := by omega
              have wF : (0 : Int) ≤ (d : Int) := by omega
              have HUX2 := Lib.hid (HUX.out.keep hk)
              have HUY2 := Lib.hid (HUY.out.keep hk)
              have HUZ2 := Lib.hid (HUZ.out.keep hk)
              have HNN := Lib.hid (show NN ux ∧ NN uy from ⟨NN_of HUX.out (by rw [pad_length]; omega), NN_of HUY.out (by rw [pad_length]; omega)⟩)
              have HZI := Lib.hid (show El (T.drop (i + 1)) (img (T.drop (i + 1)) L.c (pad (m + 1) z)) from El_img HK.out.1 HK.out.2.2.1 _)
              clear hk hd'
              by_cases hc : C2 L (T.drop (i + 1)) m q
              · skip
                have hdec := Lib.hid (show decide (mul (T.drop (i + 1)) y x = mul (T.drop (i + 1)) x (img (T.drop (i + 1)) L.c (pad (m + 1) z))) = true from decide_eq_true (HC2.out.1 hc))
                have HCM := Lib.hid hc
                clear hc
                go_wp2_with fail
                go_region_held3 (fun w' => (∀ b o, b < wr.heap.size → w'.cell? ⟨b, o, none⟩ = wr.cell? ⟨b, o, none⟩) ∧ Keep (fun _ => True) wr w')
                  (first | exact ks_mk ((Keep.refl _ _).drew) | exact ks_mk (Keep.trans ((Keep.refl _ _).drew) (Keep.of_below (by assumption))) | exact ks_mk (Keep.drewN (Keep.trans ((Keep.refl _ _).drew) (Keep.of_below (by assumption))) _) | exact ks_mk (Keep.trans (Keep.trans ((Keep.refl _ _).drew) (Keep.of_below (by assumption))) (Keep.of_below (by assumption))) | exact ks_mk (Keep.drewN (Keep.trans (Keep.trans ((Keep.refl _ _).drew) (Keep.of_below (by assumption))) (Keep.of_below (by assumption))) _))
                  (first | (go_at_call 167; refine (HCON.out _ _ _ y x (HPr.out.keep (by first | exact ((Keep.refl _ _).drew) | exact Keep.trans ((Keep.refl _ _).drew) (Keep.of_below (by assumption)))) (HUY2.out.keep (by first | exact ((Keep.refl _ _).drew) | exact Keep.trans ((Keep.refl _ _).drew) (Keep.of_below (by assumption)))) HNN.out.2 (HUX2.out.keep (by first | exact ((Keep.refl _ _).drew) | exact Keep.trans ((Keep.refl _ _).drew) (Keep.of_below (by assumption)))) HNN.out.1 HYE.out HXE.out).mono ?_; rintro e wa ⟨zc, ⟨hzc1, hzc2⟩, ga, ca, rfl, hoa, hba⟩; replace hzc1 := Lib.hid hzc1; replace hzc2 := Lib.hid hzc2) | (go_at_call 166; refine (HIMG.out _ _ (pad (i + 1 + m + 1) z) (HPr.out.keep (by first | exact ((Keep.refl _ _).drew) | exact Keep.trans ((Keep.refl _ _).drew) (Keep.of_below (by assumption)))) (HUZ2.out.keep (by first | exact ((Keep.refl _ _).drew) | exact Keep.trans ((Keep.refl _ _).drew) (Keep.of_below (by assumption)))) HZW.out.1 HZW.out.2.1).mono ?_; rintro e wb ⟨gb, cb, rfl, hob, hbb⟩; rw [HZW.out.2.2] at hob ⊢) | (go_at_call 129; refine (equal_any _ _ _ _ _ (by first | exact hoa.sl.mono (fun _ _ => trivial) | exact (hoa.sl.mono (fun _ _ => trivial)).keep (Keep.of_below hbb)) (by first | exact hob.sl.mono (fun _ _ => trivial) | exact (hob.sl.mono (fun _ _ => trivial)).keep (Keep.of_below hba))).mono ?_; rintro e w7 ⟨rfl, n7, rfl⟩; rw [conj_dec HGR.out (i + 1) HXE.out hzc1.out HZI.out hzc2.out, hdec.out]))
                all_goals
                  have hs5 : w.heap.size + 1 ≤ wr.heap.size := hsz
                  have HB7 := Lib.hid (HB.out.trans (((Below.refl _ _).drew).trans (below_drewN (by first | exact (hba.mono hs5).trans (hbb.mono (Nat.le_trans hs5 hba.size)) | exact (hbb.mono hs5).trans (hba.mono (Nat.le_trans hs5 hbb.size))) n7)))
                  clear hoa hba hob hbb
                  go_wp2_with fail
                  go_roundw
                  case rel => exact ⟨q + 1, by omega, by omega, by go_num, Lib.hid (fun t h1 ht => by
                    rcases Nat.lt_succ_iff_lt_or_eq.1 ht with h | h
                    · exact hQ.out t h1 h
                    · subst h; exact HCM.out), HB7.out⟩
                  case measure => simp [intOf]; omega
              · skip
                have hdec := Lib.hid (show decide (mul (T.drop (i + 1)) y x = mul (T.drop (i + 1)) x (img (T.drop (i + 1)) L.c (pad (m + 1) z))) = false from decide_eq_false (fun h => hc (HC2.out.2 h)))
                have HNO := Lib.hid (show ¬ LvOk L (T.drop (i + 1)) from fun h => hc ((HIF.out.1 h).2.1 m (by simp; omega) q (by omega) (by simp; omega)))
                clear hc
                go_wp2_with fail
                go_region_held3 (fun w' => (∀ b o, b < wr.heap.size → w'.cell? ⟨b, o, none⟩ = wr.cell? ⟨b, o, none⟩) ∧ Keep (fun _ => True) wr w')
                  (first | exact ks_mk ((Keep.refl _ _).drew) | exact ks_mk (Keep.trans ((Keep.refl _ _).drew) (Keep.of_below (by assumption))) | exact ks_mk (Keep.drewN (Keep.trans ((Keep.refl _ _).drew) (Keep.of_below (by assumption))) _) | exact ks_mk (Keep.trans (Keep.trans ((Keep.refl _ _).drew) (Keep.of_below (by assumption))) (Keep.of_below (by assumption))) | exact ks_mk (Keep.drewN (Keep.trans (Keep.trans ((Keep.refl _ _).drew) (Keep.of_below (by assumption))) (Keep.of_below (by assumption))) _))
                  (first | (go_at_call 167; refine (HCON.out _ _ _ y x (HPr.out.keep (by first | exact ((Keep.refl _ _).drew) | exact Keep.trans ((Keep.refl _ _).drew) (Keep.of_below (by assumption)))) (HUY2.out.keep (by first | exact ((Keep.refl _ _).drew) | exact Keep.trans ((Keep.refl _ _).drew) (Keep.of_below (by assumption)))) HNN.out.2 (HUX2.out.keep (by first | exact ((Keep.refl _ _).drew) | exact Keep.trans ((Keep.refl _ _).drew) (Keep.of_below (by assumption)))) HNN.out.1 HYE.out HXE.out).mono ?_; rintro e wa ⟨zc, ⟨hzc1, hzc2⟩, ga, ca, rfl, hoa, hba⟩; replace hzc1 := Lib.hid hzc1; replace hzc2 := Lib.hid hzc2) | (go_at_call 166; refine (HIMG.out _ _ (pad (i + 1 + m + 1) z) (HPr.out.keep (by first | exact ((Keep.refl _ _).drew) | exact Keep.trans ((Keep.refl _ _).drew) (Keep.of_below (by assumption)))) (HUZ2.out.keep (by first | exact ((Keep.refl _ _).drew) | exact Keep.trans ((Keep.refl _ _).drew) (Keep.of_below (by assumption)))) HZW.out.1 HZW.out.2.1).mono ?_; rintro e wb ⟨gb, cb, rfl, hob, hbb⟩; rw [HZW.out.2.2] at hob ⊢) | (go_at_call 129; refine (equal_any _ _ _ _ _ (by first | exact hoa.sl.mono (fun _ _ => trivial) | exact (hoa.sl.mono (fun _ _ => trivial)).keep (Keep.of_below hbb)) (by first | exact hob.sl.mono (fun _ _ => trivial) | exact (hob.sl.mono (fun _ _ => trivial)).keep (Keep.of_below hba))).mono ?_; rintro e w7 ⟨rfl, n7, rfl⟩; rw [conj_dec HGR.out (i + 1) HXE.out hzc1.out HZI.out hzc2.out, hdec.out]))
                all_goals
                  have hs5 : w.heap.size + 1 ≤ wr.heap.size := hsz
                  have HB7 := Lib.hid (HB.out.trans (((Below.refl _ _).drew).trans (below_drewN (by first | exact (hba.mono hs5).trans (hbb.mono (Nat.le_trans hs5 hba.size)) | exact (hbb.mono hs5).trans (hba.mono (Nat.le_trans hs5 hbb.size))) n7)))
                  clear hoa hba hob hbb
                  obtain ⟨hf8, _, _, _⟩ := box1 HB.out
                  have r0 := cell_of_row _ w.heap.size 0 _ _ (0, 0) hf8
                  have r1 := cell_of_row _ w.heap.size 1 _ _ (0, 0) hf8
                  have r2 := cell_of_row _ w.heap.size 2 _ _ (0, 0) hf8
                  have r3 := cell_of_row _ w.heap.size 3 _ _ (0, 0) hf8
                  clear hf8
                  simp at r0 r1 r2 r3
                  obtain ⟨hf7, _, hbw7, hsz7⟩ := box1 HB7.out
                  have f0 := cell_of_row _ w.heap.size 0 _ _ (0, 0) hf7
                  have f1 := cell_of_row _ w.heap.size 1 _ _ (0, 0) hf7
                  have f2 := cell_of_row _ w.heap.size 2 _ _ (0, 0) hf7
                  have f3 := cell_of_row _ w.heap.size 3 _ _ (0, 0) hf7
                  have z0 := frozen_of_row _ w.heap.size 0 _ _ hf7
                  have z1 := frozen_of_row _ w.heap.size 1 _ _ hf7
                  have z2 := frozen_of_row _ w.heap.size 2 _ _ hf7
                  have z3 := frozen_of_row _ w.heap.size 3 _ _ hf7
                  have HBW7 := Lib.hid hbw7
                  clear hf7 hbw7 hsz7
                  simp at f0 f1 f2 f3
                  go_wp2_with fail
                  exact bodyPost_ret (v := .agg #[.int .i64 2, .int .i64 (i), .int .i64 ((i : Int) + 1 + (m : Int)), .int .i64 ((i : Int) + 1 + (q : Int))]) (by simp [results, Tryz.results130, go_sem, f0, f1, f2, f3]) rfl
                    ⟨2, _, _, _, rfl, ⟨fun h => absurd h.1 (by decide), fun h => absurd h HNO.out⟩, (((HBW7.out.setCell (by simp) _).setCell (by simp) _).setCell (by simp) _).setCell (by simp) _⟩
            · skip
              obtain rfl : q = T.length - (i + 1) := by omega
              clear hqt hq hq1
              go_wp2_with fail
              go_roundw
              case rel => exact ⟨m + 1, by omega, by go_num, Lib.hid (fun t ht => by
                rcases Nat.lt_succ_iff_lt_or_eq.1 ht with h | h
                · exact hR.out t h
                · subst h; exact hQ.out), HB.out⟩
              case measure => simp [intOf]; omega
        · skip
          obtain rfl : m = T.length - (i + 1) := by omega
          have H2 := Lib.hid (show ∀ j < (T.drop (i + 1)).length, ∀ k, j < k → k < (T.drop (i + 1)).length → C2 L (T.drop (i + 1)) j k from fun j hj k h1 h2 => hR.out j (by simpa using hj) k h1 (by simpa using h2))
          clear hR hlt hm
          obtain ⟨hf, hk, hbw, hsz⟩ := box1 HB.out
          have HKW := Lib.hid hk
          have HF := Lib.hid hf
          have HBW := Lib.hid hbw
          have hszw : w.heap.size < wr.heap.size := by omega
          have HPr := Lib.hid (HP.out.keep hk)
          have p0 : wr.cell? ⟨b, o, none⟩ = some (.slice (some ⟨bO, oO, none⟩) T.length cO) := by rw [hk.cell trivial hbl]; exact HPP.out.1
          have p1 : wr.cell? ⟨b, o + 1, none⟩ = some (.slice (some ⟨bP, oP, none⟩) T.length cP) := by rw [hk.cell trivial hbl]; exact HPP.out.2.1
          have p2 : wr.cell? ⟨b, o + 2, none⟩ = some (.slice (some ⟨bC, oC, none⟩) T.length cC) := by rw [hk.cell trivial hbl]; exact HPP.out.2.2
          have hbl2 : b < wr.heap.size := by omega
          clear hf hbw
          have hcW : wr.cell? ⟨bP, oP + i, none⟩ = some (uW) := by rw [hk.cell trivial hbP]; exact HCPI.out
          have hbP2 : bP < wr.heap.size := by omega
          have HUW2 := Lib.hid (HUW.out.keep hk)
          clear hk
          go_wp2_with fail
          refine (HIMG.out _ _ (pad (i + 1) L.w) HPr.out HUW2.out (by rw [pad_length, El_length HK.out.2.2.2.1]; simp; omega) (by rw [pad_drop]; exact HK.out.2.2.2.1)).mono ?_
          rintro e w5 ⟨g5, c5, rfl, ho5, hb5⟩
          rw [pad_drop] at ho5 ⊢
          have HO5 := Lib.hid ho5
          have HUW5 := Lib.hid (HUW2.out.keep (Keep.of_below hb5))
          have HB5 := Lib.hid (HB.out.trans (hb5.mono hsz))
          clear ho5 hb5 p0 p1 p2 hbl2 hszw hsz hcW hbP2
          by_cases hc : C3 L (T.drop (i + 1))
          · skip
            have hdec := Lib.hid (show decide (ints (pad (i + 1) (img (T.drop (i + 1)) L.c L.w)) = ints (pad (i + 1) (L.w))) = true by
              rw [dec_pads]; exact decide_eq_true hc)
            have H3 := Lib.hid hc
            clear hc
            go_wp2_with fail
            refine (equal_any _ _ _ _ _ (HO5.out.sl.mono (fun _ _ => trivial)) HUW5.out).mono ?_
            rintro e w7 ⟨rfl, n7, rfl⟩
            rw [hdec.out]
            have HB7 := Lib.hid (below_drewN HB5.out n7)
            go_wp2_with fail
            go_loopw [11] (fun j wr => ∃ m : Nat, m ≤ T.length - (i + 1) ∧ j = .int .i64 ((i : Int) + 1 + (m : Int)) ∧ Hid (∀ t, t < m → C4 L (T.drop (i + 1)) t) ∧ Below (w.heap.size + 1) (w.alloc (.cells #[.int .i64 0, .int .i64 0, .int .i64 0, .int .i64 0] 154)) wr) (fun j _ => T.length - (intOf j).toNat)
            case atStart => exact ⟨0, Nat.zero_le _, by go_num, Lib.hid (fun t h => absurd h (Nat.not_lt_zero _)), HB7.out⟩
            case round =>
              clear HB HB5 HB7 HO5 HUW2 HUW5 HPr
              obtain ⟨m, hm, rfl, hR, hb⟩ := hrel
              have HB := Lib.hid hb
              clear hb
              by_cases hlt : m < T.length - (i + 1)
              · skip
                obtain ⟨hf, hk, hbw, hsz⟩ := box1 HB.out
                have HKW := Lib.hid hk
                have HF := Lib.hid hf
                have HBW := Lib.hid hbw
                have hszw : w.heap.size < wr.heap.size := by omega
                have HPr := Lib.hid (HP.out.keep hk)
                have p0 : wr.cell? ⟨b, o, none⟩ = some (.slice (some ⟨bO, oO, none⟩) T.length cO) := by rw [hk.cell trivial hbl]; exact HPP.out.1
                have p1 : wr.cell? ⟨b, o + 1, none⟩ = some (.slice (some ⟨bP, oP, none⟩) T.length cP) := by rw [hk.cell trivial hbl]; exact HPP.out.2.1
                have p2 : wr.cell? ⟨b, o + 2, none⟩ = some (.slice (some ⟨bC, oC, none⟩) T.length cC) := by rw [hk.cell trivial hbl]; exact HPP.out.2.2
                have hbl2 : b < wr.heap.size := by omega
                clear hf hbw
                have hcO : wr.cell? ⟨bO, oO + i, none⟩ = some (.int .i64 (L.o : Int)) := by rw [hk.cell trivial hbO]; exact HCOI.out
                have hbO2 : bO < wr.heap.size := by omega
                have hd : decide ((i : Int) + 1 + (m : Int) < (T.length : Int)) = true := by simp; omega
                have HU := Lib.hid (show (List.replicate T.length 0).set (i + 1 + m) 1 = pad (i + 1) (unit (T.drop (i + 1)) m) from (unit_pad T (i + 1) m (by omega)).symm)
                have HUE := Lib.hid (show El (T.drop (i + 1)) (unit (T.drop (i + 1)) m) from El_unit HK.out.1 m)
                have HIE := Lib.hid (show ∀ k, El (T.drop (i + 1)) (it (img (T.drop (i + 1)) L.c) k (unit (T.drop (i + 1)) m)) from fun k => it_inv (El _) _ (fun z _ => El_img HK.out.1 HK.out.2.2.1 z) k _ HUE.out)
                clear hk
                go_wp2_with fail
                refine (unitVector_any T.length (i + 1 + m) hs6 (by omega) _).mono ?_
                rintro e w5 ⟨g5, c5, rfl, ho5, hb5⟩
                rw [HU.out] at ho5 ⊢
                have HG5 := Lib.hid (ho5.sl.mono (S' := fun _ => True) (fun _ _ => trivial))
                have HB5 := Lib.hid (HB.out.trans (hb5.mono hsz))
                have hcO5 : w5.cell? ⟨bO, oO + i, none⟩ = some (.int .i64 (L.o : Int)) := by rw [(Keep.of_below (S := Any) hb5).cell trivial hbO2]; exact hcO
                have p05 : w5.cell? ⟨b, o, none⟩ = some (.slice (some ⟨bO, oO, none⟩) T.length cO) := by rw [(Keep.of_below (S := Any) hb5).cell trivial hbl2]; exact p0
                clear ho5 hb5 p0 p1 p2 hbl2 hszw hsz hcO hbO2
                go_wp2_with fail
                go_loopw [12, 160] (fun xv kv wr => ∃ κ : Nat, κ ≤ L.o ∧ kv = .int .i64 (κ : Int) ∧ SlI (fun _ => True) wr xv (ints (pad (i + 1) (it (img (T.drop (i + 1)) L.c) κ (unit (T.drop (i + 1)) m)))) ∧ Below (w.heap.size + 1) (w.alloc (.cells #[.int .i64 0, .int .i64 0, .int .i64 0, .int .i64 0] 154)) wr) (fun _ kv _ => L.o - (intOf kv).toNat)
                case atStart => exact ⟨0, Nat.zero_le _, rfl, HG5.out, HB5.out⟩
                case round =>
                  clear HB HB5 HG5 HPr
                  obtain ⟨κ, hκ, rfl, hx, hb⟩ := hrel
                  have HB := Lib.hid hb
                  have HX := Lib.hid hx
                  clear hb hx
                  obtain ⟨hf, hk, hbw, hsz⟩ := box1 HB.out
                  have HKW := Lib.hid hk
                  have HF := Lib.hid hf
                  have HBW := Lib.hid hbw
                  have hszw : w.heap.size < wr.heap.size := by omega
                  have HPr := Lib.hid (HP.out.keep hk)
                  have p0 : wr.cell? ⟨b, o, none⟩ = some (.slice (some ⟨bO, oO, none⟩) T.length cO) := by rw [hk.cell trivial hbl]; exact HPP.out.1
                  have p1 : wr.cell? ⟨b, o + 1, none⟩ = some (.slice (some ⟨bP, oP, none⟩) T.length cP) := by rw [hk.cell trivial hbl]; exact HPP.out.2.1
                  have p2 : wr.cell? ⟨b, o + 2, none⟩ = some (.slice (some ⟨bC, oC, none⟩) T.length cC) := by rw [hk.cell trivial hbl]; exact HPP.out.2.2
                  have hbl2 : b < wr.heap.size := by omega
                  clear hf hbw
                  have HUW2 := Lib.hid (HUW.out.keep hk)
                  clear hk
                  by_cases hκt : κ < L.o
                  · skip
                    go_wp2_with fail
                    refine (HIMG.out _ _ (pad (i + 1) (it (img (T.drop (i + 1)) L.c) κ (unit (T.drop (i + 1)) m))) HPr.out HX.out (by rw [pad_length, El_length (HIE.out κ)]; simp; omega) (by rw [pad_drop]; exact HIE.out κ)).mono ?_
                    rintro e w6 ⟨g6, c6, rfl, ho6, hb6⟩
                    rw [pad_drop, ← it_succ' (img (T.drop (i + 1)) L.c)] at ho6 ⊢
                    have HX6 := Lib.hid (ho6.sl.mono (S' := fun _ => True) (fun _ _ => trivial))
                    have HB6 := Lib.hid (HB.out.trans (hb6.mono hsz))
                    clear ho6 hb6 p0 p1 p2 hbl2 hszw hsz
                    go_wp2_with fail
                    go_roundw
                    case rel => exact ⟨κ + 1, by omega, by go_num, HX6.out, HB6.out⟩
                    case measure => simp [intOf]; omega
                  · skip
                    obtain rfl : κ = L.o := by omega
                    have HNW := Lib.hid (show NN uW from NN_of HUW.out (by rw [pad_length]; omega))
                    clear hκt hκ
                    go_wp2_with fail
                    refine (unitVector_any T.length (i + 1 + m) hs6 (by omega) _).mono ?_
                    rintro e w6 ⟨g6, c6, rfl, ho6, hb6⟩
                    rw [HU.out] at ho6 ⊢
                    have HG6 := Lib.hid (ho6.sl.mono (S' := fun _ => True) (fun _ _ => trivial))
                    have HX6 := Lib.hid (HX.out.keep (Keep.of_below hb6))
                    have HUW6 := Lib.hid (HUW2.out.keep (Keep.of_below hb6))
                    have HP6 := Lib.hid (HPr.out.keep (Keep.of_below hb6))
                    have HB6 := Lib.hid (HB.out.trans (hb6.mono hsz))
                    have hsz6 : w.heap.size + 1 ≤ w6.heap.size := Nat.le_trans hsz hb6.size
                    clear ho6 hb6
                    go_wp2_with fail
                    refine (HCON.out _ _ _ (unit (T.drop (i + 1)) m) L.w HP6.out HG6.out (NN_some _ _ _) HUW6.out HNW.out HUE.out HK.out.2.2.2.1).mono ?_
                    rintro e w8 ⟨zc, ⟨hzc1, hzc2⟩, g8, c8, rfl, ho8, hb8⟩
                    have HZ1 := Lib.hid hzc1
                    have HZ2 := Lib.hid hzc2
                    have HO8 := Lib.hid (ho8.sl.mono (S' := fun _ => True) (fun _ _ => trivial))
                    have HX8 := Lib.hid (HX6.out.keep (Keep.of_below hb8))
                    have HB8 := Lib.hid (HB6.out.trans (hb8.mono hsz6))
                    clear hzc1 hzc2 ho8 hb8
                    go_wp2_with fail
                    refine (equal_any _ _ _ _ _ HX8.out HO8.out).mono ?_
                    rintro e w7 ⟨rfl, n7, rfl⟩
                    rw [conj_dec' HGR.out (i + 1) HK.out.2.2.2.1 HZ1.out (HIE.out L.o) HZ2.out]
                    have HB7 := Lib.hid (below_drewN HB8.out n7)
                    by_cases hc : C4 L (T.drop (i + 1)) m
                    · skip
                      rw [decide_eq_true (show mul (T.drop (i + 1)) L.w (it (img (T.drop (i + 1)) L.c) L.o (unit (T.drop (i + 1)) m)) = mul (T.drop (i + 1)) (unit (T.drop (i + 1)) m) L.w from hc)]
                      have HCM := Lib.hid hc
                      clear hc
                      go_wp2_with fail
                      go_roundw
                      case rel => exact ⟨m + 1, by omega, by go_num, Lib.hid (fun t ht => by
                        rcases Nat.lt_succ_iff_lt_or_eq.1 ht with h | h
                        · exact hR.out t h
                        · subst h; exact HCM.out), HB7.out⟩
                      case measure => simp [intOf]; omega
                    · skip
                      rw [decide_eq_false (show ¬ mul (T.drop (i + 1)) L.w (it (img (T.drop (i + 1)) L.c) L.o (unit (T.drop (i + 1)) m)) = mul (T.drop (i + 1)) (unit (T.drop (i + 1)) m) L.w from hc)]
                      have HNO := Lib.hid (show ¬ LvOk L (T.drop (i + 1)) from fun h => hc ((HIF.out.1 h).2.2.2 m (by simp; omega)))
                      clear hc
                      obtain ⟨hf7, _, hbw7, hsz7⟩ := box1 HB7.out
                      have f0 := cell_of_row _ w.heap.size 0 _ _ (0, 0) hf7
                      have f1 := cell_of_row _ w.heap.size 1 _ _ (0, 0) hf7
                      have f2 := cell_of_row _ w.heap.size 2 _ _ (0, 0) hf7
                      have f3 := cell_of_row _ w.heap.size 3 _ _ (0, 0) hf7
                      have z0 := frozen_of_row _ w.heap.size 0 _ _ hf7
                      have z1 := frozen_of_row _ w.heap.size 1 _ _ hf7
                      have z2 := frozen_of_row _ w.heap.size 2 _ _ hf7
                      have z3 := frozen_of_row _ w.heap.size 3 _ _ hf7
                      have HBW7 := Lib.hid hbw7
                      clear hf7 hbw7 hsz7
                      simp at f0 f1 f2 f3
                      go_wp2_with fail
                      exact bodyPost_ret (v := .agg #[.int .i64 4, .int .i64 (i), .int .i64 ((i : Int) + 1 + (m : Int)), .int .i64 (0)]) (by simp [results, Tryz.results130, go_sem, f0, f1, f2, f3]) rfl
                        ⟨4, _, _, _, rfl, ⟨fun h => absurd h.1 (by decide), fun h => absurd h HNO.out⟩, (((HBW7.out.setCell (by simp) _).setCell (by simp) _).setCell (by simp) _).setCell (by simp) _⟩
              · skip
                obtain rfl : m = T.length - (i + 1) := by omega
                have HYES := Lib.hid (show LvOk L (T.drop (i + 1)) from HIF.out.2 ⟨H1.out, H2.out, H3.out, fun j hj => hR.out j (by simpa using hj)⟩)
                obtain ⟨hf7, _, hbw7, hsz7⟩ := box1 HB.out
                have f0 := cell_of_row _ w.heap.size 0 _ _ (0, 0) hf7
                have f1 := cell_of_row _ w.heap.size 1 _ _ (0, 0) hf7
                have f2 := cell_of_row _ w.heap.size 2 _ _ (0, 0) hf7
                have f3 := cell_of_row _ w.heap.size 3 _ _ (0, 0) hf7
                have z0 := frozen_of_row _ w.heap.size 0 _ _ hf7
                have z1 := frozen_of_row _ w.heap.size 1 _ _ hf7
                have z2 := frozen_of_row _ w.heap.size 2 _ _ hf7
                have z3 := frozen_of_row _ w.heap.size 3 _ _ hf7
                have HBW7 := Lib.hid hbw7
                clear hf7 hbw7 hsz7
                simp at f0 f1 f2 f3
                go_wp2_with fail
                exact bodyPost_ret (v := .agg #[.int .i64 0, .int .i64 (0), .int .i64 (0), .int .i64 (0)]) (by simp [results, Tryz.results130, go_sem, f0, f1, f2, f3]) rfl
                  ⟨0, _, _, _, rfl, ⟨fun _ => HYES.out, fun _ => ⟨rfl, rfl, rfl, rfl⟩⟩, (((HBW7.out.setCell (by simp) _).setCell (by simp) _).setCell (by simp) _).setCell (by simp) _⟩
          · skip
            have hdec := Lib.hid (show decide (ints (pad (i + 1) (img (T.drop (i + 1)) L.c L.w)) = ints (pad (i + 1) (L.w))) = false by
              rw [dec_pads]; exact decide_eq_false hc)
            have HNO := Lib.hid (show ¬ LvOk L (T.drop (i + 1)) from fun h => hc (HIF.out.1 h).2.2.1)
            clear hc
            go_wp2_with fail
            refine (equal_any _ _ _ _ _ (HO5.out.sl.mono (fun _ _ => trivial)) HUW5.out).mono ?_
            rintro e w7 ⟨rfl, n7, rfl⟩
            rw [hdec.out]
            have HB7 := Lib.hid (below_drewN HB5.out n7)
            obtain ⟨hf7, _, hbw7, hsz7⟩ := box1 HB7.out
            have f0 := cell_of_row _ w.heap.size 0 _ _ (0, 0) hf7
            have f1 := cell_of_row _ w.heap.size 1 _ _ (0, 0) hf7
            have f2 := cell_of_row _ w.heap.size 2 _ _ (0, 0) hf7
            have f3 := cell_of_row _ w.heap.size 3 _ _ (0, 0) hf7
            have z0 := frozen_of_row _ w.heap.size 0 _ _ hf7
            have z1 := frozen_of_row _ w.heap.size 1 _ _ hf7
            have z2 := frozen_of_row _ w.heap.size 2 _ _ hf7
            have z3 := frozen_of_row _ w.heap.size 3 _ _ hf7
            have HBW7 := Lib.hid hbw7
            clear hf7 hbw7 hsz7
            simp at f0 f1 f2 f3
            go_wp2_with fail
            exact bodyPost_ret (v := .agg #[.int .i64 3, .int .i64 (i), .int .i64 (0), .int .i64 (0)]) (by simp [results, Tryz.results130, go_sem, f0, f1, f2, f3]) rfl
              ⟨3, _, _, _, rfl, ⟨fun h => absurd h.1 (by decide), fun h => absurd h HNO.out⟩, (((HBW7.out.setCell (by simp) _).setCell (by simp) _).setCell (by simp) _).setCell (by simp) _⟩
end Go.Proofs.YtbamkklhkhglnaaGreatDoor.ImplH

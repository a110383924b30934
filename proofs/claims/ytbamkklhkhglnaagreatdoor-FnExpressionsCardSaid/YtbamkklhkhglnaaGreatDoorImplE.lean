import Derived.Test.YtbamkklhkhglnaaGreatDoorImplD
namespace Go.Proofs.YtbamkklhkhglnaaGreatDoor.ImplE
open Go.RowKit Go.Proofs.YtbamkklhkhglnaaGreatDoor Go.Proofs.YtbamkklhkhglnaaGreatDoor.Tow Go.Proofs.YtbamkklhkhglnaaGreatDoor.ImplB Go.Proofs.YtbamkklhkhglnaaGreatDoor.ImplC Go.Proofs.YtbamkklhkhglnaaGreatDoor.ImplD
set_option linter.unusedVariables false
set_option linter.unusedSimpArgs false

theorem mk22 (n : Nat) (hn : n ≤ 6) (w : World) : (Instr.makeSlice 87 (.int .i64 (n : Int)) (.int .i64 (n : Int))).run Tryz.prog w = .ok (.slice (some ⟨w.heap.size, 0, none⟩) n n) (w.alloc (.cells (madeCells #[.int .i64 0] n) 2)) :=
  run_make_row' (P := Tryz.prog) 87 2 (.int .i64 0) 8 Tryz.underlying87 infoI rfl .i64 .i64 n (by omega) (by omega) w

set_option maxHeartbeats 400000 in
theorem power_any (T : Tw) (hT : Wf T) (hs : Small T) (s : Nat) (h : s ≤ T.length) (hg : Tow.Good (T.drop s)) (w : World) (b o : Nat) (va : Value) (x : List Nat) (K : Nat) (hK : K ≤ 1000) (hP : PtrP Any w b o (ofTw T)) (ha : SlI Any w va (ints (pad s x)))
    (hx : El (T.drop s) x) :
    Calls Tryz.prog 165 #[.pointer (some ⟨b, o, none⟩), va, .int .i64 (K : Int)] w (NewS (ints (pad s (npow (mul (T.drop s)) (one (T.drop s)) x K))) w) := by
  have HTV := Lib.hid (tv_any T hT hs s h hg)
  have HG := Lib.hid (grp (Wf_drop hT s) hg)
  have hl : (pad s x).length = T.length := by rw [pad_length, El_length hx, List.length_drop]; omega
  have HL := Lib.hid hl
  have hs6 := hs.1
  have hmk := mk22 T.length hs6
  have HP := Lib.hid hP
  obtain ⟨aA, cA, rfl, hA1⟩ := ha.open
  rw [hl] at hA1 ha ⊢
  have HA := Lib.hid ha
  have HX := Lib.hid hx
  have HO := Lib.hid (Own.made (B := w.heap.size) w T.length (Nat.le_refl _) (by unfold maxLen; omega))
  clear hP ha hl hx
  go_enter Tryz.func165, Tryz.ntmps165
  go_wp2_with fail
  go_loopw [12] (fun kv wr => ∃ k : Nat, k ≤ K ∧ kv = .int .i64 (k : Int) ∧ Own w.heap.size wr (.slice (some ⟨w.heap.size, 0, none⟩) T.length T.length) (ints (pad s (npow (mul (T.drop s)) (one (T.drop s)) x k))) ∧ Below w.heap.size w wr ∧ w.heap.size < wr.heap.size) (fun kv _ => K - (intOf kv).toNat)
  case atStart =>
    refine ⟨0, Nat.zero_le _, rfl, ?_, (Below.refl _ _).alloc (Nat.le_refl _) _, by simp⟩
    have := HO.out
    rw [ints_replicate] at this
    rw [npow_zero, one_pad T s h]
    exact this
  case round =>
    obtain ⟨k, hk, rfl, ho, hb, hsz⟩ := hrel
    have HOr := Lib.hid ho
    have HBr := Lib.hid hb
    clear ho hb
    by_cases hlt : k < K
    · go_wp2_with fail
      refine (HTV.out (fun k => k < w.heap.size) _ b o w.heap.size w.heap.size T.length (.slice aA T.length cA) (List.replicate s 0) (npow (mul (T.drop s)) (one (T.drop s)) x k) x ((PtrP_lt HP.out).keep (Keep.of_below HBr.out)) ((SlI_lt HA.out).keep (Keep.of_below HBr.out)) (by omega) (by simp) (HG.out.npow HX.out k) HX.out HOr.out).mono ?_
      rintro e w2 ⟨rfl, ho2, hg2⟩
      have e2 : (List.replicate s 0 ++ mul (T.drop s) (npow (mul (T.drop s)) (one (T.drop s)) x k) x).length = T.length := by
        rw [List.length_append, El_length (HG.out.cl (HG.out.npow HX.out k) HX.out), List.length_drop, List.length_replicate]; omega
      rw [e2, ← npow_succ (mul (T.drop s))] at ho2
      have HO2 := Lib.hid ho2
      have HB2 := Lib.hid (HBr.out.grown hg2 (by omega) (by intro k hk; cases hk; omega))
      have hsz2 : w.heap.size < w2.heap.size := Nat.lt_of_lt_of_le hsz hg2.size
      clear ho2 hg2 e2
      go_wp2_with fail
      go_roundw
      case rel => exact ⟨k + 1, by omega, by go_num, HO2.out, HB2.out, hsz2⟩
      case measure => simp [intOf]; omega
    · obtain rfl : k = K := by omega
      go_wp2_with fail
      go_ret
      have e1 : (ints (pad s (npow (mul (T.drop s)) (one (T.drop s)) x k))).length = T.length := by rw [ints_length, pad_length, El_length (HG.out.npow HX.out k), List.length_drop]; omega
      exact ⟨w.heap.size, T.length, by rw [e1]; rfl, by rw [e1]; exact HOr.out, HBr.out⟩

set_option maxHeartbeats 1000000 in
theorem imageBy_any (T : Tw) (hT : Wf T) (hs : Small T) (i : Nat) (L : Lv) (hL : T[i]? = some L) (hg : Tow.Good (T.drop (i + 1))) (w : World) (b o : Nat) (vx : Value) (x : List Nat) (hP : PtrP Any w b o (ofTw T)) (hx : SlI Any w vx (ints x))
    (hxl : x.length = T.length) (hxE : El (T.drop (i + 1)) (x.drop (i + 1))) :
    Calls Tryz.prog 166 #[.pointer (some ⟨b, o, none⟩), .int .i64 (i : Int), vx] w (NewS (ints (pad (i + 1) (img (T.drop (i + 1)) L.c (x.drop (i + 1))))) w) := by
  have hi : i < T.length := (List.getElem?_eq_some_iff.1 hL).1
  have HTV := Lib.hid (tv_any T hT hs (i + 1) (by omega) hg)
  have hs6 := hs.1
  have hmk := mk22 T.length hs6
  have HK := Lib.hid (lvl' hT hL)
  have HP := Lib.hid hP
  obtain ⟨hSb, hbl, vO, vP, vC, hp0, hp1, hp2, hV⟩ := hP
  obtain ⟨aO, cO, aP, cP, aC, cC, rfl, rfl, rfl, hO1, hP1, hC1⟩ := hV.open
  obtain ⟨bC, oC, a2, c2, rfl, hSC, hbC, hcC, h21, hC4⟩ := hV.con hL
  obtain ⟨aX, cX, rfl, hX1⟩ := hx.open
  rw [hxl] at hX1 hx ⊢
  have hcl : L.c.length = T.length - (i + 1) := HK.out.2.1
  have HX := Lib.hid hx
  have HC4 := Lib.hid hC4
  have HSM := Lib.hid hs
  have HXE := Lib.hid hxE
  have HXL := Lib.hid hxl
  have HO := Lib.hid (Own.made (B := w.heap.size) w T.length (Nat.le_refl _) (by unfold maxLen; omega))
  obtain ⟨V, hVV⟩ : ∃ V : Nat → Nat → List Nat, V = fun m q => prR (mul (T.drop (i + 1))) (one (T.drop (i + 1))) (one (T.drop (i + 1))) L.c (x.drop (i + 1)) m q := ⟨_, rfl⟩
  have HVE := Lib.hid (show ∀ m q, El (T.drop (i + 1)) (V m q) from fun m q => by rw [hVV]; exact prR_inv (El _) (mul _) (fun _ _ p q => El_mul HK.out.1 p q) _ _ _ _ (El_one HK.out.1) (El_one HK.out.1) HK.out.2.2.1 m q)
  have HV0 := Lib.hid (show V 0 0 = one (T.drop (i + 1)) by rw [hVV]; exact prR_zero _ _ _ _ _)
  have HVs := Lib.hid (show ∀ m q y, L.c[m]? = some y → mul (T.drop (i + 1)) (V m q) y = V m (q + 1) from fun m q y hy => by rw [hVV]; simp only [prR_step]; rw [List.getD_eq_getElem?_getD, hy]; rfl)
  have HVn := Lib.hid (show ∀ m y, m < T.length - (i + 1) → x[i + 1 + m]? = some y → V m y = V (m + 1) 0 from fun m y hm hy => by rw [hVV]; exact prR_next _ _ _ _ _ _ _ (by rw [HK.out.2.1]; omega) (by rw [List.getElem?_drop]; exact hy))
  have HVz := Lib.hid (show V (T.length - (i + 1)) 0 = img (T.drop (i + 1)) L.c (x.drop (i + 1)) from by rw [hVV]; exact prR_end _ _ _ _ _ _ (by rw [HK.out.2.1]; exact Nat.le_refl _) (by rw [List.length_drop, hxl]; exact Nat.le_refl _))
  clear hx hxE hxl hs hC4 hV hVV hL hT hg
  go_enter Tryz.func166, Tryz.ntmps166
  go_wp2_with fail
  go_loopw [21] (fun jv wr => ∃ m : Nat, m ≤ T.length - (i + 1) ∧ jv = .int .i64 (m : Int) ∧ Own w.heap.size wr (.slice (some ⟨w.heap.size, 0, none⟩) T.length T.length) (ints (pad (i + 1) (V m 0))) ∧ Below w.heap.size w wr ∧ w.heap.size < wr.heap.size) (fun jv _ => T.length - (intOf jv).toNat)
  case atStart =>
    refine ⟨0, Nat.zero_le _, rfl, ?_, (Below.refl _ _).alloc (Nat.le_refl _) _, by simp⟩
    have := HO.out
    rw [ints_replicate] at this
    rw [HV0.out, one_pad T (i + 1) (by omega)]
    exact this
  case round =>
    obtain ⟨m, hm, rfl, ho, hb, hsz⟩ := hrel
    have HOr := Lib.hid ho
    have HBr := Lib.hid hb
    have HKr := Lib.hid (Keep.of_below (S := Any) hb)
    clear ho hb
    by_cases hlt : m < T.length - (i + 1)
    · obtain ⟨y, hy⟩ : ∃ y, x[i + 1 + m]? = some y := ⟨_, List.getElem?_eq_getElem (by rw [HXL.out]; omega)⟩
      obtain ⟨bX, oX, rfl, _, hbX, hcX⟩ := HX.out.at hy
      obtain ⟨c, hc⟩ : ∃ c, L.c[m]? = some c := ⟨_, List.getElem?_eq_getElem (by omega)⟩
      obtain ⟨b2, o2, uc, rfl, _, hb2, hc2c, huc⟩ := HC4.out m c hc
      have hy7 : y < 7 := HSM.out.lt HXE.out (by omega) hy
      have hcx : wr.cell? ⟨bX, oX + (i + 1 + m), none⟩ = some (.int .i64 (y : Int)) := by rw [HKr.out.cell trivial hbX]; exact hcX
      have hcc : wr.cell? ⟨b2, o2 + m, none⟩ = some uc := by rw [HKr.out.cell trivial hb2]; exact hc2c
      have hd : decide ((m : Int) < ((T.length - (i + 1) : Nat) : Int)) = true := by simp; omega
      have HY := Lib.hid hy
      have HC := Lib.hid hc
      have HUC := Lib.hid huc
      have HCE := Lib.hid (HK.out.2.2.1 c (List.mem_of_getElem? hc))
      clear hy hc huc hcX hc2c
      go_wp2_with fail
      go_loopw [33] (fun qv wi => ∃ q : Nat, q ≤ y ∧ qv = .int .i64 (q : Int) ∧ Own w.heap.size wi (.slice (some ⟨w.heap.size, 0, none⟩) T.length T.length) (ints (pad (i + 1) (V m q))) ∧ Below w.heap.size w wi ∧ w.heap.size < wi.heap.size) (fun qv _ => y - (intOf qv).toNat)
      case atStart => exact ⟨0, Nat.zero_le _, rfl, HOr.out, HBr.out, hsz⟩
      case round =>
        clear HOr HBr HKr hcx hcc
        obtain ⟨q, hq, rfl, ho, hb, hsz⟩ := hrel
        have HOr := Lib.hid ho
        have HBr := Lib.hid hb
        clear ho hb
        by_cases hqy : q < y
        · go_wp2_with fail
          refine (HTV.out (fun k => k < w.heap.size) _ b o w.heap.size w.heap.size T.length uc (List.replicate (i + 1) 0) (V m q) c ((PtrP_lt HP.out).keep (Keep.of_below HBr.out)) ((SlI_lt HUC.out).keep (Keep.of_below HBr.out)) (by omega) (by simp) (HVE.out m q) HCE.out HOr.out).mono ?_
          rintro e w2 ⟨rfl, ho2, hg2⟩
          rw [HVs.out m q c HC.out] at ho2
          have e2 : (List.replicate (i + 1) 0 ++ V m (q + 1)).length = T.length := by
            rw [List.length_append, El_length (HVE.out m (q + 1)), List.length_drop, List.length_replicate]; omega
          rw [e2] at ho2
          have HO2 := Lib.hid ho2
          have HB2 := Lib.hid (HBr.out.grown hg2 (by omega) (by intro k hk; cases hk; omega))
          have hsz2 : w.heap.size < w2.heap.size := Nat.lt_of_lt_of_le hsz hg2.size
          clear ho2 hg2 e2
          go_wp2_with fail
          go_roundw
          case rel => exact ⟨q + 1, by omega, by go_num, HO2.out, HB2.out, hsz2⟩
          case measure => simp [intOf]; omega
        · obtain rfl : q = y := by omega
          go_wp2_with fail
          go_roundw
          case rel => exact ⟨m + 1, by omega, by go_num, by rw [← HVn.out m q (by omega) HY.out]; exact HOr.out, HBr.out, hsz⟩
          case measure => simp [intOf]; omega
    · obtain rfl : m = T.length - (i + 1) := by omega
      go_wp2_with fail
      go_ret
      rw [← HVz.out]
      have e1 : (ints (pad (i + 1) (V (T.length - (i + 1)) 0))).length = T.length := by rw [ints_length, pad_length, El_length (HVE.out _ 0), List.length_drop]; omega
      exact ⟨w.heap.size, T.length, by rw [e1]; rfl, by rw [e1]; exact HOr.out, HBr.out⟩
end Go.Proofs.YtbamkklhkhglnaaGreatDoor.ImplE

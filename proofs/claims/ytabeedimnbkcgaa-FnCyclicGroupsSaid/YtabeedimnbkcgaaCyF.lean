import Derived.Test.YtabeedimnbkcgaaCyE
/-
  impl.orderOfElement, ElementOrder, isAbelian, IsAbelianGroup.
-/
namespace Go.Proofs.Ytabeedimnbkcgaa.CyF
open Go.RowKit Go.Proofs.Ytabeedimnbkcgaa Go.Proofs.Ytabeedimnbkcgaa.Tow Go.Proofs.Ytabeedimnbkcgaa.Val Go.Proofs.Ytabeedimnbkcgaa.Grps Go.Proofs.Ytabeedimnbkcgaa.NumT Go.Proofs.Ytabeedimnbkcgaa.CyA Go.Proofs.Ytabeedimnbkcgaa.CyD Go.Proofs.Ytabeedimnbkcgaa.CyE
set_option linter.unusedVariables false
set_option linter.unusedSimpArgs false

theorem pow7 {k d o : Nat} (h : k ≤ 7 ^ d) (ho : o ≤ 7) : k * o ≤ 7 ^ (d + 1) := by rw [Nat.pow_succ]; exact Nat.mul_le_mul h ho
theorem pow7b {k d : Nat} (h : k ≤ 7 ^ d) (hd : d ≤ 6) : k ≤ 117649 := Nat.le_trans h (Nat.le_trans (Nat.pow_le_pow_right (by omega) hd) (by decide))
set_option maxRecDepth 100000 in
set_option maxHeartbeats 2000000 in
theorem order_any (T : Tw) (hT : Wf T) (hs : Small T) (hg : Tow.Good T) (w : World) (b o : Nat) (vx : Value) (x : List Nat) (n : Nat) (hP : PtrP Any w b o (ofTw T)) (hx : SlI Any w vx (ints x)) (hE : El T x) (hn : ordM T T.length 0 x 1 = some n) :
    Calls Try.prog 31 #[.pointer (some ⟨b, o, none⟩), vx] w fun e w' => e = .returned (.int .i64 (n : Int)) ∧ Below w.heap.size w w' := by
  have HP := Lib.hid hP
  have HX := Lib.hid hx
  have HE := Lib.hid hE
  have HN := Lib.hid hn
  have HSM := Lib.hid hs
  have HG := Lib.hid (grp hT hg)
  have HPW := Lib.hid (fun W va y K hK hp ha hy => ImplE.power_any T hT hs 0 (Nat.zero_le _) hg W b o va y K hK hp ha hy)
  have hs6 := hs.1
  have hxl := El_length hE
  have HZ := Lib.hid (fun W v y (h : SlI Any W v (ints y)) (hl : y.length ≤ 1000000) => isZero_any W v y h hl)
  obtain ⟨aX, cX, rfl, _⟩ := hx.open
  rw [hxl] at HX ⊢
  clear hP hx hE hn hT hs hg
  go_enter Try.func31, Try.ntmps31
  go_wp2_with fail
  go_loopg [5, 6, 7] T.length (fun gk kv dv xv wr => ∃ (y : List Nat) (k d : Nat) (a : Option Addr) (c : Nat), kv = .int .i64 (k : Int) ∧ dv = .int .i64 (d : Int) ∧ xv = .slice a T.length c ∧ d + gk = T.length ∧ Hid (k ≤ 7 ^ d) ∧ Hid (SlI Any wr (.slice a T.length c) (ints y)) ∧ Hid (El T y) ∧ Hid (ordM T gk d y k = some n) ∧ Hid (Below w.heap.size w wr))
  case atStart => exact ⟨x, 1, 0, aX, cX, rfl, rfl, rfl, by omega, Lib.hid (by simp), HX, HE, HN, Lib.hid (Below.refl _ _)⟩
  case round =>
    obtain ⟨y, k, d, a, c, rfl, rfl, rfl, hd, hk, hY, hYE, hO, hB⟩ := hrel
    have hyl := El_length hYE.out
    have HZC := Lib.hid (HZ.out wr _ y hY.out (by omega))
    cases hz : zeroL y with
    | true =>
      rw [hz] at HZC
      have HR := Lib.hid (show k = n from by
        have h := hO.out
        cases gk with
        | zero => rw [ordM, if_pos hz] at h; injection h
        | succ f => rw [ordM, if_pos hz] at h; injection h)
      have HB := Lib.hid hB.out
      clear hz hO hY hYE hB hk hd hyl
      go_wp2_with fail
      refine HZC.out.mono ?_
      rintro e w1 ⟨rfl, rfl⟩
      go_wp2_with fail
      go_ret
      exact ⟨by rw [HR.out]; rfl, HB.out⟩
    | false =>
      rw [hz] at HZC
      have hgk : gk ≠ 0 := fun h => by
        have h1 := hO.out
        rw [h, ordM, hz] at h1
        simp at h1
      obtain ⟨f, rfl⟩ : ∃ f, gk = f + 1 := ⟨gk - 1, by omega⟩
      have hdl : d < T.length := by omega
      obtain ⟨av, ha⟩ : ∃ av, y[d]? = some av := ⟨_, List.getElem?_eq_getElem (by omega)⟩
      obtain ⟨L, hL⟩ : ∃ L, T[d]? = some L := ⟨_, List.getElem?_eq_getElem hdl⟩
      have hO2 := hO.out
      rw [ordM, hz, ha, hL] at hO2
      simp only [Bool.false_eq_true, if_false] at hO2
      obtain ⟨bY, oY, rfl, _, hbY, hcY⟩ := SlI.at hY.out ha
      have hLo7 : L.o ≤ 7 := HSM.out.2 L (List.mem_of_getElem? hL)
      have HPr := Lib.hid (HP.out.keep (Keep.of_below hB.out))
      obtain ⟨-, hPb, vO, vP, vC, p0, p1, p2, hv⟩ := HPr.out
      obtain ⟨aO, cO, aP, cP, aC, cC, rfl, rfl, rfl, -, -, -⟩ := hv.open
      obtain ⟨bO, oO, rfl, -, hbO, hcO⟩ := hv.ord hL
      have hdi : (d : Int) < (T.length : Int) := by omega
      have hdi0 : (0 : Int) ≤ (d : Int) := by omega
      by_cases ha0 : av = 0
      · subst ha0
        rw [if_pos rfl] at hO2
        have HO2 := Lib.hid hO2
        have HK := Lib.hid (show k ≤ 7 ^ (d + 1) from Nat.le_trans hk.out (Nat.pow_le_pow_right (by omega) (by omega)))
        have hne : (((0 : Nat) : Int) != 0) = false := by simp
        clear ha hL hO hO2 hv p1 p2 hz hk hyl
        go_wp2_with fail
        refine HZC.out.mono ?_
        rintro e w1 ⟨rfl, rfl⟩
        go_wp2_with fail
        go_roundg f
        case measure => omega
        case rel => exact ⟨y, k, d + 1, _, c, rfl, by go_num, rfl, by omega, HK, hY, hYE, HO2, hB⟩
      · rw [if_neg ha0] at hO2
        have HO2 := Lib.hid hO2
        have HK := Lib.hid (show k * L.o ≤ 7 ^ (d + 1) from pow7 hk.out hLo7)
        have hne : ((av : Int) != 0) = true := by simp; omega
        have hwm : IntKind.i64.wrap ((k : Int) * (L.o : Int)) = (k : Int) * (L.o : Int) := by
          have h1 := pow7b HK.out (by omega)
          rw [← Int.natCast_mul]
          exact IntWalk.i64_in _ (by omega)
        have HYE2 := Lib.hid (HG.out.npow hYE.out L.o)
        have HPC := Lib.hid (HPW.out wr (.slice (some ⟨bY, oY, none⟩) T.length c) y L.o (by omega) HPr.out hY.out hYE.out)
        clear ha hL hO hO2 hv p1 p2 hz hk hyl ha0
        go_wp2_with fail
        refine HZC.out.mono ?_
        rintro e w1 ⟨rfl, rfl⟩
        go_wp2_with fail
        refine HPC.out.mono ?_
        rintro e w2 ⟨g, c2, rfl, ho, hb⟩
        have hl2 : (ints (pad 0 (npow (mul (T.drop 0)) (Tow.one (T.drop 0)) y L.o))).length = T.length := by rw [ints_length]; exact El_length HYE2.out
        rw [hl2] at ho ⊢
        have HS2 := Lib.hid (show SlI Any w2 (.slice (some ⟨g, 0, none⟩) T.length c2) (ints (npow (mul T) (Tow.one T) y L.o)) from ho.sl.mono (fun _ _ => trivial))
        have HB2 := Lib.hid (hB.out.trans (hb.mono hB.out.size))
        obtain ⟨-, hPb, vO, vP, vC, q0, q1, q2, hv⟩ := HPr.out.keep (Keep.of_below (S := Any) hb)
        have hcO2 := ((Keep.of_below (S := Any) hb).cell (b := bO) (o := oO + d) trivial hbO).trans hcO
        have p02 := ((Keep.of_below (S := Any) hb).cell (b := b) (o := o) trivial (by assumption)).trans p0
        have hbO2 := Nat.lt_of_lt_of_le hbO hb.size
        clear ho hb HPC HZC hl2 q0 q1 q2 hv hcO p0
        go_wp2_with fail
        go_roundg f
        case measure => omega
        case rel => exact ⟨_, k * L.o, d + 1, _, c2, by rw [Int.natCast_mul], by go_num, rfl, by omega, HK, HS2, HYE2, HO2, HB2⟩

theorem sl2_one' {w : World} {g : Nat} {vx : Value} {l : List Int} (h : w.cell? ⟨g, 0, none⟩ = some vx) (hg : g < w.heap.size) (hx : SlI Any w vx l) : Sl2 Any w (.slice (some ⟨g, 0, none⟩) 1 1) [l] := by
  refine ⟨some ⟨g, 0, none⟩, 1, rfl, Nat.le_refl _, by unfold maxLen; omega, by simp, fun i r hr => ?_⟩
  match i, hr with
  | 0, hr => simp at hr; subst hr; exact ⟨g, 0, rfl, trivial, hg, vx, h, hx⟩
theorem El_tail' {T : Tw} {x : List Nat} (h : El T x) : TailV (ofTw T).os 0 (ints x) := by
  refine ⟨by rw [ints_length, ofTw_os, El_length h], fun j y q hy hq => ?_⟩
  rw [ints_get, Option.map_eq_some_iff] at hy
  obtain ⟨a, ha, rfl⟩ := hy
  obtain ⟨L, hL, hlt⟩ := El_lt h ha
  rw [ofTw_os_get T j L hL] at hq
  cases hq
  exact ⟨by simp, by simp; omega, fun h => absurd h (Nat.not_lt_zero _)⟩
set_option maxRecDepth 100000 in
set_option maxHeartbeats 2000000 in
theorem elementOrder_any (T : Tw) (hT : Wf T) (hs : Small T) (hg : Tow.Good T) (hG : Grp (ofTw T)) (w : World) (vO vP vC vx : Value) (x : List Nat) (n : Nat) (hP : ValP Any w vO vP vC (ofTw T)) (hx : SlI Any w vx (ints x)) (hE : El T x) (hn : ordM T T.length 0 x 1 = some n) :
    Calls Try.prog 9 #[.agg #[vO, vP, vC], vx] w fun e w' => e = .returned (.tuple #[.int .i64 (n : Int), .int .i64 0]) ∧ Below w.heap.size w w' := by
  obtain ⟨aX, cX, rfl, _, _⟩ := slg_form hx
  obtain ⟨W0, hW0⟩ : ∃ W0, W0 = w.alloc (.cells #[vO, vP, vC] 29) := ⟨_, rfl⟩
  have hl0 : w.heap.size < W0.heap.size := by rw [hW0]; simp
  have hb0 : Below w.heap.size w W0 := by rw [hW0]; exact (Below.refl _ _).alloc (Nat.le_refl _) _
  obtain ⟨e0, e1, e2⟩ := row3' (show W0.heap[w.heap.size]? = some (.cells #[vO, vP, vC] 29 (0, 0)) by rw [hW0]; exact heap_alloc_new _ _)
  have HPT := Lib.hid (show PtrP Any W0 w.heap.size 0 (ofTw T) from ⟨trivial, hl0, _, _, _, e0, e1, e2, hP.keep (Keep.of_below hb0)⟩)
  have HX := Lib.hid (hx.keep (Keep.of_below hb0))
  obtain ⟨W1, hW1⟩ : ∃ W1, W1 = W0.alloc (.cells #[.slice aX (ints x).length cX] 25) := ⟨_, rfl⟩
  have hb1 : Below W0.heap.size W0 W1 := by rw [hW1]; exact (Below.refl _ _).alloc (Nat.le_refl _) _
  have HPT1 := Lib.hid (HPT.out.keep (Keep.of_below hb1))
  have HX1 := Lib.hid (HX.out.keep (Keep.of_below hb1))
  have HB1 := Lib.hid (hb0.trans (hb1.mono hb0.size))
  have HAE := Lib.hid (areElements_any W1 w.heap.size 0 (ofTw T) (.slice (some ⟨W0.heap.size, 0, none⟩) 1 1) [ints x] HPT1.out (sl2_one' (by rw [hW1]; exact cell_of_row _ _ _ #[.slice aX (ints x).length cX] _ (0, 0) (heap_alloc_new _ _)) (by rw [hW1]; simp) HX1.out) hG (fun l hl => by rw [List.mem_singleton.1 hl]; exact El_tail' hE))
  have HOO := Lib.hid (fun W h1 h2 => order_any T hT hs hg W w.heap.size 0 (.slice aX (ints x).length cX) x n h1 h2 hE hn)
  clear e0 e1 e2 hP hx hb1 hb0 hT hs hg hG hE hn
  go_enter Try.func9, Try.ntmps9
  go_upto_region 1 with fail
  rw [← hW0]
  clear hW0
  go_wp2_with fail
  rw [← hW1]
  clear hW1
  refine HAE.out.mono ?_
  rintro e w2 ⟨rfl, hb2⟩
  have HB2 := Lib.hid (HB1.out.trans (hb2.mono HB1.out.size))
  have HOC := Lib.hid (HOO.out w2 (HPT1.out.keep (Keep.of_below hb2)) (HX1.out.keep (Keep.of_below hb2)))
  clear hb2 HAE HOO
  go_wp2_with fail
  refine HOC.out.mono ?_
  rintro e w3 ⟨rfl, hb3⟩
  have HR := Lib.hid (show Below w.heap.size w w3 from HB2.out.trans (hb3.mono HB2.out.size))
  clear hb3 HOC
  go_wp2_with fail
  exact bodyPost_ret (v := .tuple #[.int .i64 (n : Int), .int .i64 0]) (by simp [results, Try.results9, go_sem]) rfl ⟨rfl, HR.out⟩

/-- the conjugates are the generators -/
def Abl (T : Tw) : Prop := ∀ i L, T[i]? = some L → L.c.length = T.length - (i + 1) ∧ ∀ k y, L.c[k]? = some y → i + 1 + k < T.length ∧ pad (i + 1) y = (List.replicate T.length 0).set (i + 1 + k) 1
set_option maxRecDepth 100000 in
set_option maxHeartbeats 2000000 in
theorem isAbelian_any (T : Tw) (hs6 : T.length ≤ 6) (hA : Abl T) (w : World) (b o : Nat) (hP : PtrP Any w b o (ofTw T)) :
    Calls Try.prog 33 #[.pointer (some ⟨b, o, none⟩)] w (TrueR w) := by
  have HP := Lib.hid hP
  have HA := Lib.hid hA
  have HU := Lib.hid (fun n k hn hk W => ImplG.unitVector_any n k hn hk W)
  have HQ := Lib.hid (fun W va vb a b h1 h2 => ImplG.equal_any W va vb a b h1 h2)
  obtain ⟨_, hPb, vO, vP, vC, p0, p1, p2, hv⟩ := hP
  obtain ⟨aO, cO, aP, cP, aC, cC, rfl, rfl, rfl, hO1, hP1, hC1⟩ := hv.open
  clear hv hA
  go_enter Try.func33, Try.ntmps33
  go_wp2_with fail
  go_loopw [11] (fun iv wr => ∃ i : Nat, i ≤ T.length ∧ iv = .int .i64 (i : Int) ∧ Hid (Below w.heap.size w wr)) (fun iv _ => T.length - (intOf iv).toNat)
  case atStart => exact ⟨0, Nat.zero_le _, rfl, Lib.hid (Below.refl _ _)⟩
  case round =>
    obtain ⟨i, hi, rfl, hB⟩ := hrel
    clear p0 p1 p2
    by_cases hlt : i < T.length
    · obtain ⟨L, hL⟩ : ∃ L, T[i]? = some L := ⟨_, List.getElem?_eq_getElem hlt⟩
      obtain ⟨hcl, hab⟩ := HA.out i L hL
      have HAB := Lib.hid hab
      have HLL := Lib.hid hL
      obtain ⟨-, hPb', vO, vP, vC, p0, p1, p2, hv⟩ := HP.out.keep (Keep.of_below (S := Any) hB.out)
      obtain ⟨aO', cO', aP', cP', aC', cC', rfl, rfl, rfl, -, -, -⟩ := hv.open
      obtain ⟨bC, oC, a2, c2, rfl, _, hbC, hcC, hlc, hrow⟩ := hv.con hL
      have HROW := Lib.hid hrow
      obtain ⟨m, hm⟩ : ∃ m, L.c.length = m := ⟨_, rfl⟩
      rw [hm] at hcC hcl hlc
      have HM := Lib.hid hm
      have hii : (i : Int) < (T.length : Int) := by omega
      have hii0 : (0 : Int) ≤ (i : Int) := by omega
      have hm6 : m ≤ 6 := by omega
      have HBo := Lib.hid hB.out
      clear hL hab hv hrow hm
      go_wp2_with fail
      rename World => wo
      go_loopw [22] (fun kv wr => ∃ k : Nat, k ≤ m ∧ kv = .int .i64 (k : Int) ∧ Hid (Below wo.heap.size wo wr)) (fun kv _ => m - (intOf kv).toNat)
      case atStart => exact ⟨0, Nat.zero_le _, rfl, Lib.hid (Below.refl _ _)⟩
      case round =>
        obtain ⟨k, hk, rfl, hB2⟩ := hrel
        clear p0 p1 p2 hcC
        by_cases hkm : k < m
        · obtain ⟨y, hy⟩ : ∃ y, L.c[k]? = some y := ⟨_, List.getElem?_eq_getElem (by rw [HM.out]; exact hkm)⟩
          obtain ⟨hik, hpad⟩ := HAB.out k y hy
          obtain ⟨b2, o2, u, rfl, _, hb2, hcu, hu⟩ := HROW.out k y hy
          have hk2 := Keep.of_below (S := Any) hB2.out
          have hcu' := (hk2.cell (b := b2) (o := o2 + k) trivial hb2).trans hcu
          have hb2' := Nat.lt_of_lt_of_le hb2 hk2.size
          have HUU := Lib.hid (hu.keep hk2)
          rw [hpad] at HUU
          obtain ⟨aU, cU, rfl, _⟩ := SlI.open HUU.out
          have hul : ((List.replicate T.length 0).set (i + 1 + k) 1).length = T.length := by simp
          rw [hul] at HUU hcu'
          have hw1 : IntKind.i64.wrap ((i : Int) + 1) = (i : Int) + 1 := IntWalk.i64_in _ (by omega)
          have hw2 : IntKind.i64.wrap ((i : Int) + 1 + (k : Int)) = (i : Int) + 1 + (k : Int) := IntWalk.i64_in _ (by omega)
          have HUC := Lib.hid (show Calls Try.prog 40 #[.int .i64 (T.length : Int), .int .i64 ((i : Int) + 1 + (k : Int))] _ (NewS (ints ((List.replicate T.length 0).set (i + 1 + k) 1)) _) from by
            have h := HU.out T.length (i + 1 + k) hs6 hik wr
            rw [show (((i + 1 + k : Nat)) : Int) = (i : Int) + 1 + (k : Int) by omega] at h
            exact h)
          have hki : (k : Int) < (m : Int) := by omega
          clear hy hpad hcu hu hk2 hik
          go_wp2_with fail
          refine HUC.out.mono ?_
          rintro e w3 ⟨g, c3, rfl, ho3, hb3⟩
          have HB3 := Lib.hid (hB2.out.trans (hb3.mono hB2.out.size))
          have HQC := Lib.hid (HQ.out w3 (.slice aU T.length cU) (.slice (some ⟨g, 0, none⟩) (ints ((List.replicate T.length 0).set (i + 1 + k) 1)).length c3) _ _ (HUU.out.keep (Keep.of_below hb3)) (ho3.sl.mono (fun _ _ => trivial)))
          clear ho3 hb3 HUC hcu' hul
          go_wp2_with fail
          refine HQC.out.mono ?_
          rintro e w4 ⟨rfl, nq, rfl⟩
          have HB4 := Lib.hid (below_drewN HB3.out nq)
          have hdd : decide (ints ((List.replicate T.length 0).set (i + 1 + k) 1) = ints ((List.replicate T.length 0).set (i + 1 + k) 1)) = true := by simp
          clear HQC hB2
          go_wp2_with fail
          go_roundw
          case rel => exact ⟨k + 1, by omega, by go_num, HB4⟩
          case measure => simp [intOf]; omega
        · obtain rfl : k = m := by omega
          have HB3 := Lib.hid (HBo.out.trans (hB2.out.mono HBo.out.size))
          clear hB2 hkm
          go_wp2_with fail
          go_roundw
          case rel => exact ⟨i + 1, by omega, by go_num, HB3⟩
          case measure => simp [intOf]; omega
    · obtain rfl : i = T.length := by omega
      have HR := Lib.hid (show TrueR w (.returned (.bool true)) wr from ⟨rfl, hB.out⟩)
      clear hB hlt
      go_wp2_with fail
      go_ret
      exact HR.out
set_option maxRecDepth 100000 in
set_option maxHeartbeats 1000000 in
theorem isAbelianGroup_any (T : Tw) (hs6 : T.length ≤ 6) (hA : Abl T) (hG : Grp (ofTw T)) (w : World) (vO vP vC : Value) (hP : ValP Any w vO vP vC (ofTw T)) :
    Calls Try.prog 11 #[.agg #[vO, vP, vC]] w fun e w' => e = .returned (.tuple #[.bool true, .int .i64 0]) ∧ Below w.heap.size w w' := by
  obtain ⟨W0, hW0⟩ : ∃ W0, W0 = w.alloc (.cells #[vO, vP, vC] 29) := ⟨_, rfl⟩
  have hs0 : W0.heap.size = w.heap.size + 1 := by rw [hW0]; simp
  have hb0 : Below w.heap.size w W0 := by rw [hW0]; exact (Below.refl _ _).alloc (Nat.le_refl _) _
  obtain ⟨e0, e1, e2⟩ := row3' (show W0.heap[w.heap.size]? = some (.cells #[vO, vP, vC] 29 (0, 0)) by rw [hW0]; exact heap_alloc_new _ _)
  have HPT := Lib.hid (show PtrP Any W0 w.heap.size 0 (ofTw T) from ⟨trivial, by omega, _, _, _, e0, e1, e2, hP.keep (Keep.of_below hb0)⟩)
  have HB0 := Lib.hid hb0
  have HGC := Lib.hid (ImplI.group_any W0 vO vP vC (ofTw T) (hP.keep (Keep.of_below hb0)))
  have HAB := Lib.hid (fun W h => isAbelian_any T hs6 hA W w.heap.size 0 h)
  have HGP := Lib.hid hG
  have hl0 : w.heap.size < W0.heap.size := by omega
  clear hP hA hG hb0 hs0
  go_enter Try.func11, Try.ntmps11
  go_upto_region 1 with fail
  rw [← hW0]
  clear hW0
  go_wp2_with fail
  refine HGC.out.mono ?_
  rintro e w1 ⟨r, rfl, hr, hb1⟩
  obtain rfl : r = true := hr.2 HGP.out
  have HB1 := Lib.hid (HB0.out.trans (hb1.mono HB0.out.size))
  have HAC := Lib.hid (HAB.out w1 (HPT.out.keep (Keep.of_below hb1)))
  clear hr hb1 HGC e0 e1 e2
  go_wp2_with fail
  refine HAC.out.mono ?_
  rintro e w2 ⟨rfl, hb2⟩
  have HR := Lib.hid (show Below w.heap.size w w2 from HB1.out.trans (hb2.mono HB1.out.size))
  clear hb2 HAC
  go_wp2_with fail
  exact bodyPost_ret (v := .tuple #[.bool true, .int .i64 0]) (by simp [results, Try.results11, go_sem]) rfl ⟨rfl, HR.out⟩
end Go.Proofs.Ytabeedimnbkcgaa.CyF

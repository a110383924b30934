import Derived.Test.YtbamkklhkhglnaaGreatDoorImplF
import Derived.Test.YtbamkklhkhglnaaGreatDoorPlainA
namespace Go.Proofs.YtbamkklhkhglnaaGreatDoor.ImplG
open Go.RowKit Go.Proofs.YtbamkklhkhglnaaGreatDoor Go.Proofs.YtbamkklhkhglnaaGreatDoor.Tow Go.Proofs.YtbamkklhkhglnaaGreatDoor.ImplB Go.Proofs.YtbamkklhkhglnaaGreatDoor.ImplC Go.Proofs.YtbamkklhkhglnaaGreatDoor.ImplD Go.Proofs.YtbamkklhkhglnaaGreatDoor.ImplE Go.Proofs.YtbamkklhkhglnaaGreatDoor.ImplF
set_option linter.unusedVariables false
set_option linter.unusedSimpArgs false

/-- two lists are compared -/
def EqR (a b : List Int) (w : World) (e : Ending) (w' : World) : Prop := e = .returned (.bool (decide (a = b))) ∧ ∃ n, w' = w.drewN n
/-- the conjugate of a by c -/
def CjR (T : Tw) (s : Nat) (a c : List Nat) (w : World) (e : Ending) (w' : World) : Prop := ∃ z, (El (T.drop s) z ∧ mul (T.drop s) c z = mul (T.drop s) a c) ∧ NewS (ints (pad s z)) w e w'

set_option maxHeartbeats 400000 in
theorem conjugate_any (T : Tw) (hT : Wf T) (hs : Small T) (s : Nat) (h : s ≤ T.length) (hg : Tow.Good (T.drop s)) (w : World) (b o : Nat) (va vc : Value) (x y : List Nat) (hP : PtrP Any w b o (ofTw T)) (ha : SlI Any w va (ints (pad s x))) (hn : NN va) (hb : SlI Any w vc (ints (pad s y))) (hnc : NN vc)
    (hx : El (T.drop s) x) (hy : El (T.drop s) y) :
    Calls Tryz.prog 167 #[.pointer (some ⟨b, o, none⟩), va, vc] w (CjR T s x y w) := by
  have G := grp (Wf_drop hT s) hg
  have HI := Lib.hid (fun W hP ha hn => invert_any T hT hs s h hg W b o vc y hP ha hn hy)
  have HM := Lib.hid (fun W va vb x y hP ha hn hb hx hy => multiply_any T hT hs s h hg W b o va vb x y hP ha hn hb hx hy)
  have HG := Lib.hid G
  have HP := Lib.hid hP
  have HA := Lib.hid ha
  have HB := Lib.hid hb
  have HN := Lib.hid (And.intro hn hnc)
  clear hP ha hb hn hnc G
  go_enter Tryz.func167, Tryz.ntmps167
  go_wp2_with fail
  refine (HI.out _ HP.out HB.out HN.out.2).mono ?_
  rintro e w1 ⟨z, ⟨hz1, hz2⟩, g1, c1, rfl, ho1, hb1⟩
  have HO1 := Lib.hid ho1
  have HB1 := Lib.hid hb1
  have HZ := Lib.hid (And.intro hz1 hz2)
  clear ho1 hb1 hz1 hz2
  go_wp2_with fail
  refine (HM.out _ va vc x y (HP.out.keep (Keep.of_below HB1.out)) (HA.out.keep (Keep.of_below HB1.out)) HN.out.1 (HB.out.keep (Keep.of_below HB1.out)) hx hy).mono ?_
  rintro e w2 ⟨g2, c2, rfl, ho2, hb2⟩
  have HO2 := Lib.hid ho2
  have HB2 := Lib.hid (HB1.out.trans (hb2.mono HB1.out.size))
  have HO12 := Lib.hid (HO1.out.of_below hb2)
  clear ho2 hb2
  go_wp2_with fail
  refine (HM.out _ _ _ z (mul (T.drop s) x y) (HP.out.keep (Keep.of_below HB2.out)) (HO12.out.sl.mono (fun _ _ => trivial)) (NN_some _ _ _) (HO2.out.sl.mono (fun _ _ => trivial)) HZ.out.1 (HG.out.cl hx hy)).mono ?_
  rintro e w3 ⟨g3, c3, rfl, ho3, hb3⟩
  have HO3 := Lib.hid (ho3.mono (B' := w.heap.size) HB2.out.size)
  have HB3 := Lib.hid (HB2.out.trans (hb3.mono HB2.out.size))
  clear ho3 hb3
  go_wp2_with fail
  go_ret
  exact ⟨mul (T.drop s) z (mul (T.drop s) x y), ⟨HG.out.cl HZ.out.1 (HG.out.cl hx hy), by rw [← HG.out.as hy HZ.out.1 (HG.out.cl hx hy), HZ.out.2, HG.out.eL (HG.out.cl hx hy)]⟩, g3, c3, rfl, HO3.out, HB3.out⟩

set_option maxHeartbeats 400000 in
theorem unitVector_any (n k : Nat) (hn : n ≤ 6) (hk : k < n) (w : World) :
    Calls Tryz.prog 118 #[.int .i64 (n : Int), .int .i64 (k : Int)] w (NewS (ints ((List.replicate n 0).set k 1)) w) := by
  have hmk := mk22 n hn
  have HO := Own.made (B := w.heap.size) w n (Nat.le_refl _) (by unfold maxLen; omega)
  obtain ⟨s1, f1⟩ := HO.cell (j := k) (a := 0) (by simp [hk])
  have hl := World.ownsRow_lit (base := w.heap.size) (e := 2) (size := 1) w ((madeCells #[.int .i64 0] n).setIfInBounds k (.int .i64 1)) n (Nat.le_refl _) (by unfold maxLen; omega) (by simp [madeCells])
  have HFF := Lib.hid (show Own w.heap.size (w.alloc (.cells ((madeCells #[.int .i64 0] n).setIfInBounds k (.int .i64 1)) 2)) (.slice (some ⟨w.heap.size, 0, none⟩) n n) (ints ((List.replicate n 0).set k 1)) from by
    unfold Own
    rw [Array.toList_setIfInBounds, toList_madeCells_one] at hl
    simpa [vals, ints] using hl)
  clear HO hl
  go_enter Tryz.func118, Tryz.ntmps118
  go_wp2_with fail
  go_ret
  have e1 : (ints ((List.replicate n 0).set k 1)).length = n := by simp [ints]
  exact ⟨w.heap.size, n, by rw [e1]; rfl, by rw [e1]; exact HFF.out, (Below.refl _ _).alloc (Nat.le_refl _) _⟩

set_option maxHeartbeats 400000 in
theorem equal_any (w : World) (va vb : Value) (a b : List Int) (ha : SlI Any w va a) (hb : SlI Any w vb b) :
    Calls Tryz.prog 129 #[va, vb] w (EqR a b w) := by
  obtain ⟨aA, cA, rfl, _, hmA, _, hA⟩ := ha
  obtain ⟨aB, cB, rfl, _, hmB, _, hB⟩ := hb
  unfold maxLen at hmA hmB
  have hA63 : (a.length : Int) ≤ 9223372036854775807 := by omega
  have HMA := Lib.hid hmA
  have HMB := Lib.hid hmB
  clear hmA hmB
  by_cases hl : a.length = b.length
  · have hl2 : ((a.length : Int) != (b.length : Int)) = false := by simp; omega
    have HA := Lib.hid hA
    have HB := Lib.hid hB
    have HL := Lib.hid hl
    clear hA hB hl
    go_enter Tryz.func129, Tryz.ntmps129
    go_wp2_with fail
    go_loopw [13] (fun i wr => ∃ k : Nat, k ≤ a.length ∧ i = .int .i64 (k : Int) ∧ Hid ((∀ j, j < k → a[j]? = b[j]?) ∧ ∃ n, wr = w.drewN n)) (fun i _ => a.length - (intOf i).toNat)
    case atStart => exact ⟨0, Nat.zero_le _, rfl, Lib.hid ⟨fun j h => absurd h (Nat.not_lt_zero _), 0, rfl⟩⟩
    case round =>
      obtain ⟨k, hk, rfl, hR⟩ := hrel
      obtain ⟨m, hw⟩ := hR.out.2
      subst hw
      by_cases hlt : k < a.length
      · obtain ⟨x, hx⟩ : ∃ x, a[k]? = some x := ⟨_, List.getElem?_eq_getElem hlt⟩
        obtain ⟨y, hy⟩ : ∃ y, b[k]? = some y := ⟨_, List.getElem?_eq_getElem (by rw [← HL.out]; exact hlt)⟩
        obtain ⟨bA, oA, rfl, _, hbA, u, hcA, rfl⟩ := HA.out k x hx
        obtain ⟨bB, oB, rfl, _, hbB, u, hcB, rfl⟩ := HB.out k y hy
        have hk2 : k < b.length := by rw [← HL.out]; exact hlt
        have HX := Lib.hid hx
        have HY := Lib.hid hy
        have w4 : (k : Int) < (a.length : Int) := by omega
        have w5 : (0 : Int) ≤ (k : Int) := by omega
        have w6 : (k : Int) < (b.length : Int) := by omega
        clear hx hy
        by_cases hxy : x = y
        · have h2 : (x != y) = false := by simp [hxy]
          have HXY := Lib.hid hxy
          clear hxy
          go_wp2_with fail
          go_quiet (fail)
          go_wp2_with fail
          go_roundw
          case rel => exact ⟨k + 1, by omega, by go_num, Lib.hid ⟨fun j hj => by
              rcases Nat.lt_succ_iff_lt_or_eq.1 hj with h | h
              · exact hR.out.1 j h
              · subst h; rw [HX.out, HY.out, HXY.out], m + nq, by first | rfl | rw [World.drewN_drewN]⟩⟩
          case measure => simp [intOf]; omega
        · have h2 : (x != y) = true := by simpa using hxy
          have HXY := Lib.hid hxy
          clear hxy
          go_wp2_with fail
          go_quiet (fail)
          go_wp2_with fail
          go_ret
          refine ⟨ret_b ?_, m + nq, by first | rfl | rw [World.drewN_drewN]⟩
          symm
          rw [decide_eq_false_iff_not]
          intro e
          rw [e, HY.out] at HX
          exact HXY.out (Option.some.inj HX.out).symm
      · obtain rfl : k = a.length := by omega
        go_wp2_with fail
        go_ret
        refine ⟨ret_b ?_, m, rfl⟩
        symm
        rw [decide_eq_true_iff]
        apply List.ext_getElem?
        intro j
        by_cases hj : j < a.length
        · exact hR.out.1 j hj
        · rw [List.getElem?_eq_none (by omega), List.getElem?_eq_none (by rw [← HL.out]; omega)]
  · have hl2 : ((a.length : Int) != (b.length : Int)) = true := by simp; omega
    clear hA hB
    go_enter Tryz.func129, Tryz.ntmps129
    go_wp2_with fail
    go_ret
    refine ⟨ret_b ?_, 0, rfl⟩
    symm
    rw [decide_eq_false_iff_not]
    intro e
    exact hl (by rw [e])
end Go.Proofs.YtbamkklhkhglnaaGreatDoor.ImplG

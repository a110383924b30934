import Derived.Test.YtbamkklhkhglnaaGreatDoorTmB
import Derived.Test.YtbamkklhkhglnaaGreatDoorImplG
/-
  impl.trivialRelations: the presentation with trivial relations, with its values.
-/
namespace Go.Proofs.YtbamkklhkhglnaaGreatDoor.TmC
open Go.RowKit Go.Proofs.YtbamkklhkhglnaaGreatDoor Go.Proofs.YtbamkklhkhglnaaGreatDoor.Tow Go.Proofs.YtbamkklhkhglnaaGreatDoor.CyA Go.Proofs.YtbamkklhkhglnaaGreatDoor.CyB Go.Proofs.YtbamkklhkhglnaaGreatDoor.TxB Go.Proofs.YtbamkklhkhglnaaGreatDoor.TmA Go.Proofs.YtbamkklhkhglnaaGreatDoor.TmB
open Go.Proofs.YtbamkklhkhglnaaGreatDoor.DwB (mkE infoR3 row3f new2 old2 put3 own_any unit_any rowV)
set_option linter.unusedVariables false
set_option linter.unusedSimpArgs false

set_option maxRecDepth 100000 in
set_option maxHeartbeats 4000000 in
theorem triv_any (os : List Int) (v : Value) (w : World) (hv : SlI Any w v os) (hn : os.length ≤ 6) :
    Calls Tryz.prog 97 #[v] w (TriR os w) := by
  obtain ⟨i0, hi, hz0, hz1, hz2⟩ := info_parts infoR
  obtain ⟨j0, ji, jz0, jz1, jz2⟩ := info_parts infoR3
  obtain ⟨a, c, rfl, hcl, hcm⟩ := slg_form hv
  obtain ⟨n, hnn⟩ : ∃ n, os.length = n := ⟨_, rfl⟩
  have HV := Lib.hid hv
  have HNN := Lib.hid hnn
  have HC := Lib.hid (fun W hv => (ImplB.clone_any Any (.slice a os.length c) os W hv (by omega)).mono (R' := fun e w' => ∃ a2 c2, e = .returned (.slice a2 os.length c2) ∧ Own W.heap.size w' (.slice a2 os.length c2) os ∧ Below W.heap.size W w') (by
    rintro e w2 ⟨v2, rfl, ho2, hb2⟩
    obtain ⟨a2, c2, rfl, _, _⟩ := slg_form ho2.sl
    exact ⟨_, c2, rfl, ho2, hb2⟩))
  have HU := Lib.hid (fun k hk W => ImplG.unitVector_any n k (by omega) hk W)
  rw [hnn] at hn HC hcl ⊢
  have hv' := hv
  rw [hnn] at hv'
  have HV := Lib.hid hv'
  have hmk : ∀ W : World, (Instr.makeSlice 87 (.int .i64 (n : Int)) (.int .i64 (n : Int))).run Tryz.prog W = .ok (.slice (some ⟨W.heap.size, 0, none⟩) n n) (W.alloc (.cells (madeCells #[.int .i64 0] n) 2)) := fun W => mkE n (by omega) W
  clear hv hv' hnn
  go_enter Tryz.func97, Tryz.ntmps97
  go_upto_region 1 with fail
  obtain ⟨w1, hw1⟩ : ∃ w1, w1 = w.alloc (.cells #[.slice none 0 0, .slice none 0 0, .slice none 0 0] 91) := ⟨_, rfl⟩
  rw [← hw1]
  have hb1 : Below w.heap.size w w1 := by rw [hw1]; exact (Below.refl _ _).alloc (Nat.le_refl _) _
  have hs1 : w1.heap.size = w.heap.size + 1 := by rw [hw1]; simp
  have G1 := Lib.hid (show w1.heap[w.heap.size]? = some (.cells #[.slice none 0 0, .slice none 0 0, .slice none 0 0] 91 (0, 0)) by rw [hw1]; exact heap_alloc_new _ _)
  have HV1 := Lib.hid (HV.out.keep (Keep.of_below hb1))
  have HB1 := Lib.hid hb1
  have HS1 := Lib.hid hs1
  clear hw1 hb1 hs1
  go_wp2_with (first | (go_at_call 117; refine (HC.out _ HV1.out).mono ?_; rintro e w2 ⟨a2, c2, rfl, ho2, hb2⟩) | fail)
  obtain ⟨g, hg⟩ : ∃ g, w2.heap.size = g := ⟨_, rfl⟩
  obtain ⟨w3, hw3⟩ : ∃ w3, w3 = w2.alloc (.cells #[.slice a2 n c2, .slice none 0 0, .slice none 0 0] 91) := ⟨_, rfl⟩
  have HT0 := Lib.hid (show TV w1.heap.size n w3 g (.slice a2 n c2) (.slice none 0 0) (.slice none 0 0) os 0 0 from TV.start (by rw [hw3, ← hg]; exact heap_alloc_new _ _) (by have := hb2.size; omega) (by
    rw [hw3]
    exact Own.alloc ho2 _))
  have HB3 := Lib.hid (show Below w1.heap.size w1 w3 from by rw [hw3]; exact hb2.alloc hb2.size _)
  rw [← hw3, hg]
  clear hw3 hg ho2 hb2
  have hn63 : (n : Int) ≤ 100 := by omega
  go_loopw [14] (fun iv wr => ∃ (i : Nat) (vP vC : Value), i ≤ n ∧ iv = .int .i64 (i : Int) ∧ Hid (TV w1.heap.size n wr g (.slice a2 n c2) vP vC os i i) ∧ Hid (Below w1.heap.size w1 wr)) (fun iv _ => n - (intOf iv).toNat)
  case atStart => exact ⟨0, _, _, Nat.zero_le _, rfl, HT0, HB3⟩
  case round =>
    obtain ⟨i, vP, vC, hi', rfl, hS, hB⟩ := hrel
    by_cases hlt : i < n
    · obtain ⟨us, hp1, hp2⟩ := hS.out.P
      obtain ⟨aP, cP, rfl, _⟩ := owns_form hp1
      have HP := Lib.hid hp1
      have HP2 := Lib.hid hp2
      clear hp1 hp2
      obtain ⟨⟨e0, e1, e2⟩, f0, f1, f2⟩ := row3f hS.out.bx
      have hgl : g < wr.heap.size := hS.out.lt
      have HBX := Lib.hid hS.out.bx
      have hne : some g ≠ (Value.slice aP i cP).ownBlock := fun e => owns_ne HP.out HBX.out (by decide) e.symm
      have HS1 := Lib.hid hB.out.size
      have hki : (i : Int) < (n : Int) := by omega
      have hi6 : i ≤ 100 := by omega
      obtain ⟨w4, hw4⟩ : ∃ w4, w4 = wr := ⟨_, rfl⟩
      have HW4 := Lib.hid hw4
      clear hw4
      go_upto_region 6 with fail
      go_cut [22] (fun sv W => ∃ c5 gg, sv = .slice (some ⟨gg, 0, none⟩) (i + 1) c5 ∧ Hid (TV w1.heap.size n W g (.slice a2 n c2) (.slice (some ⟨gg, 0, none⟩) (i + 1) c5) vC os (i + 1) i) ∧ Hid (Below w1.heap.size w1 W))
      case rest =>
        obtain ⟨c5, gg, rfl, hS', hB'⟩ := hcut
        clear hS hB HP HP2 HBX hne HS1 e0 e1 e2 f0 f1 f2 hgl
        obtain ⟨wo, hwo⟩ : ∃ wo, wo = wc := ⟨_, rfl⟩
        rw [← hwo] at hS' hB' ⊢
        have hgo : g < wo.heap.size := hS'.out.lt
        clear hwo
        have hw1 : IntKind.i64.wrap ((i : Int) + 1) = (i : Int) + 1 := IntWalk.i64_in _ (by omega)
        have HLN := Lib.hid (crowI_len n i)
        go_wp2_with fail
        go_loopw [6, 7] (fun lv jv wr => ∃ k : Nat, i + 1 + k ≤ n ∧ jv = .int .i64 ((i : Int) + 1 + (k : Int)) ∧ Hid (Own2 87 2 wo.heap.size wr lv ((crowI n i).take k)) ∧ Hid (Below wo.heap.size wo wr)) (fun _ jv _ => n - (intOf jv).toNat)
        case atStart => exact ⟨0, by omega, by simp, Lib.hid (Own2.nil _ _ _ _), Lib.hid (Below.refl _ _)⟩
        case round =>
          obtain ⟨k, hk, rfl, hO, hBI⟩ := hrel
          obtain ⟨aL, cL, rfl, _, _⟩ := hO.out.form
          have hll : ((crowI n i).take k).length = k := by rw [List.length_take, HLN.out]; omega
          rw [hll] at hO ⊢
          have hw2 : IntKind.i64.wrap ((i : Int) + 1 + (k : Int)) = (i : Int) + 1 + (k : Int) := IntWalk.i64_in _ (by omega)
          by_cases hlt2 : i + 1 + k < n
          · have hki2 : (i : Int) + 1 + (k : Int) < (n : Int) := by omega
            have HUC := Lib.hid (show Calls Tryz.prog 118 #[.int .i64 (n : Int), .int .i64 ((i : Int) + 1 + (k : Int))] _ (NewS (ints ((List.replicate n 0).set (i + 1 + k) 1)) _) from by
              have h := HU.out (i + 1 + k) hlt2 wr
              rw [show (((i + 1 + k : Nat)) : Int) = (i : Int) + 1 + (k : Int) by omega] at h
              exact h)
            obtain ⟨us, q1, q2, q4⟩ := hO.out
            have HUS := Lib.hid (And.intro q1 (And.intro q2 q4))
            rw [hll] at HUS
            have HSZ := Lib.hid hBI.out.size
            have hk6 : k ≤ 100 := by omega
            clear q1 q2 q4 hll
            go_wp2_with fail
            refine HUC.out.mono ?_
            rintro e w5 ⟨g5, c5', rfl, ho5, hb5⟩
            have hl5 : (ints ((List.replicate n 0).set (i + 1 + k) 1)).length = n := by rw [ints_length]; simp
            have HRW := Lib.hid (RowOk.keep (NewS.row (ho5.mono HSZ.out)) ((Keep.refl Any w5).alloc (.cells #[.slice (some ⟨g5, 0, none⟩) (ints ((List.replicate n 0).set (i + 1 + k) 1)).length c5'] 87)) fun _ _ => trivial)
            rw [hl5] at HRW ⊢
            have a1 := ownsRow_keep HUS.out.1 (S := Any) ((Keep.of_below hb5).trans ((Keep.refl Any w5).alloc (.cells #[.slice (some ⟨g5, 0, none⟩) n c5'] 87))) (fun _ _ => trivial)
            have HB5 := Lib.hid ((hBI.out.trans (hb5.mono hBI.out.size)).alloc (by have := HSZ.out; have := hb5.size; omega) (.cells #[.slice (some ⟨g5, 0, none⟩) n c5'] 87))
            have HK5 := Lib.hid (show Keep Any wr _ from (Keep.of_below hb5).trans ((Keep.refl Any w5).alloc (.cells #[.slice (some ⟨g5, 0, none⟩) n c5'] 87)))
            have HS5 := Lib.hid (show wo.heap.size ≤ w5.heap.size by have := HSZ.out; have := hb5.size; omega)
            clear ho5 hb5 hl5
            go_wp2_with (at_builtin; (refine wpList_append_lies _ rfl _ _ 88 rfl wo.heap.size 87 i0 (.slice none 0 0) 1 24 Tryz.underlying88 hi hz0 hz1 hz2 rfl (by decide) _ _ _ rfl a1 ⟨w5.heap.size, 0, none⟩ 1 1 [.slice (some ⟨g5, 0, none⟩) n c5'] rfl rfl (World.news_of_block (cs := #[.slice (some ⟨g5, 0, none⟩) n c5']) (t := 87) (fr := (0, 0)) (heap_alloc_new w5 _)) (by simp [Value.oneCell']) (by decide) (by unfold maxLen; omega) (by omega) (by have := HS5.out; simp; omega) _ rfl ?_))
            intro g6 c6 w6 ho6 hg6 hat6 hlt6
            have hl7 : ((crowI n i).take k).length = k := by rw [List.length_take, HLN.out]; omega
            have HN := Lib.hid (Own2.push (rows := (crowI n i).take k) (by decide) hl7 a1 (by rw [HUS.out.2.1, hl7]) (fun i' r u h1 h2 => (HUS.out.2.2 i' r u h1 h2).keep HK5.out (fun _ _ => trivial)) HRW.out ho6 hg6)
            rw [crowI_succ (by omega)] at HN
            have HBN := Lib.hid (HB5.out.grown hg6 (by have := HS5.out; simp; omega) (by intro b hb; exact (World.ownsRow.lt a1 b hb).1))
            clear ho6 hg6 hat6 hlt6 a1 hl7 hO hBI HB5
            go_wp2_with fail
            go_roundw
            case rel => exact ⟨k + 1, by omega, by go_num, HN, HBN⟩
            case measure => simp [intOf]; omega
          · obtain rfl : k = n - (i + 1) := by omega
            have hlx : n - (i + 1) = (crowI n i).length := HLN.out.symm
            have HOF := Lib.hid (show Own2 87 2 wo.heap.size wr (.slice aL (n - (i + 1)) cL) (crowI n i) from by
              have h := hO.out
              rw [List.take_of_length_le (by rw [HLN.out]; exact Nat.le_refl _)] at h
              exact h)
            obtain ⟨ln, hln⟩ : ∃ ln, n - (i + 1) = ln := ⟨_, rfl⟩
            have hln6 : ln ≤ 100 := by omega
            have hjn : (i : Int) + 1 + (ln : Int) = (n : Int) := by omega
            rw [hln] at HOF ⊢
            have HT := Lib.hid (hS'.out.below hBI.out)
            have HBB := Lib.hid (hB'.out.trans (hBI.out.mono hB'.out.size))
            have HS6 := Lib.hid (show w1.heap.size ≤ wr.heap.size from HBB.out.size)
            obtain ⟨us, c1o, c3o, c4o⟩ := hS'.out.C
            have HBND := Lib.hid (show ∀ x ∈ us, ∀ k, x.ownBlock = some k → k < wo.heap.size from fun x hx k hk => by
              obtain ⟨ii, hii⟩ := List.getElem?_of_mem hx
              exact (O2.lt (c3o ii x hii).1 k hk).2)
            have c1 := ownsRow_keep c1o (S := Any) (Keep.of_below hBI.out) (fun _ _ => trivial)
            have HC3 := Lib.hid (show ∀ (i : Nat) u, us[i]? = some u → O2 w1.heap.size wr u (crowI n i) ∧ Apart u (.slice (some ⟨gg, 0, none⟩) (i + 1) c5) from fun ii u hu => ⟨(c3o ii u hu).1.of_below hBI.out, (c3o ii u hu).2⟩)
            have HC4 := Lib.hid c4o
            obtain ⟨aC, cC, rfl, _⟩ := owns_form c1
            clear c1o c3o c4o
            obtain ⟨⟨e0, e1, e2⟩, f0, f1, f2⟩ := row3f HT.out.bx
            have hgl : g < wr.heap.size := HT.out.lt
            have HBX := Lib.hid HT.out.bx
            have hne : some g ≠ (Value.slice aC i cC).ownBlock := fun e => owns_ne c1 HBX.out (by decide) e.symm
            obtain ⟨pus, hpu1, hpu2⟩ := hS'.out.P
            have hgl2 := World.ownsRow.lt hpu1 gg rfl
            have HUF := Lib.hid (show O2 w1.heap.size (wr.alloc (.cells #[.slice aL ln cL] 88)) (.slice aL ln cL) (crowI n i) from (HOF.out.mono (by have := hB'.out.size; omega)).keep (S := Any) ((Keep.refl _ wr).alloc _) fun _ _ => trivial)
            have HUA := Lib.hid (show ∀ x ∈ us, Apart (.slice aL ln cL) x ∧ Apart x (.slice aL ln cL) from fun x hx => ⟨fun k hk hk2 => by
                have h1 := (O2.lt HOF.out k hk).1
                have h2 := HBND.out x hx k hk2
                omega, fun k hk hk2 => by
                have h1 := (O2.lt HOF.out k hk2).1
                have h2 := HBND.out x hx k hk
                omega⟩)
            have HAP := Lib.hid (show Apart (.slice aL ln cL) (.slice (some ⟨gg, 0, none⟩) (i + 1) c5) from fun k hk hk2 => by
              have h5 := (O2.lt HOF.out k hk).1
              have h6 : gg = k := by simpa [Value.ownBlock] using hk2
              omega)
            clear hpu1 hpu2 hgl2
            have a1 := ownsRow_keep c1 (S := Any) ((Keep.refl Any wr).alloc (.cells #[.slice aL ln cL] 88)) (fun _ _ => trivial)
            have HBW := Lib.hid (show Below wr.heap.size wr (wr.alloc (.cells #[.slice aL ln cL] 88)) from (Below.refl _ _).alloc (Nat.le_refl _) _)
            clear hlx hO hll hBI hlt2 HOF
            have hfin : ¬ ((i : Int) + 1 + (ln : Int) < (n : Int)) := by omega
            have hi66 : i ≤ 100 := by omega
            go_wp2_with (at_builtin; (refine wpList_append_lies _ rfl _ _ 89 rfl w1.heap.size 88 j0 (.slice none 0 0) 1 24 Tryz.underlying89 ji jz0 jz1 jz2 rfl (by decide) _ _ _ rfl a1 ⟨wr.heap.size, 0, none⟩ 1 1 [.slice aL ln cL] rfl rfl (World.news_of_block (cs := #[.slice aL ln cL]) (t := 88) (fr := (0, 0)) (heap_alloc_new wr _)) (by simp [Value.oneCell']) (by decide) (by unfold maxLen; omega) (by omega) (by have := HS6.out; simp; omega) _ rfl ?_))
            intro g7 c7 w7 ho7 hg7 hat7 hlt7
            have g10 := (hg7.block g (by simp; omega) hne).trans ((Below.heap_alloc wr _ g hgl).trans HBX.out)
            obtain ⟨⟨m0, m1, m2⟩, n0, n1, n2⟩ := row3f g10
            have HN := Lib.hid (TV.con HT.out HBW.out a1 HC3.out HC4.out HUF.out HAP.out HUA.out ho7 hg7)
            have HBN := Lib.hid ((HBB.out.alloc HS6.out (.cells #[.slice aL ln cL] 88)).grown hg7 (by have := HS6.out; simp; omega) (by intro b hb; exact (World.ownsRow.lt a1 b hb).1))
            have HBN2 := Lib.hid (HBN.out.setCell (p := ⟨g, 2, none⟩) HT.out.hg (.slice (some ⟨g7, 0, none⟩) (i + 1) c7))
            clear ho7 hg7 hat7 hlt7 a1 g10 c1 e0 e1 e2 HT HUF HBW HBN HC3 HAP
            go_wp2_with fail
            go_roundw
            case rel => exact ⟨i + 1, _, _, by omega, by go_num, HN, HBN2⟩
            case measure => simp [intOf]; omega
      go_region_law
        (first | (refine step_append_lies _ (by rfl) _ _ _ (by rfl) w1.heap.size 87 i0 (.slice none 0 0) 1 24 Tryz.underlying88 hi hz0 hz1 hz2 rfl (by omega) (.slice aP i cP) i us (by rfl) (ownsRow_keep HP.out (S := Any) (by repeat (first | exact (Keep.refl _ _).drew | exact Keep.refl _ _ | refine Keep.drew ?_ | refine Keep.alloc ?_ _)) (fun _ _ => trivial)) ⟨wr.heap.size + 1, 0, none⟩ 1 1 [rowV n wr.heap.size] (by rfl) (by rfl) (World.news_of_block (cs := #[rowV n wr.heap.size]) (t := 87) (fr := (0, 0)) (by first | exact new2 wr.drew _ _ | exact new2 wr _ _)) (by simp [Value.oneCell']) (by omega) (by unfold maxLen; omega) (by omega) (by have := HS1.out; simp; omega) _ rfl ?_; intro gg cap w10 hown10 hgrow10 hat10 hlt10; have g10 := (hgrow10.block g (by simp; omega) hne).trans (by first | exact old2 (W := wr.drew) HBX.out | exact old2 (W := wr) HBX.out); obtain ⟨⟨m0, m1, m2⟩, n0, n1, n2⟩ := row3f g10))
      all_goals
        have HW : Below wr.heap.size wr ((wr.alloc (Obj.cells (madeCells #[Value.int IntKind.i64 0] n) 2)).alloc (Obj.cells #[rowV n wr.heap.size] 87)).drew := (((Below.refl _ _).alloc (Nat.le_refl _) _).alloc (by simp) _).drew
        have HOW := Lib.hid (show RO w1.heap.size ((wr.alloc (Obj.cells (madeCells #[Value.int IntKind.i64 0] n) 2)).alloc (Obj.cells #[rowV n wr.heap.size] 87)).drew (rowV n wr.heap.size) (zer n) from (RO.made HS1.out (by omega)).keep (S := Any) (((Keep.refl _ _).alloc _).drew) fun _ _ => trivial)
        have HR := Lib.hid (TV.row hS.out HW (ownsRow_keep HP.out (S := Any) (Keep.of_below HW) (fun _ _ => trivial)) HP2.out HOW.out hown10 hgrow10 (by rcases hat10 with h | h; exact .inl h; exact .inr (by rw [h]; exact Nat.le_refl _)))
        go_wp2_with fail
        go_meet
        refine ⟨cap, gg, rfl, HR, ?_⟩
        · exact Lib.hid (((hB.out.trans (HW.mono HS1.out)).grown hgrow10 (Nat.le_trans HS1.out HW.size) (by intro k hk; exact (World.ownsRow.lt HP.out k hk).1)).setCell (p := ⟨g, 1, none⟩) hS.out.hg _)
    · obtain rfl : i = n := by omega
      have HR0 := Lib.hid (blk' hB.out (by have := HS1.out; omega) G1.out)
      obtain ⟨⟨r0, r1, r2⟩, s0, s1, s2⟩ := row3f HR0.out
      obtain ⟨⟨e0, e1, e2⟩, f0, f1, f2⟩ := row3f hS.out.bx
      obtain ⟨us, k1, k2, _⟩ := hS.out.C
      obtain ⟨ps, k3, k4⟩ := hS.out.P
      obtain ⟨aP, cP, rfl, _⟩ := owns_form k3
      obtain ⟨aC, cC, rfl, _⟩ := owns_form k1
      have HFIN := Lib.hid (show TriR os w (.returned (.agg #[.slice a2 i c2, .slice aP i cP, .slice aC i cC])) (((wr.setCell ⟨w.heap.size, 0, none⟩ (.slice a2 i c2)).setCell ⟨w.heap.size, 1, none⟩ (.slice aP i cP)).setCell ⟨w.heap.size, 2, none⟩ (.slice aC i cC)) from by
        refine ⟨_, _, _, rfl, ?_, ?_⟩
        · exact ((hS.out.kept ((((Keep.refl _ wr).setCell (by have := HS1.out; simp; omega) _).setCell (by have := HS1.out; simp; omega) _).setCell (by have := HS1.out; simp; omega) _)).mono (by have := HS1.out; omega)).pp HNN.out
        · exact (((HB1.out.trans (hB.out.mono (by have := HS1.out; omega))).setCell (p := ⟨w.heap.size, 0, none⟩) (Nat.le_refl _) _).setCell (p := ⟨w.heap.size, 1, none⟩) (Nat.le_refl _) _).setCell (p := ⟨w.heap.size, 2, none⟩) (Nat.le_refl _) _)
      clear hS k1 k2 k3 k4
      go_wp2_with fail
      obtain ⟨⟨z0, z1, z2⟩, -⟩ := row3f (put3 (x := .slice a2 i c2) (y := .slice aP i cP) (z := .slice aC i cC) HR0.out)
      exact bodyPost_ret (v := .agg #[.slice a2 i c2, .slice aP i cP, .slice aC i cC]) (by simp [results, Tryz.results97, go_sem, z0, z1, z2]) rfl HFIN.out
end Go.Proofs.YtbamkklhkhglnaaGreatDoor.TmC

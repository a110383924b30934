import Derived.Test.YtabeedimnbkcgaaCyJ
/-
  spec: l01Own, l07Unit, l01In, l07Trivial.
-/
namespace Go.Proofs.Ytabeedimnbkcgaa.CyK
open Go.RowKit Go.Proofs.Ytabeedimnbkcgaa Go.Proofs.Ytabeedimnbkcgaa.Tow Go.Proofs.Ytabeedimnbkcgaa.CyA Go.Proofs.Ytabeedimnbkcgaa.CyD Go.Proofs.Ytabeedimnbkcgaa.CyI Go.Proofs.Ytabeedimnbkcgaa.CyJ
set_option linter.unusedVariables false
set_option linter.unusedSimpArgs false

set_option maxHeartbeats 400000 in
theorem own_any (S : Nat → Prop) (v : Value) (l : List Int) (w : World) (hv : SlI S w v l) (hl : l.length ≤ 1000000) :
    Calls Try.prog 42 #[v] w (NewS l w) := by
  obtain ⟨i0, hi, hz0, hz1, hz2⟩ := info_parts infoI
  obtain ⟨ao, c, rfl, hc, hm, hn, hx⟩ := hv
  have HL := Lib.hid hl
  have HM := Lib.hid hm
  clear hl hm
  have hsl : SlI S w (.slice ao l.length c) l := ⟨ao, c, rfl, hc, HM.out, hn, hx⟩
  have HS := Lib.hid hsl
  have h00 := World.ownsRow_made (base := w.heap.size) (e := 2) (size := 1) w #[] 0 (Nat.le_refl _) (Nat.zero_le _) rfl
  have HX := Lib.hid hx
  clear hsl hx
  cases ao with
  | none =>
    obtain rfl : c = 0 := hn rfl
    obtain rfl : l = [] := List.eq_nil_of_length_eq_zero (by omega)
    go_enter Try.func42, Try.ntmps42
    go_wp2_with fail
    go_ret
    exact ⟨w.heap.size, 0, rfl, h00, (Below.refl _ _).alloc (Nat.le_refl _) _⟩
  | some ad =>
    have C1 := Lib.hid (SlI.src (w' := w.alloc (.cells #[] 2)) HS.out ((Keep.refl _ _).alloc _))
    have C2 := Lib.hid (vals_one l)
    have C3 := Lib.hid (show 0 + l.length ≤ maxLen from by have := HL.out; unfold maxLen; omega)
    have C4 := Lib.hid (show (0 + l.length) * 8 ≤ 140737488355328 from by have := HL.out; omega)
    have C5 := Lib.hid (show (vals l).length = l.length * 1 by simp [vals])
    go_enter Try.func42, Try.ntmps42
    go_wp2_with (at_builtin; refine wpList_append_own _ rfl _ _ 25 rfl w.heap.size 2 i0 (.int .i64 0) 1 8 Try.underlying25 hi hz0 hz1 hz2 rfl (by decide) _ _ _ rfl h00 ad l.length c (vals l) rfl C5.out C1.out C2.out C3.out C4.out (by simp) ?_)
    intro v' w1 hown' hgrow hnil
    have hO : Own w.heap.size w1 v' l := by simpa [Own] using hown'
    have hB : Below w.heap.size w w1 := ((Below.refl _ _).alloc (Nat.le_refl _) _).grown hgrow (by simp) (by intro k hk; simp [Value.ownBlock] at hk; omega)
    have hne : v' ≠ .slice none 0 0 := hnil
    clear hown' hgrow hnil
    go_wp2_with fail
    go_ret
    obtain ⟨g, cap, rfl⟩ := hO.head hne
    exact ⟨g, cap, rfl, hO, hB⟩
theorem Own_lit {B : Nat} (w : World) (cs : Array Value) (x : List Int) (hB : B ≤ w.heap.size) (hn : x.length ≤ maxLen) (h : cs.toList = vals x) : Own B (w.alloc (.cells cs 2)) (.slice (some ⟨w.heap.size, 0, none⟩) x.length x.length) x := by
  have := World.ownsRow_lit (base := B) (e := 2) (size := 1) w cs x.length hB hn (by rw [← Array.length_toList, h]; simp [vals])
  rw [h] at this
  exact this

def UnitR (n k : Nat) (w : World) (e : Ending) (w' : World) : Prop := ∃ g, e = .returned (rowV n g) ∧ Own w.heap.size w' (rowV n g) (ints ((List.replicate n 0).set k 1)) ∧ Below w.heap.size w w'
set_option maxHeartbeats 400000 in
theorem unit_row (n k : Nat) (hn : n ≤ 6) (hk : k < n) (w : World) :
    Calls Try.prog 26 #[.int .i64 (n : Int), .int .i64 (k : Int)] w (UnitR n k w) := by
  have hmk := CyG.mkE n (by omega) w
  have HO := Own.made (B := w.heap.size) w n (Nat.le_refl _) (by unfold maxLen; omega)
  obtain ⟨s1, f1⟩ := HO.cell (j := k) (a := 0) (by simp [hk])
  have HFF := Lib.hid (Own_lit (B := w.heap.size) w ((madeCells #[.int .i64 0] n).setIfInBounds k (.int .i64 1)) (ints ((List.replicate n 0).set k 1)) (Nat.le_refl _) (by simp [ints]; unfold maxLen; omega) (by
    rw [Array.toList_setIfInBounds, toList_madeCells_one]; simp [vals, ints]))
  clear HO
  go_enter Try.func26, Try.ntmps26
  go_wp2_with fail
  go_ret
  have := HFF.out
  simp only [ints_length, List.length_set, List.length_replicate] at this
  exact ⟨w.heap.size, rfl, this, (Below.refl _ _).alloc (Nat.le_refl _) _⟩
theorem unit_any (n k : Nat) (hn : n ≤ 6) (hk : k < n) (w : World) :
    Calls Try.prog 26 #[.int .i64 (n : Int), .int .i64 (k : Int)] w (NewS (ints ((List.replicate n 0).set k 1)) w) :=
  (unit_row n k hn hk w).mono fun e w' ⟨g, h1, h2, h3⟩ => ⟨g, n, by rw [h1]; simp [ints], by simpa [ints] using h2, h3⟩
theorem in_T (x lo hi : Int) (h1 : lo ≤ x) (h2 : x ≤ hi) (w : World) : Calls Try.prog 23 #[.int .i64 x, .int .i64 lo, .int .i64 hi] w fun e w' => e = .returned (.bool true) ∧ w' = w := by
  have h1' : x ≥ lo := h1
  go_enter Try.func23, Try.ntmps23
  go_wp2_with fail
  go_ret
  exact ⟨rfl, rfl⟩
theorem in_F (x lo hi : Int) (h : ¬ (lo ≤ x ∧ x ≤ hi)) (w : World) : Calls Try.prog 23 #[.int .i64 x, .int .i64 lo, .int .i64 hi] w fun e w' => e = .returned (.bool false) ∧ w' = w := by
  by_cases h1 : lo ≤ x
  · have h2 : ¬ x ≤ hi := fun h2 => h ⟨h1, h2⟩
    have h3 : decide (x ≤ hi) = false := decide_eq_false h2
    have h4 : decide (lo ≤ x) = true := decide_eq_true h1
    clear h
    go_enter Try.func23, Try.ntmps23
    go_wp2_with fail
    go_ret
    exact ⟨rfl, rfl⟩
  · have h4 : decide (lo ≤ x) = false := decide_eq_false h1
    clear h
    go_enter Try.func23, Try.ntmps23
    go_wp2_with fail
    go_ret
    exact ⟨rfl, rfl⟩
set_option maxRecDepth 100000 in
set_option maxHeartbeats 4000000 in
theorem triv_any (os : List Nat) (v : Value) (w : World) (hv : SlI Any w v (ints os)) (hn : os.length ≤ 6) :
    Calls Try.prog 25 #[v] w (TriR os w) := by
  obtain ⟨i0, hi, hz0, hz1, hz2⟩ := info_parts infoR
  obtain ⟨j0, ji, jz0, jz1, jz2⟩ := info_parts infoR3
  obtain ⟨a, c, rfl, hcl, hcm⟩ := slg_form hv
  rw [ints_length] at hcl ⊢
  obtain ⟨n, hnn⟩ : ∃ n, os.length = n := ⟨_, rfl⟩
  have HV := Lib.hid hv
  have HNN := Lib.hid hnn
  have HC := Lib.hid (fun W hv => (own_any Any (.slice a os.length c) (ints os) W hv (by rw [ints_length]; omega)).mono (R' := fun e w' => ∃ a2 c2, e = .returned (.slice a2 os.length c2) ∧ SlI (fun k => W.heap.size ≤ k) w' (.slice a2 os.length c2) (ints os) ∧ Below W.heap.size W w') (by
    rintro e w2 ⟨g2, c2, rfl, ho2, hb2⟩
    rw [ints_length] at ho2 ⊢
    exact ⟨_, c2, rfl, ho2.sl, hb2⟩))
  have HU := Lib.hid (fun k hk W => unit_any n k (by omega) hk W)
  rw [hnn] at hn HC hcl ⊢
  have hv' := hv
  rw [ints_length, hnn] at hv'
  have HV := Lib.hid hv'
  have hmk : ∀ W : World, (Instr.makeSlice 25 (.int .i64 (n : Int)) (.int .i64 (n : Int))).run Try.prog W = .ok (.slice (some ⟨W.heap.size, 0, none⟩) n n) (W.alloc (.cells (madeCells #[.int .i64 0] n) 2)) := fun W => CyG.mkE n (by omega) W
  clear hv hv' hnn
  go_enter Try.func25, Try.ntmps25
  go_upto_region 1 with fail
  obtain ⟨w1, hw1⟩ : ∃ w1, w1 = w.alloc (.cells #[.slice none 0 0, .slice none 0 0, .slice none 0 0] 29) := ⟨_, rfl⟩
  rw [← hw1]
  have hb1 : Below w.heap.size w w1 := by rw [hw1]; exact (Below.refl _ _).alloc (Nat.le_refl _) _
  have hs1 : w1.heap.size = w.heap.size + 1 := by rw [hw1]; simp
  have G1 := Lib.hid (show w1.heap[w.heap.size]? = some (.cells #[.slice none 0 0, .slice none 0 0, .slice none 0 0] 29 (0, 0)) by rw [hw1]; exact heap_alloc_new _ _)
  have HV1 := Lib.hid (HV.out.keep (Keep.of_below hb1))
  have HB1 := Lib.hid hb1
  have HS1 := Lib.hid hs1
  clear hw1 hb1 hs1
  go_wp2_with (first | (go_at_call 42; refine (HC.out _ HV1.out).mono ?_; rintro e w2 ⟨a2, c2, rfl, ho2, hb2⟩) | fail)
  obtain ⟨g, hg⟩ : ∃ g, w2.heap.size = g := ⟨_, rfl⟩
  obtain ⟨w3, hw3⟩ : ∃ w3, w3 = w2.alloc (.cells #[.slice a2 n c2, .slice none 0 0, .slice none 0 0] 29) := ⟨_, rfl⟩
  have HT0 := Lib.hid (show TS w1.heap.size n w3 g (.slice a2 n c2) (.slice none 0 0) (.slice none 0 0) os [] [] [] from TS.start (by rw [hw3, ← hg]; exact heap_alloc_new _ _) (by have := hb2.size; omega) (by
    rw [hw3, ← hg]
    exact ((SlI_inB ho2).keep ((Keep.refl _ w2).alloc _)).mono fun k hk => ⟨by have := hk.2; omega, hk.1⟩))
  have HB3 := Lib.hid (show Below w1.heap.size w1 w3 from by rw [hw3]; exact hb2.alloc hb2.size _)
  rw [← hw3, hg]
  clear hw3 hg ho2 hb2
  have hn63 : (n : Int) ≤ 6 := by omega
  go_loopw [5] (fun iv wr => ∃ (i : Nat) (vP vC : Value) (bs : List Nat), i ≤ n ∧ iv = .int .i64 (i : Int) ∧ Hid (TS w1.heap.size n wr g (.slice a2 n c2) vP vC os bs (zrows n i) ((crow n).take i)) ∧ Hid (Below w1.heap.size w1 wr)) (fun iv _ => n - (intOf iv).toNat)
  case atStart => exact ⟨0, _, _, [], Nat.zero_le _, rfl, HT0, HB3⟩
  case round =>
    obtain ⟨i, vP, vC, bs, hi', rfl, hS, hB⟩ := hrel
    by_cases hlt : i < n
    · have hbl : bs.length = i := by have := hS.out.len; unfold zrows at this; rw [List.length_replicate] at this; omega
      obtain ⟨aP, cP, rfl⟩ := owns_form hS.out.P
      rw [hbl] at hS
      have HP := Lib.hid (show wr.ownsRow w1.heap.size 25 1 (.slice aP i cP) i (bs.map (rowV n)) from by have := hS.out.P; rw [hbl] at this; exact this)
      have HBL := Lib.hid hbl
      obtain ⟨⟨e0, e1, e2⟩, f0, f1, f2⟩ := row3f hS.out.bx
      have hgl : g < wr.heap.size := hS.out.lt
      have HBX := Lib.hid hS.out.bx
      have hne : some g ≠ (Value.slice aP i cP).ownBlock := fun e => owns_ne HP.out HBX.out (by decide) e.symm
      have HS1 := Lib.hid hB.out.size
      have hki : (i : Int) < (n : Int) := by omega
      have hi6 : i ≤ 6 := by omega
      obtain ⟨w4, hw4⟩ : ∃ w4, w4 = wr := ⟨_, rfl⟩
      have HW4 := Lib.hid hw4
      clear hbl hw4
      go_upto_region 6 with fail
      go_cut [23] (fun sv W => ∃ b c5 gg, sv = .slice (some ⟨gg, 0, none⟩) (i + 1) c5 ∧ Hid (TS w1.heap.size n W g (.slice a2 n c2) (.slice (some ⟨gg, 0, none⟩) (i + 1) c5) vC os (bs ++ [b]) (zrows n (i + 1)) ((crow n).take i)) ∧ Hid (Below w1.heap.size w1 W))
      case rest =>
        obtain ⟨b, c5, gg, rfl, hS', hB'⟩ := hcut
        clear hS hB HP HBX hne HS1 e0 e1 e2 f0 f1 f2 hgl
        obtain ⟨wo, hwo⟩ : ∃ wo, wo = wc := ⟨_, rfl⟩
        rw [← hwo] at hS' hB' ⊢
        have hgo : g < wo.heap.size := hS'.out.lt
        clear hwo
        obtain ⟨bs', hbs'⟩ : ∃ bs', bs ++ [b] = bs' := ⟨_, rfl⟩
        rw [hbs'] at hS'
        clear hbs' HBL
        have hw1 : IntKind.i64.wrap ((i : Int) + 1) = (i : Int) + 1 := IntWalk.i64_in _ (by omega)
        have HLN := Lib.hid (crowI_len n i)
        have HNIL := Lib.hid (show Own2 25 2 wo.heap.size (wo.alloc (.cells #[] 25)) (.slice (some ⟨wo.heap.size, 0, none⟩) 0 0) ((crowI n i).take 0) from ⟨[], World.ownsRow_lit (base := wo.heap.size) (e := 25) (size := 1) wo #[] 0 (Nat.le_refl _) (by unfold maxLen; omega) (by simp), rfl, by simp⟩)
        go_wp2_with fail
        go_loopw [6, 7] (fun lv jv wr => ∃ k : Nat, i + 1 + k ≤ n ∧ jv = .int .i64 ((i : Int) + 1 + (k : Int)) ∧ Hid (Own2 25 2 wo.heap.size wr lv ((crowI n i).take k)) ∧ Hid (Below wo.heap.size wo wr)) (fun _ jv _ => n - (intOf jv).toNat)
        case atStart => exact ⟨0, by omega, by simp, HNIL, (Lib.hid ((Below.refl _ _).alloc (Nat.le_refl _) _))⟩
        case round =>
          obtain ⟨k, hk, rfl, hO, hBI⟩ := hrel
          obtain ⟨aL, cL, rfl, _, _⟩ := hO.out.form
          have hll : ((crowI n i).take k).length = k := by rw [List.length_take, HLN.out]; omega
          rw [hll] at hO ⊢
          have hw2 : IntKind.i64.wrap ((i : Int) + 1 + (k : Int)) = (i : Int) + 1 + (k : Int) := IntWalk.i64_in _ (by omega)
          by_cases hlt2 : i + 1 + k < n
          · have hki2 : (i : Int) + 1 + (k : Int) < (n : Int) := by omega
            have HUC := Lib.hid (show Calls Try.prog 26 #[.int .i64 (n : Int), .int .i64 ((i : Int) + 1 + (k : Int))] _ (NewS (ints ((List.replicate n 0).set (i + 1 + k) 1)) _) from by
              have h := HU.out (i + 1 + k) hlt2 wr
              rw [show (((i + 1 + k : Nat)) : Int) = (i : Int) + 1 + (k : Int) by omega] at h
              exact h)
            obtain ⟨us, q1, q2, q4⟩ := hO.out
            have HUS := Lib.hid (And.intro q1 (And.intro q2 q4))
            rw [hll] at HUS
            have HSZ := Lib.hid hBI.out.size
            have hk6 : k ≤ 6 := by omega
            clear q1 q2 q4 hll
            go_wp2_with fail
            refine HUC.out.mono ?_
            rintro e w5 ⟨g5, c5', rfl, ho5, hb5⟩
            have hl5 : (ints ((List.replicate n 0).set (i + 1 + k) 1)).length = n := by rw [ints_length]; simp
            have HRW := Lib.hid (RowOk.keep (NewS.row (ho5.mono HSZ.out)) ((Keep.refl Any w5).alloc (.cells #[.slice (some ⟨g5, 0, none⟩) (ints ((List.replicate n 0).set (i + 1 + k) 1)).length c5'] 25)) fun _ _ => trivial)
            rw [hl5] at HRW ⊢
            have a1 := ownsRow_keep HUS.out.1 (S := Any) ((Keep.of_below hb5).trans ((Keep.refl Any w5).alloc (.cells #[.slice (some ⟨g5, 0, none⟩) n c5'] 25))) (fun _ _ => trivial)
            have HB5 := Lib.hid ((hBI.out.trans (hb5.mono hBI.out.size)).alloc (by have := HSZ.out; have := hb5.size; omega) (.cells #[.slice (some ⟨g5, 0, none⟩) n c5'] 25))
            have HK5 := Lib.hid (show Keep Any wr _ from (Keep.of_below hb5).trans ((Keep.refl Any w5).alloc (.cells #[.slice (some ⟨g5, 0, none⟩) n c5'] 25)))
            have HS5 := Lib.hid (show wo.heap.size ≤ w5.heap.size by have := HSZ.out; have := hb5.size; omega)
            clear ho5 hb5 hl5
            go_wp2_with (at_builtin; (refine wpList_append_lies _ rfl _ _ 26 rfl wo.heap.size 25 i0 (.slice none 0 0) 1 24 Try.underlying26 hi hz0 hz1 hz2 rfl (by decide) _ _ _ rfl a1 ⟨w5.heap.size, 0, none⟩ 1 1 [.slice (some ⟨g5, 0, none⟩) n c5'] rfl rfl (World.news_of_block (cs := #[.slice (some ⟨g5, 0, none⟩) n c5']) (t := 25) (fr := (0, 0)) (heap_alloc_new w5 _)) (by simp [Value.oneCell']) (by decide) (by unfold maxLen; omega) (by omega) (by have := HS5.out; simp; omega) _ rfl ?_))
            intro g6 c6 w6 ho6 hg6 hat6 hlt6
            have hl7 : ((crowI n i).take k).length = k := by rw [List.length_take, HLN.out]; omega
            have HN := Lib.hid (Own2.push (rows := (crowI n i).take k) (by decide) hl7 a1 (by rw [HUS.out.2.1, hl7]) (fun i' r u h1 h2 => (HUS.out.2.2 i' r u h1 h2).keep HK5.out (fun _ _ => trivial)) HRW.out ho6 hg6)
            rw [crowI_succ (by omega)] at HN
            have HBN := Lib.hid (HB5.out.grown hg6 (by have := HS5.out; simp; omega) (by intro b hb; exact (World.ownsRow.lt a1 b hb).1))
            clear ho6 hg6 hat6 hlt6 a1 hl7 hO hBI HB5
            go_wp2_with fail
            go_roundw
            case rel => exact ⟨k + 1, by omega, by go_num, HN, HBN⟩
            case measure => simp [intOf]; omega
          · obtain rfl : k = n - (i + 1) := by omega
            have hlx : n - (i + 1) = (crowI n i).length := HLN.out.symm
            have HOF := Lib.hid (show Own2 25 2 wo.heap.size wr (.slice aL (n - (i + 1)) cL) (crowI n i) from by
              have h := hO.out
              rw [List.take_of_length_le (by rw [HLN.out]; exact Nat.le_refl _)] at h
              exact h)
            obtain ⟨ln, hln⟩ : ∃ ln, n - (i + 1) = ln := ⟨_, rfl⟩
            have hln6 : ln ≤ 6 := by omega
            have hjn : (i : Int) + 1 + (ln : Int) = (n : Int) := by omega
            rw [hln] at HOF ⊢
            have HT := Lib.hid (hS'.out.below hBI.out)
            have HBB := Lib.hid (hB'.out.trans (hBI.out.mono hB'.out.size))
            have HS6 := Lib.hid (show w1.heap.size ≤ wr.heap.size from HBB.out.size)
            obtain ⟨us, c1, c2, c3⟩ := HT.out.C
            have hcl : ((crow n).take i).length = i := by rw [List.length_take, crow_len]; omega
            rw [hcl] at c1 c2
            obtain ⟨aC, cC, rfl⟩ := owns_form c1
            have HC3 := Lib.hid c3
            have HUL := Lib.hid c2
            obtain ⟨⟨e0, e1, e2⟩, f0, f1, f2⟩ := row3f HT.out.bx
            have hgl : g < wr.heap.size := HT.out.lt
            have HBX := Lib.hid HT.out.bx
            have hne : some g ≠ (Value.slice aC i cC).ownBlock := fun e => owns_ne c1 HBX.out (by decide) e.symm
            have HUF := Lib.hid (show Sl2 (SS w1.heap.size (.slice (some ⟨gg, 0, none⟩) (i + 1) c5) (.slice aC i cC) g bs') _ (.slice aL ln cL) ((crowI n i).map ints) from (Sl2.keep HOF.out.sl ((Keep.refl _ wr).alloc (.cells #[.slice aL ln cL] 26))).mono (fun k hk => TS.far hS'.out k hk))
            have a1 := ownsRow_keep c1 (S := Any) ((Keep.refl Any wr).alloc (.cells #[.slice aL ln cL] 26)) (fun _ _ => trivial)
            have HBW := Lib.hid (show Below wr.heap.size wr (wr.alloc (.cells #[.slice aL ln cL] 26)) from (Below.refl _ _).alloc (Nat.le_refl _) _)
            have HIL := Lib.hid hcl
            clear hlx hO hll hBI hlt2 c3 c2 hcl HOF
            have hfin : ¬ ((i : Int) + 1 + (ln : Int) < (n : Int)) := by omega
            have hi66 : i ≤ 6 := by omega
            go_wp2_with (at_builtin; (refine wpList_append_lies _ rfl _ _ 27 rfl w1.heap.size 26 j0 (.slice none 0 0) 1 24 Try.underlying27 ji jz0 jz1 jz2 rfl (by decide) _ _ _ rfl a1 ⟨wr.heap.size, 0, none⟩ 1 1 [.slice aL ln cL] rfl rfl (World.news_of_block (cs := #[.slice aL ln cL]) (t := 26) (fr := (0, 0)) (heap_alloc_new wr _)) (by simp [Value.oneCell']) (by decide) (by unfold maxLen; omega) (by omega) (by have := HS6.out; simp; omega) _ rfl ?_))
            intro g7 c7 w7 ho7 hg7 hat7 hlt7
            have g10 := (hg7.block g (by simp; omega) hne).trans ((Below.heap_alloc wr _ g hgl).trans HBX.out)
            obtain ⟨⟨m0, m1, m2⟩, n0, n1, n2⟩ := row3f g10
            have HN := Lib.hid (TS.con HT.out HBW.out HUF.out (by rw [HIL.out]; exact a1) (by rw [HIL.out]; exact HUL.out) HC3.out (by rw [HIL.out]; exact ho7) hg7 (by rcases hat7 with h | h; exact .inl h; exact .inr (by rw [h]; simp)))
            rw [HIL.out, crow_succ hlt] at HN
            have HBN := Lib.hid ((HBB.out.alloc HS6.out (.cells #[.slice aL ln cL] 26)).grown hg7 (by have := HS6.out; simp; omega) (by intro b hb; exact (World.ownsRow.lt a1 b hb).1))
            have HBN2 := Lib.hid (HBN.out.setCell (p := ⟨g, 2, none⟩) HT.out.hg (.slice (some ⟨g7, 0, none⟩) (i + 1) c7))
            clear ho7 hg7 hat7 hlt7 a1 g10 c1 e0 e1 e2 HT HUF HBW HBN HC3
            go_wp2_with fail
            go_roundw
            case rel => exact ⟨i + 1, _, _, bs', by omega, by go_num, HN, HBN2⟩
            case measure => simp [intOf]; omega
      go_region_law
        (first | (refine step_append_lies _ (by rfl) _ _ _ (by rfl) w1.heap.size 25 i0 (.slice none 0 0) 1 24 Try.underlying26 hi hz0 hz1 hz2 rfl (by omega) (.slice aP i cP) i (bs.map (rowV n)) (by rfl) (ownsRow_keep HP.out (S := Any) (by repeat (first | exact (Keep.refl _ _).drew | exact Keep.refl _ _ | refine Keep.drew ?_ | refine Keep.alloc ?_ _)) (fun _ _ => trivial)) ⟨wr.heap.size + 1, 0, none⟩ 1 1 [rowV n wr.heap.size] (by rfl) (by rfl) (World.news_of_block (cs := #[rowV n wr.heap.size]) (t := 25) (fr := (0, 0)) (by first | exact new2 wr.drew _ _ | exact new2 wr _ _)) (by simp [Value.oneCell']) (by omega) (by unfold maxLen; omega) (by omega) (by have := HS1.out; simp; omega) _ rfl ?_; intro gg cap w10 hown10 hgrow10 hat10 hlt10; have g10 := (hgrow10.block g (by simp; omega) hne).trans (by first | exact old2 (W := wr.drew) HBX.out | exact old2 (W := wr) HBX.out); obtain ⟨⟨m0, m1, m2⟩, n0, n1, n2⟩ := row3f g10))
      all_goals
        have HW : Below wr.heap.size wr ((wr.alloc (Obj.cells (madeCells #[Value.int IntKind.i64 0] n) 2)).alloc (Obj.cells #[rowV n wr.heap.size] 25)).drew := (((Below.refl _ _).alloc (Nat.le_refl _) _).alloc (by simp) _).drew
        have HOW := Lib.hid (show Own w1.heap.size ((wr.alloc (Obj.cells (madeCells #[Value.int IntKind.i64 0] n) 2)).alloc (Obj.cells #[rowV n wr.heap.size] 25)).drew (rowV n wr.heap.size) (ints (List.replicate n 0)) from by
          have h := Own.made (B := w1.heap.size) wr n HS1.out (by unfold maxLen; omega)
          rw [ints_replicate] at h
          exact (h.alloc _).drew)
        have HR := Lib.hid (TS.row hS.out HW (b := wr.heap.size) (r := List.replicate n 0) (Nat.le_refl _) HS1.out HOW.out (by simp) (by rw [HBL.out]; exact hown10) hgrow10 (by rcases hat10 with h | h; exact .inl h; exact .inr (by rw [h]; exact Nat.le_refl _)))
        go_wp2_with fail
        go_meet
        refine ⟨wr.heap.size, cap, gg, rfl, ?_, ?_⟩
        · have h := HR.out
          rw [HBL.out, zrows_succ] at h
          exact Lib.hid h
        · exact Lib.hid (((hB.out.trans (HW.mono HS1.out)).grown hgrow10 (Nat.le_trans HS1.out HW.size) (by intro k hk; exact (World.ownsRow.lt HP.out k hk).1)).setCell (p := ⟨g, 1, none⟩) hS.out.hg _)
    · obtain rfl : i = n := by omega
      have HR0 := Lib.hid (blk' hB.out (by have := HS1.out; omega) G1.out)
      obtain ⟨⟨r0, r1, r2⟩, s0, s1, s2⟩ := row3f HR0.out
      obtain ⟨⟨e0, e1, e2⟩, f0, f1, f2⟩ := row3f hS.out.bx
      obtain ⟨us, k1, k2, k3⟩ := hS.out.C
      obtain ⟨aP, cP, rfl⟩ := owns_form hS.out.P
      obtain ⟨aC, cC, rfl⟩ := owns_form k1
      have hTT := hS.out
      rw [List.take_of_length_le (by rw [crow_len]; exact Nat.le_refl _)] at hTT
      have HF := Lib.hid hTT
      have HFIN := Lib.hid (show TriR os w (.returned (.agg #[.slice a2 i c2, .slice aP bs.length cP, .slice aC (min i (crow i).length) cC])) (((wr.setCell ⟨w.heap.size, 0, none⟩ (.slice a2 i c2)).setCell ⟨w.heap.size, 1, none⟩ (.slice aP bs.length cP)).setCell ⟨w.heap.size, 2, none⟩ (.slice aC (min i (crow i).length) cC)) from by
        refine ⟨_, _, _, bs, g, rfl, ?_, ?_⟩
        · rw [HNN.out]
          have h : min i (crow i).length = (crow i).length := by rw [crow_len]; exact Nat.min_self i
          rw [h]
          exact TS.mono (TS.kept hTT ((((Keep.refl _ wr).setCell (by have := HS1.out; simp; omega) _).setCell (by have := HS1.out; simp; omega) _).setCell (by have := HS1.out; simp; omega) _)) (by have := HS1.out; omega)
        · exact (((HB1.out.trans (hB.out.mono (by have := HS1.out; omega))).setCell (p := ⟨w.heap.size, 0, none⟩) (Nat.le_refl _) _).setCell (p := ⟨w.heap.size, 1, none⟩) (Nat.le_refl _) _).setCell (p := ⟨w.heap.size, 2, none⟩) (Nat.le_refl _) _)
      clear hS k1 k2 k3 hTT
      go_wp2_with fail
      obtain ⟨⟨z0, z1, z2⟩, -⟩ := row3f (put3 (x := .slice a2 i c2) (y := .slice aP bs.length cP) (z := .slice aC (min i (crow i).length) cC) HR0.out)
      exact bodyPost_ret (v := .agg #[.slice a2 i c2, .slice aP bs.length cP, .slice aC (min i (crow i).length) cC]) (by simp [results, Try.results25, go_sem, z0, z1, z2]) rfl HFIN.out
end Go.Proofs.Ytabeedimnbkcgaa.CyK

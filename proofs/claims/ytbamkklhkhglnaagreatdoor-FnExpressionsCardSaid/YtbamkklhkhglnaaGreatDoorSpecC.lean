import Derived.Test.YtbamkklhkhglnaaGreatDoorSpecB
namespace Go.Proofs.YtbamkklhkhglnaaGreatDoor.SpecC
open Go.RowKit Go.Proofs.YtbamkklhkhglnaaGreatDoor Go.Proofs.YtbamkklhkhglnaaGreatDoor.Tow Go.Proofs.YtbamkklhkhglnaaGreatDoor.SpecA Go.Proofs.YtbamkklhkhglnaaGreatDoor.SpecB
set_option linter.unusedVariables false
set_option linter.unusedSimpArgs false

set_option maxHeartbeats 2000000 in
theorem at_of (T : Tw) (hT : Wf T) (hs : Small T) (i : Nat) (L : Lv) (hL : T[i]? = some L) (hAt : AtSpec T (i + 1)) (hImg : ImgSpec T i L) : AtSpec T i := by
  intro w vO vP vC va vb a b hP ha hb hal hbl haE hbE
  have hi : i < T.length := (List.getElem?_eq_some_iff.1 hL).1
  have hs6 := hs.1
  have HK := Lib.hid (lvl hT hL)
  have hmk := mk22 T.length hs6
  obtain ⟨aO, cO, aP, cP, aC, cC, rfl, rfl, rfl, hO1, hP1, hC1⟩ := hP.open
  obtain ⟨aA, cA, rfl, hA1⟩ := ha.open
  obtain ⟨aB, cB, rfl, hB1⟩ := hb.open
  rw [hal] at hA1 ha ⊢
  rw [hbl] at hB1 hb ⊢
  obtain ⟨bO, oO, rfl, _, hbO, hcO⟩ := hP.ord hL
  obtain ⟨bP, oP, uP, rfl, _, hbP, hcP, huP⟩ := hP.pow hL
  obtain ⟨p, hp⟩ : ∃ p, a[i]? = some p := ⟨_, List.getElem?_eq_getElem (by omega)⟩
  obtain ⟨q, hq⟩ : ∃ q, b[i]? = some q := ⟨_, List.getElem?_eq_getElem (by omega)⟩
  obtain ⟨bA, oA, rfl, _, hbA, hcA⟩ := ha.at hp
  obtain ⟨bB, oB, rfl, _, hbB, hcB⟩ := hb.at hq
  have hp7 : p < 7 := hs.lt haE (Nat.le_refl _) hp
  have hq7 : q < 7 := hs.lt hbE (Nat.le_refl _) hq
  have ho7 : L.o ≤ 7 := hs.2 L (List.mem_of_getElem? hL)
  have HP := Lib.hid hP
  have HA := Lib.hid ha
  have HB := Lib.hid hb
  have HAT := Lib.hid hAt
  have HIM := Lib.hid hImg
  have HT := Lib.hid (And.intro hT (And.intro hs hL))
  clear hP ha hb hAt hImg hT hs hL
  have HC := Lib.hid (And.intro hcO (And.intro hcP (And.intro hcA hcB)))
  have HUP := Lib.hid huP
  have HPQ := Lib.hid (And.intro hp hq)
  have HE := Lib.hid (And.intro haE hbE)
  clear hcO hcP hcA hcB huP hp hq haE hbE
  have hla : (ints a).length = T.length := by rw [ints_length]; exact hal
  have hlb : (ints b).length = T.length := by rw [ints_length]; exact hbl
  obtain ⟨Z, hZ⟩ : ∃ Z : Nat → List Nat, Z = fun k => if k = 0 then a.set i 0 else pad (i + 1) (it (img (T.drop (i + 1)) L.c) k (a.drop (i + 1))) := ⟨_, rfl⟩
  have HZd := Lib.hid (show ∀ k, (Z k).drop (i + 1) = it (img (T.drop (i + 1)) L.c) k (a.drop (i + 1)) from by
    intro k; rw [hZ]
    by_cases h0 : k = 0
    · subst h0; simp [it, List.drop_set]
    · simp only [if_neg h0, pad_drop])
  have HE1 := Lib.hid (show El (T.drop (i + 1)) (a.drop (i + 1)) ∧ El (T.drop (i + 1)) (b.drop (i + 1)) from by
    have h1 := El_drop HE.out.1 1
    have h2 := El_drop HE.out.2 1
    rw [List.drop_drop, List.drop_drop] at h1 h2
    exact ⟨h1, h2⟩)
  have HZE := Lib.hid (show ∀ k, El (T.drop (i + 1)) (it (img (T.drop (i + 1)) L.c) k (a.drop (i + 1))) from fun k =>
    it_inv (El _) _ (fun z _ => El_img HK.out.1 HK.out.2.2.1 z) k _ HE1.out.1)
  have HZl := Lib.hid (show ∀ k, (Z k).length = T.length from by
    intro k; rw [hZ]
    by_cases h0 : k = 0
    · subst h0; simp [hal]
    · simp only [if_neg h0, pad_length, El_length (HZE.out k), List.length_drop]; omega)
  have HZ0 := Lib.hid (show Z 0 = a.set i 0 by rw [hZ]; rfl)
  have HZs := Lib.hid (show ∀ k, pad (i + 1) (img (T.drop (i + 1)) L.c ((Z k).drop (i + 1))) = Z (k + 1) from by
    intro k
    rw [HZd.out, ← it_succ' (img (T.drop (i + 1)) L.c), hZ]
    simp)
  clear hZ
  go_enter Tryz.func172, Tryz.ntmps172
  go_wp2_with fail
  refine (own_any Any _ _ _ (HA.out.keep ((Keep.refl _ _).alloc _)) (by omega)).mono ?_
  rintro e w1 ⟨g1, c1, rfl, ho1, hb1⟩
  rw [hla] at ho1 ⊢
  have HB1 := Lib.hid (show Below (w.heap.size + 1) (w.alloc (.cells #[.slice (some ⟨bO, oO, none⟩) T.length cO, .slice (some ⟨bP, oP, none⟩) T.length cP, .slice aC T.length cC] 91)) w1 from hb1.mono (by simp))
  have HO1 := Lib.hid (ho1.mono (B' := w.heap.size + 1) (by simp))
  clear hb1 ho1
  go_wp2_with fail
  refine (own_any Any _ _ _ (HB.out.keep (keep_boxed HB1.out Any)) (by omega)).mono ?_
  rintro e w2 ⟨g2, c2, rfl, ho2, hb2⟩
  rw [hlb] at ho2 ⊢
  have hlt1 := HO1.out.lt
  have hlt2 := ho2.lt
  have hsz1 : w.heap.size + 1 ≤ w1.heap.size := by have := HB1.out.size; simp at this; omega
  have hne : ¬ g1 = g2 := by omega
  have hne' : ¬ g2 = g1 := by omega
  have HO12 := HO1.out.of_below hb2
  obtain ⟨s1, f1⟩ := HO12.cell (j := i) (a := (p : Int)) (by rw [ints_get, HPQ.out.1]; rfl)
  obtain ⟨s2, f2⟩ := ho2.cell (j := i) (a := (q : Int)) (by rw [ints_get, HPQ.out.2]; rfl)
  have HL1 := HO12.set_n i 0
  have HO2a := (ho2.mono (B' := w.heap.size + 1) hsz1).keep (S := fun k => ¬ k = g1) (Keep.grown HL1.2 (fun k hk e => hk (Option.some.inj e))) (fun k hk => by simp [Value.ownBlock] at hk; omega)
  have HL2 := HO2a.set_n i 0
  have HL3 := HL1.1.keep (S := fun k => ¬ k = g2) (Keep.grown HL2.2 (fun k hk e => hk (Option.some.inj e))) (fun k hk => by simp [Value.ownBlock] at hk; omega)
  have HB2 := Lib.hid ((((HB1.out.trans (hb2.mono hsz1)).grown HL1.2 (by omega) (by intro k hk; cases hk; omega)).grown HL2.2 (by simp; omega) (by intro k hk; cases hk; omega)))
  rw [← HZ0.out] at HL3
  have HLL := Lib.hid HL3
  have HRR := Lib.hid HL2.1
  clear HO12 hb2 ho2 HL1 HO2a HL2 HL3
  go_wp2_with fail
  go_loopw [10, 12] (fun v k wr => ∃ t : Nat, t ≤ q ∧ k = .int .i64 (t : Int) ∧ Own (w.heap.size + 1) wr v (ints (Z t)) ∧ Own (w.heap.size + 1) wr (.slice (some ⟨g2, 0, none⟩) T.length c2) (ints (b.set i 0)) ∧
    Below (w.heap.size + 1) (w.alloc (.cells #[.slice (some ⟨bO, oO, none⟩) T.length cO, .slice (some ⟨bP, oP, none⟩) T.length cP, .slice aC T.length cC] 91)) wr) (fun _ k _ => q - (intOf k).toNat)
  case atStart =>
    exact ⟨0, Nat.zero_le _, rfl, HLL.out, HRR.out, HB2.out⟩
  case round =>
    obtain ⟨t, ht, rfl, hv, hr, hb⟩ := hrel
    have hk := keep_boxed hb Any
    have hcB : wr.cell? ⟨bB, oB + i, none⟩ = some (.int .i64 (q : Int)) := by rw [hk.cell trivial hbB]; exact HC.out.2.2.2
    have HV := Lib.hid hv
    have HR := Lib.hid hr
    have HB3 := Lib.hid hb
    have HKK := Lib.hid hk
    obtain ⟨e0, e1, e2⟩ := box_cells hb
    clear hv hr hb
    by_cases hlt : t < q
    · go_wp2_with fail
      refine (HIM.out _ _ _ _ _ (Z t) (HP.out.keep HKK.out) (HV.out.sl.mono (fun _ _ => trivial)) (HZl.out t) (by rw [HZd.out]; exact HZE.out t)).mono ?_
      rintro e w3 ⟨v3, rfl, ho3, hb3⟩
      rw [HZs.out] at ho3
      have hsz3 : w.heap.size + 1 ≤ wr.heap.size := by have := HB3.out.size; simp at this; omega
      have HO3 := Lib.hid (ho3.mono hsz3)
      have HR3 := Lib.hid (HR.out.of_below hb3)
      have HB4 := Lib.hid (HB3.out.trans (hb3.mono hsz3))
      clear ho3 hb3 hk hcB e0 e1 e2
      go_wp2_with fail
      go_roundw
      case rel => exact ⟨t + 1, by omega, by go_num, HO3.out, HR3.out, HB4.out⟩
      case measure => simp [intOf]; omega
    · obtain rfl : t = q := by omega
      have hsz3 : w.heap.size + 1 ≤ wr.heap.size := by have := HB3.out.size; simp at this; omega
      clear hlt
      go_wp2_with fail
      refine (HAT.out _ _ _ _ _ _ (Z t) (b.set i 0) (HP.out.keep HKK.out) (HV.out.sl.mono (fun _ _ => trivial)) (HR.out.sl.mono (fun _ _ => trivial)) (HZl.out t) (by simp [hbl]) (by rw [HZd.out]; exact HZE.out t) (by rw [show (b.set i 0).drop (i + 1) = b.drop (i + 1) by simp [List.drop_set]]; exact HE1.out.2)).mono ?_
      rintro e w4 ⟨v4, rfl, ho4, hb4⟩
      clear hk hcB e0 e1 e2
      rw [HZd.out, show (b.set i 0).drop (i + 1) = b.drop (i + 1) by simp [List.drop_set]] at ho4
      obtain ⟨R, hR⟩ : ∃ R, R = mul (T.drop (i + 1)) (it (img (T.drop (i + 1)) L.c) t (a.drop (i + 1))) (b.drop (i + 1)) := ⟨_, rfl⟩
      have HRE := Lib.hid (show El (T.drop (i + 1)) R by rw [hR]; exact El_mul HK.out.1 (HZE.out t) HE1.out.2)
      rw [← hR] at ho4
      have HRR := Lib.hid hR
      have HO4 := Lib.hid (ho4.mono hsz3)
      have HB4 := Lib.hid (HB3.out.trans (hb4.mono hsz3))
      have hk4 := keep_boxed HB4.out Any
      obtain ⟨e0, e1, e2⟩ := box_cells HB4.out
      have hcA : w4.cell? ⟨bA, oA + i, none⟩ = some (.int .i64 (p : Int)) := by rw [hk4.cell trivial hbA]; exact HC.out.2.2.1
      have hcB : w4.cell? ⟨bB, oB + i, none⟩ = some (.int .i64 (t : Int)) := by rw [hk4.cell trivial hbB]; exact HC.out.2.2.2
      have hcO : w4.cell? ⟨bO, oO + i, none⟩ = some (.int .i64 (L.o : Int)) := by rw [hk4.cell trivial hbO]; exact HC.out.1
      have hcP : w4.cell? ⟨bP, oP + i, none⟩ = some uP := by rw [hk4.cell trivial hbP]; exact HC.out.2.1
      have hsz4 : w.heap.size + 1 ≤ w4.heap.size := by have := HB4.out.size; simp at this; omega
      have w1 : IntKind.i64.wrap ((p : Int) + (t : Int)) = (p : Int) + (t : Int) := IntWalk.i64_in _ (by omega)
      have w6 : (i : Int) < (T.length : Int) := by omega
      have w7 : (0 : Int) ≤ (i : Int) := by omega
      have HK4 := Lib.hid hk4
      clear ho4 hb4 hk4 hR
      by_cases hge : L.o ≤ p + t
      · have hgi : (L.o : Int) ≤ (p : Int) + (t : Int) := by omega
        have hge2 : decide ((p : Int) + (t : Int) ≥ (L.o : Int)) = true := by simp; omega
        have w3 : IntKind.i64.wrap ((i : Int) + 1) = (i : Int) + 1 := IntWalk.i64_in _ (by omega)
        have hbP4 : bP < w4.heap.size := by omega
        have hsz44 : w.heap.size < w4.heap.size := by omega
        have HU4 := Lib.hid (HUP.out.keep (Keep.trans (keep_boxed HB4.out Any) (Keep.refl _ _)))
        have HP4 := Lib.hid (HP.out.keep HK4.out)
        have HRR2 := Lib.hid (El_mul HK.out.1 HK.out.2.2.2.1 HRE.out)
        go_wp2_with fail
        go_quiet (fail)
        go_wp2_with fail
        go_region_held3 (fun w' => (∀ b o, b < w4.heap.size → w'.cell? ⟨b, o, none⟩ = w4.cell? ⟨b, o, none⟩) ∧ Keep (fun _ => True) w4 w')
          (first | exact ks_mk (((Keep.refl _ _).drewN _).drew) | exact ks_mk (Keep.trans (((Keep.refl _ _).drewN _).drew) (Keep.of_below (by assumption))))
          (first | (go_at_call 172; refine (HAT.out _ _ _ _ _ _ (pad (i + 1) L.w) (pad (i + 1) R) (HP4.out.keep (((Keep.refl _ _).drewN _).drew)) (HU4.out.keep (((Keep.refl _ _).drewN _).drew)) ((HO4.out.sl.mono (fun _ _ => trivial)).keep (((Keep.refl _ _).drewN _).drew)) (by rw [pad_length, El_length HK.out.2.2.2.1]; simp; omega) (by rw [pad_length, El_length HRE.out]; simp; omega) (by rw [pad_drop]; exact HK.out.2.2.2.1) (by rw [pad_drop]; exact HRE.out)).mono ?_; rintro e w6 ⟨v6, rfl, ho6, hb6⟩))
        rw [pad_drop, pad_drop] at ho6
        have HZ6 := Lib.hid (show w.heap.size + 1 ≤ w6.heap.size from Nat.le_trans hsz4 (Nat.le_trans (show w4.heap.size ≤ ((w4.drewN nq).drew).heap.size from ((((Keep.refl (fun _ => True) w4).drewN nq).drew).size)) hb6.size))
        have hs4 : w.heap.size + 1 ≤ ((w4.drewN nq).drew).heap.size := Nat.le_trans hsz4 ((((Keep.refl (fun _ => True) w4).drewN nq).drew).size)
        have HO6 := Lib.hid (ho6.mono hs4)
        have HB6 := Lib.hid ((HB4.out.trans (below_drewN (Below.refl _ _) nq).drew).trans (hb6.mono hs4))
        clear ho6 hb6
        go_wp2_with fail
        have hr6 : (ints (pad (i + 1) (mul (T.drop (i + 1)) L.w R))).length = T.length := by rw [ints_length, pad_length, El_length HRR2.out]; simp; omega
        refine (own_any Any _ _ _ (HO6.out.sl.mono (fun _ _ => trivial)) (by omega)).mono ?_
        rintro e w7 ⟨g7, c7, rfl, ho7, hb7⟩
        rw [hr6] at ho7 ⊢
        have HBF := Lib.hid (HB6.out.trans (hb7.mono HZ6.out))
        have HO7 := Lib.hid (ho7.mono (B' := w.heap.size + 1) HZ6.out)
        obtain ⟨s7, f7⟩ := HO7.out.cell (j := i) (a := 0) (by rw [ints_get, pad, List.getElem?_append_left (by simp)]; simp)
        obtain ⟨hF, hG⟩ := HO7.out.set_n i (p + t - L.o)
        have hlt7 := HO7.out.lt
        have HBG := Lib.hid (HBF.out.grown hG (by have := HBF.out.size; simp at this; omega) (by intro k hk; cases hk; omega))
        have HFF := Lib.hid hF
        clear ho7 hb7 hF hG hr6
        go_wp2_with fail
        go_ret
        have hres : pad i (mul (T.drop i) (a.drop i) (b.drop i)) = (pad (i + 1) (mul (T.drop (i + 1)) L.w R)).set i (p + t - L.o) := by
          rw [drop_cons HT.out.2.2, List.drop_eq_getElem_cons (show i < a.length by omega), List.drop_eq_getElem_cons (show i < b.length by omega), (List.getElem?_eq_some_iff.1 HPQ.out.1).2, (List.getElem?_eq_some_iff.1 HPQ.out.2).2, mul_cons, if_pos hge, ← HRR.out, show pad (i + 1) (mul (T.drop (i + 1)) L.w R) = pad i (0 :: (mul (T.drop (i + 1)) L.w R)) by rw [← pad_add]; rfl]
          simp [pad]
        rw [hres]
        rw [show ((p : Int) + (t : Int) - (L.o : Int)) = ((p + t - L.o : Nat) : Int) by omega]
        exact ⟨_, rfl, by have := HFF.out.mono (B' := w.heap.size) (by omega); exact this, below_unboxed HBG.out⟩
      · have hgi : ¬ (L.o : Int) ≤ (p : Int) + (t : Int) := by omega
        have hge2 : decide ((p : Int) + (t : Int) ≥ (L.o : Int)) = false := by simp; omega
        have HRR2 := HRE
        go_wp2_with fail
        go_quiet (fail)
        go_wp2_with fail
        have HZ6 := Lib.hid (show w.heap.size + 1 ≤ (w4.drewN nq).heap.size from Nat.le_trans hsz4 (((Keep.refl (fun _ => True) w4).drewN nq).size))
        have HO6 := Lib.hid (HO4.out.drewN nq)
        have HB6 := Lib.hid (HB4.out.trans (below_drewN (Below.refl _ _) nq))
        have hr6 : (ints (pad (i + 1) (R))).length = T.length := by rw [ints_length, pad_length, El_length HRR2.out]; simp; omega
        refine (own_any Any _ _ _ (HO6.out.sl.mono (fun _ _ => trivial)) (by omega)).mono ?_
        rintro e w7 ⟨g7, c7, rfl, ho7, hb7⟩
        rw [hr6] at ho7 ⊢
        have HBF := Lib.hid (HB6.out.trans (hb7.mono HZ6.out))
        have HO7 := Lib.hid (ho7.mono (B' := w.heap.size + 1) HZ6.out)
        obtain ⟨s7, f7⟩ := HO7.out.cell (j := i) (a := 0) (by rw [ints_get, pad, List.getElem?_append_left (by simp)]; simp)
        obtain ⟨hF, hG⟩ := HO7.out.set_n i (p + t)
        have hlt7 := HO7.out.lt
        have HBG := Lib.hid (HBF.out.grown hG (by have := HBF.out.size; simp at this; omega) (by intro k hk; cases hk; omega))
        have HFF := Lib.hid hF
        clear ho7 hb7 hF hG hr6
        go_wp2_with fail
        go_ret
        have hres : pad i (mul (T.drop i) (a.drop i) (b.drop i)) = (pad (i + 1) (R)).set i (p + t) := by
          rw [drop_cons HT.out.2.2, List.drop_eq_getElem_cons (show i < a.length by omega), List.drop_eq_getElem_cons (show i < b.length by omega), (List.getElem?_eq_some_iff.1 HPQ.out.1).2, (List.getElem?_eq_some_iff.1 HPQ.out.2).2, mul_cons, if_neg hge, ← HRR.out, show pad (i + 1) (R) = pad i (0 :: (R)) by rw [← pad_add]; rfl]
          simp [pad]
        rw [hres]
        exact ⟨_, rfl, by have := HFF.out.mono (B' := w.heap.size) (by omega); exact this, below_unboxed HBG.out⟩
end Go.Proofs.YtbamkklhkhglnaaGreatDoor.SpecC

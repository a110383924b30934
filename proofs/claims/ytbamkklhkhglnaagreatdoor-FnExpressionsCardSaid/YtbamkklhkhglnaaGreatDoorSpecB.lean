import Derived.Test.YtbamkklhkhglnaaGreatDoorSpecA
namespace Go.Proofs.YtbamkklhkhglnaaGreatDoor.SpecB
open Go.RowKit Go.Proofs.YtbamkklhkhglnaaGreatDoor Go.Proofs.YtbamkklhkhglnaaGreatDoor.Tow Go.Proofs.YtbamkklhkhglnaaGreatDoor.SpecA
set_option linter.unusedVariables false
set_option linter.unusedSimpArgs false

abbrev Any : Nat → Prop := fun _ => True

def AtSpec (T : Tw) (i : Nat) : Prop := ∀ (w : World) (vO vP vC va vb : Value) (a b : List Nat), ValP Any w vO vP vC (ofTw T) → SlI Any w va (ints a) → SlI Any w vb (ints b) →
  a.length = T.length → b.length = T.length → El (T.drop i) (a.drop i) → El (T.drop i) (b.drop i) →
  Calls Tryz.prog 172 #[.agg #[vO, vP, vC], .int .i64 i, va, vb] w (NewI (ints (pad i (mul (T.drop i) (a.drop i) (b.drop i)))) w)
def ImgSpec (T : Tw) (i : Nat) (L : Lv) : Prop := ∀ (w : World) (vO vP vC vx : Value) (x : List Nat), ValP Any w vO vP vC (ofTw T) → SlI Any w vx (ints x) →
  x.length = T.length → El (T.drop (i + 1)) (x.drop (i + 1)) →
  Calls Tryz.prog 171 #[.agg #[vO, vP, vC], .int .i64 i, vx] w (NewI (ints (pad (i + 1) (img (T.drop (i + 1)) L.c (x.drop (i + 1))))) w)

theorem mk22 (n : Nat) (hn : n ≤ 6) (w : World) : (Instr.makeSlice 87 (.int .i64 (n : Int)) (.int .i64 (n : Int))).run Tryz.prog w = .ok (.slice (some ⟨w.heap.size, 0, none⟩) n n) (w.alloc (.cells (madeCells #[.int .i64 0] n) 2)) :=
  run_make_row' (P := Tryz.prog) 87 2 (.int .i64 0) 8 Tryz.underlying87 infoI rfl .i64 .i64 n (by omega) (by omega) w

/-- the image in the making -/
abbrev imR (T' : Tw) (c : List (List Nat)) (y : List Nat) (j k : Nat) : List Nat := prR (mul T') (one T') (one T') c y j k
theorem imR_El {T' : Tw} (h : Wf T') {c : List (List Nat)} (hc : ∀ y ∈ c, El T' y) (y : List Nat) (j k : Nat) : El T' (imR T' c y j k) :=
  prR_inv (El T') (mul T') (fun _ _ p q => El_mul h p q) _ _ c y (El_one h) (El_one h) hc j k
theorem lvl {T : Tw} (hT : Wf T) {i : Nat} {L : Lv} (hL : T[i]? = some L) : Wf (T.drop (i + 1)) ∧ L.c.length = T.length - (i + 1) ∧ (∀ y ∈ L.c, El (T.drop (i + 1)) y) ∧ El (T.drop (i + 1)) L.w ∧ 2 ≤ L.o := by
  have hi : i < T.length := (List.getElem?_eq_some_iff.1 hL).1
  have e : T.drop i = L :: T.drop (i + 1) := by rw [List.drop_eq_getElem_cons hi, (List.getElem?_eq_some_iff.1 hL).2]
  have := Wf_drop hT i
  rw [e] at this
  exact ⟨this.2.2.2.2, by rw [this.2.2.1]; simp, this.2.2.2.1, this.2.1, this.1⟩
theorem drop_cons {T : Tw} {i : Nat} {L : Lv} (hL : T[i]? = some L) : T.drop i = L :: T.drop (i + 1) := by
  have hi : i < T.length := (List.getElem?_eq_some_iff.1 hL).1
  rw [List.drop_eq_getElem_cons hi, (List.getElem?_eq_some_iff.1 hL).2]

set_option maxHeartbeats 1000000 in
theorem img_of_at (T : Tw) (hT : Wf T) (hs : Small T) (i : Nat) (L : Lv) (hL : T[i]? = some L) (hAt : AtSpec T (i + 1)) : ImgSpec T i L := by
  intro w vO vP vC vx x hP hx hxl hxE
  have hi : i < T.length := (List.getElem?_eq_some_iff.1 hL).1
  have hs6 := hs.1
  have HK := Lib.hid (lvl hT hL)
  have hmk := mk22 T.length hs6
  obtain ⟨aO, cO, aP, cP, aC, cC, rfl, rfl, rfl, hO1, hP1, hC1⟩ := hP.open
  obtain ⟨aX, cX, rfl, hX1⟩ := hx.open
  rw [hxl] at hX1 ⊢
  rw [hxl] at hx
  obtain ⟨bC, oC, a2, c2, rfl, _, hbC, hcC, h21, hC4⟩ := hP.con hL
  have HW := Lib.hid hT
  have HSM := Lib.hid hs
  have HP := Lib.hid hP
  have HX := Lib.hid hx
  have HL := Lib.hid hL
  have HXE := Lib.hid hxE
  have HXL := Lib.hid hxl
  have HAT := Lib.hid hAt
  have HC4 := Lib.hid hC4
  have HCC := Lib.hid hcC
  have hcl : L.c.length = T.length - (i + 1) := HK.out.2.1
  have HO := Lib.hid (Own.made (B := w.heap.size + 1) (w.alloc (.cells #[.slice aO T.length cO, .slice aP T.length cP, .slice (some ⟨bC, oC, none⟩) T.length cC] 91)) T.length (by simp) (by unfold maxLen; omega))
  obtain ⟨V, hV⟩ : ∃ V : Nat → Nat → List Nat, V = fun m k => pad (i + 1) (imR (T.drop (i + 1)) L.c (x.drop (i + 1)) m k) := ⟨_, rfl⟩
  have HV := Lib.hid hV
  have HV0 := Lib.hid (show List.replicate T.length (0 : Int) = ints (V 0 0) by rw [hV]; simp only [imR, prR_zero]; rw [one_pad T (i + 1) (by omega), ints_replicate]; rfl)
  have HVE := Lib.hid (show ∀ m q, El T (V m q) from by
    intro m q; rw [hV]
    exact El_pad hT (i + 1) (imR_El HK.out.1 HK.out.2.2.1 _ m q) (by omega))
  have HVs := Lib.hid (show ∀ m q y, L.c[m]? = some y → pad (i + 1) (mul (T.drop (i + 1)) ((V m q).drop (i + 1)) ((pad (i + 1) y).drop (i + 1))) = V m (q + 1) from by
    intro m q y hy; rw [hV]
    show pad (i + 1) (mul _ ((pad (i + 1) _).drop (i + 1)) _) = pad (i + 1) _
    rw [pad_drop, pad_drop, imR, imR, prR_step, List.getD_eq_getElem?_getD, hy]; rfl)
  have HVx := Lib.hid (show ∀ m a, m < T.length - (i + 1) → x[i + 1 + m]? = some a → V m a = V (m + 1) 0 from by
    intro m a hm ha; rw [hV]
    show pad (i + 1) _ = pad (i + 1) _
    rw [imR, prR_next _ _ _ _ _ m a (by omega) (by rw [List.getElem?_drop]; exact ha)])
  have HVz := Lib.hid (show V (T.length - (i + 1)) 0 = pad (i + 1) (img (T.drop (i + 1)) L.c (x.drop (i + 1))) from by
    rw [hV]
    show pad (i + 1) _ = pad (i + 1) _
    rw [imR, prR_end _ _ _ _ _ _ (by omega) (by simp; omega)]; rfl)
  clear hP hx hL hxE hxl hAt hV hT hs hC4 hcC
  go_enter Tryz.func171, Tryz.ntmps171
  go_wp2_with fail
  go_loopw [8, 9] (fun o j wr => ∃ m : Nat, m ≤ T.length - (i + 1) ∧ j = .int .i64 ((i : Int) + 1 + (m : Int)) ∧ Own (w.heap.size + 1) wr o (ints (V m 0)) ∧
      Below (w.heap.size + 1) (w.alloc (.cells #[.slice aO T.length cO, .slice aP T.length cP, .slice (some ⟨bC, oC, none⟩) T.length cC] 91)) wr) (fun _ j _ => T.length - (intOf j).toNat)
  case atStart => exact ⟨0, Nat.zero_le _, by go_num, by rw [← HV0.out]; have := HO.out; simpa using this, (Below.refl _ _).alloc (by simp) _⟩
  case round =>
    obtain ⟨m, hm, rfl, ho, hb⟩ := hrel
    by_cases hlt : m < T.length - (i + 1)
    · obtain ⟨a, ha⟩ : ∃ a, x[i + 1 + m]? = some a := ⟨_, List.getElem?_eq_getElem (by rw [HXL.out]; omega)⟩
      obtain ⟨bX, oX, rfl, _, hbX, hcX⟩ := HX.out.at ha
      obtain ⟨y, hy⟩ : ∃ y, L.c[m]? = some y := ⟨_, List.getElem?_eq_getElem (by omega)⟩
      obtain ⟨b2, o2, uy, rfl, _, hb2, hcy, huy⟩ := HC4.out m y hy
      have hk := keep_boxed hb Any
      have hcx : wr.cell? ⟨bX, oX + (i + 1 + m), none⟩ = some (.int .i64 (a : Int)) := by rw [hk.cell trivial hbX]; exact hcX
      have ha7 : a < 7 := HSM.out.lt HXE.out (by omega) ha
      have HA := Lib.hid ha
      have HY := Lib.hid hy
      have HCY := Lib.hid hcy
      have HUY := Lib.hid huy
      have HB := Lib.hid hb
      have HOW := Lib.hid ho
      have HKP := Lib.hid hk
      have HCX := Lib.hid hcX
      have hd : decide ((i : Int) + 1 + (m : Int) < (T.length : Int)) = true := by simp; omega
      clear ha hb ho hk hcX hy hcy huy
      go_wp2_with fail
      go_loopw [8, 10] (fun o k wi => ∃ q : Nat, q ≤ a ∧ k = .int .i64 (q : Int) ∧ Own (w.heap.size + 1) wi o (ints (V m q)) ∧
        Below (w.heap.size + 1) (w.alloc (.cells #[.slice aO T.length cO, .slice aP T.length cP, .slice (some ⟨bC, oC, none⟩) T.length cC] 91)) wi) (fun _ k _ => a - (intOf k).toNat)
      case atStart => exact ⟨0, Nat.zero_le _, rfl, HOW.out, HB.out⟩
      case round =>
        obtain ⟨q, hq, rfl, hoi, hbi⟩ := hrel
        have hki := keep_boxed hbi Any
        have hcx2 : wr.cell? ⟨bX, oX + (i + 1 + m), none⟩ = some (.int .i64 (a : Int)) := by rw [hki.cell trivial hbX]; exact HCX.out
        by_cases hqa : q < a
        · have HPi := Lib.hid (HP.out.keep hki)
          obtain ⟨e0, e1, e2⟩ := box_cells hbi
          have hcC : wr.cell? ⟨bC, oC + i, none⟩ = some (.slice (some ⟨b2, o2, none⟩) L.c.length c2) := by rw [hki.cell trivial hbC]; exact HCC.out
          have hcy : wr.cell? ⟨b2, o2 + m, none⟩ = some uy := by rw [hki.cell trivial hb2]; exact HCY.out
          have w1 : IntKind.i64.wrap (((i : Int) + 1 + (m : Int)) - (i : Int)) = (m : Int) + 1 := by rw [IntWalk.i64_in _ (by omega)]; omega
          have w2 : IntKind.i64.wrap (((m : Int) + 1) - 1) = (m : Int) := by rw [IntWalk.i64_in _ (by omega)]; omega
          have w3 : IntKind.i64.wrap ((i : Int) + 1) = (i : Int) + 1 := IntWalk.i64_in _ (by omega)
          have w8 : IntKind.i64.wrap (m : Int) = (m : Int) := IntWalk.i64_in _ (by omega)
          have w4 : (m : Int) < (L.c.length : Int) := by omega
          have w5 : (0 : Int) ≤ (m : Int) := by omega
          have w6 : (i : Int) < (T.length : Int) := by omega
          have w7 : (0 : Int) ≤ (i : Int) := by omega
          have hsz2 : w.heap.size < wr.heap.size := by have := hbi.size; simp at this; omega
          have hbC2 := Nat.lt_trans hbC hsz2
          have hb22 := Nat.lt_trans hb2 hsz2
          have HB2 := Lib.hid hbi
          have HOI := Lib.hid hoi
          have HUY2 := Lib.hid (HUY.out.keep hki)
          have HVd := Lib.hid (show El (T.drop (i + 1)) ((V m q).drop (i + 1)) from El_drop (HVE.out m q) (i + 1))
          have HVl := Lib.hid (show (V m q).length = T.length from El_length (HVE.out m q))
          have HYE := Lib.hid (show El T (pad (i + 1) y) from El_pad HW.out (i + 1) (HK.out.2.2.1 y (List.mem_of_getElem? HY.out)) (by omega))
          clear hbi hoi hki
          go_wp2_with fail
          go_region_held3 (fun w' => (∀ b o, b < wr.heap.size → w'.cell? ⟨b, o, none⟩ = wr.cell? ⟨b, o, none⟩) ∧ Keep (fun _ => True) wr w')
            (first | exact ks_mk ((Keep.refl _ _).drew) | exact ks_mk (Keep.trans ((Keep.refl _ _).drew) (Keep.of_below (by assumption))))
            (first | (go_at_call 172; refine (HAT.out _ _ _ _ _ _ (V m q) (pad (i + 1) y) (HPi.out.keep ((Keep.refl _ _).drew)) ((HOI.out.sl.mono (fun _ _ => trivial)).keep ((Keep.refl _ _).drew)) (HUY2.out.keep ((Keep.refl _ _).drew)) HVl.out (El_length HYE.out) HVd.out (El_drop HYE.out (i + 1))).mono ?_; rintro e w2 ⟨v2, rfl, hov, hbv⟩))
          go_wp2_with fail
          go_roundw
          case rel => exact ⟨q + 1, by omega, by go_num, by rw [HVs.out m q y HY.out] at hov; exact hov.mono (by show w.heap.size + 1 ≤ wr.heap.size; omega), HB2.out.trans (((Below.refl _ _).drew).trans (hbv.mono (by show w.heap.size + 1 ≤ wr.heap.size; omega)))⟩
          case measure => simp [intOf]; omega
        · obtain rfl : q = a := by omega
          have HB2 := Lib.hid hbi
          have HOI := Lib.hid hoi
          clear hbi hoi hki
          go_wp2_with fail
          go_roundw
          case rel => exact ⟨m + 1, by omega, by go_num, by rw [← HVx.out m q (by omega) HA.out]; exact HOI.out, HB2.out⟩
          case measure => simp [intOf]; omega
    · obtain rfl : m = T.length - (i + 1) := by omega
      have HB := Lib.hid hb
      have HOW := Lib.hid ho
      clear hb ho
      go_wp2_with fail
      go_ret
      exact ⟨_, rfl, by rw [← HVz.out]; exact HOW.out.mono (by omega), below_unboxed HB.out⟩
end Go.Proofs.YtbamkklhkhglnaaGreatDoor.SpecB

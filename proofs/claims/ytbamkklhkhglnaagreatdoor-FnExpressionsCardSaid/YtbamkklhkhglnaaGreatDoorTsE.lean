import Derived.Test.YtbamkklhkhglnaaGreatDoorTrB
import Derived.Test.YtbamkklhkhglnaaGreatDoorTsB
import Derived.Test.YtbamkklhkhglnaaGreatDoorTsC
import Derived.Test.YtbamkklhkhglnaaGreatDoorTsD
import Derived.Test.YtbamkklhkhglnaaGreatDoorTwE
/-
  spec.l07Relation, with values.
-/
namespace Go.Proofs.YtbamkklhkhglnaaGreatDoor.TsE
open Go.RowKit Go.Lib Go.Proofs.YtbamkklhkhglnaaGreatDoor Go.Proofs.YtbamkklhkhglnaaGreatDoor.Tow Go.Proofs.YtbamkklhkhglnaaGreatDoor.CyA Go.Proofs.YtbamkklhkhglnaaGreatDoor.SplitPlain Go.Proofs.YtbamkklhkhglnaaGreatDoor.TxA Go.Proofs.YtbamkklhkhglnaaGreatDoor.TxB Go.Proofs.YtbamkklhkhglnaaGreatDoor.TxC Go.Proofs.YtbamkklhkhglnaaGreatDoor.TmA Go.Proofs.YtbamkklhkhglnaaGreatDoor.TiA Go.Proofs.YtbamkklhkhglnaaGreatDoor.TiB Go.Proofs.YtbamkklhkhglnaaGreatDoor.TsA Go.Proofs.YtbamkklhkhglnaaGreatDoor.TsB Go.Proofs.YtbamkklhkhglnaaGreatDoor.TsC Go.Proofs.YtbamkklhkhglnaaGreatDoor.TsD Go.Proofs.YtbamkklhkhglnaaGreatDoor.TwE Go.Proofs.YtbamkklhkhglnaaGreatDoor.TrB
open Go.Proofs.YtbamkklhkhglnaaGreatDoor.DwB (row3f put3 infoR3)
set_option linter.unusedVariables false
set_option linter.unusedSimpArgs false

/-- the answer of a relation that is read -/
def RlR (n : Nat) (p : RP) (t : List UInt8) (w : World) (e : Ending) (w' : World) : Prop := ∃ vO vP vC b, e = .returned (.tuple #[.agg #[vO, vP, vC], .bool b]) ∧ Below w.heap.size w w' ∧ ((b = true ∧ ∃ q, stepS n p t = some q ∧ PP w.heap.size w' vO vP vC q) ∨ (b = false ∧ stepS n p t = none ∧ ∃ a1 c1 a2 c2 a3 c3, vO = .slice a1 n c1 ∧ vP = .slice a2 n c2 ∧ vC = .slice a3 n c3))
/-- the head of a relation -/
def HeadOk (L : List ByteArray) : Prop := ∃ x y b, L.map (·.data.toList) = [[32, x, 94, y], b]
theorem spl_size (s : ByteArray) (b : UInt8) : ∀ k, ∀ p ∈ (spl s b k).1, p.size ≤ s.size
  | 0, p, h => by simp [spl] at h
  | k + 1, p, h => by
    rw [spl] at h
    split at h
    · rcases List.mem_append.1 h with h | h
      · exact spl_size s b k p h
      · rw [List.mem_singleton.1 h]
        simp [ByteArray.size_extract]
        omega
    · exact spl_size s b k p h
theorem parts_size (s : ByteArray) (b : UInt8) : ∀ p ∈ parts s b, p.size ≤ s.size := fun p h => by
  rcases List.mem_append.1 h with h | h
  · exact spl_size s b _ p h
  · rw [List.mem_singleton.1 h]
    simp [ByteArray.size_extract]
theorem cmp_iff {a b : ByteArray} {t u : List UInt8} (ha : a.data.toList = t) (hb : b.data.toList = u) : (a.toList == b.toList) = true ↔ t = u := by
  rw [toList_data, toList_data, ha, hb]
  exact beq_iff_eq
theorem vec_exps {n B : Nat} {t : List UInt8} {l : List Int} {W : World} {v : Value} {bb : Bool} (hn : n ≤ 20) (hc : (t = [49] ∧ l = []) ∨ (t ≠ [49] ∧ t ≠ [] ∧ l = t.map lv ∧ ∀ c ∈ t, okL n c)) (h : (bb = true ∧ (∀ x ∈ l, 0 ≤ x) ∧ RO B W v (cnt n l)) ∨ (bb = false ∧ ∃ x ∈ l, x < 0)) :
    (bb = true ∧ ∃ r, expsI n t = some r ∧ r.length = n ∧ RO B W v r) ∨ (bb = false ∧ expsI n t = none) := by
  rcases hc with ⟨rfl, rfl⟩ | ⟨h1, h2, rfl, h4⟩
  · rcases h with ⟨h, _, h3⟩ | ⟨_, x, hx, _⟩
    · refine .inl ⟨h, _, ?_, cnt_len _ _, h3⟩
      rw [cnt_nil]
      rfl
    · simp at hx
  · rcases h with ⟨h, h5, h3⟩ | ⟨h, x, hx, hneg⟩
    · refine .inl ⟨h, _, exps_good (by omega) h1 h2 ?_, cnt_len _ _, h3⟩
      rw [List.all_eq_true]
      exact fun b hb => isL_of (h4 b hb) (by have := h5 _ (List.mem_map_of_mem hb); omega)
    · refine .inr ⟨h, ?_⟩
      obtain ⟨b, hb, rfl⟩ := List.mem_map.1 hx
      have hne : ¬ t.all (isL n) = true := fun ha => by
        have := isL_sub (List.all_eq_true.1 ha b hb)
        unfold lv at hneg
        split at hneg <;> omega
      unfold expsI
      rw [if_neg h1, if_pos (.inr hne)]
theorem lv_ne {n : Nat} {t : List UInt8} {l : List Int} (hc : (t = [49] ∧ l = []) ∨ (t ≠ [49] ∧ t ≠ [] ∧ l = t.map lv ∧ ∀ c ∈ t, okL n c)) : ∀ x ∈ l, x ≠ 0 ∧ x ≤ (n : Int) := fun x hx => by
  rcases hc with ⟨_, rfl⟩ | ⟨_, _, rfl, h4⟩
  · simp at hx
  · obtain ⟨b, hb, rfl⟩ := List.mem_map.1 hx
    exact ⟨(h4 b hb).2.1, (h4 b hb).2.2.2⟩
theorem head_two {L : List ByteArray} (h : L.length ≠ 2) : ¬ HeadOk L := fun ⟨x, y, b, e⟩ => h (by
  have := congrArg List.length e
  simpa using this)
theorem head_iff (x0 x1 : ByteArray) : HeadOk [x0, x1] ↔ x0.size = 4 ∧ x0.data.toList[0]? = some 32 ∧ x0.data.toList[2]? = some 94 := by
  constructor
  · rintro ⟨x, y, b, e⟩
    simp only [List.map_cons, List.map_nil, List.cons.injEq, and_true] at e
    refine ⟨?_, by rw [e.1]; rfl, by rw [e.1]; rfl⟩
    have := congrArg List.length e.1
    simpa using this
  · rintro ⟨h1, h2, h3⟩
    have hl : x0.data.toList.length = 4 := by simpa using h1
    match hd : x0.data.toList, hl with
    | [a, b, c, d], _ =>
      rw [hd] at h2 h3
      obtain rfl := Option.some.inj h2
      obtain rfl := Option.some.inj h3
      exact ⟨b, d, x1.data.toList, by simp [hd]⟩
set_option maxRecDepth 100000 in
set_option maxHeartbeats 4000000 in
theorem rel_any (n : Nat) (hn : n ≤ 20) (p : RP) (h : Sh n p) (hpr : Prs p.os) (s : ByteArray) (hs : s.size ≤ 100000000) (a1 a2 a3 : Option Addr) (c1 c2 c3 : Nat) (w : World) (hA : ValP Any w (.slice a1 n c1) (.slice a2 n c2) (.slice a3 n c3) p.val) :
    Calls Tryz.prog 107 #[.agg #[.slice a1 n c1, .slice a2 n c2, .slice a3 n c3], .string s] w (RlR n p s.data.toList w) := by
  have H := Lib.hid h
  have HPR := Lib.hid hpr
  obtain ⟨g0, hg0⟩ : ∃ g0, w.heap.size = g0 := ⟨_, rfl⟩
  obtain ⟨w1, hw1⟩ : ∃ w1, w1 = (w.alloc (.cells #[.slice a1 n c1, .slice a2 n c2, .slice a3 n c3] 91)).alloc (.cells #[nilS, nilS, nilS] 91) := ⟨_, rfl⟩
  have HG0 := Lib.hid hg0
  have HB1 := Lib.hid (show Below w.heap.size w w1 by rw [hw1]; exact ((Below.refl _ _).alloc (Nat.le_refl _) _).alloc (by simp) _)
  have HS1 := Lib.hid (show w1.heap.size = g0 + 2 by rw [hw1, ← hg0]; simp)
  have HP := Lib.hid (fun (W : World) (hb : Below w1.heap.size w1 W) => show W.heap[g0]? = some (.cells #[.slice a1 n c1, .slice a2 n c2, .slice a3 n c3] 91 (0, 0)) ∧ g0 < W.heap.size from by
    have e : w1.heap[g0]? = some (.cells #[.slice a1 n c1, .slice a2 n c2, .slice a3 n c3] 91 (0, 0)) := by
      rw [hw1, ← hg0]
      exact (Below.heap_alloc _ _ _ (by simp)).trans (heap_alloc_new w _)
    exact ⟨(hb.block g0 (by rw [HS1.out]; omega)).trans e, by have := hb.size; rw [HS1.out] at this; omega⟩)
  have HR := Lib.hid (fun (W : World) (hb : Below w1.heap.size w1 W) => show W.heap[g0 + 1]? = some (.cells #[nilS, nilS, nilS] 91 (0, 0)) ∧ g0 + 1 < W.heap.size from by
    have e : w1.heap[g0 + 1]? = some (.cells #[nilS, nilS, nilS] 91 (0, 0)) := by
      rw [hw1, ← hg0]
      have h := heap_alloc_new (w.alloc (.cells #[.slice a1 n c1, .slice a2 n c2, .slice a3 n c3] 91)) (.cells #[nilS, nilS, nilS] 91)
      simpa using h
    exact ⟨(hb.block (g0 + 1) (by rw [HS1.out]; omega)).trans e, by have := hb.size; rw [HS1.out] at this; omega⟩)
  have HRB := Lib.hid (fun (W : World) (hb : Below w1.heap.size w1 W) (x y z : Value) => show Below w.heap.size w (((W.setCell ⟨g0 + 1, 0, none⟩ x).setCell ⟨g0 + 1, 1, none⟩ y).setCell ⟨g0 + 1, 2, none⟩ z) from by
    have h1 : Below w.heap.size w W := HB1.out.trans (hb.mono (by rw [HS1.out]; omega))
    exact ((h1.setCell (p := ⟨g0 + 1, 0, none⟩) (by show w.heap.size ≤ g0 + 1; omega) _).setCell (p := ⟨g0 + 1, 1, none⟩) (by show w.heap.size ≤ g0 + 1; omega) _).setCell (p := ⟨g0 + 1, 2, none⟩) (by show w.heap.size ≤ g0 + 1; omega) _)
  have HF := Lib.hid (fun (W : World) (hb : Below w1.heap.size w1 W) (hn : stepS n p s.data.toList = none) => show RlR n p s.data.toList w (.returned (.tuple #[.agg #[.slice a1 n c1, .slice a2 n c2, .slice a3 n c3], .bool false])) (((W.setCell ⟨g0 + 1, 0, none⟩ (.slice a1 n c1)).setCell ⟨g0 + 1, 1, none⟩ (.slice a2 n c2)).setCell ⟨g0 + 1, 2, none⟩ (.slice a3 n c3)) from
    ⟨_, _, _, _, rfl, HRB.out W hb _ _ _, .inr ⟨rfl, hn, _, _, _, _, _, _, rfl, rfl, rfl⟩⟩)
  have HVA := Lib.hid (fun (W : World) (hb : Below w1.heap.size w1 W) => show ValP Any W (.slice a1 n c1) (.slice a2 n c2) (.slice a3 n c3) p.val from hA.keep (Keep.of_below (S := Any) ((HB1.out.trans (hb.mono (by rw [HS1.out]; omega))))))
  obtain ⟨L, hL⟩ : ∃ L, parts s 61 = L := ⟨_, rfl⟩
  have HSP := Lib.hid (fun W => Split.split_any s 61 W (by omega))
  have hpl := parts_length_le s 61
  have HSZ := Lib.hid (show ∀ x ∈ L, x.size ≤ s.size from by rw [← hL]; exact parts_size s 61)
  have HSL := Lib.hid (show L.map (·.data.toList) = spL 61 s.data.toList from by rw [← hL]; exact parts_list s 61)
  rw [hL] at HSP hpl
  obtain ⟨m, hm⟩ : ∃ m, L.length = m := ⟨_, rfl⟩
  rw [hm] at HSP hpl
  have HLM := Lib.hid hm
  have h61 : ((61 : UInt8).toNat : Int) = 61 := rfl
  rw [h61] at HSP
  have hm64 : (m : Int) ≤ 100000001 := by omega
  have HT := Lib.hid (show ¬ HeadOk L → stepS n p s.data.toList = none from fun h => by
    unfold stepS
    rw [← HSL.out]
    split
    · rename_i x y b e
      exact absurd ⟨x, y, b, e⟩ h
    · rfl)
  clear hL hm h61 hpr h hA
  go_enter Tryz.func107, Tryz.ntmps107
  go_upto_region 1 with fail
  rw [← hw1]
  clear hw1 hg0
  obtain ⟨⟨p0, p1, p2⟩, -⟩ := row3f (HP.out w1 (Below.refl _ _)).1
  go_upto_region 3 with (first | (go_at_call 104; refine (HSP.out _).mono ?_; rintro e w2 ⟨v, rfl, hO, hb2⟩) | fail)
  obtain ⟨av, cv, rfl, _⟩ := owns_form hO
  have HO := Lib.hid hO
  have HB2 := Lib.hid (show Below w1.heap.size w1 w2 from hb2)
  have HL := Lib.hid (fun (W : World) (hb : Below w2.heap.size w2 W) (k : Nat) (x : ByteArray) (hk : L[k]? = some x) => show ∃ g, av = some ⟨g, 0, none⟩ ∧ W.cell? ⟨g, k, none⟩ = some (.string x) ∧ g < W.heap.size from by
    obtain ⟨g, c', he, hc1, hgl⟩ := str_at hO hk
    obtain ⟨rfl, rfl⟩ : av = some ⟨g, 0, none⟩ ∧ cv = c' := by simpa using he
    exact ⟨g, rfl, (hb.cell (p := ⟨g, k, none⟩) hgl).trans hc1, Nat.lt_of_lt_of_le hgl hb.size⟩)
  clear hO hb2 HSP p0 p1 p2
  go_cut [43] (fun v W => (∃ b, v = .bool b ∧ (b = true ↔ ¬ HeadOk L)) ∧ W = w2)
  case first =>
    by_cases hm2 : m = 2
    · obtain ⟨x0, x1, rfl⟩ : ∃ x0 x1, L = [x0, x1] := by
        match L, HLM.out with
        | [a, b], _ => exact ⟨a, b, rfl⟩
        | [], h => simp at h; omega
        | [_], h => simp at h; omega
        | _ :: _ :: _ :: _, h => simp at h; omega
      have HI := Lib.hid (head_iff x0 x1)
      obtain ⟨g, rfl, hc, hgl⟩ := HL.out w2 (Below.refl _ _) 0 x0 rfl
      subst hm2
      by_cases h4 : x0.size = 4
      · have h40 : 0 < x0.size := by omega
        have h42 : 2 < x0.size := by omega
        have e0 := data_getElem? x0 0 h40
        have e2 := data_getElem? x0 2 h42
        by_cases hz : x0[0] = 32
        · have hz1 : (x0[0].toNat : Int) = 32 := by rw [hz]; rfl
          have hz2 : ((x0[0].toNat : Int) != 32) = false := by rw [hz1]; rfl
          by_cases hy : x0[2] = 94
          · have hy1 : (x0[2].toNat : Int) = 94 := by rw [hy]; rfl
            have hy2 : ((x0[2].toNat : Int) != 94) = false := by rw [hy1]; rfl
            have HH := Lib.hid (show HeadOk [x0, x1] from HI.out.2 ⟨h4, by rw [e0, hz], by rw [e2, hy]⟩)
            clear e0 e2 hz hy hz1 hy1
            have h4i : ((x0.size : Int) != 4) = false := by rw [h4]; rfl
            go_wp2_with fail
            go_meet
            exact ⟨⟨_, rfl, fun h => by simp at h, fun h => absurd HH.out h⟩, rfl⟩
          · have hy2 : ((x0[2].toNat : Int) != 94) = true := bne_iff_ne.2 fun e => hy (UInt8.toNat_inj.1 (by show x0[2].toNat = 94; omega))
            have HH := Lib.hid (show ¬ HeadOk [x0, x1] from fun h => hy (by have := (HI.out.1 h).2.2; rw [e2] at this; exact Option.some.inj this))
            clear e0 e2 hz hy hz1
            have h4i : ((x0.size : Int) != 4) = false := by rw [h4]; rfl
            go_wp2_with fail
            go_meet
            exact ⟨⟨_, rfl, fun _ => HH.out, fun _ => rfl⟩, rfl⟩
        · have hz2 : ((x0[0].toNat : Int) != 32) = true := bne_iff_ne.2 fun e => hz (UInt8.toNat_inj.1 (by show x0[0].toNat = 32; omega))
          have HH := Lib.hid (show ¬ HeadOk [x0, x1] from fun h => hz (by have := (HI.out.1 h).2.1; rw [e0] at this; exact Option.some.inj this))
          clear e0 e2 hz
          have h4i : ((x0.size : Int) != 4) = false := by rw [h4]; rfl
          go_wp2_with fail
          go_meet
          exact ⟨⟨_, rfl, fun _ => HH.out, fun _ => rfl⟩, rfl⟩
      · have h4i : ((x0.size : Int) != 4) = true := bne_iff_ne.2 (by omega)
        have HH := Lib.hid (show ¬ HeadOk [x0, x1] from fun h => h4 (HI.out.1 h).1)
        clear h4
        go_wp2_with fail
        go_meet
        exact ⟨⟨_, rfl, fun _ => HH.out, fun _ => rfl⟩, rfl⟩
    · have hmi : ((m : Int) != 2) = true := bne_iff_ne.2 (by omega)
      have HH := Lib.hid (head_two (L := L) (by rw [HLM.out]; exact hm2))
      clear hm2
      go_wp2_with fail
      go_meet
      exact ⟨⟨_, rfl, fun _ => HH.out, fun _ => rfl⟩, rfl⟩
  case rest =>
    obtain ⟨⟨b, rfl, hb⟩, rfl⟩ := hcut
    rename World => w2
    cases b with
    | true =>
      have HN := Lib.hid (HT.out (hb.1 rfl))
      obtain ⟨⟨p0, p1, p2⟩, -⟩ := row3f (HP.out w2 HB2.out).1
      obtain ⟨⟨e0, e1, e2⟩, f0, f1, f2⟩ := row3f (HR.out w2 HB2.out).1
      have hgl := (HR.out w2 HB2.out).2
      clear hb
      go_wp2_with fail
      obtain ⟨⟨z0, z1, z2⟩, -⟩ := row3f (put3 (x := .slice a1 n c1) (y := .slice a2 n c2) (z := .slice a3 n c3) (HR.out w2 HB2.out).1)
      exact bodyPost_ret (v := .tuple #[.agg #[.slice a1 n c1, .slice a2 n c2, .slice a3 n c3], .bool false]) (by simp [results, Tryz.results107, go_sem, z0, z1, z2]) rfl (HF.out w2 HB2.out HN.out)
    | false =>
      have hH : HeadOk L := Classical.byContradiction fun h => absurd (hb.2 h) (by simp)
      obtain ⟨x, y, t, hx⟩ := hH
      obtain ⟨x0, x1, rfl⟩ : ∃ x0 x1, L = [x0, x1] := by
        match L, hx with
        | [a, b], _ => exact ⟨a, b, rfl⟩
        | [], h => simp at h
        | [_], h => simp at h
        | _ :: _ :: _ :: _, h => simp at h
      simp only [List.map_cons, List.map_nil, List.cons.injEq, and_true] at hx
      obtain ⟨hx0, hx1⟩ := hx
      obtain rfl : m = 2 := HLM.out.symm
      have h4 : x0.size = 4 := by
        have := congrArg List.length hx0
        simpa using this
      have hl1 : 1 < x0.size := by omega
      have hl3 : 3 < x0.size := by omega
      have hbx : x0[1] = x := by
        have := data_getElem? x0 1 hl1
        rw [hx0] at this
        exact (Option.some.inj this).symm
      have hby : x0[3] = y := by
        have := data_getElem? x0 3 hl3
        rw [hx0] at this
        exact (Option.some.inj this).symm
      have HST := Lib.hid (show stepS n p s.data.toList = match expsI n t with
          | none => none
          | some v => if isL n x then (if [y] = dT (p.os.getD (x.toNat - 97) 0) then some (p.app ⟨x.toNat - 97, none, v⟩)
            else if isL (x.toNat - 97) y then some (p.app ⟨x.toNat - 97, some (y.toNat - 97), v⟩) else none) else none from by
        unfold stepS
        rw [← HSL.out]
        simp only [List.map_cons, List.map_nil, hx0, hx1]
        cases expsI n t <;> rfl)
      have hs1 : x1.size ≤ 100000000 := Nat.le_trans (HSZ.out x1 (by simp)) hs
      obtain ⟨g, rfl, q0, hgl⟩ := HL.out w2 (Below.refl _ _) 0 x0 rfl
      have q1 : w2.cell? ⟨g, 1, none⟩ = some (.string x1) := by
        obtain ⟨g', e, h, _⟩ := HL.out w2 (Below.refl _ _) 1 x1 rfl
        obtain rfl : g = g' := by simpa using e
        exact h
      have HSX := Lib.hid (fun W => sparse_any n hn x1 hs1 W)
      rw [hx1] at HSX
      have HHX := Lib.hid (And.intro hx0 hx1)
      clear hx0 hx1 hb
      go_upto_region 6 with (first | (go_at_call 136; refine (HSX.out _).mono ?_; rintro e w3 ⟨v3, l, b3, rfl, ho3, hb3, hl3, hc3⟩; obtain ⟨a3', c3', rfl, _⟩ := owns_form ho3) | fail)
      have HB3 := Lib.hid (show Below w1.heap.size w1 w3 from HB2.out.trans (hb3.mono HB2.out.size))
      have HB23 := Lib.hid (show Below w2.heap.size w2 w3 from hb3)
      clear q0 q1 hgl
      cases b3 with
      | false =>
        have HN := Lib.hid (show stepS n p s.data.toList = none from by
          rw [HST.out]
          have e : expsI n t = none := by
            rcases hc3 with ⟨_, _, h⟩ | ⟨h, _, _⟩ | ⟨_, _, _, _, h⟩
            · exact absurd h (by simp)
            · exact h
            · exact absurd h (by simp)
          rw [e])
        clear ho3 hb3 hc3 hbx hby
        obtain ⟨⟨p0, p1, p2⟩, -⟩ := row3f (HP.out w3 HB3.out).1
        obtain ⟨⟨e0, e1, e2⟩, f0, f1, f2⟩ := row3f (HR.out w3 HB3.out).1
        have hgl := (HR.out w3 HB3.out).2
        go_wp2_with fail
        obtain ⟨⟨z0, z1, z2⟩, -⟩ := row3f (put3 (x := .slice a1 n c1) (y := .slice a2 n c2) (z := .slice a3 n c3) (HR.out w3 HB3.out).1)
        exact bodyPost_ret (v := .tuple #[.agg #[.slice a1 n c1, .slice a2 n c2, .slice a3 n c3], .bool false]) (by simp [results, Tryz.results107, go_sem, z0, z1, z2]) rfl (HF.out w3 HB3.out HN.out)
      | true =>
        have HC := Lib.hid (show (t = [49] ∧ l = []) ∨ (t ≠ [49] ∧ t ≠ [] ∧ l = t.map lv ∧ ∀ c ∈ t, okL n c) from by
          rcases hc3 with ⟨h1, h2, _⟩ | ⟨_, _, h⟩ | ⟨h1, h2, h3, h4, _⟩
          · exact .inl ⟨h1, h2⟩
          · exact absurd h (by simp)
          · exact .inr ⟨h1, h2, h3, h4⟩)
        obtain ⟨ml, hml⟩ : ∃ ml, l.length = ml := ⟨_, rfl⟩
        have HVC := Lib.hid (fun (W : World) (hb : Below w3.heap.size w3 W) => vec_any n hn a3' ml c3' l hml W (by
          have h := ho3.sl.mono (S' := fun _ => True) fun _ _ => trivial
          rw [hml] at h
          exact h.keep (Keep.of_below hb)) (by
          have h1 := congrArg List.length HHX.out.2
          have h2 : x1.data.toList.length = x1.size := by simp
          omega) (lv_ne HC.out))
        rw [hml]
        clear ho3 hb3 hc3 hl3 hml
        go_upto_region 9 with (first | (go_at_call 137; refine (HVC.out _ (Below.refl _ _)).mono ?_; rintro e w4 ⟨v4, b4, rfl, hb4, hc4⟩) | fail)
        have HB4 := Lib.hid (show Below w1.heap.size w1 w4 from HB3.out.trans (hb4.mono HB3.out.size))
        have HB34 := Lib.hid (show Below w3.heap.size w3 w4 from hb4)
        have HE := Lib.hid (vec_exps hn HC.out hc4)
        obtain ⟨g', eg, q0, hgl⟩ := HL.out w4 (HB23.out.trans (hb4.mono HB23.out.size)) 0 x0 rfl
        obtain rfl : g = g' := by simpa using eg
        clear hb4 hc4 HVC HC eg
        have hxb := x.toNat_lt
        have hyb := y.toNat_lt
        have hwx : IntKind.i64.wrap ((x.toNat : Int) - 97) = (x.toNat : Int) - 97 := IntWalk.i64_in _ (by omega)
        have hwy : IntKind.i64.wrap ((y.toNat : Int) - 97) = (y.toNat : Int) - 97 := IntWalk.i64_in _ (by omega)
        have hvx : IntKind.i64.wrap (x.toNat : Int) = (x.toNat : Int) := IntWalk.i64_in _ (by omega)
        have hvy : IntKind.i64.wrap (y.toNat : Int) = (y.toNat : Int) := IntWalk.i64_in _ (by omega)
        clear hxb hyb
        go_cut [12, 13] (fun u v W => u = .int .i64 ((x.toNat : Int) - 97) ∧ v = .int .i64 ((y.toNat : Int) - 97) ∧ Hid (Below w4.heap.size w4 W))
        case first =>
          go_region_law (fail)
          all_goals
            go_wp2_with fail
            go_meet
            exact ⟨rfl, rfl, Lib.hid (Below.refl _ _).drew⟩
        case rest =>
          obtain ⟨rfl, rfl, HB5⟩ := hcut
          rename World => w5
          have HB15 := Lib.hid (show Below w1.heap.size w1 w5 from HB4.out.trans (HB5.out.mono HB4.out.size))
          clear hwx hwy hvx hvy hbx hby q0
          rcases HE.out with ⟨rfl, r, hr, hrl, ⟨gv, cv4, rfl⟩, hro⟩ | ⟨rfl, hr⟩
          case inr =>
            have HN := Lib.hid (show stepS n p s.data.toList = none from by rw [HST.out, hr])
            clear hr
            obtain ⟨⟨p0, p1, p2⟩, -⟩ := row3f (HP.out w5 HB15.out).1
            obtain ⟨⟨e0, e1, e2⟩, f0, f1, f2⟩ := row3f (HR.out w5 HB15.out).1
            have hgl := (HR.out w5 HB15.out).2
            go_wp2_with fail
            obtain ⟨⟨z0, z1, z2⟩, -⟩ := row3f (put3 (x := .slice a1 n c1) (y := .slice a2 n c2) (z := .slice a3 n c3) (HR.out w5 HB15.out).1)
            exact bodyPost_ret (v := .tuple #[.agg #[.slice a1 n c1, .slice a2 n c2, .slice a3 n c3], .bool false]) (by simp [results, Tryz.results107, go_sem, z0, z1, z2]) rfl (HF.out w5 HB15.out HN.out)
          case inl =>
            cases hL : isL n x with
            | false =>
              have HN := Lib.hid (show stepS n p s.data.toList = none from by rw [HST.out, hr]; simp [hL])
              by_cases hneg : x.toNat < 97
              · have hni : (x.toNat : Int) - 97 < 0 := by omega
                clear hr hrl hro hL hneg
                obtain ⟨⟨p0, p1, p2⟩, -⟩ := row3f (HP.out w5 HB15.out).1
                obtain ⟨⟨e0, e1, e2⟩, f0, f1, f2⟩ := row3f (HR.out w5 HB15.out).1
                have hgl := (HR.out w5 HB15.out).2
                go_wp2_with fail
                obtain ⟨⟨z0, z1, z2⟩, -⟩ := row3f (put3 (x := .slice a1 n c1) (y := .slice a2 n c2) (z := .slice a3 n c3) (HR.out w5 HB15.out).1)
                exact bodyPost_ret (v := .tuple #[.agg #[.slice a1 n c1, .slice a2 n c2, .slice a3 n c3], .bool false]) (by simp [results, Tryz.results107, go_sem, z0, z1, z2]) rfl (HF.out w5 HB15.out HN.out)
              · have hni : ¬ (x.toNat : Int) - 97 < 0 := by omega
                have hnn : (n : Int) ≤ (x.toNat : Int) - 97 := by
                  unfold isL at hL
                  simp at hL
                  omega
                clear hr hrl hro hL hneg
                obtain ⟨⟨p0, p1, p2⟩, -⟩ := row3f (HP.out w5 HB15.out).1
                obtain ⟨⟨e0, e1, e2⟩, f0, f1, f2⟩ := row3f (HR.out w5 HB15.out).1
                have hgl := (HR.out w5 HB15.out).2
                go_wp2_with fail
                obtain ⟨⟨z0, z1, z2⟩, -⟩ := row3f (put3 (x := .slice a1 n c1) (y := .slice a2 n c2) (z := .slice a3 n c3) (HR.out w5 HB15.out).1)
                exact bodyPost_ret (v := .tuple #[.agg #[.slice a1 n c1, .slice a2 n c2, .slice a3 n c3], .bool false]) (by simp [results, Tryz.results107, go_sem, z0, z1, z2]) rfl (HF.out w5 HB15.out HN.out)
            | true =>
              obtain ⟨hj1, hj2⟩ := isL_sub hL
              obtain ⟨j, hj⟩ : ∃ j, x.toNat - 97 = j := ⟨_, rfl⟩
              have hji : (x.toNat : Int) - 97 = (j : Int) := by omega
              rw [hji]
              rw [hj] at hj2
              have HST2 := Lib.hid (show stepS n p s.data.toList = (if [y] = dT (p.os.getD j 0) then some (p.app ⟨j, none, r⟩)
            else if isL j y then some (p.app ⟨j, some (y.toNat - 97), r⟩) else none) from by
                rw [HST.out, hr]
                simp only [hL, hj, if_true])
              clear hL hr hji hj1
              have hjI : (j : Int) < (n : Int) := by omega
              have hj0 : ¬ (j : Int) < 0 := by omega
              have HROV := Lib.hid (And.intro hrl (show RO w3.heap.size w4 (.slice (some ⟨gv, 0, none⟩) r.length cv4) r from ⟨⟨gv, cv4, rfl⟩, hro⟩))
              clear hrl hro
              have HOP := Lib.hid (fun (W : World) (hb : Below w1.heap.size w1 W) => ownp_any n (by omega) p H.out a1 a2 a3 c1 c2 c3 W (HVA.out W hb))
              obtain ⟨⟨p0, p1, p2⟩, -⟩ := row3f (HP.out w5 HB15.out).1
              go_upto_region 13 with (first | (go_at_call 138; refine (HOP.out _ HB15.out).mono ?_; rintro e w6 ⟨vO, vP, vC, rfl, hpp, hb6⟩; obtain ⟨x1', y1', x2', y2', x3', y3', rfl, rfl, rfl⟩ := PP.form hpp) | fail)
              obtain ⟨w7, hw7⟩ : ∃ w7, w7 = w6.alloc (.cells #[.slice x1' p.os.length y1', .slice x2' p.ps.length y2', .slice x3' p.cs.length y3'] 91) := ⟨_, rfl⟩
              rw [← hw7]
              obtain ⟨g7, hg7⟩ : ∃ g7, w6.heap.size = g7 := ⟨_, rfl⟩
              rw [hg7]
              have HB57 := Lib.hid (show Below w5.heap.size w5 w7 from by rw [hw7]; exact hb6.alloc hb6.size _)
              have HB17 := Lib.hid (show Below w1.heap.size w1 w7 from HB15.out.trans (HB57.out.mono HB15.out.size))
              have HPP := Lib.hid (show PP w5.heap.size w7 (.slice x1' p.os.length y1') (.slice x2' p.ps.length y2') (.slice x3' p.cs.length y3') p from by rw [hw7]; exact hpp.keep (S := Any) ((Keep.refl _ w6).alloc _) fun _ _ => trivial)
              have HBX := Lib.hid (show w7.heap[g7]? = some (.cells #[.slice x1' p.os.length y1', .slice x2' p.ps.length y2', .slice x3' p.cs.length y3'] 91 (0, 0)) ∧ w5.heap.size ≤ g7 ∧ g7 < w7.heap.size from by
                rw [hw7, ← hg7]
                exact ⟨heap_alloc_new w6 _, hb6.size, by simp⟩)
              have HL7 := Lib.hid (fun (W : World) (hb : Below w7.heap.size w7 W) => show W.cell? ⟨g, 0, none⟩ = some (.string x0) ∧ g < W.heap.size from by
                obtain ⟨g', eg, h1, h2⟩ := HL.out W (by
                  have h1 := HB23.out.trans (HB34.out.mono HB23.out.size)
                  have h2 := h1.trans (HB5.out.mono h1.size)
                  have h3 := h2.trans (HB57.out.mono h2.size)
                  exact h3.trans (hb.mono h3.size)) 0 x0 rfl
                obtain rfl : g = g' := by simpa using eg
                exact ⟨h1, h2⟩)
              obtain ⟨o, ho⟩ : ∃ o, p.os[j]? = some o := ⟨_, List.getElem?_eq_getElem (by rw [H.out.os]; exact hj2)⟩
              have HOP2 := Lib.hid (HPR.out o (List.mem_of_getElem? ho))
              have HDC := Lib.hid (fun W => dec_prime HOP2.out W)
              have hoD : p.os.getD j 0 = o := by rw [List.getD_eq_getElem?_getD, ho]; rfl
              rw [hoD] at HST2
              have HOC := Lib.hid (fun (W : World) (hb : Below w7.heap.size w7 W) => show ∃ b' o', a1 = some ⟨b', o', none⟩ ∧ b' < W.heap.size ∧ W.cell? ⟨b', o' + j, none⟩ = some (.int .i64 o) from by
                obtain ⟨b', o', u, e1, _, h2, h3, h4⟩ := slg_get (HVA.out W (HB17.out.trans (hb.mono HB17.out.size))).os ho
                exact ⟨b', o', e1, h2, by rw [h3, h4]⟩)
              obtain ⟨b', o', rfl, k1, k2⟩ := HOC.out w7 (Below.refl _ _)
              have HEX := Lib.hid (show (x0.extract 3 4).data.toList = [y] from by
                rw [extract_data, HHX.out.1]; rfl)
              obtain ⟨q0, hgl⟩ := HL7.out w7 (Below.refl _ _)
              obtain ⟨⟨p0, p1, p2⟩, -⟩ := row3f (HP.out w7 HB17.out).1
              have hpl7 := (HP.out w7 HB17.out).2
              clear hw7 hg7 hpp hb6 ho hoD HOP
              go_cut [98] (fun v W => (∃ b, v = .bool b ∧ (b = true ↔ [y] = dT o)) ∧ Hid (Below w7.heap.size w7 W))
              case first =>
                go_region_law
                  (first | (go_simp; go_at_call 139; refine (HDC.out _).mono ?_; rintro e wd ⟨sd, rfl, hsd, hzd, hbd⟩; have HBD := Lib.hid (show Below w7.heap.size w7 wd from (by first | exact hbd | exact ((Below.refl _ _).drew).trans hbd)); obtain ⟨qd0, hgd⟩ := HL7.out wd HBD.out) | (fail))
                all_goals
                  go_wp2_with fail
                  go_meet
                  exact ⟨⟨_, rfl, cmp_iff HEX.out hsd⟩, HBD⟩
              case rest =>
                obtain ⟨⟨b, rfl, hb⟩, HB8⟩ := hcut
                rename World => w8
                have HB18 := Lib.hid (show Below w1.heap.size w1 w8 from HB17.out.trans (HB8.out.mono HB17.out.size))
                have H13 := Lib.hid (show w1.heap.size ≤ w3.heap.size from HB3.out.size)
                have H03 := Lib.hid (show w.heap.size ≤ w3.heap.size from Nat.le_trans HB1.out.size HB3.out.size)
                have HBX8 := Lib.hid ((HB8.out.block g7 HBX.out.2.2).trans HBX.out.1)
                have HP8 := Lib.hid ((HPP.out.below HB8.out).mono (B' := w3.heap.size) (Nat.le_trans HB34.out.size HB5.out.size))
                have HRO8 := Lib.hid (show RO w3.heap.size w8 (.slice (some ⟨gv, 0, none⟩) r.length cv4) r from by
                  have h1 := HB5.out.trans (HB57.out.mono HB5.out.size)
                  have h2 := h1.trans (HB8.out.mono h1.size)
                  have h3 := HROV.out.2
                  exact ⟨h3.1, ownsRow_keep h3.2 (S := Any) (Keep.of_below h2) fun _ _ => trivial⟩)
                have HX9 := True.intro
                clear q0 hgl p0 p1 p2 hpl7 k1 k2 h4 hl1 hl3
                cases b with
                | true =>
                  have HS := Lib.hid (show stepS n p s.data.toList = some (p.app ⟨j, none, r⟩) from by rw [HST2.out, if_pos (hb.1 rfl)])
                  obtain ⟨gp, ex2, hgB, hgpl, ⟨cur, hcur⟩, hW⟩ := PP.slotPW (i := j) HP8.out (by rw [H.out.pl]; exact hj2)
                  subst ex2
                  obtain ⟨hp1, ⟨u0, hp2⟩, hp3, hset⟩ := hW w8 (Below.refl _ _)
                  have HSET := Lib.hid (hset (.slice (some ⟨gv, 0, none⟩) r.length cv4) r HRO8.out)
                  have hgg := box_ne HBX8.out hcur
                  have hg1 : ¬ g0 + 1 = gp := by have h1 := HS1.out; have h2 := H13.out; omega
                  have hjp : (j : Int) < (p.ps.length : Int) := by rw [H.out.pl]; exact hjI
                  clear hset hW hcur
                  obtain ⟨⟨d0, d1, d2⟩, -⟩ := row3f HBX8.out
                  have hg7l : g7 < w8.heap.size := (Array.getElem?_eq_some_iff.1 HBX8.out).1
                  obtain ⟨⟨e0, e1, e2⟩, f0, f1, f2⟩ := row3f (HR.out w8 HB18.out).1
                  have hgl8 := (HR.out w8 HB18.out).2
                  have HR14 := Lib.hid ((heap_setCell_other w8 ⟨gp, j, none⟩ (g0 + 1) (.slice (some ⟨gv, 0, none⟩) r.length cv4) hg1).trans (HR.out w8 HB18.out).1)
                  have HB14 := Lib.hid (HB18.out.setCell (p := ⟨gp, j, none⟩) (Nat.le_trans H13.out hgB) (.slice (some ⟨gv, 0, none⟩) r.length cv4))
                  have hk : ¬ w3.heap.size ≤ g0 + 1 := by have h1 := HS1.out; have h2 := H13.out; omega
                  have HK := Lib.hid hk
                  clear hk HPP HOC HL HL7 HX9 hb HST HST2
                  go_wp2_with fail
                  obtain ⟨⟨z0, z1, z2⟩, -⟩ := row3f (put3 (x := .slice x1' p.os.length y1') (y := .slice (some ⟨gp, 0, none⟩) p.ps.length y2') (z := .slice x3' p.cs.length y3') HR14.out)
                  exact bodyPost_ret (v := .tuple #[.agg #[.slice x1' p.os.length y1', .slice (some ⟨gp, 0, none⟩) p.ps.length y2', .slice x3' p.cs.length y3'], .bool true]) (by simp [results, Tryz.results107, go_sem, z0, z1, z2]) rfl ⟨_, _, _, _, rfl, HRB.out _ HB14.out _ _ _, .inl ⟨rfl, _, HS.out, (HSET.out.keep (S := fun k => w3.heap.size ≤ k) ((((Keep.refl _ _).setCell (p := ⟨g0 + 1, 0, none⟩) HK.out _).setCell (p := ⟨g0 + 1, 1, none⟩) HK.out _).setCell (p := ⟨g0 + 1, 2, none⟩) HK.out _) (fun _ h => h)).mono H03.out⟩⟩
                | false =>
                  have hyo : ¬ [y] = dT o := fun h => absurd (hb.2 h) (by simp)
                  cases hL2 : isL j y with
                  | false =>
                    have HN := Lib.hid (show stepS n p s.data.toList = none from by rw [HST2.out, if_neg hyo]; simp [hL2])
                    by_cases hneg : y.toNat < 97
                    · have hni : (y.toNat : Int) - 97 < 0 := by omega
                      clear hyo hb hL2 hneg
                      obtain ⟨⟨p0, p1, p2⟩, -⟩ := row3f (HP.out w8 HB18.out).1
                      obtain ⟨⟨e0, e1, e2⟩, f0, f1, f2⟩ := row3f (HR.out w8 HB18.out).1
                      have hgl := (HR.out w8 HB18.out).2
                      go_wp2_with fail
                      obtain ⟨⟨z0, z1, z2⟩, -⟩ := row3f (put3 (x := .slice (some ⟨b', o', none⟩) n c1) (y := .slice a2 n c2) (z := .slice a3 n c3) (HR.out w8 HB18.out).1)
                      exact bodyPost_ret (v := .tuple #[.agg #[.slice (some ⟨b', o', none⟩) n c1, .slice a2 n c2, .slice a3 n c3], .bool false]) (by simp [results, Tryz.results107, go_sem, z0, z1, z2]) rfl (HF.out w8 HB18.out HN.out)
                    · have hni : ¬ (y.toNat : Int) - 97 < 0 := by omega
                      have hnn : (j : Int) ≤ (y.toNat : Int) - 97 := by
                        unfold isL at hL2
                        simp at hL2
                        omega
                      clear hyo hb hL2 hneg
                      obtain ⟨⟨p0, p1, p2⟩, -⟩ := row3f (HP.out w8 HB18.out).1
                      obtain ⟨⟨e0, e1, e2⟩, f0, f1, f2⟩ := row3f (HR.out w8 HB18.out).1
                      have hgl := (HR.out w8 HB18.out).2
                      go_wp2_with fail
                      obtain ⟨⟨z0, z1, z2⟩, -⟩ := row3f (put3 (x := .slice (some ⟨b', o', none⟩) n c1) (y := .slice a2 n c2) (z := .slice a3 n c3) (HR.out w8 HB18.out).1)
                      exact bodyPost_ret (v := .tuple #[.agg #[.slice (some ⟨b', o', none⟩) n c1, .slice a2 n c2, .slice a3 n c3], .bool false]) (by simp [results, Tryz.results107, go_sem, z0, z1, z2]) rfl (HF.out w8 HB18.out HN.out)
                  | true =>
                    obtain ⟨hi1, hi2⟩ := isL_sub hL2
                    obtain ⟨i, hi⟩ : ∃ i, y.toNat - 97 = i := ⟨_, rfl⟩
                    have hii : (y.toNat : Int) - 97 = (i : Int) := by omega
                    rw [hii]
                    rw [hi] at hi2
                    have HS := Lib.hid (show stepS n p s.data.toList = some (p.app ⟨j, some i, r⟩) from by rw [HST2.out, if_neg hyo, hL2, if_pos rfl, hi])
                    obtain ⟨kk, hkk⟩ : ∃ kk, i + 1 + kk = j := ⟨j - (i + 1), by omega⟩
                    obtain ⟨L, hL⟩ : ∃ L, p.cs[i]? = some L := ⟨_, List.getElem?_eq_getElem (by rw [H.out.cl]; omega)⟩
                    have hLl := (H.out.cr i L hL).1
                    have hkL : kk < L.length := by omega
                    obtain ⟨gc, gu, cu, ex3, hgB, hgul, hgcB, hgcl, hcu, ⟨cur, hcur⟩, hW⟩ := PP.slotCW HP8.out hL hkL
                    subst ex3
                    obtain ⟨hp0, hp00, hp1, ⟨u0, hp2⟩, hp3, hset⟩ := hW w8 (Below.refl _ _)
                    have hgg := box_ne HBX8.out hcur
                    have hg1 : ¬ g0 + 1 = gu := by have h1 := HS1.out; have h2 := H13.out; omega
                    have hw1 : IntKind.i64.wrap ((j : Int) - (i : Int)) = (j : Int) - (i : Int) := IntWalk.i64_in _ (by omega)
                    have hw2 : IntKind.i64.wrap ((j : Int) - (i : Int) - 1) = (kk : Int) := by rw [IntWalk.i64_in _ (by omega)]; omega
                    obtain ⟨ln, hln⟩ : ∃ ln, L.length = ln := ⟨_, rfl⟩
                    rw [hln] at hp0 hkL
                    have hkl : (kk : Int) < (ln : Int) := by omega
                    have hijI : (i : Int) < (j : Int) := by omega
                    have hijN : ¬ (j : Int) ≤ (i : Int) := by omega
                    have hi0 : ¬ (i : Int) < 0 := by omega
                    have hip : (i : Int) < (p.cs.length : Int) := by rw [H.out.cl]; omega
                    have hin : i < p.cs.length := by rw [H.out.cl]; omega
                    have HSET := Lib.hid (show PP w3.heap.size (w8.setCell ⟨gu, kk, none⟩ (.slice (some ⟨gv, 0, none⟩) r.length cv4)) _ _ _ (p.app ⟨j, some i, r⟩) from by
                      have h1 := hset (.slice (some ⟨gv, 0, none⟩) r.length cv4) r HRO8.out
                      have h2 : p.app ⟨j, some i, r⟩ = ⟨p.os, p.ps, p.cs.set i (L.set kk r)⟩ := by
                        unfold RP.app
                        simp only
                        rw [getD_of hL, show j - i - 1 = kk by omega]
                      rw [h2]
                      exact h1)
                    clear hset hW hcur hii hi hi1 hL2 hyo hkk hL hLl hln
                    obtain ⟨⟨d0, d1, d2⟩, -⟩ := row3f HBX8.out
                    have hg7l : g7 < w8.heap.size := (Array.getElem?_eq_some_iff.1 HBX8.out).1
                    obtain ⟨⟨e0, e1, e2⟩, f0, f1, f2⟩ := row3f (HR.out w8 HB18.out).1
                    have hgl8 := (HR.out w8 HB18.out).2
                    have HR14 := Lib.hid ((heap_setCell_other w8 ⟨gu, kk, none⟩ (g0 + 1) (.slice (some ⟨gv, 0, none⟩) r.length cv4) hg1).trans (HR.out w8 HB18.out).1)
                    have HB14 := Lib.hid (HB18.out.setCell (p := ⟨gu, kk, none⟩) (Nat.le_trans H13.out hgB) (.slice (some ⟨gv, 0, none⟩) r.length cv4))
                    have hk : ¬ w3.heap.size ≤ g0 + 1 := by have h1 := HS1.out; have h2 := H13.out; omega
                    have HK := Lib.hid hk
                    clear hk HPP HOC HL HL7 HX9 hb HST HST2
                    go_wp2_with fail
                    obtain ⟨⟨z0, z1, z2⟩, -⟩ := row3f (put3 (x := .slice x1' p.os.length y1') (y := .slice x2' p.ps.length y2') (z := .slice (some ⟨gc, 0, none⟩) p.cs.length y3') HR14.out)
                    exact bodyPost_ret (v := .tuple #[.agg #[.slice x1' p.os.length y1', .slice x2' p.ps.length y2', .slice (some ⟨gc, 0, none⟩) p.cs.length y3'], .bool true]) (by simp [results, Tryz.results107, go_sem, z0, z1, z2]) rfl ⟨_, _, _, _, rfl, HRB.out _ HB14.out _ _ _, .inl ⟨rfl, _, HS.out, (HSET.out.keep (S := fun k => w3.heap.size ≤ k) ((((Keep.refl _ _).setCell (p := ⟨g0 + 1, 0, none⟩) HK.out _).setCell (p := ⟨g0 + 1, 1, none⟩) HK.out _).setCell (p := ⟨g0 + 1, 2, none⟩) HK.out _) (fun _ h => h)).mono H03.out⟩⟩
end Go.Proofs.YtbamkklhkhglnaaGreatDoor.TsE

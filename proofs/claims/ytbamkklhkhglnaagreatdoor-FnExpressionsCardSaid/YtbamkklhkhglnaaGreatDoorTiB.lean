import Derived.Test.YtbamkklhkhglnaaGreatDoorTiA
import Derived.Test.YtbamkklhkhglnaaGreatDoorTmB
/-
  impl.exponentsOf.
-/
namespace Go.Proofs.YtbamkklhkhglnaaGreatDoor.TiB
open Go.RowKit Go.Lib Go.Proofs.YtbamkklhkhglnaaGreatDoor Go.Proofs.YtbamkklhkhglnaaGreatDoor.Tow Go.Proofs.YtbamkklhkhglnaaGreatDoor.CyA Go.Proofs.YtbamkklhkhglnaaGreatDoor.TxA Go.Proofs.YtbamkklhkhglnaaGreatDoor.TxB Go.Proofs.YtbamkklhkhglnaaGreatDoor.TxC Go.Proofs.YtbamkklhkhglnaaGreatDoor.TmA Go.Proofs.YtbamkklhkhglnaaGreatDoor.TiA
open Go.Proofs.YtbamkklhkhglnaaGreatDoor.DwB (mkE)
set_option linter.unusedVariables false
set_option linter.unusedSimpArgs false

/-- how often the numbers 1 to n occur -/
def cnt (n : Nat) (l : List Int) : List Nat := (List.range n).map fun (i : Nat) => l.count ((i : Int) + 1)
theorem cnt_len (n : Nat) (l : List Int) : (cnt n l).length = n := by simp [cnt]
theorem cnt_get {n i : Nat} (l : List Int) (h : i < n) : (cnt n l)[i]? = some (l.count ((i : Int) + 1)) := by
  unfold cnt
  rw [List.getElem?_map, List.getElem?_range h]; rfl
theorem cnt_step {n y : Nat} (l : List Int) (h : y < n) : (cnt n l).set y (l.count ((y : Int) + 1) + 1) = cnt n (l ++ [(y : Int) + 1]) := by
  refine List.ext_getElem? fun i => ?_
  rw [List.getElem?_set]
  by_cases hi : y = i
  · subst hi
    rw [if_pos rfl, if_pos (by rw [cnt_len]; exact h), cnt_get _ h, List.count_append]
    simp
  · rw [if_neg hi]
    by_cases hn : i < n
    · rw [cnt_get _ hn, cnt_get _ hn, List.count_append]
      have : [(y : Int) + 1].count ((i : Int) + 1) = 0 := List.count_eq_zero.2 (by simp; omega)
      rw [this]; rfl
    · rw [List.getElem?_eq_none (by rw [cnt_len]; omega), List.getElem?_eq_none (by rw [cnt_len]; omega)]
theorem cnt_nil (n : Nat) : cnt n [] = zer n := by
  refine List.ext_getElem? fun i => ?_
  by_cases hi : i < n
  · rw [cnt_get _ hi]; simp [zer, hi]
  · rw [List.getElem?_eq_none (by rw [cnt_len]; omega), List.getElem?_eq_none (by simp [zer]; omega)]
theorem lv_ltr {n : Nat} (hn : n ≤ 100) {b : UInt8} (h : isL n b = true) {i : Nat} (hi : i < n) : lv b = (i : Int) + 1 ↔ b = ltr i := by
  have h1 := ltr_nat (i := i) (by omega)
  have h2 := isL_sub h
  unfold lv
  rw [if_neg (by omega)]
  constructor
  · intro e
    apply UInt8.toNat_inj.1
    rw [h1]; omega
  · intro e
    rw [e, h1]; omega
theorem cnt_lv {n : Nat} (hn : n ≤ 100) : ∀ (t : List UInt8), t.all (isL n) = true → cnt n (t.map lv) = (List.range n).map fun i => t.count (ltr i)
  | [], _ => by
    rw [List.map_nil, cnt_nil]
    refine List.ext_getElem? fun i => ?_
    by_cases hi : i < n <;> simp [zer, hi]
  | b :: t, h => by
    have hb : isL n b = true := by simp at h; exact h.1
    have ih := cnt_lv hn t (by simp at h ⊢; exact h.2)
    refine List.ext_getElem? fun i => ?_
    by_cases hi : i < n
    · rw [cnt_get _ hi, List.getElem?_map, List.getElem?_range hi]
      have e1 := congrArg (·[i]?) ih
      simp only [cnt_get _ hi] at e1
      rw [List.getElem?_map, List.getElem?_range hi] at e1
      have e2 : (t.map lv).count ((i : Int) + 1) = t.count (ltr i) := Option.some.inj e1
      show some ((b :: t).map lv |>.count ((i : Int) + 1)) = some ((b :: t).count (ltr i))
      rw [List.map_cons, List.count_cons, List.count_cons, e2]
      congr 2
      by_cases hx : b = ltr i
      · rw [if_pos (by simpa using (lv_ltr hn hb hi).2 hx), if_pos (by simpa using hx)]
      · rw [if_neg (by simpa using fun e => hx ((lv_ltr hn hb hi).1 e)), if_neg (by simpa using hx)]
    · rw [List.getElem?_eq_none (by rw [cnt_len]; omega), List.getElem?_eq_none (by simp; omega)]
theorem exps_good {n : Nat} (hn : n ≤ 100) {t : List UInt8} (h1 : t ≠ [49]) (h2 : t ≠ []) (h : t.all (isL n) = true) : expsI n t = some (cnt n (t.map lv)) := by
  unfold expsI
  rw [if_neg h1, if_neg (by rw [h]; simp [h2]), cnt_lv hn t h]
theorem ints_cnt_get {n y : Nat} (l : List Int) (h : y < n) : (ints (cnt n l))[y]? = some ((l.count ((y : Int) + 1) : Nat) : Int) := by
  rw [ints_get, cnt_get l h]; rfl
/-- exponents that are read -/
def ExR (n : Nat) (t : List UInt8) (w : World) (e : Ending) (w' : World) : Prop := ∃ v b, e = .returned (.tuple #[v, .bool b]) ∧ Below w.heap.size w w' ∧ ((b = true ∧ ∃ r, expsI n t = some r ∧ r.length = n ∧ RO w.heap.size w' v r) ∨ (b = false ∧ expsI n t = none))
theorem RO.of {B n g c : Nat} {w : World} {r : List Nat} (hr : r.length = n) (h : Own B w (.slice (some ⟨g, 0, none⟩) n c) (ints r)) : RO B w (.slice (some ⟨g, 0, none⟩) n c) r := by
  subst hr
  refine ⟨⟨g, c, rfl⟩, ?_⟩
  unfold Own at h
  rwa [ints_length] at h
set_option maxRecDepth 100000 in
set_option maxHeartbeats 2000000 in
theorem exps_any (n : Nat) (hn : n ≤ 6) (s : ByteArray) (hs : s.size ≤ 100000000) (w : World) :
    Calls Tryz.prog 99 #[.int .i64 (n : Int), .string s] w (ExR n s.data.toList w) := by
  have HRW := Lib.hid (readWord_any n (by omega) s hs w)
  have hmk := fun W => mkE n (by omega) W
  obtain ⟨t, ht⟩ : ∃ t, s.data.toList = t := ⟨_, rfl⟩
  have htl : t.length ≤ 100000000 := by rw [← ht]; simpa using hs
  rw [ht] at HRW ⊢
  clear hs ht
  go_enter Tryz.func99, Tryz.ntmps99
  go_wp2_with (first | (go_at_call 120; refine HRW.out.mono ?_; rintro e w2 ⟨v, l, b, rfl, ho, hb2, hl, hcase⟩; obtain ⟨a, c, rfl, hlc, hcm, hac⟩ := owns_form ho; obtain ⟨m, hm⟩ : ∃ m, l.length = m := ⟨_, rfl⟩; rw [hm] at hl hlc ⊢) | fail)
  obtain ⟨g, hg⟩ : ∃ g, w2.heap.size = g := ⟨_, rfl⟩
  obtain ⟨w3, hw3⟩ : ∃ w3, w3 = w2.alloc (.cells (madeCells #[.int .i64 0] n) 2) := ⟨_, rfl⟩
  rw [← hw3]
  have H3 := Lib.hid (show Own w2.heap.size w3 (.slice (some ⟨g, 0, none⟩) n n) (ints (cnt n (l.take 0))) from by
    have h := Own.made (B := w2.heap.size) w2 n (Nat.le_refl _) (by unfold maxLen; omega)
    rw [hw3, ← hg]
    have e : ints (cnt n (l.take 0)) = List.replicate n 0 := by rw [List.take_zero, cnt_nil]; simp [ints, zer]
    rw [e]; exact h)
  have HB3 := Lib.hid (show Below w2.heap.size w2 w3 from by rw [hw3]; exact (Below.refl _ _).alloc (Nat.le_refl _) _)
  have HB2 := Lib.hid hb2
  have HSL := Lib.hid (show SlI (fun _ => True) w2 (.slice a m c) l from by
    have := ho.sl.mono (S' := fun _ => True) (fun _ _ => trivial)
    rwa [hm] at this)
  have HC := Lib.hid hcase
  have HM := Lib.hid hm
  have HG := Lib.hid hg
  rw [hg]
  clear hw3 hb2 ho hcase hm hg hlc hcm hac
  have hm63 : (m : Int) ≤ 100000000 := by omega
  go_loopw [21] (fun iv wr => ∃ i : Nat, i ≤ m ∧ iv = .int .i64 (i : Int) ∧ Hid (Own w2.heap.size wr (.slice (some ⟨g, 0, none⟩) n n) (ints (cnt n (l.take i))) ∧ ∀ x ∈ l.take i, ¬ x < 0) ∧ Hid (Below w2.heap.size w2 wr)) (fun iv _ => m - (intOf iv).toNat)
  case atStart => exact ⟨0, Nat.zero_le _, rfl, Lib.hid ⟨H3.out, fun x h => by simp at h⟩, HB3⟩
  case round =>
    clear H3 HB3
    obtain ⟨i, hi, rfl, hR, hB⟩ := hrel
    by_cases hlt : i < m
    · have hki : (i : Int) < (m : Int) := by omega
      obtain ⟨x, hx⟩ : ∃ x, l[i]? = some x := ⟨_, List.getElem?_eq_getElem (by rw [HM.out]; exact hlt)⟩
      have hxm := List.mem_of_getElem? hx
      obtain ⟨b', o, u, rfl, _, hbl, hcu, rfl⟩ := slg_get (HSL.out.keep (Keep.of_below hB.out)) hx
      obtain ⟨b2, o2, u2, e2, _, hbl2, _⟩ := slg_get HSL.out hx
      have hbg : ¬ b' = g := by
        simp only [Option.some.injEq, Addr.mk.injEq] at e2
        have := HG.out
        omega
      have HTK := Lib.hid (show l.take (i + 1) = l.take i ++ [x] from by rw [List.take_add_one, hx]; rfl)
      have HCX := Lib.hid (show t ≠ [49] ∧ t ≠ [] ∧ ∃ c ∈ t, okL n c ∧ lv c = x from by
        rcases HC.out with ⟨_, h, _⟩ | ⟨_, h, _⟩ | ⟨h1, h2, h3, h4, _⟩
        · rw [h] at hxm; simp at hxm
        · rw [h] at hxm; simp at hxm
        · rw [h3] at hxm
          obtain ⟨c, hc, rfl⟩ := List.mem_map.1 hxm
          exact ⟨h1, h2, c, hc, h4 c hc, rfl⟩)
      clear hx hxm hbl2 e2
      by_cases hneg : x < 0
      · have HF := Lib.hid (show ExR n t w (.returned (.tuple #[.slice none 0 0, .bool false])) wr from by
          obtain ⟨h1, h2, c, hc, hok, rfl⟩ := HCX.out
          exact ⟨_, false, rfl, HB2.out.trans (hB.out.mono HB2.out.size), .inr ⟨rfl, exps_bad h1 hc (.inr hneg)⟩⟩)
        clear hR hB
        go_wp2_with fail
        exact bodyPost_ret (v := .tuple #[.slice none 0 0, .bool false]) (by simp [results, Tryz.results99, go_sem]) rfl HF.out
      · obtain ⟨y, hy⟩ : ∃ y : Nat, x = (y : Int) + 1 := ⟨(x - 1).toNat, by
          obtain ⟨_, _, c, _, hok, rfl⟩ := HCX.out
          have := hok.2.1
          omega⟩
        have hyn : y < n := by
          obtain ⟨_, _, c, _, hok, he⟩ := HCX.out
          have := hok.2.2.2
          omega
        subst hy
        have hyi : (y : Int) < (n : Int) := by omega
        obtain ⟨q, hq⟩ : ∃ q : Nat, (l.take i).count ((y : Int) + 1) = q := ⟨_, rfl⟩
        have hqi : q ≤ 100000000 := by
          have h1 := List.count_le_length (a := (y : Int) + 1) (l := l.take i)
          have h2 : (l.take i).length ≤ i := by rw [List.length_take]; omega
          omega
        have hw1 : IntKind.i64.wrap ((y : Int) + 1 - 1) = (y : Int) := by rw [IntWalk.i64_in _ (by omega)]; omega
        have hw2 : IntKind.i64.wrap ((q : Int) + 1) = (q : Int) + 1 := IntWalk.i64_in _ (by omega)
        have hnn : ¬ (y : Int) + 1 < 0 := by omega
        obtain ⟨hc1, hf1⟩ := hR.out.1.cell (j := y) (a := (q : Int)) (by rw [← hq]; exact ints_cnt_get _ hyn)
        obtain ⟨hgB, hgl⟩ := hR.out.1.lt
        have hset := hR.out.1.set_n y (q + 1)
        rw [← hq, cnt_step _ hyn, hq] at hset
        have HR2 := Lib.hid (show Own w2.heap.size (wr.setCell ⟨g, y, none⟩ (.int .i64 ((q : Int) + 1))) (.slice (some ⟨g, 0, none⟩) n n) (ints (cnt n (l.take (i + 1)))) ∧ ∀ x ∈ l.take (i + 1), ¬ x < 0 from by
          rw [HTK.out]
          refine ⟨hset.1, fun x hx => ?_⟩
          rcases List.mem_append.1 hx with hx | hx
          · exact hR.out.2 x hx
          · obtain rfl : x = (y : Int) + 1 := by simpa using hx
            exact hnn)
        have HB6 := Lib.hid (hB.out.setCell (p := ⟨g, y, none⟩) hgB (.int .i64 ((q : Int) + 1)))
        clear hR hB hset hq hneg
        go_wp2_with fail
        go_roundw
        case rel => exact ⟨i + 1, by omega, by go_num, HR2, HB6⟩
        case measure => simp [intOf]; omega
    · obtain rfl : m = i := by omega
      have hnl : ¬ (m : Int) < (m : Int) := by omega
      have HF := Lib.hid (show ExR n t w (.returned (.tuple #[.slice (some ⟨g, 0, none⟩) n n, .bool b])) wr from by
        have hall : l.take m = l := List.take_of_length_le (by rw [HM.out]; exact Nat.le_refl _)
        obtain ⟨hR1, hR2⟩ := hR.out
        rw [hall] at hR1 hR2
        have hbel := HB2.out.trans (hB.out.mono HB2.out.size)
        have hro := RO.of (cnt_len n l) (hR1.mono (B' := w.heap.size) HB2.out.size)
        rcases HC.out with ⟨h1, h2, h3⟩ | ⟨h1, h2, h3⟩ | ⟨h1, h2, h3, h4, h5⟩
        · exact ⟨_, _, rfl, hbel, .inl ⟨h3, _, by rw [h1, h2, cnt_nil]; rfl, cnt_len n l, hro⟩⟩
        · exact ⟨_, _, rfl, hbel, .inr ⟨h3, h1⟩⟩
        · refine ⟨_, _, rfl, hbel, .inl ⟨h5, _, ?_, cnt_len n l, hro⟩⟩
          rw [h3]
          refine exps_good (by omega) h1 h2 ?_
          rw [List.all_eq_true]
          intro c hc
          exact isL_of (h4 c hc) (hR2 _ (by rw [h3]; exact List.mem_map_of_mem hc)))
      clear hR hB
      go_wp2_with fail
      exact bodyPost_ret (v := .tuple #[.slice (some ⟨g, 0, none⟩) n n, .bool b]) (by simp [results, Tryz.results99, go_sem]) rfl HF.out
end Go.Proofs.YtbamkklhkhglnaaGreatDoor.TiB

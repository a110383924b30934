import Derived.Test.YtbamkklhkhglnaaGreatDoorImplC
namespace Go.Proofs.YtbamkklhkhglnaaGreatDoor.ImplD
open Go.RowKit Go.Proofs.YtbamkklhkhglnaaGreatDoor Go.Proofs.YtbamkklhkhglnaaGreatDoor.Tow Go.Proofs.YtbamkklhkhglnaaGreatDoor.ImplB Go.Proofs.YtbamkklhkhglnaaGreatDoor.ImplC
set_option linter.unusedVariables false
set_option linter.unusedSimpArgs false

theorem tvg_any (T : Tw) (hT : Wf T) (hs : Small T) (m : Nat) : ∀ s, s ≤ T.length → T.length - s ≤ m → Tow.Good (T.drop s) → TvSpec T s ∧ (s < T.length → TgSpec T s) := by
  induction m with
  | zero =>
    intro s h1 h2 hg
    exact ⟨tv_of T hT hs s h1 hg (fun j a b => by omega), fun h => by omega⟩
  | succ m ih =>
    intro s h1 h2 hg
    have hg1 : Tow.Good (T.drop (s + 1)) := by have := Good_drop hg 1; rwa [List.drop_drop] at this
    have hTg : s < T.length → TgSpec T s := fun hlt =>
      tg_of T hT hs s _ (List.getElem?_eq_getElem hlt) hg1 (ih (s + 1) (by omega) (by omega) hg1).1
    refine ⟨tv_of T hT hs s h1 hg (fun j a b => ?_), hTg⟩
    by_cases hj : j = s
    · subst hj; exact hTg b
    · exact (ih j (by omega) (by omega) (by have := Good_drop hg (j - s); rwa [List.drop_drop, Nat.add_sub_cancel' a] at this)).2 b
theorem tv_any (T : Tw) (hT : Wf T) (hs : Small T) (s : Nat) (h : s ≤ T.length) (hg : Tow.Good (T.drop s)) : TvSpec T s := (tvg_any T hT hs _ s h (Nat.le_refl _) hg).1
theorem tg_any (T : Tw) (hT : Wf T) (hs : Small T) (s : Nat) (h : s < T.length) (hg : Tow.Good (T.drop s)) : TgSpec T s := (tvg_any T hT hs _ s (Nat.le_of_lt h) (Nat.le_refl _) hg).2 h

/-- not nil -/
def NN (v : Value) : Prop := ∀ n c, v ≠ .slice none n c
theorem SlI_lt {S : Nat → Prop} {w : World} {v : Value} {l : List Int} (h : SlI S w v l) : SlI (fun k => k < w.heap.size) w v l := by
  obtain ⟨ao, c, h1, h2, h3, h0, h4⟩ := h
  exact ⟨ao, c, h1, h2, h3, h0, fun i x hx => by obtain ⟨b, o, e1, _, e3, e4⟩ := h4 i x hx; exact ⟨b, o, e1, e3, e3, e4⟩⟩
theorem Sl2_lt {S : Nat → Prop} {w : World} {v : Value} {l : List (List Int)} (h : Sl2 S w v l) : Sl2 (fun k => k < w.heap.size) w v l := by
  obtain ⟨ao, c, h1, h2, h3, h0, h4⟩ := h
  exact ⟨ao, c, h1, h2, h3, h0, fun i x hx => by obtain ⟨b, o, e1, _, e3, u, e4, e5⟩ := h4 i x hx; exact ⟨b, o, e1, e3, e3, u, e4, SlI_lt e5⟩⟩
theorem Sl3_lt {S : Nat → Prop} {w : World} {v : Value} {l : List (List (List Int))} (h : Sl3 S w v l) : Sl3 (fun k => k < w.heap.size) w v l := by
  obtain ⟨ao, c, h1, h2, h3, h0, h4⟩ := h
  exact ⟨ao, c, h1, h2, h3, h0, fun i x hx => by obtain ⟨b, o, e1, _, e3, u, e4, e5⟩ := h4 i x hx; exact ⟨b, o, e1, e3, e3, u, e4, Sl2_lt e5⟩⟩
theorem PtrP_lt {S : Nat → Prop} {w : World} {b o : Nat} {P : Pres} (h : PtrP S w b o P) : PtrP (fun k => k < w.heap.size) w b o P := by
  obtain ⟨h1, h2, vO, vP, vC, c1, c2, c3, hv⟩ := h
  exact ⟨h2, h2, vO, vP, vC, c1, c2, c3, ⟨SlI_lt hv.os, Sl2_lt hv.ps, Sl3_lt hv.cs⟩⟩
theorem NN_of {S : Nat → Prop} {w : World} {v : Value} {x : List Nat} (h : SlI S w v (ints x)) (hx : 0 < x.length) : NN v := by
  obtain ⟨ao, c, rfl, _, _, _, h4⟩ := h
  obtain ⟨b, o, rfl, _⟩ := h4 0 (x[0] : Int) (by rw [ints_get, List.getElem?_eq_getElem hx]; rfl)
  intro n c e
  simp at e
theorem NN_some (g cap n : Nat) : NN (.slice (some ⟨g, 0, none⟩) n cap) := fun n c e => by simp at e

theorem clone_some (S : Nat → Prop) (v : Value) (l : List Int) (w : World) (hv : SlI S w v l) (hn : NN v) (hl : l.length ≤ 1000000) :
    Calls Tryz.prog 117 #[v] w (NewS l w) := by
  obtain ⟨i0, hi, hz0, hz1, hz2⟩ := info_parts infoI
  obtain ⟨ao, c, rfl, hc, hm, _, hx⟩ := hv
  have HL := Lib.hid hl
  have HM := Lib.hid hm
  clear hl hm
  have hsl : SlI S w (.slice ao l.length c) l := ⟨ao, c, rfl, hc, HM.out, by assumption, hx⟩
  have HS := Lib.hid hsl
  have h00 := World.ownsRow_made (base := w.heap.size) (e := 2) (size := 1) w #[] 0 (Nat.le_refl _) (Nat.zero_le _) rfl
  have hen := fun (w : World) (a : Option Addr) (n c n' c' : Nat) => Lib.run_eql_slice_nil (P := Tryz.prog) w 87 2 a n c n' c' Tryz.underlying87
  cases ao with
  | none => exact absurd rfl (hn _ _)
  | some ad =>
    have C1 := Lib.hid (SlI.src (w' := w.alloc (.cells #[] 2)) HS.out ((Keep.refl _ _).alloc _))
    have C2 := Lib.hid (vals_one l)
    have C3 := Lib.hid (show 0 + l.length ≤ maxLen from by have := HL.out; unfold maxLen; omega)
    have C4 := Lib.hid (show (0 + l.length) * 8 ≤ 140737488355328 from by have := HL.out; omega)
    have C5 := Lib.hid (show (vals l).length = l.length * 1 by simp [vals])
    clear hsl hx hn
    go_enter Tryz.func117, Tryz.ntmps117
    go_wp2_with (at_builtin; refine wpList_append_own _ rfl _ _ 87 rfl w.heap.size 2 i0 (.int .i64 0) 1 8 Tryz.underlying87 hi hz0 hz1 hz2 rfl (by decide) _ _ _ rfl h00 ad l.length c (vals l) rfl C5.out C1.out C2.out C3.out C4.out (by simp) ?_)
    intro v' w1 hown' hgrow hnil
    have hO : Own w.heap.size w1 v' l := by simpa [Own] using hown'
    have hB : Below w.heap.size w w1 := ((Below.refl _ _).alloc (Nat.le_refl _) _).grown hgrow (by simp) (by intro k hk; simp [Value.ownBlock] at hk; omega)
    have hne : v' ≠ .slice none 0 0 := hnil
    clear hown' hgrow hnil
    go_wp2_with fail
    go_ret
    obtain ⟨g, cap, rfl⟩ := hO.head hne
    exact ⟨g, cap, rfl, hO, hB⟩

abbrev Any : Nat → Prop := fun _ => True

set_option maxHeartbeats 400000 in
theorem multiply_any (T : Tw) (hT : Wf T) (hs : Small T) (s : Nat) (h : s ≤ T.length) (hg : Tow.Good (T.drop s)) (w : World) (b o : Nat) (va vb : Value) (x y : List Nat) (hP : PtrP Any w b o (ofTw T)) (ha : SlI Any w va (ints (pad s x))) (hn : NN va) (hb : SlI Any w vb (ints (pad s y)))
    (hx : El (T.drop s) x) (hy : El (T.drop s) y) :
    Calls Tryz.prog 191 #[.pointer (some ⟨b, o, none⟩), va, vb] w (NewS (ints (pad s (mul (T.drop s) x y))) w) := by
  have HTV := Lib.hid (tv_any T hT hs s h hg)
  have hl : (ints (pad s x)).length = T.length := by rw [ints_length, pad_length, El_length hx, List.length_drop]; omega
  have HL := Lib.hid hl
  have HP := Lib.hid hP
  have HA := Lib.hid ha
  have HB := Lib.hid hb
  have HN := Lib.hid hn
  have hs6 := hs.1
  clear hP ha hb hn hl
  go_enter Tryz.func191, Tryz.ntmps191
  go_wp2_with fail
  refine (clone_some Any _ _ _ HA.out HN.out (by rw [HL.out]; omega)).mono ?_
  rintro e w1 ⟨g, cap, rfl, ho, hbw⟩
  rw [HL.out] at ho ⊢
  have HO := Lib.hid ho
  have HBW := Lib.hid hbw
  have hlt := ho.lt
  clear ho hbw
  go_wp2_with fail
  have hP1 := (PtrP_lt HP.out).keep (Keep.of_below HBW.out)
  have hB1 := HB.out.keep (Keep.of_below HBW.out)
  refine (HTV.out (fun k => k < w.heap.size) _ b o w.heap.size g cap vb (List.replicate s 0) x y hP1 ((SlI_lt HB.out).keep (Keep.of_below HBW.out)) (by omega) (by simp) hx hy HO.out).mono ?_
  rintro e w2 ⟨rfl, ho2, hg2⟩
  have HO2 := Lib.hid ho2
  have HB2 := Lib.hid (HBW.out.grown hg2 (by have := HBW.out.size; omega) (by intro k hk; cases hk; omega))
  clear ho2 hg2 hP1 hB1
  go_wp2_with fail
  go_ret
  have e1 : (ints (pad s (mul (T.drop s) x y))).length = T.length := by rw [ints_length, pad_length, El_length (El_mul (Wf_drop hT s) hx hy), List.length_drop]; omega
  have e2 : (List.replicate s 0 ++ mul (T.drop s) x y).length = T.length := by rw [← ints_length]; exact e1
  have h3 := HO2.out
  rw [e2] at h3
  exact ⟨g, cap, by rw [e1]; rfl, by rw [e1]; exact h3, HB2.out⟩
end Go.Proofs.YtbamkklhkhglnaaGreatDoor.ImplD

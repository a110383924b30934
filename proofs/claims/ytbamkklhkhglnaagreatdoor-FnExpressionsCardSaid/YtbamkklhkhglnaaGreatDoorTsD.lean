import Derived.Test.YtbamkklhkhglnaaGreatDoorTmB
/-
  spec.l01Own2, l07Own, with values.
-/
namespace Go.Proofs.YtbamkklhkhglnaaGreatDoor.TsD
open Go.RowKit Go.Proofs.YtbamkklhkhglnaaGreatDoor Go.Proofs.YtbamkklhkhglnaaGreatDoor.Tow Go.Proofs.YtbamkklhkhglnaaGreatDoor.CyA Go.Proofs.YtbamkklhkhglnaaGreatDoor.CyB Go.Proofs.YtbamkklhkhglnaaGreatDoor.TxB Go.Proofs.YtbamkklhkhglnaaGreatDoor.TmA Go.Proofs.YtbamkklhkhglnaaGreatDoor.TmB
open Go.Proofs.YtbamkklhkhglnaaGreatDoor.DwB (mkE infoR3 row3f new2 old2 put3 own_any rowV)
set_option linter.unusedVariables false
set_option linter.unusedSimpArgs false

theorem sl2_form {S : Nat → Prop} {w : World} {v : Value} {l : List (List Int)} (h : Sl2 S w v l) : ∃ a c, v = .slice a l.length c := by
  obtain ⟨a, c, e, _⟩ := slg_form h
  exact ⟨a, c, e⟩
theorem at_row {S : Nat → Prop} {w : World} {a : Option Addr} {n c : Nat} {rows : List (List Nat)} (h : Sl2 S w (.slice a n c) (rows.map ints)) {k : Nat} {r : List Nat} (hr : rows[k]? = some r) : ∃ b o vr, a = some ⟨b, o, none⟩ ∧ b < w.heap.size ∧ w.cell? ⟨b, o + k, none⟩ = some vr ∧ SlI S w vr (ints r) := by
  obtain ⟨b, o, u, e, _, h2, h3, h4⟩ := slg_get h (show (rows.map ints)[k]? = some (ints r) by simp [hr])
  exact ⟨b, o, u, e, h2, h3, h4⟩
set_option maxRecDepth 100000 in
set_option maxHeartbeats 1000000 in
theorem own2_any (w : World) (v : Value) (rows : List (List Nat)) (hv : Sl2 Any w v (rows.map ints)) (hl : rows.length ≤ 1000) (hr : ∀ r ∈ rows, r.length ≤ 1000) :
    Calls Tryz.prog 169 #[v] w (New2 87 2 rows w) := by
  obtain ⟨i0, hi, hz0, hz1, hz2⟩ := info_parts infoR
  obtain ⟨aU, cU, rfl⟩ := sl2_form hv
  rw [List.length_map] at hv ⊢
  have HV := Lib.hid hv
  have HL := Lib.hid hl
  have HR := Lib.hid hr
  have h00 := World.ownsRow_made (base := w.heap.size) (e := 87) (size := 1) w #[] 0 (Nat.le_refl _) (Nat.zero_le _) rfl
  clear hv hr
  go_enter Tryz.func169, Tryz.ntmps169
  go_wp2_with fail
  go_loopw [3, 4] (fun ov i wr => ∃ k : Nat, k ≤ rows.length ∧ i = .int .i64 (k : Int) ∧ Hid (Own2 87 2 w.heap.size wr ov (rows.take k)) ∧ Below w.heap.size w wr) (fun _ i _ => rows.length - (intOf i).toNat)
  case atStart => exact ⟨0, Nat.zero_le _, rfl, Lib.hid ⟨[], h00, rfl, by simp⟩, (Below.refl _ _).alloc (Nat.le_refl _) _⟩
  case round =>
    obtain ⟨k, hk, rfl, ho2, hb⟩ := hrel
    have HB := Lib.hid hb
    clear hb h00
    by_cases hlt : k < rows.length
    · obtain ⟨r, hrk⟩ : ∃ r, rows[k]? = some r := ⟨_, List.getElem?_eq_getElem hlt⟩
      obtain ⟨bU, oU, vr, rfl, hbU, hcU, hrU⟩ := at_row HV.out hrk
      have hcU5 := ((Keep.of_below (S := Any) HB.out).cell (b := bU) (o := oU + k) trivial hbU).trans hcU
      have HRU := Lib.hid (SlI.keep hrU (Keep.of_below HB.out))
      have hrl := HR.out r (List.mem_of_getElem? hrk)
      have HTK := Lib.hid (show rows.take (k + 1) = rows.take k ++ [r] by rw [List.take_add_one, hrk]; rfl)
      clear hcU hrU hrk
      go_wp2_with fail
      refine (DwB.own_any Any _ _ _ HRU.out (by rw [ints_length]; omega)).mono ?_
      rintro e w1 ⟨g, c, rfl, ho, hb1⟩
      have HB1 := Lib.hid (HB.out.trans (hb1.mono HB.out.size))
      have HRR := Lib.hid (NewS.row (ho.mono (B' := w.heap.size) HB.out.size))
      obtain ⟨us, h1, h2, h4⟩ := ho2.out.of_below hb1
      have HU := Lib.hid (And.intro h2 h4)
      have htl : (rows.take k).length = k := by simp; omega
      rw [htl] at h1
      have HTL := Lib.hid htl
      clear ho hb1 h2 h4 ho2 htl
      go_wp2_with (at_builtin; (refine wpList_append_own _ rfl _ _ 88 rfl w.heap.size 87 i0 (.slice none 0 0) 1 24 Tryz.underlying88 hi hz0 hz1 hz2 rfl (by decide) _ _ _ rfl (h1.alloc _) ⟨w1.heap.size, 0, none⟩ 1 1 [.slice (some ⟨g, 0, none⟩) (ints r).length c] rfl rfl ?c1 ?c2 ?c3 ?c4 ?c5 ?_))
      case c1 =>
        intro j u hj
        match j, hj with
        | 0, hj => simp at hj; subst hj; simp [Addr.add]
      case c2 => intro u hu; simp at hu; subst hu; rfl
      case c3 => have := HL.out; unfold maxLen; omega
      case c4 => have := HL.out; omega
      case c5 => have := HB1.out.size; simp; omega
      · intro v' w2 hown hgrow _
        have HN := Lib.hid (show Own2 87 2 w.heap.size w2 v' (rows.take (k + 1)) from by
          rw [HTK.out]
          exact Own2.push (w := w1.alloc _) (us := us) (by decide) HTL.out (h1.alloc _) HU.out.1 (fun i r u hr hu => (HU.out.2 i r u hr hu).keep (S := fun _ => True) ((Keep.refl _ _).alloc _) (fun _ _ => trivial)) (HRR.out.keep (S := fun _ => True) ((Keep.refl _ _).alloc _) (fun _ _ => trivial)) hown hgrow)
        have HB2 := Lib.hid (show Below w.heap.size w w2 from (HB1.out.alloc (by have := HB1.out.size; omega) _).grown hgrow (by simp; have := HB1.out.size; omega) (fun g hg => (World.ownsRow.lt h1 g hg).1))
        have hk729 : (k : Int) ≤ 1000 := by have := HL.out; omega
        clear hown hgrow h1 HU HRR
        go_wp2_with fail
        go_roundw
        case rel => exact ⟨k + 1, by omega, by go_num, HN, HB2.out⟩
        case measure => simp [intOf]; omega
    · obtain rfl : k = rows.length := by omega
      go_wp2_with fail
      go_ret
      have h := ho2.out
      rw [List.take_length] at h
      exact ⟨_, rfl, h, HB.out⟩
/-- a presentation in the making: its orders and powers, and q lists of conjugates -/
structure TW (B : Nat) (W : World) (g : Nat) (vO vP vC : Value) (p : RP) (q : Nat) : Prop where
  bx : W.heap[g]? = some (.cells #[vO, vP, vC] 91 (0, 0))
  hg : B ≤ g
  O : Own B W vO p.os
  P : O2 B W vP p.ps
  C : ∃ us, W.ownsRow B 88 1 vC q us ∧ (∀ (i : Nat) u, us[i]? = some u → O2 B W u (p.cs.getD i []) ∧ Apart u vP) ∧ ∀ (i j : Nat) u u', us[i]? = some u → us[j]? = some u' → i ≠ j → Apart u u'
theorem TW.lt {B : Nat} {W : World} {g : Nat} {vO vP vC : Value} {p : RP} {q : Nat} (h : TW B W g vO vP vC p q) : g < W.heap.size := (Array.getElem?_eq_some_iff.1 h.bx).1
theorem TW.kept {B : Nat} {W W' : World} {g : Nat} {vO vP vC : Value} {p : RP} {q : Nat} (h : TW B W g vO vP vC p q) (hk : Keep (fun k => B ≤ k) W W') : TW B W' g vO vP vC p q := by
  obtain ⟨vs, c1, c2, c3⟩ := h.C
  exact ⟨(hk.block g h.hg h.lt).trans h.bx, h.hg, ownsRow_keep h.O hk (fun _ h => h), h.P.keep hk (fun _ h => h), vs, ownsRow_keep c1 hk (fun _ h => h), fun i u hu => ⟨(c2 i u hu).1.keep hk (fun _ h => h), (c2 i u hu).2⟩, c3⟩
theorem TW.below {B : Nat} {W W' : World} {g : Nat} {vO vP vC : Value} {p : RP} {q : Nat} (h : TW B W g vO vP vC p q) (hb : Below W.heap.size W W') : TW B W' g vO vP vC p q := h.kept ((Keep.of_below (S := Any) hb).mono fun _ _ => trivial)
theorem TW.mono {B B' : Nat} {W : World} {g : Nat} {vO vP vC : Value} {p : RP} {q : Nat} (h : TW B W g vO vP vC p q) (hB : B' ≤ B) : TW B' W g vO vP vC p q := by
  obtain ⟨vs, c1, c2, c3⟩ := h.C
  exact ⟨h.bx, Nat.le_trans hB h.hg, ownsRow_mono h.O hB, h.P.mono hB, vs, ownsRow_mono c1 hB, fun i u hu => ⟨(c2 i u hu).1.mono hB, (c2 i u hu).2⟩, c3⟩
theorem TW.pp {B : Nat} {W : World} {g : Nat} {vO vP vC : Value} {p : RP} (h : TW B W g vO vP vC p p.cs.length) : PP B W vO vP vC p := by
  obtain ⟨vs, c1, c2, c3⟩ := h.C
  have l2 : vs.length = p.cs.length := by have := c1.1; omega
  exact ⟨h.O, h.P, vs, c1, l2, fun i L u hL hu => by
    have := c2 i u hu
    rwa [getD_of hL] at this, c3⟩
/-- another list of conjugates -/
theorem TW.con {B c g2 : Nat} {W W1 W2 : World} {g : Nat} {vO vP vC u : Value} {p : RP} {q : Nat} {us : List Value} (h : TW B W g vO vP vC p q) (hb : Below W.heap.size W W1) (hc1 : W1.ownsRow B 88 1 vC q us) (hc2 : ∀ (i : Nat) u, us[i]? = some u → O2 B W u (p.cs.getD i []) ∧ Apart u vP)
    (hc3 : ∀ (i j : Nat) u u', us[i]? = some u → us[j]? = some u' → i ≠ j → Apart u u') (hu : O2 B W1 u (p.cs.getD q [])) (hup : Apart u vP) (hua : ∀ x ∈ us, Apart u x ∧ Apart x u)
    (ho : W2.ownsRow B 88 1 (.slice (some ⟨g2, 0, none⟩) (q + 1) c) (q + 1) (us ++ [u])) (hg : W1.grownBy W2 vC.ownBlock) :
    TW B (W2.setCell ⟨g, 2, none⟩ (.slice (some ⟨g2, 0, none⟩) (q + 1) c)) g vO vP (.slice (some ⟨g2, 0, none⟩) (q + 1) c) p (q + 1) := by
  have h1 := h.below hb
  have hgl1 : g < W1.heap.size := h1.lt
  have hCne : vC.ownBlock ≠ some g := owns_ne hc1 h1.bx (by decide)
  have hbx2 : W2.heap[g]? = some (.cells #[vO, vP, vC] 91 (0, 0)) := (hg.block g hgl1 (fun e => hCne e.symm)).trans h1.bx
  have r2 : ∀ L v, O2 B W1 v L → O2 B (W2.setCell ⟨g, 2, none⟩ (.slice (some ⟨g2, 0, none⟩) (q + 1) c)) v L := fun L v hv => by
    obtain ⟨xs, q1, q2⟩ := id hv
    have d3 : O2 B W2 v L := O2.grown hv hc1 (by decide) hg (rows_apart q1 hc1 (by decide))
    exact O2.far d3 hbx2 (by decide) (by obtain ⟨_, q1, _⟩ := d3; exact owns_ne q1 hbx2 (by decide))
  have hl : us.length = q := by have := hc1.1; omega
  have hp2 : O2 B W2 vP p.ps := by
    obtain ⟨_, p1, _⟩ := id h1.P
    exact O2.grown h1.P hc1 (by decide) hg (rows_apart p1 hc1 (by decide))
  refine ⟨heap_setCell_same W2 g 2 _ _ _ hbx2, h.hg, own_far h1.O (.inr hc1) rfl hg hbx2, O2.far hp2 hbx2 (by decide) (by obtain ⟨_, q1, _⟩ := hp2; exact owns_ne q1 hbx2 (by decide)), us ++ [u], owns_far ho (owns_ne ho hbx2 (by decide)), fun i x hx => ?_, fun i j x x' hx hx' hij => ?_⟩
  · rcases Nat.lt_or_ge i us.length with hi | hi
    · rw [List.getElem?_append_left hi] at hx
      exact ⟨r2 _ _ ((hc2 i x hx).1.of_below hb), (hc2 i x hx).2⟩
    · rw [List.getElem?_append_right hi] at hx
      rcases hj : i - us.length with _ | j
      · rw [hj] at hx
        simp at hx
        subst hx
        have : i = q := by omega
        subst this
        exact ⟨r2 _ _ hu, hup⟩
      · rw [hj] at hx
        simp at hx
  · have key : ∀ (i : Nat) (x : Value), (us ++ [u])[i]? = some x → (i < us.length ∧ us[i]? = some x) ∨ (i = us.length ∧ x = u) := fun i x hx => by
      rcases Nat.lt_or_ge i us.length with hi | hi
      · rw [List.getElem?_append_left hi] at hx
        exact .inl ⟨hi, hx⟩
      · rw [List.getElem?_append_right hi] at hx
        rcases hj : i - us.length with _ | j
        · rw [hj] at hx
          simp at hx
          exact .inr ⟨by omega, hx.symm⟩
        · rw [hj] at hx
          simp at hx
    rcases key i x hx with ⟨h3, h4⟩ | ⟨h3, rfl⟩
    · rcases key j x' hx' with ⟨h5, h6⟩ | ⟨h5, rfl⟩
      · exact hc3 i j x x' h4 h6 hij
      · exact (hua x (List.mem_of_getElem? h4)).2
    · rcases key j x' hx' with ⟨h5, h6⟩ | ⟨h5, rfl⟩
      · exact (hua x' (List.mem_of_getElem? h6)).1
      · exact absurd (h3.trans h5.symm) hij
abbrev zbox : Obj := .cells #[.slice none 0 0, .slice none 0 0, .slice none 0 0] 91 (0, 0)
/-- the box that gets orders and powers -/
def FoP (wc w6 : World) (g : Nat) (p : RP) (x y : Value) : Prop := w6.heap[g]? = some zbox ∧ wc.heap.size ≤ g ∧ Own wc.heap.size w6 x p.os ∧ O2 wc.heap.size w6 y p.ps ∧ Below wc.heap.size wc w6
def FoN (wc w6 : World) (p : RP) (x y : Value) : Prop := Own wc.heap.size w6 x p.os ∧ O2 wc.heap.size w6 y p.ps ∧ Below wc.heap.size wc w6
abbrev FoR (wc W : World) (n : Nat) (p : RP) (v : Value) : Prop := ∃ g x1 y1 x2 y2, v = .pointer (some ⟨g, 0, none⟩) ∧ Hid (TW wc.heap.size W g (.slice x1 n y1) (.slice x2 n y2) (.slice none 0 0) p 0) ∧ Hid (Below wc.heap.size wc W)
theorem tw_mk {B g : Nat} {W : World} {vO vP : Value} {p : RP} (h : W.heap[g]? = some (.cells #[vO, vP, .slice none 0 0] 91 (0, 0))) (hB : B ≤ g) (hO : Own B W vO p.os) (hP : O2 B W vP p.ps) : TW B W g vO vP (.slice none 0 0) p 0 :=
  ⟨h, hB, hO, hP, [], World.ownsRow_nil _ _ _ _, fun i u hu => by simp at hu, fun i j u u' hu => by simp at hu⟩
theorem own_farP {B b i n : Nat} {w : World} {v c : Value} {xs : List Value} {cur : Array Value} (h : w.ownsRow B 2 1 v n xs) (hb : w.heap[b]? = some (.cells cur 91 (0, 0))) : (w.setCell ⟨b, i, none⟩ c).ownsRow B 2 1 v n xs := owns_far h (owns_ne h hb (by decide))
theorem o2_farP {B b i : Nat} {w : World} {v c : Value} {rows : List (List Nat)} {cur : Array Value} (h : O2 B w v rows) (hb : w.heap[b]? = some (.cells cur 91 (0, 0))) : O2 B (w.setCell ⟨b, i, none⟩ c) v rows := O2.far h hb (by decide) (by obtain ⟨_, q1, _⟩ := h; exact owns_ne q1 hb (by decide))
theorem fo_put {wc w6 : World} {g n y1 y2 : Nat} {p : RP} {x1 x2 : Option Addr} (h : FoP wc w6 g p (.slice x1 n y1) (.slice x2 n y2)) :
    FoR wc (((w6.setCell ⟨g, 0, none⟩ (.slice x1 n y1)).setCell ⟨g, 1, none⟩ (.slice x2 n y2)).setCell ⟨g, 2, none⟩ (.slice none 0 0)) n p (.pointer (some ⟨g, 0, none⟩)) := by
  obtain ⟨h1, h2, h3, h4, h5⟩ := h
  have e1 : (w6.setCell ⟨g, 0, none⟩ (.slice x1 n y1)).heap[g]? = some (.cells #[.slice x1 n y1, .slice none 0 0, .slice none 0 0] 91 (0, 0)) := heap_setCell_same w6 g 0 _ _ _ h1
  have e2 : ((w6.setCell ⟨g, 0, none⟩ (.slice x1 n y1)).setCell ⟨g, 1, none⟩ (.slice x2 n y2)).heap[g]? = some (.cells #[.slice x1 n y1, .slice x2 n y2, .slice none 0 0] 91 (0, 0)) := heap_setCell_same _ g 1 _ _ _ e1
  exact ⟨g, x1, y1, x2, y2, rfl, Lib.hid (tw_mk (put3 h1) h2 (own_farP (own_farP (own_farP h3 h1) e1) e2) (o2_farP (o2_farP (o2_farP h4 h1) e1) e2)), Lib.hid (((h5.setCell (p := ⟨g, 0, none⟩) h2 _).setCell (p := ⟨g, 1, none⟩) h2 _).setCell (p := ⟨g, 2, none⟩) h2 _)⟩
theorem fo_new {wc w6 : World} {n y1 y2 : Nat} {p : RP} {x1 x2 : Option Addr} (h : FoN wc w6 p (.slice x1 n y1) (.slice x2 n y2)) :
    FoR wc (w6.alloc (.cells #[.slice x1 n y1, .slice x2 n y2, .slice none 0 0] 91)) n p (.pointer (some ⟨w6.heap.size, 0, none⟩)) := by
  obtain ⟨h3, h4, h5⟩ := h
  exact ⟨w6.heap.size, x1, y1, x2, y2, rfl, Lib.hid (tw_mk (heap_alloc_new _ _) h5.size (Own.alloc h3 _) (h4.keep (S := Any) ((Keep.refl _ _).alloc _) fun _ _ => trivial)), Lib.hid (h5.alloc h5.size _)⟩
def OwnR (p : RP) (w : World) (e : Ending) (w' : World) : Prop := ∃ vO vP vC, e = .returned (.agg #[vO, vP, vC]) ∧ PP w.heap.size w' vO vP vC p ∧ Below w.heap.size w w'
set_option maxRecDepth 100000 in
set_option maxHeartbeats 4000000 in
theorem ownp_any (n : Nat) (hn : n ≤ 100) (p : RP) (h : Sh n p) (a1 a2 a3 : Option Addr) (c1 c2 c3 : Nat) (w : World) (hA : ValP Any w (.slice a1 n c1) (.slice a2 n c2) (.slice a3 n c3) p.val) :
    Calls Tryz.prog 138 #[.agg #[.slice a1 n c1, .slice a2 n c2, .slice a3 n c3]] w (OwnR p w) := by
  have H := Lib.hid h
  obtain ⟨j0, ji, jz0, jz1, jz2⟩ := info_parts infoR3
  have HA := Lib.hid hA
  clear hA h
  go_enter Tryz.func138, Tryz.ntmps138
  go_upto_region 1 with fail
  obtain ⟨wc, hw1⟩ : ∃ wc, wc = ((w.alloc (.cells #[.slice a1 n c1, .slice a2 n c2, .slice a3 n c3] 91)).alloc (.cells #[.slice none 0 0, .slice none 0 0, .slice none 0 0] 91)) := ⟨_, rfl⟩
  rw [← hw1]
  have K1 := Lib.hid (show wc.heap[w.heap.size]? = some (.cells #[.slice a1 n c1, .slice a2 n c2, .slice a3 n c3] 91 (0, 0)) by rw [hw1, Below.heap_alloc _ _ _ (by simp)]; exact heap_alloc_new _ _)
  have K2 := Lib.hid (show wc.heap[w.heap.size + 1]? = some zbox by rw [hw1]; exact new2 w _ _)
  have HS := Lib.hid (show wc.heap.size = w.heap.size + 2 by rw [hw1]; simp)
  have HB := Lib.hid (show Below w.heap.size w wc by rw [hw1]; exact ((Below.refl _ _).alloc (Nat.le_refl _) _).alloc (by simp) _)
  clear hw1
  have HA1 := Lib.hid (HA.out.keep (Keep.of_below HB.out))
  obtain ⟨⟨e0, e1, e2⟩, -⟩ := row3f K1.out
  have HOWN := Lib.hid (fun (W : World) (hk : Keep Any wc W) => (own_any Any (.slice a1 n c1) p.os W (HA1.out.os.keep hk) (by rw [H.out.os]; omega)).mono (R' := fun e w' => ∃ g c, e = .returned (.slice (some ⟨g, 0, none⟩) n c) ∧ Own W.heap.size w' (.slice (some ⟨g, 0, none⟩) n c) p.os ∧ Below W.heap.size W w') (by
    rintro e w' ⟨g, c, rfl, ho, hb⟩
    rw [H.out.os] at ho ⊢
    exact ⟨g, c, rfl, ho, hb⟩))
  have HOW2 := Lib.hid (fun (W : World) (hk : Keep Any wc W) => (own2_any W (.slice a2 n c2) p.ps (Sl2.keep HA1.out.ps hk) (by rw [H.out.pl]; omega) (fun r hr => by rw [H.out.pr r hr]; omega)).mono (R' := fun e w' => ∃ a c, e = .returned (.slice a n c) ∧ O2 W.heap.size w' (.slice a n c) p.ps ∧ Below W.heap.size W w') (by
    rintro e w' ⟨v, rfl, ho, hb⟩
    obtain ⟨a, c, rfl, _⟩ := ho.form
    rw [H.out.pl] at ho ⊢
    exact ⟨a, c, rfl, ho, hb⟩))
  have hw0 : w.heap.size < wc.heap.size := by have := HS.out; omega
  obtain ⟨wb, rfl⟩ : ∃ wb, wb = wc := ⟨_, rfl⟩
  go_cut [3] (fun tv W => FoR wb W n p tv)
  case rest =>
    obtain ⟨g, x1, y1, x2, y2, rfl, hX, hBX⟩ := hcut
    rename World => wq
    clear HOWN HOW2 e0 e1 e2 HA
    have hgb := hX.out.hg
    go_wp2_with fail
    go_loopw [4] (fun iv wr => ∃ (i : Nat) (vC : Value), i ≤ n ∧ iv = .int .i64 (i : Int) ∧ Hid (TW wb.heap.size wr g (.slice x1 n y1) (.slice x2 n y2) vC p i) ∧ Hid (Below wb.heap.size wb wr)) (fun iv _ => n - (intOf iv).toNat)
    case atStart => exact ⟨0, _, Nat.zero_le _, rfl, hX, hBX⟩
    case round =>
      clear hX hBX
      obtain ⟨i, vC, hi, rfl, hX, hB⟩ := hrel
      have L1 := Lib.hid (blk' hB.out hw0 K1.out)
      obtain ⟨⟨e0, e1, e2⟩, -⟩ := row3f L1.out
      have HBX := Lib.hid hX.out.bx
      have hgl := hX.out.lt
      have hsz := hB.out.size
      have hwl := Nat.lt_of_lt_of_le hw0 hsz
      obtain ⟨us, d1, d2, d3⟩ := hX.out.C
      obtain ⟨aC, cC, rfl, _⟩ := owns_form d1
      obtain ⟨⟨p0, p1, p2⟩, q0, q1, q2⟩ := row3f HBX.out
      by_cases hlt : i < n
      · have hki : (i : Int) < (n : Int) := by omega
        have hki0 : (0 : Int) ≤ (i : Int) := by omega
        obtain ⟨L, hL⟩ : ∃ L, p.cs[i]? = some L := ⟨_, List.getElem?_eq_getElem (by rw [H.out.cl]; exact hlt)⟩
        obtain ⟨hLl, hLr⟩ := H.out.cr i L hL
        have HL := Lib.hid (show p.cs.getD i [] = L from getD_of hL)
        obtain ⟨gq, oq, uq, rfl, _, hq2, hq1, hq3⟩ := slg_get HA1.out.cs (show p.val.cs[i]? = some (L.map ints) by simp [RP.val, hL])
        obtain ⟨k, hk⟩ : ∃ k, n - (i + 1) = k := ⟨_, rfl⟩
        have HK := Lib.hid hk
        have hk100 : k ≤ 100 := by omega
        obtain ⟨aq, cq, rfl⟩ := sl2_form hq3
        rw [List.length_map, hLl, hk] at hq1 hq3
        have hqw := ((Keep.of_below (S := Any) hB.out).cell trivial hq2).trans hq1
        have hq2' := Nat.lt_of_lt_of_le hq2 hsz
        have HOW2 := Lib.hid (fun (W : World) (hw : Keep Any wr W) => (own2_any W (.slice aq k cq) L (Sl2.keep (Sl2.keep hq3 (Keep.of_below hB.out)) hw) (by rw [hLl]; omega) (fun r hr => by rw [hLr r hr]; omega)).mono (R' := fun e w' => ∃ a c, e = .returned (.slice a k c) ∧ O2 W.heap.size w' (.slice a k c) L ∧ Below W.heap.size W w') (by
          rintro e w' ⟨v, rfl, ho, hb⟩
          obtain ⟨a, c, rfl, _⟩ := ho.form
          rw [hLl, hk] at ho ⊢
          exact ⟨a, c, rfl, ho, hb⟩))
        have HD1 := Lib.hid d1
        have HD2 := Lib.hid d2
        have HD3 := Lib.hid d3
        have HBND := Lib.hid (show ∀ x ∈ us, ∀ k, x.ownBlock = some k → k < wr.heap.size from fun x hx k hk => by
          obtain ⟨ii, hii⟩ := List.getElem?_of_mem hx
          exact (O2.lt (d2 ii x hii).1 k hk).2)
        have hne : some g ≠ (Value.slice aC i cC).ownBlock := fun e => owns_ne d1 HBX.out (by decide) e.symm
        have hi6 : i ≤ 100 := by omega
        have HGB := Lib.hid hX.out.hg
        clear hq3 hq1 hk d1 d2 d3 hq2 hL hLl hLr
        go_upto_region 5 with fail
        go_region_law
          (first | (go_simp; go_at_call 169; refine (HOW2.out _ (by repeat (first | exact (Keep.refl _ _).drew | exact Keep.refl _ _ | refine Keep.drew ?_ | refine Keep.alloc ?_ _ | refine Keep.trans ?_ (Keep.of_below (by assumption))))).mono ?_; rintro e w6 ⟨a6, c6, rfl, hr6, hb6⟩; have B6 : Below wr.heap.size wr w6 := (by first | exact hb6 | exact ((Below.refl _ _).drew).trans hb6); have g6 := blk' B6 hgl HBX.out; obtain ⟨⟨z0, z1, z2⟩, r0, r1, r2⟩ := row3f g6; have s6 := B6.size; have hg6 : g < w6.heap.size := Nat.lt_of_lt_of_le hgl s6) | (refine step_append_lies _ (by rfl) _ _ _ (by rfl) wb.heap.size 88 j0 (.slice none 0 0) 1 24 Tryz.underlying89 ji jz0 jz1 jz2 rfl (by omega) (.slice aC i cC) i us (by rfl) (ownsRow_keep HD1.out (S := Any) (((Keep.of_below B6)).trans ((Keep.refl _ w6).alloc _)) (fun _ _ => trivial)) ⟨w6.heap.size, 0, none⟩ 1 1 [.slice a6 k c6] (by rfl) (by rfl) (World.news_of_block (cs := #[.slice a6 k c6]) (t := 88) (fr := (0, 0)) (heap_alloc_new w6 _)) (by simp [Value.oneCell']) (by omega) (by unfold maxLen; omega) (by omega) (by simp; omega) _ rfl ?_; intro gg cap w10 hown10 hgrow10 hat10 hlt10; have g10 := (hgrow10.block g (by simp; omega) hne).trans ((Below.heap_alloc w6 _ g (by omega)).trans g6); obtain ⟨⟨m0, m1, m2⟩, n0, n1, n2⟩ := row3f g10))
        all_goals
          have HBW := Lib.hid (show Below wr.heap.size wr (w6.alloc (.cells #[.slice a6 k c6] 88)) from B6.alloc s6 _)
          have a1 := ownsRow_keep HD1.out (S := Any) (((Keep.of_below B6)).trans ((Keep.refl _ w6).alloc (.cells #[.slice a6 k c6] 88))) (fun _ _ => trivial)
          have hr6' : O2 wr.heap.size w6 (.slice a6 k c6) L := hr6.mono (by first | exact Nat.le_refl _ | (simp; done))
          have HAP := Lib.hid (show Apart (.slice a6 k c6) (.slice x2 n y2) from fun q h1 h2 => by
            have h3 := (O2.lt hr6' q h1).1
            have h4 := (O2.lt hX.out.P q h2).2
            omega)
          have HUA := Lib.hid (show ∀ x ∈ us, Apart (.slice a6 k c6) x ∧ Apart x (.slice a6 k c6) from fun x hx => ⟨fun q h1 h2 => by
            have h3 := (O2.lt hr6' q h1).1
            have h4 := HBND.out x hx q h2
            omega, fun q h1 h2 => by
            have h3 := (O2.lt hr6' q h2).1
            have h4 := HBND.out x hx q h1
            omega⟩)
          have HNEW := Lib.hid (show O2 wb.heap.size (w6.alloc (.cells #[.slice a6 k c6] 88)) (.slice a6 k c6) (p.cs.getD i []) from by
            rw [HL.out]
            exact (hr6'.mono hsz).keep (S := Any) ((Keep.refl _ w6).alloc _) fun _ _ => trivial)
          have HN := Lib.hid (TW.con hX.out HBW.out a1 HD2.out HD3.out HNEW.out HAP.out HUA.out hown10 hgrow10)
          have HBN := Lib.hid (((hB.out.trans (HBW.out.mono hsz)).grown hgrow10 (by have := HBW.out.size; omega) (by intro b hb; exact (World.ownsRow.lt a1 b hb).1)).setCell (p := ⟨g, 2, none⟩) HGB.out (.slice (some ⟨gg, 0, none⟩) (i + 1) cap))
          clear hown10 hgrow10 hat10 hlt10 a1 g10 hr6 hr6' hb6 B6 HBW hX hB HD1 HD2 HOW2 e0 e1 e2 p0 p1 p2 q0 q1 q2
          go_wp2_with fail
          go_roundw
          case rel => exact ⟨i + 1, _, by omega, by go_num, HN, HBN⟩
          case measure => simp [intOf]; omega
      · obtain rfl : n = i := by omega
        have hnl : ¬ (n : Int) < (n : Int) := by omega
        have LG := Lib.hid (blk' hB.out (by have := HS.out; omega) K2.out)
        obtain ⟨⟨f0, f1, f2⟩, r0, r1, r2⟩ := row3f LG.out
        have hgw : w.heap.size + 1 < wb.heap.size := by have := HS.out; omega
        have HFIN := Lib.hid (show OwnR p w (.returned (.agg #[.slice x1 n y1, .slice x2 n y2, .slice aC n cC])) (((wr.setCell ⟨w.heap.size + 1, 0, none⟩ (.slice x1 n y1)).setCell ⟨w.heap.size + 1, 1, none⟩ (.slice x2 n y2)).setCell ⟨w.heap.size + 1, 2, none⟩ (.slice aC n cC)) from by
          refine ⟨_, _, _, rfl, ?_, ?_⟩
          · have hXX : TW wb.heap.size wr g (.slice x1 n y1) (.slice x2 n y2) (.slice aC n cC) p p.cs.length := by rw [H.out.cl]; exact hX.out
            exact ((hXX.kept ((((Keep.refl _ wr).setCell (p := ⟨w.heap.size + 1, 0, none⟩) (by show ¬ wb.heap.size ≤ w.heap.size + 1; have := HS.out; omega) _).setCell (p := ⟨w.heap.size + 1, 1, none⟩) (by show ¬ wb.heap.size ≤ w.heap.size + 1; have := HS.out; omega) _).setCell (p := ⟨w.heap.size + 1, 2, none⟩) (by show ¬ wb.heap.size ≤ w.heap.size + 1; have := HS.out; omega) _)).mono (B' := w.heap.size) (show w.heap.size ≤ wb.heap.size by have := HS.out; omega)).pp
          · exact (((HB.out.trans (hB.out.mono (by omega))).setCell (p := ⟨w.heap.size + 1, 0, none⟩) (by simp) _).setCell (p := ⟨w.heap.size + 1, 1, none⟩) (by simp) _).setCell (p := ⟨w.heap.size + 1, 2, none⟩) (by simp) _)
        clear hX hB d1 d2
        go_wp2_with fail
        obtain ⟨⟨z0, z1, z2⟩, -⟩ := row3f (put3 (x := .slice x1 n y1) (y := .slice x2 n y2) (z := .slice aC n cC) LG.out)
        exact bodyPost_ret (v := .agg #[.slice x1 n y1, .slice x2 n y2, .slice aC n cC]) (by simp [results, Tryz.results138, go_sem, z0, z1, z2]) rfl HFIN.out
  go_region_law
    (first | (go_simp; go_at_call 134; refine (HOWN.out _ (by repeat (first | exact (Keep.refl _ _).drew | exact Keep.refl _ _ | refine Keep.drew ?_ | refine Keep.alloc ?_ _ | refine Keep.trans ?_ (Keep.of_below (by assumption))))).mono ?_; rintro e w2 ⟨gO, cO, rfl, ho2, hb2⟩; have k2 := (show Keep Any wb w2 from (by repeat (first | exact (Keep.refl _ _).drew | exact Keep.refl _ _ | refine Keep.drew ?_ | refine Keep.alloc ?_ _ | refine Keep.trans ?_ (Keep.of_below (by assumption))))); have x1 := (k2.cell (b := w.heap.size) (o := 1) trivial hw0).trans e1; have s2 := k2.size; have hw2 : w.heap.size < w2.heap.size := Nat.lt_of_lt_of_le hw0 s2; have B2 : Below wb.heap.size wb w2 := (by first | exact hb2 | exact ((Below.refl _ _).drew).trans hb2 | exact (((Below.refl _ _).drew).alloc (Nat.le_refl _) _).trans (hb2.mono (by simp)) | exact ((Below.refl _ _).alloc (Nat.le_refl _) _).trans (hb2.mono (by simp))); have r2 : Own wb.heap.size w2 (.slice (some ⟨gO, 0, none⟩) n cO) p.os := Own.mono ho2 (by first | exact Nat.le_refl _ | (simp; done) | (simp; omega)); first | (have A2 : w2.heap[wb.heap.size]? = some zbox := blk' hb2 (by simp) (heap_alloc_new _ _); have lA2 := (Array.getElem?_eq_some_iff.1 A2).1) | (have N2 : True := trivial)) | (go_simp; go_at_call 169; refine (HOW2.out _ (by repeat (first | exact (Keep.refl _ _).drew | exact Keep.refl _ _ | refine Keep.drew ?_ | refine Keep.alloc ?_ _ | refine Keep.trans ?_ (Keep.of_below (by assumption))))).mono ?_; rintro e w6 ⟨a6, c6, rfl, hr6, hb6⟩; have B6 : Below wb.heap.size wb w6 := (by first | exact B2.trans (hb6.mono s2) | exact (B2.alloc s2 _).trans (hb6.mono (by simp; omega))); have q6 : O2 wb.heap.size w6 (.slice a6 n c6) p.ps := Own2.mono hr6 (by first | exact s2 | (simp; omega)); have p6 : Own wb.heap.size w6 (.slice (some ⟨gO, 0, none⟩) n cO) p.os := ownsRow_keep r2 (S := Any) (show Keep Any w2 w6 from (by first | exact Keep.of_below hb6 | exact ((Keep.refl _ w2).alloc _).trans (Keep.of_below hb6))) fun _ _ => trivial; first | (have A6 : w6.heap[wb.heap.size]? = some zbox := blk' hb6 lA2 A2; obtain ⟨⟨z0, z1, z2⟩, q0, q1, q2⟩ := row3f A6; have F6 := (show FoP wb w6 _ _ _ _ from ⟨A6, Nat.le_refl _, p6, q6, B6⟩)) | (have D6 : w6.heap[w2.heap.size]? = some zbox := blk' hb6 (by simp) (heap_alloc_new _ _); obtain ⟨⟨z0, z1, z2⟩, q0, q1, q2⟩ := row3f D6; have F6 := (show FoP wb w6 _ _ _ _ from ⟨D6, s2, p6, q6, B6⟩)) | (have N6 := (show FoN wb w6 _ _ _ from ⟨p6, q6, B6⟩))))
  all_goals
    clear HOWN HOW2
    go_wp2_with fail
    go_meet
    first | exact fo_put F6 | exact fo_new N6
end Go.Proofs.YtbamkklhkhglnaaGreatDoor.TsD

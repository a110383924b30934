import Derived.Test.YtbamkklhkhglnaaGreatDoorTmA
import Derived.Test.YtbamkklhkhglnaaGreatDoorDwB
/-
  spec.l07Trivial: the presentation with trivial relations, with its values.
-/
namespace Go.Proofs.YtbamkklhkhglnaaGreatDoor.TmB
open Go.RowKit Go.Proofs.YtbamkklhkhglnaaGreatDoor Go.Proofs.YtbamkklhkhglnaaGreatDoor.Tow Go.Proofs.YtbamkklhkhglnaaGreatDoor.CyA Go.Proofs.YtbamkklhkhglnaaGreatDoor.CyB Go.Proofs.YtbamkklhkhglnaaGreatDoor.TxB Go.Proofs.YtbamkklhkhglnaaGreatDoor.TmA
open Go.Proofs.YtbamkklhkhglnaaGreatDoor.DwB (mkE infoR3 row3f new2 old2 put3 own_any unit_any rowV)
set_option linter.unusedVariables false
set_option linter.unusedSimpArgs false

theorem crowI_get {n i k : Nat} (h : k < n - (i + 1)) : (crowI n i)[k]? = some ((List.replicate n 0).set (i + 1 + k) 1) := DwB.crowI_get h
theorem crowI_succ {n i k : Nat} (h : k < n - (i + 1)) : (crowI n i).take k ++ [(List.replicate n 0).set (i + 1 + k) 1] = (crowI n i).take (k + 1) := DwB.crowI_succ h
theorem crowI_len (n i : Nat) : (crowI n i).length = n - (i + 1) := DwB.crowI_len n i
theorem O2.grown {B B' m : Nat} {e : TypeId} {w w' : World} {v u : Value} {rows : List (List Nat)} {xs : List Value} (h : O2 B w v rows) (hu : w.ownsRow B' e 1 u m xs) (he : 2 ≠ e) (hg : w.grownBy w' u.ownBlock) (hr : v.ownBlock = none ∨ v.ownBlock ≠ u.ownBlock) : O2 B w' v rows := by
  obtain ⟨us, h1, h2, h3⟩ := h
  exact ⟨us, World.ownsRow.kept h1 hg hr, h2, fun i r x hr hx => ⟨(h3 i r x hr hx).1, World.ownsRow.kept (h3 i r x hr hx).2 hg (rows_apart (h3 i r x hr hx).2 hu he)⟩⟩
theorem apart_or {u v : Value} (h : Apart u v) : u.ownBlock = none ∨ u.ownBlock ≠ v.ownBlock := by
  rcases hx : u.ownBlock with _ | k
  · exact .inl rfl
  · exact .inr fun e => h k hx e.symm
theorem O2.lt {B : Nat} {w : World} {v : Value} {rows : List (List Nat)} (h : O2 B w v rows) : ∀ k, v.ownBlock = some k → B ≤ k ∧ k < w.heap.size := fun k hk => by
  obtain ⟨us, h1, _⟩ := h
  exact World.ownsRow.lt h1 k hk
/-- a presentation in the making: p powers, q lists of conjugates -/
structure TV (B n : Nat) (W : World) (g : Nat) (vO vP vC : Value) (os : List Int) (p q : Nat) : Prop where
  bx : W.heap[g]? = some (.cells #[vO, vP, vC] 91 (0, 0))
  hg : B ≤ g
  O : Own B W vO os
  P : ∃ us, W.ownsRow B 87 1 vP p us ∧ ∀ (i : Nat) u, us[i]? = some u → RO B W u (zer n)
  C : ∃ us, W.ownsRow B 88 1 vC q us ∧ (∀ (i : Nat) u, us[i]? = some u → O2 B W u (crowI n i) ∧ Apart u vP) ∧ ∀ (i j : Nat) u u', us[i]? = some u → us[j]? = some u' → i ≠ j → Apart u u'
theorem TV.lt {B n : Nat} {W : World} {g : Nat} {vO vP vC : Value} {os : List Int} {p q : Nat} (h : TV B n W g vO vP vC os p q) : g < W.heap.size := (Array.getElem?_eq_some_iff.1 h.bx).1
theorem TV.kept {B n : Nat} {W W' : World} {g : Nat} {vO vP vC : Value} {os : List Int} {p q : Nat} (h : TV B n W g vO vP vC os p q) (hk : Keep (fun k => B ≤ k) W W') : TV B n W' g vO vP vC os p q := by
  obtain ⟨us, p1, p2⟩ := h.P
  obtain ⟨vs, c1, c2, c3⟩ := h.C
  exact ⟨(hk.block g h.hg h.lt).trans h.bx, h.hg, ownsRow_keep h.O hk (fun _ h => h), ⟨us, ownsRow_keep p1 hk (fun _ h => h), fun i u hu => (p2 i u hu).keep hk (fun _ h => h)⟩, vs, ownsRow_keep c1 hk (fun _ h => h), fun i u hu => ⟨(c2 i u hu).1.keep hk (fun _ h => h), (c2 i u hu).2⟩, c3⟩
theorem TV.below {B n : Nat} {W W' : World} {g : Nat} {vO vP vC : Value} {os : List Int} {p q : Nat} (h : TV B n W g vO vP vC os p q) (hb : Below W.heap.size W W') : TV B n W' g vO vP vC os p q := h.kept ((Keep.of_below (S := Any) hb).mono fun _ _ => trivial)
theorem TV.start {B n : Nat} {W : World} {g : Nat} {vO : Value} {os : List Int} (h : W.heap[g]? = some (.cells #[vO, .slice none 0 0, .slice none 0 0] 91 (0, 0))) (hB : B ≤ g) (hO : Own B W vO os) : TV B n W g vO (.slice none 0 0) (.slice none 0 0) os 0 0 :=
  ⟨h, hB, hO, ⟨[], World.ownsRow_nil _ _ _ _, fun i u hu => by simp at hu⟩, [], World.ownsRow_nil _ _ _ _, fun i u hu => by simp at hu, fun i j u u' hu => by simp at hu⟩
theorem own_far {B : Nat} {w w' : World} {e : TypeId} {g i n m B' : Nat} {v u c : Value} {xs ys : List Value} {cur : Array Value} (h : w.ownsRow B e 1 v n xs) (hp : w.ownsRow B' 87 1 u m ys ∨ w.ownsRow B' 88 1 u m ys) (he : e = 2) (hg : w.grownBy w' u.ownBlock) (hb : w'.heap[g]? = some (.cells cur 91 (0, 0))) : (w'.setCell ⟨g, i, none⟩ c).ownsRow B e 1 v n xs := by
  have h2 : w'.ownsRow B e 1 v n xs := by
    rcases hp with hp | hp
    · exact World.ownsRow.kept h hg (rows_apart h hp (by rw [he]; decide))
    · exact World.ownsRow.kept h hg (rows_apart h hp (by rw [he]; decide))
  exact owns_far h2 (owns_ne h2 hb (by rw [he]; decide))
/-- another row of the powers -/
theorem TV.row {B n c g2 : Nat} {W W1 W2 : World} {g : Nat} {vO vP vC u : Value} {os : List Int} {p q : Nat} {us : List Value} (h : TV B n W g vO vP vC os p q) (hb : Below W.heap.size W W1) (hp1 : W1.ownsRow B 87 1 vP p us) (hp2 : ∀ (i : Nat) u, us[i]? = some u → RO B W u (zer n)) (hu : RO B W1 u (zer n))
    (ho : W2.ownsRow B 87 1 (.slice (some ⟨g2, 0, none⟩) (p + 1) c) (p + 1) (us ++ [u])) (hg : W1.grownBy W2 vP.ownBlock) (hat : vP.ownBlock = some g2 ∨ W1.heap.size ≤ g2) :
    TV B n (W2.setCell ⟨g, 1, none⟩ (.slice (some ⟨g2, 0, none⟩) (p + 1) c)) g vO (.slice (some ⟨g2, 0, none⟩) (p + 1) c) vC os (p + 1) q := by
  have h1 := h.below hb
  have hgl1 : g < W1.heap.size := h1.lt
  have hPne : vP.ownBlock ≠ some g := owns_ne hp1 h1.bx (by decide)
  obtain ⟨vs, c1, c2, c3⟩ := h1.C
  have hbx2 : W2.heap[g]? = some (.cells #[vO, vP, vC] 91 (0, 0)) := (hg.block g hgl1 (fun e => hPne e.symm)).trans h1.bx
  have r1 : ∀ v, RO B W1 v (zer n) → RO B (W2.setCell ⟨g, 1, none⟩ (.slice (some ⟨g2, 0, none⟩) (p + 1) c)) v (zer n) := fun v hv => ⟨hv.1, own_far hv.2 (.inl hp1) rfl hg hbx2⟩
  have hc2 := World.ownsRow.kept c1 hg (rows_apart c1 hp1 (by decide))
  refine ⟨heap_setCell_same W2 g 1 _ _ _ hbx2, h.hg, own_far h1.O (.inl hp1) rfl hg hbx2, ⟨us ++ [u], owns_far ho (owns_ne ho hbx2 (by decide)), fun i x hx => ?_⟩, vs, owns_far hc2 (owns_ne hc2 hbx2 (by decide)), fun i x hx => ?_, c3⟩
  · rcases Nat.lt_or_ge i us.length with hi | hi
    · rw [List.getElem?_append_left hi] at hx
      exact r1 _ ((hp2 i x hx).keep (S := Any) (Keep.of_below hb) fun _ _ => trivial)
    · rw [List.getElem?_append_right hi] at hx
      rcases hj : i - us.length with _ | j
      · rw [hj] at hx
        simp at hx
        subst hx
        exact r1 _ hu
      · rw [hj] at hx
        simp at hx
  · obtain ⟨d1, d2⟩ := c2 i x hx
    have d3 : O2 B W2 x (crowI n i) := O2.grown d1 hp1 (by decide) hg (apart_or d2)
    refine ⟨O2.far d3 hbx2 (by decide) (by obtain ⟨_, q1, _⟩ := d3; exact owns_ne q1 hbx2 (by decide)), fun k hk => ?_⟩
    rcases hat with h3 | h3
    · have := d2 k hk
      rw [h3] at this
      exact this
    · intro e
      have he : g2 = k := by simpa [Value.ownBlock] using e
      have := (O2.lt d1 k hk).2
      omega
/-- another list of conjugates -/
theorem TV.con {B n c g2 : Nat} {W W1 W2 : World} {g : Nat} {vO vP vC u : Value} {os : List Int} {p q : Nat} {us : List Value} (h : TV B n W g vO vP vC os p q) (hb : Below W.heap.size W W1) (hc1 : W1.ownsRow B 88 1 vC q us) (hc2 : ∀ (i : Nat) u, us[i]? = some u → O2 B W u (crowI n i) ∧ Apart u vP)
    (hc3 : ∀ (i j : Nat) u u', us[i]? = some u → us[j]? = some u' → i ≠ j → Apart u u') (hu : O2 B W1 u (crowI n q)) (hup : Apart u vP) (hua : ∀ x ∈ us, Apart u x ∧ Apart x u)
    (ho : W2.ownsRow B 88 1 (.slice (some ⟨g2, 0, none⟩) (q + 1) c) (q + 1) (us ++ [u])) (hg : W1.grownBy W2 vC.ownBlock) :
    TV B n (W2.setCell ⟨g, 2, none⟩ (.slice (some ⟨g2, 0, none⟩) (q + 1) c)) g vO vP (.slice (some ⟨g2, 0, none⟩) (q + 1) c) os p (q + 1) := by
  have h1 := h.below hb
  have hgl1 : g < W1.heap.size := h1.lt
  have hCne : vC.ownBlock ≠ some g := owns_ne hc1 h1.bx (by decide)
  have hbx2 : W2.heap[g]? = some (.cells #[vO, vP, vC] 91 (0, 0)) := (hg.block g hgl1 (fun e => hCne e.symm)).trans h1.bx
  have r2 : ∀ L v, O2 B W1 v L → O2 B (W2.setCell ⟨g, 2, none⟩ (.slice (some ⟨g2, 0, none⟩) (q + 1) c)) v L := fun L v hv => by
    obtain ⟨xs, q1, q2⟩ := id hv
    have d3 : O2 B W2 v L := O2.grown hv hc1 (by decide) hg (rows_apart q1 hc1 (by decide))
    exact O2.far d3 hbx2 (by decide) (by obtain ⟨_, q1, _⟩ := d3; exact owns_ne q1 hbx2 (by decide))
  obtain ⟨vs, p1, p2⟩ := h1.P
  have hl : us.length = q := by have := hc1.1; omega
  have hp2 := World.ownsRow.kept p1 hg (rows_apart p1 hc1 (by decide))
  refine ⟨heap_setCell_same W2 g 2 _ _ _ hbx2, h.hg, own_far h1.O (.inr hc1) rfl hg hbx2, ⟨vs, owns_far hp2 (owns_ne hp2 hbx2 (by decide)), fun i x hx => ⟨(p2 i x hx).1, own_far (p2 i x hx).2 (.inr hc1) rfl hg hbx2⟩⟩, us ++ [u], owns_far ho (owns_ne ho hbx2 (by decide)), fun i x hx => ?_, fun i j x x' hx hx' hij => ?_⟩
  · rcases Nat.lt_or_ge i us.length with hi | hi
    · rw [List.getElem?_append_left hi] at hx
      exact ⟨r2 _ _ ((hc2 i x hx).1.of_below hb), (hc2 i x hx).2⟩
    · rw [List.getElem?_append_right hi] at hx
      rcases hj : i - us.length with _ | j
      · rw [hj] at hx
        simp at hx
        subst hx
        have : i = q := by omega
        subst this
        exact ⟨r2 _ _ hu, hup⟩
      · rw [hj] at hx
        simp at hx
  · have key : ∀ (i : Nat) (x : Value), (us ++ [u])[i]? = some x → (i < us.length ∧ us[i]? = some x) ∨ (i = us.length ∧ x = u) := fun i x hx => by
      rcases Nat.lt_or_ge i us.length with hi | hi
      · rw [List.getElem?_append_left hi] at hx
        exact .inl ⟨hi, hx⟩
      · rw [List.getElem?_append_right hi] at hx
        rcases hj : i - us.length with _ | j
        · rw [hj] at hx
          simp at hx
          exact .inr ⟨by omega, hx.symm⟩
        · rw [hj] at hx
          simp at hx
    rcases key i x hx with ⟨h3, h4⟩ | ⟨h3, rfl⟩
    · rcases key j x' hx' with ⟨h5, h6⟩ | ⟨h5, rfl⟩
      · exact hc3 i j x x' h4 h6 hij
      · exact (hua x (List.mem_of_getElem? h4)).2
    · rcases key j x' hx' with ⟨h5, h6⟩ | ⟨h5, rfl⟩
      · exact (hua x' (List.mem_of_getElem? h6)).1
      · exact absurd (h3.trans h5.symm) hij
theorem TV.pp {B n : Nat} {W : World} {g : Nat} {vO vP vC : Value} {os : List Int} (hn : os.length = n) (h : TV B n W g vO vP vC os n n) : PP B W vO vP vC (triv os) := by
  subst hn
  obtain ⟨us, p1, p2⟩ := h.P
  obtain ⟨vs, c1, c2, c3⟩ := h.C
  have l1 : us.length = os.length := by have := p1.1; omega
  have l2 : vs.length = os.length := by have := c1.1; omega
  refine ⟨h.O, ⟨us, by simpa [triv] using p1, by simp [triv, l1], fun i r u hr hu => ?_⟩, vs, by simpa [triv, crow] using c1, by simp [triv, crow, l2], fun i L u hL hu => ?_, c3⟩
  · unfold triv at hr
    rw [List.getElem?_replicate] at hr
    split at hr
    · obtain rfl := Option.some.inj hr
      exact p2 i u hu
    · cases hr
  · unfold triv crow at hL
    simp only [List.getElem?_map] at hL
    obtain ⟨a, ha, rfl⟩ := Option.map_eq_some_iff.1 hL
    obtain rfl : i = a := by
      have := (List.getElem?_eq_some_iff.1 ha)
      simpa using this.2
    exact c2 i u hu
theorem TV.mono {B B' n : Nat} {W : World} {g : Nat} {vO vP vC : Value} {os : List Int} {p q : Nat} (h : TV B n W g vO vP vC os p q) (hB : B' ≤ B) : TV B' n W g vO vP vC os p q := by
  obtain ⟨us, p1, p2⟩ := h.P
  obtain ⟨vs, c1, c2, c3⟩ := h.C
  exact ⟨h.bx, Nat.le_trans hB h.hg, ownsRow_mono h.O hB, ⟨us, ownsRow_mono p1 hB, fun i u hu => ⟨(p2 i u hu).1, ownsRow_mono (p2 i u hu).2 hB⟩⟩, vs, ownsRow_mono c1 hB, fun i u hu => ⟨(c2 i u hu).1.mono hB, (c2 i u hu).2⟩, c3⟩
theorem RO.made {B n : Nat} {W : World} (hB : B ≤ W.heap.size) (hn : n ≤ 100) : RO B (W.alloc (.cells (madeCells #[.int .i64 0] n) 2)) (rowV n W.heap.size) (zer n) := by
  have h := Own.made (B := B) W n hB (by unfold maxLen; omega)
  unfold Own at h
  rw [List.length_replicate] at h
  refine ⟨⟨W.heap.size, n, by simp [zer]⟩, ?_⟩
  have e : ints (zer n) = List.replicate n 0 := by simp [ints, zer]
  rw [e]
  simpa [zer] using h
def TriR (os : List Int) (w : World) (e : Ending) (w' : World) : Prop := ∃ vO vP vC, e = .returned (.agg #[vO, vP, vC]) ∧ PP w.heap.size w' vO vP vC (triv os) ∧ Below w.heap.size w w'
set_option maxRecDepth 100000 in
set_option maxHeartbeats 4000000 in
theorem triv_any (os : List Int) (v : Value) (w : World) (hv : SlI Any w v os) (hn : os.length ≤ 100) :
    Calls Tryz.prog 106 #[v] w (TriR os w) := by
  obtain ⟨i0, hi, hz0, hz1, hz2⟩ := info_parts infoR
  obtain ⟨j0, ji, jz0, jz1, jz2⟩ := info_parts infoR3
  obtain ⟨a, c, rfl, hcl, hcm⟩ := slg_form hv
  obtain ⟨n, hnn⟩ : ∃ n, os.length = n := ⟨_, rfl⟩
  have HV := Lib.hid hv
  have HNN := Lib.hid hnn
  have HC := Lib.hid (fun W hv => (own_any Any (.slice a os.length c) os W hv (by omega)).mono (R' := fun e w' => ∃ a2 c2, e = .returned (.slice a2 os.length c2) ∧ Own W.heap.size w' (.slice a2 os.length c2) os ∧ Below W.heap.size W w') (by
    rintro e w2 ⟨g2, c2, rfl, ho2, hb2⟩
    exact ⟨_, c2, rfl, ho2, hb2⟩))
  have HU := Lib.hid (fun k hk W => unit_any n k (by omega) hk W)
  rw [hnn] at hn HC hcl ⊢
  have hv' := hv
  rw [hnn] at hv'
  have HV := Lib.hid hv'
  have hmk : ∀ W : World, (Instr.makeSlice 87 (.int .i64 (n : Int)) (.int .i64 (n : Int))).run Tryz.prog W = .ok (.slice (some ⟨W.heap.size, 0, none⟩) n n) (W.alloc (.cells (madeCells #[.int .i64 0] n) 2)) := fun W => mkE n (by omega) W
  clear hv hv' hnn
  go_enter Tryz.func106, Tryz.ntmps106
  go_upto_region 1 with fail
  obtain ⟨w1, hw1⟩ : ∃ w1, w1 = w.alloc (.cells #[.slice none 0 0, .slice none 0 0, .slice none 0 0] 91) := ⟨_, rfl⟩
  rw [← hw1]
  have hb1 : Below w.heap.size w w1 := by rw [hw1]; exact (Below.refl _ _).alloc (Nat.le_refl _) _
  have hs1 : w1.heap.size = w.heap.size + 1 := by rw [hw1]; simp
  have G1 := Lib.hid (show w1.heap[w.heap.size]? = some (.cells #[.slice none 0 0, .slice none 0 0, .slice none 0 0] 91 (0, 0)) by rw [hw1]; exact heap_alloc_new _ _)
  have HV1 := Lib.hid (HV.out.keep (Keep.of_below hb1))
  have HB1 := Lib.hid hb1
  have HS1 := Lib.hid hs1
  clear hw1 hb1 hs1
  go_wp2_with (first | (go_at_call 134; refine (HC.out _ HV1.out).mono ?_; rintro e w2 ⟨a2, c2, rfl, ho2, hb2⟩) | fail)
  obtain ⟨g, hg⟩ : ∃ g, w2.heap.size = g := ⟨_, rfl⟩
  obtain ⟨w3, hw3⟩ : ∃ w3, w3 = w2.alloc (.cells #[.slice a2 n c2, .slice none 0 0, .slice none 0 0] 91) := ⟨_, rfl⟩
  have HT0 := Lib.hid (show TV w1.heap.size n w3 g (.slice a2 n c2) (.slice none 0 0) (.slice none 0 0) os 0 0 from TV.start (by rw [hw3, ← hg]; exact heap_alloc_new _ _) (by have := hb2.size; omega) (by
    rw [hw3]
    exact Own.alloc ho2 _))
  have HB3 := Lib.hid (show Below w1.heap.size w1 w3 from by rw [hw3]; exact hb2.alloc hb2.size _)
  rw [← hw3, hg]
  clear hw3 hg ho2 hb2
  have hn63 : (n : Int) ≤ 100 := by omega
  go_loopw [5] (fun iv wr => ∃ (i : Nat) (vP vC : Value), i ≤ n ∧ iv = .int .i64 (i : Int) ∧ Hid (TV w1.heap.size n wr g (.slice a2 n c2) vP vC os i i) ∧ Hid (Below w1.heap.size w1 wr)) (fun iv _ => n - (intOf iv).toNat)
  case atStart => exact ⟨0, _, _, Nat.zero_le _, rfl, HT0, HB3⟩
  case round =>
    obtain ⟨i, vP, vC, hi', rfl, hS, hB⟩ := hrel
    by_cases hlt : i < n
    · obtain ⟨us, hp1, hp2⟩ := hS.out.P
      obtain ⟨aP, cP, rfl, _⟩ := owns_form hp1
      have HP := Lib.hid hp1
      have HP2 := Lib.hid hp2
      clear hp1 hp2
      obtain ⟨⟨e0, e1, e2⟩, f0, f1, f2⟩ := row3f hS.out.bx
      have hgl : g < wr.heap.size := hS.out.lt
      have HBX := Lib.hid hS.out.bx
      have hne : some g ≠ (Value.slice aP i cP).ownBlock := fun e => owns_ne HP.out HBX.out (by decide) e.symm
      have HS1 := Lib.hid hB.out.size
      have hki : (i : Int) < (n : Int) := by omega
      have hi6 : i ≤ 100 := by omega
      obtain ⟨w4, hw4⟩ : ∃ w4, w4 = wr := ⟨_, rfl⟩
      have HW4 := Lib.hid hw4
      clear hw4
      go_upto_region 6 with fail
      go_cut [23] (fun sv W => ∃ c5 gg, sv = .slice (some ⟨gg, 0, none⟩) (i + 1) c5 ∧ Hid (TV w1.heap.size n W g (.slice a2 n c2) (.slice (some ⟨gg, 0, none⟩) (i + 1) c5) vC os (i + 1) i) ∧ Hid (Below w1.heap.size w1 W))
      case rest =>
        obtain ⟨c5, gg, rfl, hS', hB'⟩ := hcut
        clear hS hB HP HP2 HBX hne HS1 e0 e1 e2 f0 f1 f2 hgl
        obtain ⟨wo, hwo⟩ : ∃ wo, wo = wc := ⟨_, rfl⟩
        rw [← hwo] at hS' hB' ⊢
        have hgo : g < wo.heap.size := hS'.out.lt
        clear hwo
        have hw1 : IntKind.i64.wrap ((i : Int) + 1) = (i : Int) + 1 := IntWalk.i64_in _ (by omega)
        have HLN := Lib.hid (crowI_len n i)
        have HNIL := Lib.hid (show Own2 87 2 wo.heap.size (wo.alloc (.cells #[] 87)) (.slice (some ⟨wo.heap.size, 0, none⟩) 0 0) ((crowI n i).take 0) from ⟨[], World.ownsRow_lit (base := wo.heap.size) (e := 87) (size := 1) wo #[] 0 (Nat.le_refl _) (by unfold maxLen; omega) (by simp), rfl, by simp⟩)
        go_wp2_with fail
        go_loopw [6, 7] (fun lv jv wr => ∃ k : Nat, i + 1 + k ≤ n ∧ jv = .int .i64 ((i : Int) + 1 + (k : Int)) ∧ Hid (Own2 87 2 wo.heap.size wr lv ((crowI n i).take k)) ∧ Hid (Below wo.heap.size wo wr)) (fun _ jv _ => n - (intOf jv).toNat)
        case atStart => exact ⟨0, by omega, by simp, HNIL, (Lib.hid ((Below.refl _ _).alloc (Nat.le_refl _) _))⟩
        case round =>
          obtain ⟨k, hk, rfl, hO, hBI⟩ := hrel
          obtain ⟨aL, cL, rfl, _, _⟩ := hO.out.form
          have hll : ((crowI n i).take k).length = k := by rw [List.length_take, HLN.out]; omega
          rw [hll] at hO ⊢
          have hw2 : IntKind.i64.wrap ((i : Int) + 1 + (k : Int)) = (i : Int) + 1 + (k : Int) := IntWalk.i64_in _ (by omega)
          by_cases hlt2 : i + 1 + k < n
          · have hki2 : (i : Int) + 1 + (k : Int) < (n : Int) := by omega
            have HUC := Lib.hid (show Calls Tryz.prog 135 #[.int .i64 (n : Int), .int .i64 ((i : Int) + 1 + (k : Int))] _ (NewS (ints ((List.replicate n 0).set (i + 1 + k) 1)) _) from by
              have h := HU.out (i + 1 + k) hlt2 wr
              rw [show (((i + 1 + k : Nat)) : Int) = (i : Int) + 1 + (k : Int) by omega] at h
              exact h)
            obtain ⟨us, q1, q2, q4⟩ := hO.out
            have HUS := Lib.hid (And.intro q1 (And.intro q2 q4))
            rw [hll] at HUS
            have HSZ := Lib.hid hBI.out.size
            have hk6 : k ≤ 100 := by omega
            clear q1 q2 q4 hll
            go_wp2_with fail
            refine HUC.out.mono ?_
            rintro e w5 ⟨g5, c5', rfl, ho5, hb5⟩
            have hl5 : (ints ((List.replicate n 0).set (i + 1 + k) 1)).length = n := by rw [ints_length]; simp
            have HRW := Lib.hid (RowOk.keep (NewS.row (ho5.mono HSZ.out)) ((Keep.refl Any w5).alloc (.cells #[.slice (some ⟨g5, 0, none⟩) (ints ((List.replicate n 0).set (i + 1 + k) 1)).length c5'] 87)) fun _ _ => trivial)
            rw [hl5] at HRW ⊢
            have a1 := ownsRow_keep HUS.out.1 (S := Any) ((Keep.of_below hb5).trans ((Keep.refl Any w5).alloc (.cells #[.slice (some ⟨g5, 0, none⟩) n c5'] 87))) (fun _ _ => trivial)
            have HB5 := Lib.hid ((hBI.out.trans (hb5.mono hBI.out.size)).alloc (by have := HSZ.out; have := hb5.size; omega) (.cells #[.slice (some ⟨g5, 0, none⟩) n c5'] 87))
            have HK5 := Lib.hid (show Keep Any wr _ from (Keep.of_below hb5).trans ((Keep.refl Any w5).alloc (.cells #[.slice (some ⟨g5, 0, none⟩) n c5'] 87)))
            have HS5 := Lib.hid (show wo.heap.size ≤ w5.heap.size by have := HSZ.out; have := hb5.size; omega)
            clear ho5 hb5 hl5
            go_wp2_with (at_builtin; (refine wpList_append_lies _ rfl _ _ 88 rfl wo.heap.size 87 i0 (.slice none 0 0) 1 24 Tryz.underlying88 hi hz0 hz1 hz2 rfl (by decide) _ _ _ rfl a1 ⟨w5.heap.size, 0, none⟩ 1 1 [.slice (some ⟨g5, 0, none⟩) n c5'] rfl rfl (World.news_of_block (cs := #[.slice (some ⟨g5, 0, none⟩) n c5']) (t := 87) (fr := (0, 0)) (heap_alloc_new w5 _)) (by simp [Value.oneCell']) (by decide) (by unfold maxLen; omega) (by omega) (by have := HS5.out; simp; omega) _ rfl ?_))
            intro g6 c6 w6 ho6 hg6 hat6 hlt6
            have hl7 : ((crowI n i).take k).length = k := by rw [List.length_take, HLN.out]; omega
            have HN := Lib.hid (Own2.push (rows := (crowI n i).take k) (by decide) hl7 a1 (by rw [HUS.out.2.1, hl7]) (fun i' r u h1 h2 => (HUS.out.2.2 i' r u h1 h2).keep HK5.out (fun _ _ => trivial)) HRW.out ho6 hg6)
            rw [crowI_succ (by omega)] at HN
            have HBN := Lib.hid (HB5.out.grown hg6 (by have := HS5.out; simp; omega) (by intro b hb; exact (World.ownsRow.lt a1 b hb).1))
            clear ho6 hg6 hat6 hlt6 a1 hl7 hO hBI HB5
            go_wp2_with fail
            go_roundw
            case rel => exact ⟨k + 1, by omega, by go_num, HN, HBN⟩
            case measure => simp [intOf]; omega
          · obtain rfl : k = n - (i + 1) := by omega
            have hlx : n - (i + 1) = (crowI n i).length := HLN.out.symm
            have HOF := Lib.hid (show Own2 87 2 wo.heap.size wr (.slice aL (n - (i + 1)) cL) (crowI n i) from by
              have h := hO.out
              rw [List.take_of_length_le (by rw [HLN.out]; exact Nat.le_refl _)] at h
              exact h)
            obtain ⟨ln, hln⟩ : ∃ ln, n - (i + 1) = ln := ⟨_, rfl⟩
            have hln6 : ln ≤ 100 := by omega
            have hjn : (i : Int) + 1 + (ln : Int) = (n : Int) := by omega
            rw [hln] at HOF ⊢
            have HT := Lib.hid (hS'.out.below hBI.out)
            have HBB := Lib.hid (hB'.out.trans (hBI.out.mono hB'.out.size))
            have HS6 := Lib.hid (show w1.heap.size ≤ wr.heap.size from HBB.out.size)
            obtain ⟨us, c1o, c3o, c4o⟩ := hS'.out.C
            have HBND := Lib.hid (show ∀ x ∈ us, ∀ k, x.ownBlock = some k → k < wo.heap.size from fun x hx k hk => by
              obtain ⟨ii, hii⟩ := List.getElem?_of_mem hx
              exact (O2.lt (c3o ii x hii).1 k hk).2)
            have c1 := ownsRow_keep c1o (S := Any) (Keep.of_below hBI.out) (fun _ _ => trivial)
            have HC3 := Lib.hid (show ∀ (i : Nat) u, us[i]? = some u → O2 w1.heap.size wr u (crowI n i) ∧ Apart u (.slice (some ⟨gg, 0, none⟩) (i + 1) c5) from fun ii u hu => ⟨(c3o ii u hu).1.of_below hBI.out, (c3o ii u hu).2⟩)
            have HC4 := Lib.hid c4o
            obtain ⟨aC, cC, rfl, _⟩ := owns_form c1
            clear c1o c3o c4o
            obtain ⟨⟨e0, e1, e2⟩, f0, f1, f2⟩ := row3f HT.out.bx
            have hgl : g < wr.heap.size := HT.out.lt
            have HBX := Lib.hid HT.out.bx
            have hne : some g ≠ (Value.slice aC i cC).ownBlock := fun e => owns_ne c1 HBX.out (by decide) e.symm
            obtain ⟨pus, hpu1, hpu2⟩ := hS'.out.P
            have hgl2 := World.ownsRow.lt hpu1 gg rfl
            have HUF := Lib.hid (show O2 w1.heap.size (wr.alloc (.cells #[.slice aL ln cL] 88)) (.slice aL ln cL) (crowI n i) from (HOF.out.mono (by have := hB'.out.size; omega)).keep (S := Any) ((Keep.refl _ wr).alloc _) fun _ _ => trivial)
            have HUA := Lib.hid (show ∀ x ∈ us, Apart (.slice aL ln cL) x ∧ Apart x (.slice aL ln cL) from fun x hx => ⟨fun k hk hk2 => by
                have h1 := (O2.lt HOF.out k hk).1
                have h2 := HBND.out x hx k hk2
                omega, fun k hk hk2 => by
                have h1 := (O2.lt HOF.out k hk2).1
                have h2 := HBND.out x hx k hk
                omega⟩)
            have HAP := Lib.hid (show Apart (.slice aL ln cL) (.slice (some ⟨gg, 0, none⟩) (i + 1) c5) from fun k hk hk2 => by
              have h5 := (O2.lt HOF.out k hk).1
              have h6 : gg = k := by simpa [Value.ownBlock] using hk2
              omega)
            clear hpu1 hpu2 hgl2
            have a1 := ownsRow_keep c1 (S := Any) ((Keep.refl Any wr).alloc (.cells #[.slice aL ln cL] 88)) (fun _ _ => trivial)
            have HBW := Lib.hid (show Below wr.heap.size wr (wr.alloc (.cells #[.slice aL ln cL] 88)) from (Below.refl _ _).alloc (Nat.le_refl _) _)
            clear hlx hO hll hBI hlt2 HOF
            have hfin : ¬ ((i : Int) + 1 + (ln : Int) < (n : Int)) := by omega
            have hi66 : i ≤ 100 := by omega
            go_wp2_with (at_builtin; (refine wpList_append_lies _ rfl _ _ 89 rfl w1.heap.size 88 j0 (.slice none 0 0) 1 24 Tryz.underlying89 ji jz0 jz1 jz2 rfl (by decide) _ _ _ rfl a1 ⟨wr.heap.size, 0, none⟩ 1 1 [.slice aL ln cL] rfl rfl (World.news_of_block (cs := #[.slice aL ln cL]) (t := 88) (fr := (0, 0)) (heap_alloc_new wr _)) (by simp [Value.oneCell']) (by decide) (by unfold maxLen; omega) (by omega) (by have := HS6.out; simp; omega) _ rfl ?_))
            intro g7 c7 w7 ho7 hg7 hat7 hlt7
            have g10 := (hg7.block g (by simp; omega) hne).trans ((Below.heap_alloc wr _ g hgl).trans HBX.out)
            obtain ⟨⟨m0, m1, m2⟩, n0, n1, n2⟩ := row3f g10
            have HN := Lib.hid (TV.con HT.out HBW.out a1 HC3.out HC4.out HUF.out HAP.out HUA.out ho7 hg7)
            have HBN := Lib.hid ((HBB.out.alloc HS6.out (.cells #[.slice aL ln cL] 88)).grown hg7 (by have := HS6.out; simp; omega) (by intro b hb; exact (World.ownsRow.lt a1 b hb).1))
            have HBN2 := Lib.hid (HBN.out.setCell (p := ⟨g, 2, none⟩) HT.out.hg (.slice (some ⟨g7, 0, none⟩) (i + 1) c7))
            clear ho7 hg7 hat7 hlt7 a1 g10 c1 e0 e1 e2 HT HUF HBW HBN HC3 HAP
            go_wp2_with fail
            go_roundw
            case rel => exact ⟨i + 1, _, _, by omega, by go_num, HN, HBN2⟩
            case measure => simp [intOf]; omega
      go_region_law
        (first | (refine step_append_lies _ (by rfl) _ _ _ (by rfl) w1.heap.size 87 i0 (.slice none 0 0) 1 24 Tryz.underlying88 hi hz0 hz1 hz2 rfl (by omega) (.slice aP i cP) i us (by rfl) (ownsRow_keep HP.out (S := Any) (by repeat (first | exact (Keep.refl _ _).drew | exact Keep.refl _ _ | refine Keep.drew ?_ | refine Keep.alloc ?_ _)) (fun _ _ => trivial)) ⟨wr.heap.size + 1, 0, none⟩ 1 1 [rowV n wr.heap.size] (by rfl) (by rfl) (World.news_of_block (cs := #[rowV n wr.heap.size]) (t := 87) (fr := (0, 0)) (by first | exact new2 wr.drew _ _ | exact new2 wr _ _)) (by simp [Value.oneCell']) (by omega) (by unfold maxLen; omega) (by omega) (by have := HS1.out; simp; omega) _ rfl ?_; intro gg cap w10 hown10 hgrow10 hat10 hlt10; have g10 := (hgrow10.block g (by simp; omega) hne).trans (by first | exact old2 (W := wr.drew) HBX.out | exact old2 (W := wr) HBX.out); obtain ⟨⟨m0, m1, m2⟩, n0, n1, n2⟩ := row3f g10))
      all_goals
        have HW : Below wr.heap.size wr ((wr.alloc (Obj.cells (madeCells #[Value.int IntKind.i64 0] n) 2)).alloc (Obj.cells #[rowV n wr.heap.size] 87)).drew := (((Below.refl _ _).alloc (Nat.le_refl _) _).alloc (by simp) _).drew
        have HOW := Lib.hid (show RO w1.heap.size ((wr.alloc (Obj.cells (madeCells #[Value.int IntKind.i64 0] n) 2)).alloc (Obj.cells #[rowV n wr.heap.size] 87)).drew (rowV n wr.heap.size) (zer n) from (RO.made HS1.out (by omega)).keep (S := Any) (((Keep.refl _ _).alloc _).drew) fun _ _ => trivial)
        have HR := Lib.hid (TV.row hS.out HW (ownsRow_keep HP.out (S := Any) (Keep.of_below HW) (fun _ _ => trivial)) HP2.out HOW.out hown10 hgrow10 (by rcases hat10 with h | h; exact .inl h; exact .inr (by rw [h]; exact Nat.le_refl _)))
        go_wp2_with fail
        go_meet
        refine ⟨cap, gg, rfl, HR, ?_⟩
        · exact Lib.hid (((hB.out.trans (HW.mono HS1.out)).grown hgrow10 (Nat.le_trans HS1.out HW.size) (by intro k hk; exact (World.ownsRow.lt HP.out k hk).1)).setCell (p := ⟨g, 1, none⟩) hS.out.hg _)
    · obtain rfl : i = n := by omega
      have HR0 := Lib.hid (blk' hB.out (by have := HS1.out; omega) G1.out)
      obtain ⟨⟨r0, r1, r2⟩, s0, s1, s2⟩ := row3f HR0.out
      obtain ⟨⟨e0, e1, e2⟩, f0, f1, f2⟩ := row3f hS.out.bx
      obtain ⟨us, k1, k2, _⟩ := hS.out.C
      obtain ⟨ps, k3, k4⟩ := hS.out.P
      obtain ⟨aP, cP, rfl, _⟩ := owns_form k3
      obtain ⟨aC, cC, rfl, _⟩ := owns_form k1
      have HFIN := Lib.hid (show TriR os w (.returned (.agg #[.slice a2 i c2, .slice aP i cP, .slice aC i cC])) (((wr.setCell ⟨w.heap.size, 0, none⟩ (.slice a2 i c2)).setCell ⟨w.heap.size, 1, none⟩ (.slice aP i cP)).setCell ⟨w.heap.size, 2, none⟩ (.slice aC i cC)) from by
        refine ⟨_, _, _, rfl, ?_, ?_⟩
        · exact ((hS.out.kept ((((Keep.refl _ wr).setCell (by have := HS1.out; simp; omega) _).setCell (by have := HS1.out; simp; omega) _).setCell (by have := HS1.out; simp; omega) _)).mono (by have := HS1.out; omega)).pp HNN.out
        · exact (((HB1.out.trans (hB.out.mono (by have := HS1.out; omega))).setCell (p := ⟨w.heap.size, 0, none⟩) (Nat.le_refl _) _).setCell (p := ⟨w.heap.size, 1, none⟩) (Nat.le_refl _) _).setCell (p := ⟨w.heap.size, 2, none⟩) (Nat.le_refl _) _)
      clear hS k1 k2 k3 k4
      go_wp2_with fail
      obtain ⟨⟨z0, z1, z2⟩, -⟩ := row3f (put3 (x := .slice a2 i c2) (y := .slice aP i cP) (z := .slice aC i cC) HR0.out)
      exact bodyPost_ret (v := .agg #[.slice a2 i c2, .slice aP i cP, .slice aC i cC]) (by simp [results, Tryz.results106, go_sem, z0, z1, z2]) rfl HFIN.out
end Go.Proofs.YtbamkklhkhglnaaGreatDoor.TmB

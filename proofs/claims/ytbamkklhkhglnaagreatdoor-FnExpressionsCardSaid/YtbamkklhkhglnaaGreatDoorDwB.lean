import Derived.Test.YtbamkklhkhglnaaGreatDoorDwA
import Derived.Test.YtbamkklhkhglnaaGreatDoorDwT
/-
  spec.l01Own, l07Unit, l01In, l07Trivial: the presentation with trivial relations, typed by its lengths.
-/
namespace Go.Proofs.YtbamkklhkhglnaaGreatDoor.DwB
open Go.RowKit Go.Proofs.YtbamkklhkhglnaaGreatDoor Go.Proofs.YtbamkklhkhglnaaGreatDoor.Tow Go.Proofs.YtbamkklhkhglnaaGreatDoor.CyA Go.Proofs.YtbamkklhkhglnaaGreatDoor.CyB Go.Proofs.YtbamkklhkhglnaaGreatDoor.CyC Go.Proofs.YtbamkklhkhglnaaGreatDoor.DwT
set_option linter.unusedVariables false
set_option linter.unusedSimpArgs false

abbrev Any : Nat → Prop := fun _ => True
abbrev rowV (n b : Nat) : Value := .slice (some ⟨b, 0, none⟩) n n
theorem mkE (n : Nat) (hn : n ≤ 100) (w : World) : (Instr.makeSlice 87 (.int .i64 (n : Int)) (.int .i64 (n : Int))).run Tryz.prog w = .ok (.slice (some ⟨w.heap.size, 0, none⟩) n n) (w.alloc (.cells (madeCells #[.int .i64 0] n) 2)) :=
  run_make_row' (P := Tryz.prog) 87 2 (.int .i64 0) 8 Tryz.underlying87 infoI rfl .i64 .i64 n (by omega) (by omega) w
theorem infoR3 : (Tryz.prog.info? 88).map (fun i => (i.zero, i.size, i.bytes)) = some (some (.slice none 0 0), 1, 24) := by kernel_rfl
theorem row3f {w : World} {g : Nat} {a b c : Value} {t : TypeId} (h : w.heap[g]? = some (.cells #[a, b, c] t (0, 0))) :
    (w.cell? ⟨g, 0, none⟩ = some a ∧ w.cell? ⟨g, 1, none⟩ = some b ∧ w.cell? ⟨g, 2, none⟩ = some c) ∧ w.frozen? ⟨g, 0, none⟩ = false ∧ w.frozen? ⟨g, 1, none⟩ = false ∧ w.frozen? ⟨g, 2, none⟩ = false := by
  exact ⟨row3' h, frozen_of_row _ _ _ _ _ h, frozen_of_row _ _ _ _ _ h, frozen_of_row _ _ _ _ _ h⟩
theorem new2 (W : World) (o1 o2 : Obj) : ((W.alloc o1).alloc o2).heap[W.heap.size + 1]? = some o2 := by
  have h := heap_alloc_new (W.alloc o1) o2
  rwa [show (W.alloc o1).heap.size = W.heap.size + 1 by simp] at h
theorem old2 {W : World} {o1 o2 o : Obj} {k : Nat} (h : W.heap[k]? = some o) : ((W.alloc o1).alloc o2).heap[k]? = some o := by
  have hk := (Array.getElem?_eq_some_iff.1 h).1
  rw [Below.heap_alloc _ _ k (by simp; omega), Below.heap_alloc _ _ k hk, h]
theorem put3 {W : World} {g : Nat} {a b c x y z : Value} {t : TypeId} (h : W.heap[g]? = some (.cells #[a, b, c] t (0, 0))) :
    (((W.setCell ⟨g, 0, none⟩ x).setCell ⟨g, 1, none⟩ y).setCell ⟨g, 2, none⟩ z).heap[g]? = some (.cells #[x, y, z] t (0, 0)) := by
  have hl := (Array.getElem?_eq_some_iff.1 h).1
  simp [World.setCell, Array.getElem?_modify, h]
theorem owns_form {B n s : Nat} {e : TypeId} {w : World} {v : Value} {xs : List Value} (h : w.ownsRow B e s v n xs) : ∃ a c, v = .slice a n c := by
  rcases h.2 with ⟨rfl, hn⟩ | ⟨g, cap, cur, rfl, _⟩
  · exact ⟨none, 0, by rw [hn]⟩
  · exact ⟨_, cap, rfl⟩
theorem owns_ne {w : World} {B g : Nat} {e t : TypeId} {s n : Nat} {v : Value} {xs : List Value} {cs : Array Value} (h : w.ownsRow B e s v n xs) (hb : w.heap[g]? = some (.cells cs t (0, 0))) (hne : e ≠ t) : v.ownBlock ≠ some g := fun he => by
  rcases h.2 with ⟨h0, _⟩ | ⟨g', cap, cur, h0, _, hgg, _⟩
  · rw [h0] at he; simp [Value.ownBlock] at he
  · rw [h0] at he
    have he : g' = g := by simpa [Value.ownBlock] using he
    subst he
    rw [hb] at hgg
    simp at hgg
    exact hne hgg.2.symm
theorem owns_keep1 {S : Nat → Prop} {w w' : World} {B : Nat} {e : TypeId} {s n : Nat} {v : Value} {xs : List Value} (h : w.ownsRow B e s v n xs) (hk : Keep S w w') (hS : ∀ k, v.ownBlock = some k → S k) : w'.ownsRow B e s v n xs := by
  refine ⟨h.1, ?_⟩
  rcases h.2 with h2 | ⟨g, cap, cur, rfl, hb, hh, r⟩
  · exact .inl h2
  · exact .inr ⟨g, cap, cur, rfl, hb, by rw [hk.block g (hS g rfl) (Array.getElem?_eq_some_iff.1 hh).1]; exact hh, r⟩
def crowI (n i : Nat) : List (List Nat) := (List.range (n - (i + 1))).map fun k => (List.replicate n 0).set (i + 1 + k) 1
theorem crowI_get {n i k : Nat} (h : k < n - (i + 1)) : (crowI n i)[k]? = some ((List.replicate n 0).set (i + 1 + k) 1) := by
  unfold crowI
  rw [List.getElem?_map, List.getElem?_range h]; rfl
theorem crowI_succ {n i k : Nat} (h : k < n - (i + 1)) : (crowI n i).take k ++ [(List.replicate n 0).set (i + 1 + k) 1] = (crowI n i).take (k + 1) := by
  rw [List.take_add_one, crowI_get h]; rfl
theorem crowI_len (n i : Nat) : (crowI n i).length = n - (i + 1) := by unfold crowI; simp
set_option maxHeartbeats 400000 in
theorem own_any (S : Nat → Prop) (v : Value) (l : List Int) (w : World) (hv : SlI S w v l) (hl : l.length ≤ 1000000) :
    Calls Tryz.prog 134 #[v] w (NewS l w) := by
  obtain ⟨i0, hi, hz0, hz1, hz2⟩ := info_parts infoI
  obtain ⟨ao, c, rfl, hc, hm, hn, hx⟩ := hv
  have HL := Lib.hid hl
  have HM := Lib.hid hm
  clear hl hm
  have hsl : SlI S w (.slice ao l.length c) l := ⟨ao, c, rfl, hc, HM.out, hn, hx⟩
  have HS := Lib.hid hsl
  have h00 := World.ownsRow_made (base := w.heap.size) (e := 2) (size := 1) w #[] 0 (Nat.le_refl _) (Nat.zero_le _) rfl
  have HX := Lib.hid hx
  clear hsl hx
  cases ao with
  | none =>
    obtain rfl : c = 0 := hn rfl
    obtain rfl : l = [] := List.eq_nil_of_length_eq_zero (by omega)
    go_enter Tryz.func134, Tryz.ntmps134
    go_wp2_with fail
    go_ret
    exact ⟨w.heap.size, 0, rfl, h00, (Below.refl _ _).alloc (Nat.le_refl _) _⟩
  | some ad =>
    have C1 := Lib.hid (SlI.src (w' := w.alloc (.cells #[] 2)) HS.out ((Keep.refl _ _).alloc _))
    have C2 := Lib.hid (vals_one l)
    have C3 := Lib.hid (show 0 + l.length ≤ maxLen from by have := HL.out; unfold maxLen; omega)
    have C4 := Lib.hid (show (0 + l.length) * 8 ≤ 140737488355328 from by have := HL.out; omega)
    have C5 := Lib.hid (show (vals l).length = l.length * 1 by simp [vals])
    go_enter Tryz.func134, Tryz.ntmps134
    go_wp2_with (at_builtin; refine wpList_append_own _ rfl _ _ 87 rfl w.heap.size 2 i0 (.int .i64 0) 1 8 Tryz.underlying87 hi hz0 hz1 hz2 rfl (by decide) _ _ _ rfl h00 ad l.length c (vals l) rfl C5.out C1.out C2.out C3.out C4.out (by simp) ?_)
    intro v' w1 hown' hgrow hnil
    have hO : Own w.heap.size w1 v' l := by simpa [Own] using hown'
    have hB : Below w.heap.size w w1 := ((Below.refl _ _).alloc (Nat.le_refl _) _).grown hgrow (by simp) (by intro k hk; simp [Value.ownBlock] at hk; omega)
    have hne : v' ≠ .slice none 0 0 := hnil
    clear hown' hgrow hnil
    go_wp2_with fail
    go_ret
    obtain ⟨g, cap, rfl⟩ := hO.head hne
    exact ⟨g, cap, rfl, hO, hB⟩
theorem Own_lit {B : Nat} (w : World) (cs : Array Value) (x : List Int) (hB : B ≤ w.heap.size) (hn : x.length ≤ maxLen) (h : cs.toList = vals x) : Own B (w.alloc (.cells cs 2)) (.slice (some ⟨w.heap.size, 0, none⟩) x.length x.length) x := by
  have := World.ownsRow_lit (base := B) (e := 2) (size := 1) w cs x.length hB hn (by rw [← Array.length_toList, h]; simp [vals])
  rw [h] at this
  exact this
def UnitR (n k : Nat) (w : World) (e : Ending) (w' : World) : Prop := ∃ g, e = .returned (rowV n g) ∧ Own w.heap.size w' (rowV n g) (ints ((List.replicate n 0).set k 1)) ∧ Below w.heap.size w w'
set_option maxHeartbeats 400000 in
theorem unit_row (n k : Nat) (hn : n ≤ 100) (hk : k < n) (w : World) :
    Calls Tryz.prog 135 #[.int .i64 (n : Int), .int .i64 (k : Int)] w (UnitR n k w) := by
  have hmk := mkE n (by omega) w
  have HO := Own.made (B := w.heap.size) w n (Nat.le_refl _) (by unfold maxLen; omega)
  obtain ⟨s1, f1⟩ := HO.cell (j := k) (a := 0) (by simp [hk])
  have HFF := Lib.hid (Own_lit (B := w.heap.size) w ((madeCells #[.int .i64 0] n).setIfInBounds k (.int .i64 1)) (ints ((List.replicate n 0).set k 1)) (Nat.le_refl _) (by simp [ints]; unfold maxLen; omega) (by
    rw [Array.toList_setIfInBounds, toList_madeCells_one]; simp [vals, ints]))
  clear HO
  go_enter Tryz.func135, Tryz.ntmps135
  go_wp2_with fail
  go_ret
  have := HFF.out
  simp only [ints_length, List.length_set, List.length_replicate] at this
  exact ⟨w.heap.size, rfl, this, (Below.refl _ _).alloc (Nat.le_refl _) _⟩
theorem unit_any (n k : Nat) (hn : n ≤ 100) (hk : k < n) (w : World) :
    Calls Tryz.prog 135 #[.int .i64 (n : Int), .int .i64 (k : Int)] w (NewS (ints ((List.replicate n 0).set k 1)) w) :=
  (unit_row n k hn hk w).mono fun e w' ⟨g, h1, h2, h3⟩ => ⟨g, n, by rw [h1]; simp [ints], by simpa [ints] using h2, h3⟩
theorem in_T (x lo hi : Int) (h1 : lo ≤ x) (h2 : x ≤ hi) (w : World) : Calls Tryz.prog 168 #[.int .i64 x, .int .i64 lo, .int .i64 hi] w fun e w' => e = .returned (.bool true) ∧ w' = w := by
  have h1' : x ≥ lo := h1
  go_enter Tryz.func168, Tryz.ntmps168
  go_wp2_with fail
  go_ret
  exact ⟨rfl, rfl⟩
theorem in_F (x lo hi : Int) (h : ¬ (lo ≤ x ∧ x ≤ hi)) (w : World) : Calls Tryz.prog 168 #[.int .i64 x, .int .i64 lo, .int .i64 hi] w fun e w' => e = .returned (.bool false) ∧ w' = w := by
  by_cases h1 : lo ≤ x
  · have h2 : ¬ x ≤ hi := fun h2 => h ⟨h1, h2⟩
    have h3 : decide (x ≤ hi) = false := decide_eq_false h2
    have h4 : decide (lo ≤ x) = true := decide_eq_true h1
    clear h
    go_enter Tryz.func168, Tryz.ntmps168
    go_wp2_with fail
    go_ret
    exact ⟨rfl, rfl⟩
  · have h4 : decide (lo ≤ x) = false := decide_eq_false h1
    clear h
    go_enter Tryz.func168, Tryz.ntmps168
    go_wp2_with fail
    go_ret
    exact ⟨rfl, rfl⟩

/-- a presentation in the making: p powers, q lists of conjugates -/
structure TT (B n : Nat) (W : World) (g : Nat) (vO vP vC : Value) (p q : Nat) : Prop where
  bx : W.heap[g]? = some (.cells #[vO, vP, vC] 91 (0, 0))
  hg : B ≤ g
  O : R1 B W n vO
  P : ∃ us, W.ownsRow B 87 1 vP p us ∧ ∀ (i : Nat) u, us[i]? = some u → R1 B W n u
  C : ∃ us, W.ownsRow B 88 1 vC q us ∧ ∀ (i : Nat) u, us[i]? = some u → R2 B W (List.replicate (n - (i + 1)) n) u ∧ ∀ k, vP.ownBlock = some k → u.ownBlock ≠ some k
theorem TT.lt {B n : Nat} {W : World} {g : Nat} {vO vP vC : Value} {p q : Nat} (h : TT B n W g vO vP vC p q) : g < W.heap.size := (Array.getElem?_eq_some_iff.1 h.bx).1
theorem TT.kept {B n : Nat} {W W' : World} {g : Nat} {vO vP vC : Value} {p q : Nat} (h : TT B n W g vO vP vC p q) (hk : Keep (fun k => B ≤ k) W W') : TT B n W' g vO vP vC p q := by
  have hT : Ty B W W' := Ty.keep hk fun _ h => h
  obtain ⟨us, p1, p2⟩ := h.P
  obtain ⟨vs, c1, c2⟩ := h.C
  exact ⟨(hk.block g h.hg h.lt).trans h.bx, h.hg, hT.one _ _ h.O, ⟨us, ownsRow_keep p1 hk (fun _ h => h), fun i u hu => hT.one _ _ (p2 i u hu)⟩, vs, ownsRow_keep c1 hk (fun _ h => h), fun i u hu => ⟨hT.two _ _ (c2 i u hu).1, (c2 i u hu).2⟩⟩
theorem TT.below {B n : Nat} {W W' : World} {g : Nat} {vO vP vC : Value} {p q : Nat} (h : TT B n W g vO vP vC p q) (hb : Below W.heap.size W W') : TT B n W' g vO vP vC p q := h.kept ((Keep.of_below (S := Any) hb).mono fun _ _ => trivial)
theorem TT.start {B n : Nat} {W : World} {g : Nat} {vO : Value} (h : W.heap[g]? = some (.cells #[vO, .slice none 0 0, .slice none 0 0] 91 (0, 0))) (hB : B ≤ g) (hO : R1 B W n vO) : TT B n W g vO (.slice none 0 0) (.slice none 0 0) 0 0 :=
  ⟨h, hB, hO, ⟨[], World.ownsRow_nil _ _ _ _, fun i u hu => by simp at hu⟩, [], World.ownsRow_nil _ _ _ _, fun i u hu => by simp at hu⟩
theorem TT.mono {B B' n : Nat} {W : World} {g : Nat} {vO vP vC : Value} {p q : Nat} (h : TT B n W g vO vP vC p q) (hB : B' ≤ B) : TT B' n W g vO vP vC p q := by
  obtain ⟨us, p1, p2⟩ := h.P
  obtain ⟨vs, c1, c2⟩ := h.C
  exact ⟨h.bx, Nat.le_trans hB h.hg, h.O.mono hB, ⟨us, ownsRow_mono p1 hB, fun i u hu => (p2 i u hu).mono hB⟩, vs, ownsRow_mono c1 hB, fun i u hu => ⟨(c2 i u hu).1.mono hB, (c2 i u hu).2⟩⟩
/-- another row of the powers -/
theorem TT.row {B n c g2 : Nat} {W W1 W2 : World} {g : Nat} {vO vP vC u : Value} {p q : Nat} {us : List Value} (h : TT B n W g vO vP vC p q) (hb : Below W.heap.size W W1) (hp1 : W1.ownsRow B 87 1 vP p us) (hp2 : ∀ (i : Nat) u, us[i]? = some u → R1 B W n u) (hu : R1 B W1 n u)
    (ho : W2.ownsRow B 87 1 (.slice (some ⟨g2, 0, none⟩) (p + 1) c) (p + 1) (us ++ [u])) (hg : W1.grownBy W2 vP.ownBlock) (hat : vP.ownBlock = some g2 ∨ W1.heap.size ≤ g2) :
    TT B n (W2.setCell ⟨g, 1, none⟩ (.slice (some ⟨g2, 0, none⟩) (p + 1) c)) g vO (.slice (some ⟨g2, 0, none⟩) (p + 1) c) vC (p + 1) q := by
  have h1 := h.below hb
  have hT : Ty B W W1 := Ty.below hb
  have hgl1 : g < W1.heap.size := h1.lt
  have hPne : vP.ownBlock ≠ some g := owns_ne hp1 h1.bx (by decide)
  obtain ⟨vs, c1, c2⟩ := h1.C
  have hbx2 : W2.heap[g]? = some (.cells #[vO, vP, vC] 91 (0, 0)) := (hg.block g hgl1 (fun e => hPne e.symm)).trans h1.bx
  have r1 : ∀ v, R1 B W1 n v → R1 B (W2.setCell ⟨g, 1, none⟩ (.slice (some ⟨g2, 0, none⟩) (p + 1) c)) n v := fun v hv => (hv.grown hg (hv.apart hp1 (by decide))).other hbx2 (by decide)
  refine ⟨heap_setCell_same W2 g 1 _ _ _ hbx2, h.hg, r1 _ h1.O, ⟨us ++ [u], owns_other ho hbx2 (by decide), fun i x hx => ?_⟩, vs, owns_other (World.ownsRow.kept c1 hg (rows_apart c1 hp1 (by decide))) hbx2 (by decide), fun i x hx => ?_⟩
  · rcases Nat.lt_or_ge i us.length with hi | hi
    · rw [List.getElem?_append_left hi] at hx
      exact r1 _ (hT.one _ _ (hp2 i x hx))
    · rw [List.getElem?_append_right hi] at hx
      rcases hj : i - us.length with _ | j
      · rw [hj] at hx
        simp at hx
        subst hx
        exact r1 _ hu
      · rw [hj] at hx
        simp at hx
  · obtain ⟨d1, d2⟩ := c2 i x hx
    have hne : x.ownBlock = none ∨ x.ownBlock ≠ vP.ownBlock := by
      rcases hk : vP.ownBlock with _ | k
      · rcases hx' : x.ownBlock with _ | k'
        · exact .inl rfl
        · exact .inr (by simp)
      · exact .inr (d2 k hk)
    refine ⟨(d1.grown hp1 (by decide) hg hne).other hbx2 (by decide) (by decide), fun k hk => ?_⟩
    have hk : g2 = k := by simpa [Value.ownBlock] using hk
    subst hk
    rcases hat with h3 | h3
    · exact d2 _ h3
    · intro e
      obtain ⟨us', q1, q2⟩ := d1
      have := (World.ownsRow.lt q1 _ e).2
      omega
/-- another list of conjugates -/
theorem TT.con {B n c g2 : Nat} {W W1 W2 : World} {g : Nat} {vO vP vC u : Value} {p q : Nat} {us : List Value} (h : TT B n W g vO vP vC p q) (hb : Below W.heap.size W W1) (hc1 : W1.ownsRow B 88 1 vC q us) (hc2 : ∀ (i : Nat) u, us[i]? = some u → R2 B W (List.replicate (n - (i + 1)) n) u ∧ ∀ k, vP.ownBlock = some k → u.ownBlock ≠ some k)
    (hu : R2 B W1 (List.replicate (n - (q + 1)) n) u) (hup : ∀ k, vP.ownBlock = some k → u.ownBlock ≠ some k)
    (ho : W2.ownsRow B 88 1 (.slice (some ⟨g2, 0, none⟩) (q + 1) c) (q + 1) (us ++ [u])) (hg : W1.grownBy W2 vC.ownBlock) :
    TT B n (W2.setCell ⟨g, 2, none⟩ (.slice (some ⟨g2, 0, none⟩) (q + 1) c)) g vO vP (.slice (some ⟨g2, 0, none⟩) (q + 1) c) p (q + 1) := by
  have h1 := h.below hb
  have hT : Ty B W W1 := Ty.below hb
  have hgl1 : g < W1.heap.size := h1.lt
  have hCne : vC.ownBlock ≠ some g := owns_ne hc1 h1.bx (by decide)
  have hbx2 : W2.heap[g]? = some (.cells #[vO, vP, vC] 91 (0, 0)) := (hg.block g hgl1 (fun e => hCne e.symm)).trans h1.bx
  have r1 : ∀ v, R1 B W1 n v → R1 B (W2.setCell ⟨g, 2, none⟩ (.slice (some ⟨g2, 0, none⟩) (q + 1) c)) n v := fun v hv => (hv.grown hg (hv.apart hc1 (by decide))).other hbx2 (by decide)
  have r2 : ∀ L v, R2 B W1 L v → R2 B (W2.setCell ⟨g, 2, none⟩ (.slice (some ⟨g2, 0, none⟩) (q + 1) c)) L v := fun L v hv => by
    obtain ⟨xs, q1, q2⟩ := id hv
    exact (hv.grown hc1 (by decide) hg (rows_apart q1 hc1 (by decide))).other hbx2 (by decide) (by decide)
  obtain ⟨vs, p1, p2⟩ := h1.P
  have hl : us.length = q := by have := hc1.1; omega
  refine ⟨heap_setCell_same W2 g 2 _ _ _ hbx2, h.hg, r1 _ h1.O, ⟨vs, owns_other (World.ownsRow.kept p1 hg (rows_apart p1 hc1 (by decide))) hbx2 (by decide), fun i x hx => r1 _ (p2 i x hx)⟩, us ++ [u], owns_other ho hbx2 (by decide), fun i x hx => ?_⟩
  rcases Nat.lt_or_ge i us.length with hi | hi
  · rw [List.getElem?_append_left hi] at hx
    exact ⟨r2 _ _ (hT.two _ _ (hc2 i x hx).1), (hc2 i x hx).2⟩
  · rw [List.getElem?_append_right hi] at hx
    rcases hj : i - us.length with _ | j
    · rw [hj] at hx
      simp at hx
      subst hx
      have : i = q := by omega
      subst this
      exact ⟨r2 _ _ hu, hup⟩
    · rw [hj] at hx
      simp at hx
/-- a presentation of the lengths n -/
def PT (B : Nat) (w : World) (n : Nat) (vO vP vC : Value) : Prop := R1 B w n vO ∧ R2 B w (List.replicate n n) vP ∧ R3 B w ((List.range n).map fun i => List.replicate (n - (i + 1)) n) vC
theorem TT.pt {B n : Nat} {W : World} {g : Nat} {vO vP vC : Value} (h : TT B n W g vO vP vC n n) : PT B W n vO vP vC := by
  obtain ⟨us, p1, p2⟩ := h.P
  obtain ⟨vs, c1, c2⟩ := h.C
  have l1 : us.length = n := by have := p1.1; omega
  have l2 : vs.length = n := by have := c1.1; omega
  refine ⟨h.O, ⟨us, by simpa using p1, fun i m hi => ?_⟩, vs, by simpa using c1, fun i L hi => ?_⟩
  · rw [List.getElem?_replicate] at hi
    split at hi
    · injection hi with hi
      subst hi
      have hu : us[i]? = some (us[i]'(by omega)) := List.getElem?_eq_getElem _
      exact ⟨_, hu, p2 i _ hu⟩
    · cases hi
  · rw [List.getElem?_map] at hi
    rcases Nat.lt_or_ge i n with h3 | h3
    · rw [List.getElem?_range h3] at hi
      simp at hi
      subst hi
      have hu : vs[i]? = some (vs[i]'(by omega)) := List.getElem?_eq_getElem _
      exact ⟨_, hu, (c2 i _ hu).1⟩
    · rw [List.getElem?_eq_none (by simpa using h3)] at hi
      cases hi
def TrivR (n : Nat) (w : World) (e : Ending) (w' : World) : Prop := ∃ vO vP vC, e = .returned (.agg #[vO, vP, vC]) ∧ PT w.heap.size w' n vO vP vC ∧ Below w.heap.size w w'
set_option maxRecDepth 100000 in
set_option maxHeartbeats 4000000 in
theorem triv_any (os : List Int) (v : Value) (w : World) (hv : SlI Any w v os) (hn : os.length ≤ 100) :
    Calls Tryz.prog 106 #[v] w (TrivR os.length w) := by
  obtain ⟨i0, hi, hz0, hz1, hz2⟩ := info_parts infoR
  obtain ⟨j0, ji, jz0, jz1, jz2⟩ := info_parts infoR3
  obtain ⟨a, c, rfl, hcl, hcm⟩ := slg_form hv
  obtain ⟨n, hnn⟩ : ∃ n, os.length = n := ⟨_, rfl⟩
  have HV := Lib.hid hv
  have HNN := Lib.hid hnn
  have HC := Lib.hid (fun W hv => (own_any Any (.slice a os.length c) os W hv (by omega)).mono (R' := fun e w' => ∃ a2 c2, e = .returned (.slice a2 os.length c2) ∧ R1 W.heap.size w' os.length (.slice a2 os.length c2) ∧ Below W.heap.size W w') (by
    rintro e w2 ⟨g2, c2, rfl, ho2, hb2⟩
    exact ⟨_, c2, rfl, R1.of_own ho2, hb2⟩))
  have HU := Lib.hid (fun k hk W => unit_any n k (by omega) hk W)
  rw [hnn] at hn HC hcl ⊢
  have hv' := hv
  rw [hnn] at hv'
  have HV := Lib.hid hv'
  have hmk : ∀ W : World, (Instr.makeSlice 87 (.int .i64 (n : Int)) (.int .i64 (n : Int))).run Tryz.prog W = .ok (.slice (some ⟨W.heap.size, 0, none⟩) n n) (W.alloc (.cells (madeCells #[.int .i64 0] n) 2)) := fun W => mkE n (by omega) W
  clear hv hv' hnn
  go_enter Tryz.func106, Tryz.ntmps106
  go_upto_region 1 with fail
  obtain ⟨w1, hw1⟩ : ∃ w1, w1 = w.alloc (.cells #[.slice none 0 0, .slice none 0 0, .slice none 0 0] 91) := ⟨_, rfl⟩
  rw [← hw1]
  have hb1 : Below w.heap.size w w1 := by rw [hw1]; exact (Below.refl _ _).alloc (Nat.le_refl _) _
  have hs1 : w1.heap.size = w.heap.size + 1 := by rw [hw1]; simp
  have G1 := Lib.hid (show w1.heap[w.heap.size]? = some (.cells #[.slice none 0 0, .slice none 0 0, .slice none 0 0] 91 (0, 0)) by rw [hw1]; exact heap_alloc_new _ _)
  have HV1 := Lib.hid (HV.out.keep (Keep.of_below hb1))
  have HB1 := Lib.hid hb1
  have HS1 := Lib.hid hs1
  clear hw1 hb1 hs1
  go_wp2_with (first | (go_at_call 134; refine (HC.out _ HV1.out).mono ?_; rintro e w2 ⟨a2, c2, rfl, ho2, hb2⟩) | fail)
  obtain ⟨g, hg⟩ : ∃ g, w2.heap.size = g := ⟨_, rfl⟩
  obtain ⟨w3, hw3⟩ : ∃ w3, w3 = w2.alloc (.cells #[.slice a2 n c2, .slice none 0 0, .slice none 0 0] 91) := ⟨_, rfl⟩
  have HT0 := Lib.hid (show TT w1.heap.size n w3 g (.slice a2 n c2) (.slice none 0 0) (.slice none 0 0) 0 0 from TT.start (by rw [hw3, ← hg]; exact heap_alloc_new _ _) (by have := hb2.size; omega) (by
    rw [hw3]
    exact (Ty.keep (S := Any) ((Keep.refl _ w2).alloc _) fun _ _ => trivial).one _ _ ho2))
  have HB3 := Lib.hid (show Below w1.heap.size w1 w3 from by rw [hw3]; exact hb2.alloc hb2.size _)
  rw [← hw3, hg]
  clear hw3 hg ho2 hb2
  have hn63 : (n : Int) ≤ 100 := by omega
  go_loopw [5] (fun iv wr => ∃ (i : Nat) (vP vC : Value), i ≤ n ∧ iv = .int .i64 (i : Int) ∧ Hid (TT w1.heap.size n wr g (.slice a2 n c2) vP vC i i) ∧ Hid (Below w1.heap.size w1 wr)) (fun iv _ => n - (intOf iv).toNat)
  case atStart => exact ⟨0, _, _, Nat.zero_le _, rfl, HT0, HB3⟩
  case round =>
    obtain ⟨i, vP, vC, hi', rfl, hS, hB⟩ := hrel
    by_cases hlt : i < n
    · obtain ⟨us, hp1, hp2⟩ := hS.out.P
      obtain ⟨aP, cP, rfl⟩ := owns_form hp1
      have HP := Lib.hid hp1
      have HP2 := Lib.hid hp2
      clear hp1 hp2
      obtain ⟨⟨e0, e1, e2⟩, f0, f1, f2⟩ := row3f hS.out.bx
      have hgl : g < wr.heap.size := hS.out.lt
      have HBX := Lib.hid hS.out.bx
      have hne : some g ≠ (Value.slice aP i cP).ownBlock := fun e => owns_ne HP.out HBX.out (by decide) e.symm
      have HS1 := Lib.hid hB.out.size
      have hki : (i : Int) < (n : Int) := by omega
      have hi6 : i ≤ 100 := by omega
      obtain ⟨w4, hw4⟩ : ∃ w4, w4 = wr := ⟨_, rfl⟩
      have HW4 := Lib.hid hw4
      clear hw4
      go_upto_region 6 with fail
      go_cut [23] (fun sv W => ∃ c5 gg, sv = .slice (some ⟨gg, 0, none⟩) (i + 1) c5 ∧ Hid (TT w1.heap.size n W g (.slice a2 n c2) (.slice (some ⟨gg, 0, none⟩) (i + 1) c5) vC (i + 1) i) ∧ Hid (Below w1.heap.size w1 W))
      case rest =>
        obtain ⟨c5, gg, rfl, hS', hB'⟩ := hcut
        clear hS hB HP HP2 HBX hne HS1 e0 e1 e2 f0 f1 f2 hgl
        obtain ⟨wo, hwo⟩ : ∃ wo, wo = wc := ⟨_, rfl⟩
        rw [← hwo] at hS' hB' ⊢
        have hgo : g < wo.heap.size := hS'.out.lt
        clear hwo
        have hw1 : IntKind.i64.wrap ((i : Int) + 1) = (i : Int) + 1 := IntWalk.i64_in _ (by omega)
        have HLN := Lib.hid (crowI_len n i)
        have HNIL := Lib.hid (show Own2 87 2 wo.heap.size (wo.alloc (.cells #[] 87)) (.slice (some ⟨wo.heap.size, 0, none⟩) 0 0) ((crowI n i).take 0) from ⟨[], World.ownsRow_lit (base := wo.heap.size) (e := 87) (size := 1) wo #[] 0 (Nat.le_refl _) (by unfold maxLen; omega) (by simp), rfl, by simp⟩)
        go_wp2_with fail
        go_loopw [6, 7] (fun lv jv wr => ∃ k : Nat, i + 1 + k ≤ n ∧ jv = .int .i64 ((i : Int) + 1 + (k : Int)) ∧ Hid (Own2 87 2 wo.heap.size wr lv ((crowI n i).take k)) ∧ Hid (Below wo.heap.size wo wr)) (fun _ jv _ => n - (intOf jv).toNat)
        case atStart => exact ⟨0, by omega, by simp, HNIL, (Lib.hid ((Below.refl _ _).alloc (Nat.le_refl _) _))⟩
        case round =>
          obtain ⟨k, hk, rfl, hO, hBI⟩ := hrel
          obtain ⟨aL, cL, rfl, _, _⟩ := hO.out.form
          have hll : ((crowI n i).take k).length = k := by rw [List.length_take, HLN.out]; omega
          rw [hll] at hO ⊢
          have hw2 : IntKind.i64.wrap ((i : Int) + 1 + (k : Int)) = (i : Int) + 1 + (k : Int) := IntWalk.i64_in _ (by omega)
          by_cases hlt2 : i + 1 + k < n
          · have hki2 : (i : Int) + 1 + (k : Int) < (n : Int) := by omega
            have HUC := Lib.hid (show Calls Tryz.prog 135 #[.int .i64 (n : Int), .int .i64 ((i : Int) + 1 + (k : Int))] _ (NewS (ints ((List.replicate n 0).set (i + 1 + k) 1)) _) from by
              have h := HU.out (i + 1 + k) hlt2 wr
              rw [show (((i + 1 + k : Nat)) : Int) = (i : Int) + 1 + (k : Int) by omega] at h
              exact h)
            obtain ⟨us, q1, q2, q4⟩ := hO.out
            have HUS := Lib.hid (And.intro q1 (And.intro q2 q4))
            rw [hll] at HUS
            have HSZ := Lib.hid hBI.out.size
            have hk6 : k ≤ 100 := by omega
            clear q1 q2 q4 hll
            go_wp2_with fail
            refine HUC.out.mono ?_
            rintro e w5 ⟨g5, c5', rfl, ho5, hb5⟩
            have hl5 : (ints ((List.replicate n 0).set (i + 1 + k) 1)).length = n := by rw [ints_length]; simp
            have HRW := Lib.hid (RowOk.keep (NewS.row (ho5.mono HSZ.out)) ((Keep.refl Any w5).alloc (.cells #[.slice (some ⟨g5, 0, none⟩) (ints ((List.replicate n 0).set (i + 1 + k) 1)).length c5'] 87)) fun _ _ => trivial)
            rw [hl5] at HRW ⊢
            have a1 := ownsRow_keep HUS.out.1 (S := Any) ((Keep.of_below hb5).trans ((Keep.refl Any w5).alloc (.cells #[.slice (some ⟨g5, 0, none⟩) n c5'] 87))) (fun _ _ => trivial)
            have HB5 := Lib.hid ((hBI.out.trans (hb5.mono hBI.out.size)).alloc (by have := HSZ.out; have := hb5.size; omega) (.cells #[.slice (some ⟨g5, 0, none⟩) n c5'] 87))
            have HK5 := Lib.hid (show Keep Any wr _ from (Keep.of_below hb5).trans ((Keep.refl Any w5).alloc (.cells #[.slice (some ⟨g5, 0, none⟩) n c5'] 87)))
            have HS5 := Lib.hid (show wo.heap.size ≤ w5.heap.size by have := HSZ.out; have := hb5.size; omega)
            clear ho5 hb5 hl5
            go_wp2_with (at_builtin; (refine wpList_append_lies _ rfl _ _ 88 rfl wo.heap.size 87 i0 (.slice none 0 0) 1 24 Tryz.underlying88 hi hz0 hz1 hz2 rfl (by decide) _ _ _ rfl a1 ⟨w5.heap.size, 0, none⟩ 1 1 [.slice (some ⟨g5, 0, none⟩) n c5'] rfl rfl (World.news_of_block (cs := #[.slice (some ⟨g5, 0, none⟩) n c5']) (t := 87) (fr := (0, 0)) (heap_alloc_new w5 _)) (by simp [Value.oneCell']) (by decide) (by unfold maxLen; omega) (by omega) (by have := HS5.out; simp; omega) _ rfl ?_))
            intro g6 c6 w6 ho6 hg6 hat6 hlt6
            have hl7 : ((crowI n i).take k).length = k := by rw [List.length_take, HLN.out]; omega
            have HN := Lib.hid (Own2.push (rows := (crowI n i).take k) (by decide) hl7 a1 (by rw [HUS.out.2.1, hl7]) (fun i' r u h1 h2 => (HUS.out.2.2 i' r u h1 h2).keep HK5.out (fun _ _ => trivial)) HRW.out ho6 hg6)
            rw [crowI_succ (by omega)] at HN
            have HBN := Lib.hid (HB5.out.grown hg6 (by have := HS5.out; simp; omega) (by intro b hb; exact (World.ownsRow.lt a1 b hb).1))
            clear ho6 hg6 hat6 hlt6 a1 hl7 hO hBI HB5
            go_wp2_with fail
            go_roundw
            case rel => exact ⟨k + 1, by omega, by go_num, HN, HBN⟩
            case measure => simp [intOf]; omega
          · obtain rfl : k = n - (i + 1) := by omega
            have hlx : n - (i + 1) = (crowI n i).length := HLN.out.symm
            have HOF := Lib.hid (show Own2 87 2 wo.heap.size wr (.slice aL (n - (i + 1)) cL) (crowI n i) from by
              have h := hO.out
              rw [List.take_of_length_le (by rw [HLN.out]; exact Nat.le_refl _)] at h
              exact h)
            obtain ⟨ln, hln⟩ : ∃ ln, n - (i + 1) = ln := ⟨_, rfl⟩
            have hln6 : ln ≤ 100 := by omega
            have hjn : (i : Int) + 1 + (ln : Int) = (n : Int) := by omega
            rw [hln] at HOF ⊢
            have HT := Lib.hid (hS'.out.below hBI.out)
            have HBB := Lib.hid (hB'.out.trans (hBI.out.mono hB'.out.size))
            have HS6 := Lib.hid (show w1.heap.size ≤ wr.heap.size from HBB.out.size)
            obtain ⟨us, c1, c3⟩ := HT.out.C
            obtain ⟨aC, cC, rfl⟩ := owns_form c1
            have HC3 := Lib.hid c3
            obtain ⟨⟨e0, e1, e2⟩, f0, f1, f2⟩ := row3f HT.out.bx
            have hgl : g < wr.heap.size := HT.out.lt
            have HBX := Lib.hid HT.out.bx
            have hne : some g ≠ (Value.slice aC i cC).ownBlock := fun e => owns_ne c1 HBX.out (by decide) e.symm
            obtain ⟨pus, hpu1, hpu2⟩ := hS'.out.P
            have hgl2 := World.ownsRow.lt hpu1 gg rfl
            have HUF := Lib.hid (show R2 w1.heap.size (wr.alloc (.cells #[.slice aL ln cL] 88)) (List.replicate (n - (i + 1)) n) (.slice aL ln cL) from (Ty.keep (S := Any) ((Keep.refl _ wr).alloc _) fun _ _ => trivial).two _ _ (by
              have h := R2.of_own2 (n := n) HOF.out (fun r hr => by
                obtain ⟨k', hk'⟩ := List.getElem?_of_mem hr
                have h5 : k' < n - (i + 1) := by have := (List.getElem?_eq_some_iff.1 hk').1; rw [HLN.out] at this; exact this
                rw [crowI_get h5] at hk'
                injection hk' with hk'
                rw [← hk']; simp)
              rw [HLN.out] at h
              exact h.mono (by have := hB'.out.size; omega)))
            have HAP := Lib.hid (show ∀ k, (Value.slice (some ⟨gg, 0, none⟩) (i + 1) c5).ownBlock = some k → (Value.slice aL ln cL).ownBlock ≠ some k from fun k hk hk2 => by
              obtain ⟨xs, q1, _⟩ := HOF.out
              have h5 := (World.ownsRow.lt q1 k hk2).1
              have h6 : gg = k := by simpa [Value.ownBlock] using hk
              omega)
            clear hpu1 hpu2 hgl2
            have a1 := ownsRow_keep c1 (S := Any) ((Keep.refl Any wr).alloc (.cells #[.slice aL ln cL] 88)) (fun _ _ => trivial)
            have HBW := Lib.hid (show Below wr.heap.size wr (wr.alloc (.cells #[.slice aL ln cL] 88)) from (Below.refl _ _).alloc (Nat.le_refl _) _)
            clear hlx hO hll hBI hlt2 c3 HOF
            have hfin : ¬ ((i : Int) + 1 + (ln : Int) < (n : Int)) := by omega
            have hi66 : i ≤ 100 := by omega
            go_wp2_with (at_builtin; (refine wpList_append_lies _ rfl _ _ 89 rfl w1.heap.size 88 j0 (.slice none 0 0) 1 24 Tryz.underlying89 ji jz0 jz1 jz2 rfl (by decide) _ _ _ rfl a1 ⟨wr.heap.size, 0, none⟩ 1 1 [.slice aL ln cL] rfl rfl (World.news_of_block (cs := #[.slice aL ln cL]) (t := 88) (fr := (0, 0)) (heap_alloc_new wr _)) (by simp [Value.oneCell']) (by decide) (by unfold maxLen; omega) (by omega) (by have := HS6.out; simp; omega) _ rfl ?_))
            intro g7 c7 w7 ho7 hg7 hat7 hlt7
            have g10 := (hg7.block g (by simp; omega) hne).trans ((Below.heap_alloc wr _ g hgl).trans HBX.out)
            obtain ⟨⟨m0, m1, m2⟩, n0, n1, n2⟩ := row3f g10
            have HN := Lib.hid (TT.con HT.out HBW.out a1 HC3.out HUF.out HAP.out ho7 hg7)
            have HBN := Lib.hid ((HBB.out.alloc HS6.out (.cells #[.slice aL ln cL] 88)).grown hg7 (by have := HS6.out; simp; omega) (by intro b hb; exact (World.ownsRow.lt a1 b hb).1))
            have HBN2 := Lib.hid (HBN.out.setCell (p := ⟨g, 2, none⟩) HT.out.hg (.slice (some ⟨g7, 0, none⟩) (i + 1) c7))
            clear ho7 hg7 hat7 hlt7 a1 g10 c1 e0 e1 e2 HT HUF HBW HBN HC3 HAP
            go_wp2_with fail
            go_roundw
            case rel => exact ⟨i + 1, _, _, by omega, by go_num, HN, HBN2⟩
            case measure => simp [intOf]; omega
      go_region_law
        (first | (refine step_append_lies _ (by rfl) _ _ _ (by rfl) w1.heap.size 87 i0 (.slice none 0 0) 1 24 Tryz.underlying88 hi hz0 hz1 hz2 rfl (by omega) (.slice aP i cP) i us (by rfl) (ownsRow_keep HP.out (S := Any) (by repeat (first | exact (Keep.refl _ _).drew | exact Keep.refl _ _ | refine Keep.drew ?_ | refine Keep.alloc ?_ _)) (fun _ _ => trivial)) ⟨wr.heap.size + 1, 0, none⟩ 1 1 [rowV n wr.heap.size] (by rfl) (by rfl) (World.news_of_block (cs := #[rowV n wr.heap.size]) (t := 87) (fr := (0, 0)) (by first | exact new2 wr.drew _ _ | exact new2 wr _ _)) (by simp [Value.oneCell']) (by omega) (by unfold maxLen; omega) (by omega) (by have := HS1.out; simp; omega) _ rfl ?_; intro gg cap w10 hown10 hgrow10 hat10 hlt10; have g10 := (hgrow10.block g (by simp; omega) hne).trans (by first | exact old2 (W := wr.drew) HBX.out | exact old2 (W := wr) HBX.out); obtain ⟨⟨m0, m1, m2⟩, n0, n1, n2⟩ := row3f g10))
      all_goals
        have HW : Below wr.heap.size wr ((wr.alloc (Obj.cells (madeCells #[Value.int IntKind.i64 0] n) 2)).alloc (Obj.cells #[rowV n wr.heap.size] 87)).drew := (((Below.refl _ _).alloc (Nat.le_refl _) _).alloc (by simp) _).drew
        have HOW := Lib.hid (show R1 w1.heap.size ((wr.alloc (Obj.cells (madeCells #[Value.int IntKind.i64 0] n) 2)).alloc (Obj.cells #[rowV n wr.heap.size] 87)).drew n (rowV n wr.heap.size) from by
          have h := Own.made (B := w1.heap.size) wr n HS1.out (by unfold maxLen; omega)
          have h2 := R1.of_own (h.alloc (.cells #[rowV n wr.heap.size] 87)).drew
          rw [List.length_replicate] at h2
          exact h2)
        have HR := Lib.hid (TT.row hS.out HW (ownsRow_keep HP.out (S := Any) (Keep.of_below HW) (fun _ _ => trivial)) HP2.out HOW.out hown10 hgrow10 (by rcases hat10 with h | h; exact .inl h; exact .inr (by rw [h]; exact Nat.le_refl _)))
        go_wp2_with fail
        go_meet
        refine ⟨cap, gg, rfl, HR, ?_⟩
        · exact Lib.hid (((hB.out.trans (HW.mono HS1.out)).grown hgrow10 (Nat.le_trans HS1.out HW.size) (by intro k hk; exact (World.ownsRow.lt HP.out k hk).1)).setCell (p := ⟨g, 1, none⟩) hS.out.hg _)
    · obtain rfl : i = n := by omega
      have HR0 := Lib.hid (blk' hB.out (by have := HS1.out; omega) G1.out)
      obtain ⟨⟨r0, r1, r2⟩, s0, s1, s2⟩ := row3f HR0.out
      obtain ⟨⟨e0, e1, e2⟩, f0, f1, f2⟩ := row3f hS.out.bx
      obtain ⟨us, k1, k2⟩ := hS.out.C
      obtain ⟨ps, k3, k4⟩ := hS.out.P
      obtain ⟨aP, cP, rfl⟩ := owns_form k3
      obtain ⟨aC, cC, rfl⟩ := owns_form k1
      have HFIN := Lib.hid (show TrivR i w (.returned (.agg #[.slice a2 i c2, .slice aP i cP, .slice aC i cC])) (((wr.setCell ⟨w.heap.size, 0, none⟩ (.slice a2 i c2)).setCell ⟨w.heap.size, 1, none⟩ (.slice aP i cP)).setCell ⟨w.heap.size, 2, none⟩ (.slice aC i cC)) from by
        refine ⟨_, _, _, rfl, ?_, ?_⟩
        · exact ((hS.out.kept ((((Keep.refl _ wr).setCell (by have := HS1.out; simp; omega) _).setCell (by have := HS1.out; simp; omega) _).setCell (by have := HS1.out; simp; omega) _)).mono (by have := HS1.out; omega)).pt
        · exact (((HB1.out.trans (hB.out.mono (by have := HS1.out; omega))).setCell (p := ⟨w.heap.size, 0, none⟩) (Nat.le_refl _) _).setCell (p := ⟨w.heap.size, 1, none⟩) (Nat.le_refl _) _).setCell (p := ⟨w.heap.size, 2, none⟩) (Nat.le_refl _) _)
      clear hS k1 k2 k3 k4
      go_wp2_with fail
      obtain ⟨⟨z0, z1, z2⟩, -⟩ := row3f (put3 (x := .slice a2 i c2) (y := .slice aP i cP) (z := .slice aC i cC) HR0.out)
      exact bodyPost_ret (v := .agg #[.slice a2 i c2, .slice aP i cP, .slice aC i cC]) (by simp [results, Tryz.results106, go_sem, z0, z1, z2]) rfl HFIN.out
end Go.Proofs.YtbamkklhkhglnaaGreatDoor.DwB

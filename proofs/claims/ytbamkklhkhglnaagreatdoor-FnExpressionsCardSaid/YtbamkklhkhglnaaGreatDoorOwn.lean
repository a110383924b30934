/-
  Rows of numbers that a call has made: what they read as, and that they stay.
-/
import Derived.Test.YtbamkklhkhglnaaGreatDoorProg
import Derived.Test.YtbamkklhkhglnaaGreatDoorMem
import Derived.Test.YtbamkklhkhglnaaGreatDoorQB
import Derived.WalkSpells
import Derived.WalkLawsBesides
import Derived.BigQuiet
import Derived.Deep.QuietTactic
import Derived.Outline
import Derived.Handy
import Derived.Laws.AppendOwn
import Derived.IntWalk
import Derived.Deep.DeepCutAuto
import Derived.Deep.OwnRows
import Derived.Deep.LoopGhost
import Derived.Deep.RegionHeld3
namespace Go.Proofs.YtbamkklhkhglnaaGreatDoor
open Go.RowKit Go.Proofs.YtbamkklhkhglnaaGreatDoor.Tow
set_option linter.unusedVariables false
set_option linter.unusedSimpArgs false

theorem infoI : (Tryz.prog.info? 2).map (fun i => (i.zero, i.size, i.bytes)) = some (some (.int .i64 0), 1, 8) := by kernel_rfl

/-- the cells of a list -/
abbrev vals (x : List Int) : List Value := x.map (Value.int .i64)
/-- a slice value owns the cells of a list -/
def Own (B : Nat) (w : World) (v : Value) (x : List Int) : Prop := w.ownsRow B 2 1 v x.length (vals x)
theorem Own.form {B : Nat} {w : World} {v : Value} {x : List Int} (h : Own B w v x) (hx : 0 < x.length) : ∃ g cap, v = .slice (some ⟨g, 0, none⟩) x.length cap := by
  rcases h.2 with ⟨rfl, h0⟩ | ⟨g, cap, cur, rfl, _⟩
  · omega
  · exact ⟨g, cap, rfl⟩
theorem Own.lt {B : Nat} {w : World} {g n cap : Nat} {x : List Int} (h : Own B w (.slice (some ⟨g, 0, none⟩) n cap) x) : B ≤ g ∧ g < w.heap.size := World.ownsRow.lt h g rfl
theorem Own.sl {B : Nat} {w : World} {v : Value} {x : List Int} (h : Own B w v x) : SlI (fun k => B ≤ k) w v x := by
  rcases h.2 with ⟨rfl, h0⟩ | ⟨g, cap, cur, rfl, hb, hh, hn, hm, hs, ht⟩
  · have hx : x = [] := List.eq_nil_of_length_eq_zero h0
    subst hx
    exact ⟨none, 0, rfl, Nat.le_refl _, Nat.zero_le _, fun _ => rfl, fun i y hy => by simp at hy⟩
  · refine ⟨_, cap, rfl, hn, hm, fun e => absurd e (by simp), fun i y hy => ⟨g, 0, rfl, hb, (World.ownsRow.lt h g rfl).2, .int .i64 y, ?_, rfl⟩⟩
    have hi : i < x.length := (List.getElem?_eq_some_iff.1 hy).1
    rw [Nat.zero_add, World.ownsRow.cellAt h i (by omega)]
    simp [vals, hy]
theorem Own.sl_at {B : Nat} {w : World} {g n cap : Nat} {x : List Int} (h : Own B w (.slice (some ⟨g, 0, none⟩) n cap) x) : SlI (fun k => k = g) w (.slice (some ⟨g, 0, none⟩) n cap) x := by
  obtain ⟨ao, c, e, h1, h2, _, h3⟩ := h.sl
  obtain ⟨rfl, rfl, rfl⟩ : ao = some ⟨g, 0, none⟩ ∧ n = x.length ∧ c = cap := by simpa [eq_comm] using e
  refine ⟨_, c, rfl, h1, h2, fun e => absurd e (by simp), fun i y hy => ?_⟩
  obtain ⟨b, o, e1, e2, e3, e4⟩ := h3 i y hy
  obtain ⟨rfl, rfl⟩ : b = g ∧ o = 0 := by simpa [eq_comm] using e1
  exact ⟨b, 0, rfl, rfl, e3, e4⟩
theorem Own.keep {B : Nat} {S : Nat → Prop} {w w' : World} {v : Value} {x : List Int} (h : Own B w v x) (hk : Keep S w w') (hS : ∀ k, v.ownBlock = some k → S k) : Own B w' v x := by
  refine ⟨h.1, ?_⟩
  rcases h.2 with h2 | ⟨g, cap, cur, rfl, hb, hh, r⟩
  · exact .inl h2
  · have hg := (World.ownsRow.lt h g rfl).2
    exact .inr ⟨g, cap, cur, rfl, hb, by rw [hk.block g (hS g rfl) hg]; exact hh, r⟩
theorem Own.of_below {B : Nat} {w w' : World} {v : Value} {x : List Int} (h : Own B w v x) (hb : Below w.heap.size w w') : Own B w' v x := h.keep (S := fun _ => True) (Keep.of_below hb) (fun _ _ => trivial)
theorem Own.mono {B B' : Nat} {w : World} {v : Value} {x : List Int} (h : Own B w v x) (hB : B' ≤ B) : Own B' w v x := by
  refine ⟨h.1, ?_⟩
  rcases h.2 with h2 | ⟨g, cap, cur, e, hb, r⟩
  · exact .inl h2
  · exact .inr ⟨g, cap, cur, e, Nat.le_trans hB hb, r⟩
theorem vals_set (x : List Int) (j : Nat) (a : Int) : (vals x).set j (.int .i64 a) = vals (x.set j a) := by simp [vals]
theorem Own.set {B : Nat} {w : World} {g n cap : Nat} {x : List Int} (h : Own B w (.slice (some ⟨g, 0, none⟩) n cap) x) (j : Nat) (a : Int) :
    Own B (w.setCell ⟨g, j, none⟩ (.int .i64 a)) (.slice (some ⟨g, 0, none⟩) n cap) (x.set j a) ∧ w.grownBy (w.setCell ⟨g, j, none⟩ (.int .i64 a)) (some g) := by
  obtain ⟨ao, c, e, _⟩ := h.sl
  obtain ⟨_, rfl, _⟩ : ao = some ⟨g, 0, none⟩ ∧ n = x.length ∧ c = cap := by simpa [eq_comm] using e
  have := World.ownsRow.stored h j (.int .i64 a)
  rw [vals_set] at this
  refine ⟨?_, this.2⟩
  unfold Own
  rw [List.length_set]
  exact this.1
theorem Own.drew {B : Nat} {w : World} {v : Value} {x : List Int} (h : Own B w v x) : Own B w.drew v x := h.keep (S := fun _ => True) ((Keep.refl _ w).drew) (fun _ _ => trivial)
theorem Own.alloc {B : Nat} {w : World} {v : Value} {x : List Int} (h : Own B w v x) (o : Obj) : Own B (w.alloc o) v x := h.keep (S := fun _ => True) ((Keep.refl _ w).alloc o) (fun _ _ => trivial)
theorem Own.cell {B : Nat} {w : World} {g n cap : Nat} {x : List Int} (h : Own B w (.slice (some ⟨g, 0, none⟩) n cap) x) {j : Nat} {a : Int} (ha : x[j]? = some a) : w.cell? ⟨g, j, none⟩ = some (.int .i64 a) ∧ w.frozen? ⟨g, j, none⟩ = false := by
  obtain ⟨ao, c, e, _⟩ := h.sl
  obtain ⟨_, rfl, _⟩ : ao = some ⟨g, 0, none⟩ ∧ n = x.length ∧ c = cap := by simpa [eq_comm] using e
  have hj : j < x.length := (List.getElem?_eq_some_iff.1 ha).1
  exact ⟨by rw [World.ownsRow.cellAt h j (by omega)]; simp [vals, ha], World.ownsRow.frozenAt h j⟩
/-- a row that was just made -/
theorem Own.made {B : Nat} (w : World) (n : Nat) (hB : B ≤ w.heap.size) (hn : n ≤ maxLen) : Own B (w.alloc (.cells (madeCells #[.int .i64 0] n) 2)) (.slice (some ⟨w.heap.size, 0, none⟩) n n) (List.replicate n 0) := by
  have := World.ownsRow_lit (base := B) (e := 2) (size := 1) w (madeCells #[.int .i64 0] n) n hB hn (by simp [madeCells])
  rw [toList_madeCells_one] at this
  unfold Own
  simpa [vals] using this

/-- a new row of numbers -/
def NewI (x : List Int) (w : World) (e : Ending) (w' : World) : Prop := ∃ v, e = .returned v ∧ Own w.heap.size w' v x ∧ Below w.heap.size w w'

theorem ret_b {a b : Bool} (h : a = b) : Ending.returned (.bool a) = .returned (.bool b) := by rw [h]
theorem ret_i {k : IntKind} {a b : Int} (h : a = b) : Ending.returned (.int k a) = .returned (.int k b) := by rw [h]
theorem ints_set (x : List Nat) (j a : Nat) : (ints x).set j (a : Int) = ints (x.set j a) := by simp [ints]
theorem ints_replicate (n : Nat) : List.replicate n (0 : Int) = ints (List.replicate n 0) := by simp [ints]
/-- a copy of a list, never nil -/
def NewS (x : List Int) (w : World) (e : Ending) (w' : World) : Prop := ∃ g cap, e = .returned (.slice (some ⟨g, 0, none⟩) x.length cap) ∧ Own w.heap.size w' (.slice (some ⟨g, 0, none⟩) x.length cap) x ∧ Below w.heap.size w w'
theorem NewS.newI {x : List Int} {w w' : World} {e : Ending} (h : NewS x w e w') : NewI x w e w' := by
  obtain ⟨g, cap, h1, h2, h3⟩ := h
  exact ⟨_, h1, h2, h3⟩
theorem Own.head {B : Nat} {w : World} {v : Value} {x : List Int} (h : Own B w v x) (hn : v ≠ .slice none 0 0) : ∃ g cap, v = .slice (some ⟨g, 0, none⟩) x.length cap := by
  rcases h.2 with ⟨rfl, h0⟩ | ⟨g, cap, cur, rfl, _⟩
  · exact absurd rfl hn
  · exact ⟨g, cap, rfl⟩

theorem Keep.drewN {S : Nat → Prop} {a w : World} (h : Keep S a w) (n : Nat) : Keep S a (w.drewN n) := h.trans (Keep.of_below (below_drewN (Below.refl _ _) n))
theorem Own.drewN {B : Nat} {w : World} {v : Value} {x : List Int} (h : Own B w v x) (n : Nat) : Own B (w.drewN n) v x := h.keep (S := fun _ => True) ((Keep.refl _ w).drewN n) (fun _ _ => trivial)
/-- what a region that draws its order keeps: every old cell, every old block -/
theorem ks_mk {wr w' : World} (h : Keep (fun _ => True) wr w') : (∀ b o, b < wr.heap.size → w'.cell? ⟨b, o, none⟩ = wr.cell? ⟨b, o, none⟩) ∧ Keep (fun _ => True) wr w' := ⟨fun b o hb => h.cell trivial hb, h⟩
theorem keep_boxed {w wr : World} {o : Obj} (hb : Below (w.heap.size + 1) (w.alloc o) wr) (S : Nat → Prop) : Keep S w wr :=
  ⟨Nat.le_trans (by simp) hb.size, fun k _ hs => (hb.block k (by omega)).trans (Below.heap_alloc w o k hs)⟩
theorem box_cells {w wr : World} {c0 c1 c2 : Value} {t : TypeId} (hb : Below (w.heap.size + 1) (w.alloc (.cells #[c0, c1, c2] t)) wr) :
    wr.cell? ⟨w.heap.size, 0, none⟩ = some c0 ∧ wr.cell? ⟨w.heap.size, 1, none⟩ = some c1 ∧ wr.cell? ⟨w.heap.size, 2, none⟩ = some c2 := by
  refine ⟨?_, ?_, ?_⟩ <;> (rw [hb.cell (by show w.heap.size < _; omega), cell_of_row _ w.heap.size _ #[c0, c1, c2] t (0, 0) (heap_alloc_new w _)]; rfl)
theorem below_unboxed {w wr : World} {o : Obj} (hb : Below (w.heap.size + 1) (w.alloc o) wr) : Below w.heap.size w wr :=
  ((Below.refl _ w).alloc (Nat.le_refl _) o).trans (hb.mono (by omega))
theorem addr_add (b o j : Nat) : (⟨b, o, none⟩ : Addr).add j = ⟨b, o + j, none⟩ := by simp [Addr.add]
theorem Own.set_n {B : Nat} {w : World} {g n cap : Nat} {x : List Nat} (h : Own B w (.slice (some ⟨g, 0, none⟩) n cap) (ints x)) (j a : Nat) :
    Own B (w.setCell ⟨g, j, none⟩ (.int .i64 (a : Int))) (.slice (some ⟨g, 0, none⟩) n cap) (ints (x.set j a)) ∧ w.grownBy (w.setCell ⟨g, j, none⟩ (.int .i64 (a : Int))) (some g) := by
  rw [← ints_set]; exact h.set j a

/-- the cells that an append takes from a slice -/
theorem SlI.src {S : Nat → Prop} {w w' : World} {ad : Addr} {n c : Nat} {l : List Int} (h : SlI S w (.slice (some ad) n c) l) (hk : Keep S w w') : ∀ j u, (vals l)[j]? = some u → w'.cell? (ad.add j) = some u := by
  intro j u hj
  obtain ⟨ao, c', e, _, _, _, hx⟩ := h
  obtain ⟨rfl, _, _⟩ : ao = some ad ∧ n = l.length ∧ c = c' := by simpa [eq_comm] using e
  simp only [vals, List.getElem?_map, Option.map_eq_some_iff] at hj
  obtain ⟨x, hj, rfl⟩ := hj
  obtain ⟨b, o, he, hb, hlt, u, hcell, rfl⟩ := hx j x hj
  obtain rfl : ad = ⟨b, o, none⟩ := Option.some.inj he
  rw [addr_add, hk.cell hb hlt]
  exact hcell
theorem vals_one (l : List Int) : ∀ u ∈ vals l, u.oneCell' = true := by intro u hu; simp only [vals, List.mem_map] at hu; obtain ⟨x, _, rfl⟩ := hu; rfl
end Go.Proofs.YtbamkklhkhglnaaGreatDoor

/-
  How slices of numbers, and slices of such slices, read in memory; and that they go on reading so where their blocks are kept.
-/
import Derived.Test.YtbamkklhkhglnaaGreatDoorTowB
import Derived.WalkKit
import Derived.Below
import Derived.Laws.OwnMore
import Derived.Lib.Hide
namespace Go.Proofs.YtbamkklhkhglnaaGreatDoor
open Go.RowKit Go.Proofs.YtbamkklhkhglnaaGreatDoor.Tow
set_option linter.unusedVariables false
set_option linter.unusedSimpArgs false

/-- the blocks of S are kept -/
structure Keep (S : Nat → Prop) (w w' : World) : Prop where
  size : w.heap.size ≤ w'.heap.size
  block : ∀ k, S k → k < w.heap.size → w'.heap[k]? = w.heap[k]?
theorem Keep.refl (S : Nat → Prop) (w : World) : Keep S w w := ⟨Nat.le_refl _, fun _ _ _ => rfl⟩
theorem Keep.trans {S : Nat → Prop} {a b c : World} (h : Keep S a b) (k : Keep S b c) : Keep S a c :=
  ⟨Nat.le_trans h.size k.size, fun i hi hs => (k.block i hi (Nat.lt_of_lt_of_le hs h.size)).trans (h.block i hi hs)⟩
theorem Keep.mono {S S' : Nat → Prop} {a b : World} (h : Keep S a b) (hS : ∀ k, S' k → S k) : Keep S' a b := ⟨h.size, fun k hk => h.block k (hS k hk)⟩
theorem Keep.below {B : Nat} {S : Nat → Prop} {a b : World} (h : Below B a b) (hS : ∀ k, S k → k < a.heap.size → k < B) : Keep S a b := ⟨h.size, fun k hk hs => h.block k (hS k hk hs)⟩
theorem Keep.of_below {S : Nat → Prop} {a b : World} (h : Below a.heap.size a b) : Keep S a b := ⟨h.size, fun k hk hs => h.block k hs⟩
theorem Keep.lt {B : Nat} {a b : World} (h : Below B a b) : Keep (· < B) a b := ⟨h.size, fun k hk hs => h.block k hk⟩
theorem Keep.grown {S : Nat → Prop} {a b : World} {row : Option Nat} (h : a.grownBy b row) (hS : ∀ k, S k → some k ≠ row) : Keep S a b := ⟨h.size, fun k hk hs => h.block k hs (hS k hk)⟩
theorem Keep.alloc {S : Nat → Prop} {a w : World} (h : Keep S a w) (o : Obj) : Keep S a (w.alloc o) :=
  h.trans ⟨by simp, fun k _ hs => Below.heap_alloc _ _ _ hs⟩
theorem Keep.drew {S : Nat → Prop} {a w : World} (h : Keep S a w) : Keep S a w.drew := ⟨h.size, h.block⟩
theorem Keep.setCell {S : Nat → Prop} {a w : World} (h : Keep S a w) {p : Addr} (hp : ¬ S p.block) (u : Value) : Keep S a (w.setCell p u) :=
  h.trans ⟨by simp [World.setCell], fun k hk _ => Below.heap_setCell _ _ _ _ (fun e => hp (e ▸ hk))⟩
theorem Keep.cell {S : Nat → Prop} {w w' : World} (h : Keep S w w') {b o : Nat} (hS : S b) (hb : b < w.heap.size) : w'.cell? ⟨b, o, none⟩ = w.cell? ⟨b, o, none⟩ :=
  World.cell?_of_block (w := w) (h.block b hS hb)

/-- a slice value reads as a list, each element by E; its cells lie in blocks of S -/
def SlG {α : Type} (E : World → Value → α → Prop) (S : Nat → Prop) (w : World) (v : Value) (l : List α) : Prop :=
  ∃ ao c, v = .slice ao l.length c ∧ l.length ≤ c ∧ c ≤ maxLen ∧ (ao = none → c = 0) ∧ ∀ i x, l[i]? = some x → ∃ b o, ao = some ⟨b, o, none⟩ ∧ S b ∧ b < w.heap.size ∧ ∃ u, w.cell? ⟨b, o + i, none⟩ = some u ∧ E w u x

theorem SlG.keep {α : Type} {E : World → Value → α → Prop} {S : Nat → Prop} {w w' : World} {v : Value} {l : List α} (h : SlG E S w v l) (hk : Keep S w w') (hE : ∀ u x, E w u x → E w' u x) : SlG E S w' v l := by
  obtain ⟨ao, c, h1, h2, h3, h0, h4⟩ := h
  refine ⟨ao, c, h1, h2, h3, h0, fun i x hx => ?_⟩
  obtain ⟨b, o, e1, e2, e3, u, e4, e5⟩ := h4 i x hx
  exact ⟨b, o, e1, e2, Nat.lt_of_lt_of_le e3 hk.size, u, by rw [hk.cell e2 e3]; exact e4, hE _ _ e5⟩
theorem SlG.mono {α : Type} {E E' : World → Value → α → Prop} {S S' : Nat → Prop} {w : World} {v : Value} {l : List α} (h : SlG E S w v l) (hS : ∀ k, S k → S' k) (hE : ∀ u x, E w u x → E' w u x) : SlG E' S' w v l := by
  obtain ⟨ao, c, h1, h2, h3, h0, h4⟩ := h
  refine ⟨ao, c, h1, h2, h3, h0, fun i x hx => ?_⟩
  obtain ⟨b, o, e1, e2, e3, u, e4, e5⟩ := h4 i x hx
  exact ⟨b, o, e1, hS _ e2, e3, u, e4, hE _ _ e5⟩

/-- a slice of integers -/
def SlI (S : Nat → Prop) (w : World) (v : Value) (l : List Int) : Prop := SlG (fun _ u x => u = .int .i64 x) S w v l
/-- slices of slices of integers -/
def Sl2 (S : Nat → Prop) (w : World) (v : Value) (l : List (List Int)) : Prop := SlG (fun w u x => SlI S w u x) S w v l
def Sl3 (S : Nat → Prop) (w : World) (v : Value) (l : List (List (List Int))) : Prop := SlG (fun w u x => Sl2 S w u x) S w v l
theorem SlI.keep {S : Nat → Prop} {w w' : World} {v : Value} {l : List Int} (h : SlI S w v l) (hk : Keep S w w') : SlI S w' v l := SlG.keep h hk (fun _ _ e => e)
theorem Sl2.keep {S : Nat → Prop} {w w' : World} {v : Value} {l : List (List Int)} (h : Sl2 S w v l) (hk : Keep S w w') : Sl2 S w' v l := SlG.keep h hk (fun _ _ e => SlI.keep e hk)
theorem Sl3.keep {S : Nat → Prop} {w w' : World} {v : Value} {l : List (List (List Int))} (h : Sl3 S w v l) (hk : Keep S w w') : Sl3 S w' v l := SlG.keep h hk (fun _ _ e => Sl2.keep e hk)
theorem SlI.mono {S S' : Nat → Prop} {w : World} {v : Value} {l : List Int} (h : SlI S w v l) (hS : ∀ k, S k → S' k) : SlI S' w v l := SlG.mono h hS (fun _ _ e => e)
theorem Sl2.mono {S S' : Nat → Prop} {w : World} {v : Value} {l : List (List Int)} (h : Sl2 S w v l) (hS : ∀ k, S k → S' k) : Sl2 S' w v l := SlG.mono h hS (fun _ _ e => SlI.mono e hS)
theorem Sl3.mono {S S' : Nat → Prop} {w : World} {v : Value} {l : List (List (List Int))} (h : Sl3 S w v l) (hS : ∀ k, S k → S' k) : Sl3 S' w v l := SlG.mono h hS (fun _ _ e => Sl2.mono e hS)

/-- natural numbers as integers -/
def ints (l : List Nat) : List Int := l.map Int.ofNat
theorem ints_length (l : List Nat) : (ints l).length = l.length := by simp [ints]
theorem ints_get (l : List Nat) (i : Nat) : (ints l)[i]? = (l[i]?).map Int.ofNat := by simp [ints]

/-- a presentation as data -/
structure Pres where
  os : List Int
  ps : List (List Int)
  cs : List (List (List Int))
/-- three slice values read as a presentation -/
structure ValP (S : Nat → Prop) (w : World) (vO vP vC : Value) (P : Pres) : Prop where
  os : SlI S w vO P.os
  ps : Sl2 S w vP P.ps
  cs : Sl3 S w vC P.cs
theorem ValP.keep {S : Nat → Prop} {w w' : World} {vO vP vC : Value} {P : Pres} (h : ValP S w vO vP vC P) (hk : Keep S w w') : ValP S w' vO vP vC P := ⟨h.os.keep hk, h.ps.keep hk, h.cs.keep hk⟩
theorem ValP.mono {S S' : Nat → Prop} {w : World} {vO vP vC : Value} {P : Pres} (h : ValP S w vO vP vC P) (hS : ∀ k, S k → S' k) : ValP S' w vO vP vC P := ⟨h.os.mono hS, h.ps.mono hS, h.cs.mono hS⟩
/-- a pointer to a presentation -/
def PtrP (S : Nat → Prop) (w : World) (b o : Nat) (P : Pres) : Prop :=
  S b ∧ b < w.heap.size ∧ ∃ vO vP vC, w.cell? ⟨b, o, none⟩ = some vO ∧ w.cell? ⟨b, o + 1, none⟩ = some vP ∧ w.cell? ⟨b, o + 2, none⟩ = some vC ∧ ValP S w vO vP vC P
theorem PtrP.keep {S : Nat → Prop} {w w' : World} {b o : Nat} {P : Pres} (h : PtrP S w b o P) (hk : Keep S w w') : PtrP S w' b o P := by
  obtain ⟨h1, h2, vO, vP, vC, c1, c2, c3, hv⟩ := h
  exact ⟨h1, Nat.lt_of_lt_of_le h2 hk.size, vO, vP, vC, by rw [hk.cell h1 h2]; exact c1, by rw [hk.cell h1 h2]; exact c2, by rw [hk.cell h1 h2]; exact c3, hv.keep hk⟩
theorem PtrP.mono {S S' : Nat → Prop} {w : World} {b o : Nat} {P : Pres} (h : PtrP S w b o P) (hS : ∀ k, S k → S' k) : PtrP S' w b o P := by
  obtain ⟨h1, h2, vO, vP, vC, c1, c2, c3, hv⟩ := h
  exact ⟨hS _ h1, h2, vO, vP, vC, c1, c2, c3, hv.mono hS⟩

/-- a tower's presentation -/
def powF : Nat → Tw → List (List Int)
  | _, [] => []
  | s, L :: T => ints (pad (s + 1) L.w) :: powF (s + 1) T
def conF : Nat → Tw → List (List (List Int))
  | _, [] => []
  | s, L :: T => L.c.map (fun y => ints (pad (s + 1) y)) :: conF (s + 1) T
def ofTw (T : Tw) : Pres := ⟨T.map (fun L => (L.o : Int)), powF 0 T, conF 0 T⟩
theorem powF_length (s : Nat) (T : Tw) : (powF s T).length = T.length := by
  induction T generalizing s with
  | nil => rfl
  | cons L T ih => simp [powF, ih]
theorem conF_length (s : Nat) (T : Tw) : (conF s T).length = T.length := by
  induction T generalizing s with
  | nil => rfl
  | cons L T ih => simp [conF, ih]
theorem powF_get (s : Nat) (T : Tw) (j : Nat) : (powF s T)[j]? = (T[j]?).map fun L => ints (pad (s + j + 1) L.w) := by
  induction T generalizing s j with
  | nil => simp [powF]
  | cons L T ih => cases j with
    | zero => simp [powF]
    | succ j => simp only [powF, List.getElem?_cons_succ, ih]; rw [show s + 1 + j + 1 = s + (j + 1) + 1 by omega]
theorem conF_get (s : Nat) (T : Tw) (j : Nat) : (conF s T)[j]? = (T[j]?).map fun L => L.c.map fun y => ints (pad (s + j + 1) y) := by
  induction T generalizing s j with
  | nil => simp [conF]
  | cons L T ih => cases j with
    | zero => simp [conF]
    | succ j => simp only [conF, List.getElem?_cons_succ, ih]; rw [show s + 1 + j + 1 = s + (j + 1) + 1 by omega]
theorem ofTw_os (T : Tw) : (ofTw T).os.length = T.length := by simp [ofTw]
theorem ofTw_ps (T : Tw) : (ofTw T).ps.length = T.length := powF_length _ _
theorem ofTw_cs (T : Tw) : (ofTw T).cs.length = T.length := conF_length _ _
theorem ofTw_os_get (T : Tw) (j : Nat) (L : Lv) (h : T[j]? = some L) : (ofTw T).os[j]? = some (L.o : Int) := by simp [ofTw, h]
theorem ofTw_ps_get (T : Tw) (j : Nat) (L : Lv) (h : T[j]? = some L) : (ofTw T).ps[j]? = some (ints (pad (j + 1) L.w)) := by
  show (powF 0 T)[j]? = _
  rw [powF_get, h]; simp
theorem ofTw_cs_get (T : Tw) (j : Nat) (L : Lv) (h : T[j]? = some L) : (ofTw T).cs[j]? = some (L.c.map fun y => ints (pad (j + 1) y)) := by
  show (conF 0 T)[j]? = _
  rw [conF_get, h]; simp
theorem ValP.open {S : Nat → Prop} {w : World} {vO vP vC : Value} {T : Tw} (h : ValP S w vO vP vC (ofTw T)) : ∃ aO cO aP cP aC cC, vO = .slice aO T.length cO ∧ vP = .slice aP T.length cP ∧ vC = .slice aC T.length cC ∧
    T.length ≤ cO ∧ T.length ≤ cP ∧ T.length ≤ cC := by
  obtain ⟨aO, cO, e1, l1, _⟩ := h.os
  obtain ⟨aP, cP, e2, l2, _⟩ := h.ps
  obtain ⟨aC, cC, e3, l3, _⟩ := h.cs
  rw [ofTw_os] at e1 l1
  rw [ofTw_ps] at e2 l2
  rw [ofTw_cs] at e3 l3
  exact ⟨aO, cO, aP, cP, aC, cC, e1, e2, e3, l1, l2, l3⟩
theorem ValP.ord {S : Nat → Prop} {w : World} {aO : Option Addr} {n cO : Nat} {vP vC : Value} {T : Tw} (h : ValP S w (.slice aO n cO) vP vC (ofTw T)) {j : Nat} {L : Lv} (hL : T[j]? = some L) :
    ∃ b o, aO = some ⟨b, o, none⟩ ∧ S b ∧ b < w.heap.size ∧ w.cell? ⟨b, o + j, none⟩ = some (.int .i64 (L.o : Int)) := by
  obtain ⟨ao, c, e, _, _, _, hx⟩ := h.os
  obtain ⟨rfl, _, _⟩ : aO = ao ∧ n = (ofTw T).os.length ∧ cO = c := by simpa using e
  obtain ⟨b, o, e1, e2, e3, u, e4, rfl⟩ := hx j _ (ofTw_os_get T j L hL)
  exact ⟨b, o, e1, e2, e3, e4⟩
theorem ValP.pow {S : Nat → Prop} {w : World} {aP : Option Addr} {n cP : Nat} {vO vC : Value} {T : Tw} (h : ValP S w vO (.slice aP n cP) vC (ofTw T)) {j : Nat} {L : Lv} (hL : T[j]? = some L) :
    ∃ b o u, aP = some ⟨b, o, none⟩ ∧ S b ∧ b < w.heap.size ∧ w.cell? ⟨b, o + j, none⟩ = some u ∧ SlI S w u (ints (pad (j + 1) L.w)) := by
  obtain ⟨ao, c, e, _, _, _, hx⟩ := h.ps
  obtain ⟨rfl, _, _⟩ : aP = ao ∧ n = (ofTw T).ps.length ∧ cP = c := by simpa using e
  obtain ⟨b, o, e1, e2, e3, u, e4, e5⟩ := hx j _ (ofTw_ps_get T j L hL)
  exact ⟨b, o, u, e1, e2, e3, e4, e5⟩
theorem ValP.con {S : Nat → Prop} {w : World} {aC : Option Addr} {n cC : Nat} {vO vP : Value} {T : Tw} (h : ValP S w vO vP (.slice aC n cC) (ofTw T)) {j : Nat} {L : Lv} (hL : T[j]? = some L) :
    ∃ b o a2 c2, aC = some ⟨b, o, none⟩ ∧ S b ∧ b < w.heap.size ∧ w.cell? ⟨b, o + j, none⟩ = some (.slice a2 L.c.length c2) ∧ L.c.length ≤ c2 ∧
      ∀ k y, L.c[k]? = some y → ∃ b2 o2 u, a2 = some ⟨b2, o2, none⟩ ∧ S b2 ∧ b2 < w.heap.size ∧ w.cell? ⟨b2, o2 + k, none⟩ = some u ∧ SlI S w u (ints (pad (j + 1) y)) := by
  obtain ⟨ao, c, e, _, _, _, hx⟩ := h.cs
  obtain ⟨rfl, _, _⟩ : aC = ao ∧ n = (ofTw T).cs.length ∧ cC = c := by simpa using e
  obtain ⟨b, o, e1, e2, e3, u, e4, e5⟩ := hx j _ (ofTw_cs_get T j L hL)
  obtain ⟨a2, c2, rfl, l2, _, _, h2⟩ := e5
  rw [List.length_map] at e4 l2
  refine ⟨b, o, a2, c2, e1, e2, e3, e4, l2, fun k y hy => ?_⟩
  obtain ⟨b2, o2, f1, f2, f3, u, f4, f5⟩ := h2 k (ints (pad (j + 1) y)) (by simp [hy])
  exact ⟨b2, o2, u, f1, f2, f3, f4, f5⟩
theorem SlI.at {S : Nat → Prop} {w : World} {a : Option Addr} {n c : Nat} {x : List Nat} (h : SlI S w (.slice a n c) (ints x)) {j q : Nat} (hq : x[j]? = some q) :
    ∃ b o, a = some ⟨b, o, none⟩ ∧ S b ∧ b < w.heap.size ∧ w.cell? ⟨b, o + j, none⟩ = some (.int .i64 (q : Int)) := by
  obtain ⟨ao, c', e, _, _, _, hx⟩ := h
  obtain ⟨rfl, _, _⟩ : a = ao ∧ n = (ints x).length ∧ c = c' := by simpa using e
  obtain ⟨b, o, e1, e2, e3, u, e4, rfl⟩ := hx j (q : Int) (by rw [ints_get, hq]; rfl)
  exact ⟨b, o, e1, e2, e3, e4⟩
theorem SlI.open {S : Nat → Prop} {w : World} {v : Value} {x : List Nat} (h : SlI S w v (ints x)) : ∃ a c, v = .slice a x.length c ∧ x.length ≤ c := by
  obtain ⟨a, c, e, l, _⟩ := h
  rw [ints_length] at e l
  exact ⟨a, c, e, l⟩
end Go.Proofs.YtbamkklhkhglnaaGreatDoor

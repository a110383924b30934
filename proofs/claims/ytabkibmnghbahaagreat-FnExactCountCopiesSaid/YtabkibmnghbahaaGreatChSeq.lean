import Derived.Test.YtabkibmnghbahaaGreatOwn2
import Derived.ArgAppend
import Derived.Deep.AppendLies
import Derived.Test.YtabkibmnghbahaaGreatImplG
import Derived.Test.YtabkibmnghbahaaGreatSpecMO
import Derived.Laws.Cover3
import Derived.Test.YtabkibmnghbahaaGreatSpecP
import Derived.Laws.AppendOwnNone
import Derived.Test.YtabkibmnghbahaaGreatLawA
/-
  A slice that starts anywhere in a block of its own (what q[1:] leaves of a queue): what it holds, and an element more.
-/
namespace Go.Proofs.YtabkibmnghbahaaGreat
open Go.RowKit
set_option linter.unusedVariables false
set_option linter.unusedSimpArgs false

/-- the cells of a slice; where it has capacity they lie in block g, anywhere -/
def Win (e : TypeId) (w : World) (g : Nat) (v : Value) (xs : List Value) : Prop :=
  ∃ ao c, v = .slice ao xs.length c ∧ xs.length ≤ c ∧ c ≤ maxLen ∧ (0 < c → ∃ off cur, ao = some ⟨g, off, none⟩ ∧ w.heap[g]? = some (.cells cur e (0, 0)) ∧ cur.size = off + c ∧ ∀ (i : Nat) u, xs[i]? = some u → cur[off + i]? = some u)
theorem Win.keep {e : TypeId} {w w' : World} {g : Nat} {v : Value} {xs : List Value} {S : Nat → Prop} (h : Win e w g v xs) (hk : Keep S w w') (hS : S g) : Win e w' g v xs := by
  obtain ⟨ao, c, h1, h2, h3, h4⟩ := h
  refine ⟨ao, c, h1, h2, h3, fun hc => ?_⟩
  obtain ⟨off, cur, e1, e2, e3, e4⟩ := h4 hc
  exact ⟨off, cur, e1, by rw [hk.block g hS (Array.getElem?_eq_some_iff.1 e2).1]; exact e2, e3, e4⟩
theorem Win.of_own {B : Nat} {e : TypeId} {w : World} {g n c : Nat} {xs : List Value} (h : w.ownsRow B e 1 (.slice (some ⟨g, 0, none⟩) n c) n xs) : Win e w g (.slice (some ⟨g, 0, none⟩) n c) xs := by
  have hl := h.1
  rcases h.2 with ⟨h, _⟩ | ⟨g', cap, cur, h, hb, hgg, hn, hm, hs, ht⟩
  · simp at h
  · obtain ⟨rfl, rfl⟩ : g = g' ∧ c = cap := by simpa using h
    refine ⟨_, c, by rw [hl, Nat.mul_one], by omega, hm, fun _ => ⟨0, cur, rfl, hgg, by omega, fun i u hu => ?_⟩⟩
    rw [← ht, List.getElem?_take] at hu
    split at hu
    · simpa using hu
    · simp at hu
theorem Win.empty (e : TypeId) (w : World) (g : Nat) (ao : Option Addr) : Win e w g (.slice ao 0 0) [] := ⟨ao, 0, rfl, Nat.le_refl _, Nat.zero_le _, fun h => absurd h (Nat.lt_irrefl _)⟩
theorem Win.cell {e : TypeId} {w : World} {g : Nat} {v : Value} {xs : List Value} (h : Win e w g v xs) {i : Nat} {u : Value} (hu : xs[i]? = some u) :
    ∃ off c, v = .slice (some ⟨g, off, none⟩) xs.length c ∧ xs.length ≤ c ∧ c ≤ maxLen ∧ g < w.heap.size ∧ w.cell? ⟨g, off + i, none⟩ = some u := by
  obtain ⟨ao, c, h1, h2, h3, h4⟩ := h
  have hi := (List.getElem?_eq_some_iff.1 hu).1
  obtain ⟨off, cur, rfl, e2, e3, e4⟩ := h4 (by omega)
  exact ⟨off, c, h1, h2, h3, (Array.getElem?_eq_some_iff.1 e2).1, by rw [cell_of_row w g _ cur e (0, 0) e2]; exact e4 i u hu⟩
theorem Win.form {e : TypeId} {w : World} {g : Nat} {v : Value} {xs : List Value} (h : Win e w g v xs) : ∃ ao c, v = .slice ao xs.length c ∧ xs.length ≤ c ∧ c ≤ maxLen := by
  obtain ⟨ao, c, h1, h2, h3, _⟩ := h
  exact ⟨ao, c, h1, h2, h3⟩
/-- the rest behind the first element -/
theorem Win.rest {e : TypeId} {w : World} {g off m c : Nat} {u : Value} {xs : List Value} (h : Win e w g (.slice (some ⟨g, off, none⟩) m c) (u :: xs)) (hm : m = xs.length + 1) :
    Win e w g (.slice (some ⟨g, off + 1, none⟩) xs.length (c - 1)) xs ∧ (c = 1 → ∀ o', Win e w g (.slice (some ⟨g, o', none⟩) xs.length (c - 1)) xs) := by
  obtain ⟨ao, c', h1, h2, h3, h4⟩ := h
  obtain ⟨rfl, _, rfl⟩ : some ⟨g, off, none⟩ = ao ∧ m = (u :: xs).length ∧ c = c' := by simpa using h1
  rw [List.length_cons] at h2
  obtain ⟨off', cur, e1, e2, e3, e4⟩ := h4 (by omega)
  obtain rfl : off = off' := by simpa using e1
  refine ⟨⟨_, c - 1, rfl, by omega, by omega, fun _ => ⟨off + 1, cur, rfl, e2, by omega, fun i x hx => ?_⟩⟩, fun hc o' => ⟨_, c - 1, rfl, by omega, by omega, fun h => by omega⟩⟩
  have := e4 (i + 1) x (by simpa using hx)
  rwa [show off + 1 + i = off + (i + 1) by omega]

section
variable {P : Program}
/-- one element more -/
theorem run_append_win (w : World) (t ty : TypeId) (e : TypeId) (i : TypeInfo) (z : Value) (bytes : Nat) (ht : P.underlying t = some (.slice e)) (hi : P.info? e = some i) (hz : i.zero = some z)
    (hsize : i.size = 1) (hby : i.bytes = bytes) (hzs : z.cells.size = 1) (g : Nat) (v : Value) (xs : List Value) (h : Win e w g v xs) (ad : Addr) (c0 : Nat) (u : Value) (hu : w.cell? ad = some u) (h1 : u.oneCell' = true)
    (h63 : xs.length + 1 ≤ maxLen) (hbytes : (xs.length + 1) * bytes ≤ 140737488355328) :
    ∃ g' v' w', (Builtin.append_ #[t, t] ty #[v, .slice (some ad) 1 c0]).run P w = .ok v' w' ∧ Win e w' g' v' (xs ++ [u]) ∧ w.grownBy w' (some g) ∧ (g' = g ∨ w.heap.size ≤ g') := by
  obtain ⟨ao, c, rfl, h2, h3, h4⟩ := h
  have hnews : ∀ j x, [u][j]? = some x → w.cell? (ad.add j) = some x := fun j x hj => by
    match j, hj with
    | 0, hj =>
      simp at hj; subst hj
      have : ad.add 0 = ad := by unfold Addr.add; split <;> simp_all
      rw [this]; exact hu
  have h1' : ∀ x ∈ [u], x.oneCell' = true := fun x hx => by rw [List.mem_singleton.1 hx]; exact h1
  have fresh : ∀ v' w', w'.ownsRow w.heap.size e 1 v' (xs.length + 1) (xs ++ [u]) → w.grownBy w' none → ((Builtin.append_ #[t, t] ty #[.slice ao xs.length c, .slice (some ad) 1 c0]).run P w = .ok v' w') → (∀ k, v'.ownBlock = some k → w.heap.size ≤ k) →
      ∃ g' v' w', (Builtin.append_ #[t, t] ty #[.slice ao xs.length c, .slice (some ad) 1 c0]).run P w = .ok v' w' ∧ Win e w' g' v' (xs ++ [u]) ∧ w.grownBy w' (some g) ∧ (g' = g ∨ w.heap.size ≤ g') := by
    intro v' w' ho hg hr hk
    obtain ⟨g', cap, rfl, hb, hlt⟩ := ho.form (by omega)
    have : w.heap.size ≤ g' := hk g' rfl
    exact ⟨g', _, w', hr, Win.of_own ho, ⟨hg.os, hg.tape, hg.output, hg.size, fun k hk _ => hg.block k hk (by simp)⟩, .inr this⟩
  by_cases hroom : xs.length + 1 ≤ c
  · obtain ⟨off, cur, rfl, e2, e3, e4⟩ := h4 (by omega)
    have hcell : ∀ j, w.cell? ⟨g, j, none⟩ = cur[j]? := fun j => cell_of_row w g j cur e (0, 0) e2
    have hrun := run_append_room_cells (P := P) w t ty e i ht hi g off xs.length c ad 1 c0 [u] (by rw [hsize]; rfl) hnews h1' hroom
      (fun j hj => by
        simp at hj; subst hj
        rw [hsize, hcell, Array.getElem?_eq_getElem (by omega)]; rfl)
      (fun j hj => by simp [World.frozen?, e2])
    have hset : w.setCells g (off + xs.length * i.size) [u] = w.setCell ⟨g, off + xs.length, none⟩ u := by rw [hsize, Nat.mul_one]; rfl
    rw [hset] at hrun
    refine ⟨g, _, _, hrun, ⟨_, c, by simp, by simpa using hroom, h3, fun _ => ⟨off, cur.set! (off + xs.length) u, rfl, heap_setCell_same w g _ cur e u e2, by simpa using e3, fun j x hx => ?_⟩⟩, ?_, .inl rfl⟩
    · rcases Nat.lt_or_ge j xs.length with hj | hj
      · rw [List.getElem?_append_left hj] at hx
        rw [Array.set!_eq_setIfInBounds, Array.getElem?_setIfInBounds_ne (by omega)]
        exact e4 j x hx
      · rw [List.getElem?_append_right hj] at hx
        obtain rfl : j = xs.length := by
          have := (List.getElem?_eq_some_iff.1 hx).1
          simp at this; omega
        simp at hx; subst hx
        rw [Array.set!_eq_setIfInBounds, Array.getElem?_setIfInBounds_self_of_lt (by omega)]
    · exact ⟨rfl, rfl, rfl, by simp [World.setCell], fun k hk hne => heap_setCell_other w _ k u (fun e => hne (by rw [e]))⟩
  · cases ao with
    | none =>
      have hc0 : c = 0 := by
        rcases Nat.eq_zero_or_pos c with h | h
        · exact h
        · obtain ⟨_, _, h, _⟩ := h4 h; simp at h
      subst hc0
      obtain rfl : xs = [] := List.eq_nil_of_length_eq_zero (by omega)
      obtain ⟨v', w', hr, r1, r2, _⟩ := run_append_own (P := P) w w.heap.size t ty e i z 1 bytes ht hi hz hsize hby hzs (by omega) (.slice none 0 0) 0 [] (World.ownsRow_nil w _ e 1) ad 1 c0 [u] rfl hnews h1' h63 hbytes (Nat.le_refl _)
      exact fresh v' w' r1 ⟨r2.os, r2.tape, r2.output, r2.size, fun k hk _ => r2.block k hk (by simp [Value.ownBlock])⟩ hr fun k hk => (r1.lt k hk).1
    | some a' =>
      have holds : ∀ j x, xs[j]? = some x → w.cell? (a'.add j) = some x := fun j x hx => by
        have hj := (List.getElem?_eq_some_iff.1 hx).1
        obtain ⟨off, cur, ha, e2, e3, e4⟩ := h4 (by omega)
        obtain rfl : a' = ⟨g, off, none⟩ := by simpa using ha
        rw [addr_add, cell_of_row w g _ cur e (0, 0) e2]
        exact e4 j x hx
      obtain ⟨v', w', hr, r1, r2⟩ := run_append_arg_grows (P := P) w t ty e i z 1 bytes ht hi hz hsize hby hzs (by omega) a' xs.length c xs (by omega) holds ad 1 c0 [u] rfl hnews (by omega) h63 hbytes
      exact fresh v' w' r1 r2 hr fun k hk => (r1.lt k hk).1
theorem wp_append_win (w : World) {o : Oper} {a : Act} {K : Act → World → Prop} {Q : Exit → Act → World → Prop} (s x : Operand) (t : TypeId) (ho : o.op = .call { callee := .builtin .append, args := #[s, x], argTypes := #[t, t] }) (e : TypeId) (i : TypeInfo) (z : Value) (bytes : Nat) (ht : P.underlying t = some (.slice e)) (hi : P.info? e = some i) (hz : i.zero = some z)
    (hsize : i.size = 1) (hby : i.bytes = bytes) (hzs : z.cells.size = 1) (g : Nat) (v : Value) (xs : List Value) (hs : a.eval s = v) (h : Win e w g v xs) (ad : Addr) (c0 : Nat) (u : Value) (hx : a.eval x = .slice (some ad) 1 c0) (hu : w.cell? ad = some u) (h1 : u.oneCell' = true)
    (h63 : xs.length + 1 ≤ maxLen) (hbytes : (xs.length + 1) * bytes ≤ 140737488355328)
    (hK : ∀ g' v' w', Win e w' g' v' (xs ++ [u]) → w.grownBy w' (some g) → (g' = g ∨ w.heap.size ≤ g') → K (a.put o.dst v') w') : o.wp P a w K Q := by
  obtain ⟨g', v', w', hr, h2, h3, h4⟩ := run_append_win (P := P) w t o.type e i z bytes ht hi hz hsize hby hzs g v xs h ad c0 u hu h1 h63 hbytes
  unfold Oper.wp execOp
  simp only [ho, resolve, invoke, builtin, Sem.run_bind, Sem.run_pure, Result.andThen_ok, List.map_toArray, List.map_cons, List.map_nil, hs, hx, hr]
  exact hK g' v' w' h2 h3 h4
theorem wpList_append_win (w : World) {ops : Array Oper} {rest : List Oper} {o : Oper} {a : Act} {Q : Exit → Act → World → Prop} (hgd : o.guard = none) (s x : Operand) (t : TypeId) (ho : o.op = .call { callee := .builtin .append, args := #[s, x], argTypes := #[t, t] }) (e : TypeId) (i : TypeInfo) (z : Value) (bytes : Nat) (ht : P.underlying t = some (.slice e)) (hi : P.info? e = some i) (hz : i.zero = some z)
    (hsize : i.size = 1) (hby : i.bytes = bytes) (hzs : z.cells.size = 1) (g : Nat) (v : Value) (xs : List Value) (hs : a.eval s = v) (h : Win e w g v xs) (ad : Addr) (c0 : Nat) (u : Value) (hx : a.eval x = .slice (some ad) 1 c0) (hu : w.cell? ad = some u) (h1 : u.oneCell' = true)
    (h63 : xs.length + 1 ≤ maxLen) (hbytes : (xs.length + 1) * bytes ≤ 140737488355328)
    (hK : ∀ g' v' w', Win e w' g' v' (xs ++ [u]) → w.grownBy w' (some g) → (g' = g ∨ w.heap.size ≤ g') → wpList P ops Q rest (a.put o.dst v') w') : wpList P ops Q (o :: rest) a w :=
  wpList_plain hgd fun _ hK' => wp_append_win w s x t ho e i z bytes ht hi hz hsize hby hzs g v xs hs h ad c0 u hx hu h1 h63 hbytes fun g' v' w' h2 h3 h4 => hK' _ _ (hK g' v' w' h2 h3 h4)
theorem step_append_win (w : World) {ops : Array Oper} {o : Oper} {a : Act} {K : Act → World → Prop} {Q : Exit → Act → World → Prop} {E : Prop} (hgd : o.guard = none) (s x : Operand) (t : TypeId) (ho : o.op = .call { callee := .builtin .append, args := #[s, x], argTypes := #[t, t] }) (e : TypeId) (i : TypeInfo) (z : Value) (bytes : Nat) (ht : P.underlying t = some (.slice e)) (hi : P.info? e = some i) (hz : i.zero = some z)
    (hsize : i.size = 1) (hby : i.bytes = bytes) (hzs : z.cells.size = 1) (g : Nat) (v : Value) (xs : List Value) (hs : a.eval s = v) (h : Win e w g v xs) (ad : Addr) (c0 : Nat) (u : Value) (hx : a.eval x = .slice (some ad) 1 c0) (hu : w.cell? ad = some u) (h1 : u.oneCell' = true)
    (h63 : xs.length + 1 ≤ maxLen) (hbytes : (xs.length + 1) * bytes ≤ 140737488355328)
    (hK : ∀ g' v' w', Win e w' g' v' (xs ++ [u]) → w.grownBy w' (some g) → (g' = g ∨ w.heap.size ≤ g') → K (a.put o.dst v') w') :
    if Region.wanted o (yielded ops a.tmps) = true then Oper.wp P o a w K Q else E := by
  have hw : Region.wanted o (yielded ops a.tmps) = true := by simp [Region.wanted, hgd]
  rw [if_pos hw]
  exact wp_append_win w s x t ho e i z bytes ht hi hz hsize hby hzs g v xs hs h ad c0 u hx hu h1 h63 hbytes hK
end
end Go.Proofs.YtabkibmnghbahaaGreat

/-
  impl.depthOf, impl.residue, impl.inverseMod, spec.l01Zero.
-/
namespace Go.Proofs.YtabkibmnghbahaaGreat.ChA
open Go.RowKit Go.Proofs.YtabkibmnghbahaaGreat Go.Proofs.YtabkibmnghbahaaGreat.Tow Go.Proofs.YtabkibmnghbahaaGreat.SpecB Go.Proofs.YtabkibmnghbahaaGreat.GenM
set_option linter.unusedVariables false
set_option linter.unusedSimpArgs false

def BoR (p : Prop) (w : World) (e : Ending) (w' : World) : Prop := ∃ b : Bool, e = .returned (.bool b) ∧ (b = true ↔ p) ∧ w = w'
set_option maxHeartbeats 1000000 in
theorem depthOf_any (w : World) (v : Value) (x : List Nat) (hv : SlI Any w v (ints x)) :
    Calls Tryz.prog 83 #[v] w fun e w' => e = .returned (.int .i64 (dep x : Int)) ∧ w = w' := by
  have hm : (x.length : Int) ≤ 9223372036854775807 := by
    obtain ⟨_, _, _, h1, h2, _⟩ := hv
    rw [ints_length] at h1
    unfold maxLen at h2
    omega
  obtain ⟨aX, cX, rfl, _⟩ := hv.open
  have HV := Lib.hid hv
  clear hv
  go_enter Tryz.func83, Tryz.ntmps83
  go_wp2_with fail
  go_loop [7] (fun iv => ∃ k : Nat, k ≤ x.length ∧ iv = .int .i64 (k : Int) ∧ Hid (∀ j, j < k → x[j]? = some 0)) (fun iv => x.length - (intOf iv).toNat)
  case atStart => exact ⟨0, Nat.zero_le _, rfl, Lib.hid (fun j h => absurd h (Nat.not_lt_zero _))⟩
  case round =>
    obtain ⟨k, hk, rfl, hR⟩ := hrel
    by_cases hlt : k < x.length
    · obtain ⟨a, ha⟩ : ∃ a, x[k]? = some a := ⟨_, List.getElem?_eq_getElem hlt⟩
      obtain ⟨b, o, rfl, _, hb, hc⟩ := HV.out.at ha
      by_cases h0 : a = 0
      · subst h0
        have HN := Lib.hid (show ∀ j, j < k + 1 → x[j]? = some 0 from fun j hj => by
          rcases Nat.lt_succ_iff_lt_or_eq.1 hj with h | h
          · exact hR.out j h
          · rw [h]; exact ha)
        clear ha hR
        go_wp2_with fail
        go_round
        case rel => exact ⟨k + 1, by omega, by go_num, HN⟩
        case measure => simp [intOf]; omega
      · have hne : ((a : Int) != 0) = true := by simp; omega
        have HE := Lib.hid (show dep x = k from dep_is x k hR.out (fun a' ha' => by rw [ha] at ha'; cases ha'; exact h0) hk)
        clear ha hR h0
        go_wp2_with fail
        go_ret
        exact ⟨by rw [HE.out]; rfl, rfl⟩
    · obtain rfl : k = x.length := by omega
      have HE := Lib.hid (show dep x = x.length from dep_is x _ hR.out (fun a ha => by have := (List.getElem?_eq_some_iff.1 ha).1; omega) hk)
      clear hR
      go_wp2_with fail
      go_ret
      exact ⟨by rw [HE.out]; rfl, rfl⟩

set_option maxHeartbeats 1000000 in
theorem zero_any (w : World) (v : Value) (x : List Nat) (hv : SlI Any w v (ints x)) :
    Calls Tryz.prog 198 #[v] w (BoR (dep x = x.length) w) := by
  have hm : (x.length : Int) ≤ 9223372036854775807 := by
    obtain ⟨_, _, _, h1, h2, _⟩ := hv
    rw [ints_length] at h1
    unfold maxLen at h2
    omega
  obtain ⟨aX, cX, rfl, _⟩ := hv.open
  have HV := Lib.hid hv
  clear hv
  go_enter Tryz.func198, Tryz.ntmps198
  go_wp2_with fail
  go_loop [3] (fun iv => ∃ k : Nat, k ≤ x.length ∧ iv = .int .i64 (k : Int) ∧ Hid (∀ j, j < k → x[j]? = some 0)) (fun iv => x.length - (intOf iv).toNat)
  case atStart => exact ⟨0, Nat.zero_le _, rfl, Lib.hid (fun j h => absurd h (Nat.not_lt_zero _))⟩
  case round =>
    obtain ⟨k, hk, rfl, hR⟩ := hrel
    by_cases hlt : k < x.length
    · obtain ⟨a, ha⟩ : ∃ a, x[k]? = some a := ⟨_, List.getElem?_eq_getElem hlt⟩
      obtain ⟨b, o, rfl, _, hb, hc⟩ := HV.out.at ha
      by_cases h0 : a = 0
      · subst h0
        have HN := Lib.hid (show ∀ j, j < k + 1 → x[j]? = some 0 from fun j hj => by
          rcases Nat.lt_succ_iff_lt_or_eq.1 hj with h | h
          · exact hR.out j h
          · rw [h]; exact ha)
        clear ha hR
        go_wp2_with fail
        go_round
        case rel => exact ⟨k + 1, by omega, by go_num, HN⟩
        case measure => simp [intOf]; omega
      · have hne : ((a : Int) != 0) = true := by simp; omega
        have HE := Lib.hid (show dep x = k from dep_is x k hR.out (fun a' ha' => by rw [ha] at ha'; cases ha'; exact h0) hk)
        clear ha hR h0
        go_wp2_with fail
        go_ret
        exact ⟨false, rfl, ⟨fun h => Bool.noConfusion h, fun h => by have := HE.out; omega⟩, rfl⟩
    · obtain rfl : k = x.length := by omega
      have HE := Lib.hid (show dep x = x.length from dep_is x _ hR.out (fun a ha => by have := (List.getElem?_eq_some_iff.1 ha).1; omega) hk)
      clear hR
      go_wp2_with fail
      go_ret
      exact ⟨true, rfl, ⟨fun _ => HE.out, fun _ => rfl⟩, rfl⟩

/-- the steps of Euclid's way -/
def eu (m a : Int) : Nat → Int × Int × Int × Int
  | 0 => (m, a, 0, 1)
  | j + 1 => match eu m a j with
    | (r, n, x, y) => if n = 0 then (r, n, x, y) else (n, r - r.tdiv n * n, y, x - r.tdiv n * y)
theorem residue_any (x m : Int) (hm : 0 < m) (h1 : m ≤ 1000) (hx : -1000 ≤ x) (hx2 : x ≤ 1000) (w : World) :
    Calls Tryz.prog 125 #[.int .i64 x, .int .i64 m] w fun e w' => e = .returned (.int .i64 (x % m)) ∧ w = w' := by
  have hne : m ≠ 0 := by omega
  have hb : -m < x.tmod m ∧ x.tmod m < m := by
    have h3 := Int.tmod_lt_of_pos x hm
    have h4 : -m < x.tmod m := by
      exact Int.lt_tmod_of_pos x hm
    exact ⟨h4, h3⟩
  have hE : x.tmod m % m = x % m := by rw [Int.tmod_def, Int.sub_eq_add_neg, ← Int.mul_neg, Int.add_mul_emod_self_left]
  have hE2 : (x.tmod m + m).tmod m = x % m := by rw [Int.tmod_eq_emod_of_nonneg (by omega), Int.add_emod_right, hE]
  have hw : IntKind.i64.wrap (x.tmod m + m) = x.tmod m + m := IntWalk.i64_in _ (by omega)
  go_enter Tryz.func125, Tryz.ntmps125
  go_wp2_with fail
  go_ret
  exact ⟨ret_i (by first | (simp; done) | (simp; exact hE) | exact hE2), rfl⟩
/-- one step is in order, in small numbers -/
def euB (m a : Int) (j : Nat) : Bool := match eu m a j with
  | (r, n, x, y) => decide (-1000 ≤ r ∧ r ≤ 1000) && decide (0 ≤ n ∧ n ≤ 1000) && decide (-1000 ≤ x ∧ x ≤ 1000) && decide (-1000 ≤ y ∧ y ≤ 1000) &&
    (if n = 0 then decide (r = 1) && decide (a * (x % m) % m = 1)
     else decide (-1000 ≤ r.tdiv n ∧ r.tdiv n ≤ 1000) && decide (-1000 ≤ r.tdiv n * n ∧ r.tdiv n * n ≤ 1000) && decide (-1000 ≤ r.tdiv n * y ∧ r.tdiv n * y ≤ 1000) && decide (0 ≤ r - r.tdiv n * n ∧ r - r.tdiv n * n < n) && decide (j < 6))
theorem eu_all : ([2, 3, 5, 7].all fun m => (List.range m).all fun a => a == 0 || (List.range 7).all fun j => euB (m : Nat) (a : Nat) j) = true := by decide +kernel
theorem eu_ok {m a : Nat} (hm : m = 2 ∨ m = 3 ∨ m = 5 ∨ m = 7) (h0 : 0 < a) (h : a < m) (j : Nat) (hj : j ≤ 6) : euB m a j = true := by
  have h1 := List.all_eq_true.1 eu_all m (by simp; omega)
  have h2 := List.all_eq_true.1 h1 a (List.mem_range.2 h)
  rw [Bool.or_eq_true] at h2
  rcases h2 with h2 | h2
  · simp at h2; omega
  · exact List.all_eq_true.1 h2 j (List.mem_range.2 (by omega))
def InvR (m a : Nat) (w : World) (e : Ending) (w' : World) : Prop := ∃ c : Nat, e = .returned (.tuple #[.int .i64 (c : Int), .bool true]) ∧ c < m ∧ a * c % m = 1 ∧ w = w'

set_option maxRecDepth 100000 in
set_option maxHeartbeats 1000000 in
theorem inverseMod_any (m a : Nat) (hm : m = 2 ∨ m = 3 ∨ m = 5 ∨ m = 7) (h0 : 0 < a) (h : a < m) (w : World) :
    Calls Tryz.prog 84 #[.int .i64 (a : Int), .int .i64 (m : Int)] w (InvR m a w) := by
  have HOK := Lib.hid (fun j hj => eu_ok hm h0 h j hj)
  have hm7 : m ≤ 7 := by omega
  have hm0 : 0 < m := by omega
  have HRES := Lib.hid (fun (x : Int) hx hx2 W => residue_any x m (by omega) (by omega) hx hx2 W)
  clear hm h0 h
  go_enter Tryz.func84, Tryz.ntmps84
  go_wp2_with fail
  go_loop [6, 7, 8, 9] (fun rv nv xv yv => ∃ (j : Nat) (r n x y : Int), j ≤ 6 ∧ rv = .int .i64 r ∧ nv = .int .i64 n ∧ xv = .int .i64 x ∧ yv = .int .i64 y ∧ Hid (eu m a j = (r, n, x, y))) (fun _ nv _ _ => (intOf nv).toNat)
  case atStart => exact ⟨0, _, _, _, _, Nat.zero_le _, rfl, rfl, rfl, rfl, Lib.hid rfl⟩
  case round =>
    obtain ⟨j, r, n, x, y, hj, rfl, rfl, rfl, rfl, hS⟩ := hrel
    have hb := HOK.out j hj
    unfold euB at hb
    rw [hS.out] at hb
    simp only [Bool.and_eq_true, decide_eq_true_eq] at hb
    obtain ⟨⟨⟨⟨hr, hn⟩, hx⟩, hy⟩, hrest⟩ := hb
    by_cases hn0 : n = 0
    · subst hn0
      rw [if_pos rfl] at hrest
      simp only [Bool.and_eq_true, decide_eq_true_eq] at hrest
      obtain ⟨rfl, hinv⟩ := hrest
      have hpm : 0 ≤ x % (m : Int) ∧ x % (m : Int) < (m : Int) := ⟨Int.emod_nonneg _ (by omega), Int.emod_lt_of_pos _ (by omega)⟩
      obtain ⟨c, hc⟩ : ∃ c : Nat, x % (m : Int) = (c : Int) := ⟨(x % (m : Int)).toNat, by omega⟩
      have HR := Lib.hid (show InvR m a w (.returned (.tuple #[.int .i64 (c : Int), .bool true])) w from ⟨c, rfl, by omega, by
        rw [hc] at hinv
        exact_mod_cast hinv, rfl⟩)
      have HC := Lib.hid (HRES.out x hx.1 hx.2 w)
      rw [hc] at HC
      clear hinv hpm hc hr hn hx hy
      go_wp2_with fail
      refine HC.out.mono ?_
      rintro e w1 ⟨rfl, rfl⟩
      go_wp2_with fail
      exact bodyPost_ret (v := .tuple #[.int .i64 (c : Int), .bool true]) (by simp [results, Tryz.results84, go_sem]) rfl HR.out
    · rw [if_neg hn0] at hrest
      simp only [Bool.and_eq_true, decide_eq_true_eq] at hrest
      obtain ⟨⟨⟨⟨hq, hqn⟩, hqy⟩, hnn⟩, hj6⟩ := hrest
      have hne : (n != 0) = true := by simpa using hn0
      have HN := Lib.hid (show eu m a (j + 1) = (n, r - r.tdiv n * n, y, x - r.tdiv n * y) by rw [eu, hS.out]; exact if_neg hn0)
      obtain ⟨q, hqq⟩ : ∃ q, r.tdiv n = q := ⟨_, rfl⟩
      rw [hqq] at hq hqn hqy hnn HN
      have w1 : IntKind.i64.wrap (q * n) = q * n := IntWalk.i64_in _ (by omega)
      have w2 : IntKind.i64.wrap (q * y) = q * y := IntWalk.i64_in _ (by omega)
      have w3 : IntKind.i64.wrap (r - q * n) = r - q * n := IntWalk.i64_in _ (by omega)
      have w4 : IntKind.i64.wrap (x - q * y) = x - q * y := IntWalk.i64_in _ (by omega)
      have w5 : IntKind.i64.wrap q = q := IntWalk.i64_in _ (by omega)
      have hn63 : ¬ n = 0 := hn0
      obtain ⟨qn, hqn2⟩ : ∃ qn, q * n = qn := ⟨_, rfl⟩
      obtain ⟨qy, hqy2⟩ : ∃ qy, q * y = qy := ⟨_, rfl⟩
      rw [hqn2] at hqn hnn w1 w3 HN
      rw [hqy2] at hqy w2 w4 HN
      clear hS
      go_wp2_with fail
      go_round
      case rel => exact ⟨j + 1, n, r - qn, y, x - qy, by omega, rfl, by first | rfl | simp [*], rfl, by first | rfl | simp [*], HN⟩
      case measure => simp [intOf, *]; omega
end Go.Proofs.YtabkibmnghbahaaGreat.ChA

/-
  impl.commutator.
-/
namespace Go.Proofs.YtabkibmnghbahaaGreat.ChB
open Go.RowKit Go.Proofs.YtabkibmnghbahaaGreat Go.Proofs.YtabkibmnghbahaaGreat.Tow Go.Proofs.YtabkibmnghbahaaGreat.SpecB Go.Proofs.YtabkibmnghbahaaGreat.GenC
set_option linter.unusedVariables false
set_option linter.unusedSimpArgs false

theorem com_is {T : Tw} (hT : Wf T) (hg : Tow.Good T) {x y u z : List Nat} (hx : El T x) (hy : El T y) (hu : El T u) (hz : El T z) (h1 : mul T x u = Tow.one T) (h2 : mul T y z = mul T x y) : mul T u z = Gen.com (mul T) (vinv T) x y := by
  have G := grp hT hg
  have hyx := El_mul hT hy hx
  have hv := vinv_spec hT hg hyx
  unfold Gen.com
  refine G.cancelL hyx (El_mul hT hu hz) (El_mul hT hv.1 (El_mul hT hx hy)) ?_
  rw [← G.as hyx hv.1 (El_mul hT hx hy), hv.2.1, G.eL (El_mul hT hx hy), G.as hy hx (El_mul hT hu hz), ← G.as hx hu hz, h1, G.eL hz, h2]

set_option maxHeartbeats 1000000 in
theorem commutator_any (T : Tw) (hT : Wf T) (hs : Small T) (hg : Tow.Good T) (w : World) (b o : Nat) (va vc : Value) (x y : List Nat) (hP : PtrP Any w b o (ofTw T)) (ha : SlI Any w va (ints x)) (hn : ImplD.NN va) (hb : SlI Any w vc (ints y)) (hnc : ImplD.NN vc) (hx : El T x) (hy : El T y) :
    Calls Tryz.prog 85 #[.pointer (some ⟨b, o, none⟩), va, vc] w (NewS (ints (Gen.com (mul T) (vinv T) x y)) w) := by
  have HC1 := Lib.hid (ImplF.invert_any T hT hs 0 (Nat.zero_le _) hg w b o va x hP ha hn hx)
  have HC2 := Lib.hid (fun W (hb' : Below w.heap.size w W) => ImplG.conjugate_any T hT hs 0 (Nat.zero_le _) hg W b o va vc x y (hP.keep (Keep.of_below hb')) (ha.keep (Keep.of_below hb')) hn (hb.keep (Keep.of_below hb')) hnc hx hy)
  have HC3 := Lib.hid (fun W vu vz u z hp h1 h2 h3 h4 h5 => ImplD.multiply_any T hT hs 0 (Nat.zero_le _) hg W b o vu vz u z hp h1 h2 h3 h4 h5)
  have HP := Lib.hid hP
  have HCI := Lib.hid (fun u z hu hz h1 h2 => com_is hT hg hx hy (u := u) (z := z) hu hz h1 h2)
  clear hP ha hb hn hnc hx hy
  go_enter Tryz.func85, Tryz.ntmps85
  go_wp2_with fail
  refine HC1.out.mono ?_
  rintro e w1 ⟨u, ⟨hu, h1⟩, g1, c1, rfl, ho1, hb1⟩
  have HB1 := Lib.hid hb1
  have HU := Lib.hid (And.intro hu h1)
  have HO1 := Lib.hid ho1
  have HC4 := Lib.hid (HC2.out w1 hb1)
  clear hu h1 ho1 hb1
  go_wp2_with fail
  refine HC4.out.mono ?_
  rintro e w2 ⟨z, ⟨hz, h2⟩, g2, c2, rfl, ho2, hb2⟩
  have HB2 := Lib.hid (HB1.out.trans (hb2.mono HB1.out.size))
  have HC5 := Lib.hid (show Calls Tryz.prog 80 #[.pointer (some ⟨b, o, none⟩), .slice (some ⟨g1, 0, none⟩) (ints (pad 0 u)).length c1, .slice (some ⟨g2, 0, none⟩) (ints (pad 0 z)).length c2] w2 (NewS (ints (Gen.com (mul T) (vinv T) x y)) w2) from by
    have h := HC3.out w2 _ _ u z (HP.out.keep (Keep.of_below HB2.out)) ((HO1.out.keep (S := fun _ => True) (Keep.of_below hb2) (fun _ _ => trivial)).sl.mono (fun _ _ => trivial)) (ImplD.NN_some _ _ _) (ho2.sl.mono (fun _ _ => trivial)) HU.out.1 hz
    have e := HCI.out u z HU.out.1 hz HU.out.2 h2
    have e2 : pad 0 (mul (T.drop 0) u z) = Gen.com (mul T) (vinv T) x y := e
    rw [e2] at h
    exact h)
  clear hz h2 ho2 hb2
  go_wp2_with fail
  refine HC5.out.mono ?_
  rintro e w3 ⟨g3, c3, rfl, ho3, hb3⟩
  have HR := Lib.hid (show NewS (ints (Gen.com (mul T) (vinv T) x y)) w (.returned (.slice (some ⟨g3, 0, none⟩) (ints (Gen.com (mul T) (vinv T) x y)).length c3)) w3 from ⟨_, _, rfl, ho3.mono HB2.out.size, HB2.out.trans (hb3.mono HB2.out.size)⟩)
  clear ho3 hb3
  go_wp2_with fail
  go_ret
  exact HR.out
end Go.Proofs.YtabkibmnghbahaaGreat.ChB

/-
  A sequence that grows: the left sift by depths, and what the table and the queue have in memory.
-/
namespace Go.Proofs.YtabkibmnghbahaaGreat.ChD
open Go.RowKit Go.Proofs.YtabkibmnghbahaaGreat Go.Proofs.YtabkibmnghbahaaGreat.Tow Go.Proofs.YtabkibmnghbahaaGreat.Gen Go.Proofs.YtabkibmnghbahaaGreat.GenC Go.Proofs.YtabkibmnghbahaaGreat.GenL Go.Proofs.YtabkibmnghbahaaGreat.GenM Go.Proofs.YtabkibmnghbahaaGreat.Tab Go.Proofs.YtabkibmnghbahaaGreat.ImplD
set_option linter.unusedVariables false
set_option linter.unusedSimpArgs false

theorem dep_ge {T : Tw} {d : Nat} {x : List Nat} (hx : A (El T) fF d x) (hd : d ≤ T.length) : d ≤ dep x := by
  have hl := El_length hx.1
  refine Nat.le_of_not_lt fun h => ?_
  obtain ⟨a, ha, h0⟩ := dep_get (x := x) (by omega)
  have := hx.2 _ h
  rw [fF_get ha] at this
  exact h0 this
noncomputable abbrev lstT (T : Tw) (tl : List (List Nat)) (x : List Nat) : Nat × List Nat := lst (mul T) (one T) (oF T) fF (tabF tl) T.length 0 x
theorem lst_end {T : Tw} {tl : List (List Nat)} {x : List Nat} (hx : El T x) (h : dep x = T.length) : lstT T tl x = (T.length, x) := by
  have hA := dep_A hx
  rw [h] at hA
  have := lst_skip (m := mul T) (e := one T) (o := oF T) (f := fF) (tabF tl) T.length 0 0 x (fun i hi => hA.2 i (by omega))
  rw [Nat.add_zero, Nat.zero_add] at this
  unfold lstT; rw [this]; rfl
theorem lst_at {T : Tw} {tl : List (List Nat)} {x : List Nat} (hx : El T x) (h : dep x < T.length) : lstT T tl x = lst (mul T) (one T) (oF T) fF (tabF tl) (T.length - dep x - 1 + 1) (dep x) x := by
  have hA := dep_A hx
  have := lst_skip (m := mul T) (e := one T) (o := oF T) (f := fF) (tabF tl) (dep x) (T.length - dep x - 1 + 1) 0 x (fun i hi => hA.2 i (by omega))
  rw [show dep x + (T.length - dep x - 1 + 1) = T.length by omega, Nat.zero_add] at this
  exact this
theorem dep_ne {T : Tw} {x : List Nat} (hx : El T x) (h : dep x < T.length) : ∃ a, x[dep x]? = some a ∧ a ≠ 0 ∧ fF (dep x) x = a := by
  obtain ⟨a, ha, h0⟩ := dep_get (x := x) (by rw [El_length hx]; exact h)
  exact ⟨a, ha, h0, fF_get ha⟩
theorem lst_stop {T : Tw} {tl : List (List Nat)} {x : List Nat} (hx : El T x) (h : dep x < T.length) (ht : tabF tl (dep x) = none) : lstT T tl x = (dep x, x) := by
  obtain ⟨a, ha, h0, hf⟩ := dep_ne hx h
  rw [lst_at hx h, lst_none (by rw [hf]; exact h0) ht]
theorem lst_go {T : Tw} (hT : Wf T) (hg : Tow.Good T) {tl : List (List Nat)} (htb : Tb (El T) T.length fF (tabF tl)) {x y : List Nat} (hx : El T x) (h : dep x < T.length) (ht : tabF tl (dep x) = some y) {a : Nat} (ha : x[dep x]? = some a) :
    lstT T tl x = lstT T tl (mul T (npow (mul T) (one T) y (oF T (dep x) - a)) x) ∧ El T (mul T (npow (mul T) (one T) y (oF T (dep x) - a)) x) ∧ dep x + 1 ≤ dep (mul T (npow (mul T) (one T) y (oF T (dep x) - a)) x) ∧
      (mul T (npow (mul T) (one T) y (oF T (dep x) - a)) x)[dep x]? = some 0 := by
  obtain ⟨a', ha', h0, hf⟩ := dep_ne hx h
  rw [ha] at ha'; injection ha' with ha'; subst ha'
  have F := fil hT hg
  obtain ⟨_, hyA, hy1⟩ := htb _ y ht
  have hr := lred F h (dep_A hx) hyA hy1
  rw [hf] at hr
  refine ⟨?_, hr.1, dep_ge hr (by omega), ?_⟩
  · rw [lst_at hx h, lst_some (by rw [hf]; exact h0) ht, hf]
    have := lst_skip (m := mul T) (e := one T) (o := oF T) (f := fF) (tabF tl) (dep x + 1) (T.length - dep x - 1) 0 _ (fun i hi => hr.2 i (by omega))
    rw [show dep x + 1 + (T.length - dep x - 1) = T.length by omega, Nat.zero_add] at this
    exact this.symm
  · have := hr.2 (dep x) (by omega)
    unfold fF at this
    have hl := El_length hr.1
    rw [List.getD_eq_getElem?_getD, List.getElem?_eq_getElem (by omega)] at this
    rw [List.getElem?_eq_getElem (by omega)]
    simp at this
    rw [this]

/-- the blocks that neither the table nor the queue lies in -/
def Sgq (gb gq : Nat) : Nat → Prop := fun k => k ≠ gb ∧ k ≠ gq
/-- a row of a table: nil, or the numbers -/
def RowB (S : Nat → Prop) (w : World) (u : Value) (r : List Nat) : Prop := (r = [] ∧ u = .slice none 0 0) ∨ (r ≠ [] ∧ SlI S w u (ints r))
theorem RowB.keep {S S' : Nat → Prop} {w w' : World} {u : Value} {r : List Nat} (h : RowB S w u r) (hk : Keep S' w w') (hS : ∀ k, S k → S' k) : RowB S w' u r :=
  h.imp id fun h => ⟨h.1, h.2.keep (hk.mono hS)⟩
theorem RowB.mono {S S' : Nat → Prop} {w : World} {u : Value} {r : List Nat} (h : RowB S w u r) (hS : ∀ k, S k → S' k) : RowB S' w u r :=
  h.imp id fun h => ⟨h.1, h.2.mono hS⟩
theorem RowB.any {S : Nat → Prop} {w : World} {u : Value} {r : List Nat} (h : RowB S w u r) : SlI Any w u (ints r) := by
  rcases h with ⟨rfl, rfl⟩ | ⟨_, h⟩
  · exact SlI_nil _ _
  · exact h.mono fun _ _ => trivial
theorem TabR.mono {R R' : World → Value → List Nat → Prop} {w : World} {g : Nat} {tl : List (List Nat)} (h : TabR R w g tl) (hR : ∀ v r, R w v r → R' w v r) : TabR R' w g tl := by
  obtain ⟨us, h1, h2, h3⟩ := h
  exact ⟨us, h1, h2, fun i r u hr hu => hR _ _ (h3 i r u hr hu)⟩
/-- a sequence in memory: the pointer to the presentation and the table -/
structure SeqR (w : World) (b o sb gb : Nat) (S : Nat → Prop) (n : Nat) (tl : List (List Nat)) : Prop where
  hs : sb < w.heap.size
  c0 : w.cell? ⟨sb, 0, none⟩ = some (.pointer (some ⟨b, o, none⟩))
  c1 : w.cell? ⟨sb, 1, none⟩ = some (.slice (some ⟨gb, 0, none⟩) n n)
  ne : sb ≠ gb
  tb : TabR (RowB S) w gb tl
  ln : tl.length = n
theorem SeqR.keep {w w' : World} {b o sb gb n : Nat} {S S' : Nat → Prop} {tl : List (List Nat)} (h : SeqR w b o sb gb S n tl) (hk : Keep S' w w') (h1 : S' sb) (h2 : S' gb) (hS : ∀ k, S k → S' k) : SeqR w' b o sb gb S n tl :=
  ⟨Nat.lt_of_lt_of_le h.hs hk.size, by rw [hk.cell h1 h.hs]; exact h.c0, by rw [hk.cell h1 h.hs]; exact h.c1, h.ne, h.tb.keep hk h2 (fun v r hr => hr.keep hk hS), h.ln⟩
theorem SeqR.below {w w' : World} {b o sb gb n : Nat} {S : Nat → Prop} {tl : List (List Nat)} (h : SeqR w b o sb gb S n tl) (hb : Below w.heap.size w w') : SeqR w' b o sb gb S n tl :=
  h.keep (S' := Any) (Keep.of_below hb) trivial trivial fun _ _ => trivial
theorem SeqR.mono {w : World} {b o sb gb n : Nat} {S S' : Nat → Prop} {tl : List (List Nat)} (h : SeqR w b o sb gb S n tl) (hS : ∀ k, S k → S' k) : SeqR w b o sb gb S' n tl :=
  ⟨h.hs, h.c0, h.c1, h.ne, TabR.mono h.tb (fun v r hr => hr.mono hS), h.ln⟩
theorem SeqR.put {w : World} {b o sb gb n d : Nat} {S : Nat → Prop} {tl : List (List Nat)} {u : Value} {y : List Nat} (h : SeqR w b o sb gb S n tl) (hS : ¬ S gb) (hu : SlI S w u (ints y)) (hy : y ≠ []) : SeqR (w.setCell ⟨gb, d, none⟩ u) b o sb gb S n (tl.set d y) := by
  have hk : Keep S w (w.setCell ⟨gb, d, none⟩ u) := (Keep.refl _ _).setCell (p := ⟨gb, d, none⟩) hS u
  have hk2 : Keep (fun k => k ≠ gb) w (w.setCell ⟨gb, d, none⟩ u) := (Keep.refl _ _).setCell (p := ⟨gb, d, none⟩) (fun h => h rfl) u
  exact ⟨Nat.lt_of_lt_of_le h.hs hk.size, by rw [hk2.cell h.ne h.hs]; exact h.c0, by rw [hk2.cell h.ne h.hs]; exact h.c1, h.ne, h.tb.set d (fun _ _ _ _ => trivial) (fun v r hr => hr.keep hk fun _ h => h) (.inr ⟨hy, hu⟩), by simp [h.ln]⟩

theorem SlI_in {S : Nat → Prop} {w : World} {v : Value} {l : List Int} (h : SlI S w v l) : SlI (fun k => S k ∧ k < w.heap.size) w v l := by
  obtain ⟨ao, c, h1, h2, h3, h0, h4⟩ := h
  exact ⟨ao, c, h1, h2, h3, h0, fun i x hx => by obtain ⟨b, o, e1, e2, e3, e4⟩ := h4 i x hx; exact ⟨b, o, e1, ⟨e2, e3⟩, e3, e4⟩⟩
/-- the queue has one element more: where the rows lie now -/
theorem sl_gr {gb gq g' : Nat} {w w' : World} {v : Value} {l : List Int} (h : SlI (Sgq gb gq) w v l) (hg : w.grownBy w' (some gq)) (hd : g' = gq ∨ w.heap.size ≤ g') : SlI (Sgq gb g') w' v l := by
  have hk : Keep (fun k => Sgq gb gq k ∧ k < w.heap.size) w w' := Keep.grown hg fun k hk e => hk.1.2 (by injection e)
  exact ((SlI_in h).keep hk).mono fun k hk => ⟨hk.1.1, fun e => by
    rcases hd with rfl | hd
    · exact hk.1.2 e
    · have := hk.2; omega⟩
theorem rowB_gr {gb gq g' : Nat} {w w' : World} {v : Value} {r : List Nat} (h : RowB (Sgq gb gq) w v r) (hg : w.grownBy w' (some gq)) (hd : g' = gq ∨ w.heap.size ≤ g') : RowB (Sgq gb g') w' v r :=
  h.imp id fun h => ⟨h.1, sl_gr h.2 hg hd⟩
/-- the queue's elements -/
def QuR (w : World) (gb gq : Nat) (us : List Value) (rows : List (List Nat)) : Prop := us.length = rows.length ∧ ∀ (i : Nat) (r : List Nat) (u : Value), rows[i]? = some r → us[i]? = some u → SlI (Sgq gb gq) w u (ints r)
theorem QuR.below {w w' : World} {gb gq : Nat} {us : List Value} {rows : List (List Nat)} (h : QuR w gb gq us rows) (hb : Below w.heap.size w w') : QuR w' gb gq us rows :=
  ⟨h.1, fun i r u hr hu => (h.2 i r u hr hu).keep (Keep.of_below hb)⟩
/-- a sequence that takes in elements: the table, the queue -/
structure AddSt (n : Nat) (w W : World) (b o sb gb gq : Nat) (v : Value) (us : List Value) (tl rows : List (List Nat)) : Prop where
  sq : SeqR W b o sb gb (Sgq gb gq) n tl
  wi : Win 22 W gq v us
  qu : QuR W gb gq us rows
  gr : w.grownBy W (some gb)
  bq : w.heap.size ≤ gq ∧ gq < W.heap.size
  bs : sb < w.heap.size ∧ gb < w.heap.size
theorem gr_trans {a b c : World} {row : Option Nat} (h1 : a.grownBy b row) (h2 : b.grownBy c row) : a.grownBy c row := ImplB.grown_trans h1 h2
theorem gr_low {a b : World} {g gb : Nat} (h : a.grownBy b (some g)) {w : World} (hw : w.grownBy a (some gb)) (hg : w.heap.size ≤ g) : w.grownBy b (some gb) :=
  ⟨h.os.trans hw.os, h.tape.trans hw.tape, h.output.trans hw.output, Nat.le_trans hw.size h.size, fun k hk hne => (h.block k (Nat.lt_of_lt_of_le hk hw.size) (fun e => by injection e with e; omega)).trans (hw.block k hk hne)⟩
theorem AddSt.below {n : Nat} {w W W' : World} {b o sb gb gq : Nat} {v : Value} {us : List Value} {tl rows : List (List Nat)} (h : AddSt n w W b o sb gb gq v us tl rows) (hb : Below W.heap.size W W') : AddSt n w W' b o sb gb gq v us tl rows :=
  ⟨h.sq.below hb, h.wi.keep (S := Any) (Keep.of_below hb) trivial, h.qu.below hb, gr_trans h.gr (ImplB.grown_below hb), ⟨h.bq.1, Nat.lt_of_lt_of_le h.bq.2 hb.size⟩, h.bs⟩
theorem AddSt.push {n : Nat} {w W W' : World} {b o sb gb gq g' : Nat} {v v' u : Value} {us : List Value} {tl rows : List (List Nat)} {r : List Nat} (h : AddSt n w W b o sb gb gq v us tl rows)
    (hu : SlI (Sgq gb gq) W u (ints r)) (hw : Win 22 W' g' v' (us ++ [u])) (hg : W.grownBy W' (some gq)) (hd : g' = gq ∨ W.heap.size ≤ g') : AddSt n w W' b o sb gb g' v' (us ++ [u]) tl (rows ++ [r]) := by
  have hk : Keep (fun k => k ≠ gq) W W' := Keep.grown hg fun k hk e => hk (by injection e)
  have hq := h.bq
  have hbs := h.bs
  have hsz := h.gr.size
  refine ⟨⟨Nat.lt_of_lt_of_le h.sq.hs hk.size, by rw [hk.cell (by omega) h.sq.hs]; exact h.sq.c0, by rw [hk.cell (by omega) h.sq.hs]; exact h.sq.c1, h.sq.ne, ?_, h.sq.ln⟩, hw, ⟨by simp [h.qu.1], fun i r' u' hr hu' => ?_⟩, gr_low hg h.gr hq.1, ?_, hbs⟩
  · obtain ⟨vs, h1, h2, h3⟩ := h.sq.tb
    refine ⟨vs, ⟨h1.1, ?_⟩, h2, fun i r v hr hv => rowB_gr (h3 i r v hr hv) hg hd⟩
    rcases h1.2 with ⟨h, _⟩ | ⟨g2, cap, cur, h, hb, hgg, hrest⟩
    · cases h
    · cases h
      refine .inr ⟨gb, _, cur, rfl, hb, ?_, hrest⟩
      rw [hk.block gb (by omega) (Array.getElem?_eq_some_iff.1 hgg).1]; exact hgg
  · rcases Nat.lt_or_ge i rows.length with hi | hi
    · rw [List.getElem?_append_left hi] at hr
      rw [List.getElem?_append_left (by rw [h.qu.1]; exact hi)] at hu'
      exact sl_gr (h.qu.2 i r' u' hr hu') hg hd
    · rw [List.getElem?_append_right hi] at hr
      rw [List.getElem?_append_right (by rw [h.qu.1]; exact hi), h.qu.1] at hu'
      rcases hj : i - rows.length with _ | j
      · rw [hj] at hr hu'
        simp at hr hu'
        subst hr; subst hu'
        exact sl_gr hu hg hd
      · rw [hj] at hr
        simp at hr
  · obtain ⟨off, c, _, _, _, hlt, _⟩ := hw.cell (i := us.length) (u := u) (by simp)
    refine ⟨?_, hlt⟩
    rcases hd with rfl | hd
    · exact hq.1
    · omega
theorem AddSt.put {n d : Nat} {w W : World} {b o sb gb gq : Nat} {v u : Value} {us : List Value} {tl rows : List (List Nat)} {y : List Nat} (h : AddSt n w W b o sb gb gq v us tl rows) (hu : SlI (Sgq gb gq) W u (ints y)) (hy : y ≠ []) :
    AddSt n w (W.setCell ⟨gb, d, none⟩ u) b o sb gb gq v us (tl.set d y) rows := by
  have hk : Keep (fun k => k ≠ gb) W (W.setCell ⟨gb, d, none⟩ u) := (Keep.refl _ _).setCell (p := ⟨gb, d, none⟩) (fun h => h rfl) u
  have hq := h.bq
  have hbs := h.bs
  refine ⟨h.sq.put (fun h => h.1 rfl) hu hy, h.wi.keep hk (by omega), ⟨h.qu.1, fun i r v hr hv => (h.qu.2 i r v hr hv).keep (hk.mono fun k hk => hk.1)⟩, ?_, ⟨hq.1, Nat.lt_of_lt_of_le hq.2 hk.size⟩, hbs⟩
  have hg := h.gr
  exact ⟨hg.os, hg.tape, hg.output, Nat.le_trans hg.size hk.size, fun k hks hne => (hk.block k (fun e => hne (by rw [e])) (Nat.lt_of_lt_of_le hks hg.size)).trans (hg.block k hks hne)⟩
theorem AddSt.pop {n : Nat} {w W : World} {b o sb gb gq off m c : Nat} {u : Value} {us : List Value} {tl rows : List (List Nat)} {r : List Nat} (h : AddSt n w W b o sb gb gq (.slice (some ⟨gq, off, none⟩) m c) (u :: us) tl (r :: rows)) (hm : m = rows.length + 1) :
    AddSt n w W b o sb gb gq (.slice (some ⟨gq, off + 1, none⟩) rows.length (c - 1)) us tl rows ∧ (c = 1 → ∀ o', AddSt n w W b o sb gb gq (.slice (some ⟨gq, o', none⟩) rows.length (c - 1)) us tl rows) := by
  have hl : us.length = rows.length := by have := h.qu.1; simpa using this
  have hq : QuR W gb gq us rows := ⟨hl, fun i r' u' hr hu => h.qu.2 (i + 1) r' u' (by simpa using hr) (by simpa using hu)⟩
  have hw := h.wi.rest (by rw [hl]; exact hm)
  rw [hl] at hw
  exact ⟨⟨h.sq, hw.1, hq, h.gr, h.bq, h.bs⟩, fun hc o' => ⟨h.sq, hw.2 hc o', hq, h.gr, h.bq, h.bs⟩⟩
theorem AddSt.head {n : Nat} {w W : World} {b o sb gb gq : Nat} {v : Value} {us : List Value} {tl rows : List (List Nat)} {r : List Nat} (h : AddSt n w W b o sb gb gq v us tl (r :: rows)) :
    ∃ u us' off c, us = u :: us' ∧ v = .slice (some ⟨gq, off, none⟩) (rows.length + 1) c ∧ rows.length + 1 ≤ c ∧ c ≤ maxLen ∧ W.cell? ⟨gq, off, none⟩ = some u ∧ SlI (Sgq gb gq) W u (ints r) := by
  obtain ⟨hl, hq⟩ := h.qu
  cases us with
  | nil => simp at hl
  | cons u us =>
    obtain ⟨off, c, h1, h2, h3, _, h4⟩ := h.wi.cell (i := 0) (u := u) rfl
    have hl' : us.length = rows.length := by simpa using hl
    rw [List.length_cons, hl'] at h1 h2
    exact ⟨u, us, off, c, rfl, h1, h2, h3, by rw [Nat.add_zero] at h4; exact h4, hq 0 r u rfl rfl⟩
theorem AddSt.form {n : Nat} {w W : World} {b o sb gb gq : Nat} {v : Value} {us : List Value} {tl rows : List (List Nat)} (h : AddSt n w W b o sb gb gq v us tl rows) : ∃ ao c, v = .slice ao rows.length c ∧ rows.length ≤ c ∧ c ≤ maxLen := by
  obtain ⟨ao, c, h1, h2, h3⟩ := h.wi.form
  rw [h.qu.1] at h1 h2
  exact ⟨ao, c, h1, h2, h3⟩

/-- an element is put behind the queue -/
def PushR (W : World) (gq : Nat) (us : List Value) (u : Value) (v' : Value) (W' : World) (g' : Nat) : Prop := Win 22 W' g' v' (us ++ [u]) ∧ W.grownBy W' (some gq) ∧ (g' = gq ∨ W.heap.size ≤ g')
end Go.Proofs.YtabkibmnghbahaaGreat.ChD

/-
  impl.newSequence, the method sift.
-/
namespace Go.Proofs.YtabkibmnghbahaaGreat.ChS
open Go.RowKit Go.Proofs.YtabkibmnghbahaaGreat Go.Proofs.YtabkibmnghbahaaGreat.Tow Go.Proofs.YtabkibmnghbahaaGreat.Gen Go.Proofs.YtabkibmnghbahaaGreat.GenC Go.Proofs.YtabkibmnghbahaaGreat.GenL Go.Proofs.YtabkibmnghbahaaGreat.GenM Go.Proofs.YtabkibmnghbahaaGreat.Tab Go.Proofs.YtabkibmnghbahaaGreat.ImplD Go.Proofs.YtabkibmnghbahaaGreat.ChA Go.Proofs.YtabkibmnghbahaaGreat.ChD
set_option linter.unusedVariables false
set_option linter.unusedSimpArgs false

/-- a new row of a known length -/
def NewT (n : Nat) (y : List Nat) (w : World) (e : Ending) (w' : World) : Prop := ∃ g c, e = .returned (.slice (some ⟨g, 0, none⟩) n c) ∧ Own w.heap.size w' (.slice (some ⟨g, 0, none⟩) n c) (ints y) ∧ Below w.heap.size w w'
theorem NewT.of {n : Nat} {y : List Nat} {w w' : World} {e : Ending} (h : NewS (ints y) w e w') (hl : y.length = n) : NewT n y w e w' := by
  obtain ⟨g, c, h1, h2, h3⟩ := h
  rw [ints_length, hl] at h1 h2
  exact ⟨g, c, h1, h2, h3⟩
theorem powT (T : Tw) (hT : Wf T) (hs : Small T) (hg : Tow.Good T) (W : World) (b o : Nat) (va : Value) (y : List Nat) (K : Nat) (hK : K ≤ 1000) (hP : PtrP Any W b o (ofTw T)) (ha : SlI Any W va (ints y)) (hy : El T y) :
    Calls Tryz.prog 58 #[.pointer (some ⟨b, o, none⟩), va, .int .i64 (K : Int)] W (NewT T.length (npow (mul T) (one T) y K) W) :=
  (ImplE.power_any T hT hs 0 (Nat.zero_le _) hg W b o va y K hK hP ha hy).mono fun _ _ h => NewT.of h (El_length ((grp hT hg).npow hy K))
theorem mulT (T : Tw) (hT : Wf T) (hs : Small T) (hg : Tow.Good T) (W : World) (b o : Nat) (va vb : Value) (x y : List Nat) (hP : PtrP Any W b o (ofTw T)) (ha : SlI Any W va (ints x)) (hn : NN va) (hb : SlI Any W vb (ints y)) (hx : El T x) (hy : El T y) :
    Calls Tryz.prog 80 #[.pointer (some ⟨b, o, none⟩), va, vb] W (NewT T.length (mul T x y) W) :=
  (ImplD.multiply_any T hT hs 0 (Nat.zero_le _) hg W b o va vb x y hP ha hn hb hx hy).mono fun _ _ h => NewT.of h (El_length (El_mul hT hx hy))
theorem comT (T : Tw) (hT : Wf T) (hs : Small T) (hg : Tow.Good T) (hn0 : 0 < T.length) (W : World) (b o : Nat) (va vb : Value) (x y : List Nat) (hP : PtrP Any W b o (ofTw T)) (ha : SlI Any W va (ints x)) (hb : SlI Any W vb (ints y)) (hx : El T x) (hy : El T y) :
    Calls Tryz.prog 85 #[.pointer (some ⟨b, o, none⟩), va, vb] W (NewT T.length (Gen.com (mul T) (vinv T) x y) W) :=
  (ChB.commutator_any T hT hs hg W b o va vb x y hP ha (NN_of ha (by rw [El_length hx]; exact hn0)) hb (NN_of hb (by rw [El_length hy]; exact hn0)) hx hy).mono fun _ _ h => NewT.of h (El_length (by
    have F := fil hT hg
    exact F.G.cl (F.iM (F.G.cl hy hx)) (F.G.cl hx hy)))
def NewQ (n b o : Nat) (w : World) (e : Ending) (w' : World) : Prop :=
  ∃ sb gb, e = .returned (.pointer (some ⟨sb, 0, none⟩)) ∧ w.heap.size ≤ gb ∧ w.heap.size ≤ sb ∧ SeqR w' b o sb gb (fun k => k ≠ gb) n (List.replicate n []) ∧ Below w.heap.size w w'
theorem newSeq_any (T : Tw) (hs6 : T.length ≤ 6) (w : World) (b o : Nat) (hP : PtrP Any w b o (ofTw T)) :
    Calls Tryz.prog 48 #[.pointer (some ⟨b, o, none⟩)] w (NewQ T.length b o w) := by
  obtain ⟨_, hb, vO, vP, vC, c0, c1, c2, hv⟩ := hP
  obtain ⟨aO, cO, aP, cP, aC, cC, rfl, rfl, rfl, hO1, hP1, hC1⟩ := hv.open
  have hmk := SpecO.mk23 T.length hs6
  have HR := Lib.hid (show NewQ T.length b o w (.returned (.pointer (some ⟨w.heap.size + 1, 0, none⟩))) ((w.alloc (.cells (madeCells #[.slice none 0 0] T.length) 22)).alloc (.cells #[.pointer (some ⟨b, o, none⟩), .slice (some ⟨w.heap.size, 0, none⟩) T.length T.length] 126)) from by
    refine ⟨w.heap.size + 1, w.heap.size, rfl, Nat.le_refl _, Nat.le_succ _, ⟨by simp, ?_, ?_, by omega, ?_, by simp⟩, ?_⟩
    · have h := heap_alloc_new (w.alloc (.cells (madeCells #[.slice none 0 0] T.length) 22)) (.cells #[.pointer (some ⟨b, o, none⟩), .slice (some ⟨w.heap.size, 0, none⟩) T.length T.length] 126)
      rw [show (w.alloc (.cells (madeCells #[.slice none 0 0] T.length) 22)).heap.size = w.heap.size + 1 by simp] at h
      rw [cell_of_row _ _ _ _ _ (0, 0) h]; rfl
    · have h := heap_alloc_new (w.alloc (.cells (madeCells #[.slice none 0 0] T.length) 22)) (.cells #[.pointer (some ⟨b, o, none⟩), .slice (some ⟨w.heap.size, 0, none⟩) T.length T.length] 126)
      rw [show (w.alloc (.cells (madeCells #[.slice none 0 0] T.length) 22)).heap.size = w.heap.size + 1 by simp] at h
      rw [cell_of_row _ _ _ _ _ (0, 0) h]; rfl
    · have h := TabR.made (R := RowB (fun k => k ≠ w.heap.size)) w T.length (by unfold maxLen; omega) (.inl ⟨rfl, rfl⟩)
      exact h.keep (S := Any) ((Keep.refl _ _).alloc _) trivial (fun v r hr => hr.keep (S' := Any) ((Keep.refl _ _).alloc _) (fun _ _ => trivial))
    · exact ((Below.refl _ _).alloc (Nat.le_refl _) _).alloc (by simp) _)
  clear hv
  go_enter Tryz.func48, Tryz.ntmps48
  go_wp2_with fail
  go_ret
  exact HR.out

def SiftR (T : Tw) (S : Nat → Prop) (tl : List (List Nat)) (x : List Nat) (w : World) (e : Ending) (w' : World) : Prop :=
  ∃ v, e = .returned v ∧ SlI S w' v (ints (lstT T tl x).2) ∧ El T (lstT T tl x).2 ∧ Below w.heap.size w w'

set_option maxRecDepth 100000 in
set_option maxHeartbeats 4000000 in
theorem sift_any (T : Tw) (hT : Wf T) (hs : Small T) (hg : Tow.Good T) (S : Nat → Prop) (w : World) (b o sb gb : Nat) (tl : List (List Nat)) (vx : Value) (x : List Nat) (hP : PtrP Any w b o (ofTw T)) (hQ : SeqR w b o sb gb S T.length tl) (hS : ∀ k, w.heap.size ≤ k → S k)
    (htb : Tb (El T) T.length fF (tabF tl)) (hx : SlI S w vx (ints x)) (hE : El T x) :
    Calls Tryz.prog 82 #[.pointer (some ⟨sb, 0, none⟩), vx] w (SiftR T S tl x w) := by
  have HP := Lib.hid hP
  have HQ := Lib.hid hQ
  have HX := Lib.hid hx
  have HE := Lib.hid hE
  have HS := Lib.hid hS
  have HTB := Lib.hid htb
  have HSM := Lib.hid hs
  have HGO := Lib.hid (fun x y hx h ht a ha => lst_go hT hg htb (x := x) (y := y) hx h ht (a := a) ha)
  have HEND := Lib.hid (fun x (hx : El T x) h => lst_end (tl := tl) hx h)
  have HSTOP := Lib.hid (fun x (hx : El T x) h ht => lst_stop (tl := tl) hx h ht)
  have HG := Lib.hid (grp hT hg)
  have HPW := Lib.hid (fun W va y K hK hp ha hy => powT T hT hs hg W b o va y K hK hp ha hy)
  have HMU := Lib.hid (fun W va vb y z hp h1 h2 h3 h4 h5 => mulT T hT hs hg W b o va vb y z hp h1 h2 h3 h4 h5)
  have HDP := Lib.hid (fun W v y h => depthOf_any W v y h)
  have hne := fun (w : World) (a : Option Addr) (n c : Nat) => run_neq_slice_nil (P := Tryz.prog) w 22 2 a n c Tryz.underlying22
  have hxl : x.length = T.length := El_length hE
  have hs6 := hs.1
  obtain ⟨aX, cX, rfl, hX1⟩ := hx.open
  rw [hxl] at HX hX1 ⊢
  clear hP hQ hx hE hS htb hT hg hs
  go_enter Tryz.func82, Tryz.ntmps82
  go_wp2_with fail
  refine (HDP.out w _ x (HX.out.mono (fun _ _ => trivial))).mono ?_
  rintro e w1 ⟨rfl, rfl⟩
  go_wp2_with fail
  go_loopw [1, 5] (fun xv dv wr => ∃ (y : List Nat) (a : Option Addr) (c : Nat), xv = .slice a T.length c ∧ dv = .int .i64 (dep y : Int) ∧ Hid (SlI S wr (.slice a T.length c) (ints y)) ∧ Hid (El T y) ∧ Hid (lstT T tl x = lstT T tl y) ∧ Hid (Below w.heap.size w wr)) (fun _ dv _ => T.length - (intOf dv).toNat)
  case atStart => exact ⟨x, aX, cX, rfl, rfl, HX, HE, Lib.hid rfl, Lib.hid (Below.refl _ _)⟩
  case round =>
    obtain ⟨y, a, c, rfl, rfl, hY, hYE, hL, hB⟩ := hrel
    have hdl : dep y ≤ T.length := by have := dep_le y; rwa [El_length hYE.out] at this
    obtain ⟨d, hd⟩ : ∃ d, dep y = d := ⟨_, rfl⟩
    rw [hd] at hdl
    have HD := Lib.hid hd
    simp only [hd]
    clear hd
    have HPr := Lib.hid (HP.out.keep (Keep.of_below hB.out))
    have HQr := Lib.hid (HQ.out.below hB.out)
    by_cases hlt : d < T.length
    · have hdi : (d : Int) < (T.length : Int) := by omega
      have hdi0 : (0 : Int) ≤ (d : Int) := by omega
      have hq0 : decide ((d : Int) < (T.length : Int)) = true := by simp; omega
      obtain ⟨r, hr⟩ : ∃ r, tl[d]? = some r := ⟨_, List.getElem?_eq_getElem (by rw [HQr.out.ln]; exact hlt)⟩
      obtain ⟨u, hcu, _, hru⟩ := HQr.out.tb.at hr
      have s0 := HQr.out.c0
      have s1 := HQr.out.c1
      rcases hru with ⟨rfl, rfl⟩ | ⟨hr0, hru⟩
      · have HR := Lib.hid (show SiftR T S tl x w (.returned (.slice a T.length c)) wr from ⟨_, rfl, by rw [hL.out, HSTOP.out y hYE.out (by rw [HD.out]; exact hlt) (by rw [HD.out]; exact tabF_none hr)]; exact hY.out, by rw [hL.out, HSTOP.out y hYE.out (by rw [HD.out]; exact hlt) (by rw [HD.out]; exact tabF_none hr)]; exact hYE.out, hB.out⟩)
        clear hr hlt
        go_wp2_with fail
        go_ret
        exact HR.out
      · have HTS := Lib.hid (tabF_some hr hr0)
        have HRE := Lib.hid (HTB.out d r HTS.out).2.1.1
        have hrl : r.length = T.length := El_length HRE.out
        obtain ⟨aR, cR, rfl, _⟩ := SlI.open hru
        rw [hrl] at hcu hru
        have HRU := Lib.hid (hru.mono (S' := Any) (fun _ _ => trivial))
        obtain ⟨bR, oR, rfl⟩ : ∃ bR oR, aR = some ⟨bR, oR, none⟩ := by
          obtain ⟨bR, oR, h, _⟩ := SlI.at hru (j := 0) (q := r[0]'(by omega)) (List.getElem?_eq_getElem _)
          exact ⟨bR, oR, h⟩
        obtain ⟨ay, hay, hay0, hayf⟩ := dep_ne hYE.out (by rw [HD.out]; exact hlt)
        rw [HD.out] at hay
        obtain ⟨bY, oY, rfl, _, hbY, hcY⟩ := SlI.at hY.out hay
        obtain ⟨L, hLv⟩ : ∃ L, T[d]? = some L := ⟨_, List.getElem?_eq_getElem hlt⟩
        have hLo7 : L.o ≤ 7 := HSM.out.2 L (List.mem_of_getElem? hLv)
        have hao : ay < L.o := by
          obtain ⟨L', hL', hlt'⟩ := El_lt hYE.out hay
          rw [hLv] at hL'; injection hL' with hL'; rw [hL']; exact hlt'
        have hoF : oF T d = L.o := oF_at hLv
        obtain ⟨HY1, HY2, HY3, HY4⟩ := HGO.out y r hYE.out (by rw [HD.out]; exact hlt) (by rw [HD.out]; exact HTS.out) ay (by rw [HD.out]; exact hay)
        rw [HD.out, hoF] at HY1 HY2 HY3 HY4
        obtain ⟨k, hk⟩ : ∃ k, L.o - ay = k := ⟨_, rfl⟩
        rw [hk] at HY1 HY2 HY3 HY4
        have hwk : IntKind.i64.wrap ((L.o : Int) - (ay : Int)) = (k : Int) := by rw [IntWalk.i64_in _ (by omega)]; omega
        have hk7 : k ≤ 7 := by omega
        obtain ⟨z, hz⟩ : ∃ z, z = mul T (npow (mul T) (one T) r k) y := ⟨_, rfl⟩
        rw [← hz] at HY1 HY2 HY3 HY4
        have HZ := Lib.hid (And.intro hz (And.intro HY1 (And.intro HY2 (And.intro HY3 HY4))))
        have hz0 : z[d]? = some 0 := HY4
        obtain ⟨hPS, hPb, vO, vP, vC, p0, p1, p2, hv⟩ := HPr.out
        obtain ⟨aO, cO, aP, cP, aC, cC, rfl, rfl, rfl, hO1, hP1, hC1⟩ := hv.open
        obtain ⟨bO, oO, rfl, _, hbO, hcO⟩ := hv.ord hLv
        have HRN := Lib.hid (HG.out.npow HRE.out k)
        have hsb := HQr.out.hs
        have hgb := HQr.out.tb.lt
        have HY0 := Lib.hid (hY.out.mono (S' := Any) (fun _ _ => trivial))
        clear hr hr0 hru hay hay0 hayf hLv hao hoF hz HY1 HY2 HY3 HY4 hv hPS hk hlt hrl
        go_wp2_with fail
        go_region_held3 (fun w' => (∀ b o, b < wr.heap.size → w'.cell? ⟨b, o, none⟩ = wr.cell? ⟨b, o, none⟩) ∧ Keep (fun _ => True) wr w')
          (first | exact ks_mk (by repeat (first | exact (Keep.refl _ _).drew | exact Keep.refl _ _ | refine Keep.trans ?_ (Keep.of_below (by assumption)))))
          (first | (go_at_call 58; refine (HPW.out _ (.slice (some ⟨bR, oR, none⟩) T.length cR) r k (by omega) (HPr.out.keep (by repeat (first | exact (Keep.refl _ _).drew | exact Keep.refl _ _ | exact (Keep.refl _ _).alloc _ | exact ((Keep.refl _ _).alloc _).drew | refine Keep.trans ?_ (Keep.of_below (by assumption))))) (HRU.out.keep (by repeat (first | exact (Keep.refl _ _).drew | exact Keep.refl _ _ | exact (Keep.refl _ _).alloc _ | exact ((Keep.refl _ _).alloc _).drew | refine Keep.trans ?_ (Keep.of_below (by assumption))))) HRE.out).mono ?_; rintro e w5 ⟨g5, c5, rfl, ho5, hb5⟩) | (have gg := hb5; clear gg; go_at_call 80; refine (HMU.out _ _ (.slice (some ⟨bY, oY, none⟩) T.length c) (npow (mul T) (one T) r k) y (HPr.out.keep (by repeat (first | exact (Keep.refl _ _).drew | exact Keep.refl _ _ | exact (Keep.refl _ _).alloc _ | exact ((Keep.refl _ _).alloc _).drew | refine Keep.trans ?_ (Keep.of_below (by assumption))))) (ho5.sl.mono (fun _ _ => trivial)) (NN_some _ _ _) (HY0.out.keep (by repeat (first | exact (Keep.refl _ _).drew | exact Keep.refl _ _ | exact (Keep.refl _ _).alloc _ | exact ((Keep.refl _ _).alloc _).drew | refine Keep.trans ?_ (Keep.of_below (by assumption))))) HRN.out hYE.out).mono ?_; rintro e w6 ⟨g6, c6, rfl, ho6, hb6⟩))
        rename_i hHd
        clear hHd
        have hb45 : Below wr.heap.size wr w5 := ((Below.refl _ _).drew).trans hb5
        have hs5 := hb45.size
        have hb46 : Below wr.heap.size wr w6 := hb45.trans (hb6.mono hs5)
        rw [← HZ.out.1] at ho6
        obtain ⟨c6z, _⟩ := ho6.cell (j := d) (a := 0) (by rw [ints_get, HZ.out.2.2.2.2]; rfl)
        have HB6 := Lib.hid (hB.out.trans (hb46.mono hB.out.size))
        have HZ6 := Lib.hid (show SlI S w6 (.slice (some ⟨g6, 0, none⟩) T.length c6) (ints z) from ho6.sl.mono fun k hk => HS.out k (Nat.le_trans (Nat.le_trans hB.out.size hs5) hk))
        have hdz := HZ.out.2.2.2.1
        have hlz : dep z ≤ T.length := by have := dep_le z; rwa [El_length HZ.out.2.2.1] at this
        have HL6 := Lib.hid (hL.out.trans HZ.out.2.1)
        have HE6 := Lib.hid HZ.out.2.2.1
        have HDC := Lib.hid (HDP.out w6 (.slice (some ⟨g6, 0, none⟩) T.length c6) z (HZ6.out.mono (fun _ _ => trivial)))
        clear ho5 hb5 ho6 hb6 hb45 hb46 hs5 hcY hcO p0 p1 p2 s0 s1 hcu hwk hz0
        go_wp2_with fail
        refine HDC.out.mono ?_
        rintro e w7 ⟨rfl, rfl⟩
        go_wp2_with fail
        go_roundw
        case rel => exact ⟨z, _, c6, rfl, rfl, HZ6, HE6, HL6, HB6⟩
        case measure => simp [intOf] <;> omega
    · obtain rfl : d = T.length := by omega
      have hq0 : decide ((T.length : Int) < (T.length : Int)) = false := by simp
      have HR := Lib.hid (show SiftR T S tl x w (.returned (.slice a T.length c)) wr from ⟨_, rfl, by rw [hL.out, HEND.out y hYE.out HD.out]; exact hY.out, by rw [hL.out, HEND.out y hYE.out HD.out]; exact hYE.out, hB.out⟩)
      clear hlt
      go_wp2_with fail
      go_ret
      exact HR.out
end Go.Proofs.YtabkibmnghbahaaGreat.ChS

/-
  slices.Clone of rows, the method add.
-/
namespace Go.Proofs.YtabkibmnghbahaaGreat.ChT
open Go.RowKit Go.Proofs.YtabkibmnghbahaaGreat Go.Proofs.YtabkibmnghbahaaGreat.Tow Go.Proofs.YtabkibmnghbahaaGreat.Gen Go.Proofs.YtabkibmnghbahaaGreat.GenC Go.Proofs.YtabkibmnghbahaaGreat.GenL Go.Proofs.YtabkibmnghbahaaGreat.GenM Go.Proofs.YtabkibmnghbahaaGreat.Tab Go.Proofs.YtabkibmnghbahaaGreat.ImplD Go.Proofs.YtabkibmnghbahaaGreat.SpecO Go.Proofs.YtabkibmnghbahaaGreat.SpecP Go.Proofs.YtabkibmnghbahaaGreat.ChA Go.Proofs.YtabkibmnghbahaaGreat.ChD Go.Proofs.YtabkibmnghbahaaGreat.ChS
set_option linter.unusedVariables false
set_option linter.unusedSimpArgs false

theorem sl2_src {S : Nat → Prop} {w : World} {ad : Addr} {n c : Nat} {rows : List (List Nat)} (h : Sl2 S w (.slice (some ad) n c) (rows.map ints)) :
    ∃ us : List Value, us.length = rows.length ∧ (∀ (i : Nat) (r : List Nat) (u : Value), rows[i]? = some r → us[i]? = some u → SlI S w u (ints r)) ∧ (∀ j u, us[j]? = some u → w.cell? (ad.add j) = some u) ∧ ∀ u ∈ us, u.oneCell' = true := by
  obtain ⟨ao, c', e, _, _, _, hx⟩ := h
  obtain ⟨rfl, _, _⟩ : ao = some ad ∧ n = (rows.map ints).length ∧ c = c' := by simpa [eq_comm] using e
  have key : ∀ i r, rows[i]? = some r → ∃ u, w.cell? (ad.add i) = some u ∧ SlI S w u (ints r) := fun i r hr => by
    obtain ⟨b, o, he, hb, hlt, u, hcell, hu⟩ := hx i (ints r) (by simp [hr])
    obtain rfl : ad = ⟨b, o, none⟩ := Option.some.inj he
    exact ⟨u, by rw [addr_add]; exact hcell, hu⟩
  refine ⟨(List.range rows.length).map (fun i => (w.cell? (ad.add i)).getD (.slice none 0 0)), by simp, fun i r u hr hu => ?_, fun j u hu => ?_, fun u hu => ?_⟩
  · have hi := (List.getElem?_eq_some_iff.1 hr).1
    obtain ⟨u', h1, h2⟩ := key i r hr
    simp only [List.getElem?_map, List.getElem?_range hi, Option.map_some, Option.some.injEq, h1, Option.getD_some] at hu
    rw [← hu]; exact h2
  · have hj := (List.getElem?_eq_some_iff.1 hu).1
    simp only [List.length_map, List.length_range] at hj
    obtain ⟨u', h1, h2⟩ := key j rows[j] (List.getElem?_eq_getElem hj)
    simp only [List.getElem?_map, List.getElem?_range hj, Option.map_some, Option.some.injEq, h1, Option.getD_some] at hu
    rw [h1, hu]
  · obtain ⟨i, hi, rfl⟩ := List.mem_map.1 hu
    obtain ⟨u', h1, h2⟩ := key i _ (List.getElem?_eq_getElem (List.mem_range.1 hi))
    rw [h1]
    obtain ⟨ao, c2, h3, _⟩ := h2
    rw [Option.getD_some, h3]; rfl

def Cl2R (S : Nat → Prop) (rows : List (List Nat)) (w : World) (e : Ending) (w' : World) : Prop :=
  ∃ v us, e = .returned v ∧ w'.ownsRow w.heap.size 22 1 v rows.length us ∧ us.length = rows.length ∧ (∀ (i : Nat) (r : List Nat) (u : Value), rows[i]? = some r → us[i]? = some u → SlI S w u (ints r)) ∧ Below w.heap.size w w'
set_option maxHeartbeats 1000000 in
theorem clone2_any (S : Nat → Prop) (w : World) (v : Value) (rows : List (List Nat)) (hv : Sl2 S w v (rows.map ints)) (hl : rows.length ≤ 1000000) :
    Calls Tryz.prog 81 #[v] w (Cl2R S rows w) := by
  obtain ⟨i0, hi, hz0, hz1, hz2⟩ := info_parts infoR
  have hv' := hv
  obtain ⟨ao, c, rfl, hc, hm, hn, hx⟩ := hv
  rw [List.length_map] at hc hv'
  have hen := fun (w : World) (a : Option Addr) (n c n' c' : Nat) => Lib.run_eql_slice_nil (P := Tryz.prog) w 23 22 a n c n' c' Tryz.underlying23
  have h00 := World.ownsRow_made (base := w.heap.size) (e := 22) (size := 1) w #[] 0 (Nat.le_refl _) (Nat.zero_le _) rfl
  rw [List.length_map]
  clear hx
  cases ao with
  | none =>
    obtain rfl : c = 0 := hn rfl
    obtain rfl : rows = [] := List.eq_nil_of_length_eq_zero (by omega)
    have HR := Lib.hid (show Cl2R S [] w (.returned (.slice none 0 0)) w from ⟨_, [], rfl, World.ownsRow_nil _ _ _ _, rfl, fun i r u hr => by simp at hr, Below.refl _ _⟩)
    clear hv' hm hn hc hl
    go_enter Tryz.func81, Tryz.ntmps81
    go_wp2_with fail
    go_ret
    exact HR.out
  | some ad =>
    obtain ⟨us, h1, h2, h3, h4⟩ := sl2_src hv'
    have hlt : ∀ j u, us[j]? = some u → (w.alloc (.cells #[] 22)).cell? (ad.add j) = some u := fun j u hu => by
      have h := h3 j u hu
      have hb : (ad.add j).block < w.heap.size := by
        rcases Nat.lt_or_ge (ad.add j).block w.heap.size with h' | h'
        · exact h'
        · simp [World.cell?, Array.getElem?_eq_none h'] at h
      rw [World.cell?_of_block (w := w) (Below.heap_alloc w _ _ hb)]; exact h
    have C1 := Lib.hid hlt
    have C2 := Lib.hid h4
    have C3 := Lib.hid (show 0 + rows.length ≤ maxLen by unfold maxLen; omega)
    have C4 := Lib.hid (show (0 + rows.length) * 24 ≤ 140737488355328 by omega)
    have C5 := Lib.hid (show us.length = rows.length * 1 by omega)
    have C6 := Lib.hid (And.intro h1 h2)
    clear hv' hm hn hl h1 h2 h3 h4 hlt hc
    go_enter Tryz.func81, Tryz.ntmps81
    go_wp2_with (at_builtin; refine wpList_append_own _ rfl _ _ 23 rfl w.heap.size 22 i0 (.slice none 0 0) 1 24 Tryz.underlying23 hi hz0 hz1 hz2 rfl (by decide) _ _ _ rfl h00 ad rows.length c us rfl C5.out C1.out C2.out C3.out C4.out (by simp) ?_)
    intro v' w1 hown' hgrow hnil
    have HR := Lib.hid (show Cl2R S rows w (.returned v') w1 from ⟨v', us, rfl, by simpa using hown', C6.out.1, C6.out.2, ((Below.refl _ _).alloc (Nat.le_refl _) _).grown hgrow (by simp) (by intro k hk; simp [Value.ownBlock] at hk; omega)⟩)
    clear hown' hgrow hnil
    go_wp2_with fail
    go_ret
    exact HR.out

theorem lst_dep {T : Tw} (hT : Wf T) (hg : Tow.Good T) {tl : List (List Nat)} (htb : Tb (El T) T.length fF (tabF tl)) {x r : List Nat} {d : Nat} (hx : El T x) (h : lstT T tl x = (d, r)) :
    El T r ∧ dep r = d ∧ d ≤ T.length ∧ A (El T) fF d r ∧ (d < T.length → tabF tl d = none) := by
  have F := fil hT hg
  have h1 := lst_A F htb T.length 0 x (by omega) ⟨hx, fun j hj => absurd hj (Nat.not_lt_zero _)⟩
  have h2 := (lst_le (m := mul T) (e := one T) (o := oF T) (f := fF) (tabF tl) T.length 0 x).2
  rw [show lst (mul T) (one T) (oF T) fF (tabF tl) T.length 0 x = (d, r) from h] at h1 h2
  simp only [Nat.zero_add] at h1 h2
  refine ⟨h1.1.1, ?_, h2, h1.1, fun hd => (h1.2 hd).2⟩
  rcases Nat.lt_or_ge d T.length with hd | hd
  · exact dep_of h1.1 (h1.2 hd).1 hd
  · have h3 := dep_ge h1.1 h2
    have h4 := dep_le r
    rw [El_length h1.1.1] at h4
    omega
/-- the commutators that are asked for -/
noncomputable def cml (T : Tw) (tl : List (List Nat)) (y : List Nat) : Nat → List (List Nat)
  | 0 => []
  | e + 1 => cml T tl y e ++ (match tabF tl e with
    | none => []
    | some z => [com (mul T) (vinv T) z y])
theorem cml_none {T : Tw} {tl : List (List Nat)} {y : List Nat} {e : Nat} (h : tabF tl e = none) : cml T tl y (e + 1) = cml T tl y e := by rw [cml, h, List.append_nil]
theorem cml_some {T : Tw} {tl : List (List Nat)} {y z : List Nat} {e : Nat} (h : tabF tl e = some z) : cml T tl y (e + 1) = cml T tl y e ++ [com (mul T) (vinv T) z y] := by rw [cml, h]
theorem cml_length (T : Tw) (tl : List (List Nat)) (y : List Nat) : ∀ e, (cml T tl y e).length ≤ e
  | 0 => Nat.le_refl _
  | e + 1 => by
    have := cml_length T tl y e
    rw [cml, List.length_append]
    split
    · simp; omega
    · simp; omega
theorem cml_mem {T : Tw} {tl : List (List Nat)} {y : List Nat} : ∀ {e j : Nat} {z : List Nat}, j < e → tabF tl j = some z → com (mul T) (vinv T) z y ∈ cml T tl y e
  | 0, j, z, h, _ => absurd h (Nat.not_lt_zero _)
  | e + 1, j, z, h, hz => by
    rw [cml]
    rcases Nat.lt_succ_iff_lt_or_eq.1 h with h1 | h1
    · exact List.mem_append_left _ (cml_mem h1 hz)
    · subst h1
      rw [hz]
      exact List.mem_append_right _ List.mem_cons_self
theorem cml_inv {T : Tw} {tl : List (List Nat)} {y w : List Nat} : ∀ {e : Nat}, w ∈ cml T tl y e → ∃ j z, tabF tl j = some z ∧ w = com (mul T) (vinv T) z y
  | 0, h => by simp [cml] at h
  | e + 1, h => by
    rw [cml] at h
    rcases List.mem_append.1 h with h1 | h1
    · exact cml_inv h1
    · cases hz : tabF tl e with
      | none => rw [hz] at h1; simp at h1
      | some z =>
        rw [hz] at h1
        simp only [List.mem_singleton] at h1
        exact ⟨e, z, hz, h1⟩
abbrev LINV (T : Tw) (im tl rows : List (List Nat)) : Prop := LInv (El T) (mul T) (one T) T.length (oF T) fF (vinv T) im (tabF tl) rows
def AddR (T : Tw) (im : List (List Nat)) (b o sb gb : Nat) (w : World) (e : Ending) (w' : World) : Prop :=
  ∃ (bl : Bool) (tl : List (List Nat)), e = .returned (.bool bl) ∧ CLO T im tl ∧ SeqR w' b o sb gb (fun k => k ≠ gb) T.length tl ∧ w.grownBy w' (some gb)
def AddG (T : Tw) (im : List (List Nat)) (b o sb gb : Nat) (w : World) (e : Ending) (w' : World) : Prop :=
  ∃ (bl : Bool) (tl : List (List Nat)), e = .returned (.bool bl) ∧ LINV T im tl [] ∧ SeqR w' b o sb gb (fun k => k ≠ gb) T.length tl ∧ w.grownBy w' (some gb)
/-- the queue: nothing is left, or a window -/
def StQ (n : Nat) (w W : World) (b o sb gb : Nat) (v : Value) (tl rows : List (List Nat)) : Prop :=
  (rows = [] ∧ (∃ a c, v = .slice a 0 c) ∧ SeqR W b o sb gb (fun k => k ≠ gb) n tl ∧ w.grownBy W (some gb)) ∨ ∃ gq us, AddSt n w W b o sb gb gq v us tl rows
theorem StQ.fin {n : Nat} {w W : World} {b o sb gb : Nat} {v : Value} {tl : List (List Nat)} (h : StQ n w W b o sb gb v tl []) : (∃ a c, v = .slice a 0 c) ∧ SeqR W b o sb gb (fun k => k ≠ gb) n tl ∧ w.grownBy W (some gb) := by
  rcases h with ⟨_, h⟩ | ⟨gq, us, h⟩
  · exact h
  · obtain ⟨a, c, h1, _⟩ := h.form
    exact ⟨⟨a, c, h1⟩, h.sq.mono fun k hk => hk.1, h.gr⟩
theorem gr_keep {w W : World} {gb : Nat} (h : w.grownBy W (some gb)) : Keep (fun k => k ≠ gb) w W := Keep.grown h fun k hk e => hk (by injection e)
theorem ptr_gr {T : Tw} {w W : World} {b o gb : Nat} (h : PtrP (fun k => k ≠ gb) w b o (ofTw T)) (hg : w.grownBy W (some gb)) : PtrP Any W b o (ofTw T) := (h.keep (gr_keep hg)).mono fun _ _ => trivial
theorem SeqR.nils {w : World} {b o sb gb n : Nat} {S S' : Nat → Prop} (h : SeqR w b o sb gb S n (List.replicate n [])) : SeqR w b o sb gb S' n (List.replicate n []) := by
  refine ⟨h.hs, h.c0, h.c1, h.ne, ?_, h.ln⟩
  obtain ⟨us, h1, h2, h3⟩ := h.tb
  refine ⟨us, h1, h2, fun i r u hr hu => ?_⟩
  have hr0 : r = [] := by
    rw [List.getElem?_replicate] at hr
    split at hr
    · injection hr with hr; exact hr.symm
    · cases hr
  rcases h3 i r u hr hu with h4 | h4
  · exact .inl h4
  · exact absurd hr0 h4.1
theorem SeqR.tabS {w : World} {b o sb gb n g : Nat} {tl : List (List Nat)} (h : SeqR w b o sb gb (fun k => k ≠ gb) n tl) (hg : w.heap.size ≤ g) : SeqR w b o sb gb (Sgq gb g) n tl := by
  refine ⟨h.hs, h.c0, h.c1, h.ne, ?_, h.ln⟩
  refine TabR.mono h.tb fun v r hr => ?_
  rcases hr with h4 | ⟨h4, h5⟩
  · exact .inl h4
  · exact .inr ⟨h4, (SlI_in h5).mono fun k hk => ⟨hk.1, by have := hk.2; omega⟩⟩
theorem StQ.start {n : Nat} {w W : World} {b o sb gb : Nat} {v : Value} {us : List Value} {tl rows : List (List Nat)} (hQ : SeqR w b o sb gb (fun k => k ≠ gb) n tl) (ho : W.ownsRow w.heap.size 22 1 v rows.length us) (hl : us.length = rows.length)
    (hr : ∀ (i : Nat) (r : List Nat) (u : Value), rows[i]? = some r → us[i]? = some u → SlI (fun k => k ≠ gb) w u (ints r)) (hb : Below w.heap.size w W) : StQ n w W b o sb gb v tl rows := by
  have hQ' := hQ.below hb
  have hg : w.grownBy W (some gb) := ImplB.grown_below hb
  rcases ho.2 with ⟨rfl, h0⟩ | ⟨g, cap, cur, rfl, hb0, hgg, _⟩
  · obtain rfl : rows = [] := List.eq_nil_of_length_eq_zero h0
    exact .inl ⟨rfl, ⟨_, _, rfl⟩, hQ', hg⟩
  · have hgl := (Array.getElem?_eq_some_iff.1 hgg).1
    refine .inr ⟨g, us, (SeqR.tabS hQ hb0).below hb, Win.of_own ho, ⟨hl, fun i r u h1 h2 => ?_⟩, hg, ⟨hb0, hgl⟩, ⟨hQ.hs, hQ.tb.lt⟩⟩
    exact ((SlI_in (hr i r u h1 h2)).keep (Keep.of_below hb)).mono fun k hk => ⟨hk.1, by have := hk.2; omega⟩
theorem rows_ne {T : Tw} {y : List Nat} {d : Nat} (hy : El T y) (hd : d < T.length) : y ≠ [] := fun h => by
  have := El_length hy
  rw [h] at this
  simp at this; omega
theorem sl_old {gb g : Nat} {W : World} {B : Nat} {v : Value} {l : List Int} (h : Own B W v l) (h1 : gb < B) (h2 : g < B) : SlI (Sgq gb g) W v l := h.sl.mono fun k hk => ⟨by omega, by omega⟩

set_option maxRecDepth 100000 in
set_option maxHeartbeats 16000000 in
theorem addg_any (T : Tw) (hT : Wf T) (hs : Small T) (hg : Tow.Good T) (hp : SpecI.Pr T) (w : World) (b o sb gb : Nat) (vl : Value) (im ws tl0 : List (List Nat)) (hP : PtrP (fun k => k ≠ gb) w b o (ofTw T)) (hQ : SeqR w b o sb gb (fun k => k ≠ gb) T.length tl0)
    (hl : Sl2 (fun k => k ≠ gb) w vl (ws.map ints)) (him : ∀ x ∈ im, El T x) (hI0 : LINV T im tl0 ws) (h6 : ws.length ≤ 6) :
    Calls Tryz.prog 49 #[.pointer (some ⟨sb, 0, none⟩), vl] w (AddG T im b o sb gb w) := by
  obtain ⟨i0, hi, hz0, hz1, hz2⟩ := info_parts infoR
  have HP := Lib.hid hP
  have HQ := Lib.hid hQ
  have HIM := Lib.hid him
  have HSM := Lib.hid hs
  have HPR := Lib.hid hp
  have HG := Lib.hid (grp hT hg)
  have HF := Lib.hid (fil hT hg)
  have HCLN := Lib.hid (clone2_any _ w vl ws hl (by omega))
  have HPW := Lib.hid (fun W va y K hK hp ha hy => powT T hT hs hg W b o va y K hK hp ha hy)
  have HCM := Lib.hid (fun hn0 W va vb x y hp ha hb hx hy => comT T hT hs hg hn0 W b o va vb x y hp ha hb hx hy)
  have HSI := Lib.hid (fun S W tl vx x h1 h2 h3 h4 h5 h6 => sift_any T hT hs hg S W b o sb gb tl vx x h1 h2 h3 h4 h5 h6)
  have HLD := Lib.hid (fun tl x r d (htb : Tb (El T) T.length fF (tabF tl)) (hx : El T x) h => lst_dep hT hg htb (r := r) (d := d) hx h)
  have hne := fun (w : World) (a : Option Addr) (n c : Nat) => run_neq_slice_nil (P := Tryz.prog) w 22 2 a n c Tryz.underlying22
  have hs6 := hs.1
  have htl0 : tl0.length = T.length := hQ.ln
  have hem0 : emp tl0 ≤ 6 := Nat.le_trans (emp_le tl0) (by rw [htl0]; exact hs6)
  have hbnd : emp tl0 * (T.length + 3) + ws.length ≤ 100 := by have := Nat.mul_le_mul hem0 (show T.length + 3 ≤ 9 by omega); omega
  have HI0 := Lib.hid hI0
  clear hP hQ hl him hT hs hg hp hI0
  go_enter Tryz.func49, Tryz.ntmps49
  go_wp2_with fail
  refine HCLN.out.mono ?_
  rintro e w1 ⟨v1, us1, rfl, ho1, hl1, hr1, hb1⟩
  have HS1 := Lib.hid (StQ.start HQ.out ho1 hl1 hr1 hb1)
  clear ho1 hl1 hr1 hb1 HCLN
  go_wp2_with fail
  go_loopg [5, 6] (emp tl0 * (T.length + 3) + ws.length) (fun gk gv qv wr => ∃ (bl : Bool) (tl rows : List (List Nat)), gv = .bool bl ∧ tl.length = T.length ∧ gk ≤ 100 ∧ gk = emp tl * (T.length + 3) + rows.length ∧ Hid (LINV T im tl rows) ∧ Hid (StQ T.length w wr b o sb gb qv tl rows))
  case atStart =>
    exact ⟨false, tl0, ws, rfl, htl0, hbnd, rfl, HI0, HS1⟩
  case round =>
    obtain ⟨bl, tl, rows, rfl, htl, hg100, hgk, hINV, hST⟩ := hrel
    cases rows with
    | nil =>
      obtain ⟨⟨a, c, rfl⟩, hq, hgr⟩ := hST.out.fin
      have hd0 : decide (((0 : Nat) : Int) > 0) = false := by simp
      have HR := Lib.hid (show AddG T im b o sb gb w (.returned (.bool bl)) wr from ⟨bl, tl, rfl, hINV.out, hq, hgr⟩)
      clear hq hgr hST hgk
      go_wp2_with fail
      go_ret
      exact HR.out
    | cons x rs =>
      obtain ⟨gq, us, hA⟩ : ∃ gq us, AddSt T.length w wr b o sb gb gq _ us tl (x :: rs) := by
        rcases hST.out with ⟨h, _⟩ | h
        · cases h
        · exact h
      obtain ⟨u, us', off, c, rfl, rfl, hc1, hc2, hcu, hru⟩ := hA.head
      obtain ⟨m, hm⟩ : ∃ m, rs.length + 1 = m := ⟨_, rfl⟩
      have HPOP := Lib.hid (hA.pop (off := off) (m := rs.length + 1) (c := c) rfl)
      rw [hm] at hc1
      have hxE : El T x := (Gen.sub HG.out HIM.out).le (hINV.out.wg x List.mem_cons_self)
      have hxl : x.length = T.length := El_length hxE
      obtain ⟨aU, cU, rfl, _⟩ := SlI.open hru
      rw [hxl] at hru hcu
      obtain ⟨lr, hlr⟩ : ∃ lr, rs.length = lr := ⟨_, rfl⟩
      have hml : m = lr + 1 := by omega
      have hm0 : decide ((m : Int) > 0) = true := by simp; omega
      have hmi : (0 : Int) < (m : Int) := by omega
      have hmi1 : (1 : Int) ≤ (m : Int) := by omega
      have hm00 : 0 < m := by omega
      have HHA := Lib.hid hA
      have hgql := hA.bq.2
      have HRU := Lib.hid hru
      have HXE := Lib.hid hxE
      obtain ⟨d, rest, hlst⟩ : ∃ d rest, lstT T tl x = (d, rest) := ⟨_, _, rfl⟩
      obtain ⟨hE2, hdr, hdl, hrA, htd⟩ := HLD.out tl x rest d hINV.out.tb hxE hlst
      have HSC := Lib.hid (show Calls Tryz.prog 82 #[.pointer (some ⟨sb, 0, none⟩), .slice aU T.length cU] wr fun e w' => ∃ v, e = .returned v ∧ SlI (Sgq gb gq) w' v (ints rest) ∧ Below wr.heap.size wr w' from by
        have h := HSI.out (Sgq gb gq) wr tl (.slice aU T.length cU) x (ptr_gr HP.out hA.gr) hA.sq (fun k hk => ⟨by have := hA.bs.2; have := hA.gr.size; omega, by omega⟩) hINV.out.tb hru hxE
        refine h.mono fun e w' h => ?_
        obtain ⟨v, h1, h2, _, h4⟩ := h
        rw [hlst] at h2
        exact ⟨v, h1, h2, h4⟩)
      have HL := Lib.hid (And.intro hlst (And.intro hE2 (And.intro hdr (And.intro hrA htd))))
      have HGK := Lib.hid (show gk = emp tl * (T.length + 3) + (lr + 1) by rw [hgk, List.length_cons, hlr])
      have HLR := Lib.hid hlr
      have HML := Lib.hid hml
      simp only [hm]
      clear hST hA hru hxE hxl hlst hE2 hdr hrA htd hgk hm hlr hml
      go_wp2_with fail
      refine HSC.out.mono ?_
      rintro e w2 ⟨v2, rfl, h2, hb2⟩
      have hrl : rest.length = T.length := El_length HL.out.2.1
      obtain ⟨aV, cV, rfl, _⟩ := SlI.open h2
      rw [hrl] at h2
      have HR2 := Lib.hid h2
      have HPOP2 := Lib.hid (And.intro (HPOP.out.1.below hb2) (fun hc o' => (HPOP.out.2 hc o').below hb2))
      rw [HLR.out] at HPOP2
      clear h2 hb2 HSC HPOP hcu hgql HHA HRU
      go_upto_region 5 with fail
      go_cut [6] (fun qv W => Hid (AddSt T.length w W b o sb gb gq qv us' tl rs) ∧ Hid (SlI (Sgq gb gq) W (.slice aV T.length cV) (ints rest)))
      case first =>
        by_cases hc : c = 1
        · subst hc
          have hm1 : m = 1 := by omega
          subst hm1
          have hlr0 : lr = 0 := by have := HML.out; omega
          subst hlr0
          go_wp2_with fail
          go_meet
          exact ⟨Lib.hid (HPOP2.out.2 trivial off), HR2⟩
        · have hmn : m - 1 = lr := by have := HML.out; omega
          go_wp2_with fail
          go_meet
          exact ⟨Lib.hid HPOP2.out.1, HR2⟩
      case rest =>
        obtain ⟨HS3, HR3⟩ := hcut
        rename World => w3
        have HD3 := Lib.hid (show Calls Tryz.prog 83 #[.slice aV T.length cV] w3 fun e w' => e = .returned (.int .i64 (d : Int)) ∧ w3 = w' from by
          have h := depthOf_any w3 _ rest (HR3.out.mono (fun _ _ => trivial))
          rw [HL.out.2.2.1] at h
          exact h)
        clear HPOP2 HR2 hc1 hc2 hm0 hmi hmi1 hm00 HML
        go_wp2_with fail
        refine HD3.out.mono ?_
        rintro e w4 ⟨rfl, rfl⟩
        clear HD3
        by_cases hdn : d = T.length
        · have hq : ((d : Int) == (T.length : Int)) = true := by simp; omega
          have HI' := Lib.hid (hINV.out.member (by rw [show lst (mul T) (one T) (oF T) fF (tabF tl) T.length 0 x = (d, rest) from HL.out.1]; exact hdn))
          clear hdn hdl
          go_wp2_with fail
          go_roundg (emp tl * (T.length + 3) + lr)
          case measure => exact msr HGK.out
          case rel => exact ⟨bl, tl, rs, rfl, htl, Nat.le_trans (Nat.le_of_lt (msr HGK.out)) hg100, by rw [HLR.out], HI', Lib.hid (.inr ⟨gq, us', HS3.out⟩)⟩
        · have hq : ((d : Int) == (T.length : Int)) = false := by simp; omega
          have hdlt : d < T.length := by omega
          obtain ⟨L, hL⟩ : ∃ L, T[d]? = some L := ⟨_, List.getElem?_eq_getElem hdlt⟩
          obtain ⟨a, ha, ha0, hfa⟩ := dep_ne HL.out.2.1 (by rw [HL.out.2.2.1]; exact hdlt)
          rw [HL.out.2.2.1] at ha hfa
          have hao : a < L.o := by
            obtain ⟨L', hL', hlt⟩ := El_lt HL.out.2.1 ha
            rw [hL] at hL'; injection hL' with hL'; rw [hL']; exact hlt
          have HPRL := Lib.hid (HPR.out L (List.mem_of_getElem? hL))
          have hLo7 : L.o ≤ 7 := HSM.out.2 L (List.mem_of_getElem? hL)
          have HA := Lib.hid (And.intro hfa (oF_at hL))
          have HLL := Lib.hid hL
          obtain ⟨bV, oV, rfl, _, hbV, hcV⟩ := SlI.at HR3.out ha
          obtain ⟨-, hPb, vO, vP, vC, p0, p1, p2, hv⟩ := ptr_gr HP.out HS3.out.gr
          obtain ⟨aO, cO, aP, cP, aC, cC, rfl, rfl, rfl, -, -, -⟩ := hv.open
          obtain ⟨bO, oO, rfl, -, hbO, hcO⟩ := hv.ord hL
          have s0 := HS3.out.sq.c0
          have hsb := HS3.out.sq.hs
          have hdi : (d : Int) < (T.length : Int) := by omega
          have hdi0 : (0 : Int) ≤ (d : Int) := by omega
          clear hdn hdl hL ha hfa hv p1 p2
          go_wp2_with fail
          go_region_held3 (fun w' => (∀ b o, b < w3.heap.size → w'.cell? ⟨b, o, none⟩ = w3.cell? ⟨b, o, none⟩) ∧ Keep (fun _ => True) w3 w')
            (first | exact ks_mk (by repeat (first | exact (Keep.refl _ _).drew | exact Keep.refl _ _ | refine Keep.trans ?_ (Keep.of_below (by assumption)))))
            (first | (go_at_call 84; refine (inverseMod_any L.o a HPRL.out (by omega) hao _).mono ?_; rintro e w5 ⟨ci, rfl, hci, hinv, rfl⟩))
          rename_i hHd
          clear hHd
          obtain ⟨w5, hw5⟩ : ∃ w5, w3.drew = w5 := ⟨_, rfl⟩
          simp only [hw5]
          have hb5 : Below w3.heap.size w3 w5 := by rw [← hw5]; exact (Below.refl _ _).drew
          have HINV := Lib.hid hinv
          have HSA := Lib.hid ((HS3.out.below hb5).below ((Below.refl _ _).alloc (Nat.le_refl _) (.cells #[.slice (some ⟨bV, oV, none⟩) T.length cV] 22)))
          have HRA := Lib.hid ((HR3.out.keep (Keep.of_below hb5)).keep ((Keep.refl _ w5).alloc (.cells #[.slice (some ⟨bV, oV, none⟩) T.length cV] 22)))
          have hci7 : ci ≤ 7 := by omega
          have HUL := Lib.hid (show us'.length = lr by rw [HSA.out.qu.1, HLR.out])
          have hlr100 : lr ≤ 100 := by have := HGK.out; omega
          clear hinv hw5 hb5 s0 p0 hcO hcV hPb hbV hbO hsb HS3 HR3 hq
          go_upto_region 10 with fail
          go_wp2_with (at_builtin; (refine wpList_append_win _ rfl _ _ 23 rfl 22 i0 (.slice none 0 0) 24 Tryz.underlying23 hi hz0 hz1 hz2 rfl gq _ us' rfl HSA.out.wi ⟨w5.heap.size, 0, none⟩ 1 (.slice (some ⟨bV, oV, none⟩) T.length cV) rfl ?c1 rfl ?c2 ?c3 ?_))
          case c1 => rw [cell_of_row _ _ _ #[.slice (some ⟨bV, oV, none⟩) T.length cV] _ (0, 0) (heap_alloc_new _ _)]; rfl
          case c2 => rw [HUL.out]; unfold maxLen; omega
          case c3 => rw [HUL.out]; omega
          intro g6 v6 w6 hwin hgr6 hd6
          have HS6 := Lib.hid (HSA.out.push HRA.out hwin hgr6 (by simpa using hd6))
          have HR6 := Lib.hid (sl_gr HRA.out hgr6 (by simpa using hd6))
          have s0 := HS6.out.sq.c0
          have hsb := HS6.out.sq.hs
          have HPC := Lib.hid (HPW.out w6 (.slice (some ⟨bV, oV, none⟩) T.length cV) rest ci (by omega) (ptr_gr HP.out HS6.out.gr) (HR6.out.mono (fun _ _ => trivial)) HL.out.2.1)
          clear hwin hgr6 hd6 HSA HRA
          go_wp2_with fail
          refine HPC.out.mono ?_
          rintro e w7 ⟨gy, cy, rfl, ho7, hb7⟩
          obtain ⟨y, hy⟩ : ∃ y, y = npow (mul T) (one T) rest ci := ⟨_, rfl⟩
          rw [← hy] at ho7
          have hyE : El T y := by rw [hy]; exact HG.out.npow HL.out.2.1 ci
          have hy1 : fF d y = 1 := by
            rw [hy, HF.out.f_npow hdlt HL.out.2.2.2.1, HA.out.1, HA.out.2, Nat.mul_comm]; exact HINV.out
          have HY := Lib.hid (And.intro hy (And.intro hyE hy1))
          have HS7 := Lib.hid (HS6.out.below hb7)
          have HY7 := Lib.hid (sl_old (g := g6) (gb := gb) ho7 (by have := HS6.out.bs.2; have := HS6.out.gr.size; omega) HS6.out.bq.2)
          obtain ⟨-, hPb, vO, vP, vC, p0, p1, p2, hv⟩ := ptr_gr HP.out HS7.out.gr
          obtain ⟨aO2, cO2, aP2, cP2, aC2, cC2, rfl, rfl, rfl, -, -, -⟩ := hv.open
          obtain ⟨bO2, oO2, rfl, -, hbO, hcO⟩ := hv.ord HLL.out
          clear hy hyE hy1 ho7 hb7 s0 hsb HPC HR6 hv p1 p2 HS6
          have s0 := HS7.out.sq.c0
          have hsb := HS7.out.sq.hs
          have HP7 := Lib.hid (ptr_gr HP.out HS7.out.gr)
          have HYA := Lib.hid (HY7.out.mono (S' := Any) (fun _ _ => trivial))
          have HYO := Lib.hid (HG.out.npow HY.out.2.1 L.o)
          have HL7 := Lib.hid (show (us' ++ [Value.slice (some ⟨bV, oV, none⟩) T.length cV]).length = lr + 1 by simp [HUL.out])
          obtain ⟨us6, hus6⟩ : ∃ us6, us' ++ [Value.slice (some ⟨bV, oV, none⟩) T.length cV] = us6 := ⟨_, rfl⟩
          rw [hus6] at HS7 HL7
          clear hus6 HUL
          go_upto_region 12 with fail
          go_cut [6] (fun qv W => ∃ g2 us2, Hid (AddSt T.length w W b o sb gb g2 qv us2 tl (rs ++ [rest] ++ [npow (mul T) (one T) y L.o])) ∧ Hid (SlI (Sgq gb g2) W (.slice (some ⟨gy, 0, none⟩) T.length cy) (ints y)))
          case first =>
            go_region_law
              (first | (go_simp; go_at_call 58; refine (HPW.out _ (.slice (some ⟨gy, 0, none⟩) T.length cy) y L.o (by omega) (HP7.out.keep (by repeat (first | exact (Keep.refl _ _).drew | exact Keep.refl _ _ | exact (Keep.refl _ _).alloc _ | exact ((Keep.refl _ _).alloc _).drew | refine Keep.trans ?_ (Keep.of_below (by assumption))))) (HYA.out.keep (by repeat (first | exact (Keep.refl _ _).drew | exact Keep.refl _ _ | exact (Keep.refl _ _).alloc _ | exact ((Keep.refl _ _).alloc _).drew | refine Keep.trans ?_ (Keep.of_below (by assumption))))) HY.out.2.1).mono ?_; rintro e w9 ⟨g9, c9, rfl, ho9, hb9⟩) | (refine step_append_win _ (by rfl) _ _ _ (by rfl) 22 i0 (.slice none 0 0) 24 Tryz.underlying23 hi hz0 hz1 hz2 rfl g6 v6 us6 (by rfl) (Win.keep (S := Any) (Win.keep (S := Any) HS7.out.wi (by repeat (first | exact (Keep.refl _ _).drew | exact Keep.refl _ _ | exact (Keep.refl _ _).alloc _ | exact ((Keep.refl _ _).alloc _).drew | refine Keep.trans ?_ (Keep.of_below (by assumption)))) trivial) ((Keep.refl _ _).alloc _) trivial) ⟨w9.heap.size, 0, none⟩ 1 (.slice (some ⟨g9, 0, none⟩) T.length c9) (by rfl) (by rw [cell_of_row _ _ _ #[.slice (some ⟨g9, 0, none⟩) T.length c9] 22 (0, 0) (heap_alloc_new w9 _)]; rfl) (by rfl) (by rw [HL7.out]; unfold maxLen; omega) (by rw [HL7.out]; omega) ?_; intro g10 v10 w10 hwin10 hgr10 hd10))
            all_goals (go_wp2_with fail; go_meet)
            all_goals
              have hb79 : Below w7.heap.size w7 w9 := ((Below.refl _ _).drew).trans hb9
              have hSA := (HS7.out.below hb79).below ((Below.refl _ _).alloc (Nat.le_refl _) (.cells #[.slice (some ⟨g9, 0, none⟩) T.length c9] 22))
              have hYA := (HY7.out.keep (Keep.of_below hb79)).keep ((Keep.refl _ w9).alloc (.cells #[.slice (some ⟨g9, 0, none⟩) T.length c9] 22))
              have hOA := (sl_old (g := g6) (gb := gb) ho9 (by have := HS7.out.bs.2; have := HS7.out.gr.size; show gb < w7.heap.size; omega) (show g6 < w7.heap.size from HS7.out.bq.2)).keep ((Keep.refl _ w9).alloc (.cells #[.slice (some ⟨g9, 0, none⟩) T.length c9] 22))
              exact ⟨g10, _, Lib.hid (hSA.push hOA hwin10 hgr10 (by simpa using hd10)), Lib.hid (sl_gr hYA hgr10 (by simpa using hd10))⟩
          case rest =>
            obtain ⟨g8, us8, HS8, HY8⟩ := hcut
            rename World => w8
            have s8 := HS8.out.sq.c1
            have hsb8 := HS8.out.sq.hs
            have HML := Lib.hid (Nat.le_refl (emp tl))
            clear HS7 HY7 HP7 HYA HYO HL7 s0 hsb hPb p0 hbO hcO
            go_wp2_with fail
            go_loopw [6, 84] (fun qv ev wr => ∃ (e : Nat) (g2 : Nat) (us2 : List Value) (rows2 : List (List Nat)), e ≤ T.length ∧ ev = .int .i64 (e : Int) ∧ rows2.length ≤ lr + 2 + e ∧ Hid (rows2 = rs ++ [rest] ++ [npow (mul T) (one T) y L.o] ++ cml T tl y e) ∧ Hid (AddSt T.length w wr b o sb gb g2 qv us2 tl rows2) ∧ Hid (SlI (Sgq gb g2) wr (.slice (some ⟨gy, 0, none⟩) T.length cy) (ints y))) (fun _ ev _ => T.length - (intOf ev).toNat)
            case atStart => exact ⟨0, g8, us8, _, Nat.zero_le _, rfl, by simp [HLR.out], Lib.hid (by simp [cml]), HS8, HY8⟩
            case round =>
              obtain ⟨e, g2, us2, rows2, he, rfl, hrl2, hR2, hS2, hY2⟩ := hrel
              clear HS8 HY8 s8 hsb8
              have s0 := hS2.out.sq.c0
              have s1 := hS2.out.sq.c1
              have hsb := hS2.out.sq.hs
              by_cases hlt : e < T.length
              · have hei : (e : Int) < (T.length : Int) := by omega
                have hei0 : (0 : Int) ≤ (e : Int) := by omega
                obtain ⟨q, hqt⟩ : ∃ q, tl[e]? = some q := ⟨_, List.getElem?_eq_getElem (by omega)⟩
                obtain ⟨uq, hcq, _, hRq⟩ := hS2.out.sq.tb.at hqt
                have hgb2 := hS2.out.sq.tb.lt
                rcases hRq with ⟨rfl, rfl⟩ | ⟨hq0, hRq⟩
                · have HR' := Lib.hid (show rows2 = rs ++ [rest] ++ [npow (mul T) (one T) y L.o] ++ cml T tl y (e + 1) by rw [cml_none (tabF_none hqt)]; exact hR2.out)
                  clear hlt hqt
                  go_wp2_with fail
                  go_roundw
                  case rel => exact ⟨e + 1, g2, us2, rows2, by omega, by go_num, by omega, HR', hS2, hY2⟩
                  case measure => simp [intOf] <;> omega
                · have HQE := Lib.hid (hINV.out.tb e q (tabF_some hqt hq0)).2.1.1
                  have hql : q.length = T.length := El_length HQE.out
                  obtain ⟨aQ, cQ, rfl, _⟩ := SlI.open hRq
                  rw [hql] at hcq hRq
                  obtain ⟨bQ, oQ, rfl⟩ : ∃ bQ oQ, aQ = some ⟨bQ, oQ, none⟩ := by
                    obtain ⟨bQ, oQ, h, _⟩ := SlI.at hRq (j := 0) (q := q[0]'(by omega)) (List.getElem?_eq_getElem _)
                    exact ⟨bQ, oQ, h⟩
                  have HR' := Lib.hid (show rows2 ++ [com (mul T) (vinv T) q y] = rs ++ [rest] ++ [npow (mul T) (one T) y L.o] ++ cml T tl y (e + 1) by rw [cml_some (tabF_some hqt hq0), hR2.out, List.append_assoc])
                  have HCC := Lib.hid (HCM.out (by omega) wr (.slice (some ⟨bQ, oQ, none⟩) T.length cQ) (.slice (some ⟨gy, 0, none⟩) T.length cy) q y (ptr_gr HP.out hS2.out.gr) (hRq.mono (fun _ _ => trivial)) (hY2.out.mono (fun _ _ => trivial)) HQE.out HY.out.2.1)
                  have HUL := Lib.hid hS2.out.qu.1
                  clear hlt hqt hq0 hRq hql
                  go_wp2_with fail
                  refine HCC.out.mono ?_
                  rintro e' w9 ⟨g9, c9, rfl, ho9, hb9⟩
                  have HSA := Lib.hid ((hS2.out.below hb9).below ((Below.refl _ _).alloc (Nat.le_refl _) (.cells #[.slice (some ⟨g9, 0, none⟩) T.length c9] 22)))
                  have HYA := Lib.hid ((hY2.out.keep (Keep.of_below hb9)).keep ((Keep.refl _ w9).alloc (.cells #[.slice (some ⟨g9, 0, none⟩) T.length c9] 22)))
                  have HOA := Lib.hid ((sl_old (g := g2) (gb := gb) ho9 (by omega) hS2.out.bq.2).keep ((Keep.refl _ w9).alloc (.cells #[.slice (some ⟨g9, 0, none⟩) T.length c9] 22)))
                  clear ho9 hb9 HCC s0 s1 hsb hcq hgb2
                  go_wp2_with (at_builtin; (refine wpList_append_win _ rfl _ _ 23 rfl 22 i0 (.slice none 0 0) 24 Tryz.underlying23 hi hz0 hz1 hz2 rfl g2 _ us2 rfl HSA.out.wi ⟨w9.heap.size, 0, none⟩ 1 (.slice (some ⟨g9, 0, none⟩) T.length c9) rfl ?c1 rfl ?c2 ?c3 ?_))
                  case c1 => rw [cell_of_row _ _ _ #[.slice (some ⟨g9, 0, none⟩) T.length c9] _ (0, 0) (heap_alloc_new _ _)]; rfl
                  case c2 => rw [HUL.out]; unfold maxLen; omega
                  case c3 => rw [HUL.out]; omega
                  intro g10 v10 w10 hwin hgr10 hd10
                  have HS10 := Lib.hid (HSA.out.push HOA.out hwin hgr10 (by simpa using hd10))
                  have HY10 := Lib.hid (sl_gr HYA.out hgr10 (by simpa using hd10))
                  clear hwin hgr10 hd10 HSA HYA HOA
                  go_wp2_with fail
                  go_roundw
                  case rel => exact ⟨e + 1, g10, _, _, by omega, by go_num, by simp; omega, HR', HS10, HY10⟩
                  case measure => simp [intOf] <;> omega
              · obtain rfl : e = T.length := by omega
                have hyne := rows_ne HY.out.2.1 hdlt
                have htd' : tl[d]? = some [] := by
                  cases htd : tl[d]? with
                  | none => have := List.getElem?_eq_none_iff.1 htd; omega
                  | some r => cases r with
                    | nil => rfl
                    | cons q r => have h := tabF_some htd (by simp); rw [HL.out.2.2.2.2 hdlt] at h; simp at h
                obtain ⟨ut, hct, hft, _⟩ := hS2.out.sq.tb.at htd'
                have hem := emp_set htd' hyne
                have HME := Lib.hid (show emp (tl.set d y) * (T.length + 3) + (lr + 2 + (cml T tl y T.length).length) < gk from msr2 (by rw [hem]; exact HGK.out) (cml_length T tl y T.length))
                have HL2 := Lib.hid (show rows2.length = lr + 2 + (cml T tl y T.length).length by rw [hR2.out]; simp [HLR.out]; omega)
                have HSP := Lib.hid (hS2.out.put (d := d) hY2.out hyne)
                have hgb2 := hS2.out.sq.tb.lt
                have HI' := Lib.hid (show LINV T im (tl.set d y) rows2 from by
                  unfold LINV
                  rw [tabF_set (by omega) hyne, hR2.out]
                  refine hINV.out.enter HF.out HIM.out HL.out.1 hdlt HY.out.1 HY.out.2.2 (fun w hw => by simp [hw]) (by simp) (by rw [HA.out.2]; simp) (fun j z hz => ?_) (fun w hw => ?_)
                  · exact List.mem_append_right _ (cml_mem (hINV.out.tb j z hz).1 hz)
                  · rcases List.mem_append.1 hw with h | h
                    · rcases List.mem_append.1 h with h | h
                      · rcases List.mem_append.1 h with h | h
                        · exact .inl h
                        · exact .inr (.inl (List.mem_singleton.1 h))
                      · exact .inr (.inr (.inl (by rw [HA.out.2]; exact List.mem_singleton.1 h)))
                    · exact .inr (.inr (.inr (cml_inv h))))
                clear hem hlt htd' hyne
                go_wp2_with fail
                go_roundg (emp (tl.set d y) * (T.length + 3) + rows2.length)
                case measure => rw [HL2.out]; exact HME.out
                case rel => exact ⟨true, tl.set d y, rows2, rfl, by simp [htl], Nat.le_trans (Nat.le_of_lt (by rw [HL2.out]; exact HME.out)) hg100, rfl, HI', Lib.hid (.inr ⟨g2, us2, HSP.out⟩)⟩
theorem add_any (T : Tw) (hT : Wf T) (hs : Small T) (hg : Tow.Good T) (hp : SpecI.Pr T) (w : World) (b o sb gb : Nat) (vl : Value) (im : List (List Nat)) (hP : PtrP (fun k => k ≠ gb) w b o (ofTw T)) (hQ : SeqR w b o sb gb (fun k => k ≠ gb) T.length (List.replicate T.length []))
    (hl : Sl2 (fun k => k ≠ gb) w vl (im.map ints)) (him : ∀ x ∈ im, El T x) (h6 : im.length ≤ 6) :
    Calls Tryz.prog 49 #[.pointer (some ⟨sb, 0, none⟩), vl] w (AddR T im b o sb gb w) := by
  refine (addg_any T hT hs hg hp w b o sb gb vl im im _ hP hQ hl him (by unfold LINV; rw [tabF_replicate]; exact LInv.start (fil hT hg) him) h6).mono ?_
  rintro e w' ⟨bl, tl, rfl, h1, h2, h3⟩
  exact ⟨bl, tl, rfl, h1.clo (fil hT hg) him, h2, h3⟩
end Go.Proofs.YtabkibmnghbahaaGreat.ChT

/-
  impl.pivots, impl.representative, impl.isZero, impl.isMember.
-/
namespace Go.Proofs.YtabkibmnghbahaaGreat.ChU
open Go.RowKit Go.Proofs.YtabkibmnghbahaaGreat Go.Proofs.YtabkibmnghbahaaGreat.Tow Go.Proofs.YtabkibmnghbahaaGreat.Gen Go.Proofs.YtabkibmnghbahaaGreat.GenC Go.Proofs.YtabkibmnghbahaaGreat.GenL Go.Proofs.YtabkibmnghbahaaGreat.GenM Go.Proofs.YtabkibmnghbahaaGreat.Tab Go.Proofs.YtabkibmnghbahaaGreat.ImplD Go.Proofs.YtabkibmnghbahaaGreat.ChA Go.Proofs.YtabkibmnghbahaaGreat.ChD Go.Proofs.YtabkibmnghbahaaGreat.ChS
set_option linter.unusedVariables false
set_option linter.unusedSimpArgs false

theorem piv1_any (w : World) (a : Int) : Calls Tryz.prog 94 #[.int .i64 a] w fun e w' => e = .returned (.bool (a != 0)) ∧ w = w' := by
  go_enter Tryz.func94, Tryz.ntmps94
  go_wp2_with fail
  go_ret
  first | exact ⟨rfl, rfl⟩ | exact ⟨by simp, rfl⟩

set_option maxHeartbeats 1000000 in
theorem index_any (w : World) (v : Value) (x : List Nat) (hv : SlI Any w v (ints x)) (hd : dep x < x.length) (hl : x.length ≤ 1000000) :
    Calls Tryz.prog 93 #[v, .func (.func 94) #[] #[]] w fun e w' => e = .returned (.int .i64 (dep x : Int)) ∧ w = w' := by
  obtain ⟨aX, cX, rfl, _⟩ := hv.open
  have HV := Lib.hid hv
  have HD := Lib.hid hd
  have HP1 := Lib.hid (fun W a => piv1_any W a)
  clear hv hd
  go_enter Tryz.func93, Tryz.ntmps93
  go_wp2_with fail
  go_loop [8] (fun iv => ∃ k : Nat, k ≤ x.length ∧ iv = .int .i64 (k : Int) ∧ Hid (∀ j, j < k → x[j]? = some 0)) (fun iv => x.length - (intOf iv).toNat)
  case atStart => exact ⟨0, Nat.zero_le _, rfl, Lib.hid (fun j h => absurd h (Nat.not_lt_zero _))⟩
  case round =>
    obtain ⟨k, hk, rfl, hR⟩ := hrel
    have hkl : k < x.length := by
      obtain ⟨a, ha, h0⟩ := dep_get HD.out
      refine Nat.lt_of_not_le fun h => h0 ?_
      have := hR.out (dep x) (by have := HD.out; omega)
      rw [ha] at this; injection this
    obtain ⟨a, ha⟩ : ∃ a, x[k]? = some a := ⟨_, List.getElem?_eq_getElem hkl⟩
    obtain ⟨b, o, rfl, _, hb, hc⟩ := HV.out.at ha
    by_cases h0 : a = 0
    · subst h0
      have HN := Lib.hid (show ∀ j, j < k + 1 → x[j]? = some 0 from fun j hj => by
        rcases Nat.lt_succ_iff_lt_or_eq.1 hj with h | h
        · exact hR.out j h
        · rw [h]; exact ha)
      clear ha hR
      go_wp2_with fail
      refine (HP1.out w 0).mono ?_
      rintro e w' ⟨rfl, rfl⟩
      go_wp2_with fail
      go_round
      case rel => exact ⟨k + 1, by omega, by go_num, HN⟩
      case measure => simp [intOf]; omega
    · have hne : ((a : Int) != 0) = true := by simp; omega
      have HE := Lib.hid (show dep x = k from dep_is x k hR.out (fun a' ha' => by rw [ha] at ha'; cases ha'; exact h0) hk)
      have HPC := Lib.hid (HP1.out w (a : Int))
      rw [hne] at HPC
      clear ha hR h0 hne
      go_wp2_with fail
      refine HPC.out.mono ?_
      rintro e w' ⟨rfl, rfl⟩
      go_wp2_with fail
      go_ret
      exact ⟨by rw [HE.out]; rfl, rfl⟩

theorem own_sl {e : TypeId} {B : Nat} {w : World} {v : Value} {x : List Nat} (h : w.ownsRow B e 1 v x.length (vals (ints x))) : SlI (fun k => B ≤ k) w v (ints x) := by
  rcases h.2 with ⟨rfl, h0⟩ | ⟨g, cap, cur, rfl, hb, hh, hn, hm, hs, ht⟩
  · have hx : x = [] := List.eq_nil_of_length_eq_zero h0
    subst hx
    exact SlI_nil _ _
  · refine ⟨_, cap, by rw [ints_length], by rw [ints_length]; exact hn, hm, fun e => absurd e (by simp), fun i y hy => ⟨g, 0, rfl, hb, (World.ownsRow.lt h g rfl).2, .int .i64 y, ?_, rfl⟩⟩
    have hi : i < x.length := by have := (List.getElem?_eq_some_iff.1 hy).1; rwa [ints_length] at this
    rw [Nat.zero_add, World.ownsRow.cellAt h i (by omega)]
    simp [vals, hy]
def PivR (us : List (List Nat)) (w : World) (e : Ending) (w' : World) : Prop := ∃ v, e = .returned v ∧ SlI (fun k => w.heap.size ≤ k) w' v (ints (us.map dep)) ∧ Below w.heap.size w w'
set_option maxRecDepth 100000 in
set_option maxHeartbeats 1000000 in
theorem pivots_any (w : World) (vu : Value) (us : List (List Nat)) (hu : Sl2 Any w vu (us.map ints)) (hl : us.length ≤ 1000) (hd : ∀ u ∈ us, dep u < u.length ∧ u.length ≤ 1000) :
    Calls Tryz.prog 56 #[vu] w (PivR us w) := by
  obtain ⟨i0, hi, hz0, hz1, hz2⟩ := info_parts infoN
  obtain ⟨aU, cU, rfl, _, _⟩ := SlG.form hu
  rw [List.length_map] at hu ⊢
  have HU := Lib.hid hu
  have HD := Lib.hid hd
  have HIX := Lib.hid (fun W v x h h1 h2 => index_any W v x h h1 h2)
  obtain ⟨m, hm⟩ : ∃ m, us.length = m := ⟨_, rfl⟩
  rw [hm] at HU hl ⊢
  have HM := Lib.hid hm
  clear hu hd hm
  go_enter Tryz.func56, Tryz.ntmps56
  go_wp2_with fail
  go_loopw [3, 8] (fun ov iv wr => ∃ k : Nat, k ≤ m ∧ iv = .int .i64 (k : Int) ∧ Hid (wr.ownsRow w.heap.size 3 1 ov k (vals (ints ((us.map dep).take k)))) ∧ Hid (Below w.heap.size w wr)) (fun _ iv _ => m - (intOf iv).toNat)
  case atStart => exact ⟨0, Nat.zero_le _, rfl, Lib.hid (World.ownsRow_nil _ _ _ _), Lib.hid (Below.refl _ _)⟩
  case round =>
    obtain ⟨k, hk, rfl, hO, hB⟩ := hrel
    by_cases hlt : k < m
    · obtain ⟨u, hu⟩ : ∃ u, us[k]? = some u := ⟨_, List.getElem?_eq_getElem (by rw [HM.out]; omega)⟩
      obtain ⟨b, o, q, rfl, _, hb, hc, hq⟩ := SlG.get HU.out (k := k) (x := ints u) (by rw [List.getElem?_map, hu]; rfl)
      have hk1 := Keep.of_below (S := Any) hB.out
      have hcr := (hk1.cell (b := b) (o := o + k) trivial hb).trans hc
      have hbr : b < wr.heap.size := Nat.lt_of_lt_of_le hb hB.out.size
      have hdu := HD.out u (List.mem_of_getElem? hu)
      have HPC := Lib.hid (HIX.out wr q u (SlI.keep hq hk1) hdu.1 (by omega))
      have hti : (us.map dep).take (k + 1) = (us.map dep).take k ++ [dep u] := by rw [List.take_add_one, List.getElem?_map, hu]; rfl
      have HTI := Lib.hid (show vals (ints ((us.map dep).take (k + 1))) = vals (ints ((us.map dep).take k)) ++ [.int .i64 (dep u : Int)] by rw [hti]; simp [vals, ints])
      have hki : (k : Int) < (m : Int) := by omega
      clear hu hc hq hdu hk1 hti
      go_wp2_with fail
      refine HPC.out.mono ?_
      rintro e w' ⟨rfl, rfl⟩
      have h1 := ownsRow_keep hO.out (S := Any) ((Keep.refl _ wr).alloc (.cells #[.int .i64 (dep u : Int)] 3)) (fun _ _ => trivial)
      have hs0 := hB.out.size
      clear HPC hcr
      go_wp2_with (at_builtin; (refine wpList_append_own _ rfl _ _ 78 rfl w.heap.size 3 i0 (.int .i64 0) 1 8 Tryz.underlying78 hi hz0 hz1 hz2 rfl (by decide) _ _ _ rfl h1 ⟨wr.heap.size, 0, none⟩ 1 1 [.int .i64 (dep u : Int)] rfl rfl ?c1 ?c2 ?c3 ?c4 ?c5 ?_))
      case c1 =>
        intro j u hj
        match j, hj with
        | 0, hj => simp at hj; subst hj; simp [Addr.add]
      case c2 => intro u hu; simp at hu; subst hu; rfl
      case c3 => unfold maxLen; omega
      case c4 => omega
      case c5 => simp; omega
      intro v' w2 hown hgrow _
      have HN := Lib.hid (show w2.ownsRow w.heap.size 3 1 v' (k + 1) (vals (ints ((us.map dep).take (k + 1)))) by rw [HTI.out]; exact hown)
      have HNB := Lib.hid (show Below w.heap.size w w2 from (hB.out.alloc hs0 _).grown hgrow (by simp; omega) (fun g hg => (World.ownsRow.lt h1 g hg).1))
      clear hown hgrow h1 hO hB
      go_wp2_with fail
      go_roundw
      case rel => exact ⟨k + 1, by omega, by go_num, HN, HNB⟩
      case measure => simp [intOf] <;> omega
    · obtain rfl : k = m := by omega
      have HR := Lib.hid (show ∀ ov, wr.ownsRow w.heap.size 3 1 ov k (vals (ints ((us.map dep).take k))) → PivR us w (.returned ov) wr from fun ov h => ⟨ov, rfl, by
        rw [← HM.out, List.take_of_length_le (by simp)] at h
        exact own_sl (by rw [List.length_map]; exact h), hB.out⟩)
      have HRR := Lib.hid (HR.out _ hO.out)
      clear hO hB HR
      go_wp2_with fail
      go_ret
      exact HRR.out

set_option maxHeartbeats 1000000 in
theorem isZero_any (w : World) (v : Value) (x : List Nat) (hv : SlI Any w v (ints x)) (hl : x.length ≤ 1000000) :
    Calls Tryz.prog 96 #[v] w (BoR (dep x = x.length) w) := by
  obtain ⟨aX, cX, rfl, _⟩ := hv.open
  have HV := Lib.hid hv
  clear hv
  go_enter Tryz.func96, Tryz.ntmps96
  go_wp2_with fail
  go_loop [7] (fun iv => ∃ k : Nat, k ≤ x.length ∧ iv = .int .i64 (k : Int) ∧ Hid (∀ j, j < k → x[j]? = some 0)) (fun iv => x.length - (intOf iv).toNat)
  case atStart => exact ⟨0, Nat.zero_le _, rfl, Lib.hid (fun j h => absurd h (Nat.not_lt_zero _))⟩
  case round =>
    obtain ⟨k, hk, rfl, hR⟩ := hrel
    by_cases hlt : k < x.length
    · obtain ⟨a, ha⟩ : ∃ a, x[k]? = some a := ⟨_, List.getElem?_eq_getElem hlt⟩
      obtain ⟨b, o, rfl, _, hb, hc⟩ := HV.out.at ha
      by_cases h0 : a = 0
      · subst h0
        have HN := Lib.hid (show ∀ j, j < k + 1 → x[j]? = some 0 from fun j hj => by
          rcases Nat.lt_succ_iff_lt_or_eq.1 hj with h | h
          · exact hR.out j h
          · rw [h]; exact ha)
        clear ha hR
        go_wp2_with fail
        go_round
        case rel => exact ⟨k + 1, by omega, by go_num, HN⟩
        case measure => simp [intOf]; omega
      · have hne : ((a : Int) != 0) = true := by simp; omega
        have HE := Lib.hid (show dep x = k from dep_is x k hR.out (fun a' ha' => by rw [ha] at ha'; cases ha'; exact h0) hk)
        clear ha hR h0
        go_wp2_with fail
        go_ret
        exact ⟨false, rfl, ⟨fun h => Bool.noConfusion h, fun h => by have := HE.out; omega⟩, rfl⟩
    · obtain rfl : k = x.length := by omega
      have HE := Lib.hid (show dep x = x.length from dep_is x _ hR.out (fun a ha => by have := (List.getElem?_eq_some_iff.1 ha).1; omega) hk)
      clear hR
      go_wp2_with fail
      go_ret
      exact ⟨true, rfl, ⟨fun _ => HE.out, fun _ => rfl⟩, rfl⟩

/-- an element multiplied by another, so many times -/
def clj (T : Tw) (u x : List Nat) (j : Nat) : List Nat := mul T x (npow (mul T) (one T) u j)
theorem clj_zero {T : Tw} (hT : Wf T) (hg : Tow.Good T) {d : Nat} (hd : d < T.length) {u x : List Nat} (hu : A (El T) fF d u) (h1 : fF d u = 1) (hx : El T x) {j : Nat} (hj : j ≤ (oF T d - fF d x) % oF T d) :
    fF d (clj T u x j) = 0 ↔ j = (oF T d - fF d x) % oF T d := by
  have F := fil hT hg
  have hp := (F.A_sub (Nat.le_of_lt hd)).npow hu j
  have hlt := F.lt hd hx
  unfold clj
  rw [(fr hT hd hx hp).2, F.f_npow hd hu, h1, Nat.mul_one, Nat.add_mod_mod]
  generalize fF d x = f at hj hlt ⊢
  generalize oF T d = o at hj hlt ⊢
  by_cases hf : f = 0
  · subst hf
    rw [Nat.sub_zero, Nat.mod_self] at hj ⊢
    obtain rfl : j = 0 := by omega
    simp
  · rw [Nat.mod_eq_of_lt (show o - f < o by omega)] at hj ⊢
    rcases Nat.lt_or_eq_of_le hj with h | h
    · rw [Nat.mod_eq_of_lt (by omega)]; omega
    · rw [h, Nat.add_sub_cancel' (Nat.le_of_lt hlt), Nat.mod_self]; simp
theorem clj_end {T : Tw} {d : Nat} {u x : List Nat} (hdu : dep u = d) : clj T u x ((oF T d - fF d x) % oF T d) = clr T u x := by unfold clj clr; rw [hdu]
theorem rep_take {T : Tw} {us : List (List Nat)} {x u : List Nat} {k : Nat} (hu : us[k]? = some u) : rep T (us.take (k + 1)) x = clr T u (rep T (us.take k) x) := by
  have : ∀ (a : List (List Nat)) (x : List Nat), rep T (a ++ [u]) x = clr T u (rep T a x) := fun a => by
    induction a with
    | nil => intro x; rfl
    | cons v a ih => intro x; exact ih _
  rw [List.take_add_one, hu]
  exact this _ _
/-- rows with leading entry 1 -/
def Led (T : Tw) (us : List (List Nat)) : Prop := ∀ u ∈ us, El T u ∧ dep u < T.length ∧ fF (dep u) u = 1
theorem clr_El {T : Tw} (hT : Wf T) (hg : Tow.Good T) {u x : List Nat} (hu : El T u) (hx : El T x) : El T (clr T u x) := El_mul hT hx ((grp hT hg).npow hu _)
theorem fF_lt7 {T : Tw} (hs : Small T) {x : List Nat} {d : Nat} (hx : El T x) (hd : d < T.length) : ∃ a, x[d]? = some a ∧ fF d x = a := by
  have hl := El_length hx
  exact ⟨_, List.getElem?_eq_getElem (by omega), fF_get (List.getElem?_eq_getElem (by omega))⟩
set_option maxRecDepth 100000 in
set_option maxHeartbeats 4000000 in
theorem rep_any (T : Tw) (hT : Wf T) (hs : Small T) (hg : Tow.Good T) (w : World) (b o : Nat) (vu vx : Value) (us : List (List Nat)) (x : List Nat) (hP : PtrP Any w b o (ofTw T)) (hu : Sl2 Any w vu (us.map ints)) (hul : us.length ≤ 6) (hx : SlI Any w vx (ints x)) (hn : NN vx) (hE : El T x) (hL : Led T us) :
    Calls Tryz.prog 86 #[.pointer (some ⟨b, o, none⟩), vu, vx] w (NewT T.length (rep T us x) w) := by
  have hs6 := hs.1
  have hxl : x.length = T.length := El_length hE
  have HP := Lib.hid hP
  have HU := Lib.hid hu
  have HL := Lib.hid hL
  have HE := Lib.hid (show ∀ k, El T (rep T (us.take k) x) from fun k => rep_El hT hg _ (fun u hu => (hL u (List.mem_of_mem_take hu)).1) hE)
  have HTV := Lib.hid (tv_any T hT hs 0 (Nat.zero_le _) hg)
  have HG := Lib.hid (grp hT hg)
  have HCZ := Lib.hid (fun d u y hd hu h1 hy j hj => clj_zero hT hg (d := d) (u := u) (x := y) hd hu h1 hy (j := j) hj)
  have HCL := Lib.hid (clone_some Any vx (ints x) w hx hn (by rw [ints_length]; omega))
  have HPV := Lib.hid (fun W h => pivots_any W vu us h (by omega) (fun u hu => by have h := hL u hu; have := El_length h.1; omega))
  have HF := Lib.hid (fil hT hg)
  obtain ⟨aU, cU, rfl, _, _⟩ := SlG.form hu
  rw [List.length_map] at HU HPV ⊢
  obtain ⟨m, hm⟩ : ∃ m, us.length = m := ⟨_, rfl⟩
  rw [hm] at HU HPV hul ⊢
  have HM := Lib.hid hm
  clear hP hu hx hn hE hL hm hT hs hg
  go_enter Tryz.func86, Tryz.ntmps86
  go_wp2_with fail
  refine HCL.out.mono ?_
  rintro e w1 ⟨g, c, rfl, ho1, hb1⟩
  rw [ints_length, hxl] at ho1 ⊢
  have HB1 := Lib.hid hb1
  have HO1 := Lib.hid ho1
  have HPC := Lib.hid (HPV.out w1 (Sl2.keep HU.out (Keep.of_below hb1)))
  clear ho1 hb1 HCL HPV
  go_wp2_with fail
  refine HPC.out.mono ?_
  rintro e w2 ⟨vp, rfl, hp2, hb2⟩
  obtain ⟨aP, cP, rfl, _⟩ := hp2.open
  rw [List.length_map, HM.out] at hp2 ⊢
  have HB2 := Lib.hid (HB1.out.trans (hb2.mono HB1.out.size))
  have hgl := HO1.out.lt
  have HPP := Lib.hid (hp2.mono (S' := fun k => k ≠ g) (fun k hk => by have := hgl.2; omega))
  have HO2 := Lib.hid (HO1.out.of_below hb2)
  have hgB : w.heap.size ≤ g := hgl.1
  clear hp2 hb2 HPC hgl HB1 HO1
  go_wp2_with fail
  go_loopw [15] (fun iv wr => ∃ i : Nat, i ≤ m ∧ iv = .int .i64 (i : Int) ∧ Hid (Own w.heap.size wr (.slice (some ⟨g, 0, none⟩) T.length c) (ints (rep T (us.take i) x))) ∧ Hid (w2.grownBy wr (some g))) (fun iv _ => m - (intOf iv).toNat)
  case atStart => exact ⟨0, Nat.zero_le _, rfl, HO2, Lib.hid (ImplB.grown_refl _ _)⟩
  case round =>
    obtain ⟨i, hi, rfl, hO, hGr⟩ := hrel
    have HBr := Lib.hid (show Below w.heap.size w wr from HB2.out.grown hGr.out HB2.out.size (by intro k hk; cases hk; exact hgB))
    have hkg := ImplB.keep_grown (S := fun k => k ≠ g) hGr.out (fun h => h rfl)
    by_cases hlt : i < m
    · obtain ⟨u, hu⟩ : ∃ u, us[i]? = some u := ⟨_, List.getElem?_eq_getElem (by rw [HM.out]; omega)⟩
      obtain ⟨huE, hud, hu1⟩ := HL.out u (List.mem_of_getElem? hu)
      obtain ⟨d, hd⟩ : ∃ d, dep u = d := ⟨_, rfl⟩
      rw [hd] at hud hu1
      have hpi := HPP.out.keep hkg
      obtain ⟨bP, oP, rfl, _, hbP, hcP⟩ := SlI.at hpi (j := i) (q := d) (by rw [List.getElem?_map, hu, ← hd]; rfl)
      obtain ⟨y, hy⟩ : ∃ y, rep T (us.take i) x = y := ⟨_, rfl⟩
      have hyE : El T y := hy ▸ HE.out i
      have HUA := Lib.hid (show A (El T) fF d u from hd ▸ dep_A huE)
      have HR1 := Lib.hid (show clj T u y ((oF T d - fF d y) % oF T d) = rep T (us.take (i + 1)) x by rw [clj_end hd, rep_take hu, hy])
      obtain ⟨K, hK⟩ : ∃ K, (oF T d - fF d y) % oF T d = K := ⟨_, rfl⟩
      rw [hK] at HR1
      have HZ := Lib.hid (fun j (hj : j ≤ K) => show fF d (clj T u y j) = 0 ↔ j = K by
        have h := HCZ.out d u y hud HUA.out hu1 hyE j (by rw [hK]; exact hj)
        rw [hK] at h; exact h)
      have HY := Lib.hid hyE
      have HUE := Lib.hid huE
      have HUI := Lib.hid hu
      rw [hy] at hO
      have HY0 := Lib.hid (show clj T u y 0 = y by unfold clj; rw [npow_zero]; exact HG.out.eR hyE)
      have HYJ := Lib.hid (fun j => show El T (clj T u y j) from HG.out.cl hyE (HG.out.npow huE j))
      have hii : (i : Int) < (m : Int) := by omega
      have hd0 : (0 : Int) ≤ (d : Int) := by omega
      have hdi : (d : Int) < (T.length : Int) := by omega
      clear hu huE hu1 hpi hK hy hyE hd hlt hkg HBr
      go_wp2_with fail
      go_loopg [20] K (fun gk dv wr => gk ≤ K ∧ Hid (Own w.heap.size wr (.slice (some ⟨g, 0, none⟩) T.length c) (ints (clj T u y (K - gk)))) ∧ Hid (w2.grownBy wr (some g)))
      case atStart => exact ⟨Nat.le_refl _, by rw [Nat.sub_self, HY0.out]; exact hO, hGr⟩
      case round =>
        clear hO hGr hcP
        obtain ⟨hgK, hO, hGr⟩ := hrel
        have HBr := Lib.hid (show Below w.heap.size w wr from HB2.out.grown hGr.out HB2.out.size (by intro k hk; cases hk; exact hgB))
        obtain ⟨a, ha, hfa⟩ : ∃ a, (clj T u y (K - gk))[d]? = some a ∧ fF d (clj T u y (K - gk)) = a :=
          ⟨_, List.getElem?_eq_getElem (by rw [El_length (HYJ.out _)]; omega), fF_get (List.getElem?_eq_getElem (by rw [El_length (HYJ.out _)]; omega))⟩
        obtain ⟨cA, _⟩ := hO.out.cell (j := d) (a := (a : Int)) (by rw [ints_get, ha]; rfl)
        have hz := HZ.out (K - gk) (by omega)
        rw [hfa] at hz
        have hgw := hO.out.lt.2
        obtain ⟨bU, oU, q, rfl, _, hbU, hcU, hq⟩ := SlG.get HU.out (k := i) (x := ints u) (by rw [List.getElem?_map, HUI.out]; rfl)
        have hkB := Keep.of_below (S := Any) HBr.out
        have hcU' := (hkB.cell (b := bU) (o := oU + i) trivial hbU).trans hcU
        have hbU' : bU < wr.heap.size := Nat.lt_of_lt_of_le hbU hkB.size
        by_cases hg0 : gk = 0
        · subst hg0
          have ha0 : a = 0 := hz.2 (by omega)
          have hne : ((a : Int) != 0) = false := by simp [ha0]
          have HRR := Lib.hid (show Own w.heap.size wr (.slice (some ⟨g, 0, none⟩) T.length c) (ints (rep T (us.take (i + 1)) x)) from by
            have h := hO.out
            rw [Nat.sub_zero, HR1.out] at h
            exact h)
          clear ha hfa hz ha0 hO hq hcU hcU' hkB
          go_wp2_with fail
          go_roundw
          case rel => exact ⟨i + 1, by omega, by go_num, HRR, hGr⟩
          case measure => simp [intOf] <;> omega
        · have ha0 : ¬ a = 0 := fun h => by have := hz.1 h; omega
          have hne : ((a : Int) != 0) = true := by simp; omega
          have HTC := Lib.hid (show Calls Tryz.prog 97 #[.pointer (some ⟨b, o, none⟩), .slice (some ⟨g, 0, none⟩) T.length c, q] wr (ImplB.InPl w.heap.size g c (mul T (clj T u y (K - gk)) u) wr) from
            HTV.out (fun k => k < w.heap.size) wr b o w.heap.size g c q [] (clj T u y (K - gk)) u ((PtrP_lt HP.out).keep (Keep.of_below HBr.out)) ((SlI_lt hq).keep (Keep.of_below HBr.out)) (by omega) rfl (HYJ.out _) HUE.out hO.out)
          have HNX := Lib.hid (show mul T (clj T u y (K - gk)) u = clj T u y (K - (gk - 1)) from by
            rw [show K - (gk - 1) = K - gk + 1 by omega]
            unfold clj
            rw [npow_succ]
            exact HG.out.as HY.out (HG.out.npow HUE.out _) HUE.out)
          clear ha hfa hz ha0 hO hq hcU hkB
          go_wp2_with fail
          refine HTC.out.mono ?_
          rintro e w5 ⟨rfl, ho5, hg5⟩
          rw [HNX.out, El_length (HYJ.out _)] at ho5
          have HO5 := Lib.hid ho5
          have HG5 := Lib.hid (ImplB.grown_trans hGr.out hg5)
          clear ho5 hg5 HTC hcU' cA
          go_wp2_with fail
          go_roundg (gk - 1)
          case measure => omega
          case rel => exact ⟨by omega, HO5, HG5⟩
    · obtain rfl : i = m := by omega
      have HRR := Lib.hid (show NewT T.length (rep T us x) w (.returned (.slice (some ⟨g, 0, none⟩) T.length c)) wr from ⟨g, c, rfl, by
        have h := hO.out
        rw [← HM.out, List.take_length] at h
        exact h, HBr.out⟩)
      clear hO hGr HBr hkg hlt
      go_wp2_with fail
      go_ret
      exact HRR.out
end Go.Proofs.YtabkibmnghbahaaGreat.ChU

/-
  Plain: the canonical sequence from the deepest entry on; what is the sequence of a subgroup; members. No program in sight.
-/
namespace Go.Proofs.YtabkibmnghbahaaGreat.ChP
open Go.RowKit Go.Proofs.YtabkibmnghbahaaGreat Go.Proofs.YtabkibmnghbahaaGreat.Tow Go.Proofs.YtabkibmnghbahaaGreat.Gen Go.Proofs.YtabkibmnghbahaaGreat.GenC Go.Proofs.YtabkibmnghbahaaGreat.GenL Go.Proofs.YtabkibmnghbahaaGreat.GenM Go.Proofs.YtabkibmnghbahaaGreat.Tab Go.Proofs.YtabkibmnghbahaaGreat.SpecO
set_option linter.unusedVariables false
set_option linter.unusedSimpArgs false

theorem usF_from {α : Type} {t t' : Nat → Option α} : ∀ (k d : Nat), (∀ j, d ≤ j → t j = t' j) → usF t k d = usF t' k d
  | 0, d, h => rfl
  | k + 1, d, h => by rw [usF, usF, h d (Nat.le_refl _), usF_from k (d + 1) (fun j hj => h j (by omega))]
theorem usF_none {α : Type} {t : Nat → Option α} {k d : Nat} (h : t d = none) : usF t (k + 1) d = usF t k (d + 1) := by rw [usF, h]
theorem usF_some {α : Type} {t : Nat → Option α} {k d : Nat} {y : α} (h : t d = some y) : usF t (k + 1) d = y :: usF t k (d + 1) := by rw [usF, h]
/-- a table that is canonical from a depth on -/
def CfP (T : Tw) (t : Nat → Option (List Nat)) (d : Nat) (t2 : Nat → Option (List Nat)) : Prop :=
  ∀ j, d ≤ j → (t j = none → t2 j = none) ∧ ∀ y, t j = some y → ∃ r, SDt T t j r ∧ fF j r = 1 ∧ Zs fF t (j + 1) T.length r ∧ t2 j = some r
abbrev CLt (T : Tw) (im : List (List Nat)) (t : Nat → Option (List Nat)) : Prop := Clo (El T) (mul T) (one T) T.length fF (vinv T) im t
theorem CfP.cf {T : Tw} {t t2 : Nat → Option (List Nat)} (h : CfP T t 0 t2) : Cf (El T) (mul T) (one T) T.length fF (vinv T) t t2 := fun d => h d (Nat.zero_le _)
theorem Cf.cfp {T : Tw} {t t2 : Nat → Option (List Nat)} (h : Cf (El T) (mul T) (one T) T.length fF (vinv T) t t2) (d : Nat) : CfP T t d t2 := fun j _ => h j
theorem cf_start {T : Tw} {im : List (List Nat)} {t : Nat → Option (List Nat)} (hc : CLt T im t) : CfP T t T.length (fun _ => none) := fun j hj => by
  cases h : t j with
  | none => exact ⟨fun _ => rfl, fun y hy => by cases hy⟩
  | some y => have := (hc.tb j y h).1; omega
theorem cf_none {T : Tw} {t t2 : Nat → Option (List Nat)} {d k : Nat} (h : CfP T t (d + 1) t2) (ht : t d = none) : ∃ t3, CfP T t d t3 ∧ usF t3 (k + 1) d = usF t2 k (d + 1) := by
  refine ⟨fun j => if j = d then none else t2 j, fun j hj => ?_, ?_⟩
  · by_cases e : j = d
    · subst e
      exact ⟨fun _ => by simp, fun y hy => by rw [ht] at hy; cases hy⟩
    · have := h j (by omega)
      simp only [if_neg e]
      exact this
  · rw [usF_none (by simp)]
    exact usF_from _ _ (fun j hj => by simp; intro h; omega)
theorem CfP.w {T : Tw} {t t2 : Nat → Option (List Nat)} {d : Nat} (h : CfP T t d t2) : ∀ j, d ≤ j → (t j = none → t2 j = none) ∧ ∀ y, t j = some y → ∃ r, SDt T t j r ∧ fF j r = 1 ∧ t2 j = some r := fun j hj =>
  ⟨(h j hj).1, fun y hy => by obtain ⟨r, h1, h2, _, h4⟩ := (h j hj).2 y hy; exact ⟨r, h1, h2, h4⟩⟩
theorem cf_some {T : Tw} (hT : Wf T) (hg : Tow.Good T) {im : List (List Nat)} {t t2 : Nat → Option (List Nat)} (hc : CLt T im t) {d k : Nat} (hd : d + 1 + k = T.length) (h : CfP T t (d + 1) t2) {y : List Nat} (ht : t d = some y) :
    ∃ t3, CfP T t d t3 ∧ usF t3 (k + 1) d = rep T (usF t2 k (d + 1)) y :: usF t2 k (d + 1) := by
  have F := fil hT hg
  obtain ⟨hdn, hyA, hy1⟩ := hc.tb d y ht
  obtain ⟨s, h1, h2, h3⟩ := rep_spec hT hg hc k (d + 1) hd h.w y hyA.1
  have hS := hc.sub d (Nat.le_of_lt hdn)
  obtain ⟨h4, h5⟩ := Sd_succ.1 h1
  have hr := hS.cl (hc.mem d y ht) h4
  have hf : fF d (mul T y s) = 1 := by
    rw [(fr hT hdn hyA.1 h4.1).2, hy1, h5, Nat.add_zero]
    exact Nat.mod_eq_of_lt (by have := F.lt hdn hyA.1; omega)
  refine ⟨put t2 d (mul T y s), fun j hj => ?_, ?_⟩
  · by_cases e : j = d
    · subst e
      exact ⟨fun h => (by rw [ht] at h; cases h), fun z hz => ⟨_, hr, hf, h3, by unfold put; rw [if_pos rfl]⟩⟩
    · have := h j (by omega)
      unfold put
      simp only [if_neg e]
      exact this
  · rw [usF_some (y := mul T y s) (by unfold put; rw [if_pos rfl]), h2]
    refine congrArg _ (usF_from _ _ (fun j hj => ?_))
    unfold put
    rw [if_neg (by omega)]
theorem usF_mem {α : Type} {t : Nat → Option α} {u : α} : ∀ {k d : Nat}, u ∈ usF t k d → ∃ j, d ≤ j ∧ j < d + k ∧ t j = some u
  | 0, d, h => by simp [usF] at h
  | k + 1, d, h => by
    rw [usF] at h
    cases ht : t d with
    | none =>
      rw [ht] at h
      obtain ⟨j, h1, h2, h3⟩ := usF_mem h
      exact ⟨j, by omega, by omega, h3⟩
    | some y =>
      rw [ht] at h
      rcases List.mem_cons.1 h with rfl | h
      · exact ⟨d, Nat.le_refl _, by omega, ht⟩
      · obtain ⟨j, h1, h2, h3⟩ := usF_mem h
        exact ⟨j, by omega, by omega, h3⟩
theorem usF_le {α : Type} (t : Nat → Option α) : ∀ (k d : Nat), (usF t k d).length ≤ k
  | 0, d => by simp [usF]
  | k + 1, d => by
    have := usF_le t k (d + 1)
    rw [usF]
    split
    · omega
    · rw [List.length_cons]; omega
/-- the rows of a table that is canonical: elements, each with a leading entry 1 -/
theorem CfP.row {T : Tw} {t t2 : Nat → Option (List Nat)} {d j : Nat} {u : List Nat} (h : CfP T t d t2) (hj : d ≤ j) (hu : t2 j = some u) : SDt T t j u ∧ fF j u = 1 ∧ Zs fF t (j + 1) T.length u := by
  have h1 := h j hj
  cases ht : t j with
  | none => rw [h1.1 ht] at hu; cases hu
  | some y =>
    obtain ⟨r, h2, h3, h4, h5⟩ := h1.2 y ht
    rw [hu] at h5; injection h5 with h5; subst h5
    exact ⟨h2, h3, h4⟩
theorem fd_cf {T : Tw} (hT : Wf T) (hg : Tow.Good T) {im tl dn : List (List Nat)} (hc : CLO T im tl) (h : FD T tl dn 0) : Cf (El T) (mul T) (one T) T.length fF (vinv T) (tabF tl) (tabF dn) := fun d => by
  have F := fil hT hg
  refine ⟨((h d).1 (Nat.zero_le _)).1, fun y hy => ?_⟩
  obtain ⟨s, h1, h2, h3⟩ := ((h d).1 (Nat.zero_le _)).2 y hy
  obtain ⟨hdn, hyA, hy1⟩ := hc.tb d y hy
  obtain ⟨h4, h5⟩ := Sd_succ.1 h1
  refine ⟨_, (hc.sub d (Nat.le_of_lt hdn)).cl (hc.mem d y hy) h4, ?_, h3, h2⟩
  rw [(fr hT hdn hyA.1 h4.1).2, hy1, h5, Nat.add_zero]
  exact Nat.mod_eq_of_lt (by have := F.lt hdn hyA.1; omega)
/-- the sequence of the subgroup that the rows generate -/
def CanL (T : Tw) (im us : List (List Nat)) : Prop := ∃ t t2, CLt T im t ∧ Cf (El T) (mul T) (one T) T.length fF (vinv T) t t2 ∧ us = usF t2 T.length 0
theorem CanL.uniq {T : Tw} (hT : Wf T) (hg : Tow.Good T) {im us us' : List (List Nat)} (h : CanL T im us) (h' : CanL T im us') : us = us' := by
  obtain ⟨t, t2, h1, h2, rfl⟩ := h
  obtain ⟨t', t2', h1', h2', rfl⟩ := h'
  exact usF_cong _ _ (canon (fil hT hg) (fr hT) h1 h1' h2 h2')
theorem CanL.el {T : Tw} {im us : List (List Nat)} (h : CanL T im us) : ∀ u ∈ us, El T u := by
  obtain ⟨t, t2, h1, h2, rfl⟩ := h
  intro u hu
  obtain ⟨j, _, _, h3⟩ := usF_mem hu
  exact (CfP.row (Cf.cfp h2 0) (Nat.zero_le _) h3).1.1.1
theorem CanL.le {T : Tw} {im us : List (List Nat)} (h : CanL T im us) : us.length ≤ T.length := by
  obtain ⟨t, t2, h1, h2, rfl⟩ := h
  exact usF_le _ _ _
theorem CanL.dep {T : Tw} {im us : List (List Nat)} (h : CanL T im us) : ∀ u ∈ us, GenM.dep u < T.length := by
  obtain ⟨t, t2, h1, h2, rfl⟩ := h
  intro u hu
  obtain ⟨j, _, hj, h3⟩ := usF_mem hu
  have h4 := CfP.row (Cf.cfp h2 0) (Nat.zero_le _) h3
  rw [dep_of h4.1.1 (by rw [h4.2.1]; omega) (by omega)]
  omega
/-- a member has nothing left -/
theorem CanL.rep {T : Tw} (hT : Wf T) (hg : Tow.Good T) {im us : List (List Nat)} (h : CanL T im us) {x : List Nat} (hx : El T x) : GenM.rep T us x = one T ↔ Gen (mul T) (one T) im x := by
  obtain ⟨t, t2, h1, h2, rfl⟩ := h
  obtain ⟨s, h3, h4, h5⟩ := rep_spec hT hg h1 T.length 0 (by omega) (Cf.cfp h2 0).w x hx
  rw [h4]
  exact has_iff (fil hT hg) h1 hx h3 h5

/-- an element with the entries of a table taken out on the right -/
noncomputable def redT (T : Tw) (t : Nat → Option (List Nat)) : Nat → Nat → List Nat → List Nat
  | 0, _, x => x
  | k + 1, d, x => redT T t k (d + 1) (match t d with
    | none => x
    | some u => if fF d x = 0 then x else mul T x (npow (mul T) (one T) (vinv T u) (fF d x)))
theorem red_none {T : Tw} {t : Nat → Option (List Nat)} {k d : Nat} {x : List Nat} (h : t d = none) : redT T t (k + 1) d x = redT T t k (d + 1) x := by rw [redT, h]
theorem red_zero {T : Tw} {t : Nat → Option (List Nat)} {k d : Nat} {x : List Nat} (h : fF d x = 0) : redT T t (k + 1) d x = redT T t k (d + 1) x := by
  rw [redT]
  split
  · rfl
  · rw [if_pos h]
theorem red_some {T : Tw} {t : Nat → Option (List Nat)} {k d : Nat} {x u : List Nat} (h : t d = some u) (h0 : fF d x ≠ 0) : redT T t (k + 1) d x = redT T t k (d + 1) (mul T x (npow (mul T) (one T) (vinv T u) (fF d x))) := by
  rw [redT, h]
  simp only [if_neg h0]
theorem red_spec {T : Tw} (hT : Wf T) (hg : Tow.Good T) {im : List (List Nat)} {t t2 : Nat → Option (List Nat)} (hc : CLt T im t) :
    ∀ (k d : Nat), d + k = T.length → CfP T t d t2 → ∀ x, El T x → ∃ s, SDt T t d s ∧ redT T t2 k d x = mul T x s ∧ Zs fF t d T.length (mul T x s)
  | 0, d, hd, ht, x, hx => ⟨one T, (hc.sub d (by omega)).me, by rw [(grp hT hg).eR hx]; rfl, fun i h1 h2 => by omega⟩
  | k + 1, d, hd, ht, x, hx => by
    have F := fil hT hg
    have G := F.G
    have hS := hc.sub d (by omega)
    have ih := red_spec hT hg hc k (d + 1) (by omega) (fun j hj => ht j (by omega))
    have key : ∀ z, SDt T t d z → El T (mul T x z) → fF d (mul T x z) = 0 → redT T t2 (k + 1) d x = redT T t2 k (d + 1) (mul T x z) → ∃ s, SDt T t d s ∧ redT T t2 (k + 1) d x = mul T x s ∧ Zs fF t d T.length (mul T x s) := by
      intro z hz hzE hz0 hz1
      obtain ⟨s, h1, h2, h3⟩ := ih (mul T x z) hzE
      have e : mul T (mul T x z) s = mul T x (mul T z s) := G.as hx hz.1.1 h1.1.1
      refine ⟨mul T z s, hS.cl hz (Sd_succ.1 h1).1, by rw [hz1, h2, e], fun i hi hn hne => ?_⟩
      rw [← e]
      rcases Nat.lt_or_ge d i with hlt | hge
      · exact h3 i hlt hn hne
      · obtain rfl : i = d := by omega
        have hA1 : A (El T) fF (i + 1) s := h1.1
        rcases Nat.lt_or_ge (i + 1) T.length with hlt | hge'
        · rw [(fr hT hlt hzE hA1).1 i (by omega)]; exact hz0
        · have hs1 : s = one T := F.ze h1.1.1 fun j hj => hA1.2 j (by omega)
          rw [hs1, G.eR hzE]; exact hz0
    by_cases h0 : fF d x = 0
    · exact key (one T) hS.me (by rw [G.eR hx]; exact hx) (by rw [G.eR hx]; exact h0) (by rw [G.eR hx]; exact red_zero h0)
    · cases hy : t d with
      | none =>
        obtain ⟨s, h1, h2, h3⟩ := ih x hx
        refine ⟨s, (Sd_succ.1 h1).1, by rw [red_none ((ht d (Nat.le_refl _)).1 hy)]; exact h2, fun i hi hn hne => ?_⟩
        rcases Nat.lt_or_ge d i with hlt | hge
        · exact h3 i hlt hn hne
        · obtain rfl : i = d := by omega
          exact absurd hy hne
      | some y =>
        obtain ⟨r, hr, hr1, _, hr2⟩ := (ht d (Nat.le_refl _)).2 y hy
        have hj : d < T.length := by omega
        have hp := hS.npow (F.sub_inv hS hr) (fF d x)
        have hqa := hS.npow hr (fF d x)
        have hR := fr hT hj hx hp.1
        have e1 : fF d (mul T (npow (mul T) (one T) r (fF d x)) (npow (mul T) (one T) (vinv T r) (fF d x))) = 0 := by rw [(F.inv_pow hr.1.1 _).1, F.fe d hj]
        rw [F.fm hj hqa.1.1 hp.1.1 hqa.1.2 hp.1.2, F.f_npow hj hr.1, hr1, Nat.mul_one, Nat.mod_add_mod] at e1
        exact key _ hp (G.cl hx hp.1.1) (by rw [hR.2]; exact e1) (red_some hr2 h0)
/-- rows laid by depth -/
def tbl (n : Nat) (us : List (List Nat)) : List (List Nat) := us.foldl (fun tl u => tl.set (GenM.dep u) u) (List.replicate n [])
theorem tbl_len (us : List (List Nat)) : ∀ tl : List (List Nat), (us.foldl (fun tl u => tl.set (GenM.dep u) u) tl).length = tl.length := by
  induction us with
  | nil => intro tl; rfl
  | cons u us ih => intro tl; rw [List.foldl_cons, ih, List.length_set]
theorem tbl_usF {n : Nat} {t2 : Nat → Option (List Nat)} (hd : ∀ j u, t2 j = some u → GenM.dep u = j ∧ u ≠ [] ∧ j < n) : ∀ (k d : Nat) (tl : List (List Nat)), d + k = n → tl.length = n → ∀ j, (j < d → tabF ((usF t2 k d).foldl (fun tl u => tl.set (GenM.dep u) u) tl) j = tabF tl j) ∧
      (d ≤ j → tabF ((usF t2 k d).foldl (fun tl u => tl.set (GenM.dep u) u) tl) j = match t2 j with | none => tabF tl j | some u => some u)
  | 0, d, tl, hk, hl, j => by
    refine ⟨fun _ => rfl, fun hj => ?_⟩
    cases h : t2 j with
    | none => rfl
    | some u => have := (hd j u h).2.2; omega
  | k + 1, d, tl, hk, hl, j => by
    cases h : t2 d with
    | none =>
      rw [usF_none h]
      have ih := tbl_usF hd k (d + 1) tl (by omega) hl j
      refine ⟨fun hj => ih.1 (by omega), fun hj => ?_⟩
      rcases Nat.lt_or_ge d j with h1 | h1
      · exact ih.2 h1
      · obtain rfl : j = d := by omega
        rw [ih.1 (by omega), h]
    | some u =>
      obtain ⟨h2, h3, h4⟩ := hd d u h
      rw [usF_some h, List.foldl_cons, h2]
      have ih := tbl_usF hd k (d + 1) (tl.set d u) (by omega) (by simp [hl]) j
      have hset : tabF (tl.set d u) j = put (tabF tl) d u j := by rw [tabF_set (by omega) h3]
      refine ⟨fun hj => ?_, fun hj => ?_⟩
      · rw [ih.1 (by omega), hset]; unfold put; rw [if_neg (by omega)]
      · rcases Nat.lt_or_ge d j with h1 | h1
        · rw [ih.2 h1, hset]; unfold put; rw [if_neg (by omega)]
        · obtain rfl : j = d := by omega
          rw [ih.1 (by omega), hset, h]; unfold put; rw [if_pos rfl]
theorem CanL.tbl {T : Tw} (hn : 0 < T.length) {us : List (List Nat)} {t t2 : Nat → Option (List Nat)} (h2 : CfP T t 0 t2) (hb : ∀ j, T.length ≤ j → t2 j = none) (h : us = usF t2 T.length 0) : tabF (ChP.tbl T.length us) = t2 := by
  funext j
  have hd : ∀ j u, t2 j = some u → GenM.dep u = j ∧ u ≠ [] ∧ j < T.length := fun j u hu => by
    have hj : j < T.length := by
      refine Nat.lt_of_not_le fun h => ?_
      rw [hb j h] at hu; cases hu
    obtain ⟨h1, h3, _⟩ := h2.row (Nat.zero_le _) hu
    refine ⟨dep_of h1.1 (by omega) hj, fun e => ?_, hj⟩
    have := El_length h1.1.1
    rw [e] at this
    simp at this; omega
  rw [h]
  unfold ChP.tbl
  rw [(tbl_usF hd T.length 0 (List.replicate T.length []) (by omega) (by simp) j).2 (Nat.zero_le _), tabF_replicate]
  cases t2 j <;> rfl
theorem CanL.red {T : Tw} (hT : Wf T) (hg : Tow.Good T) (hn : 0 < T.length) {im us : List (List Nat)} (h : CanL T im us) {x : List Nat} (hx : El T x) : redT T (tabF (ChP.tbl T.length us)) T.length 0 x = one T ↔ Gen (mul T) (one T) im x := by
  obtain ⟨t, t2, h1, h2, h3⟩ := h
  have hb : ∀ j, T.length ≤ j → t2 j = none := fun j hj => by
    refine (h2 j).1 ?_
    cases ht : t j with
    | none => rfl
    | some y => have := (h1.tb j y ht).1; omega
  rw [CanL.tbl hn (Cf.cfp h2 0) hb h3]
  obtain ⟨s, h3, h4, h5⟩ := red_spec hT hg h1 T.length 0 (by omega) (Cf.cfp h2 0) x hx
  rw [h4]
  exact has_iff (fil hT hg) h1 hx h3 h5
theorem red_El {T : Tw} (hT : Wf T) (hg : Tow.Good T) {t : Nat → Option (List Nat)} (ht : ∀ j u, t j = some u → El T u) : ∀ (k d : Nat) (x : List Nat), El T x → El T (redT T t k d x)
  | 0, d, x, hx => hx
  | k + 1, d, x, hx => by
    have F := fil hT hg
    rw [redT]
    refine red_El hT hg ht k (d + 1) _ ?_
    split
    · exact hx
    · next u hu =>
      split
      · exact hx
      · exact F.G.cl hx (F.G.npow (F.iM (ht _ _ hu)) _)
end Go.Proofs.YtabkibmnghbahaaGreat.ChP

/-
  The method canonical, impl.generated.
-/
namespace Go.Proofs.YtabkibmnghbahaaGreat.ChW
open Go.RowKit Go.Proofs.YtabkibmnghbahaaGreat Go.Proofs.YtabkibmnghbahaaGreat.Tow Go.Proofs.YtabkibmnghbahaaGreat.Gen Go.Proofs.YtabkibmnghbahaaGreat.GenC Go.Proofs.YtabkibmnghbahaaGreat.GenL Go.Proofs.YtabkibmnghbahaaGreat.GenM Go.Proofs.YtabkibmnghbahaaGreat.Tab Go.Proofs.YtabkibmnghbahaaGreat.ImplD Go.Proofs.YtabkibmnghbahaaGreat.SpecO Go.Proofs.YtabkibmnghbahaaGreat.ChA Go.Proofs.YtabkibmnghbahaaGreat.ChP Go.Proofs.YtabkibmnghbahaaGreat.ChD Go.Proofs.YtabkibmnghbahaaGreat.ChS Go.Proofs.YtabkibmnghbahaaGreat.ChT Go.Proofs.YtabkibmnghbahaaGreat.ChU
set_option linter.unusedVariables false
set_option linter.unusedSimpArgs false

theorem own_sl2 {e2 : TypeId} {B : Nat} {w : World} {v : Value} {rows : List (List Nat)} {qs : List Value} (h : w.ownsRow B e2 1 v rows.length qs) (hl : qs.length = rows.length)
    (hr : ∀ (i : Nat) (r : List Nat) (u : Value), rows[i]? = some r → qs[i]? = some u → SlI (fun k => B ≤ k) w u (ints r)) : Sl2 (fun k => B ≤ k) w v (rows.map ints) := by
  rcases h.2 with ⟨rfl, h0⟩ | ⟨g, cap, cur, rfl, hb, hgg, hn, hm, hs, ht⟩
  · obtain rfl : rows = [] := List.eq_nil_of_length_eq_zero h0
    exact ⟨none, 0, rfl, Nat.le_refl _, by simp, fun _ => rfl, fun i x hx => by simp at hx⟩
  · refine ⟨some ⟨g, 0, none⟩, cap, by simp, by simpa using hn, hm, by simp, fun i r hr' => ?_⟩
    simp only [List.getElem?_map, Option.map_eq_some_iff] at hr'
    obtain ⟨r', hr', rfl⟩ := hr'
    have hi := (List.getElem?_eq_some_iff.1 hr').1
    obtain ⟨u, hu⟩ : ∃ u, qs[i]? = some u := ⟨_, List.getElem?_eq_getElem (by omega)⟩
    refine ⟨g, 0, rfl, hb, (Array.getElem?_eq_some_iff.1 hgg).1, u, ?_, hr i r' u hr' hu⟩
    rw [Nat.zero_add, World.ownsRow.cellAt h i (by omega)]; exact hu
def CanN (T : Tw) (im : List (List Nat)) (w : World) (e : Ending) (w' : World) : Prop := ∃ v us, e = .returned v ∧ CanL T im us ∧ Sl2 (fun k => w.heap.size ≤ k) w' v (us.map ints) ∧ Below w.heap.size w w'
def CanR (T : Tw) (im : List (List Nat)) (w : World) (e : Ending) (w' : World) : Prop := ∃ v us, e = .returned v ∧ CanL T im us ∧ Sl2 Any w' v (us.map ints) ∧ Below w.heap.size w w'
/-- the sequence from a depth on -/
def CnK (T : Tw) (tl : List (List Nat)) (k : Nat) (us : List (List Nat)) : Prop := ∃ t2, CfP T (tabF tl) k t2 ∧ us = usF t2 (T.length - k) k
theorem CnK.led {T : Tw} {tl us : List (List Nat)} {k : Nat} (hk : k ≤ T.length) (h : CnK T tl k us) : Led T us := by
  obtain ⟨t2, h1, rfl⟩ := h
  intro u hu
  obtain ⟨j, h2, h3, h4⟩ := usF_mem hu
  obtain ⟨h5, h6, _⟩ := h1.row h2 h4
  have hd := dep_of h5.1 (by omega) (show j < T.length by omega)
  exact ⟨h5.1.1, by omega, by rw [hd]; exact h6⟩
theorem CnK.len {T : Tw} {tl us : List (List Nat)} {k : Nat} (h : CnK T tl k us) : us.length ≤ T.length := by
  obtain ⟨t2, h1, rfl⟩ := h
  have := usF_le t2 (T.length - k) k
  omega
theorem CnK.start {T : Tw} {im tl : List (List Nat)} (hc : CLO T im tl) : CnK T tl T.length [] := ⟨_, cf_start hc, by rw [Nat.sub_self]; rfl⟩
theorem CnK.none {T : Tw} {tl us : List (List Nat)} {k : Nat} (hk : k < T.length) (h : CnK T tl (k + 1) us) (ht : tabF tl k = Option.none) : CnK T tl k us := by
  obtain ⟨t2, h1, rfl⟩ := h
  obtain ⟨t3, h2, h3⟩ := cf_none (k := T.length - (k + 1)) h1 ht
  exact ⟨t3, h2, by rw [← h3, show T.length - (k + 1) + 1 = T.length - k by omega]⟩
theorem CnK.some {T : Tw} (hT : Wf T) (hg : Tow.Good T) {im tl us : List (List Nat)} {k : Nat} {y : List Nat} (hc : CLO T im tl) (hk : k < T.length) (h : CnK T tl (k + 1) us) (ht : tabF tl k = Option.some y) : CnK T tl k (rep T us y :: us) := by
  obtain ⟨t2, h1, rfl⟩ := h
  obtain ⟨t3, h2, h3⟩ := cf_some hT hg hc (k := T.length - (k + 1)) (by omega) h1 ht
  exact ⟨t3, h2, by rw [← h3, show T.length - (k + 1) + 1 = T.length - k by omega]⟩
theorem CnK.done {T : Tw} {im tl us : List (List Nat)} (hc : CLO T im tl) (h : CnK T tl 0 us) : CanL T im us := by
  obtain ⟨t2, h1, rfl⟩ := h
  exact ⟨_, t2, hc, h1.cf, by rw [Nat.sub_zero]⟩

set_option maxRecDepth 100000 in
set_option maxHeartbeats 4000000 in
theorem cann_any (T : Tw) (hT : Wf T) (hs : Small T) (hg : Tow.Good T) (im tl : List (List Nat)) (S : Nat → Prop) (w : World) (b o sb gb : Nat) (hP : PtrP Any w b o (ofTw T)) (hQ : SeqR w b o sb gb S T.length tl) (hc : CLO T im tl) :
    Calls Tryz.prog 51 #[.pointer (some ⟨sb, 0, none⟩)] w (CanN T im w) := by
  obtain ⟨i0, hi, hz0, hz1, hz2⟩ := info_parts infoR
  have HP := Lib.hid hP
  have HQ := Lib.hid hQ
  have HC := Lib.hid hc
  have HTB := Lib.hid hc.tb
  have hs6 := hs.1
  have HREP := Lib.hid (fun W vu vx us x h1 h2 h3 h4 h5 h6 h7 => rep_any T hT hs hg W b o vu vx us x h1 h2 h3 h4 h5 h6 h7)
  have HSO := Lib.hid (fun us k y hk h ht => CnK.some hT hg hc (us := us) (k := k) (y := y) hk h ht)
  have HNO := Lib.hid (fun us k hk h ht => CnK.none (T := T) (tl := tl) (us := us) (k := k) hk h ht)
  have hne := fun (w : World) (a : Option Addr) (n c : Nat) => run_neq_slice_nil (P := Tryz.prog) w 22 2 a n c Tryz.underlying22
  have s0 := hQ.c0
  have s1 := hQ.c1
  have hsb := hQ.hs
  have hw1 : IntKind.i64.wrap ((T.length : Int) - 1) = (T.length : Int) - 1 := IntWalk.i64_in _ (by omega)
  have HST := Lib.hid (CnK.start hc)
  have HRL := Lib.hid (fun us (hu : ∀ u ∈ us, El T u) x hx => rep_El hT hg us (x := x) hu hx)
  clear hP hQ hc hT hs hg
  go_enter Tryz.func51, Tryz.ntmps51
  go_wp2_with fail
  go_loopw [3, 4] (fun ov dv wr => ∃ (k : Nat) (d : Int) (us : List (List Nat)), k ≤ T.length ∧ d = (k : Int) - 1 ∧ dv = .int .i64 d ∧ Hid (CnK T tl k us) ∧ Hid (Sl2 (fun k => w.heap.size ≤ k) wr ov (us.map ints)) ∧ Hid (Below w.heap.size w wr)) (fun _ dv _ => (intOf dv + 1).toNat)
  case atStart => exact ⟨T.length, _, [], Nat.le_refl _, rfl, by first | rfl | simp [hw1], HST, Lib.hid ⟨none, 0, rfl, Nat.le_refl _, by simp, fun _ => rfl, fun i x hx => by simp at hx⟩, Lib.hid (Below.refl _ _)⟩
  case round =>
    obtain ⟨k, d, us, hk, hd, rfl, hU, hO, hB⟩ := hrel
    clear s0 s1 hsb
    have HQr := Lib.hid (HQ.out.below hB.out)
    cases k with
    | zero =>
      obtain rfl : d = -1 := by omega
      have hq0 : decide ((-1 : Int) ≥ 0) = false := by decide
      have HR := Lib.hid (show ∀ ov, Sl2 (fun k => w.heap.size ≤ k) wr ov (us.map ints) → CanN T im w (.returned ov) wr from fun ov h => ⟨ov, us, rfl, CnK.done HC.out hU.out, h, hB.out⟩)
      have HRR := Lib.hid (HR.out _ hO.out)
      clear hd HR hO hB
      go_wp2_with fail
      go_ret
      exact HRR.out
    | succ k =>
      obtain rfl : d = (k : Int) := by omega
      have hq0 : decide ((k : Int) ≥ 0) = true := by simp
      have hk0 : (0 : Int) ≤ (k : Int) := by omega
      have hki : (k : Int) < (T.length : Int) := by omega
      have hwk : IntKind.i64.wrap ((k : Int) - 1) = (k : Int) - 1 := IntWalk.i64_in _ (by omega)
      obtain ⟨r, hr⟩ : ∃ r, tl[k]? = some r := ⟨_, List.getElem?_eq_getElem (by rw [HQr.out.ln]; omega)⟩
      obtain ⟨u, hcu, _, hru⟩ := HQr.out.tb.at hr
      have s0 := HQr.out.c0
      have s1 := HQr.out.c1
      have hsb := HQr.out.hs
      have hgb := HQr.out.tb.lt
      rcases hru with ⟨rfl, rfl⟩ | ⟨hr0, hru⟩
      · have HN := Lib.hid (HNO.out us k (by omega) hU.out (tabF_none hr))
        clear hr hd
        go_wp2_with fail
        go_roundw
        case rel => exact ⟨k, _, us, by omega, rfl, by first | rfl | simp [hwk], HN, hO, hB⟩
        case measure => simp [intOf, hwk] <;> omega
      · have HTS := Lib.hid (tabF_some hr hr0)
        have HRE := Lib.hid (HTB.out k r HTS.out).2.1.1
        have hrl : r.length = T.length := El_length HRE.out
        obtain ⟨aR, cR, rfl, _⟩ := SlI.open hru
        rw [hrl] at hcu hru
        obtain ⟨bR, oR, rfl⟩ : ∃ bR oR, aR = some ⟨bR, oR, none⟩ := by
          obtain ⟨bR, oR, h, _⟩ := SlI.at hru (j := 0) (q := r[0]'(by omega)) (List.getElem?_eq_getElem _)
          exact ⟨bR, oR, h⟩
        have HLE := Lib.hid (CnK.led hk hU.out)
        have HUL := Lib.hid (CnK.len hU.out)
        have HN := Lib.hid (HSO.out us k r (by omega) hU.out HTS.out)
        have HPr := Lib.hid (HP.out.keep (Keep.of_below hB.out))
        have HRU := Lib.hid (hru.mono (S' := Any) (fun _ _ => trivial))
        have HRN := Lib.hid (show NN (.slice (some ⟨bR, oR, none⟩) T.length cR) from fun n c e => by simp at e)
        obtain ⟨y, hy⟩ : ∃ y, rep T us r = y := ⟨_, rfl⟩
        rw [hy] at HN
        have HY := Lib.hid hy
        clear hr hr0 hru hrl hd hy
        go_wp2_with fail
        go_region_held3 (fun w' => (∀ b o, b < wr.heap.size → w'.cell? ⟨b, o, none⟩ = wr.cell? ⟨b, o, none⟩) ∧ Keep (fun _ => True) wr w')
          (first | exact ks_mk (by repeat (first | exact (Keep.refl _ _).drew | exact Keep.refl _ _ | refine Keep.trans ?_ (Keep.of_below (by assumption)))))
          (first | (go_at_call 86; refine (HREP.out _ _ (.slice (some ⟨bR, oR, none⟩) T.length cR) us r (HPr.out.keep (by repeat (first | exact (Keep.refl _ _).drew | exact Keep.refl _ _))) (Sl2.mono (Sl2.keep (S := fun k => w.heap.size ≤ k) hO.out (by repeat (first | exact (Keep.refl _ _).drew | exact Keep.refl _ _))) (fun _ _ => trivial)) (Nat.le_trans HUL.out hs6) (HRU.out.keep (by repeat (first | exact (Keep.refl _ _).drew | exact Keep.refl _ _))) HRN.out HRE.out HLE.out).mono ?_; rintro e w5 ⟨g5, c5, rfl, ho5, hb5⟩))
        rename_i hHd
        clear hHd
        rw [HY.out] at ho5
        have hb45 : Below wr.heap.size wr w5 := ((Below.refl _ _).drew).trans hb5
        have HB5 := Lib.hid (hB.out.trans (hb45.mono hB.out.size))
        have HX5 := Lib.hid (ho5.sl.mono (S' := fun k => w.heap.size ≤ k) (fun k hk => Nat.le_trans hB.out.size hk))
        have HO5 := Lib.hid (Sl2.keep hO.out (Keep.of_below hb45))
        have HBA := Lib.hid (HB5.out.alloc HB5.out.size (.cells #[.slice (some ⟨g5, 0, none⟩) T.length c5] 22))
        have HLIT := Lib.hid (World.ownsRow_lit (base := w.heap.size) (e := 22) (size := 1) w5 #[.slice (some ⟨g5, 0, none⟩) T.length c5] 1 HB5.out.size (by unfold maxLen; omega) rfl)
        clear ho5 hb5 hb45 hcu s0 s1 hsb hgb
        obtain ⟨ao, cO, hov, _, _⟩ := SlG.form HO5.out
        rw [List.length_map] at hov
        subst hov
        cases ao with
        | none =>
          obtain ⟨hus, rfl⟩ : us = [] ∧ cO = 0 := by
            obtain ⟨ao', c', e1, e2, _, e3, _⟩ := HO5.out
            simp only [Value.slice.injEq] at e1
            obtain ⟨rfl, e4, rfl⟩ := e1
            have h0 := e3 rfl
            exact ⟨List.eq_nil_of_length_eq_zero (by rw [List.length_map] at e2; omega), h0⟩
          subst hus
          have HF := Lib.hid (show Sl2 (fun k => w.heap.size ≤ k) (w5.alloc (.cells #[.slice (some ⟨g5, 0, none⟩) T.length c5] 22)) (.slice (some ⟨w5.heap.size, 0, none⟩) 1 1) ([y].map ints) from own_sl2 (qs := [.slice (some ⟨g5, 0, none⟩) T.length c5]) HLIT.out rfl (fun i r u h1 h2 => by
            match i, h1, h2 with
            | 0, h1, h2 => simp at h1 h2; subst h1; subst h2; exact HX5.out.keep ((Keep.refl _ _).alloc _)))
          clear hO
          go_wp2_with (at_builtin; (refine wpList_append_own_none rfl _ _ 23 rfl w.heap.size 22 i0 1 Tryz.underlying23 hi _ 1 _ rfl HLIT.out rfl ?_))
          go_wp2_with fail
          go_roundw
          case rel => exact ⟨k, _, [y], by omega, rfl, by first | rfl | simp [hwk], HN, HF, HBA⟩
          case measure => simp [intOf, hwk] <;> omega
        | some ad =>
          obtain ⟨qs, h1, h2, h3, h4⟩ := sl2_src HO5.out
          have hlt : ∀ j u, qs[j]? = some u → (w5.alloc (.cells #[.slice (some ⟨g5, 0, none⟩) T.length c5] 22)).cell? (ad.add j) = some u := fun j u hu => by
            have h := h3 j u hu
            have hb : (ad.add j).block < w5.heap.size := by
              rcases Nat.lt_or_ge (ad.add j).block w5.heap.size with h' | h'
              · exact h'
              · simp [World.cell?, Array.getElem?_eq_none h'] at h
            rw [World.cell?_of_block (w := w5) (Below.heap_alloc w5 _ _ hb)]; exact h
          have C1 := Lib.hid hlt
          have C2 := Lib.hid h4
          have hul6 : us.length ≤ 6 := Nat.le_trans HUL.out hs6
          have C3 := Lib.hid (show 1 + us.length ≤ maxLen by unfold maxLen; omega)
          have C4 := Lib.hid (show (1 + us.length) * 24 ≤ 140737488355328 by omega)
          have C5 := Lib.hid (show qs.length = us.length * 1 by omega)
          have C6 := Lib.hid (And.intro h1 h2)
          clear h1 h2 h3 h4 hlt hO
          go_wp2_with (at_builtin; refine wpList_append_own _ rfl _ _ 23 rfl w.heap.size 22 i0 (.slice none 0 0) 1 24 Tryz.underlying23 hi hz0 hz1 hz2 rfl (by decide) _ _ _ rfl HLIT.out ad us.length cO qs rfl C5.out C1.out C2.out C3.out C4.out (by have := HB5.out.size; simp; omega) ?_)
          intro v' w6 hown' hgrow hnil
          have HF := Lib.hid (show Sl2 (fun k => w.heap.size ≤ k) w6 v' ((y :: us).map ints) from own_sl2 (qs := .slice (some ⟨g5, 0, none⟩) T.length c5 :: qs) (B := w.heap.size) (e2 := 22) (by rw [List.length_cons, Nat.add_comm]; simpa using hown') (by simp [C6.out.1]) (fun i r u h1 h2 => by
            have key : ∀ v l, SlI (fun k => w.heap.size ≤ k) w5 v l → SlI (fun k => w.heap.size ≤ k) w6 v l := fun v l h =>
              (((SlI_in h).keep ((Keep.refl _ w5).alloc (.cells #[.slice (some ⟨g5, 0, none⟩) T.length c5] 22))).keep (Keep.grown hgrow (fun k hk e => by simp [Value.ownBlock] at e; omega))).mono (fun k hk => hk.1)
            cases i with
            | zero => simp at h1 h2; subst h1; subst h2; exact key _ _ HX5.out
            | succ i => exact key _ _ (C6.out.2 i r u (by simpa using h1) (by simpa using h2))))
          have HB6 := Lib.hid (show Below w.heap.size w w6 from HBA.out.grown hgrow HBA.out.size (fun g hg => (World.ownsRow.lt HLIT.out g hg).1))
          clear hown' hgrow hnil
          go_wp2_with fail
          go_roundw
          case rel => exact ⟨k, _, y :: us, by omega, rfl, by first | rfl | simp [hwk], HN, HF, HB6⟩
          case measure => simp [intOf, hwk] <;> omega

theorem can_any (T : Tw) (hT : Wf T) (hs : Small T) (hg : Tow.Good T) (im tl : List (List Nat)) (S : Nat → Prop) (w : World) (b o sb gb : Nat) (hP : PtrP Any w b o (ofTw T)) (hQ : SeqR w b o sb gb S T.length tl) (hc : CLO T im tl) :
    Calls Tryz.prog 51 #[.pointer (some ⟨sb, 0, none⟩)] w (CanR T im w) := by
  refine (cann_any T hT hs hg im tl S w b o sb gb hP hQ hc).mono ?_
  rintro e w' ⟨v, us, h1, h2, h3, h4⟩
  exact ⟨v, us, h1, h2, Sl2.mono h3 (fun _ _ => trivial), h4⟩

set_option maxHeartbeats 1000000 in
theorem gen_any (T : Tw) (hT : Wf T) (hs : Small T) (hg : Tow.Good T) (hp : SpecI.Pr T) (w : World) (b o : Nat) (vl : Value) (im : List (List Nat)) (hP : PtrP Any w b o (ofTw T)) (hl : Sl2 Any w vl (im.map ints)) (him : ∀ x ∈ im, El T x) (h6 : im.length ≤ 6) :
    Calls Tryz.prog 69 #[.pointer (some ⟨b, o, none⟩), vl] w (CanR T im w) := by
  have HNW := Lib.hid (newSeq_any T hs.1 w b o hP)
  have HAD := Lib.hid (fun W sb gb h1 h2 h3 => add_any T hT hs hg hp W b o sb gb vl im h1 h2 h3 him h6)
  have HCN := Lib.hid (fun tl S W sb gb h1 h2 h3 => can_any T hT hs hg im tl S W b o sb gb h1 h2 h3)
  have HP := Lib.hid hP
  have HL := Lib.hid hl
  clear hP hl him h6 hT hs hg hp
  go_enter Tryz.func69, Tryz.ntmps69
  go_wp2_with fail
  refine HNW.out.mono ?_
  rintro e w1 ⟨sb, gb, rfl, hgb, hsb, hq, hb1⟩
  have HAC := Lib.hid (HAD.out w1 sb gb (((PtrP_lt HP.out).keep (Keep.of_below hb1)).mono (fun k hk => by omega)) hq ((Sl2.keep (Sl2_lt HL.out) (Keep.of_below hb1)).mono (fun k hk => by omega)))
  have HB1 := Lib.hid hb1
  clear hq hb1 HNW HAD
  go_wp2_with fail
  refine HAC.out.mono ?_
  rintro e w2 ⟨bl, tl, rfl, hc, hq, hgr⟩
  have HB2 := Lib.hid (show Below w.heap.size w w2 from HB1.out.grown hgr HB1.out.size (by intro k hk; cases hk; exact hgb))
  have HCC := Lib.hid (HCN.out tl _ w2 sb gb (HP.out.keep (Keep.of_below HB2.out)) hq hc)
  clear hc hq hgr HAC HB1
  go_wp2_with fail
  refine HCC.out.mono ?_
  rintro e w3 ⟨v, us, rfl, h1, h2, h3⟩
  have HR := Lib.hid (show CanR T im w (.returned v) w3 from ⟨v, us, rfl, h1, h2, HB2.out.trans (h3.mono HB2.out.size)⟩)
  clear h1 h2 h3 HCC
  go_wp2_with fail
  go_ret
  exact HR.out
end Go.Proofs.YtabkibmnghbahaaGreat.ChW

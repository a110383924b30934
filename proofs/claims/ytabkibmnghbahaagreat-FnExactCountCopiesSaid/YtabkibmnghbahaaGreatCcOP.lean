import Derived.Test.YtabkibmnghbahaaGreatCcJM
import Derived.Test.YtabkibmnghbahaaGreatCcGI
import Derived.Maps.OwnOps
import Derived.Maps.OwnSet
import Derived.Maps.Views
import Derived.Test.YtabkibmnghbahaaGreatImplY
/-
  The search for all subgroups: plain; the maps of the search.
-/
namespace Go.Proofs.YtabkibmnghbahaaGreat.CcO
open Go Go.Maps
set_option linter.unusedVariables false
set_option linter.unusedSimpArgs false

/-- an entry of a map's literal -/
theorem wpList_insert_own {H : Type} {P : Program} (w : World) {ops : Array Oper} {rest : List Oper} {o : Oper} {a : Act} {Q : Exit → Act → World → Prop}
    (hg : o.guard = none) (m x v : Operand) (t : TypeId) (hop : o.op = Op.insert t m x v)
    (k e : TypeId) (K : Keyed P k) (ht : P.underlying t = some (.map k e)) (R : Value → Option (DataW H × List MemPlace)) (b n : Nat) (D : DataW H)
    (hm : a.eval m = .map (some b)) (hown : w.ownsMap P k R b n D) (hn : n < maxLen) (key val : Value) (kl : Lit) (hx : a.eval x = key) (hv : a.eval v = val) (hkey : keyOf P k key = some kl)
    (d : DataW H) (ps : List MemPlace) (hval : R val = some (d, ps))
    (hK : ∀ w', w'.ownsMap P k R b (n + 1) (D.put kl d) → w.grownBy w' (some b) → wpList P ops Q rest (a.put o.dst undef) w') :
    wpList P ops Q (o :: rest) a w := by
  refine wpList_plain hg fun K' hK' => ?_
  obtain ⟨w', hrun, r1, r2⟩ := hown.update K ht hn hkey hval
  unfold Oper.wp
  simp [execOp, hop, hm, hx, hv, hrun, Result.andThen]
  exact hK' _ _ (hK w' r1 r2)
/-- a look-up of a number, at a step of a region that draws its order -/
theorem step_lookup_own_int {H : Type} {P : Program} (w : World) {ops : Array Oper} {o : Oper} {a : Act} {K : Act → World → Prop} {Q : Exit → Act → World → Prop} {E : Prop}
    (hgd : o.guard = none) (m x : Operand) (t : TypeId) (hop : o.op = Op.lookup t m x false)
    (k e : TypeId) (q : IntKind) (KK : Keyed P k) (ht : P.underlying t = some (.map k e)) (he : P.underlying e = some (.int q)) (hz : (zeroValue e).run P w = .ok (.int q 0) w) (b n : Nat) (D : DataW H)
    (hm : a.eval m = .map (some b)) (hown : w.ownsMap P k (plainElem P e) b n D) (key : Value) (kl : Lit) (hx : a.eval x = key) (hkey : keyOf P k key = some kl)
    (hK : ∀ c : Int, K (a.put o.dst (.int q c)) w) : if Region.wanted o (yielded ops a.tmps) = true then Oper.wp P o a w K Q else E := by
  have hw : Region.wanted o (yielded ops a.tmps) = true := by simp [Region.wanted, hgd]
  rw [if_pos hw]
  obtain ⟨c, hrun, _, _⟩ := hown.lookup_int KK ht he hz hkey
  unfold Oper.wp
  simp [execOp, hop, hm, hx, hrun, Result.andThen]
  exact hK c
theorem plainElem_bool_inv {H : Type} {P : Program} {e : TypeId} (he : P.underlying e = some .bool) {v : Value} {z : DataW H × List MemPlace} (h : plainElem P e v = some z) : ∃ x, v = .bool x ∧ z = (.lit (.bool x), []) := by
  unfold plainElem at h
  rw [he] at h
  cases v <;> simp at h
  exact ⟨_, rfl, h.symm⟩
theorem wpList_lookup_own_bool {H : Type} {P : Program} (w : World) {ops : Array Oper} {rest : List Oper} {o : Oper} {a : Act} {Q : Exit → Act → World → Prop}
    (hg : o.guard = none) (m x : Operand) (t : TypeId) (hop : o.op = Op.lookup t m x false)
    (k e : TypeId) (K : Keyed P k) (ht : P.underlying t = some (.map k e)) (he : P.underlying e = some .bool) (hz : (zeroValue e).run P w = .ok (.bool false) w) (b n : Nat) (D : DataW H)
    (hm : a.eval m = .map (some b)) (hown : w.ownsMap P k (plainElem P e) b n D) (key : Value) (kl : Lit) (hx : a.eval x = key) (hkey : keyOf P k key = some kl)
    (hK : ∀ c : Bool, D.atKey kl (.lit (.bool false)) = .lit (.bool c) → wpList P ops Q rest (a.put o.dst (.bool c)) w) :
    wpList P ops Q (o :: rest) a w := by
  refine wpList_plain hg fun K' hK' => ?_
  obtain ⟨v, ps, hrun, hv⟩ := hown.lookup K ht hz (plainElem_bool he false) hkey
  obtain ⟨c, rfl, hc⟩ := plainElem_bool_inv he hv
  simp only [Prod.mk.injEq] at hc
  unfold Oper.wp
  simp [execOp, hop, hm, hx, hrun, Result.andThen]
  exact hK' _ _ (hK c hc.1)
end Go.Proofs.YtabkibmnghbahaaGreat.CcO

namespace Go.Proofs.YtabkibmnghbahaaGreat.CcO
open Go.RowKit Go.Maps Go.Proofs.YtabkibmnghbahaaGreat Go.Proofs.YtabkibmnghbahaaGreat.Tow Go.Proofs.YtabkibmnghbahaaGreat.Gen Go.Proofs.YtabkibmnghbahaaGreat.GenC Go.Proofs.YtabkibmnghbahaaGreat.GenL Go.Proofs.YtabkibmnghbahaaGreat.GenM Go.Proofs.YtabkibmnghbahaaGreat.NumT Go.Proofs.YtabkibmnghbahaaGreat.Tab Go.Proofs.YtabkibmnghbahaaGreat.SpecO Go.Proofs.YtabkibmnghbahaaGreat.ChP Go.Proofs.YtabkibmnghbahaaGreat.ChT Go.Proofs.YtabkibmnghbahaaGreat.CcA Go.Proofs.YtabkibmnghbahaaGreat.CcB Go.Proofs.YtabkibmnghbahaaGreat.CcD Go.Proofs.YtabkibmnghbahaaGreat.CcE Go.Proofs.YtabkibmnghbahaaGreat.CcF
set_option linter.unusedVariables false
set_option linter.unusedSimpArgs false

/-- the search: how far it is -/
structure Bfs (T : Tw) (ms : List Nat) (i x : Nat) : Prop where
  nd : ms.Nodup
  sub : ∀ M ∈ ms, SubM T M
  one : 1 ∈ ms
  done : ∀ (j : Nat) (M y : Nat), (j < i ∨ (j = i ∧ y < x)) → ms[j]? = some M → y < sz T → M.testBit y = true ∨ ∃ N ∈ ms, ExtM T M y N
theorem Bfs.start {T : Tw} (hT : Wf T) (hg : Tow.Good T) : Bfs T [1] 0 0 :=
  ⟨by simp, fun M hM => by rw [List.mem_singleton.1 hM]; exact sub1 hT hg, by simp, fun j M y h => by omega⟩
theorem Bfs.yes {T : Tw} {ms : List Nat} {i x M : Nat} (h : Bfs T ms i x) (hM : ms[i]? = some M) (hx : M.testBit x = true ∨ ∃ N ∈ ms, ExtM T M x N) : Bfs T ms i (x + 1) :=
  ⟨h.nd, h.sub, h.one, fun j M' y hj hM' hy => by
    rcases Nat.lt_or_ge j i with h1 | h1
    · exact h.done j M' y (.inl h1) hM' hy
    · obtain rfl : j = i := by omega
      rcases Nat.lt_or_ge y x with h2 | h2
      · exact h.done j M' y (.inr ⟨rfl, h2⟩) hM' hy
      · obtain rfl : y = x := by omega
        rw [hM] at hM'
        cases hM'
        exact hx⟩
theorem Bfs.new {T : Tw} {ms : List Nat} {i x M N : Nat} (h : Bfs T ms i x) (hM : ms[i]? = some M) (hE : ExtM T M x N) (hN : N ∉ ms) : Bfs T (ms ++ [N]) i (x + 1) := by
  have h2 : Bfs T (ms ++ [N]) i x := ⟨List.nodup_append.2 ⟨h.nd, by simp, fun a ha b hb e => by
      rw [List.mem_singleton.1 hb] at e
      exact hN (e ▸ ha)⟩, fun K hK => by
      rcases List.mem_append.1 hK with h1 | h1
      · exact h.sub K h1
      · rw [List.mem_singleton.1 h1]; exact hE.sub, List.mem_append_left _ h.one, fun j M' y hj hM' hy => by
      have hil := (List.getElem?_eq_some_iff.1 hM).1
      rw [List.getElem?_append_left (by omega)] at hM'
      rcases h.done j M' y hj hM' hy with h1 | ⟨K, hK, h1⟩
      · exact .inl h1
      · exact .inr ⟨K, List.mem_append_left _ hK, h1⟩⟩
  exact h2.yes (by rw [List.getElem?_append_left (List.getElem?_eq_some_iff.1 hM).1]; exact hM) (.inr ⟨N, by simp, hE⟩)
theorem Bfs.row {T : Tw} {ms : List Nat} {i : Nat} (h : Bfs T ms i (sz T)) : Bfs T ms (i + 1) 0 :=
  ⟨h.nd, h.sub, h.one, fun j M y hj hM hy => h.done j M y (by omega) hM hy⟩
theorem Bfs.fin {T : Tw} {ms : List Nat} (h : Bfs T ms ms.length 0) : Subs T ms :=
  ⟨h.nd, fun K => ⟨h.sub K, fun hK => all_in h.one h.sub (fun M hM x hx => by
    obtain ⟨j, hj⟩ := List.getElem?_of_mem hM
    exact h.done j M x (.inl (List.getElem?_eq_some_iff.1 hj).1) hj hx) hK⟩⟩
/-- the map of what was seen -/
theorem keyU : Keyed Tryz.prog 83 := int_keyed (q := .u64) Tryz.underlying83
theorem zeroB (w : World) : (zeroValue 4).run Tryz.prog w = .ok (.bool false) w := by kernel_rfl
def MapS (w : World) (b n : Nat) (ms : List Nat) : Prop := ∃ D : DataW Unit, w.ownsMap Tryz.prog 83 (plainElem Tryz.prog 4) b n D ∧ IsMap D ∧ ∀ k : Nat, D.atKey (.int .u64 (k : Int)) (.lit (.bool false)) = .lit (.bool (decide (k ∈ ms)))
theorem MapS.put {w' : World} {b n q : Nat} {ms : List Nat} {D : DataW Unit} (h2 : IsMap D) (h3 : ∀ k : Nat, D.atKey (.int .u64 (k : Int)) (.lit (.bool false)) = .lit (.bool (decide (k ∈ ms))))
    (h1 : w'.ownsMap Tryz.prog 83 (plainElem Tryz.prog 4) b n (D.put (.int .u64 (q : Int)) (.lit (.bool true)))) : MapS w' b n (ms ++ [q]) := by
  refine ⟨_, h1, h2.put _ _, fun k => ?_⟩
  by_cases e : k = q
  · subst e
    rw [atKey_put_same h2 (by trivial)]
    simp
  · rw [atKey_put_other (by simp; omega), h3 k]
    simp [e]
theorem MapS.kept {w w' : World} {b n : Nat} {ms : List Nat} (h : MapS w b n ms) (hb : w'.heap[b]? = w.heap[b]?) : MapS w' b n ms := by
  obtain ⟨D, ⟨es, clock, hh, r⟩, h2, h3⟩ := h
  exact ⟨D, ⟨es, clock, hb.trans hh, r⟩, h2, h3⟩
theorem MapS.lt {w : World} {b n : Nat} {ms : List Nat} (h : MapS w b n ms) : b < w.heap.size := by
  obtain ⟨D, h1, _⟩ := h
  exact h1.lt
theorem MapS.ne {w : World} {b n m : Nat} {ms : List Nat} {B : Nat} {e : TypeId} {v : Value} {xs : List Value} (h : MapS w b n ms) (ho : w.ownsRow B e 1 v m xs) : v.ownBlock ≠ some b := by
  obtain ⟨D, ⟨es, clock, hh, r⟩, h2, h3⟩ := h
  rcases ho.2 with ⟨rfl, _⟩ | ⟨g, cap, cur, rfl, hb, hgg, _⟩
  · simp [Value.ownBlock]
  · intro e
    simp only [Value.ownBlock, Option.some.injEq] at e
    subst e
    rw [hh] at hgg
    simp at hgg
theorem keyS : Keyed Tryz.prog 9 := string_keyed Tryz.underlying9
theorem keyOf_str (s : ByteArray) (h : s.size ≤ 1000) : ∃ kl, keyOf Tryz.prog 9 (.string s) = some kl := ⟨_, (keyOf_string Tryz.underlying9 _).trans (by simp only [mapKey, Tryz.underlying9]; rw [if_pos (by unfold maxLen; omega)])⟩
/-- a map of numbers by strings -/
def MapK (w : World) (b n : Nat) : Prop := ∃ D : DataW Unit, w.ownsMap Tryz.prog 9 (plainElem Tryz.prog 83) b n D
theorem MapK.kept {w w' : World} {b n : Nat} (h : MapK w b n) (hb : w'.heap[b]? = w.heap[b]?) : MapK w' b n := by
  obtain ⟨D, es, clock, hh, r⟩ := h
  exact ⟨D, es, clock, hb.trans hh, r⟩
theorem MapK.lt {w : World} {b n : Nat} (h : MapK w b n) : b < w.heap.size := by
  obtain ⟨D, h1⟩ := h
  exact h1.lt
/-- the elements of a set, so far -/
def melX (T : Tw) (M k : Nat) : List (List Nat) := ((List.range k).filter fun c => M.testBit c).map (at_ T)
theorem melX_yes {T : Tw} {M k : Nat} (h : M.testBit k = true) : melX T M (k + 1) = melX T M k ++ [at_ T k] := by
  unfold melX
  rw [List.range_succ, List.filter_append, List.map_append]
  simp [h]
theorem melX_no {T : Tw} {M k : Nat} (h : M.testBit k = false) : melX T M (k + 1) = melX T M k := by
  unfold melX
  rw [List.range_succ, List.filter_append, List.map_append]
  simp [h]
theorem melX_El {T : Tw} (hT : Wf T) {M k : Nat} : ∀ x ∈ melX T M k, El T x := fun x hx => by
  unfold melX at hx
  obtain ⟨c, _, rfl⟩ := List.mem_map.1 hx
  exact at_El hT c
theorem linv_more {T : Tw} {im tl ws : List (List Nat)} (hT : Wf T) (hg : Tow.Good T) (him : ∀ x ∈ im ++ ws, El T x) (h : LINV T im tl []) : LINV T (im ++ ws) tl ws := by
  have mono : ∀ y, Gen (mul T) (Tow.one T) im y → Gen (mul T) (Tow.one T) (im ++ ws) y := fun y hy S h1 h2 => hy S h1 fun y c hy hc => h2 y c hy (List.mem_append_left _ hc)
  refine ⟨h.tb, fun d y hy => mono y (h.tg d y hy), fun w hw => Gen.of (grp hT hg) him (List.mem_append_right _ hw), fun t' he hw => ?_⟩
  obtain ⟨h1, h2, h3⟩ := h.ob t' he (fun w hw => by simp at hw)
  refine ⟨fun x hx => ?_, h2, h3⟩
  rcases List.mem_append.1 hx with h4 | h4
  · exact h1 x h4
  · exact hw x h4
theorem can_sub {T : Tw} (hT : Wf T) (hg : Tow.Good T) (hp : Prm T) (h6 : T.length ≤ 6) (hz : sz T ≤ 729) {im us : List (List Nat)} (h : CanL T im us) : CcH.SubU T us := by
  have hc := (can_chn hT hg hp h).1
  have X := chn_mx hT hg hp hc
  obtain ⟨t, t2, _, _, rfl⟩ := h
  have h1 := usF_le t2 T.length 0
  exact ⟨by omega, chn_el hc, Nat.le_trans (emb_le hT hg X.wf X.em) hz⟩
/-- the canonical sequences so far -/
def CanX (T : Tw) (ms : List Nat) (k : Nat) (us : List (List (List Nat))) : Prop := us.length = k ∧ ∀ (i M : Nat) (u : List (List Nat)), ms[i]? = some M → us[i]? = some u → CanL T (mel T M) u
theorem CanX.push {T : Tw} {ms : List Nat} {k M : Nat} {us : List (List (List Nat))} {u : List (List Nat)} (h : CanX T ms k us) (hM : ms[k]? = some M) (hu : CanL T (mel T M) u) : CanX T ms (k + 1) (us ++ [u]) := by
  refine ⟨by simp [h.1], fun i M' v hM' hv => ?_⟩
  rcases Nat.lt_or_ge i us.length with hi | hi
  · rw [List.getElem?_append_left hi] at hv
    exact h.2 i M' v hM' hv
  · rw [List.getElem?_append_right hi] at hv
    have hj := (List.getElem?_eq_some_iff.1 hv).1
    simp at hj
    obtain rfl : i = k := by have := h.1; omega
    rw [hM] at hM'
    cases hM'
    rw [h.1, Nat.sub_self] at hv
    simp at hv
    subst hv
    exact hu
/-- the list under way -/
structure Lst (B lb kb : Nat) (pv : Value) (W : World) (lv : Value) (us : List (List (List Nat))) (n : Nat) : Prop where
  hl : W.heap[lb]? = some (.cells #[pv, lv, .slice none 0 0] 61)
  lt : lb < B ∧ kb < B ∧ lb ≠ kb
  rows : CcL.RowsL (fun W u x => Sl2 (fun k => B ≤ k ∧ some k ≠ lv.ownBlock) W u (x.map ints)) 23 B W lv us
  mp : MapK W kb n
theorem Lst.below {B lb kb n : Nat} {pv : Value} {W W' : World} {lv : Value} {us : List (List (List Nat))} (h : Lst B lb kb pv W lv us n) (hb : Below W.heap.size W W') : Lst B lb kb pv W' lv us n := by
  obtain ⟨q, hq, _⟩ := h.rows
  exact ⟨(hb.block lb (Array.getElem?_eq_some_iff.1 h.hl).1).trans h.hl, h.lt, h.rows.keep (fun k hk => hb.block k (World.ownsRow.lt hq k hk).2) (fun u x e => Sl2.keep e (Keep.of_below hb)), h.mp.kept (hb.block kb h.mp.lt)⟩
theorem Lst.key {B lb kb n : Nat} {pv : Value} {W W' : World} {lv : Value} {us : List (List (List Nat))} (h : Lst B lb kb pv W lv us n) (hg : W.grownBy W' (some kb)) (hm : MapK W' kb (n + 1)) : Lst B lb kb pv W' lv us (n + 1) := by
  obtain ⟨q, hq, _⟩ := h.rows
  have hlt := h.lt
  have hk : Keep (fun k => k ≠ kb) W W' := Keep.grown hg fun k hk e => hk (by injection e)
  exact ⟨(hg.block lb (Array.getElem?_eq_some_iff.1 h.hl).1 (fun e => hlt.2.2 (by injection e))).trans h.hl, h.lt, h.rows.keep (fun k hk' => hk.block k (by have := (World.ownsRow.lt hq k hk').1; omega) (World.ownsRow.lt hq k hk').2) (fun u x e => Sl2.mono (Sl2.keep (S := fun k => B ≤ k ∧ some k ≠ lv.ownBlock) e (hk.mono fun k hk => by have := hk.1; omega)) (fun k hk => hk)), hm⟩
theorem Lst.push {B lb kb n : Nat} {pv : Value} {W W2 : World} {lv lv' u : Value} {us : List (List (List Nat))} {usv : List Value} {x : List (List Nat)} (h : Lst B lb kb pv W lv us n) (hG : CcL.Grw W W2 lv lv')
    (hus : usv.length = us.length) (hr : ∀ (i : Nat) (x : List (List Nat)) (u : Value), us[i]? = some x → usv[i]? = some u → Sl2 (fun k => B ≤ k ∧ some k ≠ lv.ownBlock) W u (x.map ints)) (hu : Sl2 (fun k => B ≤ k ∧ some k ≠ lv.ownBlock) W u (x.map ints))
    (ho : W2.ownsRow B 23 1 lv' (us.length + 1) (usv ++ [u])) : Lst B lb kb pv (W2.setCell ⟨lb, 1, none⟩ lv') lv' (us ++ [x]) n := by
  obtain ⟨q, hq, _⟩ := h.rows
  have hlt := h.lt
  have hk : Keep (fun k => some k ≠ lv.ownBlock ∧ k ≠ lb) W (W2.setCell ⟨lb, 1, none⟩ lv') := (hG.keep.mono (fun k hk => hk.1)).setCell (fun hk => hk.2 rfl) _
  have hE : ∀ k, (B ≤ k ∧ some k ≠ lv.ownBlock) → k < W.heap.size → (B ≤ k ∧ some k ≠ lv'.ownBlock) ∧ (some k ≠ lv.ownBlock ∧ k ≠ lb) := fun k h1 h2 => ⟨⟨h1.1, fun e => by
    rcases (hG.bk k e.symm).1 with h3 | h3
    · exact h1.2 h3.symm
    · omega⟩, h1.2, by have := h1.1; omega⟩
  have hn : ∀ k, k < B → lv.ownBlock ≠ some k := fun k hk e => by have := (World.ownsRow.lt hq k e).1; omega
  have hrd : ∀ u (x : List (List Nat)), Sl2 (fun k => B ≤ k ∧ some k ≠ lv.ownBlock) W u (x.map ints) → Sl2 (fun k => B ≤ k ∧ some k ≠ lv'.ownBlock) (W2.setCell ⟨lb, 1, none⟩ lv') u (x.map ints) := fun u x e => Sl2.mono (Sl2.keep (CcL.Sl2_inn e) (hk.mono (fun k hk => (hE k hk.1 hk.2).2))) (fun k hk => (hE k hk.1 hk.2).1)
  refine ⟨?_, hlt, CcL.RowsL.push (E := fun W u x => Sl2 (fun k => B ≤ k ∧ some k ≠ lv.ownBlock) W u (x.map ints)) (W := W) hus hr hrd (hrd _ _ hu) (CcL.own_kept ho (fun k hk => CcL.st_block (by have := (World.ownsRow.lt ho k hk).1; omega))), h.mp.kept ?_⟩
  · have h2 : W2.heap[lb]? = some (.cells #[pv, lv, .slice none 0 0] 61) := (hG.gr.block lb (Array.getElem?_eq_some_iff.1 h.hl).1 (fun e => hn lb hlt.1 e.symm)).trans h.hl
    rw [heap_setCell_same _ _ _ _ _ _ h2]; rfl
  · exact hk.block kb ⟨fun e => hn kb hlt.2.1 e.symm, fun e => hlt.2.2 e.symm⟩ h.mp.lt
theorem Lst.cell {B lb kb n : Nat} {pv : Value} {W : World} {lv : Value} {us : List (List (List Nat))} (h : Lst B lb kb pv W lv us n) : W.cell? ⟨lb, 0, none⟩ = some pv ∧ W.cell? ⟨lb, 1, none⟩ = some lv ∧ W.cell? ⟨lb, 2, none⟩ = some (.slice none 0 0) ∧ lb < W.heap.size ∧ (∀ o, W.frozen? ⟨lb, o, none⟩ = false) := by
  refine ⟨?_, ?_, ?_, (Array.getElem?_eq_some_iff.1 h.hl).1, fun o => by simp [World.frozen?, h.hl]⟩ <;> (rw [cell_of_row _ _ _ _ _ (0, 0) h.hl]; rfl)
theorem Lst.grown {B lb kb n : Nat} {pv : Value} {W W2 : World} {lv lv' : Value} {us : List (List (List Nat))} (h : Lst B lb kb pv W lv us n) (hG : CcL.Grw W W2 lv lv') : W2.cell? ⟨lb, 1, none⟩ = some lv ∧ lb < W2.heap.size ∧ (∀ o, W2.frozen? ⟨lb, o, none⟩ = false) := by
  obtain ⟨q, hq, _⟩ := h.rows
  have h2 : W2.heap[lb]? = some (.cells #[pv, lv, .slice none 0 0] 61) := (hG.gr.block lb (Array.getElem?_eq_some_iff.1 h.hl).1 (fun e => by have := (World.ownsRow.lt hq lb e.symm).1; have := h.lt; omega)).trans h.hl
  refine ⟨?_, (Array.getElem?_eq_some_iff.1 h2).1, fun o => by simp [World.frozen?, h2]⟩
  rw [cell_of_row _ _ _ _ _ (0, 0) h2]; rfl
/-- one row in a block of its own -/
theorem lit1 {S : Nat → Prop} {w : World} {u : Value} {x : List Int} {t : TypeId} (hu : SlI S w u x) (hS : S w.heap.size) : Sl2 S (w.alloc (.cells #[u] t)) (.slice (some ⟨w.heap.size, 0, none⟩) 1 1) [x] := by
  refine ⟨_, _, rfl, by simp, by unfold maxLen; simp, by simp, fun i y hy => ?_⟩
  match i, hy with
  | 0, hy =>
    simp at hy
    subst hy
    exact ⟨w.heap.size, 0, rfl, hS, by simp, u, by rw [cell_of_row _ _ _ _ _ (0, 0) (heap_alloc_new w _)]; rfl, hu.keep ((Keep.refl _ _).alloc _)⟩
theorem SlG_inn {α : Type} {E : World → Value → α → Prop} {S : Nat → Prop} {w : World} {v : Value} {l : List α} (h : SlG E S w v l) : SlG E (fun k => S k ∧ k < w.heap.size) w v l := by
  obtain ⟨ao, c, h1, h2, h3, h0, h4⟩ := h
  exact ⟨ao, c, h1, h2, h3, h0, fun i x hx => by obtain ⟨b, o, e1, e2, e3, u, e4, e5⟩ := h4 i x hx; exact ⟨b, o, e1, ⟨e2, e3⟩, e3, u, e4, e5⟩⟩
theorem SlG_map {α β : Type} {E : World → Value → β → Prop} {f : α → β} {S : Nat → Prop} {w : World} {v : Value} {l : List α} (h : SlG (fun w u x => E w u (f x)) S w v l) : SlG E S w v (l.map f) := by
  obtain ⟨ao, c, h1, h2, h3, h0, h4⟩ := h
  refine ⟨ao, c, by rw [List.length_map]; exact h1, by rw [List.length_map]; exact h2, h3, h0, fun i x hx => ?_⟩
  rw [List.getElem?_map, Option.map_eq_some_iff] at hx
  obtain ⟨y, hy, rfl⟩ := hx
  exact h4 i y hy
theorem kB_mk {B lb : Nat} {mv : Value} {wr w' : World} (h : Keep (fun k => k ≠ lb ∧ some k ≠ mv.ownBlock) wr w') : (∀ b o, b < wr.heap.size → ¬ b = lb → some b ≠ mv.ownBlock → w'.cell? ⟨b, o, none⟩ = wr.cell? ⟨b, o, none⟩) ∧ Keep (fun k => k ≠ lb ∧ some k ≠ mv.ownBlock) wr w' := ⟨fun b o hb h1 h2 => h.cell ⟨h1, h2⟩ hb, h⟩
/-- the lattice's block behind an append to its marks -/
theorem latc {wy w18 w20 : World} {ob : Obj} {lb : Nat} {pv lv mv : Value} (hb : Below wy.heap.size wy w18) (hg : (w18.alloc ob).grownBy w20 mv.ownBlock) (hne : mv.ownBlock ≠ some lb) (hl : wy.heap[lb]? = some (.cells #[pv, lv, mv] 61)) :
    w20.heap[lb]? = some (.cells #[pv, lv, mv] 61) ∧ w20.cell? ⟨lb, 2, none⟩ = some mv ∧ w20.frozen? ⟨lb, 2, none⟩ = false ∧ lb < w20.heap.size := by
  have hlt := (Array.getElem?_eq_some_iff.1 hl).1
  have hs := hb.size
  have h2 : w20.heap[lb]? = some (.cells #[pv, lv, mv] 61) := by
    rw [hg.block lb (by simp; omega) (fun e => hne e.symm), heap_alloc_old _ _ (by omega), hb.block lb hlt]
    exact hl
  refine ⟨h2, ?_, by simp [World.frozen?, h2], (Array.getElem?_eq_some_iff.1 h2).1⟩
  rw [cell_of_row _ _ _ _ _ (0, 0) h2]; rfl
end Go.Proofs.YtabkibmnghbahaaGreat.CcO

/-
  impl.latticeOf.
-/
namespace Go.Proofs.YtabkibmnghbahaaGreat.CcP
open Go.RowKit Go.Maps Go.Proofs.YtabkibmnghbahaaGreat Go.Proofs.YtabkibmnghbahaaGreat.Tow Go.Proofs.YtabkibmnghbahaaGreat.Val Go.Proofs.YtabkibmnghbahaaGreat.Grps Go.Proofs.YtabkibmnghbahaaGreat.Gen Go.Proofs.YtabkibmnghbahaaGreat.GenC Go.Proofs.YtabkibmnghbahaaGreat.GenL Go.Proofs.YtabkibmnghbahaaGreat.GenM Go.Proofs.YtabkibmnghbahaaGreat.NumT Go.Proofs.YtabkibmnghbahaaGreat.Tab Go.Proofs.YtabkibmnghbahaaGreat.SpecO Go.Proofs.YtabkibmnghbahaaGreat.ImplP Go.Proofs.YtabkibmnghbahaaGreat.ImplQ Go.Proofs.YtabkibmnghbahaaGreat.ChD Go.Proofs.YtabkibmnghbahaaGreat.ChS Go.Proofs.YtabkibmnghbahaaGreat.ChT Go.Proofs.YtabkibmnghbahaaGreat.ChP Go.Proofs.YtabkibmnghbahaaGreat.CcA Go.Proofs.YtabkibmnghbahaaGreat.CcD Go.Proofs.YtabkibmnghbahaaGreat.CcE Go.Proofs.YtabkibmnghbahaaGreat.CcF Go.Proofs.YtabkibmnghbahaaGreat.CcL Go.Proofs.YtabkibmnghbahaaGreat.CcO
open Go.Proofs.YtabkibmnghbahaaGreat.SpecB (Any)
set_option linter.unusedVariables false
set_option linter.unusedSimpArgs false

theorem infoU64 : (Tryz.prog.info? 83).map (fun i => (i.zero, i.size, i.bytes)) = some (some (.int .u64 0), 1, 8) := by kernel_rfl
theorem zeroU (w : World) : (zeroValue 83).run Tryz.prog w = .ok (.int .u64 0) w := by kernel_rfl
/-- the lattice in memory -/
def LatM (T : Tw) (w : World) (v : Value) : Prop := ∃ (lb : Nat) (lv : Value) (L us : List (List (List Nat))) (ms : List Nat), v = .pointer (some ⟨lb, 0, none⟩) ∧ lb < w.heap.size ∧ w.cell? ⟨lb, 1, none⟩ = some lv ∧ Sl3 Any w lv (L.map fun l => l.map ints) ∧ Subs T ms ∧ CanS T ms us ∧ L.Perm us ∧ L.length ≤ 4294967296
def LatR (P : Pres) (w : World) (e : Ending) (w' : World) : Prop := ∃ v k, e = .returned (.tuple #[v, .int .i64 k]) ∧ Below w.heap.size w w' ∧
  ((v = .pointer none ∧ k = 1 ∧ ¬ Grp P) ∨ ∃ T, P = ofTw T ∧ Grp P ∧ ((v = .pointer none ∧ k = 3 ∧ 32 < sz T) ∨ (k = 0 ∧ sz T ≤ 32 ∧ LatM T w' v)))

set_option maxRecDepth 200000 in
set_option maxHeartbeats 8000000 in
theorem lattice_any (w : World) (b o : Nat) (P : Pres) (hP : PtrP Any w b o P) :
    Calls Tryz.prog 26 #[.pointer (some ⟨b, o, none⟩)] w (LatR P w) := by
  obtain ⟨iU, hiU, hyU0, hyU1, hyU2⟩ := info_parts infoU64
  obtain ⟨i3, hi3, hy6, hy7, hy8⟩ := info_parts infoR3
  have HP := Lib.hid hP
  obtain ⟨W0, hW0⟩ : ∃ W0, W0 = w.alloc (.cells #[.pointer (some ⟨b, o, none⟩)] 55) := ⟨_, rfl⟩
  have HB0 := Lib.hid (show Below w.heap.size w W0 by rw [hW0]; exact (Below.refl _ _).alloc (Nat.le_refl _) _)
  have hs0 : W0.heap.size = w.heap.size + 1 := by rw [hW0]; simp
  have hc0 : W0.cell? ⟨w.heap.size, 0, none⟩ = some (.pointer (some ⟨b, o, none⟩)) := by rw [hW0, cell_of_row _ _ _ _ _ (0, 0) (heap_alloc_new w _)]; rfl
  have HC0 := Lib.hid hc0
  have HP0 := Lib.hid (hP.keep (Keep.of_below HB0.out))
  obtain ⟨_, hpl, vO, vP, vC, p0, p1, p2, hVP⟩ := HP0.out
  have HVP := Lib.hid hVP
  have HG := Lib.hid (fun W a b c P h => ImplI.group_any W a b c P h)
  clear hP hVP
  go_enter Tryz.func26, Tryz.ntmps26
  go_upto_region 1 with fail
  rw [← hW0]
  clear hW0
  go_wp2_with fail
  refine (HG.out _ _ _ _ _ HVP.out).mono ?_
  rintro e w1 ⟨r, rfl, hr, hb1⟩
  have HB1 := Lib.hid (HB0.out.trans (hb1.mono (show w.heap.size ≤ W0.heap.size by omega)))
  have HC1 := Lib.hid ((hb1.cell (p := ⟨w.heap.size, 0, none⟩) (show w.heap.size < W0.heap.size by omega)).trans HC0.out)
  have hs1 : w.heap.size + 1 ≤ w1.heap.size := by have := hb1.size; omega
  by_cases hGP : Grp P
  · obtain rfl : r = true := hr.2 hGP
    have HGP := Lib.hid hGP
    obtain ⟨T, hT, hsT, rfl, hVal, hgT⟩ := hGP
    have hz729 : sz T ≤ 729 := valid_sz hVal
    have hpr : Prm T := fun L hL => by
      have := hVal.pr (L.o : Int) (List.mem_map.2 ⟨L, hL, rfl⟩)
      simp [primeB] at this
      omega
    have HPw := Lib.hid (fun W (h : Below w.heap.size w W) => (HP.out.keep (S := Any) (Keep.of_below h)))
    have HOP := Lib.hid (fun W (h : Below w.heap.size w W) => ImplN.order_any T hT hsT.1 hz729 W b o (HPw.out W h))
    have HTM := Lib.hid (fun W (h : Below w.heap.size w W) => table_any T hT hsT hgT hz729 W b o (HPw.out W h))
    have HT := Lib.hid hT
    have HS := Lib.hid hsT
    have HGT := Lib.hid hgT
    have HPR := Lib.hid hpr
    have x1 := HC1.out
    clear hr hb1 p0 p1 p2 hpl hVal hT hsT hgT hpr HVP HG hc0 hs0
    go_wp2_with fail
    refine (HOP.out _ HB1.out).mono ?_
    rintro e w2 ⟨rfl, hb2⟩
    have HB2 := Lib.hid (HB1.out.trans (hb2.mono HB1.out.size))
    have HC2 := Lib.hid ((hb2.cell (p := ⟨w.heap.size, 0, none⟩) (show w.heap.size < w1.heap.size by omega)).trans HC1.out)
    have hs2 : w.heap.size + 1 ≤ w2.heap.size := by have := hb2.size; omega
    by_cases h32 : 32 < sz T
    · have hd : decide ((sz T : Int) > 32) = true := by simp; omega
      have HR := Lib.hid (show LatR (ofTw T) w (.returned (.tuple #[.pointer none, .int .i64 3])) w2 from ⟨_, _, rfl, HB2.out, .inr ⟨T, rfl, HGP.out, .inl ⟨rfl, rfl, h32⟩⟩⟩)
      clear hb2 h32 x1
      go_wp2_with fail
      exact bodyPost_ret (v := .tuple #[.pointer none, .int .i64 3]) (by simp [results, Tryz.results26, go_sem]) rfl HR.out
    · have hd : decide ((sz T : Int) > 32) = false := by simp; omega
      have hz : sz T ≤ 32 := by omega
      have x2 := HC2.out
      clear hb2 h32 x1
      go_wp2_with fail
      refine (HTM.out _ HB2.out).mono ?_
      rintro e w3 ⟨vt, rfl, ho3, hb3⟩
      have HB3 := Lib.hid (HB2.out.trans (hb3.mono HB2.out.size))
      have HC3 := Lib.hid ((hb3.cell (p := ⟨w.heap.size, 0, none⟩) (show w.heap.size < w2.heap.size by omega)).trans HC2.out)
      have hs3 : w.heap.size + 1 ≤ w3.heap.size := by have := hb3.size; omega
      have HTV := Lib.hid (ho3.sl.mono (S' := Any) (fun _ _ => trivial))
      obtain ⟨aT, cT, rfl, hcT, _⟩ := SlG.form HTV.out
      rw [List.length_map, tabl_length] at HTV hcT ⊢
      clear ho3 hb3 HOP HTM x2
      have hmm := @run_makeMap Tryz.prog
      go_upto_region 7 with fail
      obtain ⟨w4, hw4⟩ : ∃ w4, w4 = w3.alloc (.cells #[.int .u64 1] 83) := ⟨_, rfl⟩
      rw [← hw4]
      have hs4 : w4.heap.size = w3.heap.size + 1 := by rw [hw4]; simp
      have hO4 : w4.ownsRow w3.heap.size 83 1 (.slice (some ⟨w3.heap.size, 0, none⟩) 1 1) 1 [.int .u64 1] := by
        rw [hw4]; exact World.ownsRow_lit (base := w3.heap.size) (e := 83) (size := 1) w3 #[.int .u64 1] 1 (Nat.le_refl _) (by unfold maxLen; omega) rfl
      have hB4 : Below w3.heap.size w3 w4 := by rw [hw4]; exact (Below.refl _ _).alloc (Nat.le_refl _) _
      clear hw4
      have hm0 : (w4.alloc (.map #[] 0)).ownsMap Tryz.prog 83 (plainElem (H := Unit) Tryz.prog 4) w4.heap.size 0 (.map []) := World.ownsMap_made _ _ _ _
      have hBm : Below w3.heap.size w3 (w4.alloc (.map #[] 0)) := hB4.alloc (by omega) _
      have hOm := hO4.alloc (.map #[] 0)
      rw [hs4] at hm0
      go_wp2_with (refine wpList_insert_own _ rfl _ _ _ 84 rfl 83 4 keyU Tryz.underlying84 (plainElem Tryz.prog 4) (w3.heap.size + 1) 0 (.map []) rfl hm0 (by decide) _ _ (.int .u64 1) rfl rfl (keyOf_int_mk Tryz.underlying83 rfl) (.lit (.bool true)) [] (plainElem_bool Tryz.underlying4 true) ?_)
      intro w5 hm5 hgrow5
      have HM5 := Lib.hid (show MapS w5 (w3.heap.size + 1) 1 [1] from MapS.put (ms := []) isMap_empty (fun k => rfl) hm5)
      have HO5 := Lib.hid (show w5.ownsRow w3.heap.size 83 1 (.slice (some ⟨w3.heap.size, 0, none⟩) 1 1) [1].length ([1].map fun M : Nat => Value.int .u64 (M : Int)) from own_kept hOm (fun k hk => hgrow5.block k (World.ownsRow.lt hOm k hk).2 (by
        simp only [Value.ownBlock, Option.some.injEq] at hk
        subst hk
        simp)))
      have HB5 := Lib.hid (show Below w3.heap.size w3 w5 from hBm.grown hgrow5 (by have := hBm.size; exact this) (fun g hg => by cases hg; omega))
      have HBF := Lib.hid (Bfs.start HT.out HGT.out)
      obtain ⟨BG, hBG⟩ : ∃ BG : Nat, BG = 4294967296 := ⟨_, rfl⟩
      have HBG := Lib.hid hBG
      clear hBG hm5 hgrow5 hm0 hOm hBm hO4 hB4 hs4 hmm
      go_wp2_with fail
      go_loopw [5, 7] (fun mv iv wr => ∃ (i l : Nat) (ms : List Nat) (am : Option Addr) (cm : Nat), mv = .slice am l cm ∧ iv = .int .i64 (i : Int) ∧ i ≤ l ∧ l ≤ BG ∧ Hid (ms.length = l) ∧ Hid (Bfs T ms i 0) ∧ Hid (wr.ownsRow w3.heap.size 83 1 (.slice am l cm) l (ms.map fun M : Nat => Value.int .u64 (M : Int))) ∧ Hid (MapS wr (w3.heap.size + 1) l ms) ∧ Hid (Below w3.heap.size w3 wr)) (fun _ iv _ => BG - (intOf iv).toNat)
      case atStart => exact ⟨0, 1, [1], _, _, rfl, rfl, by omega, by have := HBG.out; omega, Lib.hid rfl, HBF, HO5, HM5, HB5⟩
      case round =>
        obtain ⟨i, l, ms, am, cm, rfl, rfl, hil, hlB, hML, hBF, hO, hM, hB⟩ := hrel
        clear HM5 HO5 HB5 HBF
        have hl63 : (l : Int) ≤ 4294967296 := by have := HBG.out; omega
        have HL63 := Lib.hid hl63
        have hl63' : (l : Int) ≤ 9223372036854775806 := by omega
        clear hl63
        by_cases hlt : i < l
        · have hd1 : decide ((i : Int) < (l : Int)) = true := by simp; omega
          have HIL := Lib.hid hlt
          have HLB := Lib.hid hlB
          go_wp2_with fail
          go_loopw [5, 40] (fun mv xv wr => ∃ (x l : Nat) (ms : List Nat) (am : Option Addr) (cm : Nat), mv = .slice am l cm ∧ xv = .int .i64 (x : Int) ∧ x ≤ sz T ∧ i < l ∧ l ≤ BG ∧ Hid (ms.length = l) ∧ Hid (Bfs T ms i x) ∧ Hid (wr.ownsRow w3.heap.size 83 1 (.slice am l cm) l (ms.map fun M : Nat => Value.int .u64 (M : Int))) ∧ Hid (MapS wr (w3.heap.size + 1) l ms) ∧ Hid (Below w3.heap.size w3 wr)) (fun _ xv _ => sz T - (intOf xv).toNat)
          case atStart => exact ⟨0, l, ms, _, _, rfl, rfl, Nat.zero_le _, HIL.out, HLB.out, hML, hBF, hO, hM, hB⟩
          case round =>
            clear hML hBF hO hM hB HIL HLB hlt hil hlB hd1 hl63' HL63
            obtain ⟨x, l, ms, am, cm, rfl, rfl, hx, hil, hlB, hML, hBF, hO, hM, hB⟩ := hrel
            have HLB := Lib.hid hlB
            have hl63 : (l : Int) ≤ 9223372036854775806 := by have := HBG.out; omega
            by_cases hxs : x < sz T
            · obtain ⟨M, hMi⟩ : ∃ M, ms[i]? = some M := ⟨_, List.getElem?_eq_getElem (by rw [hML.out]; exact hil)⟩
              obtain ⟨g, rfl⟩ : ∃ g, am = some ⟨g, 0, none⟩ := by
                rcases hO.out.2 with ⟨_, h0⟩ | ⟨g, cap, cur, e, _⟩
                · omega
                · simp only [Value.slice.injEq] at e
                  exact ⟨g, e.1⟩
              have hcM : wr.cell? ⟨g, i, none⟩ = some (.int .u64 (M : Int)) := by
                rw [World.ownsRow.cellAt hO.out i (by omega), List.getElem?_map, hMi]; rfl
              have hglt := (World.ownsRow.lt hO.out g rfl).2
              have HMI := Lib.hid hMi
              have HSM := Lib.hid (hBF.out.sub M (List.mem_of_getElem? hMi))
              have hMlt := Lib.hid (HSM.out.lt hz)
              have h1 := Mask.test_eq M x (by omega) hMlt.out
              have hii : (i : Int) < (l : Int) := by omega
              have hi0 : (0 : Int) ≤ (i : Int) := by omega
              have hd2 : decide ((x : Int) < (sz T : Int)) = true := by simp; omega
              have HXS := Lib.hid hxs
              clear hMi hxs
              cases hb : M.testBit x with
              | true =>
                have HN := Lib.hid (hBF.out.yes HMI.out (.inl hb))
                rw [hb] at h1
                clear hb
                go_wp2_with fail
                go_roundw
                case rel => exact ⟨x + 1, l, ms, _, _, rfl, by go_num, HXS.out, hil, HLB.out, hML, HN, hO, hM, hB⟩
                case measure => have := HXS.out; simp [intOf]; omega
              | false =>
                rw [hb] at h1
                have HEX := Lib.hid (CcG.extm_any T HT.out hz wr (.slice aT (sz T) cT) (HTV.out.keep (Keep.of_below hB.out)) M x HSM.out HXS.out)
                clear hb
                go_wp2_with fail
                refine HEX.out.mono ?_
                rintro e w6 ⟨N, rfl, hE, rfl⟩
                have HE := Lib.hid hE
                have HNL := Lib.hid (hE.sub.lt hz)
                obtain ⟨D, hD1, hD2, hD3⟩ := hM.out
                have hDN := hD3 N
                by_cases hN : N ∈ ms
                · rw [decide_eq_true hN] at hDN
                  have HDN := Lib.hid hDN
                  have HN := Lib.hid (hBF.out.yes HMI.out (.inr ⟨N, hN, hE⟩))
                  clear hE hN hDN hD3 hD2 HEX
                  go_wp2_with (at_lookup; refine wpList_lookup_own_bool _ rfl _ _ 84 rfl 83 4 keyU Tryz.underlying84 Tryz.underlying4 (zeroB _) (w3.heap.size + 1) l D rfl hD1 _ _ rfl (keyOf_int_mk Tryz.underlying83 (WalkArith.wf_u64 (by have := HNL.out; omega))) ?_; intro c hat; obtain rfl : c = true := (by have h := HDN.out; rw [h] at hat; simpa using hat.symm))
                  go_roundw
                  case rel => exact ⟨x + 1, l, ms, _, _, rfl, by go_num, HXS.out, hil, HLB.out, hML, HN, hO, hM, hB⟩
                  case measure => have := HXS.out; simp [intOf]; omega
                · rw [decide_eq_false hN] at hDN
                  have HDN := Lib.hid hDN
                  have HND := Lib.hid (And.intro hD2 hD3)
                  have HNN := Lib.hid hN
                  have HN := Lib.hid (hBF.out.new HMI.out hE hN)
                  have hO6 := hO.out
                  have hne := hM.out.ne hO6
                  clear hE hN hDN hD3 hD2 HEX
                  go_upto_region 18 with (first | (at_lookup; refine wpList_lookup_own_bool _ rfl _ _ 84 rfl 83 4 keyU Tryz.underlying84 Tryz.underlying4 (zeroB _) (w3.heap.size + 1) l D rfl hD1 _ _ rfl (keyOf_int_mk Tryz.underlying83 (WalkArith.wf_u64 (by have := HNL.out; omega))) ?_; intro c hat; obtain rfl : c = false := (by have h := HDN.out; rw [h] at hat; simpa using hat.symm)) | (at_mapUpdate; refine wpList_mapUpdate_own _ rfl _ _ _ 84 rfl 83 4 keyU Tryz.underlying84 _ (w3.heap.size + 1) l D rfl hD1 (by have := HLB.out; have := HBG.out; unfold maxLen; omega) _ _ _ rfl rfl (keyOf_int_mk Tryz.underlying83 (WalkArith.wf_u64 (by have := HNL.out; omega))) _ [] (plainElem_bool Tryz.underlying4 true) ?_; intro w7 hown7 hgrow7))
                  have HM7 := Lib.hid (MapS.put HND.out.1 HND.out.2 hown7)
                  have hO7 := own_kept hO6 (fun k hk => hgrow7.block k (World.ownsRow.lt hO6 k hk).2 (fun e => hne (by rw [hk]; exact e)))
                  have HB7 := Lib.hid (show Below w3.heap.size w3 w7 from hB.out.grown hgrow7 hB.out.size (fun g hg => by cases hg; omega))
                  have hs7 : w3.heap.size ≤ w7.heap.size := HB7.out.size
                  have hne7 := HM7.out.ne hO7
                  have h1 := hO7.alloc (.cells #[.int .u64 (N : Int)] 83)
                  have hlB3 : l ≤ 4294967296 := by have := HLB.out; have := HBG.out; omega
                  have HL3 := Lib.hid hlB3
                  clear hown7 hgrow7 hD1 hO6 hne hO hM hB hlB3 hcM hglt
                  go_wp2_with (at_builtin; (refine wpList_append_lies _ rfl _ _ 59 rfl w3.heap.size 83 iU (.int .u64 0) 1 8 Tryz.underlying59 hiU hyU0 hyU1 hyU2 rfl (by decide) _ _ _ rfl h1 ⟨w7.heap.size, 0, none⟩ 1 1 [.int .u64 (N : Int)] rfl rfl ?c1 ?c2 (by decide) ?c3 ?c4 ?c5 _ rfl ?_))
                  case c1 =>
                    intro j u hj
                    match j, hj with
                    | 0, hj => simp at hj; subst hj; simp [Addr.add]
                  case c2 => intro u hu; simp at hu; subst hu; rfl
                  case c3 => have := HL3.out; unfold maxLen; omega
                  case c4 => have := HL3.out; omega
                  case c5 => simp; omega
                  intro g9 c9 w9 hown9 hgrow9 hat9 hlt9
                  have HM9 := Lib.hid (HM7.out.kept (w' := w9) ((hgrow9.block _ (by have := HM7.out.lt; simp; omega) (fun e => hne7 e.symm)).trans (heap_alloc_old _ _ (HM7.out.lt))))
                  have HO9 := Lib.hid (show w9.ownsRow w3.heap.size 83 1 (.slice (some ⟨g9, 0, none⟩) (l + 1) c9) (l + 1) ((ms ++ [N]).map fun M : Nat => Value.int .u64 (M : Int)) from by rw [List.map_append]; exact hown9)
                  have HB9 := Lib.hid (show Below w3.heap.size w3 w9 from (HB7.out.alloc hs7 _).grown hgrow9 (by simp; omega) (fun g hg => (World.ownsRow.lt h1 g hg).1))
                  have HML9 := Lib.hid (show (ms ++ [N]).length = l + 1 by simp [hML.out])
                  have HLB9 := Lib.hid (show l + 1 ≤ BG from by have h := subs_len hz HN.out.nd HN.out.sub; rw [HML9.out] at h; rw [HBG.out]; exact h)
                  clear h1 hown9 hgrow9 hat9 hlt9 hne7 hO7 hs7
                  go_wp2_with fail
                  go_roundw
                  case rel => exact ⟨x + 1, l + 1, ms ++ [N], _, _, rfl, by go_num, HXS.out, by omega, HLB9.out, HML9, HN, HO9, HM9, HB9⟩
                  case measure => have := HXS.out; simp [intOf]; omega
            · obtain rfl : x = sz T := by omega
              have hd2 : decide ((sz T : Int) < (sz T : Int)) = false := by simp
              have HN := Lib.hid hBF.out.row
              have HLB := Lib.hid hlB
              have HIL := Lib.hid hil
              have HLI := Lib.hid (show i < BG by omega)
              have hi63 : (i : Int) + 1 ≤ 9223372036854775807 := by omega
              clear hBF
              go_wp2_with fail
              go_roundw
              case rel => exact ⟨i + 1, l, ms, _, _, rfl, by go_num, HIL.out, HLB.out, hML, HN, hO, hM, hB⟩
              case measure => have := HLI.out; simp [intOf]; omega
        · obtain rfl : i = l := by omega
          have hd1 : decide ((i : Int) < (i : Int)) = false := by simp
          have HSB := Lib.hid (show Subs T ms from by have h := hBF.out; rw [← hML.out] at h; exact h.fin)
          have HL3 := Lib.hid (show i ≤ 4294967296 by have := HBG.out; omega)
          have HML2 := Lib.hid (show ms.length = i from hML.out)
          have HRW := Lib.hid hO.out
          have HB6 := Lib.hid hB.out
          have xr : wr.cell? ⟨w.heap.size, 0, none⟩ = some (.pointer (some ⟨b, o, none⟩)) := (hB.out.cell (p := ⟨w.heap.size, 0, none⟩) (show w.heap.size < w3.heap.size by omega)).trans HC3.out
          have hs6 : w3.heap.size ≤ wr.heap.size := hB.out.size
          have hmm := @run_makeMap Tryz.prog
          clear hBF hlB hlt hil hM hO hB hML
          go_upto_region 22 with fail
          obtain ⟨w6, hw6⟩ : ∃ w6, w6 = (wr.alloc (.cells #[.pointer (some ⟨b, o, none⟩), .slice none 0 0, .slice none 0 0] 61)).alloc (.map #[] 0) := ⟨_, rfl⟩
          rw [← hw6]
          have hs7 : w6.heap.size = wr.heap.size + 2 := by rw [hw6]; simp
          have HB67 := Lib.hid (show Below wr.heap.size wr w6 by rw [hw6]; exact ((Below.refl _ _).alloc (Nat.le_refl _) _).alloc (by simp) _)
          have hm0 : w6.ownsMap Tryz.prog 9 (plainElem (H := Unit) Tryz.prog 83) (wr.heap.size + 1) 0 (.map []) := by
            have h : ((wr.alloc (.cells #[.pointer (some ⟨b, o, none⟩), .slice none 0 0, .slice none 0 0] 61)).alloc (.map #[] 0)).ownsMap Tryz.prog 9 (plainElem (H := Unit) Tryz.prog 83) (wr.alloc (.cells #[.pointer (some ⟨b, o, none⟩), .slice none 0 0, .slice none 0 0] 61)).heap.size 0 (.map []) := World.ownsMap_made _ _ _ _
            rw [← hw6] at h
            simpa using h
          have HLS := Lib.hid (show Lst (wr.heap.size + 2) wr.heap.size (wr.heap.size + 1) (.pointer (some ⟨b, o, none⟩)) w6 (.slice none 0 0) [] 0 from
            ⟨by rw [hw6, heap_alloc_old _ _ (by simp)]; exact heap_alloc_new wr _, ⟨by omega, by omega, by omega⟩, RowsL.nil, ⟨_, hm0⟩⟩)
          have HCX := Lib.hid (show CanX T ms 0 [] from ⟨rfl, fun i M u _ h => by simp at h⟩)
          clear hw6 hm0 hmm
          obtain ⟨lb, hlb⟩ : ∃ lb, wr.heap.size = lb := ⟨_, rfl⟩
          simp only [hlb] at HLS HB67 hs7 hs6 ⊢
          have HLB := Lib.hid hlb
          clear hlb
          have HBw6 := Lib.hid (show Below w.heap.size w w6 from (HB3.out.trans (HB6.out.mono (by omega))).trans (HB67.out.mono (by omega)))
          have HC6 := Lib.hid (show w6.cell? ⟨w.heap.size, 0, none⟩ = some (.pointer (some ⟨b, o, none⟩)) from (HB67.out.cell (p := ⟨w.heap.size, 0, none⟩) (show w.heap.size < lb by omega)).trans xr)
          have HTV6 := Lib.hid ((HTV.out.keep (Keep.of_below HB6.out)).keep (S := Any) (Keep.below HB67.out (fun k _ h => by have := HLB.out; omega)))
          have HRC := Lib.hid (show ∀ (k M : Nat), ms[k]? = some M → ∃ g, am = some ⟨g, 0, none⟩ ∧ g < lb ∧ w6.cell? ⟨g, k, none⟩ = some (.int .u64 (M : Int)) from fun k M hk => by
            have hkl := (List.getElem?_eq_some_iff.1 hk).1
            rw [HML2.out] at hkl
            rcases HRW.out.2 with ⟨_, h0⟩ | ⟨g, cap, cur, e, _⟩
            · omega
            · simp only [Value.slice.injEq] at e
              have hgl := (World.ownsRow.lt HRW.out g (by rw [e.1]; rfl)).2
              rw [HLB.out] at hgl
              refine ⟨g, e.1, hgl, (HB67.out.cell (p := ⟨g, k, none⟩) hgl).trans ?_⟩
              have hrw := HRW.out
              rw [e.1] at hrw
              rw [World.ownsRow.cellAt hrw k (by omega), List.getElem?_map, hk]; rfl)
          clear xr HC1 HC2 HC3 HB1 HB2 HC0 HB0 HB6 HRW HB67 HTV
          go_wp2_with fail
          go_loopw [75] (fun kv wr => ∃ (k : Nat) (lv : Value) (us : List (List (List Nat))), k ≤ i ∧ kv = .int .i64 (k : Int) ∧ Hid (CanX T ms k us) ∧ Hid (Lst (lb + 2) lb (lb + 1) (.pointer (some ⟨b, o, none⟩)) wr lv us k) ∧ Hid (Below lb w6 wr)) (fun kv _ => i - (intOf kv).toNat)
          case atStart => exact ⟨0, _, [], Nat.zero_le _, rfl, HCX, HLS, Lib.hid (Below.refl _ _)⟩
          case round =>
            clear HCX HLS
            rename World => wx
            obtain ⟨k, lv, us, hk, rfl, hCX, hLS, hB⟩ := hrel
            have HBw := Lib.hid (show Below w.heap.size w wx from HBw6.out.trans (hB.out.mono (by omega)))
            have hsl : lb + 2 ≤ wx.heap.size := by have := hB.out.size; omega
            by_cases hki : k < i
            · obtain ⟨M, hMk⟩ : ∃ M, ms[k]? = some M := ⟨_, List.getElem?_eq_getElem (by rw [HML2.out]; exact hki)⟩
              obtain ⟨g, rfl, hgl, hcg⟩ := HRC.out k M hMk
              have hcgr : wx.cell? ⟨g, k, none⟩ = some (.int .u64 (M : Int)) := (hB.out.cell (p := ⟨g, k, none⟩) hgl).trans hcg
              have hglr : g < wx.heap.size := by omega
              have xr : wx.cell? ⟨w.heap.size, 0, none⟩ = some (.pointer (some ⟨b, o, none⟩)) := (hB.out.cell (p := ⟨w.heap.size, 0, none⟩) (show w.heap.size < lb by omega)).trans HC6.out
              have HSM := Lib.hid ((HSB.out.2 M).1 (List.mem_of_getElem? hMk))
              have HMl := Lib.hid (HSM.out.lt hz)
              have HMK := Lib.hid hMk
              have HNW := Lib.hid (newSeq_any T HS.out.1 wx b o (HPw.out wx HBw.out))
              have hd1 : decide ((k : Int) < (i : Int)) = true := by simp; omega
              have hkii : (k : Int) < (i : Int) := by omega
              have hk0 : (0 : Int) ≤ (k : Int) := by omega
              have HKI := Lib.hid hki
              clear hMk hcg hki
              go_wp2_with fail
              refine HNW.out.mono ?_
              rintro e w9 ⟨sb, gb, rfl, hgb, hsb, hq9, hb9⟩
              have HQ9 := Lib.hid hq9
              have HB9 := Lib.hid hb9
              have HGB := Lib.hid hgb
              have HSB2 := Lib.hid hsb
              have HLI := Lib.hid (show LINV T (melX T M 0) (List.replicate T.length []) [] from by
                unfold LINV
                rw [tabF_replicate, show melX T M 0 = [] from rfl]
                exact LInv.start (fil HT.out HGT.out) (im := []) (fun c hc => absurd hc (by simp)))
              have hs9 : wx.heap.size ≤ w9.heap.size := hb9.size
              clear hq9 hb9 hgb hsb HNW hcgr hglr hgl xr
              have HLS9 := Lib.hid (hLS.out.below HB9.out)
              have HB9L := Lib.hid (show Below lb w6 w9 from hB.out.trans (HB9.out.mono (by omega)))
              go_wp2_with fail
              go_loopw [83] (fun xv wr => ∃ (x : Nat) (tl : List (List Nat)), x ≤ sz T ∧ xv = .int .i64 (x : Int) ∧ Hid (SeqR wr b o sb gb (fun k => k ≠ gb) T.length tl) ∧ Hid (LINV T (melX T M x) tl []) ∧ Hid (w9.grownBy wr (some gb))) (fun xv _ => sz T - (intOf xv).toNat)
              case atStart => exact ⟨0, _, Nat.zero_le _, rfl, HQ9, HLI, Lib.hid (ImplB.grown_refl _ _)⟩
              case round =>
                clear HQ9 HLI
                obtain ⟨x, tl, hx, rfl, hQ, hLI, hGr⟩ := hrel
                have hBc : Below wx.heap.size w9 wr := (Below.refl _ _).grown hGr.out hs9 (by intro k hk; cases hk; exact HGB.out)
                have HBc := Lib.hid hBc
                have HBcw := Lib.hid (show Below w.heap.size w wr from (HBw.out.trans (HB9.out.mono HBw.out.size)).trans (hBc.mono HBw.out.size))
                by_cases hxs : x < sz T
                · have h1 := Mask.test_eq M x (by omega) HMl.out
                  have hd2 : decide ((x : Int) < (sz T : Int)) = true := by simp; omega
                  have HXS := Lib.hid hxs
                  clear hxs
                  cases hb : M.testBit x with
                  | false =>
                    have HN := Lib.hid (show LINV T (melX T M (x + 1)) tl [] from by rw [melX_no hb]; exact hLI.out)
                    rw [hb] at h1
                    clear hb hBc
                    go_wp2_with fail
                    go_roundw
                    case rel => exact ⟨x + 1, tl, HXS.out, by go_num, hQ, HN, hGr⟩
                    case measure => have := HXS.out; simp [intOf]; omega
                  | true =>
                    have HME := Lib.hid (melX_yes (T := T) hb)
                    rw [hb] at h1
                    have xr : wr.cell? ⟨w.heap.size, 0, none⟩ = some (.pointer (some ⟨b, o, none⟩)) := ((HB9L.out.trans (hBc.mono (by omega))).cell (p := ⟨w.heap.size, 0, none⟩) (show w.heap.size < lb by omega)).trans HC6.out
                    have HAT := Lib.hid ((ImplN.at_any T HT.out HS.out.1 hz729 x (by omega) wr b o (HPw.out wr HBcw.out)).mono fun e w' h => (NewT.of h (at_length T x) : NewT T.length (at_ T x) wr e w'))
                    have hsc : w9.heap.size ≤ wr.heap.size := hGr.out.size
                    clear hb hBc
                    go_wp2_with fail
                    refine HAT.out.mono ?_
                    rintro e w10 ⟨g10, c10, rfl, ho10, hb10⟩
                    have HB10 := Lib.hid hb10
                    have hgbl : gb < wr.heap.size := hQ.out.tb.lt
                    obtain ⟨w11, hw11⟩ : ∃ w11, w11 = w10.alloc (.cells #[.slice (some ⟨g10, 0, none⟩) T.length c10] 22) := ⟨_, rfl⟩
                    have hs10 : wr.heap.size ≤ w10.heap.size := hb10.size
                    have hb11 : Below w10.heap.size w10 w11 := by rw [hw11]; exact (Below.refl _ _).alloc (Nat.le_refl _) _
                    have HL11 := Lib.hid (show Sl2 (fun k => k ≠ gb) w11 (.slice (some ⟨w10.heap.size, 0, none⟩) 1 1) ([at_ T x].map ints) from by
                      rw [hw11]
                      exact lit1 (ho10.sl.mono (fun k hk => by omega)) (by show w10.heap.size ≠ gb; omega))
                    have HQ11 := Lib.hid ((hQ.out.below hb10).below hb11)
                    have HW11 := Lib.hid (show Below w.heap.size w w11 from (HBcw.out.trans (hb10.mono HBcw.out.size)).trans (hb11.mono (Nat.le_trans HBcw.out.size hs10)))
                    have HPT := Lib.hid (show PtrP (fun k => k ≠ gb) w11 b o (ofTw T) from (((ImplD.PtrP_lt HP.out).keep (Keep.of_below HW11.out)).mono (fun k hk => by have := HGB.out; have := HBw.out.size; omega)))
                    have HAD := Lib.hid (addg_any T HT.out HS.out HGT.out HPR.out w11 b o sb gb (.slice (some ⟨w10.heap.size, 0, none⟩) 1 1) (melX T M (x + 1)) [at_ T x] tl HPT.out HQ11.out HL11.out (melX_El HT.out) (by rw [HME.out]; exact linv_more HT.out HGT.out (by rw [← HME.out]; exact melX_El HT.out) hLI.out) (by simp))
                    have HB11 := Lib.hid (show Below wr.heap.size wr w11 from hb10.trans (hb11.mono hs10))
                    clear ho10 hb10 hb11 HAT
                    go_wp2_with fail
                    rw [← hw11]
                    clear hw11
                    refine HAD.out.mono ?_
                    rintro e w12 ⟨bl, tl2, rfl, hl12, hq12, hg12⟩
                    have HQ12 := Lib.hid hq12
                    have HL12 := Lib.hid hl12
                    have HG12 := Lib.hid (ImplB.grown_trans (ImplB.grown_trans hGr.out (ImplB.grown_below HB11.out)) hg12)
                    clear hl12 hq12 hg12 HAD
                    go_wp2_with fail
                    go_roundw
                    case rel => exact ⟨x + 1, tl2, HXS.out, by go_num, HQ12, HL12, HG12⟩
                    case measure => have := HXS.out; simp [intOf]; omega
                · obtain rfl : x = sz T := by omega
                  have hd2 : decide ((sz T : Int) < (sz T : Int)) = false := by simp
                  have HCN := Lib.hid (ChW.cann_any T HT.out HS.out HGT.out (mel T M) tl (fun k => k ≠ gb) wr b o sb gb (HPw.out wr HBcw.out) hQ.out (LInv.clo (fil HT.out HGT.out) (mel_El HT.out) (show LINV T (mel T M) tl [] from hLI.out)))
                  have hsc : w9.heap.size ≤ wr.heap.size := hGr.out.size
                  have HBx := Lib.hid (HB9.out.trans hBc)
                  clear hBc hQ hLI hGr HBc HBcw HLS9 HB9L
                  go_wp2_with fail
                  refine HCN.out.mono ?_
                  rintro e w13 ⟨v13, u, rfl, hcl, hv13, hb13⟩
                  have hb13x := HBx.out.trans (hb13.mono HBx.out.size)
                  have HCL := Lib.hid hcl
                  have HSU := Lib.hid (can_sub HT.out HGT.out HPR.out HS.out.1 hz729 hcl)
                  have HLS13 := Lib.hid (hLS.out.below hb13x)
                  have HB13 := Lib.hid (hB.out.trans (hb13x.mono (show lb ≤ wx.heap.size by omega)))
                  have HV13 := Lib.hid (show Sl2 (fun b => lb + 2 ≤ b ∧ some b ≠ lv.ownBlock) w13 v13 (u.map ints) from Sl2.mono hv13 (fun b hb => ⟨by have := HBx.out.size; omega, fun e => by
                    obtain ⟨q, hq, _⟩ := hLS.out.rows
                    have := (World.ownsRow.lt hq b e.symm).2
                    have := HBx.out.size
                    omega⟩))
                  obtain ⟨a13, c13, rfl, _, _⟩ := SlG.form hv13
                  rw [List.length_map] at HV13 ⊢
                  obtain ⟨lu, hlu⟩ : ∃ lu, u.length = lu := ⟨_, rfl⟩
                  rw [hlu] at HV13 ⊢
                  have HKY := Lib.hid (CcN.key_any T.length HS.out.1 w13 (.slice a13 lu c13) u (Sl2.mono HV13.out (fun _ _ => trivial)) HSU.out.len (fun r hr => El_length (HSU.out.row r hr).1))
                  have hsx13 : wx.heap.size ≤ w13.heap.size := hb13x.size
                  clear hcl hv13 hb13 hb13x HCN hlu hsc HBx
                  go_wp2_with fail
                  refine HKY.out.mono ?_
                  rintro e w14 ⟨s, rfl, hss, hb14⟩
                  have HLS14 := Lib.hid (HLS13.out.below hb14)
                  have HB14 := Lib.hid (HB13.out.trans (hb14.mono (show lb ≤ w13.heap.size by omega)))
                  have HV14 := Lib.hid (Sl2.keep HV13.out (Keep.of_below hb14))
                  have hs14 : lb + 2 ≤ w14.heap.size := by have := hb14.size; omega
                  obtain ⟨D, hD⟩ := HLS14.out.mp
                  obtain ⟨kl, hkl⟩ := keyOf_str s hss
                  have HI3 := Lib.hid (show k < 4294967296 by have := HL3.out; omega)
                  clear hb14 HKY HLS13 HB13 HV13 hsx13 hss
                  go_upto_region 34 with (at_mapUpdate; refine wpList_mapUpdate_own _ rfl _ _ _ 86 rfl 9 83 keyS Tryz.underlying86 _ (lb + 1) k D rfl hD (by have := HI3.out; unfold maxLen; omega) _ _ kl rfl rfl hkl (.lit (.int .u64 (M : Int))) [] (plainElem_int Tryz.underlying83 (WalkArith.wf_u64 (by have := HMl.out; omega))) ?_; intro w15 hown15 hgrow15)
                  have HLS15 := Lib.hid (HLS14.out.key hgrow15 ⟨_, hown15⟩)
                  have hb15 : Below (lb + 1) w14 w15 := (Below.refl (lb + 1) w14).grown hgrow15 (by omega) (fun g hg => by cases hg; omega)
                  have HB15 := Lib.hid (HB14.out.trans (hb15.mono (by omega)))
                  have HV15 := Lib.hid (show Sl2 (fun b => lb + 2 ≤ b ∧ some b ≠ lv.ownBlock) w15 (.slice a13 lu c13) (u.map ints) from Sl2.mono (Sl2.keep (S := fun b => lb + 2 ≤ b ∧ some b ≠ lv.ownBlock) HV14.out (Keep.grown hgrow15 (fun k hk e => by have := hk.1; injection e with e; omega))) (fun b hb => hb))
                  have hs15 : lb + 2 ≤ w15.heap.size := Nat.le_trans hs14 hb15.size
                  obtain ⟨-, x15, -, hg15, hf15⟩ := HLS15.out.cell
                  obtain ⟨usv, hp15, hp152, hp153⟩ := HLS15.out.rows
                  have HCXL := Lib.hid hCX.out.1
                  rw [HCXL.out] at hp15
                  have HU15 := Lib.hid (And.intro hp152 hp153)
                  have h1 := hp15.alloc (.cells #[.slice a13 lu c13] 23)
                  have x16 : (w15.alloc (.cells #[.slice a13 lu c13] 23)).cell? ⟨lb, 1, none⟩ = some lv := (((Keep.refl Any w15).alloc _).cell (b := lb) trivial hg15).trans x15
                  clear hown15 hgrow15 hb15 hp152 hp153 HLS14 HB14 HV14 hs14 hD hkl
                  go_wp2_with (at_builtin; (refine wpList_append_lies _ rfl _ _ 24 rfl (lb + 2) 23 i3 (.slice none 0 0) 1 24 Tryz.underlying24 hi3 hy6 hy7 hy8 rfl (by decide) _ _ _ rfl h1 ⟨w15.heap.size, 0, none⟩ 1 1 [.slice a13 lu c13] rfl rfl ?c1 ?c2 (by decide) ?c3 ?c4 ?c5 _ rfl ?_))
                  case c2 => first | rfl | (intro u hu; simp at hu; subst hu; rfl)
                  case c3 => have := HI3.out; unfold maxLen; omega
                  case c4 => have := HI3.out; omega
                  case c5 => first | omega | (simp; omega)
                  intro g17 c17 w17 hown17 hgrow17 hat17 hlt17
                  have hG17 : Grw w15 w17 lv (.slice (some ⟨g17, 0, none⟩) (k + 1) c17) := CcM.grw_of (B := 0) (e := 0) (xs := []) ((Below.refl _ _).alloc (Nat.le_refl _) _) hgrow17 (by simpa using hat17) hlt17
                  have HLS17 := Lib.hid (HLS15.out.push (W2 := w17) hG17 HU15.out.1 HU15.out.2 HV15.out (by rw [HCXL.out]; exact hown17))
                  have HB17 := Lib.hid (show Below lb w6 (w17.setCell ⟨lb, 1, none⟩ (.slice (some ⟨g17, 0, none⟩) (k + 1) c17)) from
                    HB15.out.trans ((((Below.refl lb w15).alloc (by omega) _).grown hgrow17 (by simp; omega) (fun g hg => by have := (World.ownsRow.lt hp15 g hg).1; omega)).setCell (Nat.le_refl _) _))
                  obtain ⟨y17, hgg17, hf17⟩ := HLS15.out.grown hG17
                  have f17 := hf17 1
                  have HCX17 := Lib.hid (hCX.out.push HMK.out HCL.out)
                  have hk63 : (k : Int) + 1 ≤ 9223372036854775807 := by have := HI3.out; omega
                  clear x16 h1 hp15 x15 hg15 hf15 hown17 hgrow17 hat17 hlt17 hG17 hf17
                  go_wp2_with fail
                  go_roundw
                  case rel => exact ⟨k + 1, _, _, HKI.out, by go_num, HCX17, HLS17, HB17⟩
                  case measure => have := HKI.out; simp [intOf]; omega
            · obtain rfl : k = i := by omega
              have hd1 : decide ((k : Int) < (k : Int)) = false := by simp
              have hLs := hLS.out
              obtain ⟨usv, hp, hp2, hp3⟩ := hLs.rows
              have HCXL := Lib.hid hCX.out.1
              have HUS := Lib.hid (show ∀ x ∈ us, CcH.SubU T x from fun x hx => by
                obtain ⟨j, hj⟩ := List.getElem?_of_mem hx
                have hjl := (List.getElem?_eq_some_iff.1 hj).1
                obtain ⟨M, hM⟩ : ∃ M, ms[j]? = some M := ⟨_, List.getElem?_eq_getElem (by rw [HML2.out, ← HCXL.out]; exact hjl)⟩
                exact can_sub HT.out HGT.out HPR.out HS.out.1 hz729 (hCX.out.2 j M x hM hj))
              have HCS := Lib.hid (show CanS T ms us from ⟨by rw [HCXL.out, HML2.out], hCX.out.2⟩)
              have HLU := Lib.hid (show CcI.ListU (fun b => lb + 2 ≤ b) (lb + 2) wx lv us from ⟨usv, hp, hp2, fun i x u hx hu => hp3 i x u hx hu⟩)
              have hlvB : ∀ b, lv.ownBlock = some b → lb + 2 ≤ b := fun b hb => (World.ownsRow.lt hp b hb).1
              have hcx : wx.cell? ⟨w.heap.size, 0, none⟩ = some (.pointer (some ⟨b, o, none⟩)) := (hB.out.cell (p := ⟨w.heap.size, 0, none⟩) (show w.heap.size < lb by omega)).trans HC6.out
              have HPX := Lib.hid (show PtrP (fun k => some k ≠ lv.ownBlock) wx b o (ofTw T) from ((ImplD.PtrP_lt HP.out).keep (Keep.of_below HBw.out)).mono (fun k hk e => by have := hlvB k e.symm; omega))
              have HSO := Lib.hid (CcI.sort_any (fun b => lb + 2 ≤ b) T HS.out (lb + 2) wx lv us HLU.out (by rw [HCXL.out]; have := HL3.out; omega) HUS.out b o w.heap.size HPX.out hcx ⟨fun e => by have := hlvB _ e.symm; omega, by have := HBw.out.size; omega⟩)
              obtain ⟨x0, x1, x2, hgl, hfl⟩ := hLs.cell
              have HLSX := Lib.hid hLs
              have HLVB := Lib.hid hlvB
              clear hLs hp hp2 hp3 hLS hCX
              go_wp2_with fail
              refine HSO.out.mono ?_
              rintro e w16 ⟨rfl, L, hperm, hL, hk16, hb16⟩
              have hl16 : w16.heap[lb]? = some (.cells #[.pointer (some ⟨b, o, none⟩), lv, .slice none 0 0] 61) := (hk16.block lb (fun e => by have := HLVB.out lb e.symm; omega) hgl).trans HLSX.out.hl
              have HM16 := Lib.hid (HLSX.out.mp.kept (hk16.block (lb + 1) (fun e => by have := HLVB.out (lb + 1) e.symm; omega) HLSX.out.mp.lt))
              have HB16 := Lib.hid (hB.out.trans (hb16.mono (show lb ≤ min (lb + 2) wx.heap.size by omega)))
              obtain ⟨usv, hp, hp2, hp3⟩ := hL
              obtain ⟨aL, cL, hlv⟩ : ∃ a c, lv = .slice a L.length c := by
                rcases hp.2 with ⟨rfl, h0⟩ | ⟨g, cap, cur, rfl, _⟩
                · exact ⟨none, 0, by rw [h0]⟩
                · exact ⟨_, _, rfl⟩
              obtain ⟨B5, hB5⟩ : ∃ B5, B5 = w16.heap.size := ⟨_, rfl⟩
              have HB5 := Lib.hid hB5
              have HSL := Lib.hid (show SlG (fun w u (x : List (List Nat)) => Sl2 (fun b => lb + 2 ≤ b ∧ b < B5) w u (x.map ints)) (fun b => lb + 2 ≤ b ∧ b < B5) w16 lv L from by
                rw [hB5]
                exact SlG_inn (RowsL.slG (E := fun W u x => Sl2 (fun k => lb + 2 ≤ k ∧ some k ≠ lv.ownBlock) W u (x.map ints)) ⟨usv, hp, hp2, hp3⟩ (fun u x h => Sl2.mono (Sl2_inn h) (fun b hb => ⟨hb.1.1, hb.2⟩))))
              have HPE := Lib.hid hperm
              obtain ⟨n5, hn5⟩ : ∃ n5, L.length = n5 := ⟨_, rfl⟩
              have HN5 := Lib.hid hn5
              have HN3 := Lib.hid (show n5 ≤ 4294967296 from by rw [← hn5, hperm.length_eq, HCXL.out]; exact HL3.out)
              rw [hn5] at hlv
              subst hlv
              have HUL := Lib.hid (fun x (hx : x ∈ L) => HUS.out x (hperm.mem_iff.1 hx))
              have hs16 : lb + 2 ≤ w16.heap.size := Nat.le_trans hsl hb16.size
              have HL16 := Lib.hid hl16
              have y1 : w16.cell? ⟨lb, 1, none⟩ = some (.slice aL n5 cL) := by rw [cell_of_row _ _ _ _ _ (0, 0) hl16]; rfl
              have hgl16 : lb < w16.heap.size := by omega
              clear hp hp2 hp3 hn5 hperm hk16 hb16 hl16 x0 x1 x2 hgl hfl HSO HPX HLU HLSX HLVB hlvB hcx hB hB5
              go_wp2_with fail
              go_loopw [126] (fun jv wr => ∃ (j : Nat) (mv : Value) (zs : List Int), j ≤ n5 ∧ jv = .int .i64 (j : Int) ∧ Hid (zs.length = j) ∧ Hid (wr.heap[lb]? = some (.cells #[.pointer (some ⟨b, o, none⟩), .slice aL n5 cL, mv] 61)) ∧ Hid (wr.ownsRow B5 83 1 mv j (zs.map (Value.int .u64))) ∧ Hid (Keep (fun b => b < B5 ∧ b ≠ lb) w16 wr) ∧ Hid (Below lb w16 wr)) (fun jv _ => n5 - (intOf jv).toNat)
              case atStart => exact ⟨0, _, [], Nat.zero_le _, rfl, Lib.hid rfl, HL16, Lib.hid (World.ownsRow_nil _ _ _ _), Lib.hid (Keep.refl _ _), Lib.hid (Below.refl _ _)⟩
              case round =>
                rename World => wy
                obtain ⟨j, mv, zs, hj, rfl, hZL, hHL, hO, hK, hBB⟩ := hrel
                clear HL16 y1
                have hsy : B5 ≤ wy.heap.size := by rw [HB5.out]; exact hK.out.size
                by_cases hjn : j < n5
                · obtain ⟨x, hx⟩ : ∃ x, L[j]? = some x := ⟨_, List.getElem?_eq_getElem (by rw [HN5.out]; exact hjn)⟩
                  have hKS : Keep (fun b => lb + 2 ≤ b ∧ b < B5) w16 wy := hK.out.mono (fun b hb => ⟨hb.2, by omega⟩)
                  obtain ⟨bL, oL, u, rfl, _, hbL, hcL, hu⟩ := SlG.get (SlG.keep HSL.out hKS (fun u x e => Sl2.keep e hKS)) hx
                  have hux := HUL.out x (List.mem_of_getElem? hx)
                  have HUX := Lib.hid hu
                  obtain ⟨aX, cX, rfl, _, _⟩ := SlG.form hu
                  have HSX := Lib.hid hux
                  obtain ⟨lx, hlx⟩ : ∃ lx, x.length = lx := ⟨_, rfl⟩
                  rw [List.length_map, hlx] at HUX hcL
                  have HKY := Lib.hid (fun W (h : Keep Any wy W) => CcN.key_any T.length HS.out.1 W (.slice aX lx cX) x (Sl2.keep (S := Any) (Sl2.mono HUX.out (fun _ _ => trivial)) h) HSX.out.len (fun r hr => El_length (HSX.out.row r hr).1))
                  have HMY := Lib.hid (HM16.out.kept (hK.out.block (lb + 1) ⟨by have := HB5.out; omega, by omega⟩ HM16.out.lt))
                  have c2 : wy.cell? ⟨lb, 2, none⟩ = some mv := by rw [cell_of_row _ _ _ _ _ (0, 0) hHL.out]; rfl
                  have hgly : lb < wy.heap.size := (Array.getElem?_eq_some_iff.1 hHL.out).1
                  have HNE := Lib.hid (show mv.ownBlock ≠ some lb from fun e => by have := (World.ownsRow.lt hO.out lb e).1; have := HB5.out; omega)
                  have hd1 : decide ((j : Int) < (n5 : Int)) = true := by simp; omega
                  have hji : (j : Int) < (n5 : Int) := by omega
                  have hj0 : (0 : Int) ≤ (j : Int) := by omega
                  have HJN := Lib.hid hjn
                  have HJ3 := Lib.hid (show j < 4294967296 by have := HN3.out; omega)
                  have hj63 : (j : Int) + 1 ≤ 9223372036854775807 := by have := HJ3.out; omega
                  clear hx hKS hux hu hlx hjn
                  go_upto_region 40 with fail
                  go_region_law
                    (first | (go_simp; go_at_call 52; refine (HKY.out _ (by first | exact (Keep.refl _ _).drew | exact Keep.refl _ _)).mono ?_; rintro e w18 ⟨s, rfl, hss, hb18⟩; obtain ⟨kl, hkl⟩ := keyOf_str s hss; have hbz : Below wy.heap.size wy w18 := (by first | exact ((Below.refl _ _).drew).trans hb18 | exact hb18); obtain ⟨D, hD⟩ := HMY.out.kept (hbz.block (lb + 1) HMY.out.lt); obtain ⟨c18, hrun18, -, -⟩ := hD.lookup_int keyS Tryz.underlying86 Tryz.underlying83 (zeroU _) hkl; have cm18 : w18.cell? ⟨lb, 2, none⟩ = some mv := (hbz.cell (p := ⟨lb, 2, none⟩) hgly).trans c2; have hgl18 : lb < w18.heap.size := Nat.lt_of_lt_of_le hgly hbz.size) | (refine step_append_lies _ (by rfl) _ _ _ (by rfl) B5 83 iU (.int .u64 0) 1 8 Tryz.underlying59 hiU hyU0 hyU1 hyU2 rfl (by omega) mv j (zs.map (Value.int .u64)) (by rfl) ((own_kept hO.out (fun k hk => hbz.block k (World.ownsRow.lt hO.out k hk).2)).alloc _) ⟨w18.heap.size, 0, none⟩ 1 1 [.int .u64 c18] (by rfl) (by rfl) (World.news_of_block (cs := #[.int .u64 c18]) (t := 83) (fr := (0, 0)) (heap_alloc_new w18 _)) (by simp [Value.oneCell']) (by omega) (by have := HJ3.out; unfold maxLen; omega) (by have := HJ3.out; omega) (by have := hbz.size; simp; omega) _ rfl ?_; intro g20 c20 w20 hown20 hgrow20 hat20 hlt20; obtain ⟨hh20, s20, f20, hs20⟩ := latc hbz hgrow20 HNE.out hHL.out))
                  all_goals
                    have HZ20 := Lib.hid (show (zs ++ [c18]).length = j + 1 by simp [hZL.out])
                    have HH20 := Lib.hid (show (w20.setCell ⟨lb, 2, none⟩ (.slice (some ⟨g20, 0, none⟩) (j + 1) c20)).heap[lb]? = some (.cells #[.pointer (some ⟨b, o, none⟩), .slice (some ⟨bL, oL, none⟩) n5 cL, .slice (some ⟨g20, 0, none⟩) (j + 1) c20] 61) from by rw [heap_setCell_same _ _ _ _ _ _ hh20]; rfl)
                    have HO20 := Lib.hid (show (w20.setCell ⟨lb, 2, none⟩ (.slice (some ⟨g20, 0, none⟩) (j + 1) c20)).ownsRow B5 83 1 (.slice (some ⟨g20, 0, none⟩) (j + 1) c20) (j + 1) ((zs ++ [c18]).map (Value.int .u64)) from by
                      rw [List.map_append]
                      exact own_kept hown20 (fun k hk => st_block (by have := (World.ownsRow.lt hown20 k hk).1; have := HB5.out; omega)))
                    have HK20 := Lib.hid (show Keep (fun b => b < B5 ∧ b ≠ lb) w16 (w20.setCell ⟨lb, 2, none⟩ (.slice (some ⟨g20, 0, none⟩) (j + 1) c20)) from
                      (((hK.out.trans (Keep.below hbz (fun k _ h => h))).alloc _).trans (Keep.grown hgrow20 (fun k hk e => by have := (World.ownsRow.lt hO.out k e.symm).1; omega))).setCell (fun h => h.2 rfl) _)
                    have HB20 := Lib.hid (show Below lb w16 (w20.setCell ⟨lb, 2, none⟩ (.slice (some ⟨g20, 0, none⟩) (j + 1) c20)) from
                      (((hBB.out.trans (hbz.mono (Nat.le_of_lt hgly))).alloc (Nat.le_of_lt hgl18) _).grown hgrow20 (by simp; omega) (fun g hg => by have := (World.ownsRow.lt hO.out g hg).1; have := HB5.out; omega)).setCell (Nat.le_refl _) _)
                    clear hh20 s20 f20 hs20 hown20 hgrow20 hat20 hlt20 hbz hb18 hD hrun18 cm18 hgl18 c2 hgly hkl hss
                    go_wp2_with fail
                    go_roundw
                  all_goals first | exact ⟨j + 1, _, _, HJN.out, by go_num, HZ20, HH20, HO20, HK20, HB20⟩ | (have := HJN.out; simp [intOf]; omega)
                · obtain rfl : j = n5 := by omega
                  have hd1 : decide ((j : Int) < (j : Int)) = false := by simp
                  have HR := Lib.hid (show LatR (ofTw T) w (.returned (.tuple #[.pointer (some ⟨lb, 0, none⟩), .int .i64 0])) wy from by
                    have hKS : Keep (fun b => lb + 2 ≤ b ∧ b < B5) w16 wy := hK.out.mono (fun b hb => ⟨hb.2, by omega⟩)
                    refine ⟨_, _, rfl, (HBw6.out.trans (HB16.out.mono (by omega))).trans (hBB.out.mono (by omega)), .inr ⟨T, rfl, HGP.out, .inr ⟨rfl, hz, ?_⟩⟩⟩
                    refine ⟨lb, .slice aL j cL, L, us, ms, rfl, (Array.getElem?_eq_some_iff.1 hHL.out).1, by rw [cell_of_row _ _ _ _ _ (0, 0) hHL.out]; rfl, ?_, HSB.out, HCS.out, HPE.out, by rw [HN5.out]; exact HN3.out⟩
                    exact SlG_map (f := fun l : List (List Nat) => l.map ints) (SlG.mono (SlG.keep HSL.out hKS (fun u x e => Sl2.keep e hKS)) (fun _ _ => trivial) (fun u x h => Sl2.mono h (fun _ _ => trivial))))
                  clear hHL hO hK hBB hZL
                  go_wp2_with fail
                  exact bodyPost_ret (v := .tuple #[.pointer (some ⟨lb, 0, none⟩), .int .i64 0]) (by simp [results, Tryz.results26, go_sem]) rfl HR.out
  · obtain rfl : r = false := by
      cases r with
      | false => rfl
      | true => exact absurd (hr.1 rfl) hGP
    have HR := Lib.hid (show LatR P w (.returned (.tuple #[.pointer none, .int .i64 1])) w1 from ⟨_, _, rfl, HB1.out, .inl ⟨rfl, rfl, hGP⟩⟩)
    clear hr hb1 hGP p0 p1 p2 hpl
    go_wp2_with fail
    exact bodyPost_ret (v := .tuple #[.pointer none, .int .i64 1]) (by simp [results, Tryz.results26, go_sem]) rfl HR.out
end Go.Proofs.YtabkibmnghbahaaGreat.CcP

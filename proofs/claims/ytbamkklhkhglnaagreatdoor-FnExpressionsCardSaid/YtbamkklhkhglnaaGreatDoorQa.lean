import Derived.RangeFuncNested
import Derived.RangeFuncBound
import Derived.RangeFuncCalls
import Derived.RangeFuncLeaves
import Derived.RangeFuncBox
import Derived.Shelf.Abstract
import Derived.Shelf.RegionOpen
import Derived.WalkKit
import Derived.OwnWalkIn
import Derived.TacticsInMore
import Derived.LoopNIn
import Derived.LoopIn
import Derived.Test.YtbamkklhkhglnaaGreatDoorMem
import Derived.Test.YtbamkklhkhglnaaGreatDoorTxC
import Derived.Test.YtbamkklhkhglnaaGreatDoorShelf
import Derived.Lib.SplitLaws
import Derived.Test.YtbamkklhkhglnaaGreatDoorTrA
import Derived.Maps.AppendAt
import Derived.Test.YtbamkklhkhglnaaGreatDoorTrB
import Derived.Test.YtbamkklhkhglnaaGreatDoorImplH
import Derived.Test.YtbamkklhkhglnaaGreatDoorImplVW
import Derived.Test.YtbamkklhkhglnaaGreatDoorPlainA
import Derived.Test.YtbamkklhkhglnaaGreatDoorOwn2
import Derived.Lib.OwnBridge
import Derived.Lib.AppendIntMem
import Derived.Test.YtbamkklhkhglnaaGreatDoorTwE
import Derived.Test.YtbamkklhkhglnaaGreatDoorTwD
import Derived.Test.YtbamkklhkhglnaaGreatDoorTsB
import Derived.Test.YtbamkklhkhglnaaGreatDoorTsC
import Derived.Test.YtbamkklhkhglnaaGreatDoorTsD
import Derived.Test.YtbamkklhkhglnaaGreatDoorTsE
import Derived.Test.YtbamkklhkhglnaaGreatDoorSpecF
import Derived.Test.YtbamkklhkhglnaaGreatDoorSpecVW
import Derived.Test.YtbamkklhkhglnaaGreatDoorNumD
import Derived.Deep.Slices
import Derived.Deep.Strs
import Derived.ChangeSlices
import Derived.Lib.SmallJoins
/-
  Texts of a proof, bundled: LbX LbY LbZ.
-/
namespace Go.Proofs.YtbamkklhkhglnaaGreatDoor.LbA
open Go.RowKit Go.Lib Go.Shelf Go.Proofs.YtbamkklhkhglnaaGreatDoor Go.Proofs.YtbamkklhkhglnaaGreatDoor.Tow
set_option linter.unusedVariables false
set_option linter.unusedSimpArgs false
attribute [local go_sem] Oper.semAt_some

def Stp (b : Nat) (A A' : World) : Prop := (∃ v, A' = A.setCell ⟨b, 0, none⟩ v) ∨ ∃ n, A' = A.drewN n
def Each {α : Type} (n : Nat) (P : Program) (gf : Nat) (lb : Array Value) (encs : α → Array Value) (b : Nat) (S : Nat → Prop) (xs : List α) (w : World) : Prop :=
  ∀ (l : Nat) (J : List α → World → Prop) (W : World), Below w.heap.size w W → (∀ s A A', J s A → Stp b A A' → J s A') →
    (∀ pre x W1, J pre W1 → xs[pre.length]? = some x → YieldAt Fence.wide (n - 1) P l (encs x) W1 fun e W' => e = .returned (.bool true) ∧ J (pre ++ [x]) W' ∧ Keep S W1 W') →
    J [] W → CallsIn Fence.wide n P gf (#[.func (.yield l) #[] #[]] ++ lb) W fun e W' => (∃ v, e = .returned v) ∧ J xs W'

theorem keep_put {S : Nat → Prop} (W : World) {l : Nat} (o : Obj) (h : ∀ k, S k → k < l) : Keep S W (W.putObj l o) :=
  Keep.grown (grownBy_putObj' W l o) (fun k hk e => by cases e; exact absurd (h l hk) (Nat.lt_irrefl _))

theorem wp_rangeFunc_each {α : Type} {P : Program} {n : Nat} {g : Operand} {ps : Array Tmp} {assign body : Code} {Q : Exit → Act → World → Prop} {a : Act} {w : World} {gf : Nat} {lb : Array Value}
    (hg : a.eval g = .func (.func gf) #[] lb) (eg : ∀ args w, (callFunc gf args).run P w = .ok (.enter gf args) w) {encs : α → Array Value} (hps : ∀ x, (encs x).size = ps.size) {b : Nat} {S : Nat → Prop} {xs : List α}
    (hb : b < w.heap.size) (hSw : ∀ k, S k → k < w.heap.size) (hseq : Each (n - 1) P gf lb encs b S xs w)
    (I : List α → World → Prop) (hI : OwnFrom w.heap.size I) (hS : ∀ s A A', I s A → Stp b A A' → I s A') (h0 : I [] w) (a₁ : α → Act)
    (hassign : ∀ (l : Nat) (x : α) (W : World) (K : Act → World → Prop), K (a₁ x) W →
      assign.wpIn (Fence.wide.inRound l) (n - 1 - 1) P (Exit.then K (fun _ _ _ => False)) { tmps := (ps.zip (encs x)).foldl (fun t (p, v) => t.setIfInBounds p v) a.tmps, defers := [] } W)
    (hbody : ∀ (l : Nat) (pre : List α) (x : α) (W : World), I pre W → xs[pre.length]? = some x → body.wpIn (Fence.wide.inRound l) (n - 1 - 1) P (Exit.then (fun _ W' => KeepsFrom w.heap.size W W' ∧ Keep S W W' ∧ I (pre ++ [x]) W') (fun _ _ _ => False)) (a₁ x) W)
    (hdone : ∀ (D : Nat) (W : World), w.heap.size ≤ D → I xs W → W.heap[D]? = some (.deferred (some [])) → Q .normal { a with defers := { target := .collected D, args := #[] } :: a.defers } W) :
    (Code.rangeFunc g ps assign body).wpIn Fence.wide n P Q a w := by
  refine wpIn_rangeFunc ?_
  intro fn _
  obtain ⟨z, hz⟩ : ∃ z, w.heap.size = z := ⟨_, rfl⟩
  obtain ⟨R, hR⟩ : ∃ R : LoopState → Option Code → Obj, R = fun st pe => .loop { state := st, pending := pe, fn, tmps := a.tmps, params := ps, assign, body, defers := z } := ⟨_, rfl⟩
  obtain ⟨V, hV⟩ : ∃ V, (w.alloc (.deferred (some []))).alloc (R .ready none) = V := ⟨_, rfl⟩
  have hVz : V.heap.size = z + 2 := by rw [← hV, ← hz]; simp
  have hVl : V.heap[z + 1]? = some (R .ready none) := by
    have := World.alloc_heap_new (w.alloc (.deferred (some []))) (R .ready none)
    rw [hV, World.size_alloc, hz] at this
    exact this
  have hVd : V.heap[z]? = some (.deferred (some [])) := by
    rw [← hV]
    have h1 := World.alloc_heap_new w (.deferred (some []))
    rw [hz] at h1
    exact (Below.heap_alloc _ _ _ (by simp; omega)).trans h1
  have hVI : I [] V := by
    rw [← hV]
    have h1 : ∀ o (A : World), I [] A → I [] (A.alloc o) := fun o A h => hI _ A _ none h (World.grownBy_alloc A o none) (fun r e => by cases e)
    exact h1 _ _ (h1 _ _ h0)
  have hVB : Below w.heap.size w V := by
    rw [← hV]
    exact ((Below.refl _ w).alloc (Nat.le_refl _) _).alloc (by simp) _
  have hput : ∀ {s : List α} {A : World} {o : Obj} (o' : Obj), I s A → A.heap[z + 1]? = some o → o.isCells = false → I s (A.putObj (z + 1) o') := fun {s A o} o' h ho hc =>
    hI s A _ (some (z + 1)) h (grownBy_putObj' A _ o') (fun r e => by cases e; exact ⟨by omega, o, ho, hc⟩)
  have hRc : ∀ st pe, (R st pe).isCells = false := fun st pe => by rw [hR]; rfl
  refine ⟨z + 1, [{ target := .collected z, args := #[] }], V, { target := .fn (.func gf) lb, args := #[.func (.yield (z + 1)) #[] #[]] }, V, gf, #[.func (.yield (z + 1)) #[] #[]] ++ lb, V, ?_, ?_, ?_, ?_, ?_, ?_⟩
  · have := run_enterLoop_outer (P := P) (w := w) fn a.tmps ps assign body
    rw [← hV, hR]
    rw [hz] at this
    exact this
  · simp only [resolve, hg]
    simp [go_sem]
  · intro _ _
    trivial
  · simp [invoke, go_sem, eg]
  · intro h
    cases h
  · refine (hseq (z + 1) (fun s A => I s A ∧ A.heap[z + 1]? = some (R .ready none) ∧ A.heap[z]? = some (.deferred (some []))) V hVB ?_ ?_ ⟨hVI, hVl, hVd⟩).mono ?_
    · rintro s A A' ⟨h1, h2, h3⟩ hst
      refine ⟨hS s A A' h1 hst, ?_, ?_⟩
      · rcases hst with ⟨v, rfl⟩ | ⟨m, rfl⟩
        · exact (KeepsOthers.setCell A _ _).same _ _ h2 (hRc _ _)
        · exact h2
      · rcases hst with ⟨v, rfl⟩ | ⟨m, rfl⟩
        · exact (KeepsOthers.setCell A _ _).same _ _ h3 rfl
        · exact h3
    · rintro pre x W ⟨h1, h2, h3⟩ hx
      have hlt := (Array.getElem?_eq_some_iff.1 h2).1
      have h2' := h2
      rw [hR] at h2'
      refine ⟨fn, _, assign, body, run_yield (P := P) (args := encs x) h2' (hps x), roundIn_of_wpIn trivial (hassign _ x W _ ⟨_, run_beginRound h2' rfl, ?_⟩)⟩
      obtain ⟨U, hU⟩ : ∃ U, W.putObj (z + 1) (R .busy none) = U := ⟨_, rfl⟩
      have hUl : U.heap[z + 1]? = some (R .busy none) := by rw [← hU]; exact World.putObj_heap_same hlt
      have hUd : U.heap[z]? = some (.deferred (some [])) := by rw [← hU]; exact (World.putObj_heap_other (by omega)).trans h3
      have hUI : I pre U := by rw [← hU]; exact hput _ h1 h2 (hRc _ _)
      have hUB : Keep S W U := by rw [← hU]; exact keep_put W _ (fun k hk => by have := hSw k hk; omega)
      have hUe : W.putObj (z + 1) (.loop { state := .busy, pending := none, fn, tmps := a.tmps, params := ps, assign, body, defers := z }) = U := by rw [← hU, hR]
      show body.wpIn _ _ P _ _ (W.putObj (z + 1) _)
      rw [hUe]
      refine wpIn_mono (hbody (z + 1) pre x U hUI hx) ?_
      rintro e a3 W3 hp
      cases e with
      | normal =>
        obtain ⟨k1, k2, k3⟩ := hp
        have hl3 := k1.same (z + 1) _ (by omega) hUl (hRc _ _)
        have hl3' := hl3
        rw [hR] at hl3'
        have hd3 := k1.same z _ (by omega) hUd rfl
        refine ⟨_, _, run_endRound none hl3', rfl, ⟨?_, ?_, ?_⟩, ?_⟩
        · exact hput _ k3 hl3 (hRc _ _)
        · rw [hR]
          exact World.putObj_heap_same (Array.getElem?_eq_some_iff.1 hl3).1
        · exact (World.putObj_heap_other (by omega)).trans hd3
        · exact (hUB.trans k2).trans (keep_put W3 _ (fun k hk => by have := hSw k hk; omega))
      | exit _ => exact hp.elim
      | goto _ => exact hp.elim
      | ret => exact hp.elim
      | panic _ => exact hp.elim
      | outgrown => exact hp.elim
    · rintro e W2 ⟨⟨v, rfl⟩, k1, k2, k3⟩
      have k2' := k2
      rw [hR] at k2'
      refine ⟨none, _, run_endLoop (P := P) k2' (by simp), ?_⟩
      exact hdone z _ (by omega) (hput _ k1 k2 (hRc _ _)) ((World.putObj_heap_other (by omega)).trans k3)
def undef? (o : Oper) : Bool := match o.op with
  | .defer _ => false
  | _ => true
theorem wpOp_round {l n : Nat} {P : Program} {ops : Array Oper} {Q : Exit → Act → World → Prop} (hd : ops.all undef? = true) {i : Nat} {K : Act → World → Prop} {a : Act} {w : World}
    (h : wpOpIn Fence.wide n P ops Q i K a w) : wpOpIn (Fence.wide.inRound l) n P ops Q i K a w := by
  unfold wpOpIn at *
  cases ho : ops[i]? with
  | none =>
    simp only [ho] at h ⊢
    exact h
  | some o =>
    have hu : ∀ c, o.op ≠ .defer c := fun c e => by
      have h1 : undef? o = true := by
        obtain ⟨hi, rfl⟩ := Array.getElem?_eq_some_iff.1 ho
        exact (Array.all_eq_true.1 hd) i hi
      unfold undef? at h1
      rw [e] at h1
      cases h1
    simp only [ho] at h ⊢
    split
    · rename_i hw
      rw [if_pos hw] at h
      refine ⟨h.1, ?_⟩
      have h2 := h.2
      rw [show Fence.wide.round = none from rfl, Oper.semAt_none] at h2
      rw [show (Fence.wide.inRound l).round = some l from rfl, Oper.semAt_some l _ _ hu]
      exact h2
    · rename_i hw
      rw [if_neg hw] at h
      exact h
def One (a₁ : Act) (W₁ : World) : Exit → Act → World → Prop := Exit.then (fun a w => a = a₁ ∧ w = W₁) (fun _ _ _ => False)
theorem one_lets {a₁ : Act} {W₁ : World} (h : LetsOut (One a₁ W₁)) : False := by
  obtain ⟨_, _, h⟩ := h
  exact h
theorem wpOp_one {F : Fence} {n : Nat} {P : Program} {ops : Array Oper} {Q : Exit → Act → World → Prop} {a₁ : Act} {W₁ : World} {i : Nat} {K : Act → World → Prop} {a : Act} {w : World}
    (h : wpOpIn F n P ops (One a₁ W₁) i K a w) : wpOpIn F n P ops Q i K a w := by
  unfold wpOpIn at *
  cases ho : ops[i]? with
  | none =>
    simp only [ho] at h ⊢
    exact h
  | some o =>
    simp only [ho] at h ⊢
    split
    · rename_i hw
      rw [if_pos hw] at h
      refine ⟨h.1, ?_⟩
      have h2 := h.2
      generalize (o.semAt F.round a.eval).run P w = r at h2 ⊢
      cases r with
      | ok x w' =>
        cases x <;> simp only [Oper.uponIn] at h2 ⊢ <;>
          first
            | exact h2
            | exact ⟨h2.1, CallsIn.mono h2.2 (fun e w'' he => by cases e <;> first | exact he | exact absurd he id | exact (one_lets he).elim)⟩
            | exact ⟨h2.1, RoundIn.mono h2.2 (fun e w'' he => by cases e <;> first | exact he | exact absurd he id | exact (one_lets he).elim)⟩
      | halt x w' => cases x <;> simp only [Oper.uponIn] at h2 ⊢ <;> exact absurd h2 id
    · rename_i hw
      rw [if_neg hw] at h
      exact h
theorem wpAny_one {F : Fence} {n : Nat} {P : Program} {md : Region.Mode} {ops : Array Oper} {Q : Exit → Act → World → Prop} (a₁ : Act) (W₁ : World) (hQ : Q .normal a₁ W₁) : ∀ (fuel : Nat) (listed : Array Bool) (a : Act) (w : World),
    wpAnyIn F n P md ops (One a₁ W₁) fuel listed a w → wpAnyIn F n P md ops Q fuel listed a w
  | 0, _, _, _, h => ⟨h.1, by obtain ⟨rfl, rfl⟩ : _ = a₁ ∧ _ = W₁ := h.2; exact hQ⟩
  | fuel + 1, listed, a, w, h => ⟨fun hr => by obtain ⟨rfl, rfl⟩ : _ = a₁ ∧ _ = W₁ := h.1 hr; exact hQ, fun i hi => wpOpIn_mono (fun a w hh => wpAny_one a₁ W₁ hQ fuel _ a w hh) (wpOp_one (h.2 i hi))⟩
theorem wpAny_round {l n : Nat} {P : Program} {md : Region.Mode} {ops : Array Oper} {Q : Exit → Act → World → Prop} (hd : ops.all undef? = true) : ∀ (fuel : Nat) (listed : Array Bool) (a : Act) (w : World),
    wpAnyIn Fence.wide n P md ops Q fuel listed a w → wpAnyIn (Fence.wide.inRound l) n P md ops Q fuel listed a w
  | 0, _, _, _, h => h
  | fuel + 1, listed, a, w, h => ⟨h.1, fun i hi => wpOpIn_mono (fun a w hh => wpAny_round hd fuel _ a w hh) (wpOp_round hd (h.2 i hi))⟩
end Go.Proofs.YtbamkklhkhglnaaGreatDoor.LbA

namespace Go.Proofs.YtbamkklhkhglnaaGreatDoor.LbP
open Go.Lib Go.Proofs.YtbamkklhkhglnaaGreatDoor.TxA Go.Proofs.YtbamkklhkhglnaaGreatDoor.TxC
set_option linter.unusedVariables false

structure Row where
  o : Int
  d : List UInt8
  nm : List UInt8
  tx : List UInt8
def tab : List Row := [
  ⟨1, [49], [49], [49]⟩,
  ⟨2, [50], [67, 50], [50]⟩,
  ⟨3, [51], [67, 51], [51]⟩,
  ⟨4, [52], [67, 52], [50, 32, 50, 59, 32, 97, 94, 50, 61, 98]⟩,
  ⟨4, [52], [67, 50, 120, 67, 50], [50, 32, 50]⟩,
  ⟨5, [53], [67, 53], [53]⟩,
  ⟨6, [54], [67, 54], [50, 32, 51]⟩,
  ⟨6, [54], [83, 51], [50, 32, 51, 59, 32, 98, 94, 97, 61, 98, 98]⟩,
  ⟨7, [55], [67, 55], [55]⟩,
  ⟨8, [56], [67, 56], [50, 32, 50, 32, 50, 59, 32, 97, 94, 50, 61, 98, 59, 32, 98, 94, 50, 61, 99]⟩,
  ⟨8, [56], [67, 52, 120, 67, 50], [50, 32, 50, 32, 50, 59, 32, 97, 94, 50, 61, 98]⟩,
  ⟨8, [56], [67, 50, 120, 67, 50, 120, 67, 50], [50, 32, 50, 32, 50]⟩,
  ⟨8, [56], [68, 56], [50, 32, 50, 32, 50, 59, 32, 98, 94, 97, 61, 98, 99]⟩,
  ⟨8, [56], [81, 56], [50, 32, 50, 32, 50, 59, 32, 97, 94, 50, 61, 99, 59, 32, 98, 94, 50, 61, 99, 59, 32, 98, 94, 97, 61, 98, 99]⟩,
  ⟨9, [57], [67, 57], [51, 32, 51, 59, 32, 97, 94, 51, 61, 98]⟩,
  ⟨9, [57], [67, 51, 120, 67, 51], [51, 32, 51]⟩,
  ⟨10, [49, 48], [67, 49, 48], [50, 32, 53]⟩,
  ⟨10, [49, 48], [68, 49, 48], [50, 32, 53, 59, 32, 98, 94, 97, 61, 98, 98, 98, 98]⟩,
  ⟨12, [49, 50], [67, 49, 50], [50, 32, 50, 32, 51, 59, 32, 97, 94, 50, 61, 98]⟩,
  ⟨12, [49, 50], [67, 54, 120, 67, 50], [50, 32, 50, 32, 51]⟩,
  ⟨12, [49, 50], [68, 49, 50], [50, 32, 50, 32, 51, 59, 32, 99, 94, 97, 61, 99, 99]⟩,
  ⟨12, [49, 50], [68, 105, 99, 49, 50], [50, 32, 50, 32, 51, 59, 32, 97, 94, 50, 61, 98, 59, 32, 99, 94, 97, 61, 99, 99]⟩,
  ⟨12, [49, 50], [65, 52], [51, 32, 50, 32, 50, 59, 32, 98, 94, 97, 61, 99, 59, 32, 99, 94, 97, 61, 98, 99]⟩,
  ⟨14, [49, 52], [67, 49, 52], [50, 32, 55]⟩,
  ⟨14, [49, 52], [68, 49, 52], [50, 32, 55, 59, 32, 98, 94, 97, 61, 98, 98, 98, 98, 98, 98]⟩,
  ⟨15, [49, 53], [67, 49, 53], [51, 32, 53]⟩,
  ⟨16, [49, 54], [67, 49, 54], [50, 32, 50, 32, 50, 32, 50, 59, 32, 97, 94, 50, 61, 98, 59, 32, 98, 94, 50, 61, 99, 59, 32, 99, 94, 50, 61, 100]⟩,
  ⟨16, [49, 54], [67, 52, 120, 67, 52], [50, 32, 50, 32, 50, 32, 50, 59, 32, 97, 94, 50, 61, 98, 59, 32, 99, 94, 50, 61, 100]⟩,
  ⟨16, [49, 54], [67, 56, 120, 67, 50], [50, 32, 50, 32, 50, 32, 50, 59, 32, 97, 94, 50, 61, 98, 59, 32, 98, 94, 50, 61, 99]⟩,
  ⟨16, [49, 54], [67, 52, 120, 67, 50, 120, 67, 50], [50, 32, 50, 32, 50, 32, 50, 59, 32, 97, 94, 50, 61, 98]⟩,
  ⟨16, [49, 54], [67, 50, 120, 67, 50, 120, 67, 50, 120, 67, 50], [50, 32, 50, 32, 50, 32, 50]⟩,
  ⟨16, [49, 54], [68, 56, 120, 67, 50], [50, 32, 50, 32, 50, 32, 50, 59, 32, 98, 94, 97, 61, 98, 99]⟩,
  ⟨16, [49, 54], [81, 56, 120, 67, 50], [50, 32, 50, 32, 50, 32, 50, 59, 32, 97, 94, 50, 61, 99, 59, 32, 98, 94, 50, 61, 99, 59, 32, 98, 94, 97, 61, 98, 99]⟩,
  ⟨16, [49, 54], [68, 49, 54], [50, 32, 50, 32, 50, 32, 50, 59, 32, 98, 94, 50, 61, 99, 59, 32, 99, 94, 50, 61, 100, 59, 32, 98, 94, 97, 61, 98, 99, 100, 59, 32, 99, 94, 97, 61, 99, 100]⟩,
  ⟨16, [49, 54], [83, 68, 49, 54], [50, 32, 50, 32, 50, 32, 50, 59, 32, 98, 94, 50, 61, 99, 59, 32, 99, 94, 50, 61, 100, 59, 32, 98, 94, 97, 61, 98, 99, 59, 32, 99, 94, 97, 61, 99, 100]⟩,
  ⟨16, [49, 54], [81, 49, 54], [50, 32, 50, 32, 50, 32, 50, 59, 32, 97, 94, 50, 61, 100, 59, 32, 98, 94, 50, 61, 99, 59, 32, 99, 94, 50, 61, 100, 59, 32, 98, 94, 97, 61, 98, 99, 100, 59, 32, 99, 94, 97, 61, 99, 100]⟩,
  ⟨16, [49, 54], [77, 49, 54], [50, 32, 50, 32, 50, 32, 50, 59, 32, 98, 94, 50, 61, 99, 59, 32, 99, 94, 50, 61, 100, 59, 32, 98, 94, 97, 61, 98, 100]⟩,
  ⟨16, [49, 54], [67, 52, 58, 67, 52], [50, 32, 50, 32, 50, 32, 50, 59, 32, 97, 94, 50, 61, 98, 59, 32, 99, 94, 50, 61, 100, 59, 32, 99, 94, 97, 61, 99, 100]⟩,
  ⟨16, [49, 54], [67, 50, 120, 67, 50, 58, 67, 52], [50, 32, 50, 32, 50, 32, 50, 59, 32, 97, 94, 50, 61, 98, 59, 32, 99, 94, 97, 61, 99, 100]⟩,
  ⟨16, [49, 54], [68, 56, 42, 67, 52], [50, 32, 50, 32, 50, 32, 50, 59, 32, 99, 94, 50, 61, 100, 59, 32, 98, 94, 97, 61, 98, 100]⟩,
  ⟨18, [49, 56], [67, 49, 56], [50, 32, 51, 32, 51, 59, 32, 98, 94, 51, 61, 99]⟩,
  ⟨18, [49, 56], [67, 54, 120, 67, 51], [50, 32, 51, 32, 51]⟩,
  ⟨18, [49, 56], [68, 49, 56], [50, 32, 51, 32, 51, 59, 32, 98, 94, 51, 61, 99, 59, 32, 98, 94, 97, 61, 98, 98, 99, 99, 59, 32, 99, 94, 97, 61, 99, 99]⟩,
  ⟨18, [49, 56], [83, 51, 120, 67, 51], [50, 32, 51, 32, 51, 59, 32, 99, 94, 97, 61, 99, 99]⟩,
  ⟨18, [49, 56], [67, 51, 120, 67, 51, 58, 67, 50], [50, 32, 51, 32, 51, 59, 32, 98, 94, 97, 61, 98, 98, 59, 32, 99, 94, 97, 61, 99, 99]⟩,
  ⟨20, [50, 48], [67, 50, 48], [50, 32, 50, 32, 53, 59, 32, 97, 94, 50, 61, 98]⟩,
  ⟨20, [50, 48], [67, 49, 48, 120, 67, 50], [50, 32, 50, 32, 53]⟩,
  ⟨20, [50, 48], [68, 50, 48], [50, 32, 50, 32, 53, 59, 32, 99, 94, 97, 61, 99, 99, 99, 99]⟩,
  ⟨20, [50, 48], [68, 105, 99, 50, 48], [50, 32, 50, 32, 53, 59, 32, 97, 94, 50, 61, 98, 59, 32, 99, 94, 97, 61, 99, 99, 99, 99]⟩,
  ⟨20, [50, 48], [70, 50, 48], [50, 32, 50, 32, 53, 59, 32, 97, 94, 50, 61, 98, 59, 32, 99, 94, 97, 61, 99, 99, 59, 32, 99, 94, 98, 61, 99, 99, 99, 99]⟩,
  ⟨21, [50, 49], [67, 50, 49], [51, 32, 55]⟩,
  ⟨21, [50, 49], [70, 50, 49], [51, 32, 55, 59, 32, 98, 94, 97, 61, 98, 98]⟩,
  ⟨24, [50, 52], [67, 50, 52], [50, 32, 50, 32, 50, 32, 51, 59, 32, 97, 94, 50, 61, 98, 59, 32, 98, 94, 50, 61, 99]⟩,
  ⟨24, [50, 52], [67, 49, 50, 120, 67, 50], [50, 32, 50, 32, 50, 32, 51, 59, 32, 97, 94, 50, 61, 98]⟩,
  ⟨24, [50, 52], [67, 54, 120, 67, 50, 120, 67, 50], [50, 32, 50, 32, 50, 32, 51]⟩,
  ⟨24, [50, 52], [67, 51, 58, 67, 56], [50, 32, 50, 32, 50, 32, 51, 59, 32, 97, 94, 50, 61, 98, 59, 32, 98, 94, 50, 61, 99, 59, 32, 100, 94, 97, 61, 100, 100]⟩,
  ⟨24, [50, 52], [68, 50, 52], [50, 32, 50, 32, 50, 32, 51, 59, 32, 98, 94, 50, 61, 99, 59, 32, 98, 94, 97, 61, 98, 99, 59, 32, 100, 94, 97, 61, 100, 100]⟩,
  ⟨24, [50, 52], [68, 105, 99, 50, 52], [50, 32, 50, 32, 50, 32, 51, 59, 32, 97, 94, 50, 61, 99, 59, 32, 98, 94, 50, 61, 99, 59, 32, 98, 94, 97, 61, 98, 99, 59, 32, 100, 94, 97, 61, 100, 100]⟩,
  ⟨24, [50, 52], [83, 51, 120, 67, 52], [50, 32, 50, 32, 50, 32, 51, 59, 32, 98, 94, 50, 61, 99, 59, 32, 100, 94, 97, 61, 100, 100]⟩,
  ⟨24, [50, 52], [68, 105, 99, 49, 50, 120, 67, 50], [50, 32, 50, 32, 50, 32, 51, 59, 32, 97, 94, 50, 61, 98, 59, 32, 100, 94, 97, 61, 100, 100]⟩,
  ⟨24, [50, 52], [68, 49, 50, 120, 67, 50], [50, 32, 50, 32, 50, 32, 51, 59, 32, 100, 94, 97, 61, 100, 100]⟩,
  ⟨24, [50, 52], [68, 56, 120, 67, 51], [50, 32, 50, 32, 50, 32, 51, 59, 32, 98, 94, 97, 61, 98, 99]⟩,
  ⟨24, [50, 52], [81, 56, 120, 67, 51], [50, 32, 50, 32, 50, 32, 51, 59, 32, 97, 94, 50, 61, 99, 59, 32, 98, 94, 50, 61, 99, 59, 32, 98, 94, 97, 61, 98, 99]⟩,
  ⟨24, [50, 52], [67, 51, 58, 68, 56], [50, 32, 50, 32, 50, 32, 51, 59, 32, 98, 94, 97, 61, 98, 99, 59, 32, 100, 94, 97, 61, 100, 100]⟩,
  ⟨24, [50, 52], [65, 52, 120, 67, 50], [50, 32, 51, 32, 50, 32, 50, 59, 32, 99, 94, 98, 61, 100, 59, 32, 100, 94, 98, 61, 99, 100]⟩,
  ⟨24, [50, 52], [83, 52], [50, 32, 51, 32, 50, 32, 50, 59, 32, 98, 94, 97, 61, 98, 98, 59, 32, 99, 94, 97, 61, 100, 59, 32, 100, 94, 97, 61, 99, 59, 32, 99, 94, 98, 61, 100, 59, 32, 100, 94, 98, 61, 99, 100]⟩,
  ⟨24, [50, 52], [83, 76, 50, 51], [51, 32, 50, 32, 50, 32, 50, 59, 32, 98, 94, 50, 61, 100, 59, 32, 99, 94, 50, 61, 100, 59, 32, 98, 94, 97, 61, 99, 59, 32, 99, 94, 97, 61, 98, 99, 59, 32, 99, 94, 98, 61, 99, 100]⟩,
  ⟨25, [50, 53], [67, 50, 53], [53, 32, 53, 59, 32, 97, 94, 53, 61, 98]⟩,
  ⟨25, [50, 53], [67, 53, 120, 67, 53], [53, 32, 53]⟩,
  ⟨27, [50, 55], [67, 50, 55], [51, 32, 51, 32, 51, 59, 32, 97, 94, 51, 61, 98, 59, 32, 98, 94, 51, 61, 99]⟩,
  ⟨27, [50, 55], [67, 57, 120, 67, 51], [51, 32, 51, 32, 51, 59, 32, 97, 94, 51, 61, 98]⟩,
  ⟨27, [50, 55], [67, 51, 120, 67, 51, 120, 67, 51], [51, 32, 51, 32, 51]⟩,
  ⟨27, [50, 55], [72, 50, 55], [51, 32, 51, 32, 51, 59, 32, 98, 94, 97, 61, 98, 99]⟩,
  ⟨27, [50, 55], [77, 50, 55], [51, 32, 51, 32, 51, 59, 32, 97, 94, 51, 61, 99, 59, 32, 98, 94, 97, 61, 98, 99]⟩,
  ⟨28, [50, 56], [67, 50, 56], [50, 32, 50, 32, 55, 59, 32, 97, 94, 50, 61, 98]⟩,
  ⟨28, [50, 56], [67, 49, 52, 120, 67, 50], [50, 32, 50, 32, 55]⟩,
  ⟨28, [50, 56], [68, 50, 56], [50, 32, 50, 32, 55, 59, 32, 99, 94, 97, 61, 99, 99, 99, 99, 99, 99]⟩,
  ⟨28, [50, 56], [68, 105, 99, 50, 56], [50, 32, 50, 32, 55, 59, 32, 97, 94, 50, 61, 98, 59, 32, 99, 94, 97, 61, 99, 99, 99, 99, 99, 99]⟩,
  ⟨30, [51, 48], [67, 51, 48], [50, 32, 51, 32, 53]⟩,
  ⟨30, [51, 48], [68, 51, 48], [50, 32, 51, 32, 53, 59, 32, 98, 94, 97, 61, 98, 98, 59, 32, 99, 94, 97, 61, 99, 99, 99, 99]⟩,
  ⟨30, [51, 48], [83, 51, 120, 67, 53], [50, 32, 51, 32, 53, 59, 32, 98, 94, 97, 61, 98, 98]⟩,
  ⟨30, [51, 48], [68, 49, 48, 120, 67, 51], [50, 32, 51, 32, 53, 59, 32, 99, 94, 97, 61, 99, 99, 99, 99]⟩]
def Row.line (r : Row) : List UInt8 := join [r.d, r.nm, r.tx] [124]
def libT : List UInt8 := join (tab.map Row.line) [10]
theorem tab_len : tab.length = 82 := by decide
theorem tab_ok : ∀ r ∈ tab, (124 ∉ r.d ∧ 124 ∉ r.nm ∧ 124 ∉ r.tx ∧ 10 ∉ r.line) ∧ (pI r.d = some r.o ∧ 0 ≤ r.o ∧ r.o ≤ 31) := by decide +kernel
theorem row_split {r : Row} (h : r ∈ tab) : split r.line [124] = [r.d, r.nm, r.tx] :=
  (split_join (c := 124) (d := []) [r.d, r.nm, r.tx] (by simp) (fun p hp => by
    have := (tab_ok r h).1
    simp only [List.mem_cons, List.not_mem_nil, or_false] at hp
    rcases hp with rfl | rfl | rfl
    · exact this.1
    · exact this.2.1
    · exact this.2.2.1)).1
theorem lib_split : split libT [10] = tab.map Row.line :=
  (split_join (c := 10) (d := []) (tab.map Row.line) (by decide) (fun p hp => by
    obtain ⟨r, hr, rfl⟩ := List.mem_map.1 hp
    exact (tab_ok r hr).1.2.2.2)).1
theorem row_pI {r : Row} (h : r ∈ tab) : pI r.d = some r.o ∧ 0 ≤ r.o ∧ r.o ≤ 31 := (tab_ok r h).2
end Go.Proofs.YtbamkklhkhglnaaGreatDoor.LbP

namespace Go.Proofs.YtbamkklhkhglnaaGreatDoor.LbB
open Go.RowKit Go.Lib Go.Shelf Go.Proofs.YtbamkklhkhglnaaGreatDoor Go.Proofs.YtbamkklhkhglnaaGreatDoor.LbA Go.Proofs.YtbamkklhkhglnaaGreatDoor.LbP
set_option linter.unusedVariables false
set_option linter.unusedSimpArgs false
attribute [local go_sem] Oper.semAt_some

def pcs (sep s : ByteArray) : List ByteArray := splitB sep 0 (countB s sep) s
theorem pcs_miss {sep s : ByteArray} (h : indexB s sep = -1) : pcs sep s = [s] := splitB_miss _ _ _ _ h
theorem pcs_hit {sep s : ByteArray} {i : Nat} (h1 : 1 ≤ sep.size) (h : indexB s sep = i) : pcs sep s = s.extract 0 i :: pcs sep (s.extract (i + sep.size) s.size) := by
  unfold pcs
  rw [countB_hit s sep i h1 h, Nat.add_comm 1, splitB_hit sep 0 _ s i h]
  rfl
def lft (b : Nat) (W : World) : Nat := match W.cell? ⟨b, 0, none⟩ with
  | some (.string s) => s.size
  | _ => 0
theorem lft_eq {b : Nat} {W : World} {s : ByteArray} (h : W.cell? ⟨b, 0, none⟩ = some (.string s)) : lft b W = s.size := by
  unfold lft
  rw [h]
set_option maxRecDepth 100000 in
set_option maxHeartbeats 2000000 in
theorem ssq_each (s sep : ByteArray) (hs : s.size ≤ 100000000) (h1 : 1 ≤ sep.size) (n b : Nat) (hn : 2 ≤ n) (m : Int) (w : World) (hlt : b + 2 < w.heap.size) (hgb : 0 < b)
    (c0 : w.cell? ⟨b, 0, none⟩ = some (.string s)) (f0 : w.frozen? ⟨b, 0, none⟩ = false) (c1 : w.cell? ⟨b + 1, 0, none⟩ = some (.string sep)) (c2 : w.cell? ⟨b + 2, 0, none⟩ = some (.int .i64 0))
    (hm : w.cell? ⟨0, 0, none⟩ = some (.int .i64 m)) :
    Each n Tryz.prog 148 #[.pointer (some ⟨b + 1, 0, none⟩), .pointer (some ⟨b, 0, none⟩), .pointer (some ⟨b + 2, 0, none⟩)] (fun x : ByteArray => #[.string x]) b (fun k => k = 0 ∨ (b ≤ k ∧ k < b + 3)) (pcs sep s) w := by
  intro l J W hW hJ hY h0
  have k0 := (hW.cell (p := ⟨b, 0, none⟩) (by show b < _; omega)).trans c0
  have k1 := (hW.cell (p := ⟨b + 1, 0, none⟩) (by show b + 1 < _; omega)).trans c1
  have k2 := (hW.cell (p := ⟨b + 2, 0, none⟩) (by show b + 2 < _; omega)).trans c2
  have km := (hW.cell (p := ⟨0, 0, none⟩) (by show 0 < w.heap.size; omega)).trans hm
  have kf : W.frozen? ⟨b, 0, none⟩ = false := (hW.frozen (p := ⟨b, 0, none⟩) (by show b < w.heap.size; omega)).trans f0
  have hz : ((sep.size : Int) == 0) = false := by rw [beq_eq_false_iff_ne]; omega
  refine callsIn_of_wp Tryz.func148 rfl trivial ?_ rfl
  simp only [Tryz.ntmps148, List.size_toArray, List.length_cons, List.length_nil, Nat.reduceAdd, Nat.reduceSub, Array.replicate_succ, Array.replicate_zero, List.push_toArray, List.append_toArray, List.nil_append, List.cons_append]
  gi_wp2
  gi_loopw [7] (fun _ wr => ∃ pre s', J pre wr ∧ pcs sep s = pre ++ pcs sep s' ∧ wr.cell? ⟨b, 0, none⟩ = some (.string s') ∧ wr.frozen? ⟨b, 0, none⟩ = false ∧ s'.size ≤ 100000000 ∧ wr.cell? ⟨b + 1, 0, none⟩ = some (.string sep) ∧ wr.cell? ⟨b + 2, 0, none⟩ = some (.int .i64 0) ∧ wr.cell? ⟨0, 0, none⟩ = some (.int .i64 m)) (fun _ wr => lft b wr)
  case atStart =>
    exact ⟨[], s, h0, rfl, k0, kf, hs, k1, k2, km⟩
  case round =>
    obtain ⟨pre, s', hJ', hx, k0, kf, hs', k1, k2, km⟩ := hrel
    rcases indexB_cases s' sep with hi | ⟨i, hi, hr⟩
    · have hi' : Lib.index s'.data.toList sep.data.toList = -1 := hi
      have HI := Lib.hid hi'
      have hp := pcs_miss hi
      obtain ⟨fn, tmps, assign, body, hy, hR⟩ := hY pre s' wr hJ' (by rw [hx, hp]; simp)
      have HX := Lib.hid (show pre ++ [s'] = pcs sep s from by rw [hx, hp])
      clear hi hi' hp hx
      gi_wp2_with (refine ⟨trivial, fun _ => by omega, ?_⟩; refine (callsIn_wide.2 (Tryz.strings_Index s' sep m _ (by omega) km)).mono ?_; rintro e w' ⟨rfl, rfl⟩; rw [HI.out])
      refine ⟨fun _ => by omega, hR.mono ?_⟩
      rintro e W3 ⟨rfl, hJ3, hk3⟩
      gi_wp2
      go_end0
      exact ⟨⟨_, rfl⟩, by rw [← HX.out]; exact hJ3⟩
    · have hi' : Lib.index s'.data.toList sep.data.toList = (i : Int) := hi
      have HI := Lib.hid hi'
      have hp := pcs_hit h1 hi
      obtain ⟨fn, tmps, assign, body, hy, hR⟩ := hY pre (s'.extract 0 i) wr hJ' (by rw [hx, hp]; simp)
      have HX := Lib.hid (show pcs sep s = (pre ++ [s'.extract 0 i]) ++ pcs sep (s'.extract (i + sep.size) s'.size) from by rw [hx, hp]; simp)
      have hsz : (s'.extract (i + sep.size) s'.size).size = s'.size - (i + sep.size) := by rw [ByteArray.size_extract]; omega
      have HZ := Lib.hid hsz
      clear hi hi' hp hx hsz
      gi_wp2_with (refine ⟨trivial, fun _ => by omega, ?_⟩; refine (callsIn_wide.2 (Tryz.strings_Index s' sep m _ (by omega) km)).mono ?_; rintro e w' ⟨rfl, rfl⟩; rw [HI.out])
      refine ⟨fun _ => by omega, hR.mono ?_⟩
      rintro e W3 ⟨rfl, hJ3, hk3⟩
      have q0 := (hk3.cell (b := b) (o := 0) (.inr ⟨by omega, by omega⟩) (World.block_lt_of_cell? w' _ k0)).trans k0
      have qf : W3.frozen? ⟨b, 0, none⟩ = false := (World.frozen?_of_block (w := w') (hk3.block b (.inr ⟨by omega, by omega⟩) (World.block_lt_of_cell? w' _ k0))).trans kf
      have q1 := (hk3.cell (b := b + 1) (o := 0) (.inr ⟨by omega, by omega⟩) (World.block_lt_of_cell? w' _ k1)).trans k1
      have q2 := (hk3.cell (b := b + 2) (o := 0) (.inr ⟨by omega, by omega⟩) (World.block_lt_of_cell? w' _ k2)).trans k2
      have qm := (hk3.cell (b := 0) (o := 0) (.inl rfl) (World.block_lt_of_cell? w' _ km)).trans km
      gi_wp2
      go_roundw
      case rel =>
        refine ⟨pre ++ [s'.extract 0 i], s'.extract (i + sep.size) s'.size, hJ _ _ _ hJ3 (.inl ⟨_, rfl⟩), HX.out, ?_, ?_, ?_, ?_, ?_, ?_⟩
        · exact World.cell?_setCell_same' _ _ _ (by rw [q0]; rfl)
        · rw [World.frozen?_setCell]; exact qf
        · rw [HZ.out]; omega
        · exact (World.cell?_setCell_other _ _ _ _ (fun e => by have := congrArg Addr.block e; simp at this)).trans q1
        · exact (World.cell?_setCell_other _ _ _ _ (fun e => by have := congrArg Addr.block e; simp at this)).trans q2
        · exact (World.cell?_setCell_other _ _ _ _ (fun e => by have := congrArg Addr.block e; simp at this; omega)).trans qm
      case measure =>
        rw [lft_eq k0, lft_eq (s := s'.extract (i + sep.size) s'.size) (World.cell?_setCell_same' _ _ _ (by rw [q0]; rfl)), HZ.out]
        omega
def sqW (s sep : ByteArray) (w : World) : World := ((w.alloc (.cells #[.string s] 9)).alloc (.cells #[.string sep] 9)).alloc (.cells #[.int .i64 0] 3)
def SqR (s sep : ByteArray) (w : World) (e : Ending) (w' : World) : Prop :=
  e = .returned (.func (.func 148) #[] #[.pointer (some ⟨w.heap.size + 1, 0, none⟩), .pointer (some ⟨w.heap.size, 0, none⟩), .pointer (some ⟨w.heap.size + 2, 0, none⟩)]) ∧ w' = sqW s sep w
theorem sq_any (s sep : ByteArray) (w : World) : Calls Tryz.prog 113 #[.string s, .string sep, .int .i64 0] w (SqR s sep w) := by
  have hmf : ∀ (fn : Fn) (first cap : Array Value) (w : World), (Instr.makeFunc fn first cap).run Tryz.prog w = .ok (.func fn first cap) w := fun _ _ _ _ => rfl
  go_enter Tryz.func113, Tryz.ntmps113
  go_wp2
  go_ret
  exact ⟨by simp, rfl⟩
theorem sqs_any (s sep : ByteArray) (w : World) : Calls Tryz.prog 94 #[.string s, .string sep] w (SqR s sep w) := by
  go_enter Tryz.func94, Tryz.ntmps94
  go_wp2_with (go_at_call 113; refine (sq_any s sep _).mono ?_; rintro e w' ⟨rfl, rfl⟩)
  go_ret
  exact ⟨rfl, rfl⟩
end Go.Proofs.YtbamkklhkhglnaaGreatDoor.LbB

namespace Go.Proofs.YtbamkklhkhglnaaGreatDoor.LbC
open Go.RowKit Go.Lib Go.Shelf Go.Proofs.YtbamkklhkhglnaaGreatDoor Go.Proofs.YtbamkklhkhglnaaGreatDoor.Tow Go.Proofs.YtbamkklhkhglnaaGreatDoor.LbA Go.Proofs.YtbamkklhkhglnaaGreatDoor.LbB Go.Proofs.YtbamkklhkhglnaaGreatDoor.LbP Go.Proofs.YtbamkklhkhglnaaGreatDoor.TrA Go.Proofs.YtbamkklhkhglnaaGreatDoor.TxA Go.Proofs.YtbamkklhkhglnaaGreatDoor.TxC
set_option linter.unusedVariables false
set_option linter.unusedSimpArgs false
attribute [local go_sem] Oper.semAt_some

def ba (l : List UInt8) : ByteArray := ⟨l.toArray⟩
theorem ba_data (l : List UInt8) : (ba l).data.toList = l := rfl
theorem eq_ba {s : ByteArray} {l : List UInt8} (h : s.data.toList = l) : s = ba l := by
  rw [← h]
  rfl
def cel (r : Row) (k : Int) : List Value := [.int .i64 r.o, .int .i64 k, .string (ba r.nm), .string (ba r.tx)]
def gcs : List Row → List Int → List Value
  | r :: rs, k :: ks => cel r k ++ gcs rs ks
  | _, _ => []
theorem gcs_snoc : ∀ (rs : List Row) (ks : List Int) (r : Row) (k : Int), rs.length = ks.length → gcs (rs ++ [r]) (ks ++ [k]) = gcs rs ks ++ cel r k
  | [], [], r, k, _ => by simp [gcs]
  | a :: rs, b :: ks, r, k, h => by
    simp only [List.cons_append, gcs, List.append_assoc]
    rw [gcs_snoc rs ks r k (by simpa using h)]
  | [], _ :: _, _, _, h => by simp at h
  | _ :: _, [], _, _, h => by simp at h
theorem gcs_len : ∀ (rs : List Row) (ks : List Int), rs.length = ks.length → (gcs rs ks).length = rs.length * 4
  | [], [], _ => rfl
  | a :: rs, b :: ks, h => by
    simp only [gcs, List.length_append, gcs_len rs ks (by simpa using h), List.length_cons]
    simp [cel]
    omega
  | [], _ :: _, h => by simp at h
  | _ :: _, [], h => by simp at h
theorem gcs_get : ∀ (rs : List Row) (ks : List Int) (i : Nat) (r : Row), rs.length = ks.length → rs[i]? = some r → ∃ k, ks[i]? = some k ∧ ∀ j < 4, (gcs rs ks)[4 * i + j]? = (cel r k)[j]?
  | a :: rs, b :: ks, 0, r, h, hr => by
    obtain rfl : a = r := by simpa using hr
    refine ⟨b, rfl, fun j hj => ?_⟩
    rw [gcs, List.getElem?_append_left (by simp [cel]; omega)]
    simp
  | a :: rs, b :: ks, i + 1, r, h, hr => by
    obtain ⟨k, hk, hj⟩ := gcs_get rs ks i r (by simpa using h) (by simpa using hr)
    refine ⟨k, by simpa using hk, fun j hj4 => ?_⟩
    rw [gcs, List.getElem?_append_right (by simp [cel]; omega), ← hj j hj4]
    congr 1
    simp [cel]
    omega
  | [], _, i, r, _, hr => by simp at hr
  | _ :: _, [], _, _, h, _ => by simp at h
theorem infoG : (Tryz.prog.info? 116).map (fun i => (i.size, i.bytes)) = some (4, 48) := by kernel_rfl
def lins : List ByteArray := tab.map fun r => ba r.line
def LgR (w : World) (e : Ending) (w' : World) : Prop := ∃ v ks, e = .returned v ∧ ks.length = tab.length ∧ w'.ownsRow w.heap.size 116 4 v tab.length (gcs tab ks) ∧ Below w.heap.size w w'
def InvL (w : World) (g0 : Nat) (pre : List ByteArray) (W : World) : Prop := ∃ v ks, ks.length = (tab.take pre.length).length ∧ Boxed W g0 113 v ∧ W.ownsRow (g0 + 4) 116 4 v (tab.take pre.length).length (gcs (tab.take pre.length) ks) ∧ Below g0 w W ∧ g0 + 4 ≤ W.heap.size
theorem invL_own (w : World) (g0 : Nat) (W0 : World) (hg : w.heap.size = g0) (hz : W0.heap.size = g0 + 4) : OwnFrom W0.heap.size (InvL w g0) := by
  rintro s X Y row ⟨v, ks, hk, hbx, hrow, hb, hlen⟩ hgr hr
  refine ⟨v, ks, hk, hbx.kept hgr (fun e => ?_), hrow.kept hgr ?_, hb.grown hgr (by have := hb.size; omega) (fun k e => by have := (hr k e).1; omega), Nat.le_trans hlen hgr.size⟩
  · have := (hr g0 e.symm).1
    omega
  · rcases hrow.2 with ⟨rfl, _⟩ | ⟨g, cap, cur, rfl, _, hgb, _⟩
    · exact .inl rfl
    · refine .inr fun e' => ?_
      obtain ⟨_, o, ho, hc⟩ := hr g (by simpa [Value.ownBlock] using e'.symm)
      rw [hgb] at ho; cases ho; cases hc
theorem invL_stp (w : World) (g0 : Nat) : ∀ s A A', InvL w g0 s A → Stp (g0 + 1) A A' → InvL w g0 s A' := by
  rintro s A A' ⟨v, ks, hk, hbx, hrow, hb, hlen⟩ (⟨u, rfl⟩ | ⟨n, rfl⟩)
  · have hg := grownBy_setCell' A (g0 + 1) u
    refine ⟨v, ks, hk, hbx.kept hg (by simp), hrow.kept hg ?_, hb.setCell (p := ⟨g0 + 1, 0, none⟩) (by show g0 ≤ g0 + 1; omega) u, Nat.le_trans hlen hg.size⟩
    rcases hrow.2 with ⟨rfl, _⟩ | ⟨g, cap, cur, rfl, h4, _⟩
    · exact .inl rfl
    · refine .inr fun e' => ?_
      have : g0 + 1 = g := by simpa [Value.ownBlock, eq_comm] using e'
      omega
  · exact ⟨v, ks, hk, hbx, hrow, below_drewN hb n, hlen⟩
theorem lins_eq {s : ByteArray} (h : s.data.toList = libT) : pcs { data := #[10] } s = lins := by
  have h1 : (pcs { data := #[10] } s).map (·.data.toList) = split libT [10] := by rw [← h]; exact splitB_data _ 0 _ s
  rw [lib_split] at h1
  unfold lins
  have h2 : ∀ (a : List ByteArray) (b : List (List UInt8)), a.map (·.data.toList) = b → a = b.map ba := by
    intro a b e
    rw [← e, List.map_map]
    exact (List.map_id'' (fun x => rfl) a).symm
  rw [h2 _ _ h1, List.map_map]
  rfl
theorem lin_row {i : Nat} {x : ByteArray} (h : lins[i]? = some x) : ∃ r, tab[i]? = some r ∧ r ∈ tab ∧ x = ba r.line ∧ tab.take (i + 1) = tab.take i ++ [r] := by
  unfold lins at h
  rw [List.getElem?_map] at h
  cases hr : tab[i]? with
  | none => rw [hr] at h; simp at h
  | some r =>
    rw [hr] at h
    obtain rfl : ba r.line = x := by simpa using h
    exact ⟨r, rfl, List.mem_of_getElem? hr, rfl, by rw [List.take_add_one, hr]; rfl⟩
theorem line_len (r : Row) (h : r ∈ tab) : r.line.length ≤ 1000 ∧ r.d.length ≤ 1000 := by
  have : ∀ r ∈ tab, r.line.length ≤ 1000 ∧ r.d.length ≤ 1000 := by decide +kernel
  exact this r h
theorem row_split_any (r : Row) (h : r ∈ tab) (W : World) (hv : Vars W) :
    Calls Tryz.prog 95 #[.string (ba r.line), .string { data := #[124] }] W fun e w' => ∃ g, e = .returned (.slice (some ⟨g, 0, none⟩) 3 3) ∧ W.heap.size ≤ g ∧ w'.heap[g]? = some (.cells #[.string (ba r.d), .string (ba r.nm), .string (ba r.tx)] 9 (0, 0)) ∧ Below W.heap.size W w' := by
  refine (split_any (ba r.line) { data := #[124] } (by have h1 := (line_len r h).1; have e : (ba r.line).size = r.line.length := (by simp [ba, ByteArray.size]); omega) (by show 1 ≤ 1; omega) W hv).mono ?_
  rintro e w' ⟨g, m, L, rfl, hg, hL, hm1, _, hown, hmap, _, hb⟩
  have hs : split (ba r.line).data.toList (ByteArray.mk #[124]).data.toList = [r.d, r.nm, r.tx] := row_split h
  rw [hs] at hmap
  have hL3 : L = [ba r.d, ba r.nm, ba r.tx] := by
    have : L = (L.map (·.data.toList)).map ba := by
      rw [List.map_map]
      exact (List.map_id'' (fun x => rfl) L).symm
    rw [this, hmap]
    rfl
  subst hL3
  obtain rfl : m = 3 := hL.symm
  refine ⟨g, rfl, hg, ?_, hb⟩
  rcases hown.2 with ⟨h0, _⟩ | ⟨g', cap, cur, h0, _, hgb, _, _, hsz, hcur⟩
  · simp at h0
  · obtain ⟨rfl, rfl⟩ : g = g' ∧ 3 = cap := by simpa using h0
    rw [hgb]
    obtain ⟨l⟩ := cur
    have h3 : l.length = 3 := by simpa using hsz
    have : l = [.string (ba r.d), .string (ba r.nm), .string (ba r.tx)] := by
      have h4 : l.take 3 = [ba r.d, ba r.nm, ba r.tx].map Value.string := hcur
      rw [List.take_of_length_le (by omega)] at h4
      exact h4
    rw [this]
theorem row_parse_any (r : Row) (h : r ∈ tab) (W : World) :
    Calls Tryz.prog 96 #[.string (ba r.d), .int .i64 10, .int .i64 64] W fun e w' => e = .returned (.tuple #[.int .i64 r.o, .nilIface]) ∧ Below W.heap.size W w' :=
  parse_ok (ba r.d) (by have h1 := (line_len r h).2; have e : (ba r.d).size = r.d.length := (by simp [ba, ByteArray.size]); omega) r.o (row_pI h).1 W
theorem row4f {w : World} {g : Nat} {a b c d : Value} {t : TypeId} (h : w.heap[g]? = some (.cells #[a, b, c, d] t (0, 0))) :
    w.cell? ⟨g, 0, none⟩ = some a ∧ w.cell? ⟨g, 1, none⟩ = some b ∧ w.cell? ⟨g, 2, none⟩ = some c ∧ w.cell? ⟨g, 3, none⟩ = some d ∧ ∀ j, w.frozen? ⟨g, j, none⟩ = false := by
  refine ⟨?_, ?_, ?_, ?_, fun j => frozen_of_heap h j⟩ <;> simp [World.cell?, h]
theorem infoG0 : (Tryz.prog.info? 116).map (fun i => (i.zero, i.size, i.bytes)) = some (some (.agg #[.int .i64 0, .int .i64 0, .string ByteArray.empty, .string ByteArray.empty]), 4, 48) := by kernel_rfl
theorem cel_new (w : World) (a b c d : Value) (t : TypeId) : ∀ j u, [a, b, c, d][j]? = some u → (w.alloc (.cells #[a, b, c, d] t)).cell? ((⟨w.heap.size, 0, none⟩ : Addr).add j) = some u := by
  intro j u hj
  have e : (⟨w.heap.size, 0, none⟩ : Addr).add j = ⟨w.heap.size, j, none⟩ := by unfold Addr.add; split <;> simp_all
  rw [e]
  have h := World.alloc_heap_new w (.cells #[a, b, c, d] t)
  simp only [World.cell?, h]
  match j, hj with
  | 0, hj => simpa using hj
  | 1, hj => simpa using hj
  | 2, hj => simpa using hj
  | 3, hj => simpa using hj
  | j + 4, hj => simp at hj
theorem cel_new' (w : World) (n : Nat) (hn : w.heap.size = n) (a b c d : Value) (t : TypeId) : ∀ j u, [a, b, c, d][j]? = some u → (w.alloc (.cells #[a, b, c, d] t)).cell? ((⟨n, 0, none⟩ : Addr).add j) = some u := by
  rw [← hn]
  exact cel_new w a b c d t
theorem grownBy_setC (W : World) (b o : Nat) (v : Value) : W.grownBy (W.setCell ⟨b, o, none⟩ v) (some b) :=
  ⟨rfl, rfl, rfl, (KeepsWalks.setCell W _ v).size, fun k _ hk => Below.heap_setCell _ _ _ k (fun e => hk (by rw [e]))⟩
theorem lib_end {w W wS w1 : World} {g0 z i : Nat} {v v' : Value} {ks : List Int} {pre : List ByteArray} {x : ByteArray} {k : Int} {r : Row} {tmp : Obj} (hmg : 0 < g0) (hz : z = g0 + 4)
    (hi : pre.length = i) (hk : ks.length = i) (htk : tab.take (i + 1) = tab.take i ++ [r]) (hlen : (tab.take i).length = i) (hb : Below g0 w W) (h4 : g0 + 4 ≤ W.heap.size)
    (hBS : Below W.heap.size W wS) (hbx : Boxed wS g0 113 v) (hrow : wS.ownsRow (g0 + 4) 116 4 v i (gcs (tab.take i) ks))
    (hgrow : (wS.alloc tmp).grownBy w1 v.ownBlock) (hown : w1.ownsRow (g0 + 4) 116 4 v' (i + 1) (gcs (tab.take i) ks ++ cel r k)) :
    Boxed w1 g0 113 v ∧ KeepsFrom z W (w1.setCell ⟨g0, 0, none⟩ v') ∧ Keep (fun k => k = 0 ∨ (g0 + 1 ≤ k ∧ k < g0 + 1 + 3)) W (w1.setCell ⟨g0, 0, none⟩ v') ∧ InvL w g0 (pre ++ [x]) (w1.setCell ⟨g0, 0, none⟩ v') := by
  have hv1 : Boxed w1 g0 113 v := (hbx.alloc tmp).kept hgrow (hbx.not_row (by decide) hrow)
  have hgs := grownBy_setCell' w1 g0 v'
  have hblk : ∀ j, v.ownBlock = some j → g0 + 4 ≤ j ∧ ∃ cs t fz, wS.heap[j]? = some (.cells cs t fz) := fun j e => by
    rcases hrow.2 with ⟨rfl, _⟩ | ⟨g, cap, cur, rfl, h, hgb, _⟩
    · simp [Value.ownBlock] at e
    · obtain rfl : g = j := by simpa [Value.ownBlock] using e
      exact ⟨h, _, _, _, hgb⟩
  have hsz1 : wS.heap.size + 1 ≤ w1.heap.size := by have := hgrow.size; simpa using this
  have hsame : ∀ k, k < wS.heap.size → v.ownBlock ≠ some k → k ≠ g0 → (w1.setCell ⟨g0, 0, none⟩ v').heap[k]? = wS.heap[k]? := fun k hk h1 h2 => by
    rw [hgs.block k (by omega) (fun e => h2 (by cases e; rfl)), hgrow.block k (by simp; omega) (fun e => h1 e.symm)]
    exact Below.heap_alloc _ _ _ hk
  have hsz : W.heap.size ≤ (w1.setCell ⟨g0, 0, none⟩ v').heap.size := by have h1 := hBS.size; have h2 := hgs.size; omega
  refine ⟨hv1, ⟨hsz, fun k o hk ho hc => ?_⟩, ⟨hsz, fun k hk hkl => ?_⟩, v', ks ++ [k], ?_, hv1.set v', ?_, ?_, by omega⟩
  · have hkl := (Array.getElem?_eq_some_iff.1 ho).1
    rw [hsame k (by have := hBS.size; omega) (fun e => ?_) (by omega), hBS.block k hkl]
    · exact ho
    · obtain ⟨_, cs, t, fz, h⟩ := hblk k e
      rw [hBS.block k hkl, ho] at h
      cases h
      cases hc
  · rw [hsame k (by have := hBS.size; omega) (fun e => by have := (hblk k e).1; omega) (by omega), hBS.block k hkl]
  · have e : (tab.take (pre ++ [x]).length) = tab.take i ++ [r] := by rw [List.length_append, hi]; exact htk
    rw [e, List.length_append, List.length_append, hk, hlen]
    rfl
  · have e : (tab.take (pre ++ [x]).length) = tab.take i ++ [r] := by rw [List.length_append, hi]; exact htk
    rw [e, gcs_snoc _ _ _ _ (by rw [hlen, hk]), List.length_append, hlen]
    refine hown.kept hgs ?_
    rcases hown.2 with ⟨rfl, _⟩ | ⟨g, cap, cur, rfl, h, _⟩
    · exact .inl rfl
    · refine .inr fun e' => ?_
      have : g = g0 := by simpa [Value.ownBlock, eq_comm] using e'
      omega
  · have h1 : Below g0 w wS := hb.trans (hBS.mono (by omega))
    have h2 : Below g0 w w1 := (h1.alloc (by have := h1.size; have := hBS.size; omega) tmp).grown hgrow (by have := hBS.size; simp; omega) (fun j e => by have := (hblk j e).1; omega)
    exact h2.setCell (p := ⟨g0, 0, none⟩) (Nat.le_refl _) v'
theorem sqs_hid (s sep : ByteArray) (w : World) : Calls Tryz.prog 94 #[.string s, .string sep] w fun e w' => ∃ s', s' = s ∧ SqR s' sep w e w' :=
  (sqs_any s sep w).mono fun e w' h => ⟨s, rfl, h⟩
set_option maxRecDepth 100000 in
set_option maxHeartbeats 2000000 in
theorem lib_any (w : World) (hv : Vars w) : Calls Tryz.prog 80 #[] w (LgR w) := by
  refine (callsIn_wide (n := 9)).1 ?_
  refine callsIn_of_wp_marks Tryz.func80 rfl trivial ?_ rfl
  simp only [Tryz.ntmps80, List.size_toArray, List.length_cons, List.length_nil, Nat.reduceAdd, Nat.reduceSub, Array.replicate_succ, Array.replicate_zero, List.push_toArray, List.append_toArray, List.nil_append, List.cons_append]
  gi_wp2_with (refine ⟨trivial, ?_⟩; refine (callsIn_wide.2 (sqs_hid _ _ _)).mono ?_; rintro e w' ⟨s, hs, rfl, rfl⟩; have HL := Lib.hid (show s.data.toList = libT from by rw [hs]; kernel_rfl); clear hs)
  obtain ⟨g0, hg0⟩ : ∃ g0, w.heap.size = g0 := ⟨_, rfl⟩
  obtain ⟨W0, hW0⟩ : ∃ W0, sqW s { data := #[10] } (w.alloc (.cells #[.slice none 0 0] 113)) = W0 := ⟨_, rfl⟩
  have hmg : 0 < g0 := by
    obtain ⟨m, hm⟩ := hv.len
    have := World.block_lt_of_cell? w _ hm
    rw [hg0] at this
    exact this
  have hxs : pcs { data := #[10] } s = lins := lins_eq HL.out
  have hz : W0.heap.size = g0 + 4 := by rw [← hW0, ← hg0]; simp [sqW]
  have hB0 : Below w.heap.size w W0 := by
    rw [← hW0]
    exact ((((Below.refl _ w).alloc (Nat.le_refl _) _).alloc (by simp) _).alloc (by simp only [World.size_alloc]; omega) _).alloc (by simp only [World.size_alloc]; omega) _
  have HO0 := Lib.hid (show Boxed W0 g0 113 (.slice none 0 0) from by
    have h := Boxed.new w 113 (.slice none 0 0)
    rw [hg0] at h
    rw [← hW0]
    exact ((h.alloc _).alloc _).alloc _)
  have HE := Lib.hid (show Each 8 Tryz.prog 148 #[.pointer (some ⟨g0 + 2, 0, none⟩), .pointer (some ⟨g0 + 1, 0, none⟩), .pointer (some ⟨g0 + 3, 0, none⟩)] (fun x : ByteArray => #[.string x]) (g0 + 1) (fun k => k = 0 ∨ (g0 + 1 ≤ k ∧ k < g0 + 1 + 3)) lins W0 from by
    obtain ⟨m, hm⟩ := hv.len
    have hml := World.block_lt_of_cell? w _ hm
    rw [← hxs]
    have hw1 : (w.alloc (.cells #[.slice none 0 0] 113)).heap.size = g0 + 1 := by rw [World.size_alloc, hg0]
    have b0 := Boxed.new (w.alloc (.cells #[.slice none 0 0] 113)) 9 (.string s)
    have b1 := Boxed.new ((w.alloc (.cells #[.slice none 0 0] 113)).alloc (.cells #[.string s] 9)) 9 (.string { data := #[10] })
    have b2 := Boxed.new (((w.alloc (.cells #[.slice none 0 0] 113)).alloc (.cells #[.string s] 9)).alloc (.cells #[.string { data := #[10] }] 9)) 3 (.int .i64 0)
    rw [hw1] at b0
    rw [World.size_alloc, hw1] at b1
    rw [World.size_alloc, World.size_alloc, hw1] at b2
    have hs : s.size = libT.length := by rw [← HL.out]; simp
    have c0 : Boxed W0 (g0 + 1) 9 (.string s) := by rw [← hW0]; exact (b0.alloc _).alloc _
    have c1 : Boxed W0 (g0 + 1 + 1) 9 (.string { data := #[10] }) := by rw [← hW0]; exact b1.alloc _
    have c2 : Boxed W0 (g0 + 1 + 1 + 1) 3 (.int .i64 0) := by rw [← hW0]; exact b2
    exact ssq_each s { data := #[10] } (by rw [hs]; decide +kernel) (by show 1 ≤ 1; omega) 8 (g0 + 1) (by omega) m W0 (by omega) (by omega) c0.cell c0.frozen c1.cell c2.cell ((hB0.cell (p := ⟨0, 0, none⟩) hml).trans hm))
  simp only [World.size_alloc, hg0]
  rw [hW0]
  refine wp_rangeFunc_each (n := 9) (gf := 148) (lb := #[.pointer (some ⟨g0 + 2, 0, none⟩), .pointer (some ⟨g0 + 1, 0, none⟩), .pointer (some ⟨g0 + 3, 0, none⟩)]) rfl (enters_of Tryz.func148 (by kernel_rfl) rfl)
    (encs := fun x : ByteArray => #[.string x]) (fun _ => rfl) (b := g0 + 1) (S := fun k => k = 0 ∨ (g0 + 1 ≤ k ∧ k < g0 + 1 + 3)) (xs := lins) (by omega) (fun k hk => by omega) HE.out
    (InvL w g0) (invL_own w g0 W0 hg0 hz) (invL_stp w g0) ?start
    (fun x => { tmps := #[.slice none 0 0, .pointer (some ⟨g0, 0, none⟩), .string x, undef, undef, undef, undef, undef, .func (.func 148) #[] #[.pointer (some ⟨g0 + 2, 0, none⟩), .pointer (some ⟨g0 + 1, 0, none⟩), .pointer (some ⟨g0 + 3, 0, none⟩)], .string x, undef, undef, undef, undef, undef, undef, undef, undef, undef, undef, undef, undef, undef, undef, undef, undef, undef, undef, undef, undef, undef, undef, undef, undef, undef, undef, undef, undef, undef, undef, undef, undef, undef, undef, undef, undef, undef, undef, undef, undef, undef, undef, undef, undef], defers := [] }) ?assign ?body ?done
  case start => exact ⟨_, [], by simp, HO0.out, World.ownsRow_nil _ _ _ _, by rw [← hg0]; exact hB0, by omega⟩
  case assign =>
    intro l x W K hK
    gi_wp2
    exact hK
  case body =>
    intro l pre x W hI hx
    obtain ⟨r, hr, hrt, rfl, htk⟩ := lin_row hx
    obtain ⟨v, ks, hk, hbx, hrow, hb, h4⟩ := hI
    obtain ⟨i, hi⟩ : ∃ i, pre.length = i := ⟨_, rfl⟩
    rw [hi] at hr htk hk hrow hx
    obtain ⟨i0, hi', hz0, hz1, hz2⟩ := info_parts infoG0
    have hlen : (tab.take i).length = i := by
      have := (List.getElem?_eq_some_iff.1 hr).1
      simp; omega
    rw [hlen] at hk hrow
    have HV := Lib.hid (show Vars W from hv.below (by rw [hg0]; exact hb))
    have HSP := Lib.hid (fun W h => row_split_any r hrt W h)
    have HPA := Lib.hid (fun W => row_parse_any r hrt W)
    clear hx
    gi_wp2_with (first | (refine ⟨trivial, ?_⟩; refine (CallsIn.inRound l (callsIn_wide.2 (HSP.out _ HV.out))).mono ?_; rintro e w2 ⟨g, rfl, hg, hgb, hb2⟩; have hq0 := (DwB.row3f hgb).1.1; have hgl := (Array.getElem?_eq_some_iff.1 hgb).1) | (refine ⟨trivial, ?_⟩; refine (CallsIn.inRound l (callsIn_wide.2 (HPA.out _))).mono ?_; rintro e w3 ⟨rfl, hb3⟩; have hgb3 := (hb3.block g hgl).trans hgb; obtain ⟨hq1, hq2, hq3⟩ := (DwB.row3f hgb3).1))
    have hg3 : g < w3.heap.size := Nat.lt_of_lt_of_le hgl hb3.size
    have ha1 : ∀ o, (w3.drew.alloc o).cell? ⟨g, 1, none⟩ = some (.string (ba r.nm)) := fun o => (World.cell?_alloc_old _ o ⟨g, 1, none⟩ (Nat.ne_of_lt (show g < w3.drew.heap.size from hg3))).trans hq2
    have ha2 : ∀ o, (w3.drew.alloc o).cell? ⟨g, 2, none⟩ = some (.string (ba r.tx)) := fun o => (World.cell?_alloc_old _ o ⟨g, 2, none⟩ (Nat.ne_of_lt (show g < w3.drew.heap.size from hg3))).trans hq3
    refine wpIn_region_any (by kernel_rfl) ?_
    change wpAnyIn _ _ _ _ _ _ _ _ _ (World.drew _)
    refine wpAny_round (by kernel_rfl) _ _ _ _ ?_
    apply wpAny_one
    rotate_left 1
    case a =>
      refine wpAnyIn_take (i := 0) (v := .int .i64 r.o) rfl rfl (by kernel_rfl) (by kernel_rfl) (by kernel_rfl) (fun _ _ _ h => h) ⟨Or.inl ⟨by rfl, by intro w; go_simp⟩, fun _ => rfl⟩ ?_
      refine wpAnyIn_take (i := 1) (v := .slice (some ⟨g, 0, none⟩) 3 3) rfl rfl (by kernel_rfl) (by kernel_rfl) (by kernel_rfl) (fun _ _ _ h => h) ⟨Or.inl ⟨by rfl, by intro w; go_simp⟩, fun _ => rfl⟩ ?_
      refine wpAnyIn_take (i := 4) (v := .slice (some ⟨g, 0, none⟩) 3 3) rfl rfl (by kernel_rfl) (by kernel_rfl) (by kernel_rfl) (fun _ _ _ h => h) ⟨Or.inl ⟨by rfl, by intro w; go_simp⟩, fun _ => rfl⟩ ?_
      refine wpAnyIn_take (i := 2) (v := .pointer (some ⟨g, 1, none⟩)) rfl rfl (by kernel_rfl) (by kernel_rfl) (by kernel_rfl) (fun _ _ _ h => h) ⟨Or.inl ⟨by rfl, by intro w; go_simp⟩, fun _ => rfl⟩ ?_
      refine wpAnyIn_take (i := 5) (v := .pointer (some ⟨g, 2, none⟩)) rfl rfl (by kernel_rfl) (by kernel_rfl) (by kernel_rfl) (fun _ _ _ h => h) ⟨Or.inl ⟨by rfl, by intro w; go_simp⟩, fun _ => rfl⟩ ?_
      refine wpAnyIn_ready (rs := [3, 6, 8]) (by kernel_rfl) (by simp) ?_
      refine AllReadyIn.cons rfl (fun K hK => ?_) (AllReadyIn.cons rfl (fun K hK => ?_) (AllReadyIn.cons rfl (fun K hK => ?_) AllReadyIn.nil))
      · go_simp; refine hK _ _ ?_; clear hK K
        refine wpAnyIn_ready (rs := [6, 8]) (by kernel_rfl) (by simp) ?_
        refine AllReadyIn.cons rfl (fun K hK => ?_) (AllReadyIn.cons rfl (fun K hK => ?_) AllReadyIn.nil)
        · go_simp; refine hK _ _ ?_; clear hK K
          refine wpAnyIn_ready (rs := [7, 8]) (by kernel_rfl) (by simp) ?_
          refine AllReadyIn.cons rfl (fun K hK => ?_) (AllReadyIn.cons rfl (fun K hK => ?_) AllReadyIn.nil)
          · go_simp; refine hK _ _ ?_; clear hK K
            refine wpAnyIn_ready (rs := [8]) (by kernel_rfl) (by simp) ?_
            refine AllReadyIn.cons rfl (fun K hK => ?_) AllReadyIn.nil
            go_simp; refine hK _ _ ?_; clear hK K
            refine wpAnyIn_ready (rs := [9]) (by kernel_rfl) (by simp) ?_
            refine AllReadyIn.cons rfl (fun K hK => ?_) AllReadyIn.nil
            go_simp; refine hK _ _ ?_; clear hK K
            refine wpAnyIn_done (by kernel_rfl) ?_ _
            exact ⟨rfl, rfl⟩
          · go_simp; refine hK _ _ ?_; clear hK K
            refine wpAnyIn_ready (rs := [7]) (by kernel_rfl) (by simp) ?_
            refine AllReadyIn.cons rfl (fun K hK => ?_) AllReadyIn.nil
            go_simp; refine hK _ _ ?_; clear hK K
            refine wpAnyIn_ready (rs := [9]) (by kernel_rfl) (by simp) ?_
            refine AllReadyIn.cons rfl (fun K hK => ?_) AllReadyIn.nil
            go_simp; refine hK _ _ ?_; clear hK K
            refine wpAnyIn_done (by kernel_rfl) ?_ _
            exact ⟨rfl, rfl⟩
        · go_simp; refine hK _ _ ?_; clear hK K
          refine wpAnyIn_ready (rs := [6]) (by kernel_rfl) (by simp) ?_
          refine AllReadyIn.cons rfl (fun K hK => ?_) AllReadyIn.nil
          go_simp; refine hK _ _ ?_; clear hK K
          refine wpAnyIn_ready (rs := [7]) (by kernel_rfl) (by simp) ?_
          refine AllReadyIn.cons rfl (fun K hK => ?_) AllReadyIn.nil
          go_simp; refine hK _ _ ?_; clear hK K
          refine wpAnyIn_ready (rs := [9]) (by kernel_rfl) (by simp) ?_
          refine AllReadyIn.cons rfl (fun K hK => ?_) AllReadyIn.nil
          go_simp; refine hK _ _ ?_; clear hK K
          refine wpAnyIn_done (by kernel_rfl) ?_ _
          exact ⟨rfl, rfl⟩
      · go_simp; refine hK _ _ ?_; clear hK K
        refine wpAnyIn_ready (rs := [3, 8]) (by kernel_rfl) (by simp) ?_
        refine AllReadyIn.cons rfl (fun K hK => ?_) (AllReadyIn.cons rfl (fun K hK => ?_) AllReadyIn.nil)
        · go_simp; refine hK _ _ ?_; clear hK K
          refine wpAnyIn_ready (rs := [7, 8]) (by kernel_rfl) (by simp) ?_
          refine AllReadyIn.cons rfl (fun K hK => ?_) (AllReadyIn.cons rfl (fun K hK => ?_) AllReadyIn.nil)
          · go_simp; refine hK _ _ ?_; clear hK K
            refine wpAnyIn_ready (rs := [8]) (by kernel_rfl) (by simp) ?_
            refine AllReadyIn.cons rfl (fun K hK => ?_) AllReadyIn.nil
            go_simp; refine hK _ _ ?_; clear hK K
            refine wpAnyIn_ready (rs := [9]) (by kernel_rfl) (by simp) ?_
            refine AllReadyIn.cons rfl (fun K hK => ?_) AllReadyIn.nil
            go_simp; refine hK _ _ ?_; clear hK K
            refine wpAnyIn_done (by kernel_rfl) ?_ _
            exact ⟨rfl, rfl⟩
          · go_simp; refine hK _ _ ?_; clear hK K
            refine wpAnyIn_ready (rs := [7]) (by kernel_rfl) (by simp) ?_
            refine AllReadyIn.cons rfl (fun K hK => ?_) AllReadyIn.nil
            go_simp; refine hK _ _ ?_; clear hK K
            refine wpAnyIn_ready (rs := [9]) (by kernel_rfl) (by simp) ?_
            refine AllReadyIn.cons rfl (fun K hK => ?_) AllReadyIn.nil
            go_simp; refine hK _ _ ?_; clear hK K
            refine wpAnyIn_done (by kernel_rfl) ?_ _
            exact ⟨rfl, rfl⟩
        · go_simp; refine hK _ _ ?_; clear hK K
          refine wpAnyIn_ready (rs := [3]) (by kernel_rfl) (by simp) ?_
          refine AllReadyIn.cons rfl (fun K hK => ?_) AllReadyIn.nil
          go_simp; refine hK _ _ ?_; clear hK K
          refine wpAnyIn_ready (rs := [7]) (by kernel_rfl) (by simp) ?_
          refine AllReadyIn.cons rfl (fun K hK => ?_) AllReadyIn.nil
          go_simp; refine hK _ _ ?_; clear hK K
          refine wpAnyIn_ready (rs := [9]) (by kernel_rfl) (by simp) ?_
          refine AllReadyIn.cons rfl (fun K hK => ?_) AllReadyIn.nil
          go_simp; refine hK _ _ ?_; clear hK K
          refine wpAnyIn_done (by kernel_rfl) ?_ _
          exact ⟨rfl, rfl⟩
      · go_simp; refine hK _ _ ?_; clear hK K
        refine wpAnyIn_ready (rs := [3, 6]) (by kernel_rfl) (by simp) ?_
        refine AllReadyIn.cons rfl (fun K hK => ?_) (AllReadyIn.cons rfl (fun K hK => ?_) AllReadyIn.nil)
        · go_simp; refine hK _ _ ?_; clear hK K
          refine wpAnyIn_ready (rs := [6]) (by kernel_rfl) (by simp) ?_
          refine AllReadyIn.cons rfl (fun K hK => ?_) AllReadyIn.nil
          go_simp; refine hK _ _ ?_; clear hK K
          refine wpAnyIn_ready (rs := [7]) (by kernel_rfl) (by simp) ?_
          refine AllReadyIn.cons rfl (fun K hK => ?_) AllReadyIn.nil
          go_simp; refine hK _ _ ?_; clear hK K
          refine wpAnyIn_ready (rs := [9]) (by kernel_rfl) (by simp) ?_
          refine AllReadyIn.cons rfl (fun K hK => ?_) AllReadyIn.nil
          go_simp; refine hK _ _ ?_; clear hK K
          refine wpAnyIn_done (by kernel_rfl) ?_ _
          exact ⟨rfl, rfl⟩
        · go_simp; refine hK _ _ ?_; clear hK K
          refine wpAnyIn_ready (rs := [3]) (by kernel_rfl) (by simp) ?_
          refine AllReadyIn.cons rfl (fun K hK => ?_) AllReadyIn.nil
          go_simp; refine hK _ _ ?_; clear hK K
          refine wpAnyIn_ready (rs := [7]) (by kernel_rfl) (by simp) ?_
          refine AllReadyIn.cons rfl (fun K hK => ?_) AllReadyIn.nil
          go_simp; refine hK _ _ ?_; clear hK K
          refine wpAnyIn_ready (rs := [9]) (by kernel_rfl) (by simp) ?_
          refine AllReadyIn.cons rfl (fun K hK => ?_) AllReadyIn.nil
          go_simp; refine hK _ _ ?_; clear hK K
          refine wpAnyIn_done (by kernel_rfl) ?_ _
          exact ⟨rfl, rfl⟩
    case hQ =>
      obtain ⟨g4, hg4⟩ : ∃ g4, w3.heap.size = g4 := ⟨_, rfl⟩
      obtain ⟨w4, hw4⟩ : ∃ w4, (w3.alloc (.cells #[.int .i64 r.o, .int .i64 0, .string (ba r.nm), .string (ba r.tx)] 116)).drew = w4 := ⟨_, rfl⟩
      rw [hw4, hg4]
      have HBW := Lib.hid (show Below W.heap.size W w4 from by
        rw [← hw4]
        exact ((hb2.trans (hb3.mono hb2.size)).alloc (Nat.le_trans hb2.size hb3.size) _).drew)
      have hbx4 : Boxed w4 g0 113 v := (HBW.out.block g0 hbx.lt).trans hbx
      have hrow4 : w4.ownsRow (g0 + 4) 116 4 v i (gcs (tab.take i) ks) := ownsRow_keep hrow (S := fun _ => True) (Keep.of_below HBW.out) fun _ _ => trivial
      have hst4 : w4.heap[g4]? = some (.cells #[.int .i64 r.o, .int .i64 0, .string (ba r.nm), .string (ba r.tx)] 116 (0, 0)) := by
        rw [← hw4, ← hg4]
        exact World.alloc_heap_new w3 _
      have hW4 : W.heap.size ≤ g4 := by rw [← hg4]; exact Nat.le_trans hb2.size hb3.size
      have hI : W.heap.size ≤ g4 ∧ g4 < w4.heap.size := ⟨hW4, (Array.getElem?_eq_some_iff.1 hst4).1⟩
      have HGW := Lib.hid (show ∀ g, v.ownBlock = some g → g < W.heap.size from fun g e => by
        rcases hrow.2 with ⟨rfl, _⟩ | ⟨g', cap, cur, rfl, _, hgb, _⟩
        · simp [Value.ownBlock] at e
        · obtain rfl : g' = g := by simpa [Value.ownBlock] using e
          exact (Array.getElem?_eq_some_iff.1 hgb).1)
      clear hw4 hg4 hb2 hb3 hgb hgb3 ha1 ha2 hq0 hq1 hq2 hq3 hg hgl hg3 hrow hbx HSP HPA
      obtain ⟨av, cv, rfl⟩ := DwB.owns_form hrow4
      have hc0 := hbx4.cell
      have hf0 := hbx4.frozen
      obtain ⟨s0, s1, s2, s3, sf⟩ := row4f hst4
      by_cases hi0 : i = 0
      · subst hi0
        gi_wp2_with (gi_at_builtin; refine wpListIn_append_own _ rfl _ _ 113 rfl (g0 + 4) 116 i0 (.agg #[.int .i64 0, .int .i64 0, .string ByteArray.empty, .string ByteArray.empty]) 4 48 Tryz.underlying113 hi' hz0 hz1 hz2 rfl (by decide) _ _ _ rfl (hrow4.alloc _) ⟨w4.heap.size, 0, none⟩ 1 1 (cel r 0) rfl rfl (cel_new _ _ _ _ _ _) (by simp [cel, Value.oneCell']) (by show 0 + 1 ≤ maxLen; unfold maxLen; omega) (by omega) (by have := HBW.out.size; simp; omega) ?_; intro v' w1 hown' hgrow _; obtain ⟨hv1, k1, k2, k3⟩ := lib_end (x := ba r.line) hmg hz hi hk htk hlen hb h4 HBW.out hbx4 hrow4 hgrow hown'; obtain ⟨g', cap', rfl⟩ := ownsRow_succ hown'; have hc1 := hv1.cell; have hf1 := hv1.frozen)
        exact ⟨k1, k2, k3⟩
      · obtain ⟨j, hji⟩ : ∃ j, j + 1 = i := ⟨i - 1, by omega⟩
        have hil : i ≤ tab.length := Nat.le_of_lt (List.getElem?_eq_some_iff.1 hr).1
        have hi82 : i ≤ 1000 := by rw [tab_len] at hil; omega
        obtain ⟨q, hq⟩ : ∃ q, tab[j]? = some q := ⟨_, List.getElem?_eq_getElem (by omega)⟩
        have hqt : (tab.take i)[j]? = some q := by rw [List.getElem?_take, if_pos (by omega)]; exact hq
        obtain ⟨kk, hkk, hcl⟩ := gcs_get (tab.take i) ks j q (by rw [hlen, hk]) hqt
        obtain ⟨gv, cur, rfl, hgv, hgb, hcc⟩ : ∃ gv cur, av = some ⟨gv, 0, none⟩ ∧ g0 + 4 ≤ gv ∧ w4.heap[gv]? = some (.cells cur 116 (0, 0)) ∧ cur.toList.take (i * 4) = gcs (tab.take i) ks := by
          rcases hrow4.2 with ⟨h0, hn⟩ | ⟨g, cap, cur, h0, h1, h2, _, _, _, h3⟩
          · exact absurd hn hi0
          · obtain ⟨rfl, rfl⟩ : av = some ⟨g, 0, none⟩ ∧ cv = cap := by simpa using h0
            exact ⟨g, cur, rfl, h1, h2, h3⟩
        have hcel : ∀ t < 4, w4.cell? ⟨gv, j * 4 + t, none⟩ = (cel q kk)[t]? := fun t ht => by
          have h1 := hcl t ht
          rw [← hcc, List.getElem?_take, if_pos (by omega), Nat.mul_comm] at h1
          rw [← h1]
          simp [World.cell?, hgb]
        have hj0 : w4.cell? ⟨gv, j * 4, none⟩ = some (.int .i64 q.o) := hcel 0 (by omega)
        have hj1 : w4.cell? ⟨gv, j * 4 + 1, none⟩ = some (.int .i64 kk) := hcel 1 (by omega)
        have hpos : ((0 : Int) < (i : Int)) = True := eq_true (by omega)
        have hsub : IntKind.i64.wrap ((i : Int) - 1) = (j : Int) := by rw [IntWalk.i64_in _ (by omega)]; omega
        have hlt : (j : Int) < (i : Int) := by omega
        have hi1 : 0 < i := by omega
        have hjlt : j < i := by omega
        clear hcel hcl hqt hq hkk hcc
        by_cases ho : q.o = r.o
        · rw [ho] at hj0
          have hgg : gv ≠ g4 := fun e => by have := HGW.out gv rfl; omega
          have hgS := grownBy_setC w4 g4 1 (.int .i64 (wrap64 (kk + 1)))
          have HBS := Lib.hid (HBW.out.setCell (p := ⟨g4, 1, none⟩) hI.1 (.int .i64 (wrap64 (kk + 1))))
          have hbxS := hbx4.kept hgS (fun e => by cases e; omega)
          have hrowS := hrow4.kept hgS (.inr (by simpa [Value.ownBlock] using hgg))
          have hszS : (w4.setCell ⟨g4, 1, none⟩ (.int .i64 (wrap64 (kk + 1)))).heap.size = w4.heap.size := by simp
          gi_wp2_with (gi_at_builtin; refine wpListIn_append_own _ rfl _ _ 113 rfl (g0 + 4) 116 i0 (.agg #[.int .i64 0, .int .i64 0, .string ByteArray.empty, .string ByteArray.empty]) 4 48 Tryz.underlying113 hi' hz0 hz1 hz2 rfl (by decide) _ _ _ rfl (hrowS.alloc _) ⟨w4.heap.size, 0, none⟩ 1 1 (cel r (wrap64 (kk + 1))) rfl rfl (cel_new' _ w4.heap.size hszS _ _ _ _ _) (by simp [cel, Value.oneCell']) (by show i + 1 ≤ maxLen; unfold maxLen; omega) (by omega) (by have := HBS.out.size; simp; omega) ?_; intro v' w1 hown' hgrow _; obtain ⟨hv1, k1, k2, k3⟩ := lib_end (x := ba r.line) hmg hz hi hk htk hlen hb h4 HBS.out hbxS hrowS hgrow hown'; obtain ⟨g', cap', rfl⟩ := ownsRow_succ hown'; have hc1 := hv1.cell; have hf1 := hv1.frozen)
          exact ⟨k1, k2, k3⟩
        · have hob : (q.o == r.o) = false := beq_eq_false_iff_ne.2 ho
          gi_wp2_with (gi_at_builtin; refine wpListIn_append_own _ rfl _ _ 113 rfl (g0 + 4) 116 i0 (.agg #[.int .i64 0, .int .i64 0, .string ByteArray.empty, .string ByteArray.empty]) 4 48 Tryz.underlying113 hi' hz0 hz1 hz2 rfl (by decide) _ _ _ rfl (hrow4.alloc _) ⟨_, 0, none⟩ 1 1 (cel r 0) rfl rfl (cel_new _ _ _ _ _ _) (by simp [cel, Value.oneCell']) (by show i + 1 ≤ maxLen; unfold maxLen; omega) (by omega) (by have := HBW.out.size; simp; omega) ?_; intro v' w1 hown' hgrow _; obtain ⟨hv1, k1, k2, k3⟩ := lib_end (x := ba r.line) hmg hz hi hk htk hlen hb h4 HBW.out hbx4 hrow4 hgrow hown'; obtain ⟨g', cap', rfl⟩ := ownsRow_succ hown'; have hc1 := hv1.cell; have hf1 := hv1.frozen)
          exact ⟨k1, k2, k3⟩
  case done =>
    rintro D W hD ⟨v, ks, hk, hbx, hrow, hb, h4⟩ hK
    have hc := hbx.cell
    gi_wp2
    refine ⟨by simp, .inl ⟨_, _, rfl, run_takeDeferred hK, ?_⟩⟩
    have hll : tab.take lins.length = tab := List.take_of_length_le (by unfold lins; simp)
    rw [hll] at hk hrow
    exact ⟨_, results_tmp rfl _ _ _, _, ks, rfl, hk, by rw [hg0]; exact ownsRow_mono (ownsRow_putObj hrow _ hK rfl) (by omega), by rw [hg0]; exact hb.grown (grownBy_putObj' W D _) (by omega) (fun k e => by cases e; omega)⟩
end Go.Proofs.YtbamkklhkhglnaaGreatDoor.LbC

namespace Go.Proofs.YtbamkklhkhglnaaGreatDoor.LbD
open Go.RowKit Go.Lib Go.Proofs.YtbamkklhkhglnaaGreatDoor Go.Proofs.YtbamkklhkhglnaaGreatDoor.Tow Go.Proofs.YtbamkklhkhglnaaGreatDoor.CyA Go.Proofs.YtbamkklhkhglnaaGreatDoor.LbC Go.Proofs.YtbamkklhkhglnaaGreatDoor.LbP Go.Proofs.YtbamkklhkhglnaaGreatDoor.TrA Go.Proofs.YtbamkklhkhglnaaGreatDoor.TrB Go.Proofs.YtbamkklhkhglnaaGreatDoor.TxA Go.Proofs.YtbamkklhkhglnaaGreatDoor.TxC Go.Proofs.YtbamkklhkhglnaaGreatDoor.SplitPlain Go.Proofs.YtbamkklhkhglnaaGreatDoor.TiA Go.Proofs.YtbamkklhkhglnaaGreatDoor.TiB
set_option linter.unusedVariables false
set_option linter.unusedSimpArgs false

def isLt : List UInt8 → Bool
  | [c] => 97 ≤ c.toNat && c.toNat ≤ 122
  | _ => false
def isMk (t : List UInt8) : Bool := t == [90] || t == [68] || t == [70]
theorem lt_size {s : ByteArray} (h : ¬ s.size = 1) : isLt s.data.toList = false := by
  have h1 : s.data.toList.length = s.size := by simp
  match e : s.data.toList with
  | [] => rfl
  | [c] => rw [e] at h1; exact absurd h1.symm h
  | _ :: _ :: _ => rfl
theorem lt_one {s : ByteArray} (h : s.size = 1) (h0 : 0 < s.size) : isLt s.data.toList = (decide (97 ≤ s[0].toNat) && decide (s[0].toNat ≤ 122)) := by
  have h1 : s.data.toList.length = s.size := by simp
  have h2 := data_getElem? s 0 h0
  match e : s.data.toList with
  | [] => rw [e] at h1; simp at h1; omega
  | [c] =>
    rw [e] at h2
    obtain rfl : c = s[0] := by simpa using h2
    rfl
  | _ :: _ :: _ => rw [e] at h1; simp at h1; omega
def BoR (b : Bool) (w : World) (e : Ending) (w' : World) : Prop := e = .returned (.bool b) ∧ w' = w
theorem ilet_any (s : ByteArray) (w : World) : Calls Tryz.prog 59 #[.string s] w (BoR (isLt s.data.toList) w) := by
  by_cases h1 : s.size = 1
  · have h0 : 0 < s.size := by omega
    have HE := Lib.hid (lt_one h1 h0)
    have h1i : ((s.size : Int) == 1) = true := by rw [h1]; rfl
    by_cases ha : 97 ≤ s[0].toNat
    · by_cases hb : s[0].toNat ≤ 122
      · have hbd : decide ((s[0].toNat : Int) ≤ 122) = true := decide_eq_true (by omega)
        have HB := Lib.hid (show isLt s.data.toList = true by rw [HE.out]; simp [ha, hb])
        go_enter Tryz.func59, Tryz.ntmps59
        go_wp2_with fail
        go_ret
        rw [HB.out]
        exact ⟨rfl, rfl⟩
      · have hbd : decide ((s[0].toNat : Int) ≤ 122) = false := decide_eq_false (by omega)
        have HB := Lib.hid (show isLt s.data.toList = false by rw [HE.out]; simp [ha, hb])
        go_enter Tryz.func59, Tryz.ntmps59
        go_wp2_with fail
        go_ret
        rw [HB.out]
        exact ⟨rfl, rfl⟩
    · have HB := Lib.hid (show isLt s.data.toList = false by rw [HE.out]; simp [ha])
      go_enter Tryz.func59, Tryz.ntmps59
      go_wp2_with fail
      go_ret
      rw [HB.out]
      exact ⟨rfl, rfl⟩
  · have HB := Lib.hid (lt_size h1)
    have h1i : ((s.size : Int) == 1) = false := beq_eq_false_iff_ne.2 (by omega)
    clear h1
    go_enter Tryz.func59, Tryz.ntmps59
    go_wp2_with fail
    go_ret
    rw [HB.out]
    exact ⟨rfl, rfl⟩
theorem slet_any (s : ByteArray) (w : World) : Calls Tryz.prog 63 #[.string s] w (BoR (isLt s.data.toList) w) := by
  by_cases h1 : s.size = 1
  · have h0 : 0 < s.size := by omega
    have HE := Lib.hid (lt_one h1 h0)
    have h1i : ((s.size : Int) == 1) = true := by rw [h1]; rfl
    by_cases ha : 97 ≤ s[0].toNat
    · by_cases hb : s[0].toNat ≤ 122
      · have hbd : decide ((s[0].toNat : Int) ≤ 122) = true := decide_eq_true (by omega)
        have HB := Lib.hid (show isLt s.data.toList = true by rw [HE.out]; simp [ha, hb])
        go_enter Tryz.func63, Tryz.ntmps63
        go_wp2_with fail
        go_ret
        rw [HB.out]
        exact ⟨rfl, rfl⟩
      · have hbd : decide ((s[0].toNat : Int) ≤ 122) = false := decide_eq_false (by omega)
        have HB := Lib.hid (show isLt s.data.toList = false by rw [HE.out]; simp [ha, hb])
        go_enter Tryz.func63, Tryz.ntmps63
        go_wp2_with fail
        go_ret
        rw [HB.out]
        exact ⟨rfl, rfl⟩
    · have HB := Lib.hid (show isLt s.data.toList = false by rw [HE.out]; simp [ha])
      go_enter Tryz.func63, Tryz.ntmps63
      go_wp2_with fail
      go_ret
      rw [HB.out]
      exact ⟨rfl, rfl⟩
  · have HB := Lib.hid (lt_size h1)
    have h1i : ((s.size : Int) == 1) = false := beq_eq_false_iff_ne.2 (by omega)
    clear h1
    go_enter Tryz.func63, Tryz.ntmps63
    go_wp2_with fail
    go_ret
    rw [HB.out]
    exact ⟨rfl, rfl⟩
theorem imk_any (s : ByteArray) (w : World) : Calls Tryz.prog 60 #[.string s] w (BoR (isMk s.data.toList) w) := by
  rw [← toList_data]
  go_enter Tryz.func60, Tryz.ntmps60
  go_wp2_with fail
  all_goals go_ret
  all_goals exact ⟨by simp [isMk, *], rfl⟩
theorem smk_any (s : ByteArray) (w : World) : Calls Tryz.prog 56 #[.string s] w (BoR (isMk s.data.toList) w) := by
  rw [← toList_data]
  go_enter Tryz.func56, Tryz.ntmps56
  go_wp2_with fail
  all_goals go_ret
  all_goals exact ⟨by simp [isMk, *], rfl⟩
end Go.Proofs.YtbamkklhkhglnaaGreatDoor.LbD

namespace Go.Proofs.YtbamkklhkhglnaaGreatDoor.ImplI
open Go.RowKit Go.Proofs.YtbamkklhkhglnaaGreatDoor Go.Proofs.YtbamkklhkhglnaaGreatDoor.Tow Go.Proofs.YtbamkklhkhglnaaGreatDoor.TowD Go.Proofs.YtbamkklhkhglnaaGreatDoor.Val Go.Proofs.YtbamkklhkhglnaaGreatDoor.ImplV Go.Proofs.YtbamkklhkhglnaaGreatDoor.ImplW Go.Proofs.YtbamkklhkhglnaaGreatDoor.ImplH Go.Proofs.YtbamkklhkhglnaaGreatDoor.Grps
set_option linter.unusedVariables false
set_option linter.unusedSimpArgs false

def FromR (T : Tw) (w : World) (e : Ending) (w' : World) : Prop := ∃ r : Nat, e = .returned (.int .i64 (r : Int)) ∧ (r = 0 ↔ Tow.Good T) ∧ Below w.heap.size w w'

set_option maxHeartbeats 1000000 in
theorem from_any (T : Tw) (hT : Wf T) (hs : Small T) (w : World) (b o : Nat) (hP : PtrP Any w b o (ofTw T)) :
    Calls Tryz.prog 103 #[.pointer (some ⟨b, o, none⟩)] w (FromR T w) := by
  have hs6 := hs.1
  have HP := Lib.hid hP
  obtain ⟨_, hbl, vO, vP, vC, hp0, hp1, hp2, hV⟩ := hP
  obtain ⟨aO, cO, aP, cP, aC, cC, rfl, rfl, rfl, hO1, hP1, hC1⟩ := hV.open
  have HF := Lib.hid (fun i L hL hg W hP => fault_any T hT hs i L hL hg W b o hP)
  clear hV hp1 hp2
  go_enter Tryz.func103, Tryz.ntmps103
  go_wp2_with fail
  clear hp0
  go_loopw [3] (fun i wr => ∃ k : Nat, k ≤ T.length ∧ i = .int .i64 (k : Int) ∧ Hid (Tow.Good (T.drop k)) ∧ Below w.heap.size w wr) (fun i _ => (intOf i).toNat)
  case atStart => exact ⟨T.length, Nat.le_refl _, rfl, Lib.hid (by rw [List.drop_length]; trivial), Below.refl _ _⟩
  case round =>
    obtain ⟨k, hk, rfl, hg, hb⟩ := hrel
    have HB := Lib.hid hb
    clear hb
    by_cases h0 : k = 0
    · subst h0
      go_wp2_with fail
      go_ret
      exact ⟨0, rfl, ⟨fun _ => hg.out, fun _ => rfl⟩, HB.out⟩
    · obtain ⟨i, rfl⟩ : ∃ i, k = i + 1 := ⟨k - 1, by omega⟩
      have hd : decide (((i + 1 : Nat) : Int) > 0) = true := by first | (simp; omega) | simp
      obtain ⟨L, hL⟩ : ∃ L, T[i]? = some L := ⟨_, List.getElem?_eq_getElem (by omega)⟩
      have HL := Lib.hid hL
      have HIF := Lib.hid (show Tow.Good (T.drop i) ↔ LvOk L (T.drop (i + 1)) from by
        rw [drop_cons' hL, Good_cons]
        exact ⟨fun h => h.2, fun h => ⟨hg.out, h⟩⟩)
      clear hL h0
      by_cases hok : LvOk L (T.drop (i + 1))
      · have HOK := Lib.hid hok
        clear hok
        go_wp2_with (go_at_call 130; refine (HF.out i L HL.out hg.out _ (HP.out.keep (Keep.of_below HB.out))).mono ?_; rintro e w1 ⟨k, l, a, b, rfl, hif, hbel⟩; obtain ⟨rfl, rfl, rfl, rfl⟩ := hif.2 HOK.out; replace hbel := Lib.hid hbel)
        go_roundw
        case rel => exact ⟨i, by omega, rfl, Lib.hid (HIF.out.2 HOK.out), HB.out.trans (hbel.out.mono HB.out.size)⟩
        case measure => simp [intOf] <;> omega
      · have HOK := Lib.hid hok
        clear hok
        go_wp2_with (go_at_call 130; refine (HF.out i L HL.out hg.out _ (HP.out.keep (Keep.of_below HB.out))).mono ?_; rintro e w1 ⟨k, l, a, b, rfl, hif, hbel⟩; replace hif := Lib.hid (fun h => HOK.out (hif.1 h)); replace hbel := Lib.hid hbel)
        all_goals first
          | (go_ret; exact ⟨i + 1, rfl, ⟨fun h => absurd h (by omega), fun h => absurd (HIF.out.1 (Good_drop h i)) HOK.out⟩, HB.out.trans (hbel.out.mono HB.out.size)⟩)
          | exact (hif.out ⟨by assumption, by assumption, by assumption, by assumption⟩).elim
          | trace_state

theorem ptr_of_box {w W : World} {vO vP vC : Value} {t : TypeId} {P : Pres} (h : ValP Any w vO vP vC P) (hb : Below (w.heap.size + 1) (w.alloc (.cells #[vO, vP, vC] t)) W) : PtrP Any W w.heap.size 0 P := by
  have hs := hb.size
  simp at hs
  obtain ⟨e0, e1, e2⟩ := box_cells hb
  exact ⟨trivial, by omega, vO, vP, vC, e0, e1, e2, h.keep (Keep.of_below (below_unboxed hb))⟩

set_option maxRecDepth 100000 in
set_option maxHeartbeats 1000000 in
theorem group_any (w : World) (vO vP vC : Value) (P : Pres) (hP : ValP Any w vO vP vC P) :
    Calls Tryz.prog 83 #[.agg #[vO, vP, vC]] w (ExB (Grp P) w) := by
  have HP := Lib.hid hP
  have HV := Lib.hid (fun W h => ImplW.isPres_any W vO vP vC P h)
  have HC := Lib.hid (fun T (hT : Wf T) (hs : Small T) W b o h => from_any T hT hs W b o h)
  clear hP
  have HB : Hid (Below w.heap.size w (w.alloc (.cells #[vO, vP, vC] 91))) := Lib.hid ((Below.refl _ _).alloc (by simp) _)
  by_cases hv : Valid P
  · obtain ⟨T, hT, hs, rfl⟩ := hv.tower
    have HVA := Lib.hid hv
    have HT := Lib.hid hT
    have HS := Lib.hid hs
    clear hv hT hs
    have HNG : Hid (¬ Tow.Good T → ¬ Grp (ofTw T)) := Lib.hid (fun hg h => hg h.good)
    go_enter Tryz.func83, Tryz.ntmps83
    go_wp2_with fail
    refine (HV.out _ (HP.out.keep (Keep.of_below HB.out))).mono ?_
    rintro e w1 ⟨r, rfl, hr, hb1⟩
    obtain rfl := hr.2 HVA.out
    have HB1' := Lib.hid ((Below.refl _ _).trans (hb1.mono (show w.heap.size + 1 ≤ _ by simp)))
    have HB1 := Lib.hid (below_unboxed HB1'.out)
    have hsz := HB1'.out.size
    simp at hsz
    clear hb1 hr
    go_wp2_with (go_at_call 103; refine (HC.out T HT.out HS.out _ _ _ (ptr_of_box HP.out HB1'.out)).mono ?_; rintro e w2 ⟨r, rfl, hr, hb2⟩; replace hb2 := Lib.hid hb2; by_cases hr0 : r = 0)
    · subst hr0
      have HG := Lib.hid (hr.1 rfl)
      clear hr
      go_wp2_with fail
      go_ret
      exact ExB_true ⟨T, HT.out, HS.out, rfl, HVA.out, HG.out⟩ (HB1.out.trans (hb2.out.mono HB1.out.size))
    · have HG := Lib.hid (show ¬ Tow.Good T from fun h => hr0 (hr.2 h))
      have hd : ((r : Int) == 0) = false := by simpa using hr0
      clear hr hr0
      go_wp2_with fail
      go_ret
      refine (show ∀ {v}, v = Value.bool false → ExB (Grp (ofTw T)) w (.returned v) w2 from fun hv => hv ▸ ExB_false (HNG.out HG.out) (HB1.out.trans (hb2.out.mono HB1.out.size))) (congrArg Value.bool hd)
  · have HN := Lib.hid hv
    have HNG : Hid (¬ Grp P) := Lib.hid (by rintro ⟨T', _, _, _, h, _⟩; exact HN.out h)
    clear hv
    go_enter Tryz.func83, Tryz.ntmps83
    go_wp2_with fail
    refine (HV.out _ (HP.out.keep (Keep.of_below HB.out))).mono ?_
    rintro e w1 ⟨r, rfl, hr, hb1⟩
    obtain rfl := (Bool.eq_false_iff.2 (fun h => HN.out (hr.1 h)))
    have HB1 := Lib.hid (HB.out.trans (hb1.mono (by simp)))
    clear hb1 hr
    go_wp2_with fail
    go_ret
    exact ExB_false HNG.out HB1.out
end Go.Proofs.YtbamkklhkhglnaaGreatDoor.ImplI

namespace Go.Proofs.YtbamkklhkhglnaaGreatDoor.LbE
open Go.RowKit Go.Lib Go.Proofs.YtbamkklhkhglnaaGreatDoor Go.Proofs.YtbamkklhkhglnaaGreatDoor.Tow Go.Proofs.YtbamkklhkhglnaaGreatDoor.CyA Go.Proofs.YtbamkklhkhglnaaGreatDoor.LbC Go.Proofs.YtbamkklhkhglnaaGreatDoor.LbP Go.Proofs.YtbamkklhkhglnaaGreatDoor.LbD Go.Proofs.YtbamkklhkhglnaaGreatDoor.TmA Go.Proofs.YtbamkklhkhglnaaGreatDoor.TrA Go.Proofs.YtbamkklhkhglnaaGreatDoor.TrB Go.Proofs.YtbamkklhkhglnaaGreatDoor.TxA Go.Proofs.YtbamkklhkhglnaaGreatDoor.TxB Go.Proofs.YtbamkklhkhglnaaGreatDoor.TxC Go.Proofs.YtbamkklhkhglnaaGreatDoor.Val Go.Proofs.YtbamkklhkhglnaaGreatDoor.Grps Go.Proofs.YtbamkklhkhglnaaGreatDoor.ImplW
open Go.Proofs.YtbamkklhkhglnaaGreatDoor.DwB (row3f put3)
set_option linter.unusedVariables false
set_option linter.unusedSimpArgs false

theorem rdn_form {t : List UInt8} {w : World} {b : Bool} {vO vP vC : Value} {w' : World} (h : RdN t w b vO vP vC w') : ∃ a1 n1 c1 a2 n2 c2 a3 n3 c3, vO = .slice a1 n1 c1 ∧ vP = .slice a2 n2 c2 ∧ vC = .slice a3 n3 c3 := by
  rcases h.1 with ⟨_, p, _, _, hp⟩ | ⟨hb, _⟩
  · obtain ⟨a1, c1, a2, c2, a3, c3, e1, e2, e3⟩ := PP.form hp
    exact ⟨_, _, _, _, _, _, _, _, _, e1, e2, e3⟩
  · obtain ⟨e1, e2, e3⟩ := h.2 hb
    exact ⟨_, _, _, _, _, _, _, _, _, e1, e2, e3⟩
def GrpT (t : List UInt8) : Prop := ∃ p, Vl p ∧ Grp p.val ∧ txt p = t
theorem txt_inj {p q : RP} (hp : Vl p) (hq : Vl q) (h : txt p = txt q) : p = q := by
  have h1 := readI_txt hp.ok.gd
  have h2 := readI_txt hq.ok.gd
  rw [h, h2] at h1
  exact (Option.some.inj h1).symm
set_option maxRecDepth 100000 in
set_option maxHeartbeats 2000000 in
theorem isGT_any (s : ByteArray) (hs : s.size ≤ 100000000) (w : World) (hv : Vars w) :
    Calls Tryz.prog 58 #[.string s] w (ExB (GrpT s.data.toList) w) := by
  have HR := Lib.hid (fun W h => read_any s hs W h)
  go_enter Tryz.func58, Tryz.ntmps58
  go_upto_region 2 with (first | (go_at_call 82; refine (HR.out _ hv).mono ?_; rintro e w1 ⟨vO, vP, vC, b, rfl, hrd, hb1⟩; obtain ⟨a1, n1, c1, a2, n2, c2, a3, n3, c3, rfl, rfl, rfl⟩ := rdn_form hrd) | fail)
  obtain ⟨w2, hw2⟩ : ∃ w2, w1.alloc (.cells #[.slice a1 n1 c1, .slice a2 n2 c2, .slice a3 n3 c3] 91) = w2 := ⟨_, rfl⟩
  obtain ⟨g, hg⟩ : ∃ g, w1.heap.size = g := ⟨_, rfl⟩
  rw [hw2, hg]
  have hB2 : Below w.heap.size w w2 := by rw [← hw2]; exact hb1.alloc hb1.size _
  have hrow : w2.heap[g]? = some (.cells #[.slice a1 n1 c1, .slice a2 n2 c2, .slice a3 n3 c3] 91 (0, 0)) := by rw [← hw2, ← hg]; exact World.alloc_heap_new w1 _
  obtain ⟨⟨d0, d1, d2⟩, -⟩ := row3f hrow
  have hgl := (Array.getElem?_eq_some_iff.1 hrow).1
  cases b with
  | false =>
    have HN := Lib.hid (show ¬ GrpT s.data.toList from fun ⟨p, h1, _, h2⟩ => by
      rcases hrd.1 with ⟨h, _⟩ | ⟨_, h⟩
      · exact absurd h (by simp)
      · exact h ⟨p, h1, h2⟩)
    clear hrd hw2 hg hrow
    go_wp2_with fail
    go_ret
    exact ExB_false HN.out hB2
  | true =>
    obtain ⟨p, hp, ht, hpp⟩ : ∃ p, Vl p ∧ txt p = s.data.toList ∧ PP w.heap.size w1 (.slice a1 n1 c1) (.slice a2 n2 c2) (.slice a3 n3 c3) p := by
      rcases hrd.1 with ⟨_, h⟩ | ⟨h, _⟩
      · exact h
      · exact absurd h (by simp)
    have HI := Lib.hid (show GrpT s.data.toList ↔ Grp p.val from ⟨fun ⟨q, h1, h2, h3⟩ => by rw [txt_inj hp h1 (ht.trans h3.symm)]; exact h2, fun h => ⟨p, hp, h, ht⟩⟩)
    have HV := Lib.hid (show ValP Any w2 (.slice a1 n1 c1) (.slice a2 n2 c2) (.slice a3 n3 c3) p.val from by rw [← hw2]; exact (hpp.val.mono (S' := Any) fun _ _ => trivial).keep ((Keep.refl _ w1).alloc _))
    have HG := Lib.hid (ImplI.group_any w2 _ _ _ _ HV.out)
    clear hrd hw2 hg hrow hpp
    go_wp2_with (go_at_call 83; refine HG.out.mono ?_; rintro e w3 ⟨r, rfl, hr, hb3⟩)
    go_ret
    exact ⟨r, rfl, hr.trans HI.out.symm, hB2.trans (hb3.mono hB2.size)⟩
def PrR (t : List UInt8) (w : World) (e : Ending) (w' : World) : Prop := ∃ vO vP vC b, e = .returned (.agg #[vO, vP, vC]) ∧ RdN t w b vO vP vC w' ∧ Below w.heap.size w w'
set_option maxRecDepth 100000 in
set_option maxHeartbeats 2000000 in
theorem prn_any (o k : Int) (nm tx : ByteArray) (hs : tx.size ≤ 100000000) (w : World) (hv : Vars w) :
    Calls Tryz.prog 81 #[.agg #[.int .i64 o, .int .i64 k, .string nm, .string tx]] w (PrR tx.data.toList w) := by
  have HR := Lib.hid (fun W h => read_any tx hs W h)
  obtain ⟨g0, hg0⟩ : ∃ g0, w.heap.size = g0 := ⟨_, rfl⟩
  obtain ⟨w1, hw1⟩ : ∃ w1, w1 = (w.alloc (.cells #[.int .i64 o, .int .i64 k, .string nm, .string tx] 116)).alloc (.cells #[nilS, nilS, nilS] 91) := ⟨_, rfl⟩
  have HB1 := Lib.hid (show Below w.heap.size w w1 by rw [hw1]; exact ((Below.refl _ _).alloc (Nat.le_refl _) _).alloc (by simp) _)
  have HG0 := Lib.hid hg0
  have HS1 := Lib.hid (show w1.heap.size = g0 + 2 by rw [hw1, ← hg0]; simp)
  have hr0 : w1.heap[g0]? = some (.cells #[.int .i64 o, .int .i64 k, .string nm, .string tx] 116 (0, 0)) := by
    rw [hw1, ← hg0]
    exact (Below.heap_alloc _ _ _ (by simp)).trans (heap_alloc_new w _)
  have hr1 : w1.heap[g0 + 1]? = some (.cells #[nilS, nilS, nilS] 91 (0, 0)) := by
    rw [hw1, ← hg0]
    have h := heap_alloc_new (w.alloc (.cells #[.int .i64 o, .int .i64 k, .string nm, .string tx] 116)) (.cells #[nilS, nilS, nilS] 91)
    simpa using h
  have HV := Lib.hid (hv.below HB1.out)
  obtain ⟨s0, s1, s2, s3, -⟩ := row4f hr0
  go_enter Tryz.func81, Tryz.ntmps81
  go_upto_region 1 with fail
  rw [← hw1]
  clear hw1 hg0
  go_upto_region 2 with (first | (go_at_call 82; refine (HR.out _ HV.out).mono ?_; rintro e w2 ⟨vO, vP, vC, b, rfl, hrd, hb2⟩; obtain ⟨a1, n1, c1, a2, n2, c2, a3, n3, c3, rfl, rfl, rfl⟩ := rdn_form hrd) | fail)
  obtain ⟨w3, hw3⟩ : ∃ w3, w2.alloc (.cells #[.slice a1 n1 c1, .slice a2 n2 c2, .slice a3 n3 c3] 91) = w3 := ⟨_, rfl⟩
  obtain ⟨g, hg⟩ : ∃ g, w2.heap.size = g := ⟨_, rfl⟩
  rw [hw3, hg]
  have HB3 := Lib.hid (show Below w1.heap.size w1 w3 from by rw [← hw3]; exact hb2.alloc hb2.size _)
  have hrow : w3.heap[g]? = some (.cells #[.slice a1 n1 c1, .slice a2 n2 c2, .slice a3 n3 c3] 91 (0, 0)) := by rw [← hw3, ← hg]; exact World.alloc_heap_new w2 _
  have hgg : ¬ g = g0 + 1 := by have h1 := hb2.size; have h2 := HS1.out; omega
  have HRD := Lib.hid (show RdN tx.data.toList w1 b (.slice a1 n1 c1) (.slice a2 n2 c2) (.slice a3 n3 c3) w3 from ⟨by
    rcases hrd.1 with ⟨h, p, h1, h2, h3⟩ | h
    · exact .inl ⟨h, p, h1, h2, by rw [← hw3]; exact h3.keep (S := Any) ((Keep.refl _ w2).alloc _) fun _ _ => trivial⟩
    · exact .inr h, hrd.2⟩)
  obtain ⟨⟨d0, d1, d2⟩, -⟩ := row3f hrow
  have hgl := (Array.getElem?_eq_some_iff.1 hrow).1
  have HR1 := Lib.hid ((HB3.out.block (g0 + 1) (by rw [HS1.out]; omega)).trans hr1)
  obtain ⟨⟨e0, e1, e2⟩, f0, f1, f2⟩ := row3f HR1.out
  have hg1 := (Array.getElem?_eq_some_iff.1 HR1.out).1
  clear hw3 hg hrow hrd hb2 hr0 hr1 s0 s1 s2 s3 HR hv
  go_wp2_with fail
  obtain ⟨⟨z0, z1, z2⟩, -⟩ := row3f (put3 (x := .slice a1 n1 c1) (y := .slice a2 n2 c2) (z := .slice a3 n3 c3) HR1.out)
  have hk : ¬ w1.heap.size ≤ g0 + 1 := by rw [HS1.out]; omega
  have HKP := Lib.hid (show Keep (fun k => w1.heap.size ≤ k) w3 (((w3.setCell ⟨g0 + 1, 0, none⟩ (.slice a1 n1 c1)).setCell ⟨g0 + 1, 1, none⟩ (.slice a2 n2 c2)).setCell ⟨g0 + 1, 2, none⟩ (.slice a3 n3 c3)) from
    (((Keep.refl _ _).setCell (p := ⟨g0 + 1, 0, none⟩) hk _).setCell (p := ⟨g0 + 1, 1, none⟩) hk _).setCell (p := ⟨g0 + 1, 2, none⟩) hk _)
  have hww : w.heap.size ≤ w1.heap.size := HB1.out.size
  refine bodyPost_ret (v := .agg #[.slice a1 n1 c1, .slice a2 n2 c2, .slice a3 n3 c3]) (by simp [results, Tryz.results81, go_sem, z0, z1, z2]) rfl ⟨_, _, _, b, rfl, ⟨?_, HRD.out.2⟩, ?_⟩
  · rcases HRD.out.1 with ⟨h, p, h1, h2, h3⟩ | h
    · exact .inl ⟨h, p, h1, h2, (h3.keep (S := fun k => w1.heap.size ≤ k) HKP.out (fun _ h => h)).mono hww⟩
    · exact .inr h
  · have h3 : Below w.heap.size w w3 := HB1.out.trans (HB3.out.mono HB1.out.size)
    have hgw : w.heap.size ≤ g0 + 1 := by rw [HG0.out]; omega
    exact ((h3.setCell (p := ⟨g0 + 1, 0, none⟩) hgw _).setCell (p := ⟨g0 + 1, 1, none⟩) hgw _).setCell (p := ⟨g0 + 1, 2, none⟩) hgw _
end Go.Proofs.YtbamkklhkhglnaaGreatDoor.LbE

namespace Go.Proofs.YtbamkklhkhglnaaGreatDoor.LbF
open Go.RowKit Go.Lib Go.Proofs.YtbamkklhkhglnaaGreatDoor Go.Proofs.YtbamkklhkhglnaaGreatDoor.Tow Go.Proofs.YtbamkklhkhglnaaGreatDoor.CyA Go.Proofs.YtbamkklhkhglnaaGreatDoor.LbC Go.Proofs.YtbamkklhkhglnaaGreatDoor.LbP Go.Proofs.YtbamkklhkhglnaaGreatDoor.LbD Go.Proofs.YtbamkklhkhglnaaGreatDoor.LbE Go.Proofs.YtbamkklhkhglnaaGreatDoor.TmA Go.Proofs.YtbamkklhkhglnaaGreatDoor.TrA Go.Proofs.YtbamkklhkhglnaaGreatDoor.TrB Go.Proofs.YtbamkklhkhglnaaGreatDoor.TxA Go.Proofs.YtbamkklhkhglnaaGreatDoor.TxB Go.Proofs.YtbamkklhkhglnaaGreatDoor.TxC Go.Proofs.YtbamkklhkhglnaaGreatDoor.Val Go.Proofs.YtbamkklhkhglnaaGreatDoor.Grps Go.Proofs.YtbamkklhkhglnaaGreatDoor.ImplW
open Go.Proofs.YtbamkklhkhglnaaGreatDoor.DwB (row3f put3)
set_option linter.unusedVariables false
set_option linter.unusedSimpArgs false

def rowN (t : List UInt8) : Option Row := tab.find? fun r => r.nm == t
theorem rowN_at {t : List UInt8} {k : Nat} {r : Row} (h : ∀ j q, j < k → tab[j]? = some q → ¬ q.nm = t) (hr : tab[k]? = some r) (he : r.nm = t) : rowN t = some r := by
  unfold rowN
  obtain ⟨hl, rfl⟩ := List.getElem?_eq_some_iff.1 hr
  refine List.find?_eq_some_iff_getElem.2 ⟨by simpa using he, k, hl, rfl, fun j hj => ?_⟩
  have := h j tab[j] hj (List.getElem?_eq_getElem (by omega))
  simpa using this
theorem rowN_none {t : List UInt8} (h : ∀ j q, j < tab.length → tab[j]? = some q → ¬ q.nm = t) : rowN t = none := by
  unfold rowN
  refine List.find?_eq_none.2 fun q hq => ?_
  obtain ⟨j, hj⟩ := List.getElem?_of_mem hq
  have := h j q (List.getElem?_eq_some_iff.1 hj).1 hj
  simpa using this
theorem rowN_mem {t : List UInt8} {r : Row} (h : rowN t = some r) : r ∈ tab ∧ r.nm = t := ⟨List.mem_of_find?_eq_some h, by simpa using List.find?_some h⟩
def GnR (t : List UInt8) (w : World) (e : Ending) (w' : World) : Prop := ∃ vO vP vC, e = .returned (.tuple #[.agg #[vO, vP, vC], .int .i64 (if (rowN t).isSome then 0 else 4)]) ∧ (∃ a1 n1 c1 a2 n2 c2 a3 n3 c3, vO = .slice a1 n1 c1 ∧ vP = .slice a2 n2 c2 ∧ vC = .slice a3 n3 c3) ∧ Below w.heap.size w w' ∧
  ∀ r, rowN t = some r → ∃ b, RdN r.tx w b vO vP vC w'
theorem tx_len (r : Row) (h : r ∈ tab) : r.tx.length ≤ 1000 := by
  have : ∀ r ∈ tab, r.tx.length ≤ 1000 := by decide +kernel
  exact this r h
theorem cell_row {W : World} {B n c : Nat} {a : Option Addr} {e : TypeId} {xs : List Value} {s : Nat} (h : W.ownsRow B e s (.slice a n c) n xs) (hn : 0 < n) : ∃ g, a = some ⟨g, 0, none⟩ ∧ B ≤ g ∧ g < W.heap.size ∧ ∀ j u, xs[j]? = some u → W.cell? ⟨g, j, none⟩ = some u := by
  rcases h.2 with ⟨_, h0⟩ | ⟨g, cap, cur, h0, h1, h2, _, _, _, h3⟩
  · omega
  · obtain ⟨rfl, rfl⟩ : a = some ⟨g, 0, none⟩ ∧ c = cap := by simpa using h0
    refine ⟨g, rfl, h1, (Array.getElem?_eq_some_iff.1 h2).1, fun j u hj => ?_⟩
    rw [← h3, List.getElem?_take] at hj
    split at hj
    · simp only [World.cell?, h2]
      simpa using hj
    · exact absurd hj (by simp)
set_option maxRecDepth 100000 in
set_option maxHeartbeats 4000000 in
theorem gn_any (s : ByteArray) (w : World) (hv : Vars w) :
    Calls Tryz.prog 57 #[.string s] w (GnR s.data.toList w) := by
  have HL := Lib.hid (fun W h => lib_any W h)
  have HP := Lib.hid (fun (r : Row) (hr : r ∈ tab) (k : Int) W h => prn_any r.o k (ba r.nm) (ba r.tx) (by have h1 := tx_len r hr; have e : (ba r.tx).size = r.tx.length := (by simp [ba, ByteArray.size]); omega) W h)
  obtain ⟨g0, hg0⟩ : ∃ g0, w.heap.size = g0 := ⟨_, rfl⟩
  obtain ⟨w1, hw1⟩ : ∃ w1, w1 = w.alloc (.cells #[nilS, nilS, nilS] 91) := ⟨_, rfl⟩
  have HB1 := Lib.hid (show Below w.heap.size w w1 by rw [hw1]; exact (Below.refl _ _).alloc (Nat.le_refl _) _)
  have HS1 := Lib.hid (show w1.heap.size = g0 + 1 by rw [hw1, ← hg0]; simp)
  have HG0 := Lib.hid hg0
  have HV := Lib.hid (hv.below HB1.out)
  have HR := Lib.hid (fun (W : World) (hb : Below w1.heap.size w1 W) => show W.heap[g0]? = some (.cells #[nilS, nilS, nilS] 91 (0, 0)) ∧ g0 < W.heap.size from by
    have e : w1.heap[g0]? = some (.cells #[nilS, nilS, nilS] 91 (0, 0)) := by rw [hw1, ← hg0]; exact heap_alloc_new _ _
    exact ⟨(hb.block g0 (by rw [HS1.out]; omega)).trans e, by have := hb.size; rw [HS1.out] at this; omega⟩)
  go_enter Tryz.func57, Tryz.ntmps57
  go_upto_region 1 with fail
  rw [← hw1]
  clear hw1 hg0 hv
  go_wp2_with (go_at_call 80; refine (HL.out _ HV.out).mono ?_; rintro e w2 ⟨v, ks, rfl, hks, hown, hb2⟩; obtain ⟨av, cv, rfl⟩ := DwB.owns_form hown)
  obtain ⟨g, rfl, hgB, hgl, hcl⟩ := cell_row hown (by rw [tab_len]; omega)
  have HB2 := Lib.hid (show Below w1.heap.size w1 w2 from hb2)
  obtain ⟨N, hN⟩ : ∃ N, tab.length = N := ⟨_, rfl⟩
  have HN := Lib.hid hN
  have HCL := Lib.hid (fun (W : World) (hb : Below w2.heap.size w2 W) (k : Nat) (r : Row) (hr : tab[k]? = some r) => show ∃ kk : Int, g < W.heap.size ∧ W.cell? ⟨g, k * 4, none⟩ = some (.int .i64 r.o) ∧ W.cell? ⟨g, k * 4 + 1, none⟩ = some (.int .i64 kk) ∧ W.cell? ⟨g, k * 4 + 2, none⟩ = some (.string (ba r.nm)) ∧ W.cell? ⟨g, k * 4 + 3, none⟩ = some (.string (ba r.tx)) from by
    obtain ⟨kk, _, hc⟩ := gcs_get tab ks k r hks.symm hr
    have hx : ∀ j u, j < 4 → (cel r kk)[j]? = some u → W.cell? ⟨g, k * 4 + j, none⟩ = some u := fun j u hj hu => by
      rw [hb.cell (p := ⟨g, k * 4 + j, none⟩) hgl]
      refine hcl _ u ?_
      rw [Nat.mul_comm, hc j hj]
      exact hu
    exact ⟨kk, Nat.lt_of_lt_of_le hgl hb.size, hx 0 _ (by omega) rfl, hx 1 _ (by omega) rfl, hx 2 _ (by omega) rfl, hx 3 _ (by omega) rfl⟩)
  rw [hN]
  have hN82 : (N : Int) ≤ 100 := by rw [← hN, tab_len]; decide
  clear hcl hown hb2 hks hN hgB
  go_loopw [8] (fun iv wr => ∃ (k : Nat), k ≤ N ∧ iv = .int .i64 (k : Int) ∧ Hid (∀ j q, j < k → tab[j]? = some q → ¬ q.nm = s.data.toList) ∧ Hid (Below w2.heap.size w2 wr)) (fun iv _ => N - (intOf iv).toNat)
  case atStart => exact ⟨0, Nat.zero_le _, rfl, Lib.hid (fun j q hj => absurd hj (by omega)), Lib.hid (Below.refl _ _)⟩
  case round =>
    obtain ⟨k, hk, rfl, HD, hB⟩ := hrel
    have HB1r := Lib.hid (show Below w1.heap.size w1 wr from HB2.out.trans (hB.out.mono HB2.out.size))
    by_cases hlt : k < N
    · have hki : (k : Int) < (N : Int) := by omega
      obtain ⟨r, hr⟩ : ∃ r, tab[k]? = some r := ⟨_, List.getElem?_eq_getElem (by rw [HN.out]; exact hlt)⟩
      obtain ⟨kk, hgw, q0, q1, q2, q3⟩ := HCL.out wr hB.out k r hr
      obtain ⟨gB, hgB⟩ : ∃ gB, wr.heap.size = gB := ⟨_, rfl⟩
      obtain ⟨w3, hw3⟩ : ∃ w3, wr.alloc (.cells #[.int .i64 r.o, .int .i64 kk, .string (ba r.nm), .string (ba r.tx)] 116) = w3 := ⟨_, rfl⟩
      have hrow : w3.heap[gB]? = some (.cells #[.int .i64 r.o, .int .i64 kk, .string (ba r.nm), .string (ba r.tx)] 116 (0, 0)) := by rw [← hw3, ← hgB]; exact heap_alloc_new wr _
      have HB3 := Lib.hid (show Below wr.heap.size wr w3 from by rw [← hw3]; exact (Below.refl _ _).alloc (Nat.le_refl _) _)
      have HB13 := Lib.hid (show Below w1.heap.size w1 w3 from HB1r.out.trans (HB3.out.mono HB1r.out.size))
      obtain ⟨s0, s1, s2, s3, -⟩ := row4f hrow
      have hgBl := (Array.getElem?_eq_some_iff.1 hrow).1
      go_upto_region 4 with fail
      clear hw3 hgB hrow q0 q1 q2 q3
      by_cases he : r.nm = s.data.toList
      · have heb : ((ba r.nm).toList == s.toList) = true := by rw [toList_data, toList_data]; exact beq_iff_eq.2 he
        have HRW := Lib.hid (rowN_at HD.out hr he)
        have HPR := Lib.hid (HP.out r (List.mem_of_getElem? hr) kk w3 (HV.out.below HB13.out))
        clear he hr
        go_wp2_with (go_at_call 81; refine HPR.out.mono ?_; rintro e w4 ⟨vO, vP, vC, b, rfl, hrd, hb4⟩; obtain ⟨a1, n1, c1, a2, n2, c2, a3, n3, c3, rfl, rfl, rfl⟩ := rdn_form hrd; have HRD := Lib.hid hrd; have HB14 := Lib.hid (HB13.out.trans (hb4.mono HB13.out.size)); clear hrd hb4; obtain ⟨⟨e0, e1, e2⟩, f0, f1, f2⟩ := row3f (HR.out w4 HB14.out).1; have hgr := (HR.out w4 HB14.out).2)
        obtain ⟨⟨z0, z1, z2⟩, -⟩ := row3f (put3 (x := .slice a1 n1 c1) (y := .slice a2 n2 c2) (z := .slice a3 n3 c3) (HR.out w4 HB14.out).1)
        have hk : ¬ w3.heap.size ≤ g0 := by have h1 := HS1.out; have h2 := HB13.out.size; omega
        have hk2 : w.heap.size ≤ w3.heap.size := by have h1 := HB1.out.size; have h2 := HB13.out.size; omega
        exact bodyPost_ret (v := .tuple #[.agg #[.slice a1 n1 c1, .slice a2 n2 c2, .slice a3 n3 c3], .int .i64 0]) (by simp [results, Tryz.results57, go_sem, z0, z1, z2]) rfl
          ⟨_, _, _, by rw [HRW.out]; rfl, ⟨_, _, _, _, _, _, _, _, _, rfl, rfl, rfl⟩, res_below HG0.out.symm (HB1.out.trans (HB14.out.mono (by rw [HS1.out, HG0.out]; omega))) _ _ _, fun q hq => by
            rw [HRW.out] at hq
            obtain rfl := Option.some.inj hq
            refine ⟨b, ?_, HRD.out.2⟩
            rcases HRD.out.1 with ⟨h, p, h1, h2, h3⟩ | h
            · exact .inl ⟨h, p, h1, h2, (h3.keep (S := fun k => w3.heap.size ≤ k) ((((Keep.refl _ _).setCell (p := ⟨g0, 0, none⟩) hk _).setCell (p := ⟨g0, 1, none⟩) hk _).setCell (p := ⟨g0, 2, none⟩) hk _) (fun _ h => h)).mono hk2⟩
            · exact .inr h⟩
      · have heb : ((ba r.nm).toList == s.toList) = false := by rw [toList_data, toList_data]; exact beq_eq_false_iff_ne.2 he
        have HD2 := Lib.hid (show ∀ j q, j < k + 1 → tab[j]? = some q → ¬ q.nm = s.data.toList from fun j q hj hq => by
          by_cases hjk : j = k
          · rw [hjk, hr] at hq
            obtain rfl := Option.some.inj hq
            exact he
          · exact HD.out j q (by omega) hq)
        clear he hr
        go_wp2_with fail
        go_roundw
        case rel => exact ⟨k + 1, by omega, by go_num, HD2, Lib.hid (hB.out.trans (HB3.out.mono hB.out.size))⟩
        case measure => simp [intOf]; omega
    · obtain rfl : N = k := by omega
      have HNO := Lib.hid (rowN_none (t := s.data.toList) (by rw [HN.out]; exact HD.out))
      have hki : ¬ (N : Int) < (N : Int) := by omega
      obtain ⟨⟨e0, e1, e2⟩, f0, f1, f2⟩ := row3f (HR.out wr HB1r.out).1
      have hgr := (HR.out wr HB1r.out).2
      go_wp2_with fail
      obtain ⟨⟨z0, z1, z2⟩, -⟩ := row3f (put3 (x := nilS) (y := nilS) (z := nilS) (HR.out wr HB1r.out).1)
      exact bodyPost_ret (v := .tuple #[.agg #[nilS, nilS, nilS], .int .i64 4]) (by simp [results, Tryz.results57, go_sem, z0, z1, z2]) rfl
        ⟨nilS, nilS, nilS, by rw [HNO.out]; rfl, ⟨_, _, _, _, _, _, _, _, _, rfl, rfl, rfl⟩, res_below HG0.out.symm (HB1.out.trans (HB1r.out.mono (by rw [HS1.out, HG0.out]; omega))) _ _ _, fun r h => by rw [HNO.out] at h; exact absurd h (by simp)⟩
end Go.Proofs.YtbamkklhkhglnaaGreatDoor.LbF

namespace Go.Proofs.YtbamkklhkhglnaaGreatDoor.LbN
open Go.RowKit Go.Lib Go.Proofs.YtbamkklhkhglnaaGreatDoor Go.Proofs.YtbamkklhkhglnaaGreatDoor.Tow Go.Proofs.YtbamkklhkhglnaaGreatDoor.CyA Go.Proofs.YtbamkklhkhglnaaGreatDoor.LbC Go.Proofs.YtbamkklhkhglnaaGreatDoor.LbP Go.Proofs.YtbamkklhkhglnaaGreatDoor.LbD Go.Proofs.YtbamkklhkhglnaaGreatDoor.LbE Go.Proofs.YtbamkklhkhglnaaGreatDoor.LbF Go.Proofs.YtbamkklhkhglnaaGreatDoor.TmA Go.Proofs.YtbamkklhkhglnaaGreatDoor.TrA Go.Proofs.YtbamkklhkhglnaaGreatDoor.TrB Go.Proofs.YtbamkklhkhglnaaGreatDoor.TxA Go.Proofs.YtbamkklhkhglnaaGreatDoor.TxB Go.Proofs.YtbamkklhkhglnaaGreatDoor.TxC Go.Proofs.YtbamkklhkhglnaaGreatDoor.Val Go.Proofs.YtbamkklhkhglnaaGreatDoor.Grps Go.Proofs.YtbamkklhkhglnaaGreatDoor.ImplW
open Go.Proofs.YtbamkklhkhglnaaGreatDoor.DwB (row3f put3)
set_option linter.unusedVariables false
set_option linter.unusedSimpArgs false

def nd0 (k : Int) (t m : List UInt8) : Prop := k = 0 ∧ (rowN t).isSome = true ∧ m = []
def nd1 (k : Int) (t m : List UInt8) : Prop := k = 1 ∧ GrpT t ∧ m = []
def nd2 (k : Int) (t m : List UInt8) : Prop := k = 2 ∧ isLt t = true ∧ m = []
def nd3 (k : Int) (t m : List UInt8) : Prop := k = 3 ∧ t = [] ∧ m = []
def nd4 (k : Int) (t m : List UInt8) : Prop := (k = 4 ∨ k = 5) ∧ t = [] ∧ isMk m = true
open Classical in
noncomputable def opnd (k : Int) (t m : List UInt8) : Int := if nd0 k t m ∨ nd1 k t m ∨ nd2 k t m then 0 else if nd3 k t m then 2 else if nd4 k t m then 1 else -1
def OpR (k : Int) (t m : List UInt8) (w : World) (e : Ending) (w' : World) : Prop := e = .returned (.int .i64 (opnd k t m)) ∧ Below w.heap.size w w'
theorem opnd_lo {k : Int} {t m : List UInt8} (h : nd0 k t m ∨ nd1 k t m ∨ nd2 k t m) : opnd k t m = 0 := if_pos h
theorem opnd_3 {k : Int} {t m : List UInt8} (h : nd3 k t m) : opnd k t m = 2 := by
  unfold opnd
  rw [if_neg, if_pos h]
  rintro (⟨h1, _⟩ | ⟨h1, _⟩ | ⟨h1, _⟩) <;> (have := h.1; omega)
theorem opnd_4 {k : Int} {t m : List UInt8} (h : nd4 k t m) : opnd k t m = 1 := by
  unfold opnd
  rw [if_neg, if_neg, if_pos h]
  · rintro ⟨h1, _⟩
    rcases h.1 with h | h <;> omega
  · rintro (⟨h1, _⟩ | ⟨h1, _⟩ | ⟨h1, _⟩) <;> (rcases h.1 with h | h <;> omega)
theorem opnd_no {k : Int} {t m : List UInt8} (h0 : ¬ nd0 k t m) (h1 : ¬ nd1 k t m) (h2 : ¬ nd2 k t m) (h3 : ¬ nd3 k t m) (h4 : ¬ nd4 k t m) : opnd k t m = -1 := by
  unfold opnd
  rw [if_neg, if_neg h3, if_neg h4]
  rintro (h | h | h)
  · exact h0 h
  · exact h1 h
  · exact h2 h
structure Nd where
  k : Int
  t : ByteArray
  m : ByteArray
noncomputable def Nd.ops (x : Nd) : Int := opnd x.k x.t.data.toList x.m.data.toList
theorem opnd_le (k : Int) (t m : List UInt8) : -1 ≤ opnd k t m ∧ opnd k t m ≤ 2 := by
  unfold opnd
  split
  · omega
  · split
    · omega
    · split <;> omega
def exs : List Int → Int → Bool
  | [], o => o == 0
  | k :: r, o => if o = 0 ∨ k < 0 then false else exs r (o + (k - 1))
noncomputable def isEx (L : List Nd) : Bool := decide (L.length ≤ 30) && exs (L.map Nd.ops) 1
theorem exs_nil : exs [] 1 = false := rfl
theorem isEx_len {L : List Nd} (h : isEx L = true) : 1 ≤ L.length ∧ L.length ≤ 30 := by
  unfold isEx at h
  simp only [Bool.and_eq_true, decide_eq_true_eq] at h
  refine ⟨?_, h.1⟩
  cases L with
  | nil => exact absurd h.2 (by simp [exs])
  | cons x l => simp
structure NdS (W : World) (v : Value) (L : List Nd) : Prop where
  form : ∃ a c, v = .slice a L.length c
  at_ : ∀ i x, L[i]? = some x → ∃ b o c, v = .slice (some ⟨b, o, none⟩) L.length c ∧ b < W.heap.size ∧ W.cell? ⟨b, o + i * 3, none⟩ = some (.int .i64 x.k) ∧ W.cell? ⟨b, o + i * 3 + 1, none⟩ = some (.string x.t) ∧ W.cell? ⟨b, o + i * 3 + 2, none⟩ = some (.string x.m)
theorem NdS.below {W W' : World} {v : Value} {L : List Nd} (h : NdS W v L) (hb : Below W.heap.size W W') : NdS W' v L :=
  ⟨h.form, fun i x hx => by
    obtain ⟨b, o, c, h1, h2, h3, h4, h5⟩ := h.at_ i x hx
    exact ⟨b, o, c, h1, Nat.lt_of_lt_of_le h2 hb.size, (hb.cell (p := ⟨b, _, none⟩) h2).trans h3, (hb.cell (p := ⟨b, _, none⟩) h2).trans h4, (hb.cell (p := ⟨b, _, none⟩) h2).trans h5⟩⟩
def Szs (L : List Nd) : Prop := ∀ x ∈ L, x.t.size ≤ 100000000
theorem exs_bad {L : List Nd} {k : Nat} {x : Nd} {o : Int} (hx : L[k]? = some x) (h : exs (L.map Nd.ops) 1 = exs ((L.drop k).map Nd.ops) o) (hb : o = 0 ∨ x.ops < 0) : exs (L.map Nd.ops) 1 = false := by
  obtain ⟨hl, rfl⟩ := List.getElem?_eq_some_iff.1 hx
  rw [h, List.drop_eq_getElem_cons hl, List.map_cons, exs, if_pos hb]
theorem exs_step {L : List Nd} {k : Nat} {x : Nd} {o : Int} (hx : L[k]? = some x) (h : exs (L.map Nd.ops) 1 = exs ((L.drop k).map Nd.ops) o) (hb : ¬ (o = 0 ∨ x.ops < 0)) : exs (L.map Nd.ops) 1 = exs ((L.drop (k + 1)).map Nd.ops) (o + (x.ops - 1)) := by
  obtain ⟨hl, rfl⟩ := List.getElem?_eq_some_iff.1 hx
  rw [h, List.drop_eq_getElem_cons hl, List.map_cons, exs, if_neg hb]
theorem exs_end {L : List Nd} {o : Int} (h : exs (L.map Nd.ops) 1 = exs ((L.drop L.length).map Nd.ops) o) : exs (L.map Nd.ops) 1 = (o == 0) := by
  rw [h, List.drop_length]
  rfl
def BxR (b : Bool) (w : World) (e : Ending) (w' : World) : Prop := e = .returned (.bool b) ∧ Below w.heap.size w w'
end Go.Proofs.YtbamkklhkhglnaaGreatDoor.LbN


namespace Go.Proofs.YtbamkklhkhglnaaGreatDoor.LbI
open Go.RowKit Go.Lib Go.Proofs.YtbamkklhkhglnaaGreatDoor Go.Proofs.YtbamkklhkhglnaaGreatDoor.Tow Go.Proofs.YtbamkklhkhglnaaGreatDoor.CyA Go.Proofs.YtbamkklhkhglnaaGreatDoor.LbC Go.Proofs.YtbamkklhkhglnaaGreatDoor.LbP Go.Proofs.YtbamkklhkhglnaaGreatDoor.LbD Go.Proofs.YtbamkklhkhglnaaGreatDoor.LbE Go.Proofs.YtbamkklhkhglnaaGreatDoor.LbF Go.Proofs.YtbamkklhkhglnaaGreatDoor.LbN Go.Proofs.YtbamkklhkhglnaaGreatDoor.TmA Go.Proofs.YtbamkklhkhglnaaGreatDoor.TrA Go.Proofs.YtbamkklhkhglnaaGreatDoor.TrB Go.Proofs.YtbamkklhkhglnaaGreatDoor.TxA Go.Proofs.YtbamkklhkhglnaaGreatDoor.TxB Go.Proofs.YtbamkklhkhglnaaGreatDoor.TxC Go.Proofs.YtbamkklhkhglnaaGreatDoor.Val Go.Proofs.YtbamkklhkhglnaaGreatDoor.Grps Go.Proofs.YtbamkklhkhglnaaGreatDoor.ImplW
open Go.Proofs.YtbamkklhkhglnaaGreatDoor.DwB (row3f put3)
set_option linter.unusedVariables false
set_option linter.unusedSimpArgs false

set_option maxRecDepth 100000 in
set_option maxHeartbeats 16000000 in
theorem opi_any (k : Int) (tx mk : ByteArray) (hs : tx.size ≤ 100000000) (w : World) (hv : Vars w) :
    Calls Tryz.prog 47 #[.agg #[.int .i64 k, .string tx, .string mk]] w (OpR k tx.data.toList mk.data.toList w) := by
  have HGN := Lib.hid (fun W h => gn_any tx W h)
  have HGT := Lib.hid (fun W h => isGT_any tx hs W h)
  have HLT := Lib.hid (fun W => ilet_any tx W)
  have HMK := Lib.hid (fun W => imk_any mk W)
  obtain ⟨g0, hg0⟩ : ∃ g0, w.heap.size = g0 := ⟨_, rfl⟩
  obtain ⟨w1, hw1⟩ : ∃ w1, w1 = w.alloc (.cells #[.int .i64 k, .string tx, .string mk] 63) := ⟨_, rfl⟩
  have HB1 := Lib.hid (show Below w.heap.size w w1 by rw [hw1]; exact (Below.refl _ _).alloc (Nat.le_refl _) _)
  have HV := Lib.hid (hv.below HB1.out)
  have HC := Lib.hid (fun (W : World) (hb : Below w1.heap.size w1 W) => show g0 < W.heap.size ∧ W.cell? ⟨g0, 0, none⟩ = some (.int .i64 k) ∧ W.cell? ⟨g0, 1, none⟩ = some (.string tx) ∧ W.cell? ⟨g0, 2, none⟩ = some (.string mk) from by
    have e : w1.heap[g0]? = some (.cells #[.int .i64 k, .string tx, .string mk] 63 (0, 0)) := by rw [hw1, ← hg0]; exact heap_alloc_new _ _
    have hl := (Array.getElem?_eq_some_iff.1 e).1
    exact ⟨Nat.lt_of_lt_of_le hl hb.size, (row3f ((hb.block g0 hl).trans e)).1⟩)
  have HM0 := Lib.hid (show (mk.toList == []) = decide (mk.data.toList = []) from by rw [toList_data, Bool.eq_iff_iff]; simp)
  have HT0 := Lib.hid (show (tx.toList == []) = decide (tx.data.toList = []) from by rw [toList_data, Bool.eq_iff_iff]; simp)
  generalize tx.data.toList = t at *
  generalize mk.data.toList = mm at *
  obtain ⟨hgl, q0, q1, q2⟩ := HC.out w1 (Below.refl _ _)
  go_enter Tryz.func47, Tryz.ntmps47
  go_upto_region 1 with fail
  rw [← hw1]
  clear hw1 hg0 hv
  by_cases e0 : k = 0
  · subst e0
    by_cases h1 : (rowN t).isSome = true
    · have HX := Lib.hid h1
      clear h1
      by_cases h2 : mm = []
      · have HX2 := Lib.hid h2
        have mb : (mk.toList == []) = true := by rw [HM0.out]; simpa using h2
        clear h2
        have HO := Lib.hid (show opnd 0 t mm = 0 from opnd_lo (.inl ⟨rfl, HX.out, HX2.out⟩))
        go_wp2_with (first | (go_at_call 57; refine (HGN.out _ HV.out).mono ?_; rintro e w2 ⟨vO, vP, vC, rfl, ⟨a1, n1, c1, a2, n2, c2, a3, n3, c3, rfl, rfl, rfl⟩, hb2, -⟩; rw [if_pos HX.out]; have HB3 := Lib.hid (hb2.alloc hb2.size (.cells #[.slice a1 n1 c1, .slice a2 n2 c2, .slice a3 n3 c3] 91)); clear hb2; obtain ⟨hgl, q0, q1, q2⟩ := HC.out _ HB3.out))
        go_ret
        exact ⟨by rw [HO.out] <;> rfl, HB1.out.trans (HB3.out.mono HB1.out.size)⟩
      · have HX2 := Lib.hid h2
        have mb : (mk.toList == []) = false := by rw [HM0.out]; simpa using h2
        clear h2
        have HO := Lib.hid (show opnd 0 t mm = -1 from opnd_no (fun h => HX2.out h.2.2) (fun h => by have := h.1; omega) (fun h => by have := h.1; omega) (fun h => by have := h.1; omega) (fun h => by have := h.1; omega))
        go_wp2_with (first | (go_at_call 57; refine (HGN.out _ HV.out).mono ?_; rintro e w2 ⟨vO, vP, vC, rfl, ⟨a1, n1, c1, a2, n2, c2, a3, n3, c3, rfl, rfl, rfl⟩, hb2, -⟩; rw [if_pos HX.out]; have HB3 := Lib.hid (hb2.alloc hb2.size (.cells #[.slice a1 n1 c1, .slice a2 n2 c2, .slice a3 n3 c3] 91)); clear hb2; obtain ⟨hgl, q0, q1, q2⟩ := HC.out _ HB3.out))
        go_ret
        exact ⟨by rw [HO.out] <;> rfl, HB1.out.trans (HB3.out.mono HB1.out.size)⟩
    · have HX := Lib.hid h1
      clear h1
      have HO := Lib.hid (show opnd 0 t mm = -1 from opnd_no (fun h => HX.out h.2.1) (fun h => by have := h.1; omega) (fun h => by have := h.1; omega) (fun h => by have := h.1; omega) (fun h => by have := h.1; omega))
      go_wp2_with (first | (go_at_call 57; refine (HGN.out _ HV.out).mono ?_; rintro e w2 ⟨vO, vP, vC, rfl, ⟨a1, n1, c1, a2, n2, c2, a3, n3, c3, rfl, rfl, rfl⟩, hb2, -⟩; rw [if_neg HX.out]; have HB3 := Lib.hid (hb2.alloc hb2.size (.cells #[.slice a1 n1 c1, .slice a2 n2 c2, .slice a3 n3 c3] 91)); clear hb2; obtain ⟨hgl, q0, q1, q2⟩ := HC.out _ HB3.out))
      go_ret
      exact ⟨by rw [HO.out] <;> rfl, HB1.out.trans (HB3.out.mono HB1.out.size)⟩
  by_cases e1 : k = 1
  · subst e1
    by_cases h1 : GrpT t
    · have HX := Lib.hid h1
      clear h1
      by_cases h2 : mm = []
      · have HX2 := Lib.hid h2
        have mb : (mk.toList == []) = true := by rw [HM0.out]; simpa using h2
        clear h2
        have HO := Lib.hid (show opnd 1 t mm = 0 from opnd_lo (.inr (.inl ⟨rfl, HX.out, HX2.out⟩)))
        go_wp2_with (first | (go_at_call 57; refine (HGN.out _ HV.out).mono ?_; rintro e w2 ⟨vO, vP, vC, rfl, ⟨a1, n1, c1, a2, n2, c2, a3, n3, c3, rfl, rfl, rfl⟩, hb2, -⟩; obtain ⟨cd, hcd⟩ : ∃ cd : Int, (if (rowN t).isSome = true then 0 else 4) = cd := ⟨_, rfl⟩; rw [hcd]; clear hcd; have HB3 := Lib.hid (hb2.alloc hb2.size (.cells #[.slice a1 n1 c1, .slice a2 n2 c2, .slice a3 n3 c3] 91)); clear hb2; obtain ⟨hgl, q0, q1, q2⟩ := HC.out _ HB3.out) | (go_at_call 58; refine (HGT.out _ (HV.out.below HB3.out)).mono ?_; rintro e wN ⟨r, rfl, hr, hbN⟩; obtain rfl : r = true := hr.2 HX.out; clear hr; have HBN := Lib.hid hbN; clear hbN; obtain ⟨hgl, q0, q1, q2⟩ := HC.out wN (HB3.out.trans (HBN.out.mono HB3.out.size))))
        go_ret
        exact ⟨by rw [HO.out] <;> rfl, HB1.out.trans ((HB3.out.trans (HBN.out.mono HB3.out.size)).mono HB1.out.size)⟩
      · have HX2 := Lib.hid h2
        have mb : (mk.toList == []) = false := by rw [HM0.out]; simpa using h2
        clear h2
        have HO := Lib.hid (show opnd 1 t mm = -1 from opnd_no (fun h => by have := h.1; omega) (fun h => HX2.out h.2.2) (fun h => by have := h.1; omega) (fun h => by have := h.1; omega) (fun h => by have := h.1; omega))
        go_wp2_with (first | (go_at_call 57; refine (HGN.out _ HV.out).mono ?_; rintro e w2 ⟨vO, vP, vC, rfl, ⟨a1, n1, c1, a2, n2, c2, a3, n3, c3, rfl, rfl, rfl⟩, hb2, -⟩; obtain ⟨cd, hcd⟩ : ∃ cd : Int, (if (rowN t).isSome = true then 0 else 4) = cd := ⟨_, rfl⟩; rw [hcd]; clear hcd; have HB3 := Lib.hid (hb2.alloc hb2.size (.cells #[.slice a1 n1 c1, .slice a2 n2 c2, .slice a3 n3 c3] 91)); clear hb2; obtain ⟨hgl, q0, q1, q2⟩ := HC.out _ HB3.out) | (go_at_call 58; refine (HGT.out _ (HV.out.below HB3.out)).mono ?_; rintro e wN ⟨r, rfl, hr, hbN⟩; obtain rfl : r = true := hr.2 HX.out; clear hr; have HBN := Lib.hid hbN; clear hbN; obtain ⟨hgl, q0, q1, q2⟩ := HC.out wN (HB3.out.trans (HBN.out.mono HB3.out.size))))
        go_ret
        exact ⟨by rw [HO.out] <;> rfl, HB1.out.trans ((HB3.out.trans (HBN.out.mono HB3.out.size)).mono HB1.out.size)⟩
    · have HX := Lib.hid h1
      clear h1
      have HO := Lib.hid (show opnd 1 t mm = -1 from opnd_no (fun h => by have := h.1; omega) (fun h => HX.out h.2.1) (fun h => by have := h.1; omega) (fun h => by have := h.1; omega) (fun h => by have := h.1; omega))
      go_wp2_with (first | (go_at_call 57; refine (HGN.out _ HV.out).mono ?_; rintro e w2 ⟨vO, vP, vC, rfl, ⟨a1, n1, c1, a2, n2, c2, a3, n3, c3, rfl, rfl, rfl⟩, hb2, -⟩; obtain ⟨cd, hcd⟩ : ∃ cd : Int, (if (rowN t).isSome = true then 0 else 4) = cd := ⟨_, rfl⟩; rw [hcd]; clear hcd; have HB3 := Lib.hid (hb2.alloc hb2.size (.cells #[.slice a1 n1 c1, .slice a2 n2 c2, .slice a3 n3 c3] 91)); clear hb2; obtain ⟨hgl, q0, q1, q2⟩ := HC.out _ HB3.out) | (go_at_call 58; refine (HGT.out _ (HV.out.below HB3.out)).mono ?_; rintro e wN ⟨r, rfl, hr, hbN⟩; obtain rfl : r = false := (by cases r with | false => rfl | true => exact absurd (hr.1 rfl) HX.out); clear hr; have HBN := Lib.hid hbN; clear hbN; obtain ⟨hgl, q0, q1, q2⟩ := HC.out wN (HB3.out.trans (HBN.out.mono HB3.out.size))))
      go_ret
      exact ⟨by rw [HO.out] <;> rfl, HB1.out.trans ((HB3.out.trans (HBN.out.mono HB3.out.size)).mono HB1.out.size)⟩
  by_cases e2 : k = 2
  · subst e2
    by_cases h1 : isLt t = true
    · have HX := Lib.hid h1
      clear h1
      by_cases h2 : mm = []
      · have HX2 := Lib.hid h2
        have mb : (mk.toList == []) = true := by rw [HM0.out]; simpa using h2
        clear h2
        have HO := Lib.hid (show opnd 2 t mm = 0 from opnd_lo (.inr (.inr ⟨rfl, HX.out, HX2.out⟩)))
        go_wp2_with (first | (go_at_call 57; refine (HGN.out _ HV.out).mono ?_; rintro e w2 ⟨vO, vP, vC, rfl, ⟨a1, n1, c1, a2, n2, c2, a3, n3, c3, rfl, rfl, rfl⟩, hb2, -⟩; obtain ⟨cd, hcd⟩ : ∃ cd : Int, (if (rowN t).isSome = true then 0 else 4) = cd := ⟨_, rfl⟩; rw [hcd]; clear hcd; have HB3 := Lib.hid (hb2.alloc hb2.size (.cells #[.slice a1 n1 c1, .slice a2 n2 c2, .slice a3 n3 c3] 91)); clear hb2; obtain ⟨hgl, q0, q1, q2⟩ := HC.out _ HB3.out) | (go_at_call 59; refine (HLT.out _).mono ?_; rintro e wN ⟨rfl, hwN⟩; rw [HX.out]; subst hwN))
        go_ret
        exact ⟨by rw [HO.out] <;> rfl, HB1.out.trans (HB3.out.mono HB1.out.size)⟩
      · have HX2 := Lib.hid h2
        have mb : (mk.toList == []) = false := by rw [HM0.out]; simpa using h2
        clear h2
        have HO := Lib.hid (show opnd 2 t mm = -1 from opnd_no (fun h => by have := h.1; omega) (fun h => by have := h.1; omega) (fun h => HX2.out h.2.2) (fun h => by have := h.1; omega) (fun h => by have := h.1; omega))
        go_wp2_with (first | (go_at_call 57; refine (HGN.out _ HV.out).mono ?_; rintro e w2 ⟨vO, vP, vC, rfl, ⟨a1, n1, c1, a2, n2, c2, a3, n3, c3, rfl, rfl, rfl⟩, hb2, -⟩; obtain ⟨cd, hcd⟩ : ∃ cd : Int, (if (rowN t).isSome = true then 0 else 4) = cd := ⟨_, rfl⟩; rw [hcd]; clear hcd; have HB3 := Lib.hid (hb2.alloc hb2.size (.cells #[.slice a1 n1 c1, .slice a2 n2 c2, .slice a3 n3 c3] 91)); clear hb2; obtain ⟨hgl, q0, q1, q2⟩ := HC.out _ HB3.out) | (go_at_call 59; refine (HLT.out _).mono ?_; rintro e wN ⟨rfl, hwN⟩; rw [HX.out]; subst hwN))
        go_ret
        exact ⟨by rw [HO.out] <;> rfl, HB1.out.trans (HB3.out.mono HB1.out.size)⟩
    · have HX := Lib.hid h1
      clear h1
      have HO := Lib.hid (show opnd 2 t mm = -1 from opnd_no (fun h => by have := h.1; omega) (fun h => by have := h.1; omega) (fun h => HX.out h.2.1) (fun h => by have := h.1; omega) (fun h => by have := h.1; omega))
      go_wp2_with (first | (go_at_call 57; refine (HGN.out _ HV.out).mono ?_; rintro e w2 ⟨vO, vP, vC, rfl, ⟨a1, n1, c1, a2, n2, c2, a3, n3, c3, rfl, rfl, rfl⟩, hb2, -⟩; obtain ⟨cd, hcd⟩ : ∃ cd : Int, (if (rowN t).isSome = true then 0 else 4) = cd := ⟨_, rfl⟩; rw [hcd]; clear hcd; have HB3 := Lib.hid (hb2.alloc hb2.size (.cells #[.slice a1 n1 c1, .slice a2 n2 c2, .slice a3 n3 c3] 91)); clear hb2; obtain ⟨hgl, q0, q1, q2⟩ := HC.out _ HB3.out) | (go_at_call 59; refine (HLT.out _).mono ?_; rintro e wN ⟨rfl, hwN⟩; rw [Bool.eq_false_iff.2 HX.out]; subst hwN))
      go_ret
      exact ⟨by rw [HO.out] <;> rfl, HB1.out.trans (HB3.out.mono HB1.out.size)⟩
  by_cases e3 : k = 3
  · subst e3
    by_cases h1 : t = []
    · have HX := Lib.hid h1
      have tb : (tx.toList == []) = true := by rw [HT0.out]; simpa using h1
      clear h1
      by_cases h2 : mm = []
      · have HX2 := Lib.hid h2
        have mb : (mk.toList == []) = true := by rw [HM0.out]; simpa using h2
        clear h2
        have HO := Lib.hid (show opnd 3 t mm = 2 from opnd_3 ⟨rfl, HX.out, HX2.out⟩)
        go_wp2_with (first | (go_at_call 57; refine (HGN.out _ HV.out).mono ?_; rintro e w2 ⟨vO, vP, vC, rfl, ⟨a1, n1, c1, a2, n2, c2, a3, n3, c3, rfl, rfl, rfl⟩, hb2, -⟩; obtain ⟨cd, hcd⟩ : ∃ cd : Int, (if (rowN t).isSome = true then 0 else 4) = cd := ⟨_, rfl⟩; rw [hcd]; clear hcd; have HB3 := Lib.hid (hb2.alloc hb2.size (.cells #[.slice a1 n1 c1, .slice a2 n2 c2, .slice a3 n3 c3] 91)); clear hb2; obtain ⟨hgl, q0, q1, q2⟩ := HC.out _ HB3.out))
        go_ret
        exact ⟨by rw [HO.out] <;> rfl, HB1.out.trans (HB3.out.mono HB1.out.size)⟩
      · have HX2 := Lib.hid h2
        have mb : (mk.toList == []) = false := by rw [HM0.out]; simpa using h2
        clear h2
        have HO := Lib.hid (show opnd 3 t mm = -1 from opnd_no (fun h => by have := h.1; omega) (fun h => by have := h.1; omega) (fun h => by have := h.1; omega) (fun h => HX2.out h.2.2) (fun h => by have := h.1; omega))
        go_wp2_with (first | (go_at_call 57; refine (HGN.out _ HV.out).mono ?_; rintro e w2 ⟨vO, vP, vC, rfl, ⟨a1, n1, c1, a2, n2, c2, a3, n3, c3, rfl, rfl, rfl⟩, hb2, -⟩; obtain ⟨cd, hcd⟩ : ∃ cd : Int, (if (rowN t).isSome = true then 0 else 4) = cd := ⟨_, rfl⟩; rw [hcd]; clear hcd; have HB3 := Lib.hid (hb2.alloc hb2.size (.cells #[.slice a1 n1 c1, .slice a2 n2 c2, .slice a3 n3 c3] 91)); clear hb2; obtain ⟨hgl, q0, q1, q2⟩ := HC.out _ HB3.out))
        go_ret
        exact ⟨by rw [HO.out] <;> rfl, HB1.out.trans (HB3.out.mono HB1.out.size)⟩
    · have HX := Lib.hid h1
      have tb : (tx.toList == []) = false := by rw [HT0.out]; simpa using h1
      clear h1
      have HO := Lib.hid (show opnd 3 t mm = -1 from opnd_no (fun h => by have := h.1; omega) (fun h => by have := h.1; omega) (fun h => by have := h.1; omega) (fun h => HX.out h.2.1) (fun h => by have := h.1; omega))
      go_wp2_with (first | (go_at_call 57; refine (HGN.out _ HV.out).mono ?_; rintro e w2 ⟨vO, vP, vC, rfl, ⟨a1, n1, c1, a2, n2, c2, a3, n3, c3, rfl, rfl, rfl⟩, hb2, -⟩; obtain ⟨cd, hcd⟩ : ∃ cd : Int, (if (rowN t).isSome = true then 0 else 4) = cd := ⟨_, rfl⟩; rw [hcd]; clear hcd; have HB3 := Lib.hid (hb2.alloc hb2.size (.cells #[.slice a1 n1 c1, .slice a2 n2 c2, .slice a3 n3 c3] 91)); clear hb2; obtain ⟨hgl, q0, q1, q2⟩ := HC.out _ HB3.out))
      go_ret
      exact ⟨by rw [HO.out] <;> rfl, HB1.out.trans (HB3.out.mono HB1.out.size)⟩
  by_cases e4 : k = 4
  · subst e4
    by_cases h1 : t = []
    · have HX := Lib.hid h1
      have tb : (tx.toList == []) = true := by rw [HT0.out]; simpa using h1
      clear h1
      by_cases h2 : isMk mm = true
      · have HX2 := Lib.hid h2
        clear h2
        have HO := Lib.hid (show opnd 4 t mm = 1 from opnd_4 ⟨by omega, HX.out, HX2.out⟩)
        go_wp2_with (first | (go_at_call 57; refine (HGN.out _ HV.out).mono ?_; rintro e w2 ⟨vO, vP, vC, rfl, ⟨a1, n1, c1, a2, n2, c2, a3, n3, c3, rfl, rfl, rfl⟩, hb2, -⟩; obtain ⟨cd, hcd⟩ : ∃ cd : Int, (if (rowN t).isSome = true then 0 else 4) = cd := ⟨_, rfl⟩; rw [hcd]; clear hcd; have HB3 := Lib.hid (hb2.alloc hb2.size (.cells #[.slice a1 n1 c1, .slice a2 n2 c2, .slice a3 n3 c3] 91)); clear hb2; obtain ⟨hgl, q0, q1, q2⟩ := HC.out _ HB3.out) | (go_at_call 60; refine (HMK.out _).mono ?_; rintro e wN ⟨rfl, hwN⟩; rw [HX2.out]; subst hwN))
        go_ret
        exact ⟨by rw [HO.out] <;> rfl, HB1.out.trans (HB3.out.mono HB1.out.size)⟩
      · have HX2 := Lib.hid h2
        clear h2
        have HO := Lib.hid (show opnd 4 t mm = -1 from opnd_no (fun h => by have := h.1; omega) (fun h => by have := h.1; omega) (fun h => by have := h.1; omega) (fun h => by have := h.1; omega) (fun h => HX2.out h.2.2))
        go_wp2_with (first | (go_at_call 57; refine (HGN.out _ HV.out).mono ?_; rintro e w2 ⟨vO, vP, vC, rfl, ⟨a1, n1, c1, a2, n2, c2, a3, n3, c3, rfl, rfl, rfl⟩, hb2, -⟩; obtain ⟨cd, hcd⟩ : ∃ cd : Int, (if (rowN t).isSome = true then 0 else 4) = cd := ⟨_, rfl⟩; rw [hcd]; clear hcd; have HB3 := Lib.hid (hb2.alloc hb2.size (.cells #[.slice a1 n1 c1, .slice a2 n2 c2, .slice a3 n3 c3] 91)); clear hb2; obtain ⟨hgl, q0, q1, q2⟩ := HC.out _ HB3.out) | (go_at_call 60; refine (HMK.out _).mono ?_; rintro e wN ⟨rfl, hwN⟩; rw [Bool.eq_false_iff.2 HX2.out]; subst hwN))
        go_ret
        exact ⟨by rw [HO.out] <;> rfl, HB1.out.trans (HB3.out.mono HB1.out.size)⟩
    · have HX := Lib.hid h1
      have tb : (tx.toList == []) = false := by rw [HT0.out]; simpa using h1
      clear h1
      have HO := Lib.hid (show opnd 4 t mm = -1 from opnd_no (fun h => by have := h.1; omega) (fun h => by have := h.1; omega) (fun h => by have := h.1; omega) (fun h => by have := h.1; omega) (fun h => HX.out h.2.1))
      go_wp2_with (first | (go_at_call 57; refine (HGN.out _ HV.out).mono ?_; rintro e w2 ⟨vO, vP, vC, rfl, ⟨a1, n1, c1, a2, n2, c2, a3, n3, c3, rfl, rfl, rfl⟩, hb2, -⟩; obtain ⟨cd, hcd⟩ : ∃ cd : Int, (if (rowN t).isSome = true then 0 else 4) = cd := ⟨_, rfl⟩; rw [hcd]; clear hcd; have HB3 := Lib.hid (hb2.alloc hb2.size (.cells #[.slice a1 n1 c1, .slice a2 n2 c2, .slice a3 n3 c3] 91)); clear hb2; obtain ⟨hgl, q0, q1, q2⟩ := HC.out _ HB3.out))
      go_ret
      exact ⟨by rw [HO.out] <;> rfl, HB1.out.trans (HB3.out.mono HB1.out.size)⟩
  by_cases e5 : k = 5
  · subst e5
    by_cases h1 : t = []
    · have HX := Lib.hid h1
      have tb : (tx.toList == []) = true := by rw [HT0.out]; simpa using h1
      clear h1
      by_cases h2 : isMk mm = true
      · have HX2 := Lib.hid h2
        clear h2
        have HO := Lib.hid (show opnd 5 t mm = 1 from opnd_4 ⟨by omega, HX.out, HX2.out⟩)
        go_wp2_with (first | (go_at_call 57; refine (HGN.out _ HV.out).mono ?_; rintro e w2 ⟨vO, vP, vC, rfl, ⟨a1, n1, c1, a2, n2, c2, a3, n3, c3, rfl, rfl, rfl⟩, hb2, -⟩; obtain ⟨cd, hcd⟩ : ∃ cd : Int, (if (rowN t).isSome = true then 0 else 4) = cd := ⟨_, rfl⟩; rw [hcd]; clear hcd; have HB3 := Lib.hid (hb2.alloc hb2.size (.cells #[.slice a1 n1 c1, .slice a2 n2 c2, .slice a3 n3 c3] 91)); clear hb2; obtain ⟨hgl, q0, q1, q2⟩ := HC.out _ HB3.out) | (go_at_call 60; refine (HMK.out _).mono ?_; rintro e wN ⟨rfl, hwN⟩; rw [HX2.out]; subst hwN))
        go_ret
        exact ⟨by rw [HO.out] <;> rfl, HB1.out.trans (HB3.out.mono HB1.out.size)⟩
      · have HX2 := Lib.hid h2
        clear h2
        have HO := Lib.hid (show opnd 5 t mm = -1 from opnd_no (fun h => by have := h.1; omega) (fun h => by have := h.1; omega) (fun h => by have := h.1; omega) (fun h => by have := h.1; omega) (fun h => HX2.out h.2.2))
        go_wp2_with (first | (go_at_call 57; refine (HGN.out _ HV.out).mono ?_; rintro e w2 ⟨vO, vP, vC, rfl, ⟨a1, n1, c1, a2, n2, c2, a3, n3, c3, rfl, rfl, rfl⟩, hb2, -⟩; obtain ⟨cd, hcd⟩ : ∃ cd : Int, (if (rowN t).isSome = true then 0 else 4) = cd := ⟨_, rfl⟩; rw [hcd]; clear hcd; have HB3 := Lib.hid (hb2.alloc hb2.size (.cells #[.slice a1 n1 c1, .slice a2 n2 c2, .slice a3 n3 c3] 91)); clear hb2; obtain ⟨hgl, q0, q1, q2⟩ := HC.out _ HB3.out) | (go_at_call 60; refine (HMK.out _).mono ?_; rintro e wN ⟨rfl, hwN⟩; rw [Bool.eq_false_iff.2 HX2.out]; subst hwN))
        go_ret
        exact ⟨by rw [HO.out] <;> rfl, HB1.out.trans (HB3.out.mono HB1.out.size)⟩
    · have HX := Lib.hid h1
      have tb : (tx.toList == []) = false := by rw [HT0.out]; simpa using h1
      clear h1
      have HO := Lib.hid (show opnd 5 t mm = -1 from opnd_no (fun h => by have := h.1; omega) (fun h => by have := h.1; omega) (fun h => by have := h.1; omega) (fun h => by have := h.1; omega) (fun h => HX.out h.2.1))
      go_wp2_with (first | (go_at_call 57; refine (HGN.out _ HV.out).mono ?_; rintro e w2 ⟨vO, vP, vC, rfl, ⟨a1, n1, c1, a2, n2, c2, a3, n3, c3, rfl, rfl, rfl⟩, hb2, -⟩; obtain ⟨cd, hcd⟩ : ∃ cd : Int, (if (rowN t).isSome = true then 0 else 4) = cd := ⟨_, rfl⟩; rw [hcd]; clear hcd; have HB3 := Lib.hid (hb2.alloc hb2.size (.cells #[.slice a1 n1 c1, .slice a2 n2 c2, .slice a3 n3 c3] 91)); clear hb2; obtain ⟨hgl, q0, q1, q2⟩ := HC.out _ HB3.out))
      go_ret
      exact ⟨by rw [HO.out] <;> rfl, HB1.out.trans (HB3.out.mono HB1.out.size)⟩
  have b0 : (k == 0) = false := beq_eq_false_iff_ne.2 e0
  have b1 : (k == 1) = false := beq_eq_false_iff_ne.2 e1
  have b2 : (k == 2) = false := beq_eq_false_iff_ne.2 e2
  have b3 : (k == 3) = false := beq_eq_false_iff_ne.2 e3
  have b4 : (k == 4) = false := beq_eq_false_iff_ne.2 e4
  have b5 : (k == 5) = false := beq_eq_false_iff_ne.2 e5
  have HO := Lib.hid (show opnd k t mm = -1 from opnd_no (fun h => e0 h.1) (fun h => e1 h.1) (fun h => e2 h.1) (fun h => e3 h.1) (fun h => h.1.elim e4 e5))
  clear e0 e1 e2 e3 e4 e5
  go_wp2_with (first | (go_at_call 57; refine (HGN.out _ HV.out).mono ?_; rintro e w2 ⟨vO, vP, vC, rfl, ⟨a1, n1, c1, a2, n2, c2, a3, n3, c3, rfl, rfl, rfl⟩, hb2, -⟩; obtain ⟨cd, hcd⟩ : ∃ cd : Int, (if (rowN t).isSome = true then 0 else 4) = cd := ⟨_, rfl⟩; rw [hcd]; clear hcd; have HB3 := Lib.hid (hb2.alloc hb2.size (.cells #[.slice a1 n1 c1, .slice a2 n2 c2, .slice a3 n3 c3] 91)); clear hb2; obtain ⟨hgl, q0, q1, q2⟩ := HC.out _ HB3.out))
  go_ret
  exact ⟨by rw [HO.out] <;> rfl, HB1.out.trans (HB3.out.mono HB1.out.size)⟩
end Go.Proofs.YtbamkklhkhglnaaGreatDoor.LbI
namespace Go.Proofs.YtbamkklhkhglnaaGreatDoor.LbT
open Go.RowKit Go.Lib Go.Proofs.YtbamkklhkhglnaaGreatDoor Go.Proofs.YtbamkklhkhglnaaGreatDoor.Tow Go.Proofs.YtbamkklhkhglnaaGreatDoor.LbC Go.Proofs.YtbamkklhkhglnaaGreatDoor.LbP
set_option linter.unusedVariables false
set_option linter.unusedSimpArgs false

def sel (r : Row) : List Value := [.int .i64 r.o, .string (ba r.nm), .string (ba r.tx)]
def tcs : List Value := tab.flatMap sel
def TbR (w : World) (e : Ending) (w' : World) : Prop := e = .returned (.slice (some ⟨w.heap.size, 0, none⟩) 82 82) ∧ w' = w.alloc (.cells tcs.toArray 124)
set_option maxRecDepth 100000 in
set_option maxHeartbeats 4000000 in
theorem table_any (w : World) : Calls Tryz.prog 84 #[] w (TbR w) := by
  go_enter Tryz.func84, Tryz.ntmps84
  go_wp2
  unfold Oper.wp
  refine Eq.mpr (congrArg (Oper.upon _ _ _ _ _) (show _ = Result.ok (Next.value (.slice (some ⟨w.heap.size, 0, none⟩) 82 82)) (w.alloc (.cells tcs.toArray 124)) from by kernel_rfl)) ?_
  go_wp2
  go_ret
  exact ⟨rfl, rfl⟩
end Go.Proofs.YtbamkklhkhglnaaGreatDoor.LbT

namespace Go.Proofs.YtbamkklhkhglnaaGreatDoor.LbG
open Go.RowKit Go.Lib Go.Proofs.YtbamkklhkhglnaaGreatDoor Go.Proofs.YtbamkklhkhglnaaGreatDoor.Tow Go.Proofs.YtbamkklhkhglnaaGreatDoor.LbC Go.Proofs.YtbamkklhkhglnaaGreatDoor.LbP Go.Proofs.YtbamkklhkhglnaaGreatDoor.LbF Go.Proofs.YtbamkklhkhglnaaGreatDoor.LbT
set_option linter.unusedVariables false
set_option linter.unusedSimpArgs false

theorem tcs_get {k : Nat} {r : Row} (h : tab[k]? = some r) : ∀ j < 3, tcs[k * 3 + j]? = (sel r)[j]? := by
  unfold tcs
  generalize tab = l at h
  induction l generalizing k with
  | nil => simp at h
  | cons a l ih =>
    intro j hj
    rw [List.flatMap_cons]
    have hs : (sel a).length = 3 := rfl
    cases k with
    | zero =>
      obtain rfl : a = r := by simpa using h
      rw [List.getElem?_append_left (by omega)]
      simp
    | succ k =>
      rw [List.getElem?_append_right (by omega), ← ih (by simpa using h) j hj, hs]
      congr 1
      omega
def PlR (t : List UInt8) (w : World) (e : Ending) (w' : World) : Prop := ∃ n k : Int, e = .returned (.tuple #[.int .i64 n, .int .i64 k, .int .i64 (if (rowN t).isSome then 0 else 4)]) ∧ Below w.heap.size w w'
set_option maxRecDepth 100000 in
set_option maxHeartbeats 4000000 in
theorem pl_any (s : ByteArray) (w : World) :
    Calls Tryz.prog 61 #[.string s] w (PlR s.data.toList w) := by
  obtain ⟨g, hg⟩ : ∃ g, w.heap.size = g := ⟨_, rfl⟩
  obtain ⟨w1, hw1⟩ : ∃ w1, w1 = w.alloc (.cells tcs.toArray 124) := ⟨_, rfl⟩
  have HT := Lib.hid (show Calls Tryz.prog 84 #[] w fun e w' => e = .returned (.slice (some ⟨g, 0, none⟩) 82 82) ∧ w' = w1 from by rw [hw1, ← hg]; exact table_any w)
  have HB1 := Lib.hid (show Below w.heap.size w w1 by rw [hw1]; exact (Below.refl _ _).alloc (Nat.le_refl _) _)
  have hgl : g < w1.heap.size := by rw [hw1, ← hg]; simp
  have HCL := Lib.hid (fun (W : World) (hb : Below w1.heap.size w1 W) (k : Nat) (r : Row) (hr : tab[k]? = some r) => show g < W.heap.size ∧ W.cell? ⟨g, k * 3, none⟩ = some (.int .i64 r.o) ∧ W.cell? ⟨g, k * 3 + 1, none⟩ = some (.string (ba r.nm)) from by
    have hx : ∀ j u, j < 3 → (sel r)[j]? = some u → W.cell? ⟨g, k * 3 + j, none⟩ = some u := fun j u hj hu => by
      rw [hb.cell (p := ⟨g, k * 3 + j, none⟩) hgl]
      have h1 := tcs_get hr j hj
      rw [hu] at h1
      have h2 : w1.heap[g]? = some (.cells tcs.toArray 124 (0, 0)) := by rw [hw1, ← hg]; exact World.alloc_heap_new w _
      simp only [World.cell?, h2]
      simpa using h1
    exact ⟨Nat.lt_of_lt_of_le hgl hb.size, hx 0 _ (by omega) rfl, hx 1 _ (by omega) rfl⟩)
  clear hw1 hg
  go_enter Tryz.func61, Tryz.ntmps61
  go_wp2_with (go_at_call 84; refine HT.out.mono ?_; rintro e w2 ⟨rfl, rfl⟩)
  obtain ⟨N, hN⟩ : ∃ N, (82 : Nat) = N := ⟨_, rfl⟩
  have HN := Lib.hid (show tab.length = N from by rw [tab_len]; exact hN)
  have hNI : (82 : Int) = (N : Int) := by rw [← hN]; rfl
  rw [hN]
  have hN82 : (N : Int) ≤ 100 := by omega
  clear hN hNI
  rename World => w1
  go_loopw [6, 7] (fun jv iv wr => ∃ (k : Nat) (m : Int), k ≤ N ∧ jv = .int .i64 m ∧ iv = .int .i64 (k : Int) ∧ Hid (∀ j q, j < k → tab[j]? = some q → ¬ q.nm = s.data.toList) ∧ Hid (Below w1.heap.size w1 wr)) (fun _ iv _ => N - (intOf iv).toNat)
  case atStart => exact ⟨0, 0, Nat.zero_le _, rfl, rfl, Lib.hid (fun j q hj => absurd hj (by omega)), Lib.hid (Below.refl _ _)⟩
  case round =>
    obtain ⟨k, m, hk, rfl, rfl, HD, hB⟩ := hrel
    by_cases hlt : k < N
    · have hki : (k : Int) < (N : Int) := by omega
      obtain ⟨r, hr⟩ : ∃ r, tab[k]? = some r := ⟨_, List.getElem?_eq_getElem (by rw [HN.out]; exact hlt)⟩
      obtain ⟨hgw, q0, q1⟩ := HCL.out wr hB.out k r hr
      go_upto_region 6 with fail
      go_cut [30] (fun v W => (∃ b, v = .bool b) ∧ Hid (Below wr.heap.size wr W))
      case first =>
        by_cases hk0 : k = 0
        · subst hk0
          go_quiet (fail)
          go_wp2_with fail
          go_meet
          exact ⟨⟨_, rfl⟩, Lib.hid (below_drewN (Below.refl _ _) _)⟩
        · obtain ⟨j, hj⟩ : ∃ j, j + 1 = k := ⟨k - 1, by omega⟩
          obtain ⟨r', hr'⟩ : ∃ r', tab[j]? = some r' := ⟨_, List.getElem?_eq_getElem (by rw [HN.out]; omega)⟩
          obtain ⟨-, p0, -⟩ := HCL.out wr hB.out j r' hr'
          have hpos : 0 < k := by omega
          have hposI : (0 : Int) < (k : Int) := by omega
          have hsub : IntKind.i64.wrap ((k : Int) - 1) = (j : Int) := by rw [IntWalk.i64_in _ (by omega)]; omega
          have hjN : (j : Int) < (N : Int) := by omega
          have hjNn : j < N := by omega
          clear hj hk0
          go_quiet (fail)
          go_wp2_with fail
          go_meet
          exact ⟨⟨_, rfl⟩, Lib.hid (below_drewN (Below.refl _ _) _)⟩
      case rest =>
        obtain ⟨⟨b, rfl⟩, HB2⟩ := hcut
        rename World => w2
        have HB12 := Lib.hid (hB.out.trans (HB2.out.mono hB.out.size))
        obtain ⟨hgw, q0, q1⟩ := HCL.out w2 HB12.out k r hr
        by_cases he : r.nm = s.data.toList
        · have heb : ((ba r.nm).toList == s.toList) = true := by rw [toList_data, toList_data]; exact beq_iff_eq.2 he
          have HRW := Lib.hid (rowN_at HD.out hr he)
          clear he hr
          cases b <;>
            (go_wp2_with fail
             refine bodyPost_ret (v := .tuple #[.int .i64 _, .int .i64 _, .int .i64 0]) (by simp [results, Tryz.results61, go_sem]; exact ⟨rfl, rfl⟩) rfl ?_
             exact ⟨_, _, by rw [HRW.out]; rfl, HB1.out.trans (HB12.out.mono HB1.out.size)⟩)
        · have heb : ((ba r.nm).toList == s.toList) = false := by rw [toList_data, toList_data]; exact beq_eq_false_iff_ne.2 he
          have HD2 := Lib.hid (show ∀ j q, j < k + 1 → tab[j]? = some q → ¬ q.nm = s.data.toList from fun j q hj hq => by
            by_cases hjk : j = k
            · rw [hjk, hr] at hq
              obtain rfl := Option.some.inj hq
              exact he
            · exact HD.out j q (by omega) hq)
          have hk64 : (k : Int) + 1 ≤ 9223372036854775807 := by omega
          clear he hr
          cases b
          · go_wp2_with fail
            go_roundw
            case rel => exact ⟨k + 1, _, by omega, rfl, by go_num, HD2, HB12⟩
            case measure => simp [intOf]; omega
          · go_wp2_with fail
            go_roundw
            case rel => exact ⟨k + 1, _, by omega, rfl, by go_num, HD2, HB12⟩
            case measure => simp [intOf]; omega
    · obtain rfl : N = k := by omega
      have HNO := Lib.hid (rowN_none (t := s.data.toList) (by rw [HN.out]; exact HD.out))
      have hki : ¬ (N : Int) < (N : Int) := by omega
      go_wp2_with fail
      refine bodyPost_ret (v := .tuple #[.int .i64 0, .int .i64 0, .int .i64 4]) (by simp [results, Tryz.results61, go_sem]) rfl ?_
      exact ⟨0, 0, by rw [HNO.out]; rfl, HB1.out.trans (hB.out.mono HB1.out.size)⟩
end Go.Proofs.YtbamkklhkhglnaaGreatDoor.LbG

namespace Go.Proofs.YtbamkklhkhglnaaGreatDoor.TsF
open Go.RowKit Go.Lib Go.Proofs.YtbamkklhkhglnaaGreatDoor Go.Proofs.YtbamkklhkhglnaaGreatDoor.Tow Go.Proofs.YtbamkklhkhglnaaGreatDoor.TxA Go.Proofs.YtbamkklhkhglnaaGreatDoor.TxB Go.Proofs.YtbamkklhkhglnaaGreatDoor.TxC Go.Proofs.YtbamkklhkhglnaaGreatDoor.TmA Go.Proofs.YtbamkklhkhglnaaGreatDoor.TwC Go.Proofs.YtbamkklhkhglnaaGreatDoor.TrA

theorem readS_none {t : List UInt8} (h : readS t = none) : ¬ ∃ p, Vl p ∧ txt p = t := fun ⟨p, hp, e⟩ => by
  have := readS_txt hp.ok.gd
  rw [e, h] at this
  exact absurd this (by simp)
theorem readS_some {t : List UInt8} {q : RP} (h : readS t = some q) (hn : ¬ (Vl q ∧ txt q = t)) : ¬ ∃ p, Vl p ∧ txt p = t := fun ⟨p, hp, e⟩ => by
  have h2 := readS_txt hp.ok.gd
  rw [e, h] at h2
  obtain rfl := Option.some.inj h2
  exact hn ⟨hp, e⟩
theorem exps_len {n : Nat} {t : List UInt8} {v : List Nat} (h : expsI n t = some v) : v.length = n := by
  unfold expsI at h
  split at h
  · obtain rfl := Option.some.inj h
    simp [zer]
  · split at h
    · exact absurd h (by simp)
    · obtain rfl := Option.some.inj h
      simp
theorem app_os (p : RP) (r : Rl) : (p.app r).os = p.os := by
  unfold RP.app
  split <;> rfl
theorem stepS_sh {n : Nat} {p q : RP} {t : List UInt8} (h : Sh n p) (hs : stepS n p t = some q) : Sh n q ∧ q.os = p.os := by
  unfold stepS at hs
  split at hs
  · rename_i x y b e
    split at hs
    · exact absurd hs (by simp)
    · rename_i v hv
      have hl := exps_len hv
      split at hs
      · rename_i hx
        have h1 := isL_sub hx
        split at hs
        · obtain rfl := Option.some.inj hs
          exact ⟨h.app ⟨h1.2, hl, fun i hi => by simp at hi⟩, app_os _ _⟩
        · split at hs
          · rename_i hy
            have h2 := isL_sub hy
            obtain rfl := Option.some.inj hs
            exact ⟨h.app ⟨h1.2, hl, fun i hi => by
              have e2 : y.toNat - 97 = i := Option.some.inj hi
              show i < x.toNat - 97
              omega⟩, app_os _ _⟩
          · exact absurd hs (by simp)
      · exact absurd hs (by simp)
  · exact absurd hs (by simp)
theorem fold_sh {n : Nat} : ∀ (l : List (List UInt8)) {p q : RP}, Sh n p → l.foldlM (stepS n) p = some q → Sh n q ∧ q.os = p.os
  | [], p, q, h, e => by
    obtain rfl := Option.some.inj e
    exact ⟨h, rfl⟩
  | t :: l, p, q, h, e => by
    rw [List.foldlM_cons] at e
    cases hs : stepS n p t with
    | none => rw [hs] at e; exact absurd e (by simp)
    | some p1 =>
      rw [hs] at e
      obtain ⟨h1, h2⟩ := stepS_sh h hs
      obtain ⟨h3, h4⟩ := fold_sh l h1 e
      exact ⟨h3, h4.trans h2⟩
theorem ordS_ok {t : List UInt8} {os : List Int} (h : ordS t = some os) : Prs os ∧ os.length ≤ 6 := by
  unfold ordS at h
  split at h
  · obtain rfl := Option.some.inj h
    exact ⟨fun o ho => by simp at ho, by simp⟩
  · split at h
    · rename_i h2
      obtain rfl := Option.some.inj h
      exact ⟨fun o ho => by
        obtain ⟨w, hw, rfl⟩ := List.mem_map.1 ho
        exact h2.1 w hw, by simpa using h2.2.1⟩
    · exact absurd h (by simp)
end Go.Proofs.YtbamkklhkhglnaaGreatDoor.TsF

namespace Go.Proofs.YtbamkklhkhglnaaGreatDoor.TwF
open Go.RowKit Go.Lib Go.Proofs.YtbamkklhkhglnaaGreatDoor Go.Proofs.YtbamkklhkhglnaaGreatDoor.Tow Go.Proofs.YtbamkklhkhglnaaGreatDoor.CyA Go.Proofs.YtbamkklhkhglnaaGreatDoor.TxA Go.Proofs.YtbamkklhkhglnaaGreatDoor.TxB Go.Proofs.YtbamkklhkhglnaaGreatDoor.TxC Go.Proofs.YtbamkklhkhglnaaGreatDoor.TmA Go.Proofs.YtbamkklhkhglnaaGreatDoor.TiA Go.Proofs.YtbamkklhkhglnaaGreatDoor.TwA Go.Proofs.YtbamkklhkhglnaaGreatDoor.TwB Go.Proofs.YtbamkklhkhglnaaGreatDoor.TwC Go.Proofs.YtbamkklhkhglnaaGreatDoor.TwD Go.Proofs.YtbamkklhkhglnaaGreatDoor.TwE Go.Proofs.YtbamkklhkhglnaaGreatDoor.Val
set_option linter.unusedVariables false
set_option linter.unusedSimpArgs false

theorem ints_inj {a b : List Nat} (h : ints a = ints b) : a = b := by
  have h2 := congrArg (List.map Int.toNat) h
  unfold ints at h2
  rw [List.map_map, List.map_map] at h2
  have h3 : (Int.toNat ∘ Int.ofNat) = id := by funext x; simp
  rwa [h3, List.map_id, List.map_id] at h2
theorem ints_dec (a b : List Nat) : decide (ints a = ints b) = decide (a = b) := by
  by_cases h : a = b
  · rw [h]; simp
  · rw [decide_eq_false (fun e => h (ints_inj e)), decide_eq_false h]
set_option maxRecDepth 100000 in
set_option maxHeartbeats 2000000 in
theorem stxt_any (n : Nat) (p : RP) (h : TxOk n p) (vO vP vC : Value) (w : World) (hV : ValP (fun _ => True) w vO vP vC p.val) :
    Calls Tryz.prog 109 #[.agg #[vO, vP, vC]] w (TxR (txt p) w) := by
  obtain ⟨aO, cO, rfl⟩ := slv hV.os h.gd.sh.os
  obtain ⟨aP, cP, rfl⟩ := slv hV.ps (n := n) (by simp [RP.val, h.gd.sh.pl])
  obtain ⟨aC, cC, rfl⟩ := slv hV.cs (n := n) (by simp [RP.val, h.gd.sh.cl])
  have H := Lib.hid h
  have hn6 : n ≤ 6 := h.gd.n6
  have HV := Lib.hid hV
  clear h hV
  go_enter Tryz.func109, Tryz.ntmps109
  go_upto_region 1 with fail
  obtain ⟨w1, hw1⟩ : ∃ w1, w1 = w.alloc (.cells #[.slice aO n cO, .slice aP n cP, .slice aC n cC] 91) := ⟨_, rfl⟩
  rw [← hw1]
  have HB1 := Lib.hid (show Below w.heap.size w w1 by rw [hw1]; exact (Below.refl _ _).alloc (Nat.le_refl _) _)
  have HBX := Lib.hid (fun (W : World) (hb : Below w1.heap.size w1 W) => show (W.cell? ⟨w.heap.size, 0, none⟩ = some (.slice aO n cO) ∧ W.cell? ⟨w.heap.size, 1, none⟩ = some (.slice aP n cP) ∧ W.cell? ⟨w.heap.size, 2, none⟩ = some (.slice aC n cC)) ∧ w.heap.size < W.heap.size from by
    have hl : w.heap.size < w1.heap.size := by rw [hw1]; simp
    have hr : w1.heap[w.heap.size]? = some (.cells #[.slice aO n cO, .slice aP n cP, .slice aC n cC] 91 (0, 0)) := by rw [hw1]; exact heap_alloc_new _ _
    exact ⟨row3' ((hb.block _ hl).trans hr), Nat.lt_of_lt_of_le hl hb.size⟩)
  have HV1 := Lib.hid (HV.out.keep (Keep.of_below HB1.out))
  clear hw1
  obtain ⟨⟨e0, e1, e2⟩, hgl⟩ := HBX.out w1 (Below.refl _ _)
  by_cases hn0 : n = 0
  · have hz : ((n : Int) == 0) = true := by rw [hn0]; rfl
    have HF := Lib.hid (show TxR (txt p) w (.returned (.string ⟨#[49]⟩)) w1 from ⟨_, rfl, by
      have ho := H.out.gd.sh.os
      rw [hn0] at ho
      unfold txt rels
      rw [ho]
      unfold ordT
      rw [if_pos (List.eq_nil_of_length_eq_zero ho)]
      rfl, HB1.out⟩)
    clear hn0
    go_wp2_with fail
    go_ret
    exact HF.out
  have hz : ((n : Int) == 0) = false := beq_eq_false_iff_ne.2 (by omega)
  have HN0 := Lib.hid hn0
  clear hn0
  go_wp2_with fail
  go_loopw [4, 5] (fun ov iv wr => ∃ (i : Nat) (s : ByteArray), i ≤ n ∧ s.size ≤ 2 * i ∧ iv = .int .i64 (i : Int) ∧ ov = .string s ∧ Hid (s.data.toList = jt p.os i) ∧ Hid (Below w1.heap.size w1 wr)) (fun _ iv _ => n - (intOf iv).toNat)
  case atStart => exact ⟨0, _, Nat.zero_le _, Nat.le_refl _, rfl, rfl, Lib.hid rfl, Lib.hid (Below.refl _ _)⟩
  case round =>
    clear e0 e1 e2 hgl
    obtain ⟨i, s, hi, hs, rfl, rfl, hS, hB⟩ := hrel
    by_cases hlt : i < n
    · have hki : (i : Int) < (n : Int) := by omega
      have hki0 : (0 : Int) ≤ (i : Int) := by omega
      obtain ⟨x, hx⟩ : ∃ x, p.os[i]? = some x := ⟨_, List.getElem?_eq_getElem (by rw [H.out.gd.sh.os]; exact hlt)⟩
      have HX := Lib.hid hx
      have HPX := Lib.hid (H.out.gd.pr x (List.mem_of_getElem? hx))
      obtain ⟨b', o', u, rfl, _, hbu, hcu, rfl⟩ := slg_get (HV1.out.os.keep (Keep.of_below hB.out)) hx
      obtain ⟨⟨e0, e1, e2⟩, hgl⟩ := HBX.out wr hB.out
      clear hx
      have q1 : (9223372036854775807 < s.size + 1) = False := eq_false (by omega)
      go_upto_if 20 with (fail)
      go_cut [4] (fun v W => ∃ s' : ByteArray, v = .string s' ∧ s'.size ≤ 2 * i + 1 ∧ Hid (s'.data.toList = jt p.os i ++ (if i = 0 then [] else [32])) ∧ W = wr)
      case first =>
        by_cases hi0 : i = 0
        · have hi0n : ¬ 0 < i := by omega
          have HR := Lib.hid (show s.data.toList = jt p.os i ++ (if i = 0 then [] else [32]) from by rw [if_pos hi0, List.append_nil]; exact hS.out)
          clear hi0
          go_wp2_with fail
          go_meet
          exact ⟨s, rfl, by omega, HR, rfl⟩
        · have hi0n : 0 < i := by omega
          have HR := Lib.hid (show (s ++ ⟨#[32]⟩ : ByteArray).data.toList = jt p.os i ++ (if i = 0 then [] else [32]) from by rw [if_neg hi0, ← hS.out]; simp [ByteArray.data_append])
          clear hi0
          go_wp2_with fail
          go_meet
          exact ⟨_, rfl, by rw [ByteArray.size_append]; show _ + 1 ≤ _; omega, HR, rfl⟩
      case rest =>
        obtain ⟨s', rfl, hs', hS', rfl⟩ := hcut
        rename World => wr
        have q2 : (9223372036854775807 < s'.size + 1) = False := eq_false (by omega)
        have HDC := Lib.hid (dec_prime HPX.out wr)
        clear hS hs q1
        go_wp2_with (first | (go_at_call 139; refine HDC.out.mono ?_; rintro e w2 ⟨s1, rfl, hs1, hz1, hb1⟩) | fail)
        have HS1 := Lib.hid (show (s' ++ s1).data.toList = jt p.os (i + 1) from by rw [jt_succ HX.out, ← hS'.out, ← hs1]; simp [ByteArray.data_append])
        have HSZ := Lib.hid (show (s' ++ s1).size ≤ 2 * (i + 1) from by rw [ByteArray.size_append, hz1]; omega)
        have HB2 := Lib.hid (hB.out.trans (hb1.mono hB.out.size))
        clear hs1 hz1 hb1 hB hS' hs' q2
        go_roundw
        case rel => exact ⟨i + 1, _, by omega, HSZ.out, by go_num, rfl, HS1, HB2⟩
        case measure => simp [intOf]; omega
    · obtain rfl : n = i := by omega
      have hs12 : s.size ≤ 12 + 0 * 1002 := by omega
      have HS0 := Lib.hid (show s.data.toList = tx p (powR p 0) from by
        rw [hS.out, jt_all H.out.gd.sh.os HN0.out]
        unfold tx joinTail
        show _ = _ ++ []
        rw [List.append_nil])
      have HB0 := hB
      clear hS hB hs hlt hi
      rename World => w8
      go_wp2_with fail
      go_loopw [4, 6] (fun ov iv wr => ∃ (k : Nat) (s : ByteArray), k ≤ n ∧ s.size ≤ 12 + k * 1002 ∧ iv = .int .i64 (k : Int) ∧ ov = .string s ∧ Hid (s.data.toList = tx p (powR p k)) ∧ Hid (Below w1.heap.size w1 wr)) (fun _ iv _ => n - (intOf iv).toNat)
      case atStart => exact ⟨0, _, Nat.zero_le _, hs12, rfl, rfl, HS0, HB0⟩
      case round =>
        clear HS0 HB0 hs12
        obtain ⟨k, s, hk, hs, rfl, rfl, hS, hB⟩ := hrel
        by_cases hlt : k < n
        · have hki : (k : Int) < (n : Int) := by omega
          have hki0 : (0 : Int) ≤ (k : Int) := by omega
          have hk6 : k ≤ 6 := by omega
          have hsb : s.size ≤ 60000 := by omega
          obtain ⟨v, hv⟩ : ∃ v, p.ps[k]? = some v := ⟨_, List.getElem?_eq_getElem (by rw [H.out.gd.sh.pl]; exact hlt)⟩
          have hvl := H.out.gd.sh.pr v (List.mem_of_getElem? hv)
          have hvb := H.out.pb v (List.mem_of_getElem? hv)
          obtain ⟨b', o', u, rfl, _, hbu, hcu, hsu⟩ := slg_get (HV1.out.ps.keep (Keep.of_below hB.out)) (show p.val.ps[k]? = some (ints v) by simp [RP.val, hv])
          obtain ⟨au, cu, rfl⟩ := slv (n := n) hsu (by rw [ints_length]; exact hvl)
          obtain ⟨⟨e0, e1, e2⟩, hgl⟩ := HBX.out wr hB.out
          obtain ⟨x, hx⟩ : ∃ x, p.os[k]? = some x := ⟨_, List.getElem?_eq_getElem (by rw [H.out.gd.sh.os]; exact hlt)⟩
          have HPX := Lib.hid (H.out.gd.pr x (List.mem_of_getElem? hx))
          obtain ⟨bq, oq, uq, rfl, _, hbq, hcq, rfl⟩ := slg_get (HV1.out.os.keep (Keep.of_below hB.out)) hx
          have HSU := Lib.hid hsu
          have HZ := Lib.hid (zero_any (.slice au n cu) (ints v) wr hsu)
          have HPS := Lib.hid (powR_succ p k)
          have HD := Lib.hid (show p.ps.getD k [] = v from getD_of hv)
          have HBY := Lib.hid (show byT p.os ⟨k, none, v⟩ = dT x from by show dT (p.os.getD k 0) = _; rw [getD_of hx])
          have HVV := Lib.hid (And.intro hvl hvb)
          have HSL := Lib.hid (tx_len H.out (powR p (k + 1)) (powR_mem H.out.gd.sh.os (by omega)))
          have HPL := Lib.hid (powR_len p (k + 1))
          clear hv hvl hvb hsu hx
          go_upto_block 3 with (fail)
          go_cut [4] (fun v W => ∃ s : ByteArray, v = .string s ∧ Hid (s.data.toList = tx p (powR p (k + 1))) ∧ Hid (Below w1.heap.size w1 W))
          case rest =>
            obtain ⟨s', rfl, hS', hB'⟩ := hcut
            have hsz : s'.size ≤ 12 + (k + 1) * 1002 := by
              have h1 := HSL.out
              rw [← hS'.out] at h1
              have h2 : s'.data.toList.length = s'.size := by simp
              have h3 := Nat.mul_le_mul_right 1002 HPL.out
              omega
            clear HSU HZ HPS HD HBY HVV HSL HPL hS hs hsb hB
            go_wp2_with fail
            go_roundw
            case rel => exact ⟨k + 1, s', by omega, hsz, by go_num, rfl, hS', hB'⟩
            case measure => simp [intOf]; omega
          case first =>
            by_cases hz : v = zer n
            · have HN := Lib.hid (show powR p (k + 1) = powR p k from by
                rw [HPS.out]; unfold pwF
                rw [HD.out, H.out.gd.sh.os, if_pos hz]; simp)
              have HZT := Lib.hid ((zero_zer v).2 (by rw [HVV.out.1]; exact hz))
              clear hz
              go_wp2_with (first | (go_at_call 141; refine HZ.out.mono ?_; rintro e w5 ⟨r, rfl, hr, rfl⟩; obtain rfl : r = true := hr.2 HZT.out; clear hr) | fail)
              go_meet
              exact ⟨s, rfl, Lib.hid (by rw [HN.out]; exact hS.out), hB⟩
            · have HZF := Lib.hid (fun h => hz (((zero_zer v).1 h).trans (by rw [HVV.out.1])))
              have HN := Lib.hid (show powR p (k + 1) = powR p k ++ [⟨k, none, v⟩] from by
                rw [HPS.out]; unfold pwF
                rw [HD.out, H.out.gd.sh.os, if_neg hz]; rfl)
              have HNW := Lib.hid (fun W (hk : Keep (fun _ => True) wr W) => snw_any au n cu v HVV.out.1 (by omega) HVV.out.2 W (HSU.out.keep hk))
              have HLE := Lib.hid (fun W => let_one k (by omega) W)
              have HDC := Lib.hid (fun W => dec_prime HPX.out W)
              have HWL := Lib.hid (show ∀ s : ByteArray, s.data.toList = wtx v → s.size ≤ 1000 from fun s hs => by
                have h1 := wtx_len v HVV.out.2
                rw [HVV.out.1] at h1
                have h2 := congrArg List.length hs
                have h3 : s.data.toList.length = s.size := by simp
                omega)
              have HNP := Lib.hid (show (nwF 0 v).length ≤ 100000 ∧ (∀ x ∈ nwF 0 v, 1 ≤ x ∧ x ≤ 100) from ⟨by
                have := nwF_len v 0 100 HVV.out.2
                rw [HVV.out.1] at this
                omega, fun x hx => by
                obtain ⟨i, hi, rfl⟩ := nwF_mem v 0 x hx
                rw [HVV.out.1] at hi
                omega⟩)
              have c0 : (9223372036854775807 < s.size + 2) = False := eq_false (by omega)
              have c1 : (9223372036854775807 < s.size + 2 + 1) = False := eq_false (by omega)
              have c2 : (9223372036854775807 < s.size + 2 + 1 + 1) = False := eq_false (by omega)
              have c3 : (9223372036854775807 < s.size + 2 + 1 + 1 + 1) = False := eq_false (by omega)
              have c4 : (9223372036854775807 < s.size + 2 + 1 + 1 + 1 + 1) = False := eq_false (by omega)
              clear hz HPS HD
              go_upto_region 15 with (first | (go_at_call 141; refine HZ.out.mono ?_; rintro e w5 ⟨r, rfl, hr, rfl⟩; obtain rfl : r = false := (by cases r; exact rfl; exact absurd (hr.1 rfl) HZF.out); clear hr) | fail)
              clear HZ HZF
              go_region_held3 (fun w' => (∀ b o, b < wr.heap.size → w'.cell? ⟨b, o, none⟩ = wr.cell? ⟨b, o, none⟩) ∧ Keep (fun _ => True) wr w')
                (first | exact ks_mk (by repeat (first | exact (Keep.refl _ _).drew | exact Keep.refl _ _ | refine Keep.drewN ?_ _ | refine Keep.trans ?_ (Keep.of_below (by assumption)))))
                (first | (go_at_call 142; refine (HLE.out _).mono ?_; rintro e wa ⟨sa, rfl, hsa, hza, hba⟩) | (go_at_call 139; refine (HDC.out _).mono ?_; rintro e wb ⟨sx, rfl, hsx, hzx, hbx⟩) | (go_at_call 144; refine (HNW.out _ (by repeat (first | exact (Keep.refl _ _).drew | exact Keep.refl _ _ | refine Keep.drewN ?_ _ | refine Keep.trans ?_ (Keep.of_below (by assumption))))).mono ?_; rintro e w6 ⟨u6, rfl, ho6, hb6⟩; obtain ⟨a6, c6, rfl, _, _, _⟩ := owns_form ho6) | (go_at_call 143; refine (stext_any a6 _ c6 (nwF 0 v) rfl HNP.out.1 HNP.out.2 _ ((Own.sl ho6).mono fun _ _ => trivial)).mono ?_; rintro e w7 ⟨s7, rfl, hs7, hb7⟩; rw [wtI_nw] at hs7; have hs7s := HWL.out s7 hs7; have hs7c : (9223372036854775807 < s.size + 2 + 1 + 1 + 1 + 1 + s7.size) = False := eq_false (by omega)))
              have h7 : Below wr.heap.size wr w7 := (by repeat (first | exact Below.refl _ _ | exact (Below.refl _ _).drew | refine stepB ?_ (Nat.le_refl _) (by assumption)))
              have HS2 := Lib.hid (show (((((((s ++ ⟨#[59, 32]⟩) ++ sa) ++ ⟨#[94]⟩) ++ sx) ++ ⟨#[61]⟩) ++ s7) : ByteArray).data.toList = tx p (powR p (k + 1)) from by
                rw [HN.out]
                exact rel_bytes2 s sa sx s7 p (powR p k) ⟨k, none, v⟩ hS.out hsa (hsx.trans HBY.out.symm) hs7)
              have HB2 := Lib.hid (hB.out.trans (h7.mono hB.out.size))
              clear h7 hsa hsx hs7
              go_wp2_with fail
              go_meet
              exact ⟨_, rfl, HS2, HB2⟩
        · obtain rfl : n = k := by omega
          have HS8 := Lib.hid (show s.data.toList = tx p (powR p n ++ conR p 0) from by
            rw [show conR p 0 = [] from rfl, List.append_nil]; exact hS.out)
          have HB8 := Lib.hid hB.out
          clear hS hB hlt hk hs
          rename World => w9
          go_wp2_with fail
          go_loopw [4, 7] (fun ov iv wr => ∃ (i : Nat) (s : ByteArray), i ≤ n ∧ iv = .int .i64 (i : Int) ∧ ov = .string s ∧ Hid (s.data.toList = tx p (powR p n ++ conR p i)) ∧ Hid (Below w1.heap.size w1 wr)) (fun _ iv _ => n - (intOf iv).toNat)
          case atStart => exact ⟨0, _, Nat.zero_le _, rfl, rfl, HS8, HB8⟩
          case round =>
            clear HS8 HB8
            obtain ⟨i, s, hi, rfl, rfl, hS, hB⟩ := hrel
            by_cases hlt : i < n
            · have hki : (i : Int) < (n : Int) := by omega
              have hki0 : (0 : Int) ≤ (i : Int) := by omega
              have hi6 : i ≤ 6 := by omega
              obtain ⟨L, hL⟩ : ∃ L, p.cs[i]? = some L := ⟨_, List.getElem?_eq_getElem (by rw [H.out.gd.sh.cl]; exact hlt)⟩
              obtain ⟨hLl, hLr⟩ := H.out.gd.sh.cr i L hL
              have hLb := H.out.cb L (List.mem_of_getElem? hL)
              obtain ⟨ln, hln⟩ : ∃ ln, n - (i + 1) = ln := ⟨_, rfl⟩
              rw [hln] at hLl
              have HLN := Lib.hid hln
              have hln6 : ln ≤ 6 := by omega
              obtain ⟨bC, oC, u, rfl, _, hbu1, hcu1, hsu⟩ := slg_get HV1.out.cs (show p.val.cs[i]? = some (L.map ints) by simp [RP.val, hL])
              obtain ⟨aL, cL, rfl⟩ := slv (n := ln) hsu (by rw [List.length_map]; exact hLl)
              have HSL := Lib.hid hsu
              have HCU := Lib.hid (fun (W : World) (hb : Below w1.heap.size w1 W) => show W.cell? ⟨bC, oC + i, none⟩ = some (.slice aL ln cL) ∧ bC < W.heap.size from ⟨((Keep.of_below (S := fun _ => True) hb).cell trivial hbu1).trans hcu1, Nat.lt_of_lt_of_le hbu1 hb.size⟩)
              have HD := Lib.hid (show p.cs.getD i [] = L from getD_of hL)
              have HLF := Lib.hid (And.intro hLl (And.intro hLr hLb))
              have HS9 := Lib.hid (show s.data.toList = tx p (powR p n ++ conR p i ++ conI p i 0) from by
                rw [show conI p i 0 = [] from rfl, List.append_nil]; exact hS.out)
              have HB9 := Lib.hid hB.out
              have hw1 : IntKind.i64.wrap ((i : Int) + 1) = (i : Int) + 1 := IntWalk.i64_in _ (by omega)
              have hin : i + 1 + ln = n := by omega
              clear hL hLl hLr hLb hln hsu hS hB hbu1 hcu1
              go_wp2_with fail
              go_loopw [4, 8] (fun ov jv wr => ∃ (k : Nat) (s : ByteArray), k ≤ ln ∧ jv = .int .i64 ((i : Int) + 1 + (k : Int)) ∧ ov = .string s ∧ Hid (s.data.toList = tx p (powR p n ++ conR p i ++ conI p i k)) ∧ Hid (Below w1.heap.size w1 wr)) (fun _ jv _ => n - (intOf jv).toNat)
              case atStart => exact ⟨0, _, Nat.zero_le _, by simp, rfl, HS9, HB9⟩
              case round =>
                clear HS9 HB9
                obtain ⟨k, s, hk, rfl, rfl, hS, hB⟩ := hrel
                have hw2 : IntKind.i64.wrap ((i : Int) + 1 + (k : Int)) = (i : Int) + 1 + (k : Int) := IntWalk.i64_in _ (by omega)
                have hw5 : IntKind.i64.wrap ((i : Int) + 1 + (k : Int) + 1) = (i : Int) + 1 + (k : Int) + 1 := IntWalk.i64_in _ (by omega)
                by_cases hlt2 : k < ln
                · have hki2 : (k : Int) < (ln : Int) := by omega
                  have hki20 : (0 : Int) ≤ (k : Int) := by omega
                  obtain ⟨j, hj⟩ : ∃ j, i + 1 + k = j := ⟨_, rfl⟩
                  have hji : (i : Int) + 1 + (k : Int) = (j : Int) := by omega
                  have HJ := Lib.hid hj
                  have hjn : j < n := by omega
                  have hjn' : (j : Int) < (n : Int) := by omega
                  have hji' : i < j := by omega
                  rw [hji] at hw2 hw5 ⊢
                  have HJI := Lib.hid hji
                  have hw3 : IntKind.i64.wrap ((j : Int) - (i : Int)) = (j : Int) - (i : Int) := IntWalk.i64_in _ (by omega)
                  have hw4 : IntKind.i64.wrap ((j : Int) - (i : Int) - 1) = (k : Int) := by rw [IntWalk.i64_in _ (by omega)]; omega
                  have hw6 : IntKind.i64.wrap (j : Int) = (j : Int) := IntWalk.i64_in _ (by omega)
                  have hw7 : IntKind.i64.wrap (i : Int) = (i : Int) := IntWalk.i64_in _ (by omega)
                  obtain ⟨v, hv⟩ : ∃ v, L[k]? = some v := ⟨_, List.getElem?_eq_getElem (by rw [HLF.out.1]; exact hlt2)⟩
                  have hvl := HLF.out.2.1 v (List.mem_of_getElem? hv)
                  have hvb := HLF.out.2.2 v (List.mem_of_getElem? hv)
                  obtain ⟨b', o', u, rfl, _, hbv1, hcv1, hsu⟩ := slg_get HSL.out (show (L.map ints)[k]? = some (ints v) by simp [hv])
                  obtain ⟨au, cu, rfl⟩ := slv (n := n) hsu (by rw [ints_length]; exact hvl)
                  have HSU := Lib.hid hsu
                  have HCV := Lib.hid (fun (W : World) (hb : Below w1.heap.size w1 W) => show W.cell? ⟨b', o' + k, none⟩ = some (.slice au n cu) ∧ b' < W.heap.size from ⟨((Keep.of_below (S := fun _ => True) hb).cell trivial hbv1).trans hcv1, Nat.lt_of_lt_of_le hbv1 hb.size⟩)
                  have HPS := Lib.hid (conI_succ p i k)
                  have HDK := Lib.hid (show (p.cs.getD i []).getD k [] = v from by rw [HD.out]; exact getD_of hv)
                  have HVV := Lib.hid (And.intro hvl hvb)
                  have hsb : s.size ≤ 60000 := by
                    have h1 := tx_len H.out (powR p n ++ conR p i ++ conI p i k) (fun r hr => by
                      rcases List.mem_append.1 hr with hr | hr
                      · rcases List.mem_append.1 hr with hr | hr
                        · exact powR_mem H.out.gd.sh.os (Nat.le_refl _) r hr
                        · exact conR_mem H.out.gd.sh.os (by omega) r hr
                      · exact conI_mem H.out.gd.sh.os hlt (by rw [HLN.out]; omega) r hr)
                    rw [← hS.out] at h1
                    have h2 : s.data.toList.length = s.size := by simp
                    have h3 := powR_len p n
                    have h4 := conR_len p H.out.gd.sh.os i
                    have h5 := conI_len p i k
                    have h6 : i * n ≤ 6 * 6 := Nat.mul_le_mul hi6 hn6
                    simp only [List.length_append] at h1
                    omega
                  clear hv hvl hvb hsu hbv1 hcv1 hj hji
                  go_upto_block 7 with (fail)
                  go_cut [4] (fun v W => ∃ s : ByteArray, v = .string s ∧ Hid (s.data.toList = tx p (powR p n ++ conR p i ++ conI p i (k + 1))) ∧ Hid (Below w1.heap.size w1 W))
                  case rest =>
                    obtain ⟨s', rfl, hS', hB'⟩ := hcut
                    have hjk : (j : Int) + 1 = (i : Int) + 1 + ((k + 1 : Nat) : Int) := by have := HJI.out; omega
                    have HJK := Lib.hid hjk
                    have HM := Lib.hid (show n - (intOf (.int .i64 ((j : Int) + 1))).toNat < n - (intOf (.int .i64 (j : Int))).toNat from by simp [intOf]; omega)
                    clear HSU HCV HPS HDK HVV hsb hS hB hjk
                    go_wp2_with fail
                    go_roundw
                    case rel => exact ⟨k + 1, s', by omega, congrArg (Value.int .i64) HJK.out, rfl, hS', hB'⟩
                    case measure => exact HM.out
                  case first =>
                    obtain ⟨⟨e0, e1, e2⟩, hgl⟩ := HBX.out wr hB.out
                    obtain ⟨hcu, hbu⟩ := HCU.out wr hB.out
                    obtain ⟨hcv, hbv⟩ := HCV.out wr hB.out
                    have HUN := Lib.hid (fun W => (DwB.unit_any n j (by omega) hjn W).mono (R' := fun e w' => ∃ g c, e = .returned (.slice (some ⟨g, 0, none⟩) n c) ∧ SlI (fun _ => True) w' (.slice (some ⟨g, 0, none⟩) n c) (ints (unt n j)) ∧ Below W.heap.size W w') (by
                      rintro e w' ⟨g, c, rfl, ho, hb⟩
                      have hl : (ints ((List.replicate n 0).set j 1)).length = n := by rw [ints_length]; simp
                      rw [hl] at ho ⊢
                      exact ⟨g, c, rfl, (Own.sl ho).mono (fun _ _ => trivial), hb⟩))
                    have HSA := Lib.hid (HSU.out.keep (Keep.of_below hB.out))
                    go_upto_region 22 with fail
                    go_cut [92] (fun x W => ∃ r : Bool, x = .bool r ∧ (r = false ↔ v = unt n j) ∧ Hid (Below w1.heap.size w1 W))
                    case first =>
                      go_region_held3 (fun w' => (∀ b o, b < wr.heap.size → w'.cell? ⟨b, o, none⟩ = wr.cell? ⟨b, o, none⟩) ∧ Keep (fun _ => True) wr w')
                        (first | exact ks_mk (by repeat (first | exact (Keep.refl _ _).drew | exact Keep.refl _ _ | refine Keep.drewN ?_ _ | refine Keep.trans ?_ (Keep.of_below (by assumption)))))
                        (first | (go_at_call 135; refine (HUN.out _).mono ?_; rintro e w5 ⟨g5, c5, rfl, hs5, hb5⟩) | (go_at_call 145; refine (SpecD.same_any _ _ _ (ints v) _ (HSA.out.keep (by repeat (first | exact (Keep.refl _ _).drew | exact Keep.refl _ _ | refine Keep.drewN ?_ _ | refine Keep.trans ?_ (Keep.of_below (by assumption))))) hs5).mono ?_; rintro e w8 ⟨rfl, n7, rfl⟩))
                      have h7 : Below wr.heap.size wr (w5.drewN n7) := below_drewN (by repeat (first | exact Below.refl _ _ | exact (Below.refl _ _).drew | refine stepB ?_ (Nat.le_refl _) (by assumption))) _
                      have HB2 := Lib.hid (hB.out.trans (h7.mono hB.out.size))
                      clear h7
                      go_wp2_with fail
                      go_meet
                      refine ⟨_, rfl, ?_, HB2⟩
                      rw [ints_dec]
                      by_cases hz : v = unt n j
                      · simp [hz]
                      · simp [hz]
                    case rest =>
                      obtain ⟨r, rfl, hr, hBm⟩ := hcut
                      rename World => wr
                      clear hB e0 e1 e2 hgl hcu hbu hcv hbv HSA
                      have hB := hBm
                      clear hBm
                      cases r with
                      | false =>
                        have HN := Lib.hid (show conI p i (k + 1) = conI p i k from by
                          rw [HPS.out]; unfold cjF
                          rw [HDK.out, H.out.gd.sh.os, HJ.out, if_pos (hr.1 rfl)]; simp)
                        clear hr
                        go_wp2_with fail
                        go_meet
                        exact ⟨s, rfl, Lib.hid (by rw [HN.out]; exact hS.out), hB⟩
                      | true =>
                        have HN := Lib.hid (show conI p i (k + 1) = conI p i k ++ [⟨j, some i, v⟩] from by
                          rw [HPS.out]; unfold cjF
                          rw [HDK.out, H.out.gd.sh.os, HJ.out, if_neg (fun h => absurd (hr.2 h) (by simp))]; rfl)
                        obtain ⟨⟨e0, e1, e2⟩, hgl⟩ := HBX.out wr hB.out
                        obtain ⟨hcu, hbu⟩ := HCU.out wr hB.out
                        obtain ⟨hcv, hbv⟩ := HCV.out wr hB.out
                        have HNW := Lib.hid (fun W (hk : Keep (fun _ => True) wr W) => snw_any au n cu v HVV.out.1 (by omega) HVV.out.2 W ((HSU.out.keep (Keep.of_below hB.out)).keep hk))
                        have HLE := Lib.hid (fun W => let_one j (by omega) W)
                        have HLI := Lib.hid (fun W => let_one i (by omega) W)
                        have HWL := Lib.hid (show ∀ s : ByteArray, s.data.toList = wtx v → s.size ≤ 1000 from fun s hs => by
                          have h1 := wtx_len v HVV.out.2
                          rw [HVV.out.1] at h1
                          have h2 := congrArg List.length hs
                          have h3 : s.data.toList.length = s.size := by simp
                          omega)
                        have HNP := Lib.hid (show (nwF 0 v).length ≤ 100000 ∧ (∀ x ∈ nwF 0 v, 1 ≤ x ∧ x ≤ 100) from ⟨by
                          have := nwF_len v 0 100 HVV.out.2
                          rw [HVV.out.1] at this
                          omega, fun x hx => by
                          obtain ⟨i, hi, rfl⟩ := nwF_mem v 0 x hx
                          rw [HVV.out.1] at hi
                          omega⟩)
                        have c0 : (9223372036854775807 < s.size + 2) = False := eq_false (by omega)
                        have c1 : (9223372036854775807 < s.size + 2 + 1) = False := eq_false (by omega)
                        have c2 : (9223372036854775807 < s.size + 2 + 1 + 1) = False := eq_false (by omega)
                        have c3 : (9223372036854775807 < s.size + 2 + 1 + 1 + 1) = False := eq_false (by omega)
                        have c4 : (9223372036854775807 < s.size + 2 + 1 + 1 + 1 + 1) = False := eq_false (by omega)
                        clear hr HPS HDK
                        go_upto_region 23 with fail
                        go_region_held3 (fun w' => (∀ b o, b < wr.heap.size → w'.cell? ⟨b, o, none⟩ = wr.cell? ⟨b, o, none⟩) ∧ Keep (fun _ => True) wr w')
                          (first | exact ks_mk (by repeat (first | exact (Keep.refl _ _).drew | exact Keep.refl _ _ | refine Keep.drewN ?_ _ | refine Keep.trans ?_ (Keep.of_below (by assumption)))))
                          (first | (go_at_call_of 142 j; refine (HLE.out _).mono ?_; rintro e wa ⟨sa, rfl, hsa, hza, hba⟩) | (go_at_call_of 142 i; refine (HLI.out _).mono ?_; rintro e wb ⟨sx, rfl, hsx, hzx, hbx⟩) | (go_at_call 144; refine (HNW.out _ (by repeat (first | exact (Keep.refl _ _).drew | exact Keep.refl _ _ | refine Keep.drewN ?_ _ | refine Keep.trans ?_ (Keep.of_below (by assumption))))).mono ?_; rintro e w6 ⟨u6, rfl, ho6, hb6⟩; obtain ⟨a6, c6, rfl, _, _, _⟩ := owns_form ho6) | (go_at_call 143; refine (stext_any a6 _ c6 (nwF 0 v) rfl HNP.out.1 HNP.out.2 _ ((Own.sl ho6).mono fun _ _ => trivial)).mono ?_; rintro e w7 ⟨s7, rfl, hs7, hb7⟩; rw [wtI_nw] at hs7; have hs7s := HWL.out s7 hs7; have hs7c : (9223372036854775807 < s.size + 2 + 1 + 1 + 1 + 1 + s7.size) = False := eq_false (by omega)))
                        have h7 : Below wr.heap.size wr w7 := (by repeat (first | exact Below.refl _ _ | exact (Below.refl _ _).drew | refine stepB ?_ (Nat.le_refl _) (by assumption)))
                        have HS2 := Lib.hid (show (((((((s ++ ⟨#[59, 32]⟩) ++ sa) ++ ⟨#[94]⟩) ++ sx) ++ ⟨#[61]⟩) ++ s7) : ByteArray).data.toList = tx p (powR p n ++ conR p i ++ conI p i (k + 1)) from by
                          rw [HN.out, ← List.append_assoc]
                          exact rel_bytes2 s sa sx s7 p (powR p n ++ conR p i ++ conI p i k) ⟨j, some i, v⟩ hS.out hsa hsx hs7)
                        have HB2 := Lib.hid (hB.out.trans (h7.mono hB.out.size))
                        clear h7 hsa hsx hs7
                        go_wp2_with fail
                        go_meet
                        exact ⟨_, rfl, HS2, HB2⟩
                · obtain rfl : ln = k := by omega
                  have hjn' : ¬ (i : Int) + 1 + (ln : Int) < (n : Int) := by omega
                  have HS5 := Lib.hid (show s.data.toList = tx p (powR p n ++ conR p (i + 1)) from by
                    rw [conR_succ, H.out.gd.sh.os, HLN.out, ← List.append_assoc]; exact hS.out)
                  have HB5 := hB
                  clear hS hB
                  go_wp2_with fail
                  go_roundw
                  case rel => exact ⟨i + 1, s, by omega, by go_num, rfl, HS5, HB5⟩
                  case measure => simp [intOf]; omega
            · obtain rfl : n = i := by omega
              have HF := Lib.hid (show TxR (txt p) w (.returned (.string s)) wr from ⟨_, rfl, by
                rw [hS.out, show powR p n ++ conR p n = rels p from by unfold rels; rw [H.out.gd.sh.os], tx_txt], HB1.out.trans (hB.out.mono HB1.out.size)⟩)
              clear hS hB
              go_wp2_with fail
              go_ret
              exact HF.out
end Go.Proofs.YtbamkklhkhglnaaGreatDoor.TwF

namespace Go.Proofs.YtbamkklhkhglnaaGreatDoor.TsG
open Go.RowKit Go.Lib Go.Proofs.YtbamkklhkhglnaaGreatDoor Go.Proofs.YtbamkklhkhglnaaGreatDoor.Tow Go.Proofs.YtbamkklhkhglnaaGreatDoor.CyA Go.Proofs.YtbamkklhkhglnaaGreatDoor.SplitPlain Go.Proofs.YtbamkklhkhglnaaGreatDoor.TxA Go.Proofs.YtbamkklhkhglnaaGreatDoor.TxB Go.Proofs.YtbamkklhkhglnaaGreatDoor.TxC Go.Proofs.YtbamkklhkhglnaaGreatDoor.TmA Go.Proofs.YtbamkklhkhglnaaGreatDoor.TmB Go.Proofs.YtbamkklhkhglnaaGreatDoor.TiA Go.Proofs.YtbamkklhkhglnaaGreatDoor.TiB Go.Proofs.YtbamkklhkhglnaaGreatDoor.TwC Go.Proofs.YtbamkklhkhglnaaGreatDoor.TrA Go.Proofs.YtbamkklhkhglnaaGreatDoor.TsC Go.Proofs.YtbamkklhkhglnaaGreatDoor.TsD Go.Proofs.YtbamkklhkhglnaaGreatDoor.TsF Go.Proofs.YtbamkklhkhglnaaGreatDoor.TrB Go.Proofs.YtbamkklhkhglnaaGreatDoor.Val Go.Proofs.YtbamkklhkhglnaaGreatDoor.TsE
open Go.Proofs.YtbamkklhkhglnaaGreatDoor.DwB (row3f put3 infoR3)
set_option linter.unusedVariables false
set_option linter.unusedSimpArgs false

theorem cmpn_iff {a b : ByteArray} {t u : List UInt8} (ha : a.data.toList = t) (hb : b.data.toList = u) : (!a.toList == b.toList) = false ↔ t = u := by
  rw [toList_data, toList_data, ha, hb]
  simp
def PaR (t : List UInt8) (w : World) (e : Ending) (w' : World) : Prop := ∃ vO vP vC b, e = .returned (.tuple #[.agg #[vO, vP, vC], .int .i64 (if b = true then 0 else 6)]) ∧ RdN t w b vO vP vC w' ∧ Below w.heap.size w w'
set_option maxRecDepth 100000 in
set_option maxHeartbeats 4000000 in
theorem parse_any (s : ByteArray) (hs : s.size ≤ 100000000) (w : World) :
    Calls Tryz.prog 85 #[.string s] w (PaR s.data.toList w) := by
  obtain ⟨g0, hg0⟩ : ∃ g0, w.heap.size = g0 := ⟨_, rfl⟩
  obtain ⟨w1, hw1⟩ : ∃ w1, w1 = w.alloc (.cells #[nilS, nilS, nilS] 91) := ⟨_, rfl⟩
  have HG0 := Lib.hid hg0
  have HB1 := Lib.hid (show Below w.heap.size w w1 by rw [hw1]; exact (Below.refl _ _).alloc (Nat.le_refl _) _)
  have HS1 := Lib.hid (show w1.heap.size = g0 + 1 by rw [hw1, ← hg0]; simp)
  have HR := Lib.hid (fun (W : World) (hb : Below w1.heap.size w1 W) => show W.heap[g0]? = some (.cells #[nilS, nilS, nilS] 91 (0, 0)) ∧ g0 < W.heap.size from by
    have e : w1.heap[g0]? = some (.cells #[nilS, nilS, nilS] 91 (0, 0)) := by rw [hw1, ← hg0]; exact heap_alloc_new _ _
    exact ⟨(hb.block g0 (by rw [HS1.out]; omega)).trans e, by have := hb.size; rw [HS1.out] at this; omega⟩)
  have HF := Lib.hid (fun (W : World) (hb : Below w1.heap.size w1 W) (hn : ¬ ∃ p, Vl p ∧ txt p = s.data.toList) => show PaR s.data.toList w (.returned (.tuple #[.agg #[nilS, nilS, nilS], .int .i64 6])) (((W.setCell ⟨g0, 0, none⟩ nilS).setCell ⟨g0, 1, none⟩ nilS).setCell ⟨g0, 2, none⟩ nilS) from
    ⟨_, _, _, false, rfl, ⟨.inr ⟨rfl, hn⟩, fun _ => ⟨rfl, rfl, rfl⟩⟩, res_below hg0.symm (HB1.out.trans (hb.mono (by rw [HS1.out]; omega))) _ _ _⟩)
  obtain ⟨L, hL⟩ : ∃ L, parts s 59 = L := ⟨_, rfl⟩
  have HSP := Lib.hid (fun W => Split.split_any s 59 W (by omega))
  have hpl := parts_length_le s 59
  have hp1 := parts_length_pos s 59
  have HSZ := Lib.hid (show ∀ x ∈ L, x.size ≤ s.size from by rw [← hL]; exact parts_size s 59)
  have HSL := Lib.hid (show L.map (·.data.toList) = spL 59 s.data.toList from by rw [← hL]; exact parts_list s 59)
  rw [hL] at HSP hpl hp1
  obtain ⟨m, hm⟩ : ∃ m, L.length = m := ⟨_, rfl⟩
  rw [hm] at HSP hpl hp1
  have HLM := Lib.hid hm
  have h59 : ((59 : UInt8).toNat : Int) = 59 := rfl
  rw [h59] at HSP
  have hm64 : (m : Int) ≤ 100000001 := by omega
  obtain ⟨x0, Lr, rfl⟩ : ∃ x0 Lr, L = x0 :: Lr := by
    match L, hm with
    | [], h => simp at h; omega
    | x :: r, _ => exact ⟨x, r, rfl⟩
  have HT := Lib.hid (show readS s.data.toList = match ordS x0.data.toList with
      | none => none
      | some os => (Lr.map (·.data.toList)).foldlM (stepS os.length) (triv os) from by
    unfold readS
    rw [← HSL.out]
    simp only [List.map_cons]
    cases ordS x0.data.toList <;> rfl)
  have hx0 : x0.size ≤ 100000000 := Nat.le_trans (HSZ.out x0 (by simp)) hs
  have HOR := Lib.hid (fun W => orders_any x0 hx0 W)
  clear hL hm h59
  go_enter Tryz.func85, Tryz.ntmps85
  go_upto_region 1 with fail
  rw [← hw1]
  clear hw1 hg0
  go_upto_region 2 with (first | (go_at_call 104; refine (HSP.out _).mono ?_; rintro e w2 ⟨v, rfl, hO, hb2⟩) | fail)
  obtain ⟨av, cv, rfl, _⟩ := owns_form hO
  have HB2 := Lib.hid (show Below w1.heap.size w1 w2 from hb2)
  have HL := Lib.hid (fun (W : World) (hb : Below w2.heap.size w2 W) (k : Nat) (x : ByteArray) (hk : (x0 :: Lr)[k]? = some x) => show ∃ g, av = some ⟨g, 0, none⟩ ∧ W.cell? ⟨g, k, none⟩ = some (.string x) ∧ g < W.heap.size from by
    obtain ⟨g, c', he, hc1, hgl⟩ := str_at hO hk
    obtain ⟨rfl, rfl⟩ : av = some ⟨g, 0, none⟩ ∧ cv = c' := by simpa using he
    exact ⟨g, rfl, (hb.cell (p := ⟨g, k, none⟩) hgl).trans hc1, Nat.lt_of_lt_of_le hgl hb.size⟩)
  obtain ⟨g, rfl, q0, hgl⟩ := HL.out w2 (Below.refl _ _) 0 x0 rfl
  have HLg := Lib.hid (fun (W : World) (hb : Below w2.heap.size w2 W) (k : Nat) (x : ByteArray) (hk : (x0 :: Lr)[k]? = some x) => show W.cell? ⟨g, k, none⟩ = some (.string x) ∧ g < W.heap.size from by
    obtain ⟨g', eg, h1, h2⟩ := HL.out W hb k x hk
    obtain rfl : g = g' := by simpa using eg
    exact ⟨h1, h2⟩)
  clear hO hb2 HSP HL
  go_upto_region 3 with (first | (go_at_call 105; refine (HOR.out _).mono ?_; rintro e w3 ⟨vo, b3, rfl, hb3, hc3⟩) | fail)
  have HB23 := Lib.hid (show Below w2.heap.size w2 w3 from hb3)
  have HB3 := Lib.hid (show Below w1.heap.size w1 w3 from HB2.out.trans (hb3.mono HB2.out.size))
  clear q0 hgl
  cases b3 with
  | false =>
    have HN := Lib.hid (readS_none (t := s.data.toList) (by
      rw [HT.out]
      rcases hc3 with ⟨h, _⟩ | ⟨_, h⟩
      · exact absurd h (by simp)
      · rw [h]))
    clear hc3 hb3
    obtain ⟨⟨e0, e1, e2⟩, f0, f1, f2⟩ := row3f (HR.out w3 HB3.out).1
    have hgr := (HR.out w3 HB3.out).2
    go_wp2_with fail
    obtain ⟨⟨z0, z1, z2⟩, -⟩ := row3f (put3 (x := nilS) (y := nilS) (z := nilS) (HR.out w3 HB3.out).1)
    exact bodyPost_ret (v := .tuple #[.agg #[nilS, nilS, nilS], .int .i64 6]) (by simp [results, Tryz.results85, go_sem, z0, z1, z2]) rfl (HF.out w3 HB3.out HN.out)
  | true =>
    obtain ⟨os, hos, hown⟩ : ∃ os, ordS x0.data.toList = some os ∧ Own w2.heap.size w3 vo os := by
      rcases hc3 with ⟨_, h⟩ | ⟨h, _⟩
      · exact h
      · exact absurd h (by simp)
    obtain ⟨hprs, hl6⟩ := ordS_ok hos
    have HPR := Lib.hid hprs
    obtain ⟨n, hn⟩ : ∃ n, os.length = n := ⟨_, rfl⟩
    have HN0 := Lib.hid hn
    have HSH := Lib.hid (show Sh n (triv os) from by have := Sh.triv os; rwa [hn] at this)
    have HTV := Lib.hid ((triv_any os vo w3 (hown.sl.mono fun _ _ => trivial) (by omega)).mono (R' := fun e w' => ∃ x1 y1 x2 y2 x3 y3, e = .returned (.agg #[.slice x1 n y1, .slice x2 n y2, .slice x3 n y3]) ∧ PP w3.heap.size w' (.slice x1 n y1) (.slice x2 n y2) (.slice x3 n y3) (triv os) ∧ Below w3.heap.size w3 w') (by
      rintro e w' ⟨vO, vP, vC, rfl, hp, hb⟩
      obtain ⟨x1, y1, x2, y2, x3, y3, e1, e2, e3⟩ := PP.form hp
      rw [HSH.out.os] at e1
      rw [HSH.out.pl] at e2
      rw [HSH.out.cl] at e3
      subst e1
      subst e2
      subst e3
      exact ⟨_, _, _, _, _, _, rfl, hp, hb⟩))
    have HT2 := Lib.hid (show readS s.data.toList = (Lr.map (·.data.toList)).foldlM (stepS n) (triv os) from by rw [HT.out, hos, ← hn])
    rw [hn] at hl6
    clear hc3 hb3 hos hown hprs hn
    obtain ⟨mr, rfl⟩ : ∃ mr, m = mr + 1 := ⟨m - 1, by omega⟩
    have hmr : (mr : Int) ≤ 100000000 := by omega
    have HML := Lib.hid (show Lr.length = mr from by have := HLM.out; simpa using this)
    go_upto_region 6 with (first | (go_at_call 106; refine HTV.out.mono ?_; rintro e w4 ⟨x1, y1, x2, y2, x3, y3, rfl, hpp, hb4⟩) | fail)
    obtain ⟨g7, hg⟩ : ∃ g7, w4.heap.size = g7 := ⟨_, rfl⟩
    obtain ⟨w5, hw5⟩ : ∃ w5, w5 = w4.alloc (.cells #[.slice x1 n y1, .slice x2 n y2, .slice x3 n y3] 91) := ⟨_, rfl⟩
    rw [← hw5, hg]
    have HB35 := Lib.hid (show Below w3.heap.size w3 w5 by rw [hw5]; exact hb4.alloc hb4.size _)
    have HI := Lib.hid (show w5.heap[g7]? = some (.cells #[.slice x1 n y1, .slice x2 n y2, .slice x3 n y3] 91 (0, 0)) ∧ PP w3.heap.size w5 (.slice x1 n y1) (.slice x2 n y2) (.slice x3 n y3) (triv os) from ⟨by rw [hw5, ← hg]; exact heap_alloc_new _ _, by rw [hw5]; exact hpp.below ((Below.refl _ _).alloc (Nat.le_refl _) _)⟩)
    have HGW := Lib.hid (show w3.heap.size ≤ g7 ∧ g7 < w5.heap.size from by rw [hw5, ← hg]; have := hb4.size; simp; omega)
    clear hw5 hg hpp hb4 HTV HOR
    go_wp2_with fail
    go_loopw [8] (fun iv wr => ∃ (k : Nat), k ≤ mr ∧ iv = .int .i64 ((k : Int) + 1) ∧ Hid (∃ q x1 y1 x2 y2 x3 y3, wr.heap[g7]? = some (.cells #[.slice x1 n y1, .slice x2 n y2, .slice x3 n y3] 91 (0, 0)) ∧ PP w3.heap.size wr (.slice x1 n y1) (.slice x2 n y2) (.slice x3 n y3) q ∧ Sh n q ∧ q.os = os ∧ ((Lr.map (·.data.toList)).take k).foldlM (stepS n) (triv os) = some q) ∧ Hid (Below w3.heap.size w3 wr)) (fun iv _ => mr + 1 - (intOf iv).toNat)
    case atStart => exact ⟨0, Nat.zero_le _, rfl, Lib.hid ⟨triv os, x1, y1, x2, y2, x3, y3, HI.out.1, HI.out.2, HSH.out, rfl, rfl⟩, HB35⟩
    case round =>
      clear HI HB35
      obtain ⟨k, hk, rfl, hQ, hB⟩ := hrel
      obtain ⟨q, X1, Y1, X2, Y2, X3, Y3, hq1, hq2, hq3, hq4, hq5⟩ := hQ.out
      have HB1r := Lib.hid (show Below w1.heap.size w1 wr from HB3.out.trans (hB.out.mono HB3.out.size))
      obtain ⟨⟨d0, d1, d2⟩, -⟩ := row3f hq1
      have hg7l : g7 < wr.heap.size := (Array.getElem?_eq_some_iff.1 hq1).1
      by_cases hlt : k < mr
      · have hki : (k : Int) + 1 < (mr : Int) + 1 := by omega
        obtain ⟨x, hx⟩ : ∃ x, Lr[k]? = some x := ⟨_, List.getElem?_eq_getElem (by rw [HML.out]; exact hlt)⟩
        have hxs : x.size ≤ 100000000 := Nat.le_trans (HSZ.out x (List.mem_cons_of_mem _ (List.mem_of_getElem? hx))) hs
        obtain ⟨hc, hcl⟩ := HLg.out wr (HB23.out.trans (hB.out.mono HB23.out.size)) (k + 1) x (by simpa using hx)
        have HXM := Lib.hid (show (Lr.map (·.data.toList))[k]? = some x.data.toList by simp [hx])
        have HRE := Lib.hid (fun (W : World) (hb : Below wr.heap.size wr W) => rel_any n (by omega) q hq3 (by rw [hq4]; exact HPR.out) x hxs X1 X2 X3 Y1 Y2 Y3 W ((hq2.val.mono (S' := Any) fun _ _ => trivial).keep (Keep.of_below hb)))
        have HQ := Lib.hid (And.intro hq1 (And.intro hq2 (And.intro hq3 (And.intro hq4 hq5))))
        clear hq1 hq2 hq3 hq4 hq5 hQ hx
        cases hst : stepS n q x.data.toList with
        | none =>
          have HST := Lib.hid hst
          have HN := Lib.hid (readS_none (t := s.data.toList) (by rw [HT2.out]; exact foldlM_bad HQ.out.2.2.2.2 HXM.out hst))
          clear hst
          go_upto_region 9 with fail
          go_cut [6] (fun v W => v = .bool false ∧ Hid (Below w1.heap.size w1 W))
          case first =>
            have hk0 : ((0 : Int) ≤ (k : Int) + 1) = True := eq_true (by omega)
            go_region_law
              (first | (go_simp; go_at_call 107; refine (HRE.out _ (by first | exact Below.refl _ _ | exact (Below.refl _ _).drew)).mono ?_; rintro e w6 ⟨vO, vP, vC, b, rfl, hb6, hc6⟩; obtain ⟨rfl, a1, c1, a2, c2, a3, c3, rfl, rfl, rfl⟩ : b = false ∧ ∃ a1 c1 a2 c2 a3 c3, vO = .slice a1 n c1 ∧ vP = .slice a2 n c2 ∧ vC = .slice a3 n c3 := (by rcases hc6 with ⟨_, _, h, _⟩ | ⟨h, _, h2⟩; rw [HST.out] at h; cases h; exact ⟨h, h2⟩); have HB6 := Lib.hid (show Below wr.heap.size wr w6 from (by first | exact hb6 | exact ((Below.refl _ _).drew).trans hb6)); have hg6 : g7 < w6.heap.size := Nat.lt_of_lt_of_le hg7l HB6.out.size; obtain ⟨⟨k0, k1, k2⟩, i0, i1, i2⟩ := row3f ((HB6.out.block g7 hg7l).trans HQ.out.1); clear hc6 hb6) | (fail))
            all_goals
              go_wp2_with fail
              go_meet
              exact ⟨rfl, Lib.hid (by
                have h1 : Below w1.heap.size w1 w6 := HB1r.out.trans (HB6.out.mono HB1r.out.size)
                have h2 : w1.heap.size ≤ g7 := Nat.le_trans HB3.out.size HGW.out.1
                exact ((h1.setCell (p := ⟨g7, 0, none⟩) h2 _).setCell (p := ⟨g7, 1, none⟩) h2 _).setCell (p := ⟨g7, 2, none⟩) h2 _)⟩
          case rest =>
            obtain ⟨rfl, HB7⟩ := hcut
            rename World => w7
            obtain ⟨⟨e0, e1, e2⟩, f0, f1, f2⟩ := row3f (HR.out w7 HB7.out).1
            have hgr := (HR.out w7 HB7.out).2
            go_wp2_with fail
            obtain ⟨⟨z0, z1, z2⟩, -⟩ := row3f (put3 (x := nilS) (y := nilS) (z := nilS) (HR.out w7 HB7.out).1)
            exact bodyPost_ret (v := .tuple #[.agg #[nilS, nilS, nilS], .int .i64 6]) (by simp [results, Tryz.results85, go_sem, z0, z1, z2]) rfl (HF.out w7 HB7.out HN.out)
        | some q2 =>
          have HST := Lib.hid hst
          have HS2 := Lib.hid (stepS_sh HQ.out.2.2.1 hst)
          have HFO := Lib.hid (show ((Lr.map (·.data.toList)).take (k + 1)).foldlM (stepS n) (triv os) = some q2 from by rw [foldlM_take HQ.out.2.2.2.2 HXM.out]; exact hst)
          clear hst
          go_upto_region 9 with fail
          go_cut [6] (fun v W => v = .bool true ∧ Hid (∃ x1 y1 x2 y2 x3 y3, W.heap[g7]? = some (.cells #[.slice x1 n y1, .slice x2 n y2, .slice x3 n y3] 91 (0, 0)) ∧ PP w3.heap.size W (.slice x1 n y1) (.slice x2 n y2) (.slice x3 n y3) q2) ∧ Hid (Below w3.heap.size w3 W))
          case first =>
            have hk0 : ((0 : Int) ≤ (k : Int) + 1) = True := eq_true (by omega)
            go_region_law
              (first | (go_simp; go_at_call 107; refine (HRE.out _ (by first | exact Below.refl _ _ | exact (Below.refl _ _).drew)).mono ?_; rintro e w6 ⟨vO, vP, vC, b, rfl, hb6, hc6⟩; obtain ⟨rfl, hpp⟩ : b = true ∧ PP (World.heap _).size w6 vO vP vC q2 := (by rcases hc6 with ⟨h, q', h1, h2⟩ | ⟨_, h, _⟩; rw [HST.out] at h1; cases h1; exact ⟨h, h2⟩; rw [HST.out] at h; cases h); have HB6 := Lib.hid (show Below wr.heap.size wr w6 from (by first | exact hb6 | exact ((Below.refl _ _).drew).trans hb6)); obtain ⟨a1, c1, a2, c2, a3, c3, e1, e2, e3⟩ := PP.form hpp; rw [HS2.out.1.os] at e1; rw [HS2.out.1.pl] at e2; rw [HS2.out.1.cl] at e3; subst e1; subst e2; subst e3; have HPP := Lib.hid (show PP wr.heap.size w6 _ _ _ q2 from (by first | exact hpp | (simpa using hpp))); have hg6 : g7 < w6.heap.size := Nat.lt_of_lt_of_le hg7l HB6.out.size; have HBX := Lib.hid ((HB6.out.block g7 hg7l).trans HQ.out.1); obtain ⟨⟨k0, k1, k2⟩, i0, i1, i2⟩ := row3f HBX.out; clear hc6 hb6) | (fail))
            all_goals
              go_wp2_with fail
              go_meet
              have h1 : Below w3.heap.size w3 w6 := hB.out.trans (HB6.out.mono hB.out.size)
              have h2 : w3.heap.size ≤ g7 := HGW.out.1
              have h3 : ¬ wr.heap.size ≤ g7 := by omega
              exact ⟨rfl, Lib.hid ⟨_, _, _, _, _, _, put3 HBX.out, (HPP.out.keep (S := fun k => wr.heap.size ≤ k) ((((Keep.refl _ _).setCell (p := ⟨g7, 0, none⟩) h3 _).setCell (p := ⟨g7, 1, none⟩) h3 _).setCell (p := ⟨g7, 2, none⟩) h3 _) (fun _ h => h)).mono hB.out.size⟩,
                Lib.hid (((h1.setCell (p := ⟨g7, 0, none⟩) h2 _).setCell (p := ⟨g7, 1, none⟩) h2 _).setCell (p := ⟨g7, 2, none⟩) h2 _)⟩
          case rest =>
            obtain ⟨rfl, HP7, HB7⟩ := hcut
            rename World => w7
            clear HRE hg7l hc hcl d0 d1 d2
            go_wp2_with fail
            go_roundw
            case rel => exact ⟨k + 1, by omega, by go_num, Lib.hid (by obtain ⟨x1, y1, x2, y2, x3, y3, h1, h2⟩ := HP7.out; exact ⟨q2, x1, y1, x2, y2, x3, y3, h1, h2, HS2.out.1, HS2.out.2.trans HQ.out.2.2.2.1, HFO.out⟩), HB7⟩
            case measure => simp [intOf]; omega
      · obtain rfl : mr = k := by omega
        have HFU := Lib.hid (show readS s.data.toList = some q from by
          rw [HT2.out, ← hq5, List.take_of_length_le (by simp [HML.out])])
        have HPQ := Lib.hid (And.intro hq2 hq3)
        have HQW := Lib.hid (fun (W : World) (hb : Below wr.heap.size wr W) => show W.heap[g7]? = some (.cells #[.slice X1 n Y1, .slice X2 n Y2, .slice X3 n Y3] 91 (0, 0)) ∧ g7 < W.heap.size from ⟨(hb.block g7 hg7l).trans hq1, Nat.lt_of_lt_of_le hg7l hb.size⟩)
        have HVW := Lib.hid (fun (W : World) (hb : Below wr.heap.size wr W) => show ValP Any W (.slice X1 n Y1) (.slice X2 n Y2) (.slice X3 n Y3) q.val from (hq2.val.mono (S' := Any) fun _ _ => trivial).keep (Keep.of_below hb))
        have HIP := Lib.hid (fun (W : World) (hb : Below wr.heap.size wr W) => SpecW.isPres_any W _ _ _ q.val (HVW.out W hb))
        have HTX := Lib.hid (fun (hv : Vl q) (W : World) (hb : Below wr.heap.size wr W) => TwF.stxt_any _ q hv.ok _ _ _ W (HVW.out W hb))
        have HBA := Lib.hid (fun (W : World) (hb : Below wr.heap.size wr W) => show Below w1.heap.size w1 W from HB1r.out.trans (hb.mono HB1r.out.size))
        have hki : ¬ (mr : Int) + 1 < (mr : Int) + 1 := by omega
        have H31 := Lib.hid (show w1.heap.size ≤ w3.heap.size from HB3.out.size)
        clear hq1 hq2 hq3 hq4 hq5 hQ hk hlt HML
        go_upto_region 12 with fail
        go_cut [49] (fun v W => (∃ b, v = .bool b ∧ (b = false ↔ Vl q ∧ txt q = s.data.toList)) ∧ Hid (Below wr.heap.size wr W))
        case first =>
          by_cases hv : Vl q
          · have HV := Lib.hid hv
            clear hv
            go_wp2_with (first | (go_at_call 108; refine (HIP.out _ (Below.refl _ _)).mono ?_; rintro e w6 ⟨r, rfl, hr, hb6⟩; obtain rfl : r = true := hr.2 HV.out; have HB6 := Lib.hid hb6; clear hr hb6; obtain ⟨⟨d0, d1, d2⟩, -⟩ := row3f (HQW.out w6 HB6.out).1; have hg7l := (HQW.out w6 HB6.out).2) | (go_at_call 109; refine (HTX.out HV.out _ HB6.out).mono ?_; rintro e w7 ⟨st, rfl, hst, hb7⟩; have HB7 := Lib.hid (HB6.out.trans (hb7.mono HB6.out.size)); have HS := Lib.hid hst; clear hst hb7))
            go_meet
            exact ⟨⟨_, rfl, (cmpn_iff HS.out rfl).trans ⟨fun h => ⟨HV.out, h⟩, fun h => h.2⟩⟩, HB7⟩
          · have HV := Lib.hid hv
            clear hv
            go_wp2_with (go_at_call 108; refine (HIP.out _ (Below.refl _ _)).mono ?_; rintro e w6 ⟨r, rfl, hr, hb6⟩; obtain rfl : r = false := (by cases r with | false => rfl | true => exact absurd (hr.1 rfl) HV.out); have HB6 := Lib.hid hb6; clear hr hb6; obtain ⟨⟨d0, d1, d2⟩, -⟩ := row3f (HQW.out w6 HB6.out).1; have hg7l := (HQW.out w6 HB6.out).2)
            go_meet
            exact ⟨⟨_, rfl, fun h => by simp at h, fun h => absurd h.1 HV.out⟩, HB6⟩
        case rest =>
          obtain ⟨⟨b, rfl, hb⟩, HB8⟩ := hcut
          rename World => w8
          cases b with
          | true =>
            have HN := Lib.hid (readS_some HFU.out fun h => absurd (hb.2 h) (by simp))
            clear hb
            obtain ⟨⟨e0, e1, e2⟩, f0, f1, f2⟩ := row3f (HR.out w8 (HBA.out w8 HB8.out)).1
            have hgr := (HR.out w8 (HBA.out w8 HB8.out)).2
            go_wp2_with fail
            obtain ⟨⟨z0, z1, z2⟩, -⟩ := row3f (put3 (x := nilS) (y := nilS) (z := nilS) (HR.out w8 (HBA.out w8 HB8.out)).1)
            exact bodyPost_ret (v := .tuple #[.agg #[nilS, nilS, nilS], .int .i64 6]) (by simp [results, Tryz.results85, go_sem, z0, z1, z2]) rfl (HF.out w8 (HBA.out w8 HB8.out) HN.out)
          | false =>
            have HY := Lib.hid (hb.1 rfl)
            clear hb
            obtain ⟨⟨e0, e1, e2⟩, f0, f1, f2⟩ := row3f (HR.out w8 (HBA.out w8 HB8.out)).1
            have hgr := (HR.out w8 (HBA.out w8 HB8.out)).2
            obtain ⟨⟨d0, d1, d2⟩, -⟩ := row3f (HQW.out w8 HB8.out).1
            have hg7l := (HQW.out w8 HB8.out).2
            have hne : ¬ g7 = g0 := by have h1 := HS1.out; have h2 := H31.out; have h3 := HGW.out.1; omega
            go_wp2_with fail
            obtain ⟨⟨z0, z1, z2⟩, -⟩ := row3f (put3 (x := .slice X1 n Y1) (y := .slice X2 n Y2) (z := .slice X3 n Y3) (HR.out w8 (HBA.out w8 HB8.out)).1)
            have hk : ¬ w3.heap.size ≤ g0 := by have h1 := HS1.out; have h2 := H31.out; omega
            exact bodyPost_ret (v := .tuple #[.agg #[.slice X1 n Y1, .slice X2 n Y2, .slice X3 n Y3], .int .i64 0]) (by simp [results, Tryz.results85, go_sem, z0, z1, z2]) rfl
              ⟨_, _, _, true, rfl, ⟨.inl ⟨rfl, q, HY.out.1, HY.out.2, ((HPQ.out.1.keep (S := Any) (Keep.of_below HB8.out) fun _ _ => trivial).keep (S := fun k => w3.heap.size ≤ k) ((((Keep.refl _ _).setCell (p := ⟨g0, 0, none⟩) hk _).setCell (p := ⟨g0, 1, none⟩) hk _).setCell (p := ⟨g0, 2, none⟩) hk _) (fun _ h => h)).mono (by have h1 := HS1.out; have h2 := H31.out; have h3 := HG0.out; omega)⟩, fun h => by simp at h⟩,
                res_below HG0.out.symm (HB1.out.trans ((HBA.out w8 HB8.out).mono (by rw [HS1.out, HG0.out]; omega))) _ _ _⟩
end Go.Proofs.YtbamkklhkhglnaaGreatDoor.TsG
namespace Go.Proofs.YtbamkklhkhglnaaGreatDoor.SpecG
open Go.RowKit Go.Proofs.YtbamkklhkhglnaaGreatDoor Go.Proofs.YtbamkklhkhglnaaGreatDoor.Tow Go.Proofs.YtbamkklhkhglnaaGreatDoor.Val Go.Proofs.YtbamkklhkhglnaaGreatDoor.SpecF
set_option linter.unusedVariables false
set_option linter.unusedSimpArgs false

abbrev Any : Nat → Prop := fun _ => True

set_option maxHeartbeats 2000000 in
theorem fault_any (T : Tw) (hT : Wf T) (hs : Small T) (w : World) (vO vP vC : Value) (hP : ValP Any w vO vP vC (ofTw T)) :
    Calls Tryz.prog 110 #[.agg #[vO, vP, vC]] w (LvRes (Tow.Good T) w) := by
  have hs6 := hs.1
  obtain ⟨aO, cO, aP, cP, aC, cC, rfl, rfl, rfl, hO1, hP1, hC1⟩ := hP.open
  have HP := Lib.hid hP
  have HLV := Lib.hid (fun i L hL hg W hP => level_any T hT hs i L hL hg W (.slice aO T.length cO) (.slice aP T.length cP) (.slice aC T.length cC) hP)
  clear hP
  go_enter Tryz.func110, Tryz.ntmps110
  go_wp2_with fail
  go_loopw [3] (fun iv wr => ∃ k : Nat, k ≤ T.length ∧ iv = .int .i64 ((k : Int) - 1) ∧ Hid (Tow.Good (T.drop k)) ∧ Below (w.heap.size + 2) ((w.alloc (.cells #[.slice aO T.length cO, .slice aP T.length cP, .slice aC T.length cC] 91)).alloc (.cells #[.int .i64 0, .int .i64 0, .int .i64 0, .int .i64 0] 154)) wr) (fun iv _ => (intOf iv + 1).toNat)
  case atStart => exact ⟨T.length, Nat.le_refl _, rfl, Lib.hid (by rw [List.drop_length]; trivial), Below.refl _ _⟩
  case round =>
    obtain ⟨k, hk, rfl, hg, hb⟩ := hrel
    obtain ⟨⟨e0, e1, e2⟩, hf, hkk, hbw, hsz⟩ := box2 hb
    have HB := Lib.hid hb
    have HK := Lib.hid hkk
    have HBW := Lib.hid hbw
    have f0 := cell_of_row _ (w.heap.size + 1) 0 _ _ (0, 0) hf
    have f1 := cell_of_row _ (w.heap.size + 1) 1 _ _ (0, 0) hf
    have f2 := cell_of_row _ (w.heap.size + 1) 2 _ _ (0, 0) hf
    have f3 := cell_of_row _ (w.heap.size + 1) 3 _ _ (0, 0) hf
    have z0 := frozen_of_row _ (w.heap.size + 1) 0 _ _ hf
    have z1 := frozen_of_row _ (w.heap.size + 1) 1 _ _ hf
    have z2 := frozen_of_row _ (w.heap.size + 1) 2 _ _ hf
    have z3 := frozen_of_row _ (w.heap.size + 1) 3 _ _ hf
    simp at f0 f1 f2 f3
    clear hb hkk hbw hf
    by_cases h0 : k = 0
    · subst h0
      have hd : decide (((0 : Nat) : Int) - 1 ≥ 0) = false := by decide
      go_wp2_with fail
      exact bodyPost_ret (v := .agg #[.int .i64 0, .int .i64 0, .int .i64 0, .int .i64 0]) (by simp [results, Tryz.results110, go_sem, f0, f1, f2, f3]) rfl
        ⟨0, _, _, _, rfl, ⟨fun _ => hg.out, fun _ => rfl⟩, (((HBW.out.setCell (by simp) _).setCell (by simp) _).setCell (by simp) _).setCell (by simp) _⟩
    · obtain ⟨i, rfl⟩ : ∃ i, k = i + 1 := ⟨k - 1, by omega⟩
      obtain ⟨L, hL⟩ : ∃ L, T[i]? = some L := ⟨_, List.getElem?_eq_getElem (by omega)⟩
      have HL := Lib.hid hL
      have HIF := Lib.hid (show Tow.Good (T.drop i) ↔ LvOk L (T.drop (i + 1)) from by
        rw [drop_cons' hL, Good_cons]
        exact ⟨fun h => h.2, fun h => ⟨hg.out, h⟩⟩)
      have hii : (((i + 1 : Nat) : Int) - 1) = (i : Int) := by omega
      rw [hii]
      clear hL h0 hii
      go_wp2_with fail
      refine (HLV.out i L HL.out hg.out _ (HP.out.keep HK.out)).mono ?_
      rintro e w1 ⟨k, l, a, b, rfl, hif, hbel⟩
      have HIF1 := Lib.hid hif
      have HB1 := Lib.hid (HB.out.trans (hbel.mono hsz))
      clear hbel f0 f1 f2 f3 z0 z1 z2 z3 e0 e1 e2 hif
      have hsz1 : w.heap.size + 2 ≤ w1.heap.size := (box2 HB1.out).2.2.2.2
      by_cases hk0 : k = 0
      · subst hk0
        have HGI := Lib.hid (HIF.out.2 (HIF1.out.1 rfl))
        go_wp2_with fail
        go_roundw
        case rel => exact ⟨i, by omega, rfl, HGI, (HB1.out.alloc (by omega) _)⟩
        case measure => simp [intOf] <;> omega
      · have hkn : (k != 0) = true := by simpa using hk0
        have HN := Lib.hid (show ¬ Tow.Good T from fun h => hk0 (HIF1.out.2 (HIF.out.1 (Good_drop h i))))
        have HK0 := Lib.hid hk0
        clear hk0
        obtain ⟨⟨e0, e1, e2⟩, hf, hkk, hbw, hsz⟩ := box2 HB1.out
        have f0 := cell_of_row _ (w.heap.size + 1) 0 _ _ (0, 0) hf
        have f1 := cell_of_row _ (w.heap.size + 1) 1 _ _ (0, 0) hf
        have f2 := cell_of_row _ (w.heap.size + 1) 2 _ _ (0, 0) hf
        have f3 := cell_of_row _ (w.heap.size + 1) 3 _ _ (0, 0) hf
        have z0 := frozen_of_row _ (w.heap.size + 1) 0 _ _ hf
        have z1 := frozen_of_row _ (w.heap.size + 1) 1 _ _ hf
        have z2 := frozen_of_row _ (w.heap.size + 1) 2 _ _ hf
        have z3 := frozen_of_row _ (w.heap.size + 1) 3 _ _ hf
        simp at f0 f1 f2 f3
        have HBW1 := Lib.hid hbw
        have hlt1 : w.heap.size + 1 < w1.heap.size := by omega
        clear hf hkk hbw
        go_wp2_with fail
        exact bodyPost_ret (v := .agg #[.int .i64 k, .int .i64 l, .int .i64 a, .int .i64 b]) (by simp [results, Tryz.results110, go_sem, f0, f1, f2, f3, hlt1]) rfl
          ⟨k, _, _, _, rfl, ⟨fun h => absurd h HK0.out, fun h => absurd h HN.out⟩, ((((HBW1.out.setCell (by simp) _).setCell (by simp) _).setCell (by simp) _).setCell (by simp) _).alloc (by simp; omega) _⟩
end Go.Proofs.YtbamkklhkhglnaaGreatDoor.SpecG

namespace Go.Proofs.YtbamkklhkhglnaaGreatDoor.SpecH
open Go.RowKit Go.Proofs.YtbamkklhkhglnaaGreatDoor Go.Proofs.YtbamkklhkhglnaaGreatDoor.Tow Go.Proofs.YtbamkklhkhglnaaGreatDoor.Val Go.Proofs.YtbamkklhkhglnaaGreatDoor.SpecF Go.Proofs.YtbamkklhkhglnaaGreatDoor.ImplW Go.Proofs.YtbamkklhkhglnaaGreatDoor.Grps
set_option linter.unusedVariables false
set_option linter.unusedSimpArgs false

set_option maxRecDepth 100000 in
set_option maxHeartbeats 1000000 in
theorem consistent_any (T : Tw) (hT : Wf T) (hs : Small T) (w : World) (vO vP vC : Value) (hP : ValP (fun _ => True) w vO vP vC (ofTw T)) :
    Calls Tryz.prog 86 #[.agg #[vO, vP, vC]] w (ExB (Tow.Good T) w) := by
  have HP := Lib.hid hP
  have HF := Lib.hid (fun W hP => SpecG.fault_any T hT hs W vO vP vC hP)
  clear hP hs hT
  go_enter Tryz.func86, Tryz.ntmps86
  go_wp2_with fail
  have HB : Hid (Below w.heap.size w (w.alloc (.cells #[vO, vP, vC] 91))) := Lib.hid ((Below.refl _ _).alloc (by simp) _)
  refine (HF.out _ (HP.out.keep (Keep.of_below HB.out))).mono ?_
  rintro e w1 ⟨k, l, a, b, rfl, hif, hbel⟩
  have HBW := Lib.hid (HB.out.trans (hbel.mono (by simp)))
  have HIF := Lib.hid hif
  have hfd : ∀ w : World, (Instr.field 154 (.agg #[.int .i64 k, .int .i64 l, .int .i64 a, .int .i64 b]) 0).run Tryz.prog w = .ok (.int .i64 k) w := fun _ => by kernel_rfl
  clear hbel hif
  by_cases hk : k = 0
  · subst hk
    have HY := Lib.hid (HIF.out.1 rfl)
    go_wp2_with fail
    go_ret
    exact ExB_true HY.out HBW.out
  · have hd : (k == 0) = false := by simpa using hk
    have HN := Lib.hid (show ¬ Tow.Good T from fun h => hk (HIF.out.2 h))
    clear hk
    go_wp2_with fail
    go_ret
    exact ExB_false HN.out HBW.out

end Go.Proofs.YtbamkklhkhglnaaGreatDoor.SpecH

namespace Go.Proofs.YtbamkklhkhglnaaGreatDoor.LbH
open Go.RowKit Go.Lib Go.Proofs.YtbamkklhkhglnaaGreatDoor Go.Proofs.YtbamkklhkhglnaaGreatDoor.Tow Go.Proofs.YtbamkklhkhglnaaGreatDoor.CyA Go.Proofs.YtbamkklhkhglnaaGreatDoor.LbE Go.Proofs.YtbamkklhkhglnaaGreatDoor.TmA Go.Proofs.YtbamkklhkhglnaaGreatDoor.TrA Go.Proofs.YtbamkklhkhglnaaGreatDoor.TrB Go.Proofs.YtbamkklhkhglnaaGreatDoor.TsG Go.Proofs.YtbamkklhkhglnaaGreatDoor.TxA Go.Proofs.YtbamkklhkhglnaaGreatDoor.TxB Go.Proofs.YtbamkklhkhglnaaGreatDoor.TxC Go.Proofs.YtbamkklhkhglnaaGreatDoor.Val Go.Proofs.YtbamkklhkhglnaaGreatDoor.Grps Go.Proofs.YtbamkklhkhglnaaGreatDoor.ImplW
open Go.Proofs.YtbamkklhkhglnaaGreatDoor.DwB (row3f put3)
set_option linter.unusedVariables false
set_option linter.unusedSimpArgs false

set_option maxRecDepth 100000 in
set_option maxHeartbeats 2000000 in
theorem spGT_any (s : ByteArray) (hs : s.size ≤ 100000000) (w : World) :
    Calls Tryz.prog 62 #[.string s] w (ExB (GrpT s.data.toList) w) := by
  have HR := Lib.hid (fun W => parse_any s hs W)
  go_enter Tryz.func62, Tryz.ntmps62
  go_upto_region 2 with (first | (go_at_call 85; refine (HR.out _).mono ?_; rintro e w1 ⟨vO, vP, vC, b, rfl, hrd, hb1⟩; obtain ⟨a1, n1, c1, a2, n2, c2, a3, n3, c3, rfl, rfl, rfl⟩ := rdn_form hrd) | fail)
  obtain ⟨w2, hw2⟩ : ∃ w2, w1.alloc (.cells #[.slice a1 n1 c1, .slice a2 n2 c2, .slice a3 n3 c3] 91) = w2 := ⟨_, rfl⟩
  obtain ⟨g, hg⟩ : ∃ g, w1.heap.size = g := ⟨_, rfl⟩
  rw [hw2, hg]
  have hB2 : Below w.heap.size w w2 := by rw [← hw2]; exact hb1.alloc hb1.size _
  have hrow : w2.heap[g]? = some (.cells #[.slice a1 n1 c1, .slice a2 n2 c2, .slice a3 n3 c3] 91 (0, 0)) := by rw [← hw2, ← hg]; exact World.alloc_heap_new w1 _
  obtain ⟨⟨d0, d1, d2⟩, -⟩ := row3f hrow
  have hgl := (Array.getElem?_eq_some_iff.1 hrow).1
  cases b with
  | false =>
    have HN := Lib.hid (show ¬ GrpT s.data.toList from fun ⟨p, h1, _, h2⟩ => by
      rcases hrd.1 with ⟨h, _⟩ | ⟨_, h⟩
      · exact absurd h (by simp)
      · exact h ⟨p, h1, h2⟩)
    clear hrd hw2 hg hrow
    go_wp2_with fail
    go_ret
    exact ExB_false HN.out hB2
  | true =>
    obtain ⟨p, hp, ht, hpp⟩ : ∃ p, Vl p ∧ txt p = s.data.toList ∧ PP w.heap.size w1 (.slice a1 n1 c1) (.slice a2 n2 c2) (.slice a3 n3 c3) p := by
      rcases hrd.1 with ⟨_, h⟩ | ⟨h, _⟩
      · exact h
      · exact absurd h (by simp)
    have hI : GrpT s.data.toList ↔ Grp p.val := ⟨fun ⟨q, h1, h2, h3⟩ => by rw [txt_inj hp h1 (ht.trans h3.symm)]; exact h2, fun h => ⟨p, hp, h, ht⟩⟩
    have hV : ValP Any w2 (.slice a1 n1 c1) (.slice a2 n2 c2) (.slice a3 n3 c3) p.val := by rw [← hw2]; exact (hpp.val.mono (S' := Any) fun _ _ => trivial).keep ((Keep.refl _ w1).alloc _)
    have hvl : Valid p.val := hp
    obtain ⟨T, hT, hsm, hpT⟩ := hvl.tower
    have HI := Lib.hid (show GrpT s.data.toList ↔ Tow.Good T from hI.trans ⟨fun h => by rw [hpT] at h; exact h.good, fun h => by rw [hpT]; exact ⟨T, hT, hsm, rfl, by rw [← hpT]; exact hvl, h⟩⟩)
    rw [hpT] at hV
    have HG := Lib.hid (SpecH.consistent_any T hT hsm w2 _ _ _ (hV.mono (S' := fun _ => True) fun _ _ => trivial))
    clear hrd hw2 hg hrow hpp hI hV hvl hT hsm hpT
    go_wp2_with (go_at_call 86; refine HG.out.mono ?_; rintro e w3 ⟨r, rfl, hr, hb3⟩)
    go_ret
    exact ⟨r, rfl, hr.trans HI.out.symm, hB2.trans (hb3.mono hB2.size)⟩
end Go.Proofs.YtbamkklhkhglnaaGreatDoor.LbH

namespace Go.Proofs.YtbamkklhkhglnaaGreatDoor.LbJ
open Go.RowKit Go.Lib Go.Proofs.YtbamkklhkhglnaaGreatDoor Go.Proofs.YtbamkklhkhglnaaGreatDoor.Tow Go.Proofs.YtbamkklhkhglnaaGreatDoor.CyA Go.Proofs.YtbamkklhkhglnaaGreatDoor.LbC Go.Proofs.YtbamkklhkhglnaaGreatDoor.LbP Go.Proofs.YtbamkklhkhglnaaGreatDoor.LbD Go.Proofs.YtbamkklhkhglnaaGreatDoor.LbE Go.Proofs.YtbamkklhkhglnaaGreatDoor.LbF Go.Proofs.YtbamkklhkhglnaaGreatDoor.LbG Go.Proofs.YtbamkklhkhglnaaGreatDoor.LbH Go.Proofs.YtbamkklhkhglnaaGreatDoor.LbN Go.Proofs.YtbamkklhkhglnaaGreatDoor.TmA Go.Proofs.YtbamkklhkhglnaaGreatDoor.TrA Go.Proofs.YtbamkklhkhglnaaGreatDoor.TrB Go.Proofs.YtbamkklhkhglnaaGreatDoor.TxA Go.Proofs.YtbamkklhkhglnaaGreatDoor.TxB Go.Proofs.YtbamkklhkhglnaaGreatDoor.TxC Go.Proofs.YtbamkklhkhglnaaGreatDoor.Val Go.Proofs.YtbamkklhkhglnaaGreatDoor.Grps Go.Proofs.YtbamkklhkhglnaaGreatDoor.ImplW
open Go.Proofs.YtbamkklhkhglnaaGreatDoor.DwB (row3f put3)
set_option linter.unusedVariables false
set_option linter.unusedSimpArgs false

set_option maxRecDepth 100000 in
set_option maxHeartbeats 8000000 in
theorem ops_any (k : Int) (tx mk : ByteArray) (hs : tx.size ≤ 100000000) (w : World) :
    Calls Tryz.prog 49 #[.agg #[.int .i64 k, .string tx, .string mk]] w (OpR k tx.data.toList mk.data.toList w) := by
  have HPL := Lib.hid (fun W => pl_any tx W)
  have HGT := Lib.hid (fun W => spGT_any tx hs W)
  have HLT := Lib.hid (fun W => slet_any tx W)
  have HMK := Lib.hid (fun W => smk_any mk W)
  obtain ⟨g0, hg0⟩ : ∃ g0, w.heap.size = g0 := ⟨_, rfl⟩
  obtain ⟨w1, hw1⟩ : ∃ w1, w1 = w.alloc (.cells #[.int .i64 k, .string tx, .string mk] 63) := ⟨_, rfl⟩
  have HB1 := Lib.hid (show Below w.heap.size w w1 by rw [hw1]; exact (Below.refl _ _).alloc (Nat.le_refl _) _)
  have HC := Lib.hid (fun (W : World) (hb : Below w1.heap.size w1 W) => show g0 < W.heap.size ∧ W.cell? ⟨g0, 0, none⟩ = some (.int .i64 k) ∧ W.cell? ⟨g0, 1, none⟩ = some (.string tx) ∧ W.cell? ⟨g0, 2, none⟩ = some (.string mk) from by
    have e : w1.heap[g0]? = some (.cells #[.int .i64 k, .string tx, .string mk] 63 (0, 0)) := by rw [hw1, ← hg0]; exact heap_alloc_new _ _
    have hl := (Array.getElem?_eq_some_iff.1 e).1
    exact ⟨Nat.lt_of_lt_of_le hl hb.size, (row3f ((hb.block g0 hl).trans e)).1⟩)
  have HM0 := Lib.hid (show (mk.toList == []) = decide (mk.data.toList = []) from by rw [toList_data, Bool.eq_iff_iff]; simp)
  have HT0 := Lib.hid (show (tx.toList == []) = decide (tx.data.toList = []) from by rw [toList_data, Bool.eq_iff_iff]; simp)
  generalize tx.data.toList = t at *
  generalize mk.data.toList = mm at *
  obtain ⟨hgl, q0, q1, q2⟩ := HC.out w1 (Below.refl _ _)
  go_enter Tryz.func49, Tryz.ntmps49
  go_upto_region 1 with fail
  rw [← hw1]
  clear hw1 hg0
  by_cases e0 : k = 0
  · subst e0
    by_cases h1 : (rowN t).isSome = true
    · have HX := Lib.hid h1
      clear h1
      by_cases h2 : mm = []
      · have HX2 := Lib.hid h2
        have mb : (mk.toList == []) = true := by rw [HM0.out]; simpa using h2
        clear h2
        have HO := Lib.hid (show opnd 0 t mm = 0 from opnd_lo (.inl ⟨rfl, HX.out, HX2.out⟩))
        go_wp2_with (go_at_call 61; refine (HPL.out _).mono ?_; rintro e wN ⟨n1, n2, rfl, hbN⟩; rw [if_pos HX.out]; have HBN := Lib.hid hbN; clear hbN; obtain ⟨hgl, q0, q1, q2⟩ := HC.out wN HBN.out)
        go_ret
        exact ⟨by rw [HO.out] <;> rfl, HB1.out.trans (HBN.out.mono HB1.out.size)⟩
      · have HX2 := Lib.hid h2
        have mb : (mk.toList == []) = false := by rw [HM0.out]; simpa using h2
        clear h2
        have HO := Lib.hid (show opnd 0 t mm = -1 from opnd_no (fun h => HX2.out h.2.2) (fun h => by have := h.1; omega) (fun h => by have := h.1; omega) (fun h => by have := h.1; omega) (fun h => by have := h.1; omega))
        go_wp2_with (go_at_call 61; refine (HPL.out _).mono ?_; rintro e wN ⟨n1, n2, rfl, hbN⟩; rw [if_pos HX.out]; have HBN := Lib.hid hbN; clear hbN; obtain ⟨hgl, q0, q1, q2⟩ := HC.out wN HBN.out)
        go_ret
        exact ⟨by rw [HO.out] <;> rfl, HB1.out.trans (HBN.out.mono HB1.out.size)⟩
    · have HX := Lib.hid h1
      clear h1
      have HO := Lib.hid (show opnd 0 t mm = -1 from opnd_no (fun h => HX.out h.2.1) (fun h => by have := h.1; omega) (fun h => by have := h.1; omega) (fun h => by have := h.1; omega) (fun h => by have := h.1; omega))
      go_wp2_with (go_at_call 61; refine (HPL.out _).mono ?_; rintro e wN ⟨n1, n2, rfl, hbN⟩; rw [if_neg HX.out]; have HBN := Lib.hid hbN; clear hbN; obtain ⟨hgl, q0, q1, q2⟩ := HC.out wN HBN.out)
      go_ret
      exact ⟨by rw [HO.out] <;> rfl, HB1.out.trans (HBN.out.mono HB1.out.size)⟩
  by_cases e1 : k = 1
  · subst e1
    by_cases h1 : GrpT t
    · have HX := Lib.hid h1
      clear h1
      by_cases h2 : mm = []
      · have HX2 := Lib.hid h2
        have mb : (mk.toList == []) = true := by rw [HM0.out]; simpa using h2
        clear h2
        have HO := Lib.hid (show opnd 1 t mm = 0 from opnd_lo (.inr (.inl ⟨rfl, HX.out, HX2.out⟩)))
        go_wp2_with (go_at_call 62; refine (HGT.out _).mono ?_; rintro e wN ⟨r, rfl, hr, hbN⟩; obtain rfl : r = true := hr.2 HX.out; clear hr; have HBN := Lib.hid hbN; clear hbN; obtain ⟨hgl, q0, q1, q2⟩ := HC.out wN HBN.out)
        go_ret
        exact ⟨by rw [HO.out] <;> rfl, HB1.out.trans (HBN.out.mono HB1.out.size)⟩
      · have HX2 := Lib.hid h2
        have mb : (mk.toList == []) = false := by rw [HM0.out]; simpa using h2
        clear h2
        have HO := Lib.hid (show opnd 1 t mm = -1 from opnd_no (fun h => by have := h.1; omega) (fun h => HX2.out h.2.2) (fun h => by have := h.1; omega) (fun h => by have := h.1; omega) (fun h => by have := h.1; omega))
        go_wp2_with (go_at_call 62; refine (HGT.out _).mono ?_; rintro e wN ⟨r, rfl, hr, hbN⟩; obtain rfl : r = true := hr.2 HX.out; clear hr; have HBN := Lib.hid hbN; clear hbN; obtain ⟨hgl, q0, q1, q2⟩ := HC.out wN HBN.out)
        go_ret
        exact ⟨by rw [HO.out] <;> rfl, HB1.out.trans (HBN.out.mono HB1.out.size)⟩
    · have HX := Lib.hid h1
      clear h1
      have HO := Lib.hid (show opnd 1 t mm = -1 from opnd_no (fun h => by have := h.1; omega) (fun h => HX.out h.2.1) (fun h => by have := h.1; omega) (fun h => by have := h.1; omega) (fun h => by have := h.1; omega))
      go_wp2_with (go_at_call 62; refine (HGT.out _).mono ?_; rintro e wN ⟨r, rfl, hr, hbN⟩; obtain rfl : r = false := (by cases r with | false => rfl | true => exact absurd (hr.1 rfl) HX.out); clear hr; have HBN := Lib.hid hbN; clear hbN; obtain ⟨hgl, q0, q1, q2⟩ := HC.out wN HBN.out)
      go_ret
      exact ⟨by rw [HO.out] <;> rfl, HB1.out.trans (HBN.out.mono HB1.out.size)⟩
  by_cases e2 : k = 2
  · subst e2
    by_cases h1 : isLt t = true
    · have HX := Lib.hid h1
      clear h1
      by_cases h2 : mm = []
      · have HX2 := Lib.hid h2
        have mb : (mk.toList == []) = true := by rw [HM0.out]; simpa using h2
        clear h2
        have HO := Lib.hid (show opnd 2 t mm = 0 from opnd_lo (.inr (.inr ⟨rfl, HX.out, HX2.out⟩)))
        go_wp2_with (go_at_call 63; refine (HLT.out _).mono ?_; rintro e wN ⟨rfl, rfl⟩; rw [HX.out]; have HBN := Lib.hid (Below.refl wN.heap.size wN))
        go_ret
        exact ⟨by rw [HO.out] <;> rfl, HB1.out.trans (HBN.out.mono HB1.out.size)⟩
      · have HX2 := Lib.hid h2
        have mb : (mk.toList == []) = false := by rw [HM0.out]; simpa using h2
        clear h2
        have HO := Lib.hid (show opnd 2 t mm = -1 from opnd_no (fun h => by have := h.1; omega) (fun h => by have := h.1; omega) (fun h => HX2.out h.2.2) (fun h => by have := h.1; omega) (fun h => by have := h.1; omega))
        go_wp2_with (go_at_call 63; refine (HLT.out _).mono ?_; rintro e wN ⟨rfl, rfl⟩; rw [HX.out]; have HBN := Lib.hid (Below.refl wN.heap.size wN))
        go_ret
        exact ⟨by rw [HO.out] <;> rfl, HB1.out.trans (HBN.out.mono HB1.out.size)⟩
    · have HX := Lib.hid h1
      clear h1
      have HO := Lib.hid (show opnd 2 t mm = -1 from opnd_no (fun h => by have := h.1; omega) (fun h => by have := h.1; omega) (fun h => HX.out h.2.1) (fun h => by have := h.1; omega) (fun h => by have := h.1; omega))
      go_wp2_with (go_at_call 63; refine (HLT.out _).mono ?_; rintro e wN ⟨rfl, rfl⟩; rw [Bool.eq_false_iff.2 HX.out]; have HBN := Lib.hid (Below.refl wN.heap.size wN))
      go_ret
      exact ⟨by rw [HO.out] <;> rfl, HB1.out.trans (HBN.out.mono HB1.out.size)⟩
  by_cases e3 : k = 3
  · subst e3
    by_cases h1 : t = []
    · have HX := Lib.hid h1
      have tb : (tx.toList == []) = true := by rw [HT0.out]; simpa using h1
      clear h1
      by_cases h2 : mm = []
      · have HX2 := Lib.hid h2
        have mb : (mk.toList == []) = true := by rw [HM0.out]; simpa using h2
        clear h2
        have HO := Lib.hid (show opnd 3 t mm = 2 from opnd_3 ⟨rfl, HX.out, HX2.out⟩)
        go_wp2_with fail
        go_ret
        exact ⟨by rw [HO.out] <;> rfl, HB1.out⟩
      · have HX2 := Lib.hid h2
        have mb : (mk.toList == []) = false := by rw [HM0.out]; simpa using h2
        clear h2
        have HO := Lib.hid (show opnd 3 t mm = -1 from opnd_no (fun h => by have := h.1; omega) (fun h => by have := h.1; omega) (fun h => by have := h.1; omega) (fun h => HX2.out h.2.2) (fun h => by have := h.1; omega))
        go_wp2_with fail
        go_ret
        exact ⟨by rw [HO.out] <;> rfl, HB1.out⟩
    · have HX := Lib.hid h1
      have tb : (tx.toList == []) = false := by rw [HT0.out]; simpa using h1
      clear h1
      have HO := Lib.hid (show opnd 3 t mm = -1 from opnd_no (fun h => by have := h.1; omega) (fun h => by have := h.1; omega) (fun h => by have := h.1; omega) (fun h => HX.out h.2.1) (fun h => by have := h.1; omega))
      go_wp2_with fail
      go_ret
      exact ⟨by rw [HO.out] <;> rfl, HB1.out⟩
  by_cases e4 : k = 4
  · subst e4
    by_cases h1 : t = []
    · have HX := Lib.hid h1
      have tb : (tx.toList == []) = true := by rw [HT0.out]; simpa using h1
      clear h1
      by_cases h2 : isMk mm = true
      · have HX2 := Lib.hid h2
        clear h2
        have HO := Lib.hid (show opnd 4 t mm = 1 from opnd_4 ⟨by omega, HX.out, HX2.out⟩)
        go_wp2_with (go_at_call 56; refine (HMK.out _).mono ?_; rintro e wN ⟨rfl, rfl⟩; rw [HX2.out]; have HBN := Lib.hid (Below.refl wN.heap.size wN))
        go_ret
        exact ⟨by rw [HO.out] <;> rfl, HB1.out.trans (HBN.out.mono HB1.out.size)⟩
      · have HX2 := Lib.hid h2
        clear h2
        have HO := Lib.hid (show opnd 4 t mm = -1 from opnd_no (fun h => by have := h.1; omega) (fun h => by have := h.1; omega) (fun h => by have := h.1; omega) (fun h => by have := h.1; omega) (fun h => HX2.out h.2.2))
        go_wp2_with (go_at_call 56; refine (HMK.out _).mono ?_; rintro e wN ⟨rfl, rfl⟩; rw [Bool.eq_false_iff.2 HX2.out]; have HBN := Lib.hid (Below.refl wN.heap.size wN))
        go_ret
        exact ⟨by rw [HO.out] <;> rfl, HB1.out.trans (HBN.out.mono HB1.out.size)⟩
    · have HX := Lib.hid h1
      have tb : (tx.toList == []) = false := by rw [HT0.out]; simpa using h1
      clear h1
      have HO := Lib.hid (show opnd 4 t mm = -1 from opnd_no (fun h => by have := h.1; omega) (fun h => by have := h.1; omega) (fun h => by have := h.1; omega) (fun h => by have := h.1; omega) (fun h => HX.out h.2.1))
      go_wp2_with fail
      go_ret
      exact ⟨by rw [HO.out] <;> rfl, HB1.out⟩
  by_cases e5 : k = 5
  · subst e5
    by_cases h1 : t = []
    · have HX := Lib.hid h1
      have tb : (tx.toList == []) = true := by rw [HT0.out]; simpa using h1
      clear h1
      by_cases h2 : isMk mm = true
      · have HX2 := Lib.hid h2
        clear h2
        have HO := Lib.hid (show opnd 5 t mm = 1 from opnd_4 ⟨by omega, HX.out, HX2.out⟩)
        go_wp2_with (go_at_call 56; refine (HMK.out _).mono ?_; rintro e wN ⟨rfl, rfl⟩; rw [HX2.out]; have HBN := Lib.hid (Below.refl wN.heap.size wN))
        go_ret
        exact ⟨by rw [HO.out] <;> rfl, HB1.out.trans (HBN.out.mono HB1.out.size)⟩
      · have HX2 := Lib.hid h2
        clear h2
        have HO := Lib.hid (show opnd 5 t mm = -1 from opnd_no (fun h => by have := h.1; omega) (fun h => by have := h.1; omega) (fun h => by have := h.1; omega) (fun h => by have := h.1; omega) (fun h => HX2.out h.2.2))
        go_wp2_with (go_at_call 56; refine (HMK.out _).mono ?_; rintro e wN ⟨rfl, rfl⟩; rw [Bool.eq_false_iff.2 HX2.out]; have HBN := Lib.hid (Below.refl wN.heap.size wN))
        go_ret
        exact ⟨by rw [HO.out] <;> rfl, HB1.out.trans (HBN.out.mono HB1.out.size)⟩
    · have HX := Lib.hid h1
      have tb : (tx.toList == []) = false := by rw [HT0.out]; simpa using h1
      clear h1
      have HO := Lib.hid (show opnd 5 t mm = -1 from opnd_no (fun h => by have := h.1; omega) (fun h => by have := h.1; omega) (fun h => by have := h.1; omega) (fun h => by have := h.1; omega) (fun h => HX.out h.2.1))
      go_wp2_with fail
      go_ret
      exact ⟨by rw [HO.out] <;> rfl, HB1.out⟩
  have HK := Lib.hid (And.intro e0 (And.intro e1 (And.intro e2 (And.intro e3 (And.intro e4 e5)))))
  have b0 : (k == 0) = false := beq_eq_false_iff_ne.2 e0
  have b1 : (k == 1) = false := beq_eq_false_iff_ne.2 e1
  have b2 : (k == 2) = false := beq_eq_false_iff_ne.2 e2
  have b3 : (k == 3) = false := beq_eq_false_iff_ne.2 e3
  have b4 : (k == 4) = false := beq_eq_false_iff_ne.2 e4
  have b5 : (k == 5) = false := beq_eq_false_iff_ne.2 e5
  have HO := Lib.hid (show opnd k t mm = -1 from opnd_no (fun h => e0 h.1) (fun h => e1 h.1) (fun h => e2 h.1) (fun h => e3 h.1) (fun h => h.1.elim e4 e5))
  clear e0 e1 e2 e3 e4 e5
  go_wp2_with fail
  go_ret
  exact ⟨by rw [HO.out] <;> rfl, HB1.out⟩
end Go.Proofs.YtbamkklhkhglnaaGreatDoor.LbJ

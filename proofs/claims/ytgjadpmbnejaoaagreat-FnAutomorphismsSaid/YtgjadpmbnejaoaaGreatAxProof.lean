/-
  WHAT IS PROVED: the law FnAutomorphisms holds of the given program for every input: the call returns true, and its arguments read afterwards as before.
  CONDITIONS: none; nothing else is assumed.
-/
import Derived.Test.YtgjadpmbnejaoaaGreatRows
import Derived.Test.YtgjadpmbnejaoaaGreatZG
import Derived.WalkKit
import Derived.ProofKit
import Derived.OpenShut
import Derived.ShutString
import Derived.ChangeOld
import Derived.Below
import Derived.Carry
import Derived.Deep.DeepHandedRow
import Derived.Deep.DeepWitnessRowRef
import Derived.Lib.LaidTab
import Derived.Stop.LaidErr
import Derived.Lay
namespace Go.Proofs.YtgjadpmbnejaoaaGreat.vS
open Go.ChangeShapes Go.WideShapes Go.ChangeAt Go.RowKit
open Go.ChangeMaps (open_string shut_string)
set_option linter.unusedVariables false
set_option linter.unusedSimpArgs false

theorem own : ownKnob Tryz.prog.godebug = none := by kernel_rfl
theorem laidOut : laidOutB Tryz.prog = true := by kernel_rfl

set_option maxRecDepth 100000 in
theorem contract (H : Type) (enc : TypeId × Value → H) (W : World) (base : Nat) (B : Array Value) (J V : List (DataW H)) (Y : List MemPlace)
    (I : ∀ (j : Nat) t v, Tryz.f3.params[j]? = some t → B[j]? = some v → Value.okWide Tryz.prog W .any base t v)
    (D : DataW.Whole enc Tryz.prog Tryz.f3.params.toList Rows.fnAutomorphismsSpec.vars false W B.toList J V Y) :
    Calls Tryz.prog 3 B W fun e O => ∃ v, e = .returned v ∧ Rows.fnAutomorphismsSpec.post enc Tryz.prog Tryz.f3 false true false false W B v O := by
  have a := D
  obtain ⟨p, q, S, l, rfl, a2, z⟩ := D
  have K : DataW.TrodAll enc Tryz.prog W 0 (fun _ => true) true Tryz.f3.params.toList B.toList J p := S
  rw [Tryz.params3] at K I
  obtain ⟨N, a1, y, s, g, r, u, rfl, rfl, C, U⟩ := trodAll_cons K
  obtain ⟨rfl, rfl, rfl⟩ := trodAll_nil U
  obtain rfl : B = #[N] := by cases B; simp_all
  obtain ⟨rfl, rfl⟩ := trodVars_none l
  have F := C
  have Q : ∀ x ∈ g, x.block < W.heap.size := by obtain ⟨m, b⟩ := F; exact DataW.trod_lt m _ _ _ b
  obtain ⟨d, Z, R, rfl⟩ := okWide_slice Tryz.underlying22 (I 0 22 N rfl rfl)
  have X := dU.iF C
  refine (dV.law d Z R W X).mono fun e O ⟨i, L⟩ => ?_
  subst i
  exact ⟨_, rfl, _, _, _, [], _, [], a, trodAll_mk1 (shut_bool Tryz.underlying4 _), (trodAll_cons_mk (Below.trod laidOut (by kernel_rfl) (of_decide_eq_true (by kernel_rfl)) F L Q) trodAll_mk0), rfl, L.frame _, fun h => by cases h⟩

set_option maxRecDepth 100000 in
theorem reads (os : Os) {H : Type} (enc : TypeId × Value → H) : ∃ B, DataW.whole enc Tryz.prog ((World.laidAll Tryz.prog os []).forCall (fun _ _ => 0) ⟨#[], #[(.slice none 0 0 : Value)], []⟩).memory Tryz.f3.params.toList Rows.fnAutomorphismsSpec.vars false (#[(.slice none 0 0 : Value)] : Array Value).toList 8 = some ([.nil], [], B) :=
  ⟨[], by kernel_rfl⟩

set_option maxRecDepth 100000 in
theorem lifted (os : Os) (D : os.Started) (H : Type) (enc : TypeId × Value → H) (F : Stop.Interp) :
    ReturnsInHanded {} Tryz.checked os 3 .any ((OpenSpec.ofChange Rows.fnAutomorphismsSpec).preRow enc Tryz.prog Tryz.f3 Rows.fnAutomorphismsRow.domain false Rows.fnAutomorphismsRow.laid) (((OpenSpec.ofChange Rows.fnAutomorphismsSpec).at F).post enc Tryz.prog Tryz.f3 false true false false) := by
  obtain ⟨S, I⟩ := reads os enc
  refine returnsInHanded_of_row (C := Tryz.checked) (s := (OpenSpec.ofChange Rows.fnAutomorphismsSpec)) own D (by kernel_rfl) Tryz.func3
    (witness_row_atRef (enc := enc) (C := Tryz.checked) false (World.laidAll Tryz.prog os []) #[(.slice none 0 0 : Value)] (World.laidAll_os _ _ _) (by kernel_rfl) (by kernel_rfl) (by kernel_rfl)
      (OpenSpec.preRow_of_cond 8 I (by kernel_rfl) (fun k K => by cases K) (by kernel_rfl) (laidMetH_nil _ _))) ?_
  intro W base B O L Q N J _ R _ V U _
  exact contract H enc W base B O L Q N J

theorem said : Rows.FnAutomorphismsSaid :=
  OpenClaim.holds_of_cond 3 Tryz.f3 rfl rfl rfl rfl rfl rfl rfl ⟨rfl, rfl, rfl, rfl, rfl⟩ rfl rfl rfl rfl rfl (by kernel_rfl) Tryz.func3 (by kernel_rfl)
    (of_decide_eq_true (by kernel_rfl)) (by unfold Func.isWrapper; first | (rw [if_pos (by decide +kernel)]; kernel_rfl) | (rw [if_neg (by decide +kernel)]; exact ⟨rfl, rfl⟩))
    (fun os B H enc _ F => by rw [OpenClaim.pre_eq_preRow]; exact lifted os B H enc F)

theorem proved : Rows.FnAutomorphismsSaid := said
#print axioms proved
end Go.Proofs.YtgjadpmbnejaoaaGreat.vS

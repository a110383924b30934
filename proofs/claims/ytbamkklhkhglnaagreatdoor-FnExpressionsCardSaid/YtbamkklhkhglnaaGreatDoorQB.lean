/-
  A region that draws its order, whose operations only read and whose callees leave all old blocks as they were ('Below'): one walk in the order of the text.
-/
import Derived.BigQuiet
import Derived.Below
import Derived.WalkSmall
namespace Go.Proofs.YtbamkklhkhglnaaGreatDoor
open Go.RowKit
set_option linter.unusedVariables false

/-- the worlds that leave every block below B as it is in w0 -/
def BW (B : Nat) (w0 : World) := { w' : World // Below B w0 w' }
instance BW.ne (B : Nat) (w0 : World) : Nonempty (BW B w0) := ⟨⟨w0, Below.refl _ _⟩⟩

theorem wp_region_below {P : Program} {id : Nat} {Q : Exit → Act → World → Prop} {a : Act} {w : World} {l : List Oper} (B : Nat) (w0 : World) (hw : Below B w0 w) (hm : P.follows .mixedOrders = true) (hB : Region.lexB .any l.toArray = true)
    (h : wpQuiet P l.toArray (fun w' => ∃ x : BW B w0, w' = x.1) (fun a' => ∀ w', (∃ x : BW B w0, w' = x.1) → Q .normal a' w') l a) : (Code.region id l.toArray true).wp P Q a w :=
  wp_region_quiet (C := fun w' => ∃ x : BW B w0, w' = x.1) hm hB ⟨⟨_, hw.drew⟩, rfl⟩ (by simpa using h)

theorem calls_below {P : Program} {f : FuncId} {args : Array Value} {B : Nat} {w0 : World} {x : BW B w0} {v : Value} (hB : B ≤ w0.heap.size)
    (h : Calls P f args x.1 fun e w' => e = .returned v ∧ Below x.1.heap.size x.1 w') : Calls P f args x.1 fun e w'' => e = .returned v ∧ ∃ y : BW B w0, w'' = y.1 :=
  h.mono fun _ w' ⟨he, hb⟩ => ⟨he, ⟨w', x.2.trans (hb.mono (Nat.le_trans hB x.2.size))⟩, rfl⟩
theorem calls_same {P : Program} {f : FuncId} {args : Array Value} {B : Nat} {w0 : World} {x : BW B w0} {v : Value}
    (h : Calls P f args x.1 fun e w' => e = .returned v ∧ x.1 = w') : Calls P f args x.1 fun e w'' => e = .returned v ∧ ∃ y : BW B w0, w'' = y.1 :=
  h.mono fun _ w' ⟨he, hb⟩ => ⟨he, x, hb.symm⟩
theorem calls_drawn {P : Program} {f : FuncId} {args : Array Value} {B : Nat} {w0 : World} {x : BW B w0} {v : Value}
    (h : Calls P f args x.1 fun e w' => e = .returned v ∧ ∃ n, w' = x.1.drewN n) : Calls P f args x.1 fun e w'' => e = .returned v ∧ ∃ y : BW B w0, w'' = y.1 :=
  h.mono fun _ w' ⟨he, n, hb⟩ => ⟨he, ⟨w', by rw [hb]; exact below_drewN x.2 n⟩, rfl⟩
theorem bcell {W w1 : World} (hb : Below W.heap.size W w1) : (∀ b o, b < W.heap.size → w1.cell? ⟨b, o, none⟩ = W.cell? ⟨b, o, none⟩) ∧ (∀ b o, b < W.heap.size → w1.frozen? ⟨b, o, none⟩ = W.frozen? ⟨b, o, none⟩) :=
  ⟨fun b o h => hb.cell (p := ⟨b, o, none⟩) h, fun b o h => hb.frozen (p := ⟨b, o, none⟩) h⟩
end Go.Proofs.YtbamkklhkhglnaaGreatDoor

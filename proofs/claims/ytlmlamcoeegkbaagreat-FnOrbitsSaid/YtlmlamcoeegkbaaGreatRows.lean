/-
  No cell of these rows narrows 'for every input' (looked for: loops, veiled, ifaces, maps, wideKeys, modest, calm, conditions, laid).
  DERIVED. THE GIVEN ROWS OF THIS SEAT. 3 by the template 'for every input the law returns true; each argument reads behind the call as it read before'; 0 by the template 'total and deterministic' (their statements: YtlmlamcoeegkbaaGreatTotals.lean).
  GIVEN WITH THE SEED: the statements are not yours to turn. If you find one false, say at which input.
  Laid BY PROGRAM, IN A SANDBOX (cutbox-rows.mjs): the forced cells as the released guide's own fill.sh prints them over the translation 6b082f343994b2bc… (all of the seat's roots in one cut). By AI agents, Wed Nov 11 2026. No macro, syntax, notation, axiom, sorry.
-/
import Derived.Test.YtlmlamcoeegkbaaGreatChecked
import GoSem.Claim
import GoSem.ClaimJoined
import GoSem.ClaimMapViews
import Derived.JoinedTies
import Derived.KernelRfl
namespace Go.Proofs.YtlmlamcoeegkbaaGreat
/- THE CELL 'sum', in the pinned program and in every row, IS THE sha256 OF THE DUMP (.gsa) THAT YtlmlamcoeegkbaaGreatProg.lean LOADS. Nothing in Lean hashes anything: it is a label: what it is worth is what the hold of that sum in a sandbox is worth. -/
noncomputable def Tryz.pinned : Pinned := { name := "ytlmlamcoeegkbaagreat", sum := "6b082f343994b2bc891de5f54d63c2885f66f286e9fee5138bccfe323c55fd4e", checked := Tryz.checked }
namespace Rows
def none {H : Type} : Left H := { results := [], args := [] }

/-- 'laws.FnStandardForms': WHATEVER THE INPUT: true; the input reads as it did. -/
def fnStandardFormsSpec : ChangeSpec := { name := "fnStandardForms", fn := fun _ => fun
  | [d] => { results := [.lit (.bool true)], args := [d] }
  | _ => none }
def fnStandardFormsRow : OpenClaim := { program := "ytlmlamcoeegkbaagreat", sum := "6b082f343994b2bc891de5f54d63c2885f66f286e9fee5138bccfe323c55fd4e", func := "loop.example/g01076/laws.FnStandardForms", spec := "fnStandardForms", unfollowed := true, recurses := true, apart := false }
def FnStandardFormsSaid : Prop := fnStandardFormsRow.holds Tryz.pinned (OpenSpec.ofChange fnStandardFormsSpec)

/-- ITS FALSE NEIGHBOUR: 'it returns false'. Refute it at one input. -/
def fnStandardFormsWrong : ChangeSpec := { name := "fnStandardForms", fn := fun _ => fun
  | [d] => { results := [.lit (.bool false)], args := [d] }
  | _ => none }
def FnStandardFormsWrongFalsely : Prop := fnStandardFormsRow.holds Tryz.pinned (OpenSpec.ofChange fnStandardFormsWrong)

/-- 'laws.FnOrbits': WHATEVER THE INPUT: true; the input reads as it did. -/
def fnOrbitsSpec : ChangeSpec := { name := "fnOrbits", fn := fun _ => fun
  | [d] => { results := [.lit (.bool true)], args := [d] }
  | _ => none }
def fnOrbitsRow : OpenClaim := { program := "ytlmlamcoeegkbaagreat", sum := "6b082f343994b2bc891de5f54d63c2885f66f286e9fee5138bccfe323c55fd4e", func := "loop.example/g01076/laws.FnOrbits", spec := "fnOrbits", inPlace := ["slices.overlaps[[]int64]"], unfollowed := true, recurses := true, apart := false }
def FnOrbitsSaid : Prop := fnOrbitsRow.holds Tryz.pinned (OpenSpec.ofChange fnOrbitsSpec)

/-- ITS FALSE NEIGHBOUR: 'it returns false'. Refute it at one input. -/
def fnOrbitsWrong : ChangeSpec := { name := "fnOrbits", fn := fun _ => fun
  | [d] => { results := [.lit (.bool false)], args := [d] }
  | _ => none }
def FnOrbitsWrongFalsely : Prop := fnOrbitsRow.holds Tryz.pinned (OpenSpec.ofChange fnOrbitsWrong)

/-- 'laws.FnStandard': WHATEVER THE INPUT: true; the input reads as it did. -/
def fnStandardSpec : ChangeSpec := { name := "fnStandard", fn := fun _ => fun
  | [d] => { results := [.lit (.bool true)], args := [d] }
  | _ => none }
def fnStandardRow : OpenClaim := { program := "ytlmlamcoeegkbaagreat", sum := "6b082f343994b2bc891de5f54d63c2885f66f286e9fee5138bccfe323c55fd4e", func := "loop.example/g01076/laws.FnStandard", spec := "fnStandard", unfollowed := true, recurses := true, apart := false }
def FnStandardSaid : Prop := fnStandardRow.holds Tryz.pinned (OpenSpec.ofChange fnStandardSpec)

/-- ITS FALSE NEIGHBOUR: 'it returns false'. Refute it at one input. -/
def fnStandardWrong : ChangeSpec := { name := "fnStandard", fn := fun _ => fun
  | [d] => { results := [.lit (.bool false)], args := [d] }
  | _ => none }
def FnStandardWrongFalsely : Prop := fnStandardRow.holds Tryz.pinned (OpenSpec.ofChange fnStandardWrong)

/- THE SECOND FORM. 'bulk': how many values and letters a reading holds, each counted each time it is reached (what is shared counts as often as it is met; a slice's spare places count too). A statement '..UptoSaid' is the law's where the arguments, and the package variables that the reading takes, are together of bulk at most 1048576: NARROWER than '..Said'. Prove '..Said' where nothing that the law and all that it calls make is longer than what came in: it says more and counts as full. Else prove '..UptoSaid'. A law counts once. -/
mutual
def uptoBulk {H : Type} : DataW H → Nat
  | .lit (.string bytes) => bytes.length + 1
  | .lit _ => 1
  | .nil => 1
  | .ptr d => uptoBulk d + 1
  | .slice elems spare => uptoBulkAll elems + uptoBulkAll spare + 1
  | .agg parts => uptoBulkAll parts + 1
  | .iface _ d => uptoBulk d + 1
  | .map entries => uptoBulkEntries entries + 1
  | .held _ => 1
def uptoBulkAll {H : Type} : List (DataW H) → Nat
  | [] => 0
  | d :: r => uptoBulk d + uptoBulkAll r
def uptoBulkEntries {H : Type} : List (Lit × DataW H) → Nat
  | [] => 0
  | x :: r => uptoBulkEntry x + uptoBulkEntries r
def uptoBulkEntry {H : Type} : Lit × DataW H → Nat
  | (.string bytes, d) => bytes.length + uptoBulk d + 1
  | (_, d) => uptoBulk d + 1
 end
def uptoSmall : (H : Type) → List (DataW H) → Bool := fun _ ds => decide (uptoBulkAll ds ≤ 1048576)
def OpenSpec.upto (s : _root_.Go.ChangeSpec) : _root_.Go.OpenSpec := { _root_.Go.OpenSpec.ofChange s with cond := some uptoSmall }

/-- 'laws.FnStandardForms', WHERE WHAT IT READS IS OF BULK AT MOST 1048576: true; the input reads as it did. -/
def fnStandardFormsUptoRow : OpenClaim := { program := "ytlmlamcoeegkbaagreat", sum := "6b082f343994b2bc891de5f54d63c2885f66f286e9fee5138bccfe323c55fd4e", func := "loop.example/g01076/laws.FnStandardForms", spec := "fnStandardForms", unfollowed := true, recurses := true, apart := false, narrowed := true }
def FnStandardFormsUptoSaid : Prop := fnStandardFormsUptoRow.holds Tryz.pinned (OpenSpec.upto fnStandardFormsSpec)

/-- 'laws.FnOrbits', WHERE WHAT IT READS IS OF BULK AT MOST 1048576: true; the input reads as it did. -/
def fnOrbitsUptoRow : OpenClaim := { program := "ytlmlamcoeegkbaagreat", sum := "6b082f343994b2bc891de5f54d63c2885f66f286e9fee5138bccfe323c55fd4e", func := "loop.example/g01076/laws.FnOrbits", spec := "fnOrbits", inPlace := ["slices.overlaps[[]int64]"], unfollowed := true, recurses := true, apart := false, narrowed := true }
def FnOrbitsUptoSaid : Prop := fnOrbitsUptoRow.holds Tryz.pinned (OpenSpec.upto fnOrbitsSpec)

/-- 'laws.FnStandard', WHERE WHAT IT READS IS OF BULK AT MOST 1048576: true; the input reads as it did. -/
def fnStandardUptoRow : OpenClaim := { program := "ytlmlamcoeegkbaagreat", sum := "6b082f343994b2bc891de5f54d63c2885f66f286e9fee5138bccfe323c55fd4e", func := "loop.example/g01076/laws.FnStandard", spec := "fnStandard", unfollowed := true, recurses := true, apart := false, narrowed := true }
def FnStandardUptoSaid : Prop := fnStandardUptoRow.holds Tryz.pinned (OpenSpec.upto fnStandardSpec)

end Rows
end Go.Proofs.YtlmlamcoeegkbaaGreat

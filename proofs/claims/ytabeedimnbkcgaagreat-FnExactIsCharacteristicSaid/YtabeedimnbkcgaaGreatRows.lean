/-
  No cell of these rows narrows 'for every input' (looked for: loops, veiled, ifaces, maps, wideKeys, modest, calm, conditions, laid).
  DERIVED. THE GIVEN ROWS OF THIS SEAT. 9 by the template 'for every input the law returns true; each argument reads behind the call as it read before'; 0 by the template 'total and deterministic' (their statements: YtabeedimnbkcgaaGreatTotals.lean).
  GIVEN WITH THE SEED: the statements are not yours to turn. If you find one false, say at which input.
  Laid BY PROGRAM, IN A SANDBOX (cutbox-rows.mjs): the forced cells as the released guide's own fill.sh prints them over the translation 319accff66984a7a… (all of the seat's roots in one cut). By AI agents, Wed Nov 11 2026. No macro, syntax, notation, axiom, sorry.
-/
import Derived.Test.YtabeedimnbkcgaaGreatChecked
import GoSem.Claim
import GoSem.ClaimJoined
import GoSem.ClaimMapViews
import Derived.JoinedTies
import Derived.KernelRfl
namespace Go.Proofs.YtabeedimnbkcgaaGreat
/- THE CELL 'sum', in the pinned program and in every row, IS THE sha256 OF THE DUMP (.gsa) THAT YtabeedimnbkcgaaGreatProg.lean LOADS. Nothing in Lean hashes anything: it is a label: what it is worth is what the hold of that sum in a sandbox is worth. -/
noncomputable def Tryz.pinned : Pinned := { name := "ytabeedimnbkcgaagreat", sum := "319accff66984a7aefe66a328e12fd2a74b092363753feb4bf37a789f82d53db", checked := Tryz.checked }
namespace Rows
def none {H : Type} : Left H := { results := [], args := [] }

/-- 'laws.FnExactCountAutomorphisms': WHATEVER THE INPUT: true; the input reads as it did. -/
def fnExactCountAutomorphismsSpec : ChangeSpec := { name := "fnExactCountAutomorphisms", fn := fun _ => fun
  | [d] => { results := [.lit (.bool true)], args := [d] }
  | _ => none }
def fnExactCountAutomorphismsRow : OpenClaim := { program := "ytabeedimnbkcgaagreat", sum := "319accff66984a7aefe66a328e12fd2a74b092363753feb4bf37a789f82d53db", func := "loop.example/g01076/laws.FnExactCountAutomorphisms", spec := "fnExactCountAutomorphisms", unfollowed := true, recurses := true, apart := false }
def FnExactCountAutomorphismsSaid : Prop := fnExactCountAutomorphismsRow.holds Tryz.pinned (OpenSpec.ofChange fnExactCountAutomorphismsSpec)

/-- ITS FALSE NEIGHBOUR: 'it returns false'. Refute it at one input. -/
def fnExactCountAutomorphismsWrong : ChangeSpec := { name := "fnExactCountAutomorphisms", fn := fun _ => fun
  | [d] => { results := [.lit (.bool false)], args := [d] }
  | _ => none }
def FnExactCountAutomorphismsWrongFalsely : Prop := fnExactCountAutomorphismsRow.holds Tryz.pinned (OpenSpec.ofChange fnExactCountAutomorphismsWrong)

/-- 'laws.FnExactCountIsomorphisms': WHATEVER THE INPUT: true; the input reads as it did. -/
def fnExactCountIsomorphismsSpec : ChangeSpec := { name := "fnExactCountIsomorphisms", fn := fun _ => fun
  | [d1, d2] => { results := [.lit (.bool true)], args := [d1, d2] }
  | _ => none }
def fnExactCountIsomorphismsRow : OpenClaim := { program := "ytabeedimnbkcgaagreat", sum := "319accff66984a7aefe66a328e12fd2a74b092363753feb4bf37a789f82d53db", func := "loop.example/g01076/laws.FnExactCountIsomorphisms", spec := "fnExactCountIsomorphisms", unfollowed := true, recurses := true, apart := false }
def FnExactCountIsomorphismsSaid : Prop := fnExactCountIsomorphismsRow.holds Tryz.pinned (OpenSpec.ofChange fnExactCountIsomorphismsSpec)

/-- ITS FALSE NEIGHBOUR: 'it returns false'. Refute it at one input. -/
def fnExactCountIsomorphismsWrong : ChangeSpec := { name := "fnExactCountIsomorphisms", fn := fun _ => fun
  | [d1, d2] => { results := [.lit (.bool false)], args := [d1, d2] }
  | _ => none }
def FnExactCountIsomorphismsWrongFalsely : Prop := fnExactCountIsomorphismsRow.holds Tryz.pinned (OpenSpec.ofChange fnExactCountIsomorphismsWrong)

/-- 'laws.FnExactFindIsomorphism': WHATEVER THE INPUT: true; the input reads as it did. -/
def fnExactFindIsomorphismSpec : ChangeSpec := { name := "fnExactFindIsomorphism", fn := fun _ => fun
  | [d1, d2] => { results := [.lit (.bool true)], args := [d1, d2] }
  | _ => none }
def fnExactFindIsomorphismRow : OpenClaim := { program := "ytabeedimnbkcgaagreat", sum := "319accff66984a7aefe66a328e12fd2a74b092363753feb4bf37a789f82d53db", func := "loop.example/g01076/laws.FnExactFindIsomorphism", spec := "fnExactFindIsomorphism", unfollowed := true, recurses := true, apart := false }
def FnExactFindIsomorphismSaid : Prop := fnExactFindIsomorphismRow.holds Tryz.pinned (OpenSpec.ofChange fnExactFindIsomorphismSpec)

/-- ITS FALSE NEIGHBOUR: 'it returns false'. Refute it at one input. -/
def fnExactFindIsomorphismWrong : ChangeSpec := { name := "fnExactFindIsomorphism", fn := fun _ => fun
  | [d1, d2] => { results := [.lit (.bool false)], args := [d1, d2] }
  | _ => none }
def FnExactFindIsomorphismWrongFalsely : Prop := fnExactFindIsomorphismRow.holds Tryz.pinned (OpenSpec.ofChange fnExactFindIsomorphismWrong)

/-- 'laws.FnExactAllAutomorphisms': WHATEVER THE INPUT: true; the input reads as it did. -/
def fnExactAllAutomorphismsSpec : ChangeSpec := { name := "fnExactAllAutomorphisms", fn := fun _ => fun
  | [d] => { results := [.lit (.bool true)], args := [d] }
  | _ => none }
def fnExactAllAutomorphismsRow : OpenClaim := { program := "ytabeedimnbkcgaagreat", sum := "319accff66984a7aefe66a328e12fd2a74b092363753feb4bf37a789f82d53db", func := "loop.example/g01076/laws.FnExactAllAutomorphisms", spec := "fnExactAllAutomorphisms", unfollowed := true, recurses := true, apart := false }
def FnExactAllAutomorphismsSaid : Prop := fnExactAllAutomorphismsRow.holds Tryz.pinned (OpenSpec.ofChange fnExactAllAutomorphismsSpec)

/-- ITS FALSE NEIGHBOUR: 'it returns false'. Refute it at one input. -/
def fnExactAllAutomorphismsWrong : ChangeSpec := { name := "fnExactAllAutomorphisms", fn := fun _ => fun
  | [d] => { results := [.lit (.bool false)], args := [d] }
  | _ => none }
def FnExactAllAutomorphismsWrongFalsely : Prop := fnExactAllAutomorphismsRow.holds Tryz.pinned (OpenSpec.ofChange fnExactAllAutomorphismsWrong)

/-- 'laws.FnExactProveIsomorphic': WHATEVER THE INPUT: true; the input reads as it did. -/
def fnExactProveIsomorphicSpec : ChangeSpec := { name := "fnExactProveIsomorphic", fn := fun _ => fun
  | [d1, d2] => { results := [.lit (.bool true)], args := [d1, d2] }
  | _ => none }
def fnExactProveIsomorphicRow : OpenClaim := { program := "ytabeedimnbkcgaagreat", sum := "319accff66984a7aefe66a328e12fd2a74b092363753feb4bf37a789f82d53db", func := "loop.example/g01076/laws.FnExactProveIsomorphic", spec := "fnExactProveIsomorphic", unfollowed := true, recurses := true, apart := false }
def FnExactProveIsomorphicSaid : Prop := fnExactProveIsomorphicRow.holds Tryz.pinned (OpenSpec.ofChange fnExactProveIsomorphicSpec)

/-- ITS FALSE NEIGHBOUR: 'it returns false'. Refute it at one input. -/
def fnExactProveIsomorphicWrong : ChangeSpec := { name := "fnExactProveIsomorphic", fn := fun _ => fun
  | [d1, d2] => { results := [.lit (.bool false)], args := [d1, d2] }
  | _ => none }
def FnExactProveIsomorphicWrongFalsely : Prop := fnExactProveIsomorphicRow.holds Tryz.pinned (OpenSpec.ofChange fnExactProveIsomorphicWrong)

/-- 'laws.FnExactCountOrbits': WHATEVER THE INPUT: true; the input reads as it did. -/
def fnExactCountOrbitsSpec : ChangeSpec := { name := "fnExactCountOrbits", fn := fun _ => fun
  | [d] => { results := [.lit (.bool true)], args := [d] }
  | _ => none }
def fnExactCountOrbitsRow : OpenClaim := { program := "ytabeedimnbkcgaagreat", sum := "319accff66984a7aefe66a328e12fd2a74b092363753feb4bf37a789f82d53db", func := "loop.example/g01076/laws.FnExactCountOrbits", spec := "fnExactCountOrbits", inPlace := ["slices.overlaps[[]int64]"], unfollowed := true, recurses := true, apart := false }
def FnExactCountOrbitsSaid : Prop := fnExactCountOrbitsRow.holds Tryz.pinned (OpenSpec.ofChange fnExactCountOrbitsSpec)

/-- ITS FALSE NEIGHBOUR: 'it returns false'. Refute it at one input. -/
def fnExactCountOrbitsWrong : ChangeSpec := { name := "fnExactCountOrbits", fn := fun _ => fun
  | [d] => { results := [.lit (.bool false)], args := [d] }
  | _ => none }
def FnExactCountOrbitsWrongFalsely : Prop := fnExactCountOrbitsRow.holds Tryz.pinned (OpenSpec.ofChange fnExactCountOrbitsWrong)

/-- 'laws.FnExactIsCharacteristic': WHATEVER THE INPUT: true; the input reads as it did. -/
def fnExactIsCharacteristicSpec : ChangeSpec := { name := "fnExactIsCharacteristic", fn := fun _ => fun
  | [d1, d2] => { results := [.lit (.bool true)], args := [d1, d2] }
  | _ => none }
def fnExactIsCharacteristicRow : OpenClaim := { program := "ytabeedimnbkcgaagreat", sum := "319accff66984a7aefe66a328e12fd2a74b092363753feb4bf37a789f82d53db", func := "loop.example/g01076/laws.FnExactIsCharacteristic", spec := "fnExactIsCharacteristic", unfollowed := true, recurses := true, apart := false }
def FnExactIsCharacteristicSaid : Prop := fnExactIsCharacteristicRow.holds Tryz.pinned (OpenSpec.ofChange fnExactIsCharacteristicSpec)

/-- ITS FALSE NEIGHBOUR: 'it returns false'. Refute it at one input. -/
def fnExactIsCharacteristicWrong : ChangeSpec := { name := "fnExactIsCharacteristic", fn := fun _ => fun
  | [d1, d2] => { results := [.lit (.bool false)], args := [d1, d2] }
  | _ => none }
def FnExactIsCharacteristicWrongFalsely : Prop := fnExactIsCharacteristicRow.holds Tryz.pinned (OpenSpec.ofChange fnExactIsCharacteristicWrong)

/-- 'laws.FnExactElementOrbit': WHATEVER THE INPUT: true; the input reads as it did. -/
def fnExactElementOrbitSpec : ChangeSpec := { name := "fnExactElementOrbit", fn := fun _ => fun
  | [d1, d2] => { results := [.lit (.bool true)], args := [d1, d2] }
  | _ => none }
def fnExactElementOrbitRow : OpenClaim := { program := "ytabeedimnbkcgaagreat", sum := "319accff66984a7aefe66a328e12fd2a74b092363753feb4bf37a789f82d53db", func := "loop.example/g01076/laws.FnExactElementOrbit", spec := "fnExactElementOrbit", inPlace := ["slices.overlaps[[]int64]"], unfollowed := true, recurses := true, apart := false }
def FnExactElementOrbitSaid : Prop := fnExactElementOrbitRow.holds Tryz.pinned (OpenSpec.ofChange fnExactElementOrbitSpec)

/-- ITS FALSE NEIGHBOUR: 'it returns false'. Refute it at one input. -/
def fnExactElementOrbitWrong : ChangeSpec := { name := "fnExactElementOrbit", fn := fun _ => fun
  | [d1, d2] => { results := [.lit (.bool false)], args := [d1, d2] }
  | _ => none }
def FnExactElementOrbitWrongFalsely : Prop := fnExactElementOrbitRow.holds Tryz.pinned (OpenSpec.ofChange fnExactElementOrbitWrong)

/-- 'laws.FnExactCountCopies': WHATEVER THE INPUT: true; the input reads as it did. -/
def fnExactCountCopiesSpec : ChangeSpec := { name := "fnExactCountCopies", fn := fun _ => fun
  | [d1, d2] => { results := [.lit (.bool true)], args := [d1, d2] }
  | _ => none }
def fnExactCountCopiesRow : OpenClaim := { program := "ytabeedimnbkcgaagreat", sum := "319accff66984a7aefe66a328e12fd2a74b092363753feb4bf37a789f82d53db", func := "loop.example/g01076/laws.FnExactCountCopies", spec := "fnExactCountCopies", unfollowed := true, recurses := true, apart := false }
def FnExactCountCopiesSaid : Prop := fnExactCountCopiesRow.holds Tryz.pinned (OpenSpec.ofChange fnExactCountCopiesSpec)

/-- ITS FALSE NEIGHBOUR: 'it returns false'. Refute it at one input. -/
def fnExactCountCopiesWrong : ChangeSpec := { name := "fnExactCountCopies", fn := fun _ => fun
  | [d1, d2] => { results := [.lit (.bool false)], args := [d1, d2] }
  | _ => none }
def FnExactCountCopiesWrongFalsely : Prop := fnExactCountCopiesRow.holds Tryz.pinned (OpenSpec.ofChange fnExactCountCopiesWrong)

/- THE SECOND FORM. 'bulk': how many values and letters a reading holds, each counted each time it is reached (what is shared counts as often as it is met; a slice's spare places count too). A statement '..UptoSaid' is the law's where the arguments, and the package variables that the reading takes, are together of bulk at most 1048576: NARROWER than '..Said'. Prove '..Said' where nothing that the law and all that it calls make is longer than what came in: it says more and counts as full. Else prove '..UptoSaid'. A law counts once. -/
mutual
def uptoBulk {H : Type} : DataW H → Nat
  | .lit (.string bytes) => bytes.length + 1
  | .lit _ => 1
  | .nil => 1
  | .ptr d => uptoBulk d + 1
  | .slice elems spare => uptoBulkAll elems + uptoBulkAll spare + 1
  | .agg parts => uptoBulkAll parts + 1
  | .iface _ d => uptoBulk d + 1
  | .map entries => uptoBulkEntries entries + 1
  | .held _ => 1
def uptoBulkAll {H : Type} : List (DataW H) → Nat
  | [] => 0
  | d :: r => uptoBulk d + uptoBulkAll r
def uptoBulkEntries {H : Type} : List (Lit × DataW H) → Nat
  | [] => 0
  | x :: r => uptoBulkEntry x + uptoBulkEntries r
def uptoBulkEntry {H : Type} : Lit × DataW H → Nat
  | (.string bytes, d) => bytes.length + uptoBulk d + 1
  | (_, d) => uptoBulk d + 1
 end
def uptoSmall : (H : Type) → List (DataW H) → Bool := fun _ ds => decide (uptoBulkAll ds ≤ 1048576)
def OpenSpec.upto (s : _root_.Go.ChangeSpec) : _root_.Go.OpenSpec := { _root_.Go.OpenSpec.ofChange s with cond := some uptoSmall }

/-- 'laws.FnExactCountAutomorphisms', WHERE WHAT IT READS IS OF BULK AT MOST 1048576: true; the input reads as it did. -/
def fnExactCountAutomorphismsUptoRow : OpenClaim := { program := "ytabeedimnbkcgaagreat", sum := "319accff66984a7aefe66a328e12fd2a74b092363753feb4bf37a789f82d53db", func := "loop.example/g01076/laws.FnExactCountAutomorphisms", spec := "fnExactCountAutomorphisms", unfollowed := true, recurses := true, apart := false, narrowed := true }
def FnExactCountAutomorphismsUptoSaid : Prop := fnExactCountAutomorphismsUptoRow.holds Tryz.pinned (OpenSpec.upto fnExactCountAutomorphismsSpec)

/-- 'laws.FnExactCountIsomorphisms', WHERE WHAT IT READS IS OF BULK AT MOST 1048576: true; the input reads as it did. -/
def fnExactCountIsomorphismsUptoRow : OpenClaim := { program := "ytabeedimnbkcgaagreat", sum := "319accff66984a7aefe66a328e12fd2a74b092363753feb4bf37a789f82d53db", func := "loop.example/g01076/laws.FnExactCountIsomorphisms", spec := "fnExactCountIsomorphisms", unfollowed := true, recurses := true, apart := false, narrowed := true }
def FnExactCountIsomorphismsUptoSaid : Prop := fnExactCountIsomorphismsUptoRow.holds Tryz.pinned (OpenSpec.upto fnExactCountIsomorphismsSpec)

/-- 'laws.FnExactFindIsomorphism', WHERE WHAT IT READS IS OF BULK AT MOST 1048576: true; the input reads as it did. -/
def fnExactFindIsomorphismUptoRow : OpenClaim := { program := "ytabeedimnbkcgaagreat", sum := "319accff66984a7aefe66a328e12fd2a74b092363753feb4bf37a789f82d53db", func := "loop.example/g01076/laws.FnExactFindIsomorphism", spec := "fnExactFindIsomorphism", unfollowed := true, recurses := true, apart := false, narrowed := true }
def FnExactFindIsomorphismUptoSaid : Prop := fnExactFindIsomorphismUptoRow.holds Tryz.pinned (OpenSpec.upto fnExactFindIsomorphismSpec)

/-- 'laws.FnExactAllAutomorphisms', WHERE WHAT IT READS IS OF BULK AT MOST 1048576: true; the input reads as it did. -/
def fnExactAllAutomorphismsUptoRow : OpenClaim := { program := "ytabeedimnbkcgaagreat", sum := "319accff66984a7aefe66a328e12fd2a74b092363753feb4bf37a789f82d53db", func := "loop.example/g01076/laws.FnExactAllAutomorphisms", spec := "fnExactAllAutomorphisms", unfollowed := true, recurses := true, apart := false, narrowed := true }
def FnExactAllAutomorphismsUptoSaid : Prop := fnExactAllAutomorphismsUptoRow.holds Tryz.pinned (OpenSpec.upto fnExactAllAutomorphismsSpec)

/-- 'laws.FnExactProveIsomorphic', WHERE WHAT IT READS IS OF BULK AT MOST 1048576: true; the input reads as it did. -/
def fnExactProveIsomorphicUptoRow : OpenClaim := { program := "ytabeedimnbkcgaagreat", sum := "319accff66984a7aefe66a328e12fd2a74b092363753feb4bf37a789f82d53db", func := "loop.example/g01076/laws.FnExactProveIsomorphic", spec := "fnExactProveIsomorphic", unfollowed := true, recurses := true, apart := false, narrowed := true }
def FnExactProveIsomorphicUptoSaid : Prop := fnExactProveIsomorphicUptoRow.holds Tryz.pinned (OpenSpec.upto fnExactProveIsomorphicSpec)

/-- 'laws.FnExactCountOrbits', WHERE WHAT IT READS IS OF BULK AT MOST 1048576: true; the input reads as it did. -/
def fnExactCountOrbitsUptoRow : OpenClaim := { program := "ytabeedimnbkcgaagreat", sum := "319accff66984a7aefe66a328e12fd2a74b092363753feb4bf37a789f82d53db", func := "loop.example/g01076/laws.FnExactCountOrbits", spec := "fnExactCountOrbits", inPlace := ["slices.overlaps[[]int64]"], unfollowed := true, recurses := true, apart := false, narrowed := true }
def FnExactCountOrbitsUptoSaid : Prop := fnExactCountOrbitsUptoRow.holds Tryz.pinned (OpenSpec.upto fnExactCountOrbitsSpec)

/-- 'laws.FnExactIsCharacteristic', WHERE WHAT IT READS IS OF BULK AT MOST 1048576: true; the input reads as it did. -/
def fnExactIsCharacteristicUptoRow : OpenClaim := { program := "ytabeedimnbkcgaagreat", sum := "319accff66984a7aefe66a328e12fd2a74b092363753feb4bf37a789f82d53db", func := "loop.example/g01076/laws.FnExactIsCharacteristic", spec := "fnExactIsCharacteristic", unfollowed := true, recurses := true, apart := false, narrowed := true }
def FnExactIsCharacteristicUptoSaid : Prop := fnExactIsCharacteristicUptoRow.holds Tryz.pinned (OpenSpec.upto fnExactIsCharacteristicSpec)

/-- 'laws.FnExactElementOrbit', WHERE WHAT IT READS IS OF BULK AT MOST 1048576: true; the input reads as it did. -/
def fnExactElementOrbitUptoRow : OpenClaim := { program := "ytabeedimnbkcgaagreat", sum := "319accff66984a7aefe66a328e12fd2a74b092363753feb4bf37a789f82d53db", func := "loop.example/g01076/laws.FnExactElementOrbit", spec := "fnExactElementOrbit", inPlace := ["slices.overlaps[[]int64]"], unfollowed := true, recurses := true, apart := false, narrowed := true }
def FnExactElementOrbitUptoSaid : Prop := fnExactElementOrbitUptoRow.holds Tryz.pinned (OpenSpec.upto fnExactElementOrbitSpec)

/-- 'laws.FnExactCountCopies', WHERE WHAT IT READS IS OF BULK AT MOST 1048576: true; the input reads as it did. -/
def fnExactCountCopiesUptoRow : OpenClaim := { program := "ytabeedimnbkcgaagreat", sum := "319accff66984a7aefe66a328e12fd2a74b092363753feb4bf37a789f82d53db", func := "loop.example/g01076/laws.FnExactCountCopies", spec := "fnExactCountCopies", unfollowed := true, recurses := true, apart := false, narrowed := true }
def FnExactCountCopiesUptoSaid : Prop := fnExactCountCopiesUptoRow.holds Tryz.pinned (OpenSpec.upto fnExactCountCopiesSpec)

end Rows
end Go.Proofs.YtabeedimnbkcgaaGreat

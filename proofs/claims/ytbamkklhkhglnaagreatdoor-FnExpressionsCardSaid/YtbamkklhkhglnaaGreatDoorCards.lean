/-
  DERIVED. GIVEN WITH THE SEED: THE CARDS: each row of YtbamkklhkhglnaaGreatDoorRows.lean that lists a variable, with what it lists TIED to the program's text (the seventh form; the later family's looks); each row that meets fmt, with fmt's text TOLD by the authors' own Lean function (tested against real Go, not proved from fmt's source: count such statements apart). THE CARD IS WHAT COUNTS. Prove the row's statement (the work); the ties are given (YtbamkklhkhglnaaGreatDoorTie.lean); close each card by the builder's one call (the guide's Derived/Test/ToyasCard.lean, 'card_holds'). Laid BY PROGRAM, IN A SANDBOX (cutbox-door.mjs). By AI agents, Wed Nov 11 2026. No macro, syntax, notation, axiom, sorry.
-/
import Derived.Test.YtbamkklhkhglnaaGreatDoorRows
import GoSem.ClaimSeven
namespace Go.Proofs.YtbamkklhkhglnaaGreatDoor
namespace Rows

/-- THE TIED CARD OF 'laws.FnParsePrefixes'. -/
def fnParsePrefixesCard : Claim7 := { stood := { row := fnParsePrefixesRow, standIns := [], harness := (true, "4fc17b5848f55252acdbd761a9cb33d4da6002ae31e3ecbc6c249329c1155a36"), looks := true }, kinds := [], alts := [], laidByText := true, laidKinds := [.data, .data, .data, .data, .sentinel, .sentinel, .pinned], laidTests := true, laidLooks := .later }
def FnParsePrefixesCardSaid : Prop := Claim7.holds Tryz.pinned (.plain (OpenSpec.ofChange fnParsePrefixesSpec)) fnParsePrefixesCard

/-- THE TIED CARD OF 'laws.FnExpressions'. -/
def fnExpressionsCard : Claim7 := { stood := { row := fnExpressionsRow, standIns := [], harness := (true, "4fc17b5848f55252acdbd761a9cb33d4da6002ae31e3ecbc6c249329c1155a36"), looks := true }, kinds := [], alts := [], laidByText := true, laidKinds := [.data, .data, .data, .data, .sentinel, .sentinel, .pinned], laidTests := true, laidLooks := .later }
def FnExpressionsCardSaid : Prop := Claim7.holds Tryz.pinned (.plain (OpenSpec.ofChange fnExpressionsSpec)) fnExpressionsCard

/-- THE TIED CARD OF 'laws.FnExactVariablesOf'. -/
def fnExactVariablesOfCard : Claim7 := { stood := { row := fnExactVariablesOfRow, standIns := [], harness := (true, "4fc17b5848f55252acdbd761a9cb33d4da6002ae31e3ecbc6c249329c1155a36"), looks := true }, kinds := [], alts := [], laidByText := true, laidKinds := [.data, .data, .data, .data, .sentinel, .sentinel, .pinned], laidTests := true, laidLooks := .later }
def FnExactVariablesOfCardSaid : Prop := Claim7.holds Tryz.pinned (.plain (OpenSpec.ofChange fnExactVariablesOfSpec)) fnExactVariablesOfCard

/-- THE SECOND FORM's CARD OF 'laws.FnParsePrefixes'. -/
def fnParsePrefixesUptoCard : Claim7 := { stood := { row := fnParsePrefixesUptoRow, standIns := [], harness := (true, "4fc17b5848f55252acdbd761a9cb33d4da6002ae31e3ecbc6c249329c1155a36"), looks := true }, kinds := [], alts := [], laidByText := true, laidKinds := [.data, .data, .data, .data, .sentinel, .sentinel, .pinned], laidTests := true, laidLooks := .later }
def FnParsePrefixesUptoCardSaid : Prop := Claim7.holds Tryz.pinned (.plain (OpenSpec.upto fnParsePrefixesSpec)) fnParsePrefixesUptoCard

/-- THE SECOND FORM's CARD OF 'laws.FnExpressions'. -/
def fnExpressionsUptoCard : Claim7 := { stood := { row := fnExpressionsUptoRow, standIns := [], harness := (true, "4fc17b5848f55252acdbd761a9cb33d4da6002ae31e3ecbc6c249329c1155a36"), looks := true }, kinds := [], alts := [], laidByText := true, laidKinds := [.data, .data, .data, .data, .sentinel, .sentinel, .pinned], laidTests := true, laidLooks := .later }
def FnExpressionsUptoCardSaid : Prop := Claim7.holds Tryz.pinned (.plain (OpenSpec.upto fnExpressionsSpec)) fnExpressionsUptoCard

/-- THE SECOND FORM's CARD OF 'laws.FnExactVariablesOf'. -/
def fnExactVariablesOfUptoCard : Claim7 := { stood := { row := fnExactVariablesOfUptoRow, standIns := [], harness := (true, "4fc17b5848f55252acdbd761a9cb33d4da6002ae31e3ecbc6c249329c1155a36"), looks := true }, kinds := [], alts := [], laidByText := true, laidKinds := [.data, .data, .data, .data, .sentinel, .sentinel, .pinned], laidTests := true, laidLooks := .later }
def FnExactVariablesOfUptoCardSaid : Prop := Claim7.holds Tryz.pinned (.plain (OpenSpec.upto fnExactVariablesOfSpec)) fnExactVariablesOfUptoCard
end Rows
end Go.Proofs.YtbamkklhkhglnaaGreatDoor

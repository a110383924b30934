/-
  DERIVED. GIVEN WITH THE SEED: THE CARDS: each row of YtpdjpiabbciajaaDoorRows.lean that lists a variable, with what it lists TIED to the program's text (the seventh form; the later family's looks); each row that meets fmt, with fmt's text TOLD by the authors' own Lean function (tested against real Go, not proved from fmt's source: count such statements apart). THE CARD IS WHAT COUNTS. Prove the row's statement (the work); the ties are given (YtpdjpiabbciajaaDoorTie.lean); close each card by the builder's one call (the guide's Derived/Test/ToyasCard.lean, 'card_holds'). Laid BY PROGRAM, IN A SANDBOX (cutbox-door.mjs). By AI agents, Wed Nov 11 2026. No macro, syntax, notation, axiom, sorry.
-/
import Derived.Test.YtpdjpiabbciajaaDoorRows
import GoSem.ClaimSeven
namespace Go.Proofs.YtpdjpiabbciajaaDoor
namespace Rows

/-- THE TIED CARD OF 'laws.FnExactNewDevice'. -/
def fnExactNewDeviceCard : Claim7 := { stood := { row := fnExactNewDeviceRow, standIns := [], harness := (true, "6b4209de9f36892a68e2ed4e866e68857acce569b3cf7e21aee1044d2aecbe09"), looks := true }, kinds := [], alts := [], laidByText := true, laidKinds := [.data, .data, .data], laidTests := true, laidLooks := .later }
def FnExactNewDeviceCardSaid : Prop := Claim7.holds Tryd.pinned (.plain (OpenSpec.ofChange fnExactNewDeviceSpec)) fnExactNewDeviceCard

/-- THE TIED CARD OF 'laws.FnExactRecordOf'. -/
def fnExactRecordOfCard : Claim7 := { stood := { row := fnExactRecordOfRow, standIns := [], harness := (true, "6b4209de9f36892a68e2ed4e866e68857acce569b3cf7e21aee1044d2aecbe09"), looks := true }, kinds := [], alts := [], laidByText := true, laidKinds := [.data, .data, .data], laidTests := true, laidLooks := .later }
def FnExactRecordOfCardSaid : Prop := Claim7.holds Tryd.pinned (.plain (OpenSpec.ofChange fnExactRecordOfSpec)) fnExactRecordOfCard

/-- THE TIED CARD OF 'laws.FnExactReadRecord'. -/
def fnExactReadRecordCard : Claim7 := { stood := { row := fnExactReadRecordRow, standIns := [], harness := (true, "6b4209de9f36892a68e2ed4e866e68857acce569b3cf7e21aee1044d2aecbe09"), looks := true }, kinds := [], alts := [], laidByText := true, laidKinds := [.data, .data, .data], laidTests := true, laidLooks := .later }
def FnExactReadRecordCardSaid : Prop := Claim7.holds Tryd.pinned (.plain (OpenSpec.ofChange fnExactReadRecordSpec)) fnExactReadRecordCard

/-- THE TIED CARD OF 'laws.FnExactIsConsoleLine'. -/
def fnExactIsConsoleLineCard : Claim7 := { stood := { row := fnExactIsConsoleLineRow, standIns := [], harness := (true, "6b4209de9f36892a68e2ed4e866e68857acce569b3cf7e21aee1044d2aecbe09"), looks := true }, kinds := [], alts := [], laidByText := true, laidKinds := [.data, .data, .data, .sentinel, .sentinel], laidTests := true, laidLooks := .later }
def FnExactIsConsoleLineCardSaid : Prop := Claim7.holds Tryd.pinned (.plain (OpenSpec.ofChange fnExactIsConsoleLineSpec)) fnExactIsConsoleLineCard

/-- THE SECOND FORM's CARD OF 'laws.FnExactNewDevice'. -/
def fnExactNewDeviceUptoCard : Claim7 := { stood := { row := fnExactNewDeviceUptoRow, standIns := [], harness := (true, "6b4209de9f36892a68e2ed4e866e68857acce569b3cf7e21aee1044d2aecbe09"), looks := true }, kinds := [], alts := [], laidByText := true, laidKinds := [.data, .data, .data], laidTests := true, laidLooks := .later }
def FnExactNewDeviceUptoCardSaid : Prop := Claim7.holds Tryd.pinned (.plain (OpenSpec.upto fnExactNewDeviceSpec)) fnExactNewDeviceUptoCard

/-- THE SECOND FORM's CARD OF 'laws.FnExactRecordOf'. -/
def fnExactRecordOfUptoCard : Claim7 := { stood := { row := fnExactRecordOfUptoRow, standIns := [], harness := (true, "6b4209de9f36892a68e2ed4e866e68857acce569b3cf7e21aee1044d2aecbe09"), looks := true }, kinds := [], alts := [], laidByText := true, laidKinds := [.data, .data, .data], laidTests := true, laidLooks := .later }
def FnExactRecordOfUptoCardSaid : Prop := Claim7.holds Tryd.pinned (.plain (OpenSpec.upto fnExactRecordOfSpec)) fnExactRecordOfUptoCard

/-- THE SECOND FORM's CARD OF 'laws.FnExactReadRecord'. -/
def fnExactReadRecordUptoCard : Claim7 := { stood := { row := fnExactReadRecordUptoRow, standIns := [], harness := (true, "6b4209de9f36892a68e2ed4e866e68857acce569b3cf7e21aee1044d2aecbe09"), looks := true }, kinds := [], alts := [], laidByText := true, laidKinds := [.data, .data, .data], laidTests := true, laidLooks := .later }
def FnExactReadRecordUptoCardSaid : Prop := Claim7.holds Tryd.pinned (.plain (OpenSpec.upto fnExactReadRecordSpec)) fnExactReadRecordUptoCard

/-- THE SECOND FORM's CARD OF 'laws.FnExactIsConsoleLine'. -/
def fnExactIsConsoleLineUptoCard : Claim7 := { stood := { row := fnExactIsConsoleLineUptoRow, standIns := [], harness := (true, "6b4209de9f36892a68e2ed4e866e68857acce569b3cf7e21aee1044d2aecbe09"), looks := true }, kinds := [], alts := [], laidByText := true, laidKinds := [.data, .data, .data, .sentinel, .sentinel], laidTests := true, laidLooks := .later }
def FnExactIsConsoleLineUptoCardSaid : Prop := Claim7.holds Tryd.pinned (.plain (OpenSpec.upto fnExactIsConsoleLineSpec)) fnExactIsConsoleLineUptoCard
end Rows
end Go.Proofs.YtpdjpiabbciajaaDoor

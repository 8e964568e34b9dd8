/-
  DERIVED. GIVEN WITH THE SEED: THE CARDS: each row of YthfhicembdpjpaaGreatDoorRows.lean that lists a variable, with what it lists TIED to the program's text (the seventh form; the later family's looks); each row that meets fmt, with fmt's text TOLD by the authors' own Lean function (tested against real Go, not proved from fmt's source: count such statements apart). THE CARD IS WHAT COUNTS. Prove the row's statement (the work); the ties are given (YthfhicembdpjpaaGreatDoorTie.lean); close each card by the builder's one call (the guide's Derived/Test/ToyasCard.lean, 'card_holds'). Laid BY PROGRAM, IN A SANDBOX (cutbox-door.mjs). By AI agents, Wed Nov 11 2026. No macro, syntax, notation, axiom, sorry.
-/
import Derived.Test.YthfhicembdpjpaaGreatDoorRows
import GoSem.ClaimSeven
namespace Go.Proofs.YthfhicembdpjpaaGreatDoor
namespace Rows

/-- THE TIED CARD OF 'certpathlaw38.ScriptLines'. -/
def scriptLinesCard : Claim7 := { stood := { row := scriptLinesRow, standIns := [], harness := (true, "3701705cc2e2e191c8fa9f1e4b0902d9b220334329933c06957ff2267379d13a"), looks := true }, kinds := [], alts := [], laidByText := true, laidKinds := [.pinned, .data, .sentinel, .sentinel, .data, .data, .data, .data], laidTests := true, laidLooks := .later }
def ScriptLinesCardSaid : Prop := Claim7.holds Tryz.pinned (.plain (OpenSpec.ofChange scriptLinesSpec)) scriptLinesCard

/-- THE TIED CARD OF 'certpathlaw38.ScriptLimits'. -/
def scriptLimitsCard : Claim7 := { stood := { row := scriptLimitsRow, standIns := [], harness := (true, "3701705cc2e2e191c8fa9f1e4b0902d9b220334329933c06957ff2267379d13a"), looks := true }, kinds := [], alts := [], laidByText := true, laidKinds := [.pinned, .data, .data, .data, .data, .data, .sentinel, .sentinel], laidTests := true, laidLooks := .later }
def ScriptLimitsCardSaid : Prop := Claim7.holds Tryz.pinned (.plain (OpenSpec.ofChange scriptLimitsSpec)) scriptLimitsCard

/-- THE SECOND FORM's CARD OF 'certpathlaw38.ScriptLines'. -/
def scriptLinesUptoCard : Claim7 := { stood := { row := scriptLinesUptoRow, standIns := [], harness := (true, "3701705cc2e2e191c8fa9f1e4b0902d9b220334329933c06957ff2267379d13a"), looks := true }, kinds := [], alts := [], laidByText := true, laidKinds := [.pinned, .data, .sentinel, .sentinel, .data, .data, .data, .data], laidTests := true, laidLooks := .later }
def ScriptLinesUptoCardSaid : Prop := Claim7.holds Tryz.pinned (.plain (OpenSpec.upto scriptLinesSpec)) scriptLinesUptoCard

/-- THE SECOND FORM's CARD OF 'certpathlaw38.ScriptLimits'. -/
def scriptLimitsUptoCard : Claim7 := { stood := { row := scriptLimitsUptoRow, standIns := [], harness := (true, "3701705cc2e2e191c8fa9f1e4b0902d9b220334329933c06957ff2267379d13a"), looks := true }, kinds := [], alts := [], laidByText := true, laidKinds := [.pinned, .data, .data, .data, .data, .data, .sentinel, .sentinel], laidTests := true, laidLooks := .later }
def ScriptLimitsUptoCardSaid : Prop := Claim7.holds Tryz.pinned (.plain (OpenSpec.upto scriptLimitsSpec)) scriptLimitsUptoCard
end Rows
end Go.Proofs.YthfhicembdpjpaaGreatDoor

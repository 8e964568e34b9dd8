/-
  DERIVED. GIVEN WITH THE SEED: THE CARDS: each row of YtkabooclnoiclaaGreatDoorRows.lean that lists a variable, with what it lists TIED to the program's text (the seventh form; the later family's looks); each row that meets fmt, with fmt's text TOLD by the authors' own Lean function (tested against real Go, not proved from fmt's source: count such statements apart). THE CARD IS WHAT COUNTS. Prove the row's statement (the work); the ties are given (YtkabooclnoiclaaGreatDoorTie.lean); close each card by the builder's one call (the guide's Derived/Test/ToyasCard.lean, 'card_holds'). Laid BY PROGRAM, IN A SANDBOX (cutbox-door.mjs). By AI agents, Wed Nov 11 2026. No macro, syntax, notation, axiom, sorry.
-/
import Derived.Test.YtkabooclnoiclaaGreatDoorRows
import GoSem.ClaimSeven
namespace Go.Proofs.YtkabooclnoiclaaGreatDoor
namespace Rows

/-- THE TIED CARD OF 'certpathlaw33.ValidateQueries'. -/
def validateQueriesCard : Claim7 := { stood := { row := validateQueriesRow, standIns := [], harness := (true, "0680b277a54e20f0acaf06b32ccc4dfde2bdcbed6d885f20e41ef5b5f85cd0f4"), looks := false }, kinds := [], alts := [], laidByText := true, laidKinds := [.data, .pinned], laidTests := true, laidLooks := .later }
def ValidateQueriesCardSaid : Prop := Claim7.holds Tryz.pinned (.plain (OpenSpec.ofChange validateQueriesSpec)) validateQueriesCard

/-- THE TIED CARD OF 'certpathlaw33.ValidateErrors'. -/
def validateErrorsCard : Claim7 := { stood := { row := validateErrorsRow, standIns := [], harness := (true, "0680b277a54e20f0acaf06b32ccc4dfde2bdcbed6d885f20e41ef5b5f85cd0f4"), looks := false }, kinds := [], alts := [], laidByText := true, laidKinds := [.data, .pinned], laidTests := true, laidLooks := .later }
def ValidateErrorsCardSaid : Prop := Claim7.holds Tryz.pinned (.plain (OpenSpec.ofChange validateErrorsSpec)) validateErrorsCard

/-- THE TIED CARD OF 'certpathlaw33.ValidateLongest'. -/
def validateLongestCard : Claim7 := { stood := { row := validateLongestRow, standIns := [], harness := (true, "0680b277a54e20f0acaf06b32ccc4dfde2bdcbed6d885f20e41ef5b5f85cd0f4"), looks := false }, kinds := [], alts := [], laidByText := true, laidKinds := [.data, .pinned], laidTests := true, laidLooks := .later }
def ValidateLongestCardSaid : Prop := Claim7.holds Tryz.pinned (.plain (OpenSpec.ofChange validateLongestSpec)) validateLongestCard

/-- THE TIED CARD OF 'certpathlaw33.ValidateStatus'. -/
def validateStatusCard : Claim7 := { stood := { row := validateStatusRow, standIns := [], harness := (true, "0680b277a54e20f0acaf06b32ccc4dfde2bdcbed6d885f20e41ef5b5f85cd0f4"), looks := false }, kinds := [], alts := [], laidByText := true, laidKinds := [.data, .pinned], laidTests := true, laidLooks := .later }
def ValidateStatusCardSaid : Prop := Claim7.holds Tryz.pinned (.plain (OpenSpec.ofChange validateStatusSpec)) validateStatusCard

/-- THE TIED CARD OF 'certpathlaw33.ValidateNames'. -/
def validateNamesCard : Claim7 := { stood := { row := validateNamesRow, standIns := [], harness := (true, "0680b277a54e20f0acaf06b32ccc4dfde2bdcbed6d885f20e41ef5b5f85cd0f4"), looks := false }, kinds := [], alts := [], laidByText := true, laidKinds := [.data, .pinned], laidTests := true, laidLooks := .later }
def ValidateNamesCardSaid : Prop := Claim7.holds Tryz.pinned (.plain (OpenSpec.ofChange validateNamesSpec)) validateNamesCard

/-- THE SECOND FORM's CARD OF 'certpathlaw33.ValidateQueries'. -/
def validateQueriesUptoCard : Claim7 := { stood := { row := validateQueriesUptoRow, standIns := [], harness := (true, "0680b277a54e20f0acaf06b32ccc4dfde2bdcbed6d885f20e41ef5b5f85cd0f4"), looks := false }, kinds := [], alts := [], laidByText := true, laidKinds := [.data, .pinned], laidTests := true, laidLooks := .later }
def ValidateQueriesUptoCardSaid : Prop := Claim7.holds Tryz.pinned (.plain (OpenSpec.upto validateQueriesSpec)) validateQueriesUptoCard

/-- THE SECOND FORM's CARD OF 'certpathlaw33.ValidateErrors'. -/
def validateErrorsUptoCard : Claim7 := { stood := { row := validateErrorsUptoRow, standIns := [], harness := (true, "0680b277a54e20f0acaf06b32ccc4dfde2bdcbed6d885f20e41ef5b5f85cd0f4"), looks := false }, kinds := [], alts := [], laidByText := true, laidKinds := [.data, .pinned], laidTests := true, laidLooks := .later }
def ValidateErrorsUptoCardSaid : Prop := Claim7.holds Tryz.pinned (.plain (OpenSpec.upto validateErrorsSpec)) validateErrorsUptoCard

/-- THE SECOND FORM's CARD OF 'certpathlaw33.ValidateLongest'. -/
def validateLongestUptoCard : Claim7 := { stood := { row := validateLongestUptoRow, standIns := [], harness := (true, "0680b277a54e20f0acaf06b32ccc4dfde2bdcbed6d885f20e41ef5b5f85cd0f4"), looks := false }, kinds := [], alts := [], laidByText := true, laidKinds := [.data, .pinned], laidTests := true, laidLooks := .later }
def ValidateLongestUptoCardSaid : Prop := Claim7.holds Tryz.pinned (.plain (OpenSpec.upto validateLongestSpec)) validateLongestUptoCard

/-- THE SECOND FORM's CARD OF 'certpathlaw33.ValidateStatus'. -/
def validateStatusUptoCard : Claim7 := { stood := { row := validateStatusUptoRow, standIns := [], harness := (true, "0680b277a54e20f0acaf06b32ccc4dfde2bdcbed6d885f20e41ef5b5f85cd0f4"), looks := false }, kinds := [], alts := [], laidByText := true, laidKinds := [.data, .pinned], laidTests := true, laidLooks := .later }
def ValidateStatusUptoCardSaid : Prop := Claim7.holds Tryz.pinned (.plain (OpenSpec.upto validateStatusSpec)) validateStatusUptoCard

/-- THE SECOND FORM's CARD OF 'certpathlaw33.ValidateNames'. -/
def validateNamesUptoCard : Claim7 := { stood := { row := validateNamesUptoRow, standIns := [], harness := (true, "0680b277a54e20f0acaf06b32ccc4dfde2bdcbed6d885f20e41ef5b5f85cd0f4"), looks := false }, kinds := [], alts := [], laidByText := true, laidKinds := [.data, .pinned], laidTests := true, laidLooks := .later }
def ValidateNamesUptoCardSaid : Prop := Claim7.holds Tryz.pinned (.plain (OpenSpec.upto validateNamesSpec)) validateNamesUptoCard
end Rows
end Go.Proofs.YtkabooclnoiclaaGreatDoor

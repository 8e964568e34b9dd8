/-
  DERIVED. GIVEN WITH THE SEED: THE CARDS: each row of YtbggpcnbbhjiaaaGreatDoorRows.lean that lists a variable, with what it lists TIED to the program's text (the seventh form; the later family's looks); each row that meets fmt, with fmt's text TOLD by the authors' own Lean function (tested against real Go, not proved from fmt's source: count such statements apart). THE CARD IS WHAT COUNTS. Prove the row's statement (the work); the ties are given (YtbggpcnbbhjiaaaGreatDoorTie.lean); close each card by the builder's one call (the guide's Derived/Test/ToyasCard.lean, 'card_holds'). Laid BY PROGRAM, IN A SANDBOX (cutbox-door.mjs). By AI agents, Wed Nov 11 2026. No macro, syntax, notation, axiom, sorry.
-/
import Derived.Test.YtbggpcnbbhjiaaaGreatDoorRows
import GoSem.ClaimSeven
namespace Go.Proofs.YtbggpcnbbhjiaaaGreatDoor
namespace Rows

/-- THE TIED CARD OF 'certpathlaw37.WireEncodesQueries'. -/
def wireEncodesQueriesCard : Claim7 := { stood := { row := wireEncodesQueriesRow, standIns := [], harness := (true, "54f2921ae9c20871a456c22a08baaedee698235e3a98d04ebefd04422e8a6269"), looks := false }, kinds := [], alts := [], laidByText := true, laidKinds := [.data, .data, .data, .data, .data, .pinned], laidTests := true, laidLooks := .later }
def WireEncodesQueriesCardSaid : Prop := Claim7.holds Tryz.pinned (.plain (OpenSpec.ofChange wireEncodesQueriesSpec)) wireEncodesQueriesCard

/-- THE TIED CARD OF 'certpathlaw37.WireDecodesQueries'. -/
def wireDecodesQueriesCard : Claim7 := { stood := { row := wireDecodesQueriesRow, standIns := [], harness := (true, "54f2921ae9c20871a456c22a08baaedee698235e3a98d04ebefd04422e8a6269"), looks := false }, kinds := [], alts := [], laidByText := true, laidKinds := [.data, .data, .data, .data, .data, .pinned], laidTests := true, laidLooks := .later }
def WireDecodesQueriesCardSaid : Prop := Claim7.holds Tryz.pinned (.plain (OpenSpec.ofChange wireDecodesQueriesSpec)) wireDecodesQueriesCard

/-- THE TIED CARD OF 'certpathlaw37.WireFounds'. -/
def wireFoundsCard : Claim7 := { stood := { row := wireFoundsRow, standIns := [], harness := (true, "54f2921ae9c20871a456c22a08baaedee698235e3a98d04ebefd04422e8a6269"), looks := false }, kinds := [], alts := [], laidByText := true, laidKinds := [.data, .data, .data, .data, .data, .pinned], laidTests := true, laidLooks := .later }
def WireFoundsCardSaid : Prop := Claim7.holds Tryz.pinned (.plain (OpenSpec.ofChange wireFoundsSpec)) wireFoundsCard

/-- THE TIED CARD OF 'certpathlaw37.WireReturns'. -/
def wireReturnsCard : Claim7 := { stood := { row := wireReturnsRow, standIns := [], harness := (true, "54f2921ae9c20871a456c22a08baaedee698235e3a98d04ebefd04422e8a6269"), looks := false }, kinds := [], alts := [], laidByText := true, laidKinds := [.data, .data, .data, .data, .data, .pinned], laidTests := true, laidLooks := .later }
def WireReturnsCardSaid : Prop := Claim7.holds Tryz.pinned (.plain (OpenSpec.ofChange wireReturnsSpec)) wireReturnsCard

/-- THE TIED CARD OF 'certpathlaw37.WireOptional'. -/
def wireOptionalCard : Claim7 := { stood := { row := wireOptionalRow, standIns := [], harness := (true, "54f2921ae9c20871a456c22a08baaedee698235e3a98d04ebefd04422e8a6269"), looks := false }, kinds := [], alts := [], laidByText := true, laidKinds := [.data, .data, .data, .data, .data, .pinned], laidTests := true, laidLooks := .later }
def WireOptionalCardSaid : Prop := Claim7.holds Tryz.pinned (.plain (OpenSpec.ofChange wireOptionalSpec)) wireOptionalCard

/-- THE TIED CARD OF 'certpathlaw37.WireAnchors'. -/
def wireAnchorsCard : Claim7 := { stood := { row := wireAnchorsRow, standIns := [], harness := (true, "54f2921ae9c20871a456c22a08baaedee698235e3a98d04ebefd04422e8a6269"), looks := false }, kinds := [], alts := [], laidByText := true, laidKinds := [.data, .data, .data, .data, .data, .pinned], laidTests := true, laidLooks := .later }
def WireAnchorsCardSaid : Prop := Claim7.holds Tryz.pinned (.plain (OpenSpec.ofChange wireAnchorsSpec)) wireAnchorsCard

/-- THE TIED CARD OF 'certpathlaw37.WireBytes'. -/
def wireBytesCard : Claim7 := { stood := { row := wireBytesRow, standIns := [], harness := (true, "54f2921ae9c20871a456c22a08baaedee698235e3a98d04ebefd04422e8a6269"), looks := false }, kinds := [], alts := [], laidByText := true, laidKinds := [.data, .data, .data, .data, .data, .pinned], laidTests := true, laidLooks := .later }
def WireBytesCardSaid : Prop := Claim7.holds Tryz.pinned (.plain (OpenSpec.ofChange wireBytesSpec)) wireBytesCard

/-- THE SECOND FORM's CARD OF 'certpathlaw37.WireEncodesQueries'. -/
def wireEncodesQueriesUptoCard : Claim7 := { stood := { row := wireEncodesQueriesUptoRow, standIns := [], harness := (true, "54f2921ae9c20871a456c22a08baaedee698235e3a98d04ebefd04422e8a6269"), looks := false }, kinds := [], alts := [], laidByText := true, laidKinds := [.data, .data, .data, .data, .data, .pinned], laidTests := true, laidLooks := .later }
def WireEncodesQueriesUptoCardSaid : Prop := Claim7.holds Tryz.pinned (.plain (OpenSpec.upto wireEncodesQueriesSpec)) wireEncodesQueriesUptoCard

/-- THE SECOND FORM's CARD OF 'certpathlaw37.WireDecodesQueries'. -/
def wireDecodesQueriesUptoCard : Claim7 := { stood := { row := wireDecodesQueriesUptoRow, standIns := [], harness := (true, "54f2921ae9c20871a456c22a08baaedee698235e3a98d04ebefd04422e8a6269"), looks := false }, kinds := [], alts := [], laidByText := true, laidKinds := [.data, .data, .data, .data, .data, .pinned], laidTests := true, laidLooks := .later }
def WireDecodesQueriesUptoCardSaid : Prop := Claim7.holds Tryz.pinned (.plain (OpenSpec.upto wireDecodesQueriesSpec)) wireDecodesQueriesUptoCard

/-- THE SECOND FORM's CARD OF 'certpathlaw37.WireFounds'. -/
def wireFoundsUptoCard : Claim7 := { stood := { row := wireFoundsUptoRow, standIns := [], harness := (true, "54f2921ae9c20871a456c22a08baaedee698235e3a98d04ebefd04422e8a6269"), looks := false }, kinds := [], alts := [], laidByText := true, laidKinds := [.data, .data, .data, .data, .data, .pinned], laidTests := true, laidLooks := .later }
def WireFoundsUptoCardSaid : Prop := Claim7.holds Tryz.pinned (.plain (OpenSpec.upto wireFoundsSpec)) wireFoundsUptoCard

/-- THE SECOND FORM's CARD OF 'certpathlaw37.WireReturns'. -/
def wireReturnsUptoCard : Claim7 := { stood := { row := wireReturnsUptoRow, standIns := [], harness := (true, "54f2921ae9c20871a456c22a08baaedee698235e3a98d04ebefd04422e8a6269"), looks := false }, kinds := [], alts := [], laidByText := true, laidKinds := [.data, .data, .data, .data, .data, .pinned], laidTests := true, laidLooks := .later }
def WireReturnsUptoCardSaid : Prop := Claim7.holds Tryz.pinned (.plain (OpenSpec.upto wireReturnsSpec)) wireReturnsUptoCard

/-- THE SECOND FORM's CARD OF 'certpathlaw37.WireOptional'. -/
def wireOptionalUptoCard : Claim7 := { stood := { row := wireOptionalUptoRow, standIns := [], harness := (true, "54f2921ae9c20871a456c22a08baaedee698235e3a98d04ebefd04422e8a6269"), looks := false }, kinds := [], alts := [], laidByText := true, laidKinds := [.data, .data, .data, .data, .data, .pinned], laidTests := true, laidLooks := .later }
def WireOptionalUptoCardSaid : Prop := Claim7.holds Tryz.pinned (.plain (OpenSpec.upto wireOptionalSpec)) wireOptionalUptoCard

/-- THE SECOND FORM's CARD OF 'certpathlaw37.WireAnchors'. -/
def wireAnchorsUptoCard : Claim7 := { stood := { row := wireAnchorsUptoRow, standIns := [], harness := (true, "54f2921ae9c20871a456c22a08baaedee698235e3a98d04ebefd04422e8a6269"), looks := false }, kinds := [], alts := [], laidByText := true, laidKinds := [.data, .data, .data, .data, .data, .pinned], laidTests := true, laidLooks := .later }
def WireAnchorsUptoCardSaid : Prop := Claim7.holds Tryz.pinned (.plain (OpenSpec.upto wireAnchorsSpec)) wireAnchorsUptoCard

/-- THE SECOND FORM's CARD OF 'certpathlaw37.WireBytes'. -/
def wireBytesUptoCard : Claim7 := { stood := { row := wireBytesUptoRow, standIns := [], harness := (true, "54f2921ae9c20871a456c22a08baaedee698235e3a98d04ebefd04422e8a6269"), looks := false }, kinds := [], alts := [], laidByText := true, laidKinds := [.data, .data, .data, .data, .data, .pinned], laidTests := true, laidLooks := .later }
def WireBytesUptoCardSaid : Prop := Claim7.holds Tryz.pinned (.plain (OpenSpec.upto wireBytesSpec)) wireBytesUptoCard
end Rows
end Go.Proofs.YtbggpcnbbhjiaaaGreatDoor

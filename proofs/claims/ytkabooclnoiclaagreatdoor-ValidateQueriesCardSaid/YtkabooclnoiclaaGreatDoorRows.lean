/-
  NARROWER THAN 'FOR EVERY INPUT', by the rows' own cells (each row's printed sentence says how): ValidateQueries: laid · ValidateErrors: laid · ValidateLongest: laid · ValidateStatus: laid · ValidateNames: laid.
  DERIVED. THE GIVEN ROWS OF THIS SEAT. 5 by the template 'for every input the law returns true; each argument reads behind the call as it read before'; 0 by the template 'total and deterministic' (their statements: YtkabooclnoiclaaGreatDoorTotals.lean).
  GIVEN WITH THE SEED: the statements are not yours to turn. If you find one false, say at which input.
  Laid BY PROGRAM, IN A SANDBOX (cutbox-rows.mjs): the forced cells as the released guide's own fill.sh prints them over the translation 25e8ace8909a11fc… (all of the seat's roots in one cut). By AI agents, Wed Nov 11 2026. No macro, syntax, notation, axiom, sorry.
-/
import Derived.Test.YtkabooclnoiclaaGreatDoorChecked
import GoSem.PinnedTables
import GoSem.Claim
import GoSem.ClaimJoined
import GoSem.ClaimMapViews
import Derived.JoinedTies
import Derived.KernelRfl
namespace Go.Proofs.YtkabooclnoiclaaGreatDoor
/- THE CELL 'sum', in the pinned program and in every row, IS THE sha256 OF THE DUMP (.gsa) THAT YtkabooclnoiclaaGreatDoorProg.lean LOADS. Nothing in Lean hashes anything: it is a label: what it is worth is what the hold of that sum in a sandbox is worth. -/
noncomputable def Tryz.pinned : Pinned := { name := "ytkabooclnoiclaagreatdoor", sum := "25e8ace8909a11fc0f9240863d1a9efe57e66dfeaa8e8240fcb3084001700585", checked := Tryz.checked }
namespace Rows
def none {H : Type} : Left H := { results := [], args := [] }

/- WHAT THE LISTED PACKAGE-LEVEL VARIABLES READ AS WHEN THE CALL BEGINS. Each datum BY PROGRAM (the guide's laid-datum.mjs) off the statement by which the dump's own 'gosem.cut.vars' lays the variable. In a bare row this is a premise. The card (YtkabooclnoiclaaGreatDoorCards.lean) ties it to the program's text. -/
def laid_unicode_utf8_acceptRanges {H : Type} : DataW H := .agg [.agg [.lit (.int .u8 128), .lit (.int .u8 191)], .agg [.lit (.int .u8 160), .lit (.int .u8 191)], .agg [.lit (.int .u8 128), .lit (.int .u8 159)], .agg [.lit (.int .u8 144), .lit (.int .u8 191)], .agg [.lit (.int .u8 128), .lit (.int .u8 143)], .agg [.lit (.int .u8 0), .lit (.int .u8 0)], .agg [.lit (.int .u8 0), .lit (.int .u8 0)], .agg [.lit (.int .u8 0), .lit (.int .u8 0)], .agg [.lit (.int .u8 0), .lit (.int .u8 0)], .agg [.lit (.int .u8 0), .lit (.int .u8 0)], .agg [.lit (.int .u8 0), .lit (.int .u8 0)], .agg [.lit (.int .u8 0), .lit (.int .u8 0)], .agg [.lit (.int .u8 0), .lit (.int .u8 0)], .agg [.lit (.int .u8 0), .lit (.int .u8 0)], .agg [.lit (.int .u8 0), .lit (.int .u8 0)], .agg [.lit (.int .u8 0), .lit (.int .u8 0)]]
/-- One of Go's own tables, pinned by name: the form's constant. -/
def laid_unicode_utf8_first : DataW Unit := Go.Pinned.utf8First

/-- 'certpathlaw33.ValidateQueries': WHATEVER THE INPUT: true; the input reads as it did. -/
def validateQueriesSpec : ChangeSpec := { name := "validateQueries", fn := fun _ => fun
  | [d1, d2] => { results := [.lit (.bool true)], args := [d1, d2] }
  | _ => none }
def validateQueriesRow : OpenClaim := { program := "ytkabooclnoiclaagreatdoor", sum := "25e8ace8909a11fc0f9240863d1a9efe57e66dfeaa8e8240fcb3084001700585", func := "certpath/certpathlaw33.ValidateQueries", spec := "validateQueries", inPlace := ["internal/bytealg.CountString", "internal/bytealg.IndexByteString", "internal/bytealg.IndexString"], unfollowed := true, recurses := true, named := ["unicode/utf8.first", "unicode/utf8.acceptRanges", "internal/bytealg.MaxLen"], apart := false, laid := [("unicode/utf8.acceptRanges", laid_unicode_utf8_acceptRanges), ("unicode/utf8.first", laid_unicode_utf8_first)] }
def ValidateQueriesSaid : Prop := validateQueriesRow.holds Tryz.pinned (OpenSpec.ofChange validateQueriesSpec)

/-- ITS FALSE NEIGHBOUR: 'it returns false'. Refute it at one input. -/
def validateQueriesWrong : ChangeSpec := { name := "validateQueries", fn := fun _ => fun
  | [d1, d2] => { results := [.lit (.bool false)], args := [d1, d2] }
  | _ => none }
def ValidateQueriesWrongFalsely : Prop := validateQueriesRow.holds Tryz.pinned (OpenSpec.ofChange validateQueriesWrong)

/-- 'certpathlaw33.ValidateErrors': WHATEVER THE INPUT: true; the input reads as it did. -/
def validateErrorsSpec : ChangeSpec := { name := "validateErrors", fn := fun _ => fun
  | [d1, d2] => { results := [.lit (.bool true)], args := [d1, d2] }
  | _ => none }
def validateErrorsRow : OpenClaim := { program := "ytkabooclnoiclaagreatdoor", sum := "25e8ace8909a11fc0f9240863d1a9efe57e66dfeaa8e8240fcb3084001700585", func := "certpath/certpathlaw33.ValidateErrors", spec := "validateErrors", inPlace := ["internal/bytealg.CountString", "internal/bytealg.IndexByteString", "internal/bytealg.IndexString"], unfollowed := true, recurses := true, named := ["unicode/utf8.first", "unicode/utf8.acceptRanges", "internal/bytealg.MaxLen"], apart := false, laid := [("unicode/utf8.acceptRanges", laid_unicode_utf8_acceptRanges), ("unicode/utf8.first", laid_unicode_utf8_first)] }
def ValidateErrorsSaid : Prop := validateErrorsRow.holds Tryz.pinned (OpenSpec.ofChange validateErrorsSpec)

/-- ITS FALSE NEIGHBOUR: 'it returns false'. Refute it at one input. -/
def validateErrorsWrong : ChangeSpec := { name := "validateErrors", fn := fun _ => fun
  | [d1, d2] => { results := [.lit (.bool false)], args := [d1, d2] }
  | _ => none }
def ValidateErrorsWrongFalsely : Prop := validateErrorsRow.holds Tryz.pinned (OpenSpec.ofChange validateErrorsWrong)

/-- 'certpathlaw33.ValidateLongest': WHATEVER THE INPUT: true; the input reads as it did. -/
def validateLongestSpec : ChangeSpec := { name := "validateLongest", fn := fun _ => fun
  | [d1, d2, d3] => { results := [.lit (.bool true)], args := [d1, d2, d3] }
  | _ => none }
def validateLongestRow : OpenClaim := { program := "ytkabooclnoiclaagreatdoor", sum := "25e8ace8909a11fc0f9240863d1a9efe57e66dfeaa8e8240fcb3084001700585", func := "certpath/certpathlaw33.ValidateLongest", spec := "validateLongest", inPlace := ["internal/bytealg.CountString", "internal/bytealg.IndexByteString", "internal/bytealg.IndexString"], unfollowed := true, recurses := true, named := ["unicode/utf8.first", "unicode/utf8.acceptRanges", "internal/bytealg.MaxLen"], apart := false, laid := [("unicode/utf8.acceptRanges", laid_unicode_utf8_acceptRanges), ("unicode/utf8.first", laid_unicode_utf8_first)] }
def ValidateLongestSaid : Prop := validateLongestRow.holds Tryz.pinned (OpenSpec.ofChange validateLongestSpec)

/-- ITS FALSE NEIGHBOUR: 'it returns false'. Refute it at one input. -/
def validateLongestWrong : ChangeSpec := { name := "validateLongest", fn := fun _ => fun
  | [d1, d2, d3] => { results := [.lit (.bool false)], args := [d1, d2, d3] }
  | _ => none }
def ValidateLongestWrongFalsely : Prop := validateLongestRow.holds Tryz.pinned (OpenSpec.ofChange validateLongestWrong)

/-- 'certpathlaw33.ValidateStatus': WHATEVER THE INPUT: true; the input reads as it did. -/
def validateStatusSpec : ChangeSpec := { name := "validateStatus", fn := fun _ => fun
  | [d1, d2, d3] => { results := [.lit (.bool true)], args := [d1, d2, d3] }
  | _ => none }
def validateStatusRow : OpenClaim := { program := "ytkabooclnoiclaagreatdoor", sum := "25e8ace8909a11fc0f9240863d1a9efe57e66dfeaa8e8240fcb3084001700585", func := "certpath/certpathlaw33.ValidateStatus", spec := "validateStatus", inPlace := ["internal/bytealg.CountString", "internal/bytealg.IndexByteString", "internal/bytealg.IndexString"], unfollowed := true, recurses := true, named := ["unicode/utf8.first", "unicode/utf8.acceptRanges", "internal/bytealg.MaxLen"], apart := false, laid := [("unicode/utf8.acceptRanges", laid_unicode_utf8_acceptRanges), ("unicode/utf8.first", laid_unicode_utf8_first)] }
def ValidateStatusSaid : Prop := validateStatusRow.holds Tryz.pinned (OpenSpec.ofChange validateStatusSpec)

/-- ITS FALSE NEIGHBOUR: 'it returns false'. Refute it at one input. -/
def validateStatusWrong : ChangeSpec := { name := "validateStatus", fn := fun _ => fun
  | [d1, d2, d3] => { results := [.lit (.bool false)], args := [d1, d2, d3] }
  | _ => none }
def ValidateStatusWrongFalsely : Prop := validateStatusRow.holds Tryz.pinned (OpenSpec.ofChange validateStatusWrong)

/-- 'certpathlaw33.ValidateNames': WHATEVER THE INPUT: true; the input reads as it did. -/
def validateNamesSpec : ChangeSpec := { name := "validateNames", fn := fun _ => fun
  | [d1, d2, d3, d4] => { results := [.lit (.bool true)], args := [d1, d2, d3, d4] }
  | _ => none }
def validateNamesRow : OpenClaim := { program := "ytkabooclnoiclaagreatdoor", sum := "25e8ace8909a11fc0f9240863d1a9efe57e66dfeaa8e8240fcb3084001700585", func := "certpath/certpathlaw33.ValidateNames", spec := "validateNames", inPlace := ["internal/bytealg.CountString", "internal/bytealg.IndexByteString", "internal/bytealg.IndexString"], unfollowed := true, recurses := true, named := ["unicode/utf8.first", "unicode/utf8.acceptRanges", "internal/bytealg.MaxLen"], apart := false, laid := [("unicode/utf8.acceptRanges", laid_unicode_utf8_acceptRanges), ("unicode/utf8.first", laid_unicode_utf8_first)] }
def ValidateNamesSaid : Prop := validateNamesRow.holds Tryz.pinned (OpenSpec.ofChange validateNamesSpec)

/-- ITS FALSE NEIGHBOUR: 'it returns false'. Refute it at one input. -/
def validateNamesWrong : ChangeSpec := { name := "validateNames", fn := fun _ => fun
  | [d1, d2, d3, d4] => { results := [.lit (.bool false)], args := [d1, d2, d3, d4] }
  | _ => none }
def ValidateNamesWrongFalsely : Prop := validateNamesRow.holds Tryz.pinned (OpenSpec.ofChange validateNamesWrong)

/- THE SECOND FORM. 'bulk': how many values and letters a reading holds, each counted each time it is reached (what is shared counts as often as it is met; a slice's spare places count too). A statement '..UptoSaid' is the law's where the arguments, and the package variables that the reading takes, are together of bulk at most 1048576: NARROWER than '..Said'. Prove '..Said' where nothing that the law and all that it calls make is longer than what came in: it says more and counts as full. Else prove '..UptoSaid'. A law counts once. -/
mutual
def uptoBulk {H : Type} : DataW H → Nat
  | .lit (.string bytes) => bytes.length + 1
  | .lit _ => 1
  | .nil => 1
  | .ptr d => uptoBulk d + 1
  | .slice elems spare => uptoBulkAll elems + uptoBulkAll spare + 1
  | .agg parts => uptoBulkAll parts + 1
  | .iface _ d => uptoBulk d + 1
  | .map entries => uptoBulkEntries entries + 1
  | .held _ => 1
def uptoBulkAll {H : Type} : List (DataW H) → Nat
  | [] => 0
  | d :: r => uptoBulk d + uptoBulkAll r
def uptoBulkEntries {H : Type} : List (Lit × DataW H) → Nat
  | [] => 0
  | x :: r => uptoBulkEntry x + uptoBulkEntries r
def uptoBulkEntry {H : Type} : Lit × DataW H → Nat
  | (.string bytes, d) => bytes.length + uptoBulk d + 1
  | (_, d) => uptoBulk d + 1
 end
def uptoSmall : (H : Type) → List (DataW H) → Bool := fun _ ds => decide (uptoBulkAll ds ≤ 1048576)
def OpenSpec.upto (s : _root_.Go.ChangeSpec) : _root_.Go.OpenSpec := { _root_.Go.OpenSpec.ofChange s with cond := some uptoSmall }

/-- 'certpathlaw33.ValidateQueries', WHERE WHAT IT READS IS OF BULK AT MOST 1048576: true; the input reads as it did. -/
def validateQueriesUptoRow : OpenClaim := { program := "ytkabooclnoiclaagreatdoor", sum := "25e8ace8909a11fc0f9240863d1a9efe57e66dfeaa8e8240fcb3084001700585", func := "certpath/certpathlaw33.ValidateQueries", spec := "validateQueries", inPlace := ["internal/bytealg.CountString", "internal/bytealg.IndexByteString", "internal/bytealg.IndexString"], unfollowed := true, recurses := true, named := ["unicode/utf8.first", "unicode/utf8.acceptRanges", "internal/bytealg.MaxLen"], apart := false, laid := [("unicode/utf8.acceptRanges", laid_unicode_utf8_acceptRanges), ("unicode/utf8.first", laid_unicode_utf8_first)], narrowed := true }
def ValidateQueriesUptoSaid : Prop := validateQueriesUptoRow.holds Tryz.pinned (OpenSpec.upto validateQueriesSpec)

/-- 'certpathlaw33.ValidateErrors', WHERE WHAT IT READS IS OF BULK AT MOST 1048576: true; the input reads as it did. -/
def validateErrorsUptoRow : OpenClaim := { program := "ytkabooclnoiclaagreatdoor", sum := "25e8ace8909a11fc0f9240863d1a9efe57e66dfeaa8e8240fcb3084001700585", func := "certpath/certpathlaw33.ValidateErrors", spec := "validateErrors", inPlace := ["internal/bytealg.CountString", "internal/bytealg.IndexByteString", "internal/bytealg.IndexString"], unfollowed := true, recurses := true, named := ["unicode/utf8.first", "unicode/utf8.acceptRanges", "internal/bytealg.MaxLen"], apart := false, laid := [("unicode/utf8.acceptRanges", laid_unicode_utf8_acceptRanges), ("unicode/utf8.first", laid_unicode_utf8_first)], narrowed := true }
def ValidateErrorsUptoSaid : Prop := validateErrorsUptoRow.holds Tryz.pinned (OpenSpec.upto validateErrorsSpec)

/-- 'certpathlaw33.ValidateLongest', WHERE WHAT IT READS IS OF BULK AT MOST 1048576: true; the input reads as it did. -/
def validateLongestUptoRow : OpenClaim := { program := "ytkabooclnoiclaagreatdoor", sum := "25e8ace8909a11fc0f9240863d1a9efe57e66dfeaa8e8240fcb3084001700585", func := "certpath/certpathlaw33.ValidateLongest", spec := "validateLongest", inPlace := ["internal/bytealg.CountString", "internal/bytealg.IndexByteString", "internal/bytealg.IndexString"], unfollowed := true, recurses := true, named := ["unicode/utf8.first", "unicode/utf8.acceptRanges", "internal/bytealg.MaxLen"], apart := false, laid := [("unicode/utf8.acceptRanges", laid_unicode_utf8_acceptRanges), ("unicode/utf8.first", laid_unicode_utf8_first)], narrowed := true }
def ValidateLongestUptoSaid : Prop := validateLongestUptoRow.holds Tryz.pinned (OpenSpec.upto validateLongestSpec)

/-- 'certpathlaw33.ValidateStatus', WHERE WHAT IT READS IS OF BULK AT MOST 1048576: true; the input reads as it did. -/
def validateStatusUptoRow : OpenClaim := { program := "ytkabooclnoiclaagreatdoor", sum := "25e8ace8909a11fc0f9240863d1a9efe57e66dfeaa8e8240fcb3084001700585", func := "certpath/certpathlaw33.ValidateStatus", spec := "validateStatus", inPlace := ["internal/bytealg.CountString", "internal/bytealg.IndexByteString", "internal/bytealg.IndexString"], unfollowed := true, recurses := true, named := ["unicode/utf8.first", "unicode/utf8.acceptRanges", "internal/bytealg.MaxLen"], apart := false, laid := [("unicode/utf8.acceptRanges", laid_unicode_utf8_acceptRanges), ("unicode/utf8.first", laid_unicode_utf8_first)], narrowed := true }
def ValidateStatusUptoSaid : Prop := validateStatusUptoRow.holds Tryz.pinned (OpenSpec.upto validateStatusSpec)

/-- 'certpathlaw33.ValidateNames', WHERE WHAT IT READS IS OF BULK AT MOST 1048576: true; the input reads as it did. -/
def validateNamesUptoRow : OpenClaim := { program := "ytkabooclnoiclaagreatdoor", sum := "25e8ace8909a11fc0f9240863d1a9efe57e66dfeaa8e8240fcb3084001700585", func := "certpath/certpathlaw33.ValidateNames", spec := "validateNames", inPlace := ["internal/bytealg.CountString", "internal/bytealg.IndexByteString", "internal/bytealg.IndexString"], unfollowed := true, recurses := true, named := ["unicode/utf8.first", "unicode/utf8.acceptRanges", "internal/bytealg.MaxLen"], apart := false, laid := [("unicode/utf8.acceptRanges", laid_unicode_utf8_acceptRanges), ("unicode/utf8.first", laid_unicode_utf8_first)], narrowed := true }
def ValidateNamesUptoSaid : Prop := validateNamesUptoRow.holds Tryz.pinned (OpenSpec.upto validateNamesSpec)

end Rows
end Go.Proofs.YtkabooclnoiclaaGreatDoor

/-
  NARROWER THAN 'FOR EVERY INPUT', by the rows' own cells (each row's printed sentence says how): WireEncodesQueries: laid · WireDecodesQueries: laid · WireFounds: laid · WireReturns: laid · WireOptional: laid · WireAnchors: laid · WireBytes: laid.
  DERIVED. THE GIVEN ROWS OF THIS SEAT. 7 by the template 'for every input the law returns true; each argument reads behind the call as it read before'; 0 by the template 'total and deterministic' (their statements: YtbggpcnbbhjiaaaGreatDoorTotals.lean).
  GIVEN WITH THE SEED: the statements are not yours to turn. If you find one false, say at which input.
  Laid BY PROGRAM, IN A SANDBOX (cutbox-rows.mjs): the forced cells as the released guide's own fill.sh prints them over the translation cb4ac484d0f6b615… (all of the seat's roots in one cut). By AI agents, Wed Nov 11 2026. No macro, syntax, notation, axiom, sorry.
-/
import Derived.Test.YtbggpcnbbhjiaaaGreatDoorChecked
import GoSem.PinnedTables
import GoSem.Claim
import GoSem.ClaimJoined
import GoSem.ClaimMapViews
import Derived.JoinedTies
import Derived.KernelRfl
namespace Go.Proofs.YtbggpcnbbhjiaaaGreatDoor
/- THE CELL 'sum', in the pinned program and in every row, IS THE sha256 OF THE DUMP (.gsa) THAT YtbggpcnbbhjiaaaGreatDoorProg.lean LOADS. Nothing in Lean hashes anything: it is a label: what it is worth is what the hold of that sum in a sandbox is worth. -/
noncomputable def Tryz.pinned : Pinned := { name := "ytbggpcnbbhjiaaagreatdoor", sum := "cb4ac484d0f6b6150478de3380a2a1521881acf9e9f07dc9550509e3e6265ef6", checked := Tryz.checked }
namespace Rows
def none {H : Type} : Left H := { results := [], args := [] }

/- WHAT THE LISTED PACKAGE-LEVEL VARIABLES READ AS WHEN THE CALL BEGINS. Each datum BY PROGRAM (the guide's laid-datum.mjs) off the statement by which the dump's own 'gosem.cut.vars' lays the variable. In a bare row this is a premise. The card (YtbggpcnbbhjiaaaGreatDoorCards.lean) ties it to the program's text. -/
def laid_math_bits_deBruijn32tab {H : Type} : DataW H := .agg [.lit (.int .u8 0), .lit (.int .u8 1), .lit (.int .u8 28), .lit (.int .u8 2), .lit (.int .u8 29), .lit (.int .u8 14), .lit (.int .u8 24), .lit (.int .u8 3), .lit (.int .u8 30), .lit (.int .u8 22), .lit (.int .u8 20), .lit (.int .u8 15), .lit (.int .u8 25), .lit (.int .u8 17), .lit (.int .u8 4), .lit (.int .u8 8), .lit (.int .u8 31), .lit (.int .u8 27), .lit (.int .u8 13), .lit (.int .u8 23), .lit (.int .u8 21), .lit (.int .u8 19), .lit (.int .u8 16), .lit (.int .u8 7), .lit (.int .u8 26), .lit (.int .u8 12), .lit (.int .u8 18), .lit (.int .u8 6), .lit (.int .u8 11), .lit (.int .u8 5), .lit (.int .u8 10), .lit (.int .u8 9)]
def laid_math_bits_deBruijn64tab {H : Type} : DataW H := .agg [.lit (.int .u8 0), .lit (.int .u8 1), .lit (.int .u8 56), .lit (.int .u8 2), .lit (.int .u8 57), .lit (.int .u8 49), .lit (.int .u8 28), .lit (.int .u8 3), .lit (.int .u8 61), .lit (.int .u8 58), .lit (.int .u8 42), .lit (.int .u8 50), .lit (.int .u8 38), .lit (.int .u8 29), .lit (.int .u8 17), .lit (.int .u8 4), .lit (.int .u8 62), .lit (.int .u8 47), .lit (.int .u8 59), .lit (.int .u8 36), .lit (.int .u8 45), .lit (.int .u8 43), .lit (.int .u8 51), .lit (.int .u8 22), .lit (.int .u8 53), .lit (.int .u8 39), .lit (.int .u8 33), .lit (.int .u8 30), .lit (.int .u8 24), .lit (.int .u8 18), .lit (.int .u8 12), .lit (.int .u8 5), .lit (.int .u8 63), .lit (.int .u8 55), .lit (.int .u8 48), .lit (.int .u8 27), .lit (.int .u8 60), .lit (.int .u8 41), .lit (.int .u8 37), .lit (.int .u8 16), .lit (.int .u8 46), .lit (.int .u8 35), .lit (.int .u8 44), .lit (.int .u8 21), .lit (.int .u8 52), .lit (.int .u8 32), .lit (.int .u8 23), .lit (.int .u8 11), .lit (.int .u8 54), .lit (.int .u8 26), .lit (.int .u8 40), .lit (.int .u8 15), .lit (.int .u8 34), .lit (.int .u8 20), .lit (.int .u8 31), .lit (.int .u8 10), .lit (.int .u8 25), .lit (.int .u8 14), .lit (.int .u8 19), .lit (.int .u8 9), .lit (.int .u8 13), .lit (.int .u8 8), .lit (.int .u8 7), .lit (.int .u8 6)]
def laid_internal_strconv_uint64pow10 {H : Type} : DataW H := .agg [.lit (.int .u64 1), .lit (.int .u64 10), .lit (.int .u64 100), .lit (.int .u64 1000), .lit (.int .u64 10000), .lit (.int .u64 100000), .lit (.int .u64 1000000), .lit (.int .u64 10000000), .lit (.int .u64 100000000), .lit (.int .u64 1000000000), .lit (.int .u64 10000000000), .lit (.int .u64 100000000000), .lit (.int .u64 1000000000000), .lit (.int .u64 10000000000000), .lit (.int .u64 100000000000000), .lit (.int .u64 1000000000000000), .lit (.int .u64 10000000000000000), .lit (.int .u64 100000000000000000), .lit (.int .u64 1000000000000000000), .lit (.int .u64 10000000000000000000)]
def laid_unicode_utf8_acceptRanges {H : Type} : DataW H := .agg [.agg [.lit (.int .u8 128), .lit (.int .u8 191)], .agg [.lit (.int .u8 160), .lit (.int .u8 191)], .agg [.lit (.int .u8 128), .lit (.int .u8 159)], .agg [.lit (.int .u8 144), .lit (.int .u8 191)], .agg [.lit (.int .u8 128), .lit (.int .u8 143)], .agg [.lit (.int .u8 0), .lit (.int .u8 0)], .agg [.lit (.int .u8 0), .lit (.int .u8 0)], .agg [.lit (.int .u8 0), .lit (.int .u8 0)], .agg [.lit (.int .u8 0), .lit (.int .u8 0)], .agg [.lit (.int .u8 0), .lit (.int .u8 0)], .agg [.lit (.int .u8 0), .lit (.int .u8 0)], .agg [.lit (.int .u8 0), .lit (.int .u8 0)], .agg [.lit (.int .u8 0), .lit (.int .u8 0)], .agg [.lit (.int .u8 0), .lit (.int .u8 0)], .agg [.lit (.int .u8 0), .lit (.int .u8 0)], .agg [.lit (.int .u8 0), .lit (.int .u8 0)]]
def laid_certpath_date_lengths {H : Type} : DataW H := .agg [.lit (.int .i64 31), .lit (.int .i64 28), .lit (.int .i64 31), .lit (.int .i64 30), .lit (.int .i64 31), .lit (.int .i64 30), .lit (.int .i64 31), .lit (.int .i64 31), .lit (.int .i64 30), .lit (.int .i64 31), .lit (.int .i64 30), .lit (.int .i64 31)]
/-- One of Go's own tables, pinned by name: the form's constant. -/
def laid_unicode_utf8_first : DataW Unit := Go.Pinned.utf8First

/-- 'certpathlaw37.WireEncodesQueries': WHATEVER THE INPUT: true; the input reads as it did. -/
def wireEncodesQueriesSpec : ChangeSpec := { name := "wireEncodesQueries", fn := fun _ => fun
  | [d1, d2] => { results := [.lit (.bool true)], args := [d1, d2] }
  | _ => none }
def wireEncodesQueriesRow : OpenClaim := { program := "ytbggpcnbbhjiaaagreatdoor", sum := "cb4ac484d0f6b6150478de3380a2a1521881acf9e9f07dc9550509e3e6265ef6", func := "certpath/certpathlaw37.WireEncodesQueries", spec := "wireEncodesQueries", inPlace := ["internal/bytealg.CountString", "internal/bytealg.IndexByteString", "internal/bytealg.IndexString", "internal/abi.NoEscape", "internal/bytealg.MakeNoZero"], unfollowed := true, recurses := true, named := ["unicode/utf8.first", "unicode/utf8.acceptRanges", "internal/bytealg.MaxLen", "certpath/date.lengths", "internal/strconv.uint64pow10", "math/bits.deBruijn32tab", "math/bits.deBruijn64tab"], apart := false, laid := [("math/bits.deBruijn32tab", laid_math_bits_deBruijn32tab), ("math/bits.deBruijn64tab", laid_math_bits_deBruijn64tab), ("internal/strconv.uint64pow10", laid_internal_strconv_uint64pow10), ("unicode/utf8.acceptRanges", laid_unicode_utf8_acceptRanges), ("certpath/date.lengths", laid_certpath_date_lengths), ("unicode/utf8.first", laid_unicode_utf8_first)] }
def WireEncodesQueriesSaid : Prop := wireEncodesQueriesRow.holds Tryz.pinned (OpenSpec.ofChange wireEncodesQueriesSpec)

/-- ITS FALSE NEIGHBOUR: 'it returns false'. Refute it at one input. -/
def wireEncodesQueriesWrong : ChangeSpec := { name := "wireEncodesQueries", fn := fun _ => fun
  | [d1, d2] => { results := [.lit (.bool false)], args := [d1, d2] }
  | _ => none }
def WireEncodesQueriesWrongFalsely : Prop := wireEncodesQueriesRow.holds Tryz.pinned (OpenSpec.ofChange wireEncodesQueriesWrong)

/-- 'certpathlaw37.WireDecodesQueries': WHATEVER THE INPUT: true; the input reads as it did. -/
def wireDecodesQueriesSpec : ChangeSpec := { name := "wireDecodesQueries", fn := fun _ => fun
  | [d] => { results := [.lit (.bool true)], args := [d] }
  | _ => none }
def wireDecodesQueriesRow : OpenClaim := { program := "ytbggpcnbbhjiaaagreatdoor", sum := "cb4ac484d0f6b6150478de3380a2a1521881acf9e9f07dc9550509e3e6265ef6", func := "certpath/certpathlaw37.WireDecodesQueries", spec := "wireDecodesQueries", inPlace := ["internal/abi.NoEscape", "internal/bytealg.MakeNoZero", "internal/bytealg.CountString", "internal/bytealg.IndexByteString", "internal/bytealg.IndexString"], unfollowed := true, recurses := true, named := ["certpath/date.lengths", "internal/strconv.uint64pow10", "math/bits.deBruijn32tab", "math/bits.deBruijn64tab", "unicode/utf8.first", "unicode/utf8.acceptRanges", "internal/bytealg.MaxLen"], apart := false, laid := [("math/bits.deBruijn32tab", laid_math_bits_deBruijn32tab), ("math/bits.deBruijn64tab", laid_math_bits_deBruijn64tab), ("internal/strconv.uint64pow10", laid_internal_strconv_uint64pow10), ("unicode/utf8.acceptRanges", laid_unicode_utf8_acceptRanges), ("certpath/date.lengths", laid_certpath_date_lengths), ("unicode/utf8.first", laid_unicode_utf8_first)] }
def WireDecodesQueriesSaid : Prop := wireDecodesQueriesRow.holds Tryz.pinned (OpenSpec.ofChange wireDecodesQueriesSpec)

/-- ITS FALSE NEIGHBOUR: 'it returns false'. Refute it at one input. -/
def wireDecodesQueriesWrong : ChangeSpec := { name := "wireDecodesQueries", fn := fun _ => fun
  | [d] => { results := [.lit (.bool false)], args := [d] }
  | _ => none }
def WireDecodesQueriesWrongFalsely : Prop := wireDecodesQueriesRow.holds Tryz.pinned (OpenSpec.ofChange wireDecodesQueriesWrong)

/-- 'certpathlaw37.WireFounds': WHATEVER THE INPUT: true; the input reads as it did. -/
def wireFoundsSpec : ChangeSpec := { name := "wireFounds", fn := fun _ => fun
  | [d1, d2] => { results := [.lit (.bool true)], args := [d1, d2] }
  | _ => none }
def wireFoundsRow : OpenClaim := { program := "ytbggpcnbbhjiaaagreatdoor", sum := "cb4ac484d0f6b6150478de3380a2a1521881acf9e9f07dc9550509e3e6265ef6", func := "certpath/certpathlaw37.WireFounds", spec := "wireFounds", inPlace := ["internal/bytealg.CountString", "internal/bytealg.IndexByteString", "internal/bytealg.IndexString", "internal/abi.NoEscape", "internal/bytealg.MakeNoZero"], unfollowed := true, recurses := true, named := ["unicode/utf8.first", "unicode/utf8.acceptRanges", "internal/bytealg.MaxLen", "certpath/date.lengths", "internal/strconv.uint64pow10", "math/bits.deBruijn32tab", "math/bits.deBruijn64tab"], apart := false, laid := [("math/bits.deBruijn32tab", laid_math_bits_deBruijn32tab), ("math/bits.deBruijn64tab", laid_math_bits_deBruijn64tab), ("internal/strconv.uint64pow10", laid_internal_strconv_uint64pow10), ("unicode/utf8.acceptRanges", laid_unicode_utf8_acceptRanges), ("certpath/date.lengths", laid_certpath_date_lengths), ("unicode/utf8.first", laid_unicode_utf8_first)] }
def WireFoundsSaid : Prop := wireFoundsRow.holds Tryz.pinned (OpenSpec.ofChange wireFoundsSpec)

/-- ITS FALSE NEIGHBOUR: 'it returns false'. Refute it at one input. -/
def wireFoundsWrong : ChangeSpec := { name := "wireFounds", fn := fun _ => fun
  | [d1, d2] => { results := [.lit (.bool false)], args := [d1, d2] }
  | _ => none }
def WireFoundsWrongFalsely : Prop := wireFoundsRow.holds Tryz.pinned (OpenSpec.ofChange wireFoundsWrong)

/-- 'certpathlaw37.WireReturns': WHATEVER THE INPUT: true; the input reads as it did. -/
def wireReturnsSpec : ChangeSpec := { name := "wireReturns", fn := fun _ => fun
  | [d] => { results := [.lit (.bool true)], args := [d] }
  | _ => none }
def wireReturnsRow : OpenClaim := { program := "ytbggpcnbbhjiaaagreatdoor", sum := "cb4ac484d0f6b6150478de3380a2a1521881acf9e9f07dc9550509e3e6265ef6", func := "certpath/certpathlaw37.WireReturns", spec := "wireReturns", inPlace := ["internal/bytealg.CountString", "internal/bytealg.IndexByteString", "internal/bytealg.IndexString", "internal/abi.NoEscape", "internal/bytealg.MakeNoZero"], unfollowed := true, recurses := true, named := ["unicode/utf8.first", "unicode/utf8.acceptRanges", "internal/bytealg.MaxLen", "certpath/date.lengths", "internal/strconv.uint64pow10", "math/bits.deBruijn32tab", "math/bits.deBruijn64tab"], apart := false, laid := [("math/bits.deBruijn32tab", laid_math_bits_deBruijn32tab), ("math/bits.deBruijn64tab", laid_math_bits_deBruijn64tab), ("internal/strconv.uint64pow10", laid_internal_strconv_uint64pow10), ("unicode/utf8.acceptRanges", laid_unicode_utf8_acceptRanges), ("certpath/date.lengths", laid_certpath_date_lengths), ("unicode/utf8.first", laid_unicode_utf8_first)] }
def WireReturnsSaid : Prop := wireReturnsRow.holds Tryz.pinned (OpenSpec.ofChange wireReturnsSpec)

/-- ITS FALSE NEIGHBOUR: 'it returns false'. Refute it at one input. -/
def wireReturnsWrong : ChangeSpec := { name := "wireReturns", fn := fun _ => fun
  | [d] => { results := [.lit (.bool false)], args := [d] }
  | _ => none }
def WireReturnsWrongFalsely : Prop := wireReturnsRow.holds Tryz.pinned (OpenSpec.ofChange wireReturnsWrong)

/-- 'certpathlaw37.WireOptional': WHATEVER THE INPUT: true; the input reads as it did. -/
def wireOptionalSpec : ChangeSpec := { name := "wireOptional", fn := fun _ => fun
  | [d] => { results := [.lit (.bool true)], args := [d] }
  | _ => none }
def wireOptionalRow : OpenClaim := { program := "ytbggpcnbbhjiaaagreatdoor", sum := "cb4ac484d0f6b6150478de3380a2a1521881acf9e9f07dc9550509e3e6265ef6", func := "certpath/certpathlaw37.WireOptional", spec := "wireOptional", inPlace := ["internal/bytealg.CountString", "internal/bytealg.IndexByteString", "internal/bytealg.IndexString", "internal/abi.NoEscape", "internal/bytealg.MakeNoZero"], unfollowed := true, recurses := true, named := ["unicode/utf8.first", "unicode/utf8.acceptRanges", "internal/bytealg.MaxLen", "certpath/date.lengths", "internal/strconv.uint64pow10", "math/bits.deBruijn32tab", "math/bits.deBruijn64tab"], apart := false, laid := [("math/bits.deBruijn32tab", laid_math_bits_deBruijn32tab), ("math/bits.deBruijn64tab", laid_math_bits_deBruijn64tab), ("internal/strconv.uint64pow10", laid_internal_strconv_uint64pow10), ("unicode/utf8.acceptRanges", laid_unicode_utf8_acceptRanges), ("certpath/date.lengths", laid_certpath_date_lengths), ("unicode/utf8.first", laid_unicode_utf8_first)] }
def WireOptionalSaid : Prop := wireOptionalRow.holds Tryz.pinned (OpenSpec.ofChange wireOptionalSpec)

/-- ITS FALSE NEIGHBOUR: 'it returns false'. Refute it at one input. -/
def wireOptionalWrong : ChangeSpec := { name := "wireOptional", fn := fun _ => fun
  | [d] => { results := [.lit (.bool false)], args := [d] }
  | _ => none }
def WireOptionalWrongFalsely : Prop := wireOptionalRow.holds Tryz.pinned (OpenSpec.ofChange wireOptionalWrong)

/-- 'certpathlaw37.WireAnchors': WHATEVER THE INPUT: true; the input reads as it did. -/
def wireAnchorsSpec : ChangeSpec := { name := "wireAnchors", fn := fun _ => fun
  | [d1, d2] => { results := [.lit (.bool true)], args := [d1, d2] }
  | _ => none }
def wireAnchorsRow : OpenClaim := { program := "ytbggpcnbbhjiaaagreatdoor", sum := "cb4ac484d0f6b6150478de3380a2a1521881acf9e9f07dc9550509e3e6265ef6", func := "certpath/certpathlaw37.WireAnchors", spec := "wireAnchors", inPlace := ["internal/bytealg.CountString", "internal/bytealg.IndexByteString", "internal/bytealg.IndexString", "internal/abi.NoEscape", "internal/bytealg.MakeNoZero"], unfollowed := true, recurses := true, named := ["unicode/utf8.first", "unicode/utf8.acceptRanges", "internal/bytealg.MaxLen", "certpath/date.lengths", "internal/strconv.uint64pow10", "math/bits.deBruijn32tab", "math/bits.deBruijn64tab"], apart := false, laid := [("math/bits.deBruijn32tab", laid_math_bits_deBruijn32tab), ("math/bits.deBruijn64tab", laid_math_bits_deBruijn64tab), ("internal/strconv.uint64pow10", laid_internal_strconv_uint64pow10), ("unicode/utf8.acceptRanges", laid_unicode_utf8_acceptRanges), ("certpath/date.lengths", laid_certpath_date_lengths), ("unicode/utf8.first", laid_unicode_utf8_first)] }
def WireAnchorsSaid : Prop := wireAnchorsRow.holds Tryz.pinned (OpenSpec.ofChange wireAnchorsSpec)

/-- ITS FALSE NEIGHBOUR: 'it returns false'. Refute it at one input. -/
def wireAnchorsWrong : ChangeSpec := { name := "wireAnchors", fn := fun _ => fun
  | [d1, d2] => { results := [.lit (.bool false)], args := [d1, d2] }
  | _ => none }
def WireAnchorsWrongFalsely : Prop := wireAnchorsRow.holds Tryz.pinned (OpenSpec.ofChange wireAnchorsWrong)

/-- 'certpathlaw37.WireBytes': WHATEVER THE INPUT: true; the input reads as it did. -/
def wireBytesSpec : ChangeSpec := { name := "wireBytes", fn := fun _ => fun
  | [d] => { results := [.lit (.bool true)], args := [d] }
  | _ => none }
def wireBytesRow : OpenClaim := { program := "ytbggpcnbbhjiaaagreatdoor", sum := "cb4ac484d0f6b6150478de3380a2a1521881acf9e9f07dc9550509e3e6265ef6", func := "certpath/certpathlaw37.WireBytes", spec := "wireBytes", inPlace := ["internal/bytealg.CountString", "internal/bytealg.IndexByteString", "internal/bytealg.IndexString", "internal/abi.NoEscape", "internal/bytealg.MakeNoZero"], unfollowed := true, recurses := true, named := ["unicode/utf8.first", "unicode/utf8.acceptRanges", "internal/bytealg.MaxLen", "certpath/date.lengths", "internal/strconv.uint64pow10", "math/bits.deBruijn32tab", "math/bits.deBruijn64tab"], apart := false, laid := [("math/bits.deBruijn32tab", laid_math_bits_deBruijn32tab), ("math/bits.deBruijn64tab", laid_math_bits_deBruijn64tab), ("internal/strconv.uint64pow10", laid_internal_strconv_uint64pow10), ("unicode/utf8.acceptRanges", laid_unicode_utf8_acceptRanges), ("certpath/date.lengths", laid_certpath_date_lengths), ("unicode/utf8.first", laid_unicode_utf8_first)] }
def WireBytesSaid : Prop := wireBytesRow.holds Tryz.pinned (OpenSpec.ofChange wireBytesSpec)

/-- ITS FALSE NEIGHBOUR: 'it returns false'. Refute it at one input. -/
def wireBytesWrong : ChangeSpec := { name := "wireBytes", fn := fun _ => fun
  | [d] => { results := [.lit (.bool false)], args := [d] }
  | _ => none }
def WireBytesWrongFalsely : Prop := wireBytesRow.holds Tryz.pinned (OpenSpec.ofChange wireBytesWrong)

/- THE SECOND FORM. 'bulk': how many values and letters a reading holds, each counted each time it is reached (what is shared counts as often as it is met; a slice's spare places count too). A statement '..UptoSaid' is the law's where the arguments, and the package variables that the reading takes, are together of bulk at most 1048576: NARROWER than '..Said'. Prove '..Said' where nothing that the law and all that it calls make is longer than what came in: it says more and counts as full. Else prove '..UptoSaid'. A law counts once. -/
mutual
def uptoBulk {H : Type} : DataW H → Nat
  | .lit (.string bytes) => bytes.length + 1
  | .lit _ => 1
  | .nil => 1
  | .ptr d => uptoBulk d + 1
  | .slice elems spare => uptoBulkAll elems + uptoBulkAll spare + 1
  | .agg parts => uptoBulkAll parts + 1
  | .iface _ d => uptoBulk d + 1
  | .map entries => uptoBulkEntries entries + 1
  | .held _ => 1
def uptoBulkAll {H : Type} : List (DataW H) → Nat
  | [] => 0
  | d :: r => uptoBulk d + uptoBulkAll r
def uptoBulkEntries {H : Type} : List (Lit × DataW H) → Nat
  | [] => 0
  | x :: r => uptoBulkEntry x + uptoBulkEntries r
def uptoBulkEntry {H : Type} : Lit × DataW H → Nat
  | (.string bytes, d) => bytes.length + uptoBulk d + 1
  | (_, d) => uptoBulk d + 1
 end
def uptoSmall : (H : Type) → List (DataW H) → Bool := fun _ ds => decide (uptoBulkAll ds ≤ 1048576)
def OpenSpec.upto (s : _root_.Go.ChangeSpec) : _root_.Go.OpenSpec := { _root_.Go.OpenSpec.ofChange s with cond := some uptoSmall }

/-- 'certpathlaw37.WireEncodesQueries', WHERE WHAT IT READS IS OF BULK AT MOST 1048576: true; the input reads as it did. -/
def wireEncodesQueriesUptoRow : OpenClaim := { program := "ytbggpcnbbhjiaaagreatdoor", sum := "cb4ac484d0f6b6150478de3380a2a1521881acf9e9f07dc9550509e3e6265ef6", func := "certpath/certpathlaw37.WireEncodesQueries", spec := "wireEncodesQueries", inPlace := ["internal/bytealg.CountString", "internal/bytealg.IndexByteString", "internal/bytealg.IndexString", "internal/abi.NoEscape", "internal/bytealg.MakeNoZero"], unfollowed := true, recurses := true, named := ["unicode/utf8.first", "unicode/utf8.acceptRanges", "internal/bytealg.MaxLen", "certpath/date.lengths", "internal/strconv.uint64pow10", "math/bits.deBruijn32tab", "math/bits.deBruijn64tab"], apart := false, laid := [("math/bits.deBruijn32tab", laid_math_bits_deBruijn32tab), ("math/bits.deBruijn64tab", laid_math_bits_deBruijn64tab), ("internal/strconv.uint64pow10", laid_internal_strconv_uint64pow10), ("unicode/utf8.acceptRanges", laid_unicode_utf8_acceptRanges), ("certpath/date.lengths", laid_certpath_date_lengths), ("unicode/utf8.first", laid_unicode_utf8_first)], narrowed := true }
def WireEncodesQueriesUptoSaid : Prop := wireEncodesQueriesUptoRow.holds Tryz.pinned (OpenSpec.upto wireEncodesQueriesSpec)

/-- 'certpathlaw37.WireDecodesQueries', WHERE WHAT IT READS IS OF BULK AT MOST 1048576: true; the input reads as it did. -/
def wireDecodesQueriesUptoRow : OpenClaim := { program := "ytbggpcnbbhjiaaagreatdoor", sum := "cb4ac484d0f6b6150478de3380a2a1521881acf9e9f07dc9550509e3e6265ef6", func := "certpath/certpathlaw37.WireDecodesQueries", spec := "wireDecodesQueries", inPlace := ["internal/abi.NoEscape", "internal/bytealg.MakeNoZero", "internal/bytealg.CountString", "internal/bytealg.IndexByteString", "internal/bytealg.IndexString"], unfollowed := true, recurses := true, named := ["certpath/date.lengths", "internal/strconv.uint64pow10", "math/bits.deBruijn32tab", "math/bits.deBruijn64tab", "unicode/utf8.first", "unicode/utf8.acceptRanges", "internal/bytealg.MaxLen"], apart := false, laid := [("math/bits.deBruijn32tab", laid_math_bits_deBruijn32tab), ("math/bits.deBruijn64tab", laid_math_bits_deBruijn64tab), ("internal/strconv.uint64pow10", laid_internal_strconv_uint64pow10), ("unicode/utf8.acceptRanges", laid_unicode_utf8_acceptRanges), ("certpath/date.lengths", laid_certpath_date_lengths), ("unicode/utf8.first", laid_unicode_utf8_first)], narrowed := true }
def WireDecodesQueriesUptoSaid : Prop := wireDecodesQueriesUptoRow.holds Tryz.pinned (OpenSpec.upto wireDecodesQueriesSpec)

/-- 'certpathlaw37.WireFounds', WHERE WHAT IT READS IS OF BULK AT MOST 1048576: true; the input reads as it did. -/
def wireFoundsUptoRow : OpenClaim := { program := "ytbggpcnbbhjiaaagreatdoor", sum := "cb4ac484d0f6b6150478de3380a2a1521881acf9e9f07dc9550509e3e6265ef6", func := "certpath/certpathlaw37.WireFounds", spec := "wireFounds", inPlace := ["internal/bytealg.CountString", "internal/bytealg.IndexByteString", "internal/bytealg.IndexString", "internal/abi.NoEscape", "internal/bytealg.MakeNoZero"], unfollowed := true, recurses := true, named := ["unicode/utf8.first", "unicode/utf8.acceptRanges", "internal/bytealg.MaxLen", "certpath/date.lengths", "internal/strconv.uint64pow10", "math/bits.deBruijn32tab", "math/bits.deBruijn64tab"], apart := false, laid := [("math/bits.deBruijn32tab", laid_math_bits_deBruijn32tab), ("math/bits.deBruijn64tab", laid_math_bits_deBruijn64tab), ("internal/strconv.uint64pow10", laid_internal_strconv_uint64pow10), ("unicode/utf8.acceptRanges", laid_unicode_utf8_acceptRanges), ("certpath/date.lengths", laid_certpath_date_lengths), ("unicode/utf8.first", laid_unicode_utf8_first)], narrowed := true }
def WireFoundsUptoSaid : Prop := wireFoundsUptoRow.holds Tryz.pinned (OpenSpec.upto wireFoundsSpec)

/-- 'certpathlaw37.WireReturns', WHERE WHAT IT READS IS OF BULK AT MOST 1048576: true; the input reads as it did. -/
def wireReturnsUptoRow : OpenClaim := { program := "ytbggpcnbbhjiaaagreatdoor", sum := "cb4ac484d0f6b6150478de3380a2a1521881acf9e9f07dc9550509e3e6265ef6", func := "certpath/certpathlaw37.WireReturns", spec := "wireReturns", inPlace := ["internal/bytealg.CountString", "internal/bytealg.IndexByteString", "internal/bytealg.IndexString", "internal/abi.NoEscape", "internal/bytealg.MakeNoZero"], unfollowed := true, recurses := true, named := ["unicode/utf8.first", "unicode/utf8.acceptRanges", "internal/bytealg.MaxLen", "certpath/date.lengths", "internal/strconv.uint64pow10", "math/bits.deBruijn32tab", "math/bits.deBruijn64tab"], apart := false, laid := [("math/bits.deBruijn32tab", laid_math_bits_deBruijn32tab), ("math/bits.deBruijn64tab", laid_math_bits_deBruijn64tab), ("internal/strconv.uint64pow10", laid_internal_strconv_uint64pow10), ("unicode/utf8.acceptRanges", laid_unicode_utf8_acceptRanges), ("certpath/date.lengths", laid_certpath_date_lengths), ("unicode/utf8.first", laid_unicode_utf8_first)], narrowed := true }
def WireReturnsUptoSaid : Prop := wireReturnsUptoRow.holds Tryz.pinned (OpenSpec.upto wireReturnsSpec)

/-- 'certpathlaw37.WireOptional', WHERE WHAT IT READS IS OF BULK AT MOST 1048576: true; the input reads as it did. -/
def wireOptionalUptoRow : OpenClaim := { program := "ytbggpcnbbhjiaaagreatdoor", sum := "cb4ac484d0f6b6150478de3380a2a1521881acf9e9f07dc9550509e3e6265ef6", func := "certpath/certpathlaw37.WireOptional", spec := "wireOptional", inPlace := ["internal/bytealg.CountString", "internal/bytealg.IndexByteString", "internal/bytealg.IndexString", "internal/abi.NoEscape", "internal/bytealg.MakeNoZero"], unfollowed := true, recurses := true, named := ["unicode/utf8.first", "unicode/utf8.acceptRanges", "internal/bytealg.MaxLen", "certpath/date.lengths", "internal/strconv.uint64pow10", "math/bits.deBruijn32tab", "math/bits.deBruijn64tab"], apart := false, laid := [("math/bits.deBruijn32tab", laid_math_bits_deBruijn32tab), ("math/bits.deBruijn64tab", laid_math_bits_deBruijn64tab), ("internal/strconv.uint64pow10", laid_internal_strconv_uint64pow10), ("unicode/utf8.acceptRanges", laid_unicode_utf8_acceptRanges), ("certpath/date.lengths", laid_certpath_date_lengths), ("unicode/utf8.first", laid_unicode_utf8_first)], narrowed := true }
def WireOptionalUptoSaid : Prop := wireOptionalUptoRow.holds Tryz.pinned (OpenSpec.upto wireOptionalSpec)

/-- 'certpathlaw37.WireAnchors', WHERE WHAT IT READS IS OF BULK AT MOST 1048576: true; the input reads as it did. -/
def wireAnchorsUptoRow : OpenClaim := { program := "ytbggpcnbbhjiaaagreatdoor", sum := "cb4ac484d0f6b6150478de3380a2a1521881acf9e9f07dc9550509e3e6265ef6", func := "certpath/certpathlaw37.WireAnchors", spec := "wireAnchors", inPlace := ["internal/bytealg.CountString", "internal/bytealg.IndexByteString", "internal/bytealg.IndexString", "internal/abi.NoEscape", "internal/bytealg.MakeNoZero"], unfollowed := true, recurses := true, named := ["unicode/utf8.first", "unicode/utf8.acceptRanges", "internal/bytealg.MaxLen", "certpath/date.lengths", "internal/strconv.uint64pow10", "math/bits.deBruijn32tab", "math/bits.deBruijn64tab"], apart := false, laid := [("math/bits.deBruijn32tab", laid_math_bits_deBruijn32tab), ("math/bits.deBruijn64tab", laid_math_bits_deBruijn64tab), ("internal/strconv.uint64pow10", laid_internal_strconv_uint64pow10), ("unicode/utf8.acceptRanges", laid_unicode_utf8_acceptRanges), ("certpath/date.lengths", laid_certpath_date_lengths), ("unicode/utf8.first", laid_unicode_utf8_first)], narrowed := true }
def WireAnchorsUptoSaid : Prop := wireAnchorsUptoRow.holds Tryz.pinned (OpenSpec.upto wireAnchorsSpec)

/-- 'certpathlaw37.WireBytes', WHERE WHAT IT READS IS OF BULK AT MOST 1048576: true; the input reads as it did. -/
def wireBytesUptoRow : OpenClaim := { program := "ytbggpcnbbhjiaaagreatdoor", sum := "cb4ac484d0f6b6150478de3380a2a1521881acf9e9f07dc9550509e3e6265ef6", func := "certpath/certpathlaw37.WireBytes", spec := "wireBytes", inPlace := ["internal/bytealg.CountString", "internal/bytealg.IndexByteString", "internal/bytealg.IndexString", "internal/abi.NoEscape", "internal/bytealg.MakeNoZero"], unfollowed := true, recurses := true, named := ["unicode/utf8.first", "unicode/utf8.acceptRanges", "internal/bytealg.MaxLen", "certpath/date.lengths", "internal/strconv.uint64pow10", "math/bits.deBruijn32tab", "math/bits.deBruijn64tab"], apart := false, laid := [("math/bits.deBruijn32tab", laid_math_bits_deBruijn32tab), ("math/bits.deBruijn64tab", laid_math_bits_deBruijn64tab), ("internal/strconv.uint64pow10", laid_internal_strconv_uint64pow10), ("unicode/utf8.acceptRanges", laid_unicode_utf8_acceptRanges), ("certpath/date.lengths", laid_certpath_date_lengths), ("unicode/utf8.first", laid_unicode_utf8_first)], narrowed := true }
def WireBytesUptoSaid : Prop := wireBytesUptoRow.holds Tryz.pinned (OpenSpec.upto wireBytesSpec)

end Rows
end Go.Proofs.YtbggpcnbbhjiaaaGreatDoor

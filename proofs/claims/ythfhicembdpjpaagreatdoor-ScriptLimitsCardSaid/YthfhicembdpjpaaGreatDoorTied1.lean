/- The tie of the row to the program's text, each closed fact by itself. No condition. -/
import Derived.Test.YthfhicembdpjpaaGreatDoorRows
import Derived.LaidByTextLater
import Derived.SevenTiedAt
set_option linter.unusedVariables false
set_option linter.unusedSimpArgs false
set_option linter.unnecessarySimpa false
section
set_option maxRecDepth 100000
namespace Go.Proofs.YthfhicembdpjpaaGreatDoor
open Go
theorem pin_first : Tryz.pinned.checked.prog.pinnedFits "unicode/utf8.first" = true := by kernel_rfl
theorem noOwnUnsafe : Tryz.pinned.checked.prog.headLifts.contains "ownunsafe" = false := by kernel_rfl
theorem fits2 : Tryz.pinned.checked.prog.listedFits [("unicode/utf8.first", Rows.laid_unicode_utf8_first), ("unicode/utf8.acceptRanges", Rows.laid_unicode_utf8_acceptRanges), ("internal/strconv.uint64pow10", Rows.laid_internal_strconv_uint64pow10), ("math/bits.deBruijn32tab", Rows.laid_math_bits_deBruijn32tab), ("math/bits.deBruijn64tab", Rows.laid_math_bits_deBruijn64tab), ("certpath/date.lengths", Rows.laid_certpath_date_lengths), ("strconv.ErrSyntax", Rows.laid_strconv_ErrSyntax), ("strconv.ErrRange", Rows.laid_strconv_ErrRange)] = true := by
 unfold Program.listedFits
 rw [noOwnUnsafe]
 kernel_rfl
theorem lt_a : Tryz.prog.worded (varsWordLater true) = true := by kernel_rfl
theorem lt_b : Tryz.prog.worded (varsWordLater !true) = false := by kernel_rfl
theorem lt_c : Tryz.prog.worded rootWordLater = true := by kernel_rfl
theorem lt_d : (([("unicode/utf8.acceptRanges", Rows.laid_unicode_utf8_acceptRanges), ("internal/strconv.uint64pow10", Rows.laid_internal_strconv_uint64pow10), ("math/bits.deBruijn32tab", Rows.laid_math_bits_deBruijn32tab), ("math/bits.deBruijn64tab", Rows.laid_math_bits_deBruijn64tab), ("certpath/date.lengths", Rows.laid_certpath_date_lengths), ("strconv.ErrSyntax", Rows.laid_strconv_ErrSyntax), ("strconv.ErrRange", Rows.laid_strconv_ErrRange)] : List (String × DataW Unit))).map (fun x => Tryz.prog.kindOfLater x.1) = (([.data, .data, .data, .data, .data, .sentinel, .sentinel] : List LaidKind)).map some := by kernel_rfl
theorem lt_e : (Tryz.prog.funcNamed "gosem.cut.vars").isSome = true := by kernel_rfl
theorem lt_f : varsNamedLaterB Tryz.prog (varsId Tryz.prog) ([("unicode/utf8.acceptRanges", Rows.laid_unicode_utf8_acceptRanges), ("internal/strconv.uint64pow10", Rows.laid_internal_strconv_uint64pow10), ("math/bits.deBruijn32tab", Rows.laid_math_bits_deBruijn32tab), ("math/bits.deBruijn64tab", Rows.laid_math_bits_deBruijn64tab), ("certpath/date.lengths", Rows.laid_certpath_date_lengths), ("strconv.ErrSyntax", Rows.laid_strconv_ErrSyntax), ("strconv.ErrRange", Rows.laid_strconv_ErrRange)] : List (String × DataW Unit)) = true := by kernel_rfl
theorem lt_g (os : Os) (tape : Tape) : varsDone Tryz.prog 400 (varsId Tryz.prog) os tape = true := by kernel_rfl
theorem lt_h (os : Os) (tape : Tape) : (DataW.laidRun Tryz.prog (varsWorld Tryz.prog 400 (varsId Tryz.prog) os tape).memory 8 ((([("unicode/utf8.acceptRanges", Rows.laid_unicode_utf8_acceptRanges), ("internal/strconv.uint64pow10", Rows.laid_internal_strconv_uint64pow10), ("math/bits.deBruijn32tab", Rows.laid_math_bits_deBruijn32tab), ("math/bits.deBruijn64tab", Rows.laid_math_bits_deBruijn64tab), ("certpath/date.lengths", Rows.laid_certpath_date_lengths), ("strconv.ErrSyntax", Rows.laid_strconv_ErrSyntax), ("strconv.ErrRange", Rows.laid_strconv_ErrRange)] : List (String × DataW Unit))).map (·.1))).map (·.1) = some ([("unicode/utf8.acceptRanges", Rows.laid_unicode_utf8_acceptRanges), ("internal/strconv.uint64pow10", Rows.laid_internal_strconv_uint64pow10), ("math/bits.deBruijn32tab", Rows.laid_math_bits_deBruijn32tab), ("math/bits.deBruijn64tab", Rows.laid_math_bits_deBruijn64tab), ("certpath/date.lengths", Rows.laid_certpath_date_lengths), ("strconv.ErrSyntax", Rows.laid_strconv_ErrSyntax), ("strconv.ErrRange", Rows.laid_strconv_ErrRange)] : List (String × DataW Unit)) := by kernel_rfl
theorem lt_i (os : Os) (tape : Tape) : (DataW.laidRun Tryz.prog (varsWorld Tryz.prog 400 (varsId Tryz.prog) os tape).memory 8 ((([("unicode/utf8.acceptRanges", Rows.laid_unicode_utf8_acceptRanges), ("internal/strconv.uint64pow10", Rows.laid_internal_strconv_uint64pow10), ("math/bits.deBruijn32tab", Rows.laid_math_bits_deBruijn32tab), ("math/bits.deBruijn64tab", Rows.laid_math_bits_deBruijn64tab), ("certpath/date.lengths", Rows.laid_certpath_date_lengths), ("strconv.ErrSyntax", Rows.laid_strconv_ErrSyntax), ("strconv.ErrRange", Rows.laid_strconv_ErrRange)] : List (String × DataW Unit))).map (·.1))).map (fun x => decide x.2.Nodup && laidRowsB Tryz.prog (varsWorld Tryz.prog 400 (varsId Tryz.prog) os tape).memory x.2) = some true := by kernel_rfl
theorem tie2 : Tryz.prog.laidByTextLater ([("unicode/utf8.acceptRanges", Rows.laid_unicode_utf8_acceptRanges), ("internal/strconv.uint64pow10", Rows.laid_internal_strconv_uint64pow10), ("math/bits.deBruijn32tab", Rows.laid_math_bits_deBruijn32tab), ("math/bits.deBruijn64tab", Rows.laid_math_bits_deBruijn64tab), ("certpath/date.lengths", Rows.laid_certpath_date_lengths), ("strconv.ErrSyntax", Rows.laid_strconv_ErrSyntax), ("strconv.ErrRange", Rows.laid_strconv_ErrRange)] : List (String × DataW Unit)) ([.data, .data, .data, .data, .data, .sentinel, .sentinel] : List LaidKind) true :=
 Program.laidByTextLater_by_run 400 8 lt_a lt_b lt_c lt_d lt_e lt_f lt_g lt_h lt_i
theorem scriptLimits_row_tie : Rows.scriptLimitsRow.laidByTextAt .later Tryz.pinned [.pinned, .data, .data, .data, .data, .data, .sentinel, .sentinel] true :=
 OpenClaim.laidByTextAt_pinned rfl rfl tie2 rfl rfl rfl rfl (fun y hy _e => by
  simp only [Rows.scriptLimitsRow, List.zip_cons_cons, List.zip_nil_right, List.mem_cons, List.mem_nil_iff, or_false] at hy
  rcases hy with rfl | rfl | rfl | rfl | rfl | rfl | rfl | rfl
  ·exact ⟨pin_first, by kernel_rfl⟩
  ·cases _e
  ·cases _e
  ·cases _e
  ·cases _e
  ·cases _e
  ·cases _e
  ·cases _e) fits2
end Go.Proofs.YthfhicembdpjpaaGreatDoor
end

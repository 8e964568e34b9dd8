/- The tie of the row to the program's text, each closed fact by itself. No condition. -/
import Derived.Test.YthfhicembdpjpaaGreatDoorRows
import Derived.LaidByTextLater
import Derived.SevenTiedAt
set_option linter.all false
section
set_option maxRecDepth 100000
namespace Go.Proofs.YthfhicembdpjpaaGreatDoor
open Go
theorem pv : Tryz.pinned.checked.prog.pinnedFits "unicode/utf8.first" = true := by kernel_rfl
theorem JB : Tryz.pinned.checked.prog.headLifts.contains "ownunsafe" = false := by kernel_rfl
theorem fy : Tryz.pinned.checked.prog.listedFits [("unicode/utf8.first", Rows.laid_unicode_utf8_first), ("unicode/utf8.acceptRanges", Rows.laid_unicode_utf8_acceptRanges), ("strconv.ErrSyntax", Rows.laid_strconv_ErrSyntax), ("strconv.ErrRange", Rows.laid_strconv_ErrRange), ("internal/strconv.uint64pow10", Rows.laid_internal_strconv_uint64pow10), ("math/bits.deBruijn32tab", Rows.laid_math_bits_deBruijn32tab), ("math/bits.deBruijn64tab", Rows.laid_math_bits_deBruijn64tab), ("certpath/date.lengths", Rows.laid_certpath_date_lengths)] = true := by
 unfold Program.listedFits
 rw [JB]
 kernel_rfl
theorem lE:Tryz.prog.worded (varsWordLater true)=true:=by kernel_rfl
theorem lY:Tryz.prog.worded (varsWordLater !true)=false:=by kernel_rfl
theorem lq:Tryz.prog.worded rootWordLater=true:=by kernel_rfl
theorem hJ : (([("unicode/utf8.acceptRanges", Rows.laid_unicode_utf8_acceptRanges), ("strconv.ErrSyntax", Rows.laid_strconv_ErrSyntax), ("strconv.ErrRange", Rows.laid_strconv_ErrRange), ("internal/strconv.uint64pow10", Rows.laid_internal_strconv_uint64pow10), ("math/bits.deBruijn32tab", Rows.laid_math_bits_deBruijn32tab), ("math/bits.deBruijn64tab", Rows.laid_math_bits_deBruijn64tab), ("certpath/date.lengths", Rows.laid_certpath_date_lengths)] : List (String × DataW Unit))).map (fun x => Tryz.prog.kindOfLater x.1) = (([.data, .sentinel, .sentinel, .data, .data, .data, .data] : List LaidKind)).map some := by kernel_rfl
theorem lk : (Tryz.prog.funcNamed "gosem.cut.vars").isSome = true := by kernel_rfl
theorem lV : varsNamedLaterB Tryz.prog (varsId Tryz.prog) ([("unicode/utf8.acceptRanges", Rows.laid_unicode_utf8_acceptRanges), ("strconv.ErrSyntax", Rows.laid_strconv_ErrSyntax), ("strconv.ErrRange", Rows.laid_strconv_ErrRange), ("internal/strconv.uint64pow10", Rows.laid_internal_strconv_uint64pow10), ("math/bits.deBruijn32tab", Rows.laid_math_bits_deBruijn32tab), ("math/bits.deBruijn64tab", Rows.laid_math_bits_deBruijn64tab), ("certpath/date.lengths", Rows.laid_certpath_date_lengths)] : List (String × DataW Unit)) = true := by kernel_rfl
theorem lw (os:Os) (tape:Tape):varsDone Tryz.prog 400 (varsId Tryz.prog) os tape=true:=by kernel_rfl
theorem lc (os : Os) (tape : Tape) : (DataW.laidRun Tryz.prog (varsWorld Tryz.prog 400 (varsId Tryz.prog) os tape).memory 8 ((([("unicode/utf8.acceptRanges", Rows.laid_unicode_utf8_acceptRanges), ("strconv.ErrSyntax", Rows.laid_strconv_ErrSyntax), ("strconv.ErrRange", Rows.laid_strconv_ErrRange), ("internal/strconv.uint64pow10", Rows.laid_internal_strconv_uint64pow10), ("math/bits.deBruijn32tab", Rows.laid_math_bits_deBruijn32tab), ("math/bits.deBruijn64tab", Rows.laid_math_bits_deBruijn64tab), ("certpath/date.lengths", Rows.laid_certpath_date_lengths)] : List (String × DataW Unit))).map (·.1))).map (·.1) = some ([("unicode/utf8.acceptRanges", Rows.laid_unicode_utf8_acceptRanges), ("strconv.ErrSyntax", Rows.laid_strconv_ErrSyntax), ("strconv.ErrRange", Rows.laid_strconv_ErrRange), ("internal/strconv.uint64pow10", Rows.laid_internal_strconv_uint64pow10), ("math/bits.deBruijn32tab", Rows.laid_math_bits_deBruijn32tab), ("math/bits.deBruijn64tab", Rows.laid_math_bits_deBruijn64tab), ("certpath/date.lengths", Rows.laid_certpath_date_lengths)] : List (String × DataW Unit)) := by kernel_rfl
theorem lO (os : Os) (tape : Tape) : (DataW.laidRun Tryz.prog (varsWorld Tryz.prog 400 (varsId Tryz.prog) os tape).memory 8 ((([("unicode/utf8.acceptRanges", Rows.laid_unicode_utf8_acceptRanges), ("strconv.ErrSyntax", Rows.laid_strconv_ErrSyntax), ("strconv.ErrRange", Rows.laid_strconv_ErrRange), ("internal/strconv.uint64pow10", Rows.laid_internal_strconv_uint64pow10), ("math/bits.deBruijn32tab", Rows.laid_math_bits_deBruijn32tab), ("math/bits.deBruijn64tab", Rows.laid_math_bits_deBruijn64tab), ("certpath/date.lengths", Rows.laid_certpath_date_lengths)] : List (String × DataW Unit))).map (·.1))).map (fun x => decide x.2.Nodup && laidRowsB Tryz.prog (varsWorld Tryz.prog 400 (varsId Tryz.prog) os tape).memory x.2) = some true := by kernel_rfl
theorem tie : Tryz.prog.laidByTextLater ([("unicode/utf8.acceptRanges", Rows.laid_unicode_utf8_acceptRanges), ("strconv.ErrSyntax", Rows.laid_strconv_ErrSyntax), ("strconv.ErrRange", Rows.laid_strconv_ErrRange), ("internal/strconv.uint64pow10", Rows.laid_internal_strconv_uint64pow10), ("math/bits.deBruijn32tab", Rows.laid_math_bits_deBruijn32tab), ("math/bits.deBruijn64tab", Rows.laid_math_bits_deBruijn64tab), ("certpath/date.lengths", Rows.laid_certpath_date_lengths)] : List (String × DataW Unit)) ([.data, .sentinel, .sentinel, .data, .data, .data, .data] : List LaidKind) true :=
 Program.laidByTextLater_by_run 400 8 lE lY lq hJ lk lV lw lc lO
theorem Xl:Rows.scriptLinesRow.laidByTextAt .later Tryz.pinned [.pinned, .data, .sentinel, .sentinel, .data, .data, .data, .data] true:=
 OpenClaim.laidByTextAt_pinned rfl rfl tie rfl rfl rfl rfl (fun y hy _e=>by
  simp only [Rows.scriptLinesRow,List.zip_cons_cons,List.zip_nil_right,List.mem_cons,List.mem_nil_iff,or_false]at hy
  rcases hy with rfl|rfl|rfl|rfl|rfl|rfl|rfl|rfl
  ·exact⟨pv,by kernel_rfl⟩
  ·cases _e
  ·cases _e
  ·cases _e
  ·cases _e
  ·cases _e
  ·cases _e
  ·cases _e) fy
end Go.Proofs.YthfhicembdpjpaaGreatDoor
end

/-
 The tie of ConsoleLaws' row. (Lines after the given Tie; its run by pieces.)
-/
import Derived.Test.YtdcbnkimjhefkaaGreatDoorCards
import Derived.Test.YtdcbnkimjhefkaaGreatDoorU01
namespace Go.Proofs.YtdcbnkimjhefkaaGreatDoor
open Go
set_option maxRecDepth 100000
theorem pinFirst : Tryz.pinned.checked.prog.pinnedFits "unicode/utf8.first" = true := by kernel_rfl
theorem noOwn : Tryz.pinned.checked.prog.headLifts.contains "ownunsafe" = false := by kernel_rfl
theorem fitsAll : Tryz.pinned.checked.prog.listedFits Rows.consoleLawsRow.laid = true := by
 unfold Program.listedFits
 rw [noOwn]
 kernel_rfl
theorem tieAll : Tryz.prog.laidByTextLater [("unicode/utf8.acceptRanges", Rows.laid_unicode_utf8_acceptRanges), ("payroll/console.forms", Rows.laid_payroll_console_forms), ("strconv.ErrSyntax", Rows.laid_strconv_ErrSyntax), ("strconv.ErrRange", Rows.laid_strconv_ErrRange), ("internal/strconv.uint64pow10", Rows.laid_internal_strconv_uint64pow10), ("math/bits.deBruijn32tab", Rows.laid_math_bits_deBruijn32tab), ("math/bits.deBruijn64tab", Rows.laid_math_bits_deBruijn64tab), ("payroll/calendar.lengths", Rows.laid_payroll_calendar_lengths), ("payroll/syntax.modeNames", Rows.laid_payroll_syntax_modeNames), ("payroll/run.transitions", Rows.laid_payroll_run_transitions)] [.data, .data, .sentinel, .sentinel, .data, .data, .data, .data, .data, .data] true := tieT
end Go.Proofs.YtdcbnkimjhefkaaGreatDoor

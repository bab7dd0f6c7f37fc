/-
  The tie of ConsoleReturns' row. (Lines after the given Tie; its run by pieces.)
-/
import Derived.Test.YtdcbnkimjhefkaaGreatDoorCards
import Derived.Test.YtdcbnkimjhefkaaGreatDoorV43
namespace Go.Proofs.YtdcbnkimjhefkaaGreatDoor.rt
open Go
set_option maxRecDepth 100000
theorem pinFirst : Tryz.pinned.checked.prog.pinnedFits "unicode/utf8.first" = true := by kernel_rfl
theorem noOwn : Tryz.pinned.checked.prog.headLifts.contains "ownunsafe" = false := by kernel_rfl
theorem fitsAll : Tryz.pinned.checked.prog.listedFits Rows.consoleReturnsRow.laid = true := by
  unfold Program.listedFits
  rw [noOwn]
  kernel_rfl
theorem tieAll : Tryz.prog.laidByTextLater [("payroll/console.forms", Rows.laid_payroll_console_forms), ("internal/strconv.uint64pow10", Rows.laid_internal_strconv_uint64pow10), ("math/bits.deBruijn32tab", Rows.laid_math_bits_deBruijn32tab), ("math/bits.deBruijn64tab", Rows.laid_math_bits_deBruijn64tab), ("unicode/utf8.acceptRanges", Rows.laid_unicode_utf8_acceptRanges), ("strconv.ErrSyntax", Rows.laid_strconv_ErrSyntax), ("strconv.ErrRange", Rows.laid_strconv_ErrRange), ("payroll/calendar.lengths", Rows.laid_payroll_calendar_lengths), ("payroll/syntax.modeNames", Rows.laid_payroll_syntax_modeNames), ("payroll/run.transitions", Rows.laid_payroll_run_transitions)] [.data, .data, .data, .data, .data, .sentinel, .sentinel, .data, .data, .data] true := tieT
theorem consoleReturns_row_tie : Rows.consoleReturnsRow.laidByTextAt .later Tryz.pinned [.data, .data, .data, .data, .pinned, .data, .sentinel, .sentinel, .data, .data, .data] true :=
  OpenClaim.laidByTextAt_pinned rfl rfl tieAll rfl rfl rfl rfl (fun y hy _e => by
    simp only [Rows.consoleReturnsRow, List.zip_cons_cons, List.zip_nil_right, List.mem_cons, List.mem_nil_iff, or_false] at hy
    rcases hy with rfl | rfl | rfl | rfl | rfl | rfl | rfl | rfl | rfl | rfl | rfl
    · cases _e
    · cases _e
    · cases _e
    · cases _e
    · exact ⟨pinFirst, by kernel_rfl⟩
    · cases _e
    · cases _e
    · cases _e
    · cases _e
    · cases _e
    · cases _e) fitsAll
end Go.Proofs.YtdcbnkimjhefkaaGreatDoor.rt
namespace Go.Proofs.YtdcbnkimjhefkaaGreatDoor
open Go
theorem consoleReturns_row_tie : Rows.consoleReturnsRow.laidByTextAt .later Tryz.pinned [.data, .data, .data, .data, .pinned, .data, .sentinel, .sentinel, .data, .data, .data] true := rt.consoleReturns_row_tie
end Go.Proofs.YtdcbnkimjhefkaaGreatDoor

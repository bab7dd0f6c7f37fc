/-
 The tie of the listed variables, each closed fact by itself (all in one declaration is too great for the kernel's memory).
-/
import Derived.Test.YtdcbnkimjhefkaaGreatDoorRows
import Derived.LaidByTextLater
namespace Go.Proofs.YtdcbnkimjhefkaaGreatDoor
open Go
set_option maxRecDepth 100000
def laidT : List (String × DataW Unit) := [("unicode/utf8.acceptRanges", Rows.laid_unicode_utf8_acceptRanges), ("payroll/console.forms", Rows.laid_payroll_console_forms), ("strconv.ErrSyntax", Rows.laid_strconv_ErrSyntax), ("strconv.ErrRange", Rows.laid_strconv_ErrRange), ("internal/strconv.uint64pow10", Rows.laid_internal_strconv_uint64pow10), ("math/bits.deBruijn32tab", Rows.laid_math_bits_deBruijn32tab), ("math/bits.deBruijn64tab", Rows.laid_math_bits_deBruijn64tab), ("payroll/calendar.lengths", Rows.laid_payroll_calendar_lengths), ("payroll/syntax.modeNames", Rows.laid_payroll_syntax_modeNames), ("payroll/run.transitions", Rows.laid_payroll_run_transitions)]
theorem t_w : Tryz.prog.worded (varsWordLater true) = true := by kernel_rfl
theorem t_w' : Tryz.prog.worded (varsWordLater !true) = false := by kernel_rfl
theorem t_root : Tryz.prog.worded rootWordLater = true := by kernel_rfl
theorem t_k : laidT.map (fun x => Tryz.prog.kindOfLater x.1) = [LaidKind.data, .data, .sentinel, .sentinel, .data, .data, .data, .data, .data, .data].map some := by kernel_rfl
theorem t_g : (Tryz.prog.funcNamed "gosem.cut.vars").isSome = true := by kernel_rfl
theorem t_n : varsNamedLaterB Tryz.prog (varsId Tryz.prog) laidT = true := by kernel_rfl
end Go.Proofs.YtdcbnkimjhefkaaGreatDoor

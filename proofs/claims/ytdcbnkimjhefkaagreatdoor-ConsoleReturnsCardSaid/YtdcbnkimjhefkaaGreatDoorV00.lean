/-
  The tie of the listed variables, each closed fact by itself (all in one declaration is too great for the kernel's memory).
  The tie of the listed variables: the run that lays them.
  The tie of ConsoleLaws' row. (Lines after the given Tie; its run by pieces.)
-/
import Derived.Test.YtdcbnkimjhefkaaGreatDoorRows
import Derived.LaidByTextLater
import Derived.SevenTiedAt
import Derived.Test.YtdcbnkimjhefkaaGreatDoorCards
namespace Go.Proofs.YtdcbnkimjhefkaaGreatDoor
open Go
set_option maxRecDepth 100000
def laidT : List (String × DataW Unit) := [("unicode/utf8.acceptRanges", Rows.laid_unicode_utf8_acceptRanges), ("payroll/console.forms", Rows.laid_payroll_console_forms), ("strconv.ErrSyntax", Rows.laid_strconv_ErrSyntax), ("strconv.ErrRange", Rows.laid_strconv_ErrRange), ("internal/strconv.uint64pow10", Rows.laid_internal_strconv_uint64pow10), ("math/bits.deBruijn32tab", Rows.laid_math_bits_deBruijn32tab), ("math/bits.deBruijn64tab", Rows.laid_math_bits_deBruijn64tab), ("payroll/calendar.lengths", Rows.laid_payroll_calendar_lengths), ("payroll/syntax.modeNames", Rows.laid_payroll_syntax_modeNames), ("payroll/run.transitions", Rows.laid_payroll_run_transitions)]
theorem t_w : Tryz.prog.worded (varsWordLater true) = true := by kernel_rfl
theorem t_w' : Tryz.prog.worded (varsWordLater !true) = false := by kernel_rfl
theorem t_root : Tryz.prog.worded rootWordLater = true := by kernel_rfl
theorem t_k : laidT.map (fun x => Tryz.prog.kindOfLater x.1) = [LaidKind.data, .data, .sentinel, .sentinel, .data, .data, .data, .data, .data, .data].map some := by kernel_rfl
theorem t_g : (Tryz.prog.funcNamed "gosem.cut.vars").isSome = true := by kernel_rfl
theorem t_n : varsNamedLaterB Tryz.prog (varsId Tryz.prog) laidT = true := by kernel_rfl
end Go.Proofs.YtdcbnkimjhefkaaGreatDoor

namespace Go.Proofs.YtdcbnkimjhefkaaGreatDoor
open Go
set_option maxRecDepth 100000
theorem t_d : ∀ os tape, varsDone Tryz.prog 400 (varsId Tryz.prog) os tape = true := fun _ _ => by kernel_rfl
theorem t_1 : ∀ os tape, (DataW.laidRun Tryz.prog (varsWorld Tryz.prog 400 (varsId Tryz.prog) os tape).memory 8 (laidT.map (·.1))).map (·.1) = some laidT := fun _ _ => by kernel_rfl
theorem t_2 : ∀ os tape, (DataW.laidRun Tryz.prog (varsWorld Tryz.prog 400 (varsId Tryz.prog) os tape).memory 8 (laidT.map (·.1))).map (fun x => decide x.2.Nodup && laidRowsB Tryz.prog (varsWorld Tryz.prog 400 (varsId Tryz.prog) os tape).memory x.2) = some true := fun _ _ => by kernel_rfl
theorem tieT : Tryz.prog.laidByTextLater laidT [.data, .data, .sentinel, .sentinel, .data, .data, .data, .data, .data, .data] true :=
  Program.laidByTextLater_by_run 400 8 t_w t_w' t_root t_k t_g t_n t_d t_1 t_2
end Go.Proofs.YtdcbnkimjhefkaaGreatDoor

namespace Go.Proofs.YtdcbnkimjhefkaaGreatDoor
open Go
set_option maxRecDepth 100000
theorem pinFirst : Tryz.pinned.checked.prog.pinnedFits "unicode/utf8.first" = true := by kernel_rfl
theorem noOwn : Tryz.pinned.checked.prog.headLifts.contains "ownunsafe" = false := by kernel_rfl
theorem fitsAll : Tryz.pinned.checked.prog.listedFits Rows.consoleLawsRow.laid = true := by
  unfold Program.listedFits
  rw [noOwn]
  kernel_rfl
theorem tieAll : Tryz.prog.laidByTextLater [("unicode/utf8.acceptRanges", Rows.laid_unicode_utf8_acceptRanges), ("payroll/console.forms", Rows.laid_payroll_console_forms), ("strconv.ErrSyntax", Rows.laid_strconv_ErrSyntax), ("strconv.ErrRange", Rows.laid_strconv_ErrRange), ("internal/strconv.uint64pow10", Rows.laid_internal_strconv_uint64pow10), ("math/bits.deBruijn32tab", Rows.laid_math_bits_deBruijn32tab), ("math/bits.deBruijn64tab", Rows.laid_math_bits_deBruijn64tab), ("payroll/calendar.lengths", Rows.laid_payroll_calendar_lengths), ("payroll/syntax.modeNames", Rows.laid_payroll_syntax_modeNames), ("payroll/run.transitions", Rows.laid_payroll_run_transitions)] [.data, .data, .sentinel, .sentinel, .data, .data, .data, .data, .data, .data] true := tieT
end Go.Proofs.YtdcbnkimjhefkaaGreatDoor

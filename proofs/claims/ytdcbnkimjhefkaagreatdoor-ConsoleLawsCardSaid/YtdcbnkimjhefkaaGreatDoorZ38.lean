/-
  Closed facts of the card of consoleLaws, each by itself.
-/
import Derived.Test.YtdcbnkimjhefkaaGreatDoorCards
import Derived.Test.YtdcbnkimjhefkaaGreatDoorZ36
namespace Go.Proofs.YtdcbnkimjhefkaaGreatDoor.consoleLaws
open Go
set_option maxRecDepth 100000
theorem named : Tryz.pinned.checked.prog.funcNamed "payroll/payrolllaw46.ConsoleLaws" = some 3 := by kernel_rfl
theorem wfT : Rows.consoleLawsRow.wfByText (OpenSpec.ofChange Rows.consoleLawsSpec) = true := by kernel_rfl
theorem mainsT : Tryz.pinned.checked.prog.mainIs = some (Rows.consoleLawsCard.stood.harness.1, Rows.consoleLawsCard.stood.harness.2.toList) := by kernel_rfl
theorem looksT : true = Tryz.pinned.checked.prog.looks [] := by kernel_rfl
theorem goesT : false = Rows.consoleLawsRow.goesBy Tryz.pinned.checked.prog := (goesAt_not _).symm
end Go.Proofs.YtdcbnkimjhefkaaGreatDoor.consoleLaws

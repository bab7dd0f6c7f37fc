/-
  Closed facts of the card of consoleFormats, each by itself.
  The tie of ConsoleFormats' row: the list is that of ConsoleLaws.
-/
import Derived.Test.YtdcbnkimjhefkaaGreatDoorCards
import Derived.Test.YtdcbnkimjhefkaaGreatDoorY42
import Derived.Test.YtdcbnkimjhefkaaGreatDoorY02
namespace Go.Proofs.YtdcbnkimjhefkaaGreatDoor.consoleFormats
open Go
set_option maxRecDepth 100000
theorem named : Tryz.pinned.checked.prog.funcNamed "payroll/payrolllaw46.ConsoleFormats" = some 5 := by kernel_rfl
theorem wfT : Rows.consoleFormatsRow.wfByText (OpenSpec.ofChange Rows.consoleFormatsSpec) = true := by kernel_rfl
theorem mainsT : Tryz.pinned.checked.prog.mainIs = some (Rows.consoleFormatsCard.stood.harness.1, Rows.consoleFormatsCard.stood.harness.2.toList) := by kernel_rfl
theorem looksT : true = Tryz.pinned.checked.prog.looks [] := by kernel_rfl
theorem goesT : false = Rows.consoleFormatsRow.goesBy Tryz.pinned.checked.prog := (goesAt_not _).symm
end Go.Proofs.YtdcbnkimjhefkaaGreatDoor.consoleFormats

namespace Go.Proofs.YtdcbnkimjhefkaaGreatDoor
open Go
set_option maxRecDepth 100000
theorem consoleFormats_row_tie : Rows.consoleFormatsRow.laidByTextAt .later Tryz.pinned [.pinned, .data, .data, .sentinel, .sentinel, .data, .data, .data, .data, .data, .data] true :=
  OpenClaim.laidByTextAt_pinned rfl rfl tieAll rfl rfl rfl rfl (fun y hy _e => by
    simp only [Rows.consoleFormatsRow, List.zip_cons_cons, List.zip_nil_right, List.mem_cons, List.mem_nil_iff, or_false] at hy
    rcases hy with rfl | rfl | rfl | rfl | rfl | rfl | rfl | rfl | rfl | rfl | rfl
    · exact ⟨pinFirst, by kernel_rfl⟩
    · cases _e
    · cases _e
    · cases _e
    · cases _e
    · cases _e
    · cases _e
    · cases _e
    · cases _e
    · cases _e
    · cases _e) fitsAll
end Go.Proofs.YtdcbnkimjhefkaaGreatDoor

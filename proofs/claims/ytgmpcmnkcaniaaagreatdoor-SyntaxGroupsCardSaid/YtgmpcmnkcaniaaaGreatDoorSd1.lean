/-
  The law on groups: the runs at the first choice 1.
-/
import Derived.Test.YtgmpcmnkcaniaaaGreatDoorSd
namespace Go.Proofs.YtgmpcmnkcaniaaaGreatDoor
set_option maxRecDepth 100000
theorem runG10 : runG 1 0 = some (.bool true) := by kernel_rfl
theorem runG11 : runG 1 1 = some (.bool true) := by kernel_rfl
theorem runG12 : runG 1 2 = some (.bool true) := by kernel_rfl
theorem runG13 : runG 1 3 = some (.bool true) := by kernel_rfl
theorem runG14 : runG 1 4 = some (.bool true) := by kernel_rfl
theorem runG15 : runG 1 5 = some (.bool true) := by kernel_rfl
end Go.Proofs.YtgmpcmnkcaniaaaGreatDoor

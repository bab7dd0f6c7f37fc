/-
  The law on groups: the runs at the first choice 3.
-/
import Derived.Test.YtgmpcmnkcaniaaaGreatDoorSd
namespace Go.Proofs.YtgmpcmnkcaniaaaGreatDoor
set_option maxRecDepth 100000
theorem runG30 : runG 3 0 = some (.bool true) := by kernel_rfl
theorem runG31 : runG 3 1 = some (.bool true) := by kernel_rfl
theorem runG32 : runG 3 2 = some (.bool true) := by kernel_rfl
theorem runG33 : runG 3 3 = some (.bool true) := by kernel_rfl
theorem runG34 : runG 3 4 = some (.bool true) := by kernel_rfl
theorem runG35 : runG 3 5 = some (.bool true) := by kernel_rfl
end Go.Proofs.YtgmpcmnkcaniaaaGreatDoor

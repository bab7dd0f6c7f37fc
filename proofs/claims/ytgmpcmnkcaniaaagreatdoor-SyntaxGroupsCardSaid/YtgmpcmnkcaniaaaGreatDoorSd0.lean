/-
  The law on groups: the runs at the first choice 0.
-/
import Derived.Test.YtgmpcmnkcaniaaaGreatDoorSd
namespace Go.Proofs.YtgmpcmnkcaniaaaGreatDoor
set_option maxRecDepth 100000
theorem runG00 : runG 0 0 = some (.bool true) := by kernel_rfl
theorem runG01 : runG 0 1 = some (.bool true) := by kernel_rfl
theorem runG02 : runG 0 2 = some (.bool true) := by kernel_rfl
theorem runG03 : runG 0 3 = some (.bool true) := by kernel_rfl
theorem runG04 : runG 0 4 = some (.bool true) := by kernel_rfl
theorem runG05 : runG 0 5 = some (.bool true) := by kernel_rfl
end Go.Proofs.YtgmpcmnkcaniaaaGreatDoor

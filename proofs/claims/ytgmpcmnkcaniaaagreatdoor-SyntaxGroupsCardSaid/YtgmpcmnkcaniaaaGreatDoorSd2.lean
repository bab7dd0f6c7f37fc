/-
  The law on groups: the runs at the first choice 2.
-/
import Derived.Test.YtgmpcmnkcaniaaaGreatDoorSd
namespace Go.Proofs.YtgmpcmnkcaniaaaGreatDoor
set_option maxRecDepth 100000
theorem runG20 : runG 2 0 = some (.bool true) := by kernel_rfl
theorem runG21 : runG 2 1 = some (.bool true) := by kernel_rfl
theorem runG22 : runG 2 2 = some (.bool true) := by kernel_rfl
theorem runG23 : runG 2 3 = some (.bool true) := by kernel_rfl
theorem runG24 : runG 2 4 = some (.bool true) := by kernel_rfl
theorem runG25 : runG 2 5 = some (.bool true) := by kernel_rfl
end Go.Proofs.YtgmpcmnkcaniaaaGreatDoor

/-
  The law on groups: the runs at the first choice 5.
-/
import Derived.Test.YtgmpcmnkcaniaaaGreatDoorSd
namespace Go.Proofs.YtgmpcmnkcaniaaaGreatDoor
set_option maxRecDepth 100000
theorem runG50 : runG 5 0 = some (.bool true) := by kernel_rfl
theorem runG51 : runG 5 1 = some (.bool true) := by kernel_rfl
theorem runG52 : runG 5 2 = some (.bool true) := by kernel_rfl
theorem runG53 : runG 5 3 = some (.bool true) := by kernel_rfl
theorem runG54 : runG 5 4 = some (.bool true) := by kernel_rfl
theorem runG55 : runG 5 5 = some (.bool true) := by kernel_rfl
end Go.Proofs.YtgmpcmnkcaniaaaGreatDoor

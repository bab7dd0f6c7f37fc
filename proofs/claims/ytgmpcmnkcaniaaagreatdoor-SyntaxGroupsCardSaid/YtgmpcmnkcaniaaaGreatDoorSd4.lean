/-
  The law on groups: the runs at the first choice 4.
-/
import Derived.Test.YtgmpcmnkcaniaaaGreatDoorSd
namespace Go.Proofs.YtgmpcmnkcaniaaaGreatDoor
set_option maxRecDepth 100000
theorem runG40 : runG 4 0 = some (.bool true) := by kernel_rfl
theorem runG41 : runG 4 1 = some (.bool true) := by kernel_rfl
theorem runG42 : runG 4 2 = some (.bool true) := by kernel_rfl
theorem runG43 : runG 4 3 = some (.bool true) := by kernel_rfl
theorem runG44 : runG 4 4 = some (.bool true) := by kernel_rfl
theorem runG45 : runG 4 5 = some (.bool true) := by kernel_rfl
end Go.Proofs.YtgmpcmnkcaniaaaGreatDoor

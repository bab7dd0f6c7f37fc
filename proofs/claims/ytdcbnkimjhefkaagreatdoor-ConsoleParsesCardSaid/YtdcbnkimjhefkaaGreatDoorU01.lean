/-
 The tie of the listed variables: the run that lays them.
-/
import Derived.Test.YtdcbnkimjhefkaaGreatDoorU00
import Derived.SevenTiedAt
namespace Go.Proofs.YtdcbnkimjhefkaaGreatDoor
open Go
set_option maxRecDepth 100000
theorem t_d : ∀ os tape, varsDone Tryz.prog 400 (varsId Tryz.prog) os tape = true := fun _ _ => by kernel_rfl
theorem t_1 : ∀ os tape, (DataW.laidRun Tryz.prog (varsWorld Tryz.prog 400 (varsId Tryz.prog) os tape).memory 8 (laidT.map (·.1))).map (·.1) = some laidT := fun _ _ => by kernel_rfl
theorem t_2 : ∀ os tape, (DataW.laidRun Tryz.prog (varsWorld Tryz.prog 400 (varsId Tryz.prog) os tape).memory 8 (laidT.map (·.1))).map (fun x => decide x.2.Nodup && laidRowsB Tryz.prog (varsWorld Tryz.prog 400 (varsId Tryz.prog) os tape).memory x.2) = some true := fun _ _ => by kernel_rfl
theorem tieT : Tryz.prog.laidByTextLater laidT [.data, .data, .sentinel, .sentinel, .data, .data, .data, .data, .data, .data] true :=
 Program.laidByTextLater_by_run 400 8 t_w t_w' t_root t_k t_g t_n t_d t_1 t_2
end Go.Proofs.YtdcbnkimjhefkaaGreatDoor

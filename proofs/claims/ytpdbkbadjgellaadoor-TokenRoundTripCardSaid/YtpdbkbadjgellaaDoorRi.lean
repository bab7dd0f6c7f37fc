/-
  A slice of ints among the arguments.
-/
import Derived.Test.YtpdbkbadjgellaaDoorRw
import Derived.Test.YtpdbkbadjgellaaDoorTp
namespace Go.Proofs.YtpdbkbadjgellaaDoor
open Go.ChangeShapes Go.WideShapes Go.ChangeAt Go.RowKit

theorem laidOut : laidOutB Tryd.prog = true := by kernel_rfl
set_option maxRecDepth 100000 in
theorem ints_of {H : Type} {enc : TypeId × Value → H} {W : World} {r : Reach} {b0 : Nat} {v : Value} {d : DataW H} {ps : List MemPlace} (hval : Value.okWide Tryd.prog W r b0 30 v)
    (h : DataW.Trod enc Tryd.prog W 0 (fun _ => true) true 30 v d ps) : ∃ ns, IntsAt W W.heap.size v ns := by
  obtain ⟨a0, len, cap, rfl⟩ := okWide_slice Tryd.underlying30 hval
  obtain ⟨fuel, hf⟩ := h
  rcases open_ints Tryd.underlying30 Tryd.underlying3 cellsInt hf with ⟨hcs, _⟩ | ⟨a, len', cap', zs, hcs, _, hl, hm, hz, _, hcell, hwz⟩
  · simp [Value.cells] at hcs
    obtain ⟨rfl, rfl, rfl⟩ := hcs
    exact ⟨[], none, 0, rfl, Nat.zero_le _, fun x hx => (by cases hx), fun h => (by cases h)⟩
  · simp [Value.cells] at hcs
    obtain ⟨rfl, rfl, rfl⟩ := hcs
    rw [if_pos rfl] at hz
    have hlen : (zs.take len).length = len := by simp; omega
    refine ⟨zs.take len, some a, cap, by rw [hlen], by omega, fun x hx => bounds_i64 (hwz x (List.mem_of_mem_take hx)), fun h => ?_⟩
    obtain ⟨b, off, rfl, hc⟩ := Go.ints_at hcell (by omega)
    refine ⟨b, off, rfl, World.block_lt_of_cell? W _ (hc 0 (by omega)), fun i hi => ?_⟩
    rw [hc i (by omega), List.getElem_take, List.getD_eq_getElem?_getD, List.getElem?_eq_getElem (by omega)]
    rfl
end Go.Proofs.YtpdbkbadjgellaaDoor

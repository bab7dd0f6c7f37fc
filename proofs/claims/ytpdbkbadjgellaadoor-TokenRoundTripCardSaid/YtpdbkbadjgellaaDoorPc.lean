/-
  The pieces of texts: the walk of payrolllaw17.piece.
-/
import Derived.Test.YtpdbkbadjgellaaDoorTq
namespace Go.Proofs.YtpdbkbadjgellaaDoor
open Go.RowKit

def pieces : List (List UInt8) := [[97], [105, 102], [104, 97, 108, 102, 95, 117, 112], [120, 95, 57], [65], [95, 97], [97, 98, 99, 100, 101, 102, 103, 104, 105, 106, 107, 108, 109, 110, 111, 112, 113, 114, 115, 116, 117, 118, 119, 120], [97, 98, 99, 100, 101, 102, 103, 104, 105, 106, 107, 108, 109, 110, 111, 112, 113, 114, 115, 116, 117, 118, 119, 120, 121], [48], [48, 48, 55], [49, 46, 53], [49, 46], [46, 53], [49, 50, 37], [48, 46, 49, 50, 51, 52, 53, 37], [48, 46, 49, 50, 51, 52, 37], [49, 46, 49, 50, 51, 52, 53, 54, 55], [48, 46, 48, 48, 48, 48, 48, 49], [49, 48, 48, 48, 48, 48, 48, 48, 48, 48, 48, 48, 48], [49, 48, 48, 48, 48, 48, 48, 48, 48, 48, 48, 48, 49], [57, 57, 57, 57, 57, 57, 57, 57, 57, 57, 57, 57, 46, 53], [49, 48, 48, 48, 48, 48, 48, 48, 48, 48, 48, 48, 48, 48, 48, 37], [49, 48, 48, 48, 48, 48, 48, 48, 48, 48, 48, 48, 48, 48, 49, 37], [57, 57, 57, 57, 57, 57, 57, 57, 57, 57, 57, 57, 57, 57, 57, 57, 57, 57, 57, 57], [49, 97], [49, 95], [53, 37, 120], [50, 48, 50, 54, 45, 48, 50, 45, 50, 57], [50, 48, 50, 52, 45, 48, 50, 45, 50, 57], [50, 48, 50, 54, 45, 49, 45, 48, 49], [49, 50, 48, 50, 54, 45, 48, 49, 45, 48, 49], [50, 48, 50, 54, 45, 48, 49, 45, 48, 49, 49], [60], [60, 61], [60, 62], [61, 62], [62, 61], [91], [93], [58], [59], [33], [34], [128], [35], [10], [9], [13], [32], [45], [42, 47]]
theorem pieces_len : pieces.length = 51 := by decide
theorem pieces_short : ∀ x ∈ pieces, x.length ≤ 25 := by decide

/-- What piece leaves. -/
def PiecePost (b : Nat) (ns : List Int) (w : World) (e : Ending) (w' : World) : Prop :=
  ∃ x, x ∈ pieces ∧ e = .returned (.string ⟨x.toArray⟩) ∧ TapeOk b ns w' ∧ But b w w'

theorem piece_cell (w : World) (k : Nat) (hk : k < 51) : ∃ x, x ∈ pieces ∧ (w.alloc (.cells (pieces.map fun x => Value.string ⟨x.toArray⟩).toArray 9)).cell? ⟨w.heap.size, k, none⟩ = some (.string ⟨x.toArray⟩) := by
  refine ⟨pieces[k]'(by rw [pieces_len]; exact hk), List.getElem_mem _, ?_⟩
  rw [Lib.cell_of_heap (heap_alloc_new w _), List.getElem?_toArray, List.getElem?_map, List.getElem?_eq_getElem (by rw [pieces_len]; exact hk)]
  rfl

set_option maxHeartbeats 1000000 in
set_option maxRecDepth 100000 in
theorem piece_any (b : Nat) (ns : List Int) (w : World) (h : TapeOk b ns w) :
    Calls Tryd.prog 13 #[.pointer (some ⟨b, 0, none⟩)] w (PiecePost b ns w) := by
  have HT := Lib.hid h
  have hlt := h.lt
  clear h
  go_enter Tryd.func13, Tryd.ntmps13
  go_wp2_with fail
  change Calls _ _ _ (w.alloc (.cells (pieces.map fun x => Value.string ⟨x.toArray⟩).toArray 9)) _
  have HC := Lib.hid (piece_cell w)
  have hB0 : But b w (w.alloc (.cells (pieces.map fun x => Value.string ⟨x.toArray⟩).toArray 9)) := (But.refl _ _).alloc _
  have HT0 : Hid (TapeOk b ns (w.alloc (.cells (pieces.map fun x => Value.string ⟨x.toArray⟩).toArray 9))) := HT.out.below ((Below.refl _ _).alloc (Nat.le_refl _) _)
  have hz0 : w.heap.size < (w.alloc (.cells (pieces.map fun x => Value.string ⟨x.toArray⟩).toArray 9)).heap.size := by simp
  generalize w.alloc (.cells (pieces.map fun x => Value.string ⟨x.toArray⟩).toArray 9) = w1 at *
  refine (next_any b ns 51 w1 HT0.out (by omega) (by omega)).mono ?_
  rintro e w2 ⟨k, hk, rfl, hT2, hB2⟩
  have hk51 : k < 51 := by omega
  obtain ⟨x, hx, hc⟩ := HC.out k hk51
  have hc2 : w2.cell? ⟨w.heap.size, k, none⟩ = some (.string ⟨x.toArray⟩) := by rw [hB2.cell (by simpa using hz0) (by simp; omega)]; exact hc
  have HX := Lib.hid hx
  have HT2 := Lib.hid hT2
  clear hT2 hc hx HC HT0 HT
  go_wp2_with fail
  go_ret
  exact ⟨x, HX.out, rfl, HT2.out, hB0.trans hB2⟩
end Go.Proofs.YtpdbkbadjgellaaDoor

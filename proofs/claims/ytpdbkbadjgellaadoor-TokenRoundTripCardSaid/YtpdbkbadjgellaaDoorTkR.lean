/-
  A slice of tokens that reads as a list.
-/
import Derived.Test.YtpdbkbadjgellaaDoorTkG
import Derived.Test.YtpdbkbadjgellaaDoorTkEq
namespace Go.Proofs.YtpdbkbadjgellaaDoor
open Go.RowKit

/-- A slice value that holds a list of tokens. -/
def TokRow (w : World) (v : Value) (ts : List Tk.Tok) : Prop :=
  ∃ A c, v = .slice A ts.length c ∧ (0 < ts.length → ∃ g off, A = some ⟨g, off, none⟩ ∧ ∀ i (h : i < ts.length) j u, (tokCells ts[i])[j]? = some u → w.cell? ⟨g, off + i * 6 + j, none⟩ = some u)

theorem TokRow.below {w w' : World} {v : Value} {ts : List Tk.Tok} (h : TokRow w v ts) (hb : Below w.heap.size w w') : TokRow w' v ts := by
  obtain ⟨A, c, rfl, hc⟩ := h
  refine ⟨A, c, rfl, fun hn => ?_⟩
  obtain ⟨g, off, rfl, hg⟩ := hc hn
  refine ⟨g, off, rfl, fun i hi j u hu => ?_⟩
  have := hg i hi j u hu
  rw [hb.cell (World.block_lt_of_cell? w _ this)]
  exact this

theorem toksCells_get (ts : List Tk.Tok) (i j : Nat) (h : i < ts.length) (hj : j < 6) : (toksCells ts)[i * 6 + j]? = (tokCells ts[i])[j]? := by
  induction ts generalizing i with
  | nil => simp at h
  | cons t ts ih =>
    have hl : (tokCells t).length = 6 := rfl
    cases i with
    | zero => simp only [toksCells, List.flatMap_cons]; rw [List.getElem?_append_left (by omega)]; simp
    | succ i =>
      have := ih i (by simpa using h)
      simp only [toksCells, List.flatMap_cons] at this ⊢
      rw [List.getElem?_append_right (by omega), hl, show (i + 1) * 6 + j - 6 = i * 6 + j by omega, this]
      simp

theorem TokRow.of_own {w : World} {base : Nat} {v : Value} {ts : List Tk.Tok} (h : w.ownsRow base 39 6 v ts.length (toksCells ts)) : TokRow w v ts := by
  rcases h.2 with ⟨rfl, h0⟩ | ⟨g, cap, cur, rfl, _⟩
  · refine ⟨none, 0, ?_, ?_⟩
    · rw [h0]
    · intro hn; omega
  · refine ⟨_, cap, rfl, fun hn => ⟨g, 0, rfl, fun i hi j u hu => ?_⟩⟩
    have hj : j < 6 := by
      rcases Nat.lt_or_ge j 6 with h' | h'
      · exact h'
      · rw [List.getElem?_eq_none (by simp [tokCells]; omega)] at hu; cases hu
    rw [show 0 + i * 6 + j = i * 6 + j by omega, h.cellAt (i * 6 + j) (by omega), toksCells_get ts i j hi hj]
    exact hu
end Go.Proofs.YtpdbkbadjgellaaDoor

/-
  The tape of choices: what it is in memory, and the walks of payrollgen's New and Next.
-/
import Derived.Test.YtgmpcmnkcaniaaaGreatDoorMd
namespace Go.Proofs.YtgmpcmnkcaniaaaGreatDoor
open Go.RowKit

/-- All old blocks but one are as they were. -/
structure But (b : Nat) (w w' : World) : Prop where
  os : w'.os = w.os
  tape : w'.tape = w.tape
  output : w'.output = w.output
  size : w.heap.size ≤ w'.heap.size
  block : ∀ k, k < w.heap.size → k ≠ b → w'.heap[k]? = w.heap[k]?
theorem But.refl (b : Nat) (w : World) : But b w w := ⟨rfl, rfl, rfl, Nat.le_refl _, fun _ _ _ => rfl⟩
theorem But.trans {b : Nat} {u v w : World} (h : But b u v) (k : But b v w) : But b u w :=
  ⟨k.os.trans h.os, k.tape.trans h.tape, k.output.trans h.output, Nat.le_trans h.size k.size, fun i hi hb => (k.block i (Nat.lt_of_lt_of_le hi h.size) hb).trans (h.block i hi hb)⟩
theorem But.of_below {b : Nat} {w w' : World} (h : Below w.heap.size w w') : But b w w' := ⟨h.os, h.tape, h.output, h.size, fun k hk _ => h.block k hk⟩
theorem But.alloc {b : Nat} {u w : World} (h : But b u w) (o : Obj) : But b u (w.alloc o) :=
  h.trans (.of_below ((Below.refl _ _).alloc (Nat.le_refl _) _))
theorem But.drew {b : Nat} {u w : World} (h : But b u w) : But b u w.drew := h.trans (.of_below (Below.refl _ _).drew)
theorem But.drewN {b : Nat} {u w : World} (h : But b u w) (n : Nat) : But b u (w.drewN n) := ⟨h.os, h.tape, h.output, h.size, h.block⟩
theorem But.setCell {b : Nat} {u w : World} (h : But b u w) {p : Addr} (hp : p.block = b) (x : Value) : But b u (w.setCell p x) :=
  h.trans ⟨rfl, rfl, rfl, by simp [World.setCell], fun k _ hk => Below.heap_setCell _ _ _ _ (by rw [hp]; exact hk)⟩
theorem But.below {b B : Nat} {w w' : World} (h : But b w w') (hB : B ≤ b) (hs : B ≤ w.heap.size) : Below B w w' :=
  ⟨h.os, h.tape, h.output, h.size, fun k hk => h.block k (by omega) (by omega)⟩
theorem But.cell {b : Nat} {w w' : World} (h : But b w w') {p : Addr} (hp : p.block < w.heap.size) (hb : p.block ≠ b) : w'.cell? p = w.cell? p :=
  World.cell?_of_block (w := w) (h.block p.block hp hb)

/-- A slice of ints that lies below a block. -/
def IntsAt (w : World) (b : Nat) (v : Value) (ns : List Int) : Prop :=
  ∃ A c, v = .slice A ns.length c ∧ ns.length ≤ maxLen ∧ (∀ x ∈ ns, -9223372036854775808 ≤ x ∧ x ≤ 9223372036854775807) ∧
    (0 < ns.length → ∃ g off, A = some ⟨g, off, none⟩ ∧ g < b ∧ ∀ i (h : i < ns.length), w.cell? ⟨g, off + i, none⟩ = some (.int .i64 ns[i]))
/-- A tape in memory, somewhere in its list. -/
def TapeOk (b : Nat) (ns : List Int) (w : World) : Prop :=
  ∃ (v : Value) (k : Nat), k ≤ ns.length ∧ w.heap[b]? = some (.cells #[v, .int .i64 k] 42 (0, 0)) ∧ IntsAt w b v ns

theorem heap_lt {w : World} {b : Nat} {o : Obj} (h : w.heap[b]? = some o) : b < w.heap.size := by
  rcases Nat.lt_or_ge b w.heap.size with h' | h'
  · exact h'
  · rw [Array.getElem?_eq_none h'] at h; cases h
theorem TapeOk.lt {b : Nat} {ns : List Int} {w : World} (h : TapeOk b ns w) : b < w.heap.size := by
  obtain ⟨v, k, _, hb, _⟩ := h
  exact heap_lt hb
theorem IntsAt.keep {w w' : World} {b : Nat} {v : Value} {ns : List Int} (h : IntsAt w b v ns) (hk : ∀ g, g < b → w'.heap[g]? = w.heap[g]?) : IntsAt w' b v ns := by
  obtain ⟨A, c, rfl, h1, h2, h3⟩ := h
  refine ⟨A, c, rfl, h1, h2, fun hn => ?_⟩
  obtain ⟨g, off, rfl, hg, hc⟩ := h3 hn
  exact ⟨g, off, rfl, hg, fun i hi => by rw [World.cell?_of_block (w := w) (hk g hg)]; exact hc i hi⟩
theorem TapeOk.below {b : Nat} {ns : List Int} {w w' : World} (h : TapeOk b ns w) (hb : Below w.heap.size w w') : TapeOk b ns w' := by
  have hlt := h.lt
  obtain ⟨v, k, hk, hc, hi⟩ := h
  exact ⟨v, k, hk, (hb.block b hlt).trans hc, hi.keep (fun g hg => hb.block g (by omega))⟩

/-- What Next leaves. -/
def NextPost (b : Nat) (ns : List Int) (n : Int) (w : World) (e : Ending) (w' : World) : Prop :=
  ∃ k : Nat, (k = 0 ∨ (k : Int) < n) ∧ e = .returned (.int .i64 k) ∧ TapeOk b ns w' ∧ But b w w'
end Go.Proofs.YtgmpcmnkcaniaaaGreatDoor

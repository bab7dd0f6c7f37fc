/-
  A region that draws its order: reads first, then a forced tail; walked by the cheap quiet step. No program in sight.
-/
import Derived.StillTailTactics
import Derived.BigQuiet
import Derived.Below
namespace Go.Proofs.YtpdbkbadjgellaaDoor
open Go.RowKit

theorem still_of_quiet {P : Program} {w : World} {o : Oper} {a : Act} {next : Act → Prop} (h : o.quiet P a (fun x => x = w) next) : o.still P a w next := by
  obtain ⟨v, h1, h2⟩ := h
  have h3 := h1 w rfl
  unfold Oper.quietAt at h3
  unfold Oper.still
  generalize (execOp a.eval o).run P w = r at *
  cases r with
  | ok x w' =>
    cases x with
    | value u => obtain ⟨rfl, rfl⟩ := h3; exact ⟨rfl, h2⟩
    | skip => obtain ⟨rfl, rfl⟩ := h3; exact ⟨rfl, h2⟩
    | enter f args => obtain ⟨rfl, h4⟩ := h3; exact ⟨rfl, v, h4, h2⟩
    | _ => exact h3.elim
  | _ => exact h3.elim
theorem wpStill_of_quiet {P : Program} {ops : Array Oper} {w : World} {Q : Act → Prop} : ∀ (l : List Oper) (a : Act), wpQuiet P ops (fun x => x = w) Q l a → wpStill P ops w Q l a
  | [], _, h => h
  | o :: l, a, h => by
    unfold wpQuiet at h
    unfold wpStill
    split
    · rename_i hw
      rw [if_pos hw] at h
      exact still_of_quiet (Oper.quiet_mono (fun a' h' => wpStill_of_quiet l a' h') h)
    · rename_i hw
      rw [if_neg hw] at h
      exact wpStill_of_quiet l _ h
theorem region_quiet_tail {P : Program} {id : Nat} {Q : Exit → Act → World → Prop} {a : Act} {w : World} {l : List Oper} (n : Nat) (hm : P.follows .mixedOrders = true) (hB : Region.lexTailB .any l.toArray n = true)
    (h : wpQuiet P l.toArray (fun x => x = w.drew) (fun a' => wpList P l.toArray Q (l.drop n) a' w.drew) (l.take n) a) : (Code.region id l.toArray true).wp P Q a w :=
  wp_region_still_tail n hm hB (wpStill_of_quiet _ _ h)

/-- A world that has grown: all old blocks are as they were. -/
structure Grw (w : World) where
  v : World
  h : Below w.heap.size w v
instance (w : World) : Nonempty (Grw w) := ⟨⟨w, Below.refl _ _⟩⟩
/-- A region that draws its order, whose operations read old memory alone, and whose calls leave all old memory alone. -/
theorem region_grow {P : Program} {id : Nat} {Q : Exit → Act → World → Prop} {a : Act} {w : World} {l : List Oper} (hm : P.follows .mixedOrders = true) (hB : Region.lexB .any l.toArray = true)
    (h : wpQuiet P l.toArray (fun w' => ∃ x : Grw w, w' = x.v) (fun a' => ∀ w', (∃ x : Grw w, w' = x.v) → Q .normal a' w') l a) : (Code.region id l.toArray true).wp P Q a w :=
  wp_region_quiet (C := fun w' => ∃ x : Grw w, w' = x.v) hm hB ⟨⟨w.drew, (Below.refl _ _).drew⟩, rfl⟩ (by simpa using h)
theorem Grw.call {P : Program} {f : FuncId} {args : Array Value} {v : Value} {w : World} (x : Grw w) (h : Calls P f args x.v fun e w' => e = .returned v ∧ Below x.v.heap.size x.v w') :
    Calls P f args x.v fun e w'' => e = .returned v ∧ ∃ y : Grw w, w'' = y.v :=
  h.mono fun _ w' ⟨he, hb⟩ => ⟨he, ⟨w', x.h.trans (hb.mono x.h.size)⟩, rfl⟩
theorem Grw.cell {w : World} {p : Addr} {u : Value} (h : w.cell? p = some u) (x : Grw w) : x.v.cell? p = some u := by
  rw [x.h.cell (World.block_lt_of_cell? w _ h)]
  exact h
end Go.Proofs.YtpdbkbadjgellaaDoor

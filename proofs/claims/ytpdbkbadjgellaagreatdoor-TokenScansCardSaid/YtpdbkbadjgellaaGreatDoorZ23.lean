/-
  payrollgen's Expr: what its walk needs.
-/
import Derived.Test.YtpdbkbadjgellaaGreatDoorZ22
namespace Go.Proofs.YtpdbkbadjgellaaGreatDoor
open Go.RowKit

/-- An expression's cells, written out. -/
theorem exAt.cells {lo : Nat} {w : World} {x : Ex} {cs : List Value} (h : exAt lo w x cs) : ∃ (a0 a1 a2 a3 a4 a5 : Int) (a6 : List UInt8) (a7 a8 : Int) (A : Option Addr) (n c : Nat), cs = [.int .i64 a0, .int .i64 a1, .int .i64 a2, .int .i64 a3, .int .i64 a4, .int .i64 a5, .string ⟨a6.toArray⟩, .int .i64 a7, .int .i64 a8, .slice A n c] := by
  obtain ⟨op, num, den, mu, hu, du, name, count, mode, kids⟩ := x
  unfold exAt at h
  obtain ⟨A, c, ks, rfl, _⟩ := h
  exact ⟨_, _, _, _, _, _, _, _, _, _, _, _, rfl⟩
theorem blk4 {w : World} {g : Nat} {a0 a1 a2 a3 : Value} {T : TypeId} (h : w.heap[g]? = some (.cells #[a0, a1, a2, a3] T (0, 0))) : w.cell? ⟨g, 0, none⟩ = some a0 ∧ w.cell? ⟨g, 1, none⟩ = some a1 ∧ w.cell? ⟨g, 2, none⟩ = some a2 ∧ w.cell? ⟨g, 3, none⟩ = some a3 :=
  ⟨Lib.cell_of_heap h 0, Lib.cell_of_heap h 1, Lib.cell_of_heap h 2, Lib.cell_of_heap h 3⟩
def typeCells (s : Bool × Int × Int × Int) : List Value := [.bool s.1, .int .i64 s.2.1, .int .i64 s.2.2.1, .int .i64 s.2.2.2]
def fourTypes : List (Bool × Int × Int × Int) := [tNumber, tMoney, tHours, tRate]
theorem four_cells (w : World) (k : Nat) (hk : k < 4) : ∃ s, s ∈ fiveTypes ∧ (w.alloc (.cells (fourTypes.flatMap typeCells).toArray 87)).cell? ⟨w.heap.size, k * 4, none⟩ = some (.bool s.1) ∧ (w.alloc (.cells (fourTypes.flatMap typeCells).toArray 87)).cell? ⟨w.heap.size, k * 4 + 1, none⟩ = some (.int .i64 s.2.1) ∧
    (w.alloc (.cells (fourTypes.flatMap typeCells).toArray 87)).cell? ⟨w.heap.size, k * 4 + 2, none⟩ = some (.int .i64 s.2.2.1) ∧ (w.alloc (.cells (fourTypes.flatMap typeCells).toArray 87)).cell? ⟨w.heap.size, k * 4 + 3, none⟩ = some (.int .i64 s.2.2.2) := by
  simp only [Lib.cell_of_heap (heap_alloc_new w _), List.getElem?_toArray]
  have : k = 0 ∨ k = 1 ∨ k = 2 ∨ k = 3 := by omega
  rcases this with rfl | rfl | rfl | rfl
  · exact ⟨tNumber, by simp [fiveTypes], rfl, rfl, rfl, rfl⟩
  · exact ⟨tMoney, by simp [fiveTypes], rfl, rfl, rfl, rfl⟩
  · exact ⟨tHours, by simp [fiveTypes], rfl, rfl, rfl, rfl⟩
  · exact ⟨tRate, by simp [fiveTypes], rfl, rfl, rfl, rfl⟩

theorem mem_truth : (true, (0 : Int), (0 : Int), (0 : Int)) ∈ fiveTypes := by simp [fiveTypes, tTruth]
theorem mem_number : (false, (0 : Int), (0 : Int), (0 : Int)) ∈ fiveTypes := by simp [fiveTypes, tNumber]
theorem mem_money : (false, (1 : Int), (0 : Int), (0 : Int)) ∈ fiveTypes := by simp [fiveTypes, tMoney]
theorem mem_hours : (false, (0 : Int), (1 : Int), (0 : Int)) ∈ fiveTypes := by simp [fiveTypes, tHours]
theorem mem_rate : (false, (1 : Int), (-1 : Int), (0 : Int)) ∈ fiveTypes := by simp [fiveTypes, tRate]

/-- Ten stores into an old block keep the later blocks. -/
theorem kept10 {lo : Nat} {w w' : World} (h : KeptFrom lo w w') {g : Nat} (hg : g < lo) (a0 a1 a2 a3 a4 a5 a6 a7 a8 a9 : Value) : KeptFrom lo w (put10 w' g a0 a1 a2 a3 a4 a5 a6 a7 a8 a9) := by
  unfold put10
  exact (((((((((h.setCell hg _).setCell hg _).setCell hg _).setCell hg _).setCell hg _).setCell hg _).setCell hg _).setCell hg _).setCell hg _).setCell hg _
theorem size10 (w : World) (g : Nat) (a0 a1 a2 a3 a4 a5 a6 a7 a8 a9 : Value) : (put10 w g a0 a1 a2 a3 a4 a5 a6 a7 a8 a9).heap.size = w.heap.size := by unfold put10; simp
theorem ok_op {op : Int} {n : Nat} (h1 : 1 ≤ op) (h2 : op ≤ 21) (h : n = arity op) : okLocal op 0 0 0 0 0 [] 0 0 n := ⟨h1, h2, by omega, by omega, by omega, by omega, by omega, by omega, by omega, by omega, by omega, by omega, by simp, by omega, by omega, by omega, by omega, h⟩
theorem ok_named {op : Int} {n : Nat} {name : List UInt8} (h1 : 1 ≤ op) (h2 : op ≤ 21) (h3 : name.length ≤ 5) (h : n = arity op) : okLocal op 0 0 0 0 0 name 0 0 n := ⟨h1, h2, by omega, by omega, by omega, by omega, by omega, by omega, by omega, by omega, by omega, by omega, h3, by omega, by omega, by omega, by omega, h⟩
/-- The end: the kids' row is laid, the result is filled. -/
theorem Acc.close {b : Nat} {ns : List Int} {t s : Bool × Int × Int × Int} {g m lo : Nat} {w wx : World} {es : List Ex} {ks : List (List Value)} (h : Acc b ns t s g m lo w es ks wx) (hlt : b < w.heap.size)
    {op num den mu hu du : Int} {name : List UInt8} {count mode : Int} (ok : okLocal op num den mu hu du name count mode es.length) (a0 a1 a2 a3 a4 a5 a6 a7 a8 a9 : Value) {C : Array Value} (hC : C = ks.flatten.toArray) {N : Nat} (hN : N = es.length) {m' : Nat} (hm : m + 1 ≤ m') :
    ExPost b ns (GenEx m') w (.returned (.agg #[.int .i64 op, .int .i64 num, .int .i64 den, .int .i64 mu, .int .i64 hu, .int .i64 du, .string ⟨name.toArray⟩, .int .i64 count, .int .i64 mode, .slice (Option.some ⟨wx.heap.size, 0, none⟩) N N]))
      ((put10 wx (w.heap.size + 1) a0 a1 a2 a3 a4 a5 a6 a7 a8 a9).alloc (.cells C 91)) := by
  have hz := size10 wx (w.heap.size + 1) a0 a1 a2 a3 a4 a5 a6 a7 a8 a9
  have hlo := h.lo_b
  have hk : KeptFrom lo wx ((put10 wx (w.heap.size + 1) a0 a1 a2 a3 a4 a5 a6 a7 a8 a9).alloc (.cells C 91)) := by
    intro k h1 h2
    rw [Below.heap_alloc _ _ _ (by omega)]
    exact kept10 (fun _ _ _ => rfl) (by omega) _ _ _ _ _ _ _ _ _ _ k h1 h2
  subst hC hN
  refine ⟨.mk op num den mu hu du name count mode es, _, (gen_mk ok h.gen).mono hm, exAt.mono (show w.heap.size ≤ lo by omega) _ _ (exAt.mk op num den mu hu du name count mode (exsAt.keep hk _ _ h.exs) (alloc_at hz.symm) h.len h.lo_le), rfl, ?_, ?_⟩
  · exact (tape10 h.st.tape (by omega) _ _ _ _ _ _ _ _ _ _).alloc _
  · exact (but10 h.st.but (by omega) _ _ _ _ _ _ _ _ _ _).alloc _

/-- The end: an expression is copied into the result. -/
theorem ex_close {b lo : Nat} {ns : List Int} {P : Ex → Prop} {w wx : World} {x : Ex} {cs : List Value} (hex : exAt lo wx x cs) (hlo : w.heap.size + 1 < lo) (hx : P x) (hT : TapeOk b ns wx) (hb : But b w wx) (hlt : b < w.heap.size) (a0 a1 a2 a3 a4 a5 a6 a7 a8 a9 : Value) :
    ExPost b ns P w (.returned (.agg cs.toArray)) (put10 wx (w.heap.size + 1) a0 a1 a2 a3 a4 a5 a6 a7 a8 a9) :=
  ⟨x, cs, hx, exAt.mono (by omega) _ _ (exAt.keep (kept10 (fun _ _ _ => rfl) hlo _ _ _ _ _ _ _ _ _ _) _ _ hex), rfl, tape10 hT (by omega) _ _ _ _ _ _ _ _ _ _, but10 hb (by omega) _ _ _ _ _ _ _ _ _ _⟩
theorem Acc.both {b : Nat} {ns : List Int} {t s : Bool × Int × Int × Int} {g m lo : Nat} {w wx : World} {x y : Ex} {cx cy : List Value} (h : Acc b ns t s g m lo w [x, y] [cx, cy] wx) : exAt lo wx x cx ∧ exAt lo wx y cy := by
  have := h.exs
  unfold exsAt exsAt exsAt at this
  obtain ⟨c, cs, h1, h2, d, ds, h3, h4, h5⟩ := this
  simp at h1; obtain ⟨rfl, rfl⟩ := h1
  simp at h3; obtain ⟨rfl, rfl⟩ := h3
  exact ⟨h2, h4⟩
theorem past_cell {w : World} {o : Obj} {p : Addr} {v : Value} (h : w.cell? p = some v) : (w.alloc o).cell? p = some v := by
  rw [World.cell?_alloc_lt _ _ _ (World.block_lt_of_cell? w _ h)]; exact h
theorem past_drew {w : World} {o : Obj} {p : Addr} {v : Value} (h : w.drew.cell? p = some v) : (w.alloc o).drew.cell? p = some v := past_cell (w := w.drew) (o := o) h
theorem pick_row (xs : List Int) (w : World) : ∀ (i : Nat) (x : Int), xs[i]? = some x → (w.alloc (.cells (xs.map (Value.int .i64)).toArray 3)).cell? ⟨w.heap.size, i, none⟩ = some (.int .i64 x) := by
  intro i x hi
  rw [Lib.cell_of_heap (heap_alloc_new w _), List.getElem?_toArray, List.getElem?_map, hi]; rfl

theorem But.of_drew {b : Nat} {w w' : World} (h : But b w w') : But b w.drew w' := ⟨h.os, h.tape, h.output, h.size, h.block⟩
theorem pick3 (b : Nat) (ns : List Int) (p q r : Int) (w : World) (hT : TapeOk b ns w) : Calls Tryz.prog 21 #[.pointer (some ⟨b, 0, none⟩), .slice (some ⟨w.heap.size, 0, none⟩) 3 3] (w.alloc (.cells #[.int .i64 p, .int .i64 q, .int .i64 r] 3)).drew (PickPost b ns [p, q, r] w) := by
  refine (pick_any b w.heap.size 3 ns [p, q, r] (w.drew.alloc (.cells #[.int .i64 p, .int .i64 q, .int .i64 r] 3)) ((hT.below (Below.refl _ _).drew).alloc _) (Nat.ne_of_gt hT.lt) (by simp) (by simp) (pick_row [p, q, r] w.drew)).mono ?_
  rintro e w' ⟨x, hx, rfl, h1, h2⟩
  exact ⟨x, hx, rfl, h1, ((But.refl b w).drew.alloc _).trans h2⟩
theorem pick2 (b : Nat) (ns : List Int) (p q : Int) (w : World) (hT : TapeOk b ns w) : Calls Tryz.prog 21 #[.pointer (some ⟨b, 0, none⟩), .slice (some ⟨w.heap.size, 0, none⟩) 2 2] (w.alloc (.cells #[.int .i64 p, .int .i64 q] 3)).drew (PickPost b ns [p, q] w) := by
  refine (pick_any b w.heap.size 2 ns [p, q] (w.drew.alloc (.cells #[.int .i64 p, .int .i64 q] 3)) ((hT.below (Below.refl _ _).drew).alloc _) (Nat.ne_of_gt hT.lt) (by simp) (by simp) (pick_row [p, q] w.drew)).mono ?_
  rintro e w' ⟨x, hx, rfl, h1, h2⟩
  exact ⟨x, hx, rfl, h1, ((But.refl b w).drew.alloc _).trans h2⟩

end Go.Proofs.YtpdbkbadjgellaaGreatDoor

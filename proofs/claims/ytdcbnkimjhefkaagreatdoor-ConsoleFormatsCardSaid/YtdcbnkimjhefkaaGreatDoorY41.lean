/-
  Slices of ints and of commands among the arguments; what the console asks of the listed variables.
-/
import Derived.Test.YtdcbnkimjhefkaaGreatDoorY18
import Derived.Test.YtdcbnkimjhefkaaGreatDoorY39
import Derived.Test.YtdcbnkimjhefkaaGreatDoorY40
import Derived.Lib.SmallJoins
namespace Go.Proofs.YtdcbnkimjhefkaaGreatDoor
open Go.ChangeShapes Go.WideShapes Go.ChangeAt Go.RowKit
set_option maxRecDepth 100000

theorem cellsInt : Tryz.prog.cellsOf 3 = 1 := by kernel_rfl
theorem cellsU64 : Tryz.prog.cellsOf 62 = 1 := by kernel_rfl
theorem cellsPow : Tryz.prog.cellsOf 333 = 20 := by kernel_rfl
theorem gPowType : (Tryz.prog.globals[4]?).map (·.type) = some 333 := by kernel_rfl
theorem pow_of {W : World} {rest : List (String × DataW Unit)} (h : laidMet Tryz.prog (("internal/strconv.uint64pow10", Rows.laid_internal_strconv_uint64pow10) :: rest) W) : Lib.TabIs Tryz.prog W "internal/strconv.uint64pow10" .u64 Lib.pow10Tab :=
  Lib.tabIs_of_head (rest := rest) gPowC gPowType Tryz.underlying333 Tryz.underlying62 cellsU64 cellsPow h
theorem len_of_shape {W : World} (h : W.ShapedOpen Tryz.prog) : LenAt W := by
  obtain ⟨m, hm⟩ := cell_of_shapedOpen_int (P := Tryz.prog) (g := 1) (zero := #[.int .i64 0]) (t := 3) h (of_decide_eq_true (by kernel_rfl)) (by kernel_rfl) rfl (by kernel_rfl) (by kernel_rfl) Tryz.underlying3
  exact ⟨⟨m, hm⟩, World.block_lt_of_cell? W _ hm⟩
theorem forms_of {W : World} {rest : List (String × DataW Unit)} (h : laidMet Tryz.prog (("payroll/console.forms", Rows.laid_payroll_console_forms) :: rest) W) : FormsAt W :=
  ⟨fun j v hj => by rw [Nat.zero_add]; exact formsRow h j v hj, World.block_lt_of_cell? W _ (formsRow h 0 _ rfl)⟩
theorem ints_of {H : Type} {enc : TypeId × Value → H} {W : World} {r : Reach} {b0 : Nat} {v : Value} {d : DataW H} {ps : List MemPlace} (hval : Value.okWide Tryz.prog W r b0 44 v)
    (h : DataW.Trod enc Tryz.prog W 0 (fun _ => true) true 44 v d ps) : ∃ ns, IntsAt W W.heap.size v ns := by
  obtain ⟨a0, len, cap, rfl⟩ := okWide_slice Tryz.underlying44 hval
  obtain ⟨fuel, hf⟩ := h
  rcases open_ints Tryz.underlying44 Tryz.underlying3 cellsInt hf with ⟨hcs, _⟩ | ⟨a, len', cap', zs, hcs, _, hl, hm, hz, _, hcell, hwz⟩
  · simp [Value.cells] at hcs
    obtain ⟨rfl, rfl, rfl⟩ := hcs
    exact ⟨[], none, 0, rfl, Nat.zero_le _, fun x hx => (by cases hx), fun h => (by cases h)⟩
  · simp [Value.cells] at hcs
    obtain ⟨rfl, rfl, rfl⟩ := hcs
    rw [if_pos rfl] at hz
    have hlen : (zs.take len).length = len := by simp; omega
    refine ⟨zs.take len, some a, cap, by rw [hlen], by omega, fun x hx => bounds_i64 (hwz x (List.mem_of_mem_take hx)), fun h => ?_⟩
    obtain ⟨b, off, rfl, hc⟩ := Go.ints_at hcell (by omega)
    refine ⟨b, off, rfl, World.block_lt_of_cell? W _ (hc 0 (by omega)), fun i hi => ?_⟩
    rw [hc i (by omega), List.getElem_take, List.getD_eq_getElem?_getD, List.getElem?_eq_getElem (by omega)]
    rfl
section
variable {H : Type} {enc : TypeId × Value → H} {P : Program} {w : World} {base : Nat} {spare : Nat → Bool} {held : Bool}
theorem trod_struct6 {t : TypeId} {f0 f1 f2 f3 f4 f5 : Field} {fuel : Nat} {cs : List Value} {x : DataW H × List MemPlace} (ht : P.underlying t = some (.struct #[f0, f1, f2, f3, f4, f5])) (h : DataW.trod enc P w base spare held fuel t cs = some x) :
    ∃ y0 y1 y2 y3 y4 y5 n, cs.length = P.cellsOf t ∧ DataW.trod enc P w base spare held n f0.type ((cs.drop f0.offset).take (P.cellsOf f0.type)) = some y0 ∧
      DataW.trod enc P w base spare held n f1.type ((cs.drop f1.offset).take (P.cellsOf f1.type)) = some y1 ∧ DataW.trod enc P w base spare held n f2.type ((cs.drop f2.offset).take (P.cellsOf f2.type)) = some y2 ∧
      DataW.trod enc P w base spare held n f3.type ((cs.drop f3.offset).take (P.cellsOf f3.type)) = some y3 ∧ DataW.trod enc P w base spare held n f4.type ((cs.drop f4.offset).take (P.cellsOf f4.type)) = some y4 ∧ DataW.trod enc P w base spare held n f5.type ((cs.drop f5.offset).take (P.cellsOf f5.type)) = some y5 := by
  obtain ⟨xs, n, _, _, hl, hlen, hf⟩ := DataW.trod_struct ht h
  match xs, hlen with
  | [y0, y1, y2, y3, y4, y5], _ => exact ⟨y0, y1, y2, y3, y4, y5, n, hl, by simpa using hf 0 f0 rfl, by simpa using hf 1 f1 rfl, by simpa using hf 2 f2 rfl, by simpa using hf 3 f3 rfl, by simpa using hf 4 f4 rfl, by simpa using hf 5 f5 rfl⟩
theorem trod_struct8 {t : TypeId} {f0 f1 f2 f3 f4 f5 f6 f7 : Field} {fuel : Nat} {cs : List Value} {x : DataW H × List MemPlace} (ht : P.underlying t = some (.struct #[f0, f1, f2, f3, f4, f5, f6, f7])) (h : DataW.trod enc P w base spare held fuel t cs = some x) :
    ∃ y0 y1 y2 y3 y4 y5 y6 y7 n, cs.length = P.cellsOf t ∧ DataW.trod enc P w base spare held n f0.type ((cs.drop f0.offset).take (P.cellsOf f0.type)) = some y0 ∧
      DataW.trod enc P w base spare held n f1.type ((cs.drop f1.offset).take (P.cellsOf f1.type)) = some y1 ∧ DataW.trod enc P w base spare held n f2.type ((cs.drop f2.offset).take (P.cellsOf f2.type)) = some y2 ∧
      DataW.trod enc P w base spare held n f3.type ((cs.drop f3.offset).take (P.cellsOf f3.type)) = some y3 ∧ DataW.trod enc P w base spare held n f4.type ((cs.drop f4.offset).take (P.cellsOf f4.type)) = some y4 ∧ DataW.trod enc P w base spare held n f5.type ((cs.drop f5.offset).take (P.cellsOf f5.type)) = some y5 ∧
      DataW.trod enc P w base spare held n f6.type ((cs.drop f6.offset).take (P.cellsOf f6.type)) = some y6 ∧ DataW.trod enc P w base spare held n f7.type ((cs.drop f7.offset).take (P.cellsOf f7.type)) = some y7 := by
  obtain ⟨xs, n, _, _, hl, hlen, hf⟩ := DataW.trod_struct ht h
  match xs, hlen with
  | [y0, y1, y2, y3, y4, y5, y6, y7], _ => exact ⟨y0, y1, y2, y3, y4, y5, y6, y7, n, hl, by simpa using hf 0 f0 rfl, by simpa using hf 1 f1 rfl, by simpa using hf 2 f2 rfl, by simpa using hf 3 f3 rfl, by simpa using hf 4 f4 rfl, by simpa using hf 5 f5 rfl, by simpa using hf 6 f6 rfl, by simpa using hf 7 f7 rfl⟩
theorem list13 {cs : List Value} (h : cs.length = 13) : ∃ c0 c1 c2 c3 c4 c5 c6 c7 c8 c9 c10 c11 c12, cs = [c0, c1, c2, c3, c4, c5, c6, c7, c8, c9, c10, c11, c12] := by
  match cs, h with
  | [c0, c1, c2, c3, c4, c5, c6, c7, c8, c9, c10, c11, c12], _ => exact ⟨c0, c1, c2, c3, c4, c5, c6, c7, c8, c9, c10, c11, c12, rfl⟩
end
theorem cellsCmd : Tryz.prog.cellsOf 64 = 13 := by kernel_rfl
theorem cellsFact : Tryz.prog.cellsOf 61 = 8 := by kernel_rfl
theorem cellsStr : Tryz.prog.cellsOf 9 = 1 := by kernel_rfl
theorem cmds_of {H : Type} {enc : TypeId × Value → H} {W : World} {r : Reach} {b0 : Nat} {v : Value} {d : DataW H} {ps : List MemPlace} (hval : Value.okWide Tryz.prog W r b0 50 v)
    (h : DataW.Trod enc Tryz.prog W 0 (fun _ => true) true 50 v d ps) : ∃ raw, CmdsAt W W.heap.size v raw ∧ (∀ c ∈ raw, c.WfI) ∧ raw.length ≤ 9223372036854775807 := by
  obtain ⟨a0, len, cap, rfl⟩ := okWide_slice Tryz.underlying50 hval
  obtain ⟨fuel, hf⟩ := h
  rcases Deep.open_slice Tryz.underlying50 hf with ⟨hcs, _⟩ | ⟨a, len', cap', m, n, D, Pl, hcs, _, hl, hm, hmm, _, hx⟩
  · simp [Value.cells] at hcs
    obtain ⟨rfl, rfl, rfl⟩ := hcs
    exact ⟨[], ⟨none, 0, rfl, fun h => absurd rfl h⟩, fun x hx => (by cases hx), Nat.zero_le _⟩
  · simp [Value.cells] at hcs
    obtain ⟨rfl, rfl, rfl⟩ := hcs
    rw [if_pos rfl] at hmm
    have each : ∀ i, ∃ c : Cmd, i < len → c.WfI ∧ ∀ j u, (c.cells)[j]? = some u → W.cell? (a.add (i * 13 + j)) = some u := by
      intro i
      by_cases hi : i < len
      · obtain ⟨cs', h1, h2⟩ := hx i (by omega)
        rw [cellsCmd] at h1
        obtain ⟨_, hlen, hcell⟩ := World.cells?_some h1
        obtain ⟨c0, c1, c2, c3, c4, c5, c6, c7, c8, c9, c10, c11, c12, rfl⟩ := list13 hlen
        obtain ⟨y0, y1, y2, y3, y4, y5, k, _, u0, u1, u2, u3, u4, u5⟩ := trod_struct6 Tryz.underlying64 h2
        simp only [cellsInt, cellsU64, cellsFact, List.drop, List.take] at u0 u1 u2 u3 u4 u5
        obtain ⟨z0, z1, z2, z3, z4, z5, z6, z7, k', _, q0, q1, q2, q3, q4, q5, q6, q7⟩ := trod_struct8 Tryz.underlying61 u1
        simp only [cellsInt, cellsStr, List.drop, List.take] at q0 q1 q2 q3 q4 q5 q6 q7
        obtain ⟨x0, e0, _, w0⟩ := DataW.trod_int Tryz.underlying3 u0
        obtain ⟨x1, e1, _, w1⟩ := DataW.trod_int Tryz.underlying3 q0
        obtain ⟨x2, e2, _, w2⟩ := DataW.trod_int Tryz.underlying3 q1
        obtain ⟨x3, e3, _, w3⟩ := DataW.trod_int Tryz.underlying3 q2
        obtain ⟨⟨⟨x4⟩⟩, e4, _, _⟩ := DataW.trod_string Tryz.underlying9 q3
        obtain ⟨x5, e5, _, w5⟩ := DataW.trod_int Tryz.underlying3 q4
        obtain ⟨x6, e6, _, w6⟩ := DataW.trod_int Tryz.underlying3 q5
        obtain ⟨x7, e7, _, w7⟩ := DataW.trod_int Tryz.underlying3 q6
        obtain ⟨⟨⟨x8⟩⟩, e8, _, _⟩ := DataW.trod_string Tryz.underlying9 q7
        obtain ⟨x9, e9, _, w9⟩ := DataW.trod_int Tryz.underlying3 u2
        obtain ⟨x10, e10, _, w10⟩ := DataW.trod_int Tryz.underlying62 u3
        obtain ⟨x11, e11, _, w11⟩ := DataW.trod_int Tryz.underlying3 u4
        obtain ⟨x12, e12, _, w12⟩ := DataW.trod_int Tryz.underlying3 u5
        simp only [List.cons.injEq, and_true] at e0 e1 e2 e3 e4 e5 e6 e7 e8 e9 e10 e11 e12
        subst e0 e1 e2 e3 e4 e5 e6 e7 e8 e9 e10 e11 e12
        have hu := bounds_u64 w10
        obtain ⟨wh, rfl⟩ := Int.eq_ofNat_of_zero_le hu.1
        refine ⟨⟨x0, x1, x2, x3, x4, x5, x6, x7, x8, x9, wh, x11, x12⟩, fun _ => ⟨⟨bounds_i64 w0, bounds_i64 w1, bounds_i64 w2, bounds_i64 w3, bounds_i64 w5, bounds_i64 w6, bounds_i64 w7, bounds_i64 w9, bounds_i64 w11, bounds_i64 w12, by simp only; omega⟩, fun j u hu => ?_⟩⟩
        have hj : j < 13 := by
          rcases Nat.lt_or_ge j 13 with h' | h'
          · exact h'
          · rw [List.getElem?_eq_none (by simpa [Cmd.cells] using h')] at hu; cases hu
        have := hcell j hj
        rw [show (a.add (i * 13)).add j = a.add (i * 13 + j) from ?_] at this
        · rw [this]; exact hu
        · unfold Addr.add
          by_cases e : i * 13 = 0 <;> by_cases e' : j = 0 <;> simp [e, e', Nat.add_assoc]
      · exact ⟨⟨0, 0, 0, 0, [], 0, 0, 0, [], 0, 0, 0, 0⟩, fun h => absurd h hi⟩
    obtain ⟨T, hT⟩ := Classical.axiomOfChoice each
    have hl0 : ((List.range len).map T).length = len := by simp
    refine ⟨(List.range len).map T, ⟨some a, cap, by rw [hl0], fun hn => ?_⟩, fun c hc => ?_, by rw [hl0]; unfold maxLen at hm; omega⟩
    · obtain ⟨b, off, spot⟩ := a
      have hn0 : 0 < len := by
        rcases Nat.eq_zero_or_pos len with h0 | h0
        · subst h0; exact absurd rfl hn
        · exact h0
      have hc0 := (hT 0 hn0).2 0 _ rfl
      have hsp := World.cell?_spot hc0
      simp [Addr.add] at hsp
      subst hsp
      refine ⟨b, off, rfl, ?_, fun i hi j u hu => ?_⟩
      · have h1 := World.block_lt_of_cell? W _ hc0
        simpa [Addr.add] using h1
      · rw [hl0] at hi
        simp only [List.getElem_map, List.getElem_range] at hu
        have := (hT i hi).2 j u hu
        rw [Go.WideShapes.add_plain] at this
        rw [Nat.add_assoc]
        exact this
    · simp only [List.mem_map, List.mem_range] at hc
      obtain ⟨i, hi, rfl⟩ := hc
      exact (hT i hi).1
theorem globals_le {W : World} (hs : W.ShapedOpen Tryz.prog) : Tryz.prog.globals.size ≤ W.heap.size := by
  have hsz : Tryz.prog.globals.size = 12 := by kernel_rfl
  have h0 : (((begin Tryz.prog (fun _ _ => 0) default).world.heap[11]?).bind Obj.row?).isSome = true := by kernel_rfl
  rw [Option.isSome_iff_exists] at h0
  obtain ⟨⟨zero, t⟩, h0⟩ := h0
  obtain ⟨cs, hh, _⟩ := hs.1 11 zero t (by rw [hsz]; decide) h0
  have := (Array.getElem?_eq_some_iff.1 hh).1
  omega
theorem con_of {W : World} (hf : FormsAt W) (hp : Lib.TabIs Tryz.prog W "internal/strconv.uint64pow10" .u64 Lib.pow10Tab) (hs : W.ShapedOpen Tryz.prog) : Con W := ⟨hf, hp, len_of_shape hs⟩
end Go.Proofs.YtdcbnkimjhefkaaGreatDoor

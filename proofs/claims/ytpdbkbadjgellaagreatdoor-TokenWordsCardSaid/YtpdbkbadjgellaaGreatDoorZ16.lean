/-
  The reference's own (printed by gen_own.py).
  Expressions and definitions in memory, their blocks out of a set.
-/
import Derived.Test.YtpdbkbadjgellaaGreatDoorZ15
import Derived.Test.YtpdbkbadjgellaaGreatDoorZ13
namespace Go.Proofs.YtpdbkbadjgellaaGreatDoor
open Go.RowKit
section
set_option maxRecDepth 100000
theorem run_eql_ratio (w : World) (n d n' d' : Int) : (binOp .eql 33 (.agg #[.int .i64 n, .int .i64 d]) (.agg #[.int .i64 n', .int .i64 d'])).run Tryz.prog w = .ok (.bool (n == n' && d == d')) w := by
  simp [go_sem]
  repeat' split
  all_goals simp_all
theorem run_eql_unit (w : World) (n d m n' d' m' : Int) : (binOp .eql 85 (.agg #[.int .i64 n, .int .i64 d, .int .i64 m]) (.agg #[.int .i64 n', .int .i64 d', .int .i64 m'])).run Tryz.prog w = .ok (.bool (n == n' && (d == d' && m == m'))) w := by
  simp [go_sem]
  repeat' split
  all_goals simp_all
theorem lies_sz {O : List Nat} {B : Nat} {w : World} {z : Nat} {m : List Ent} {x : Nat × Nat} {q : List (Nat × Nat)} (h : Lies O B w ⟨z, m, x, q⟩) : Lies O B w ⟨w.heap.size, m, x, q⟩ := ⟨⟨rfl, h.sat.good, h.sat.apart⟩, h.le, h.own⟩
theorem lies_below {w w' : World} {z : Nat} {m : List Ent} {x : Nat × Nat} {q : List (Nat × Nat)} {O : List Nat} {B : Nat} (h : Lies O B w ⟨z, m, x, q⟩) (hb : Below w.heap.size w w') : Lies (m.map (·.id)) w'.heap.size w' ⟨w'.heap.size, m, (0, 0), []⟩ :=
  lies_any (lies_keep h hb.size fun e he => hb.block e.id (h.sat.good e he).1)
/-- At a function's end: the result lies in slots. -/
theorem at_end {P : Program} {f : FuncId} {R : Ending → World → Prop} {n : Nat} {fn : Func} {E : Nat → Value} {w : World} {todo : List Item} (mem : List Ent) (v : Value) (hf : P.funcs[f]? = some fn) (hL : Lies (mem.map (·.id)) w.heap.size w ⟨w.heap.size, mem, (0, 0), []⟩)
    (he : (fun a : St => (isRet a.todo, a.ms.eqs, (lrun P (resultsE fn n a.env) ⟨0, [], (0, 0), []⟩).map (fun r => (r.1, r.2.eqs)))) (adv P n (cntG 90 todo) ⟨todo, E, ⟨w.heap.size, mem, (0, 0), []⟩, []⟩) = (true, [], some (v, [])))
    (hk : ∀ w', Kept (mem.map (·.id)) w.heap.size w w' → R (.returned v) w') : At P f R todo (Fr n E) w := by
  simp only [Prod.mk.injEq] at he
  obtain ⟨h1, h2, h3⟩ := he
  refine at_adv (cntG 90 todo) ⟨todo, E, ⟨w.heap.size, mem, (0, 0), []⟩, []⟩ hL (by rw [h2]; rfl) fun w' hL' hK => ?_
  refine at_ret (fn := fn) h1 hf ⟨0, [], (0, 0), []⟩ (fun e he => (by cases he)) v ?_ ?_ (hk w' hK)
  · rw [Option.map_eq_some_iff] at h3 ⊢
    obtain ⟨r, hr, he⟩ := h3
    exact ⟨r, hr, by rw [Prod.mk.injEq] at he; exact he.1⟩
  · rw [Option.map_eq_some_iff] at h3
    obtain ⟨r, hr, he⟩ := h3
    rw [Prod.mk.injEq] at he
    rw [hr]
    simp [he.2]

noncomputable def codeOwn : Code := Tryz.f142.body.getD .skip
noncomputable def tO1 : List Item := advG [.code codeOwn]
noncomputable def tO3 : List Item := advG (tailT tO1)
noncomputable def tO4 : List Item := advG (thenT tO3)
noncomputable def tO5 : List Item := advG (elseT tO3)
noncomputable def tO6 : List Item := advG (thenT tO5)
noncomputable def tO7 : List Item := advG (elseT tO5)
noncomputable def tO7a : List Item := advG (thenT tO7)
noncomputable def tO7b : List Item := advG (elseT tO7)
noncomputable def tO9 : List Item := advG (thenT tO7a)
noncomputable def tO10 : List Item := advG (elseT tO7b)
noncomputable def tO11 : List Item := advG (thenT tO10)
noncomputable def tO12 : List Item := advG (elseT tO10)
noncomputable def tO12a : List Item := advG (thenT tO12)
noncomputable def tO12b : List Item := advG (elseT tO12)
noncomputable def tO14 : List Item := advG (thenT tO12a)
noncomputable def tO15 : List Item := advG (elseT tO12b)
def exC (op num den mu hu du : Int) (nm : List UInt8) (cnt md : Int) (A : Option Addr) (k c : Nat) : List Value := [.int .i64 op, .int .i64 num, .int .i64 den, .int .i64 mu, .int .i64 hu, .int .i64 du, .string ⟨nm.toArray⟩, .int .i64 cnt, .int .i64 md, .slice A k c]
def memO (w : World) (op num den mu hu du : Int) (nm : List UInt8) (cnt md : Int) (A : Option Addr) (k c : Nat) : List Ent := [⟨w.heap.size, 0, exC op num den mu hu du nm cnt md A k c, 91, true⟩]
def envO (w : World) (op : Int) (v u c m n : Bool) : List (Nat × Value) := [(1, pt w.heap.size 0), (26, .int .i64 op), (3, .bool v), (4, .bool u), (5, .bool c), (6, .bool m), (7, .bool n)]
section
variable {op num den mu hu du : Int} {nm : List UInt8} {cnt md : Int} {A : Option Addr} {k c : Nat} {w : World}
/-- The last line. -/
theorem own_last {v u x m n r : Bool} {E : Nat → Value} {wx : World} (hB : Below w.heap.size w wx) (hr : r = ((((v && u) && x) && m) && n)) :
    At Tryz.prog 142 (fun e w' => e = .returned (.bool r) ∧ Below w.heap.size w w') tO15 (Fr 95 (updL E (envO w op v u x m n))) wx := by
  subst hr
  refine at_ghost ((curReg tO15).getD #[]) ⟨[], [], []⟩ [(2, .bool ((((v && u) && x) && m) && n))] (by kernel_rfl) (by kernel_rfl) (by kernel_rfl) (fun e he => (by cases he)) (fun e he => (by cases he)) (fun X => by kernel_rfl) (by kernel_rfl) fun w2 E2 hB2 => ?_
  refine at_end [] (.bool ((((v && u) && x) && m) && n)) (fn := Tryz.f142) (by kernel_rfl) (lies_nil w2) (by kernel_rfl) fun w3 hK => ⟨rfl, ?_⟩
  have B := hB.trans (hB2.mono hB.size)
  exact B.trans ((below_kept hK).mono B.size)

theorem own_arm1 {v u x m n r : Bool} {E : Nat → Value} {wx : World} (hB : Below w.heap.size w wx) (_hn : nm.length ≤ maxLen) (hM : ∀ e ∈ memO w op num den mu hu du nm cnt md A k c, e.good wx) (hr : r = ((((isDecimalB num den && isUnitB mu hu du) && x) && m) && n)) :
    At Tryz.prog 142 (fun e w' => e = .returned (.bool r) ∧ Below w.heap.size w w') tO4 (Fr 95 (updL E (envO w op v u x m n))) wx := by
  have hS : ∀ sp ∈ [(⟨2, [(30, .agg #[.int .i64 num, .int .i64 den])], .bool (isDecimalB num den), true⟩ : Sp), ⟨5, [(33, .agg #[.int .i64 mu, .int .i64 hu, .int .i64 du])], .bool (isUnitB mu hu du), true⟩], SpecOk Tryz.prog 95 (Below wx.heap.size wx) ((curReg tO4).getD #[]) sp := by
    intro sp hsp
    simp only [List.mem_cons, List.not_mem_nil, or_false] at hsp
    rcases hsp with rfl | rfl
    · exact spec_call 38 [.tmp 30] [.agg #[.int .i64 num, .int .i64 den]] (by kernel_rfl) (by kernel_rfl) (fun E => by kernel_rfl) fun hc y hy => below_call hy (risDecimal_any num den y)
    · exact spec_call 113 [.tmp 33] [.agg #[.int .i64 mu, .int .i64 hu, .int .i64 du]] (by kernel_rfl) (by kernel_rfl) (fun E => by kernel_rfl) fun hc y hy => below_call hy (risUnit_any mu hu du y)
  refine at_ghost ((curReg tO4).getD #[]) ⟨memO w op num den mu hu du nm cnt md A k c, [(1, 0, 1), (4, 0, 3)], _⟩ (envO w op (isDecimalB num den) (isUnitB mu hu du) (x) (m) (n)) (by kernel_rfl) (by kernel_rfl) (by kernel_rfl) hM hS (fun X => by kernel_rfl) (by kernel_rfl) fun w2 E2 hB2 => ?_
  refine at_run (cntG 90 (tailT tO4)) (tailT tO4) w2.heap.size [] [] tO15 (envO w op (isDecimalB num den) (isUnitB mu hu du) (x) (m) (n)) w2.heap.size [] (lies_nil w2) (by kernel_rfl) fun w3 E3 _ hK => ?_
  have B := hB.trans (hB2.mono hB.size)
  exact own_last (B.trans ((below_kept hK).mono B.size)) hr

theorem own_arm2 {v u x m n r : Bool} {E : Nat → Value} {wx : World} (hB : Below w.heap.size w wx) (_hn : nm.length ≤ maxLen) (hM : ∀ e ∈ memO w op num den mu hu du nm cnt md A k c, e.good wx) (hr : r = ((((v && u) && (cnt == 0 || cnt == 1)) && m) && n)) :
    At Tryz.prog 142 (fun e w' => e = .returned (.bool r) ∧ Below w.heap.size w w') tO6 (Fr 95 (updL E (envO w op v u x m n))) wx := by
  refine at_ghost ((curReg tO6).getD #[]) ⟨memO w op num den mu hu du nm cnt md A k c, [(1, 0, 7), (5, 0, 7)], []⟩ (envO w op (v) (u) ((cnt == 0 || cnt == 1)) (m) (n)) (by kernel_rfl) (by kernel_rfl) (by kernel_rfl) hM (fun e he => (by cases he)) (fun X => by kernel_rfl) (by kernel_rfl) fun w2 E2 hB2 => ?_
  refine at_run (cntG 90 (tailT tO6)) (tailT tO6) w2.heap.size [] [] tO15 (envO w op (v) (u) ((cnt == 0 || cnt == 1)) (m) (n)) w2.heap.size [] (lies_nil w2) (by kernel_rfl) fun w3 E3 _ hK => ?_
  have B := hB.trans (hB2.mono hB.size)
  exact own_last (B.trans ((below_kept hK).mono B.size)) hr

theorem own_arm19 {v u x m n r : Bool} {E : Nat → Value} {wx : World} (hB : Below w.heap.size w wx) (_hn : nm.length ≤ maxLen) (hM : ∀ e ∈ memO w op num den mu hu du nm cnt md A k c, e.good wx) (hr : r = (((((isDecimalB num den && decide (0 < num)) && isUnitB mu hu du) && x) && (decide (0 ≤ md) && decide (md ≤ 6))) && n)) :
    At Tryz.prog 142 (fun e w' => e = .returned (.bool r) ∧ Below w.heap.size w w') tO11 (Fr 95 (updL E (envO w op v u x m n))) wx := by
  have hS : ∀ sp ∈ [(⟨2, [(54, .agg #[.int .i64 num, .int .i64 den])], .bool (isDecimalB num den), true⟩ : Sp), ⟨11, [(63, .agg #[.int .i64 mu, .int .i64 hu, .int .i64 du])], .bool (isUnitB mu hu du), true⟩, ⟨14, [(66, .int .i64 md)], .bool (decide (0 ≤ md) && decide (md ≤ 6)), true⟩], SpecOk Tryz.prog 95 (Below wx.heap.size wx) ((curReg tO11).getD #[]) sp := by
    intro sp hsp
    simp only [List.mem_cons, List.not_mem_nil, or_false] at hsp
    rcases hsp with rfl | rfl | rfl
    · exact spec_call 38 [.tmp 54] [.agg #[.int .i64 num, .int .i64 den]] (by kernel_rfl) (by kernel_rfl) (fun E => by kernel_rfl) fun hc y hy => below_call hy (risDecimal_any num den y)
    · exact spec_call 113 [.tmp 63] [.agg #[.int .i64 mu, .int .i64 hu, .int .i64 du]] (by kernel_rfl) (by kernel_rfl) (fun E => by kernel_rfl) fun hc y hy => below_call hy (risUnit_any mu hu du y)
    · exact spec_call 117 [.tmp 66] [.int .i64 md] (by kernel_rfl) (by kernel_rfl) (fun E => by kernel_rfl) fun hc y hy => below_call hy (rmode_any md y)
  refine at_ghost ((curReg tO11).getD #[]) ⟨memO w op num den mu hu du nm cnt md A k c, [(1, 0, 1), (6, 0, 1), (10, 0, 3), (13, 0, 8)], _⟩ (envO w op ((isDecimalB num den && decide (0 < num))) (isUnitB mu hu du) (x) ((decide (0 ≤ md) && decide (md ≤ 6))) (n)) (by kernel_rfl) (by kernel_rfl) (by kernel_rfl) hM hS (fun X => by kernel_rfl) (by kernel_rfl) fun w2 E2 hB2 => ?_
  refine at_run (cntG 90 (tailT tO11)) (tailT tO11) w2.heap.size [] [] tO15 (envO w op ((isDecimalB num den && decide (0 < num))) (isUnitB mu hu du) (x) ((decide (0 ≤ md) && decide (md ≤ 6))) (n)) w2.heap.size [] (lies_nil w2) (by kernel_rfl) fun w3 E3 _ hK => ?_
  have B := hB.trans (hB2.mono hB.size)
  exact own_last (B.trans ((below_kept hK).mono B.size)) hr

theorem own_arm20 {v u x m n r : Bool} {E : Nat → Value} {wx : World} (hB : Below w.heap.size w wx) (hn : nm.length ≤ maxLen) (hM : ∀ e ∈ memO w op num den mu hu du nm cnt md A k c, e.good wx) (hr : r = ((((v && u) && (decide (1 ≤ cnt) && decide (cnt ≤ 120))) && m) && Tk.isName nm)) :
    At Tryz.prog 142 (fun e w' => e = .returned (.bool r) ∧ Below w.heap.size w w') tO14 (Fr 95 (updL E (envO w op v u x m n))) wx := by
  have hS : ∀ sp ∈ [(⟨2, [(72, .string ⟨nm.toArray⟩)], .bool (Tk.isName nm), true⟩ : Sp)], SpecOk Tryz.prog 95 (Below wx.heap.size wx) ((curReg tO14).getD #[]) sp := by
    intro sp hsp
    simp only [List.mem_cons, List.not_mem_nil, or_false] at hsp
    rcases hsp with rfl
    · exact spec_call 12 [.tmp 72] [.string ⟨nm.toArray⟩] (by kernel_rfl) (by kernel_rfl) (fun E => by kernel_rfl) fun hc y hy => below_call hy (risName_any nm y hn)
  refine at_ghost ((curReg tO14).getD #[]) ⟨memO w op num den mu hu du nm cnt md A k c, [(1, 0, 6), (4, 0, 7), (8, 0, 7)], _⟩ (envO w op (v) (u) ((decide (1 ≤ cnt) && decide (cnt ≤ 120))) (m) (Tk.isName nm)) (by kernel_rfl) (by kernel_rfl) (by kernel_rfl) hM hS (fun X => by kernel_rfl) (by kernel_rfl) fun w2 E2 hB2 => ?_
  refine at_run (cntG 90 (tailT tO14)) (tailT tO14) w2.heap.size [] [] tO15 (envO w op (v) (u) ((decide (1 ≤ cnt) && decide (cnt ≤ 120))) (m) (Tk.isName nm)) w2.heap.size [] (lies_nil w2) (by kernel_rfl) fun w3 E3 _ hK => ?_
  have B := hB.trans (hB2.mono hB.size)
  exact own_last (B.trans ((below_kept hK).mono B.size)) hr

theorem own_arm3 {v u x m n r : Bool} {E : Nat → Value} {wx : World} (hB : Below w.heap.size w wx) (hn : nm.length ≤ maxLen) (hL : Lies ((memO w op num den mu hu du nm cnt md A k c).map (·.id)) wx.heap.size wx ⟨wx.heap.size, memO w op num den mu hu du nm cnt md A k c, (0, 0), []⟩) (hr : r = ((((v && u) && x) && m) && Tk.isName nm)) :
    At Tryz.prog 142 (fun e w' => e = .returned (.bool r) ∧ Below w.heap.size w w') (thenT tO7a) (Fr 95 (updL E (envO w op v u x m n))) wx := by
  refine at_run (cntG 90 (thenT tO7a)) (thenT tO7a) wx.heap.size (memO w op num den mu hu du nm cnt md A k c) [(0, 6)] tO9 ((49, .string ⟨nm.toArray⟩) :: envO w op v u x m n) wx.heap.size (memO w op num den mu hu du nm cnt md A k c) hL (by kernel_rfl) fun w2 E2 hL2 hK2 => ?_
  have B : Below w.heap.size w w2 := ⟨hK2.os.trans hB.os, hK2.tape.trans hB.tape, hK2.output.trans hB.output, Nat.le_trans hB.size hK2.size, fun i hi => (hK2.block i (by have := hB.size; omega) (by simp [memO]; omega)).trans (hB.block i hi)⟩
  refine at_call 12 [.tmp 49] (some 50) [.string ⟨nm.toArray⟩] (by kernel_rfl) (by kernel_rfl) (by kernel_rfl) ?_
  refine (risName_any nm w2 hn).mono ?_
  rintro e w3 ⟨rfl, hB3⟩
  refine ⟨_, rfl, ?_⟩
  refine at_run (cntG 90 (popOp tO9)) (popOp tO9) w3.heap.size [] [] tO15 (envO w op v u x m (Tk.isName nm)) w3.heap.size [] (lies_nil w3) (by kernel_rfl) fun w4 E4 _ hK => ?_
  have B3 := B.trans (hB3.mono B.size)
  exact own_last (B3.trans ((below_kept hK).mono B3.size)) hr
def nmE (nm : List UInt8) : Bool := (⟨nm.toArray⟩ : ByteArray).toList == (⟨#[]⟩ : ByteArray).toList
def ownB (op num den mu hu du : Int) (nm : List UInt8) (cnt md : Int) : Bool :=
  bif op == 1 then (((isDecimalB num den && isUnitB mu hu du) && cnt == 0) && md == 0) && nmE nm
  else bif op == 2 then ((((num == 0 && den == 0) && (mu == 0 && (hu == 0 && du == 0))) && (cnt == 0 || cnt == 1)) && md == 0) && nmE nm
  else bif op == 3 || op == 4 then ((((num == 0 && den == 0) && (mu == 0 && (hu == 0 && du == 0))) && cnt == 0) && md == 0) && Tk.isName nm
  else bif op == 19 then ((((isDecimalB num den && decide (0 < num)) && isUnitB mu hu du) && cnt == 0) && (decide (0 ≤ md) && decide (md ≤ 6))) && nmE nm
  else bif op == 20 || op == 21 then ((((num == 0 && den == 0) && (mu == 0 && (hu == 0 && du == 0))) && (decide (1 ≤ cnt) && decide (cnt ≤ 120))) && md == 0) && Tk.isName nm
  else ((((num == 0 && den == 0) && (mu == 0 && (hu == 0 && du == 0))) && cnt == 0) && md == 0) && nmE nm

theorem below_mem {wx wy : World} (hB : Below w.heap.size w wx) (hK : Kept ((memO w op num den mu hu du nm cnt md A k c).map (·.id)) wx.heap.size wx wy) : Below w.heap.size w wy :=
  ⟨hK.os.trans hB.os, hK.tape.trans hB.tape, hK.output.trans hB.output, Nat.le_trans hB.size hK.size, fun i hi => (hK.block i (by have := hB.size; omega) (by simp [memO]; omega)).trans (hB.block i hi)⟩
theorem rown_any (op num den mu hu du : Int) (nm : List UInt8) (cnt md : Int) (A : Option Addr) (k c : Nat) (w : World) (hn : nm.length ≤ maxLen) : Calls Tryz.prog 142 #[.agg (exC op num den mu hu du nm cnt md A k c).toArray] w fun e w' => e = .returned (.bool (ownB op num den mu hu du nm cnt md)) ∧ Below w.heap.size w w' := by
  refine calls_at (args := [.agg (exC op num den mu hu du nm cnt md A k c).toArray]) (fn := Tryz.f142) (c := codeOwn) (n := 95) (by kernel_rfl) (by kernel_rfl) (by kernel_rfl) (by kernel_rfl) ?_
  refine at_run (cntG 90 [.code codeOwn]) [.code codeOwn] w.heap.size [] [] tO1 [(1, pt w.heap.size 0)] (w.heap.size + 1) (memO w op num den mu hu du nm cnt md A k c) (lies_nil w) (by kernel_rfl) fun w1 E1 L K => ?_
  have B := below_kept K
  replace L := lies_any L
  clear K
  have hS : ∀ sp ∈ [(⟨3, [(9, .agg #[.int .i64 num, .int .i64 den]), (10, .agg #[.int .i64 0, .int .i64 0])], .bool (num == 0 && den == 0), true⟩ : Sp), ⟨7, [(13, .agg #[.int .i64 mu, .int .i64 hu, .int .i64 du]), (14, .agg #[.int .i64 0, .int .i64 0, .int .i64 0])], .bool (mu == 0 && (hu == 0 && du == 0)), true⟩], SpecOk Tryz.prog 95 (Below w1.heap.size w1) ((curReg tO1).getD #[]) sp := by
    intro sp hsp
    simp only [List.mem_cons, List.not_mem_nil, or_false] at hsp
    rcases hsp with rfl | rfl
    · refine spec_op fun hc E y hy => ?_
      have h1 : (execOp (ovr [(9, .agg #[.int .i64 num, .int .i64 den]), (10, .agg #[.int .i64 0, .int .i64 0])] (evE 95 E)) (((curReg tO1).getD #[]).getD 3 default)).run Tryz.prog y = (binOp .eql 33 (.agg #[.int .i64 num, .int .i64 den]) (.agg #[.int .i64 0, .int .i64 0]) >>= fun v => (pure (.value v) : Sem Next)).run Tryz.prog y := by kernel_rfl
      rw [h1]
      rw [Sem.run_bind, run_eql_ratio]
      rfl
    · refine spec_op fun hc E y hy => ?_
      have h1 : (execOp (ovr [(13, .agg #[.int .i64 mu, .int .i64 hu, .int .i64 du]), (14, .agg #[.int .i64 0, .int .i64 0, .int .i64 0])] (evE 95 E)) (((curReg tO1).getD #[]).getD 7 default)).run Tryz.prog y = (binOp .eql 85 (.agg #[.int .i64 mu, .int .i64 hu, .int .i64 du]) (.agg #[.int .i64 0, .int .i64 0, .int .i64 0]) >>= fun v => (pure (.value v) : Sem Next)).run Tryz.prog y := by kernel_rfl
      rw [h1]
      rw [Sem.run_bind, run_eql_unit]
      rfl
  refine at_ghost ((curReg tO1).getD #[]) ⟨memO w op num den mu hu du nm cnt md A k c, [(1, 0, 1), (5, 0, 3), (9, 0, 7), (12, 0, 8), (15, 0, 6)], _⟩ [(1, pt w.heap.size 0), (3, .bool (num == 0 && den == 0)), (4, .bool (mu == 0 && (hu == 0 && du == 0))), (5, .bool (cnt == 0)), (6, .bool (md == 0)), (7, .bool (nmE nm))] (by kernel_rfl) (by kernel_rfl) (by kernel_rfl) L.sat.good hS (fun X => by kernel_rfl) (by kernel_rfl) fun w2 E2 hB2 => ?_
  clear hS
  replace B := B.trans (hB2.mono B.size)
  replace L := lies_below L hB2
  clear hB2
  refine at_run (cntG 90 (tailT tO1)) (tailT tO1) w2.heap.size (memO w op num den mu hu du nm cnt md A k c) [(0, 0)] tO3 ((27, .bool (op == 1)) :: envO w op (num == 0 && den == 0) (mu == 0 && (hu == 0 && du == 0)) (cnt == 0) (md == 0) (nmE nm)) w2.heap.size (memO w op num den mu hu du nm cnt md A k c) (lies_sz L) (by kernel_rfl) fun w3 _ L2 K => ?_
  replace B := below_mem B K
  replace L := lies_any L2
  clear L2 K
  refine at_cond (op == 1) (by kernel_rfl) (fun h1 => ?_) (fun h1 => ?_)
  · refine at_run (cntG 90 (thenT tO3)) (thenT tO3) w3.heap.size (memO w op num den mu hu du nm cnt md A k c) [] tO4 (envO w op (num == 0 && den == 0) (mu == 0 && (hu == 0 && du == 0)) (cnt == 0) (md == 0) (nmE nm)) w3.heap.size (memO w op num den mu hu du nm cnt md A k c) (lies_sz L) (by kernel_rfl) fun w4 _ L2 K => ?_
    replace B := below_mem B K
    replace L := lies_any L2
    clear L2 K
    exact own_arm1 B hn L.sat.good (by simp only [ownB, h1]; rfl)
  refine at_run (cntG 90 (elseT tO3)) (elseT tO3) w3.heap.size (memO w op num den mu hu du nm cnt md A k c) [] tO5 ((35, .bool (op == 2)) :: envO w op (num == 0 && den == 0) (mu == 0 && (hu == 0 && du == 0)) (cnt == 0) (md == 0) (nmE nm)) w3.heap.size (memO w op num den mu hu du nm cnt md A k c) (lies_sz L) (by kernel_rfl) fun w4 _ L2 K => ?_
  replace B := below_mem B K
  replace L := lies_any L2
  clear L2 K
  refine at_cond (op == 2) (by kernel_rfl) (fun h2 => ?_) (fun h2 => ?_)
  · refine at_run (cntG 90 (thenT tO5)) (thenT tO5) w4.heap.size (memO w op num den mu hu du nm cnt md A k c) [] tO6 (envO w op (num == 0 && den == 0) (mu == 0 && (hu == 0 && du == 0)) (cnt == 0) (md == 0) (nmE nm)) w4.heap.size (memO w op num den mu hu du nm cnt md A k c) (lies_sz L) (by kernel_rfl) fun w5 _ L2 K => ?_
    replace B := below_mem B K
    replace L := lies_any L2
    clear L2 K
    exact own_arm2 B hn L.sat.good (by simp only [ownB, h1, h2]; rfl)
  refine at_run (cntG 90 (elseT tO5)) (elseT tO5) w4.heap.size (memO w op num den mu hu du nm cnt md A k c) [] tO7 ((45, .bool (op == 3)) :: envO w op (num == 0 && den == 0) (mu == 0 && (hu == 0 && du == 0)) (cnt == 0) (md == 0) (nmE nm)) w4.heap.size (memO w op num den mu hu du nm cnt md A k c) (lies_sz L) (by kernel_rfl) fun w5 _ L2 K => ?_
  replace B := below_mem B K
  replace L := lies_any L2
  clear L2 K
  refine at_cond (op == 3) (by kernel_rfl) (fun h3 => ?_) (fun h3 => ?_)
  · refine at_run (cntG 90 (thenT tO7)) (thenT tO7) w5.heap.size (memO w op num den mu hu du nm cnt md A k c) [] tO7a ((45, .bool (op == 3)) :: envO w op (num == 0 && den == 0) (mu == 0 && (hu == 0 && du == 0)) (cnt == 0) (md == 0) (nmE nm)) w5.heap.size (memO w op num den mu hu du nm cnt md A k c) (lies_sz L) (by kernel_rfl) fun w6 _ L2 K => ?_
    replace B := below_mem B K
    replace L := lies_any L2
    clear L2 K
    refine at_cond (op == 3) (by kernel_rfl) (fun _ => ?_) (fun h => (by rw [h3] at h; cases h))
    refine at_known (envO w op (num == 0 && den == 0) (mu == 0 && (hu == 0 && du == 0)) (cnt == 0) (md == 0) (nmE nm)) (by kernel_rfl) fun _ => ?_
    exact own_arm3 B hn (lies_sz L) (by simp only [ownB, h1, h2, h3]; rfl)
  refine at_run (cntG 90 (elseT tO7)) (elseT tO7) w5.heap.size (memO w op num den mu hu du nm cnt md A k c) [] tO7b ((45, .bool (op == 4)) :: envO w op (num == 0 && den == 0) (mu == 0 && (hu == 0 && du == 0)) (cnt == 0) (md == 0) (nmE nm)) w5.heap.size (memO w op num den mu hu du nm cnt md A k c) (lies_sz L) (by kernel_rfl) fun w6 _ L2 K => ?_
  replace B := below_mem B K
  replace L := lies_any L2
  clear L2 K
  refine at_cond (op == 4) (by kernel_rfl) (fun h4 => ?_) (fun h4 => ?_)
  · refine at_known (envO w op (num == 0 && den == 0) (mu == 0 && (hu == 0 && du == 0)) (cnt == 0) (md == 0) (nmE nm)) (by kernel_rfl) fun _ => ?_
    refine at_todo (todo' := thenT tO7a) (by kernel_rfl) ?_
    exact own_arm3 B hn (lies_sz L) (by simp only [ownB, h1, h2, h3, h4]; rfl)
  refine at_run (cntG 90 (elseT tO7b)) (elseT tO7b) w6.heap.size (memO w op num den mu hu du nm cnt md A k c) [] tO10 ((51, .bool (op == 19)) :: envO w op (num == 0 && den == 0) (mu == 0 && (hu == 0 && du == 0)) (cnt == 0) (md == 0) (nmE nm)) w6.heap.size (memO w op num den mu hu du nm cnt md A k c) (lies_sz L) (by kernel_rfl) fun w7 _ L2 K => ?_
  replace B := below_mem B K
  replace L := lies_any L2
  clear L2 K
  refine at_cond (op == 19) (by kernel_rfl) (fun h5 => ?_) (fun h5 => ?_)
  · refine at_run (cntG 90 (thenT tO10)) (thenT tO10) w7.heap.size (memO w op num den mu hu du nm cnt md A k c) [] tO11 (envO w op (num == 0 && den == 0) (mu == 0 && (hu == 0 && du == 0)) (cnt == 0) (md == 0) (nmE nm)) w7.heap.size (memO w op num den mu hu du nm cnt md A k c) (lies_sz L) (by kernel_rfl) fun w8 _ L2 K => ?_
    replace B := below_mem B K
    replace L := lies_any L2
    clear L2 K
    exact own_arm19 B hn L.sat.good (by simp only [ownB, h1, h2, h3, h4, h5]; rfl)
  refine at_run (cntG 90 (elseT tO10)) (elseT tO10) w7.heap.size (memO w op num den mu hu du nm cnt md A k c) [] tO12 ((68, .bool (op == 20)) :: envO w op (num == 0 && den == 0) (mu == 0 && (hu == 0 && du == 0)) (cnt == 0) (md == 0) (nmE nm)) w7.heap.size (memO w op num den mu hu du nm cnt md A k c) (lies_sz L) (by kernel_rfl) fun w8 _ L2 K => ?_
  replace B := below_mem B K
  replace L := lies_any L2
  clear L2 K
  refine at_cond (op == 20) (by kernel_rfl) (fun h6 => ?_) (fun h6 => ?_)
  · refine at_run (cntG 90 (thenT tO12)) (thenT tO12) w8.heap.size (memO w op num den mu hu du nm cnt md A k c) [] tO12a ((68, .bool (op == 20)) :: envO w op (num == 0 && den == 0) (mu == 0 && (hu == 0 && du == 0)) (cnt == 0) (md == 0) (nmE nm)) w8.heap.size (memO w op num den mu hu du nm cnt md A k c) (lies_sz L) (by kernel_rfl) fun w9 _ L2 K => ?_
    replace B := below_mem B K
    replace L := lies_any L2
    clear L2 K
    refine at_cond (op == 20) (by kernel_rfl) (fun _ => ?_) (fun h => (by rw [h6] at h; cases h))
    refine at_run (cntG 90 (thenT tO12a)) (thenT tO12a) w9.heap.size (memO w op num den mu hu du nm cnt md A k c) [] tO14 (envO w op (num == 0 && den == 0) (mu == 0 && (hu == 0 && du == 0)) (cnt == 0) (md == 0) (nmE nm)) w9.heap.size (memO w op num den mu hu du nm cnt md A k c) (lies_sz L) (by kernel_rfl) fun wa _ L2 K => ?_
    replace B := below_mem B K
    replace L := lies_any L2
    clear L2 K
    exact own_arm20 B hn L.sat.good (by simp only [ownB, h1, h2, h3, h4, h5, h6]; rfl)
  refine at_run (cntG 90 (elseT tO12)) (elseT tO12) w8.heap.size (memO w op num den mu hu du nm cnt md A k c) [] tO12b ((68, .bool (op == 21)) :: envO w op (num == 0 && den == 0) (mu == 0 && (hu == 0 && du == 0)) (cnt == 0) (md == 0) (nmE nm)) w8.heap.size (memO w op num den mu hu du nm cnt md A k c) (lies_sz L) (by kernel_rfl) fun w9 _ L2 K => ?_
  replace B := below_mem B K
  replace L := lies_any L2
  clear L2 K
  refine at_cond (op == 21) (by kernel_rfl) (fun h7 => ?_) (fun h7 => ?_)
  · refine at_run (cntG 90 (thenT tO12b)) (thenT tO12b) w9.heap.size (memO w op num den mu hu du nm cnt md A k c) [] tO14 (envO w op (num == 0 && den == 0) (mu == 0 && (hu == 0 && du == 0)) (cnt == 0) (md == 0) (nmE nm)) w9.heap.size (memO w op num den mu hu du nm cnt md A k c) (lies_sz L) (by kernel_rfl) fun wa _ L2 K => ?_
    replace B := below_mem B K
    replace L := lies_any L2
    clear L2 K
    exact own_arm20 B hn L.sat.good (by simp only [ownB, h1, h2, h3, h4, h5, h6, h7]; rfl)
  · refine at_run (cntG 90 (elseT tO12b)) (elseT tO12b) w9.heap.size (memO w op num den mu hu du nm cnt md A k c) [] tO15 (envO w op (num == 0 && den == 0) (mu == 0 && (hu == 0 && du == 0)) (cnt == 0) (md == 0) (nmE nm)) w9.heap.size (memO w op num den mu hu du nm cnt md A k c) (lies_sz L) (by kernel_rfl) fun wa _ L2 K => ?_
    replace B := below_mem B K
    replace L := lies_any L2
    clear L2 K
    exact own_last B (by simp only [ownB, h1, h2, h3, h4, h5, h6, h7]; rfl)
end
end
end Go.Proofs.YtpdbkbadjgellaaGreatDoor

namespace Go.Proofs.YtpdbkbadjgellaaGreatDoor

def rowsS (S : Nat → Prop) (w : World) (n : Nat) (A : Option Addr) (rs : List (List Value)) : Prop :=
  rs = [] ∨ ∃ g off, A = some ⟨g, off, none⟩ ∧ S g ∧ g < w.heap.size ∧ ∀ (i : Nat) r, rs[i]? = some r → ∀ (j : Nat) u, r[j]? = some u → w.cell? ⟨g, off + i * n + j, none⟩ = some u
mutual
def exS (S : Nat → Prop) (w : World) : Ex → List Value → Prop
  | .mk op num den mu hu du name count mode kids, cs => ∃ A c ks, cs = [.int .i64 op, .int .i64 num, .int .i64 den, .int .i64 mu, .int .i64 hu, .int .i64 du, .string ⟨name.toArray⟩, .int .i64 count, .int .i64 mode, .slice A kids.length c] ∧
      exsS S w kids ks ∧ rowsS S w 10 A ks
def exsS (S : Nat → Prop) (w : World) : List Ex → List (List Value) → Prop
  | [], ks => ks = []
  | e :: es, ks => ∃ c cs, ks = c :: cs ∧ exS S w e c ∧ exsS S w es cs
end
theorem rowsS.of {lo n : Nat} {w : World} {A : Option Addr} {rs : List (List Value)} {S : Nat → Prop} (h : rowsAt lo w n A rs) (hl : ∀ r ∈ rs, 0 < r.length) (hS : ∀ g, lo ≤ g → g < w.heap.size → S g) : rowsS S w n A rs := by
  rcases h with h | ⟨g, off, rfl, hg, hc⟩
  · exact .inl h
  · cases rs with
    | nil => exact .inl rfl
    | cons r rs =>
      have h0 := hl r (by simp)
      obtain ⟨u, hu⟩ : ∃ u, r[0]? = some u := ⟨_, List.getElem?_eq_getElem h0⟩
      have hlt : g < w.heap.size := World.block_lt_of_cell? w _ (hc 0 r (by simp) 0 u hu)
      exact .inr ⟨g, off, rfl, hS g hg hlt, hlt, hc⟩
theorem exsAt.len10 {lo : Nat} {w : World} : ∀ {es : List Ex} {ks : List (List Value)}, exsAt lo w es ks → ∀ r ∈ ks, r.length = 10
  | [], ks, h, r, hr => by unfold exsAt at h; subst h; cases hr
  | e :: es, ks, h, r, hr => by
    unfold exsAt at h
    obtain ⟨c, cs, rfl, h1, h2⟩ := h
    rcases List.mem_cons.1 hr with rfl | hr2
    · exact exAt.len h1
    · exact exsAt.len10 h2 r hr2
mutual
theorem exS.of {lo : Nat} {w : World} {S : Nat → Prop} (hS : ∀ g, lo ≤ g → g < w.heap.size → S g) : ∀ (e : Ex) (cs : List Value), exAt lo w e cs → exS S w e cs
  | .mk op num den mu hu du name count mode kids, cs, h => by
    unfold exAt at h
    unfold exS
    obtain ⟨A, c, ks, h1, h2, h3⟩ := h
    exact ⟨A, c, ks, h1, exsS.of hS kids ks h2, rowsS.of h3 (fun r hr => by rw [exsAt.len10 h2 r hr]; decide) hS⟩
theorem exsS.of {lo : Nat} {w : World} {S : Nat → Prop} (hS : ∀ g, lo ≤ g → g < w.heap.size → S g) : ∀ (es : List Ex) (ks : List (List Value)), exsAt lo w es ks → exsS S w es ks
  | [], ks, h => by unfold exsAt at h; unfold exsS; exact h
  | e :: es, ks, h => by
    unfold exsAt at h
    unfold exsS
    obtain ⟨c, cs, h1, h2, h3⟩ := h
    exact ⟨c, cs, h1, exS.of hS e c h2, exsS.of hS es cs h3⟩
end
theorem rowsS.keep {S S' : Nat → Prop} {n : Nat} {w w' : World} {A : Option Addr} {rs : List (List Value)} (h : rowsS S w n A rs) (hs : w.heap.size ≤ w'.heap.size) (hb : ∀ g, S g → g < w.heap.size → S' g ∧ w'.heap[g]? = w.heap[g]?) : rowsS S' w' n A rs := by
  rcases h with h | ⟨g, off, rfl, hg, hlt, hc⟩
  · exact .inl h
  · have := hb g hg hlt
    refine .inr ⟨g, off, rfl, this.1, by omega, fun i r hi j u hj => ?_⟩
    rw [World.cell?_of_block (w := w) this.2]
    exact hc i r hi j u hj
mutual
theorem exS.keep {S S' : Nat → Prop} {w w' : World} (hs : w.heap.size ≤ w'.heap.size) (hb : ∀ g, S g → g < w.heap.size → S' g ∧ w'.heap[g]? = w.heap[g]?) : ∀ (e : Ex) (cs : List Value), exS S w e cs → exS S' w' e cs
  | .mk op num den mu hu du name count mode kids, cs, h => by
    unfold exS at h ⊢
    obtain ⟨A, c, ks, h1, h2, h3⟩ := h
    exact ⟨A, c, ks, h1, exsS.keep hs hb kids ks h2, h3.keep hs hb⟩
theorem exsS.keep {S S' : Nat → Prop} {w w' : World} (hs : w.heap.size ≤ w'.heap.size) (hb : ∀ g, S g → g < w.heap.size → S' g ∧ w'.heap[g]? = w.heap[g]?) : ∀ (es : List Ex) (ks : List (List Value)), exsS S w es ks → exsS S' w' es ks
  | [], ks, h => by unfold exsS at h ⊢; exact h
  | e :: es, ks, h => by
    unfold exsS at h ⊢
    obtain ⟨c, cs, h1, h2, h3⟩ := h
    exact ⟨c, cs, h1, exS.keep hs hb e c h2, exsS.keep hs hb es cs h3⟩
end
theorem exS.cells {S : Nat → Prop} {w : World} {x : Ex} {cs : List Value} (h : exS S w x cs) : ∃ (a0 a1 a2 a3 a4 a5 : Int) (a6 : List UInt8) (a7 a8 : Int) (A : Option Addr) (n c : Nat), cs = [.int .i64 a0, .int .i64 a1, .int .i64 a2, .int .i64 a3, .int .i64 a4, .int .i64 a5, .string ⟨a6.toArray⟩, .int .i64 a7, .int .i64 a8, .slice A n c] := by
  obtain ⟨op, num, den, mu, hu, du, name, count, mode, kids⟩ := x
  unfold exS at h
  obtain ⟨A, c, ks, rfl, _⟩ := h
  exact ⟨_, _, _, _, _, _, _, _, _, _, _, _, rfl⟩
/-- The twenty-one cells of a definition. -/
def dfS (S : Nat → Prop) (w : World) (d : Df) (cs : List Value) : Prop :=
  ∃ A c bs, exS S w d.body bs ∧ rowsS S w 3 A (d.ents.map entCells) ∧ cs = d.head A c ++ bs ++ d.tail
theorem dfS.of {lo : Nat} {w : World} {S : Nat → Prop} {d : Df} {cs : List Value} (h : dfAt lo w d cs) (hS : ∀ g, lo ≤ g → g < w.heap.size → S g) : dfS S w d cs := by
  obtain ⟨A, c, bs, h1, h2, h3⟩ := h
  exact ⟨A, c, bs, exS.of hS _ _ h1, rowsS.of h2 (fun r hr => by obtain ⟨e, _, rfl⟩ := List.mem_map.1 hr; simp [entCells]) hS, h3⟩
theorem dfS.keep {S S' : Nat → Prop} {w w' : World} {d : Df} {cs : List Value} (h : dfS S w d cs) (hs : w.heap.size ≤ w'.heap.size) (hb : ∀ g, S g → g < w.heap.size → S' g ∧ w'.heap[g]? = w.heap[g]?) : dfS S' w' d cs := by
  obtain ⟨A, c, bs, h1, h2, h3⟩ := h
  exact ⟨A, c, bs, exS.keep hs hb _ _ h1, h2.keep hs hb, h3⟩
theorem dfS.len {S : Nat → Prop} {w : World} {d : Df} {cs : List Value} (h : dfS S w d cs) : cs.length = 21 := by
  obtain ⟨A, c, bs, h1, _, rfl⟩ := h
  obtain ⟨_, _, _, _, _, _, _, _, _, _, _, _, rfl⟩ := h1.cells
  simp [Df.head, Df.tail]
theorem dfS.cells {S : Nat → Prop} {w : World} {d : Df} {cs : List Value} (h : dfS S w d cs) : ∃ (A : Option Addr) (c : Nat) (a0 a1 a2 a3 a4 a5 : Int) (a6 : List UInt8) (a7 a8 : Int) (B : Option Addr) (kn kc : Nat), cs = [.int .i64 d.kind, .string ⟨d.name.toArray⟩, .bool d.tb, .int .i64 d.tm, .int .i64 d.th, .int .i64 d.td, .int .i64 d.frm, .slice A d.ents.length c, .int .i64 a0, .int .i64 a1, .int .i64 a2, .int .i64 a3, .int .i64 a4, .int .i64 a5, .string ⟨a6.toArray⟩, .int .i64 a7, .int .i64 a8, .slice B kn kc, .int .i64 d.mode, .int .i64 d.num, .int .i64 d.den] := by
  obtain ⟨A, c, bs, h1, _, rfl⟩ := h
  obtain ⟨_, _, _, _, _, _, _, _, _, _, _, _, rfl⟩ := h1.cells
  exact ⟨_, _, _, _, _, _, _, _, _, _, _, _, _, _, rfl⟩
/-- Rows that hold definitions. -/
def RowsOk (Pd : Df → Prop) (S : Nat → Prop) (w : World) (rs : List (List Value)) : Prop := ∀ r ∈ rs, ∃ d, Pd d ∧ dfS S w d r
theorem RowsOk.keep {Pd : Df → Prop} {S S' : Nat → Prop} {w w' : World} {rs : List (List Value)} (h : RowsOk Pd S w rs) (hs : w.heap.size ≤ w'.heap.size) (hb : ∀ g, S g → g < w.heap.size → S' g ∧ w'.heap[g]? = w.heap[g]?) : RowsOk Pd S' w' rs := fun r hr => by
  obtain ⟨d, h1, h2⟩ := h r hr
  exact ⟨d, h1, h2.keep hs hb⟩
theorem RowsOk.append {Pd : Df → Prop} {S : Nat → Prop} {w : World} {rs qs : List (List Value)} (h : RowsOk Pd S w rs) (k : RowsOk Pd S w qs) : RowsOk Pd S w (rs ++ qs) := fun r hr => by
  rcases List.mem_append.1 hr with hr | hr
  · exact h r hr
  · exact k r hr
theorem RowsOk.len {Pd : Df → Prop} {S : Nat → Prop} {w : World} {rs : List (List Value)} (h : RowsOk Pd S w rs) : ∀ r ∈ rs, r.length = 21 := fun r hr => by
  obtain ⟨d, _, h2⟩ := h r hr
  exact h2.len
theorem flat_len {rs : List (List Value)} {n : Nat} (h : ∀ r ∈ rs, r.length = n) : rs.flatten.length = rs.length * n := by
  induction rs with
  | nil => simp
  | cons r rs ih => rw [List.flatten_cons, List.length_append, ih (fun r hr => h r (by simp [hr])), h r (by simp), List.length_cons, Nat.succ_mul]; omega
end Go.Proofs.YtpdbkbadjgellaaGreatDoor

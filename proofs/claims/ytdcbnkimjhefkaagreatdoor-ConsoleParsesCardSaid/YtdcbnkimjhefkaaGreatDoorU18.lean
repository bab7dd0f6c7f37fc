/-
 Commands are compared.
 write: its contract.
 Format: its contract.
 The reference of the console: word, fits, get.
 The reference's fact, but for agreements.
 The reference's fact: a letter's item.
 The reference's fact: the loop over the fields; the whole, but for agreements.
-/
import Derived.Test.YtdcbnkimjhefkaaGreatDoorU17
import Derived.DeepKeys
import Derived.Test.YtdcbnkimjhefkaaGreatDoorU15
namespace Go.Proofs.YtdcbnkimjhefkaaGreatDoor
open Go.RowKit
set_option maxRecDepth 100000
def inR (n : Int) : Prop := -9223372036854775808 ≤ n ∧ n ≤ 9223372036854775807
structure Cmd.Wf (c : Cmd) : Prop where
 kind : inR c.kind
 emp : inR c.emp
 fk : inR c.fk
 fr : inR c.fr
 val : inR c.val
 ext : inR c.ext
 rnk : inR c.rnk
 per : inR c.per
 torn : inR c.torn
 stop : inR c.stop
 wh : c.wh < 18446744073709551616
 nm : c.nm.length ≤ 4294967295
 txt : c.txt.length ≤ 4294967200
theorem Cmd.Wf.num {c : Cmd} (h : c.Wf) (a : Nat) : inR (numP a c) := by
 unfold numP
 repeat' split
 ·exact h.emp
 ·exact h.fr
 ·exact h.val
 ·exact h.ext
 ·exact h.rnk
 ·exact h.per
 ·exact h.torn
 ·exact h.stop
theorem Cmd.Wf.ok {c : Cmd} (h : c.Wf) : CmdOk c := ⟨h.num, h.wh, h.nm, h.txt⟩
def Cmd.lits (c : Cmd) : List Lit := [.int .i64 c.kind, .int .i64 c.emp, .int .i64 c.fk, .int .i64 c.fr, .string c.nm, .int .i64 c.val, .int .i64 c.ext, .int .i64 c.rnk, .string c.txt, .int .i64 c.per, .int .u64 c.wh, .int .i64 c.torn, .int .i64 c.stop]
theorem wf_int (n : Int) (h : -9223372036854775808 ≤ n ∧ n ≤ 9223372036854775807) : (Lit.int .i64 n).wf = true := by
 simp [Lit.wf, IntKind.min, IntKind.max, IntKind.signed, IntKind.bits]
 omega
theorem wf_u64 (n : Nat) (h : n < 18446744073709551616) : (Lit.int .u64 (n : Int)).wf = true := by
 simp [Lit.wf, IntKind.min, IntKind.max, IntKind.signed, IntKind.bits]
 omega
theorem sz_str (l : List UInt8) (h : l.length ≤ 4294967295) : (⟨⟨l⟩⟩ : ByteArray).size ≤ maxLen := by unfold maxLen; show l.length ≤ _; omega
theorem cz_int : Tryz.prog.cellsOf 3 = 1 := by kernel_rfl
theorem cz_u64 : Tryz.prog.cellsOf 62 = 1 := by kernel_rfl
theorem cz_str : Tryz.prog.cellsOf 9 = 1 := by kernel_rfl
theorem cz_fact : Tryz.prog.cellsOf 61 = 8 := by kernel_rfl
theorem cz_cmd : Tryz.prog.cellsOf 64 = 13 := by kernel_rfl
theorem cmd_lits (c : Cmd) (h : c.Wf) : Tryz.prog.keyLits 4 64 c.cells = some c.lits := by
 simp [Program.keyLits, Tryz.underlying64, Tryz.underlying61, Tryz.underlying3, Tryz.underlying62, Tryz.underlying9, cz_fact, cz_int, cz_str, cz_u64, cz_cmd, Cmd.cells, Cmd.lits, wf_int _ h.kind, wf_int _ h.fk, wf_int _ h.emp, wf_int _ h.fr, wf_int _ h.val, wf_int _ h.ext, wf_int _ h.rnk, wf_int _ h.per, wf_int _ h.torn, wf_int _ h.stop, wf_u64 _ h.wh, sz_str _ h.nm, sz_str c.txt (by have := h.txt; omega)]
 rw [if_pos (by decide)]
 rfl
theorem lits_inj {x y : Cmd} : x.lits = y.lits ↔ x = y := by
 constructor
 ·intro h
  cases x; cases y
  simp only [Cmd.lits, List.cons.injEq, Lit.int.injEq, Lit.string.injEq, true_and, and_true, Int.natCast_inj] at h
  simp only [Cmd.mk.injEq]
  exact h
 ·intro h
  rw [h]
theorem run_cmd_eq (x y : Cmd) (hx : x.Wf) (hy : y.Wf) (w : World) : (Op.equal 64 (.agg ⟨x.cells⟩) (.agg ⟨y.cells⟩)).run Tryz.prog w = .ok (decide (x = y)) w := by
 obtain ⟨r, hr, hiff⟩ := run_equalIn_deep 9997 3 64 (by kernel_rfl) w 4 4 (.agg ⟨x.cells⟩) (.agg ⟨y.cells⟩) x.lits y.lits (by kernel_rfl) (by kernel_rfl) (cmd_lits x hx) (cmd_lits y hy)
 have e : r = decide (x = y) := by
  rw [lits_inj] at hiff
  by_cases hxy : x = y
  ·rw [decide_eq_true hxy]; exact hiff.2 hxy
  ·rw [decide_eq_false hxy]; cases r with
   | false => rfl
   | true => exact absurd (hiff.1 rfl) hxy
 rw [← e]
 exact hr
end Go.Proofs.YtdcbnkimjhefkaaGreatDoor

namespace Go.Proofs.YtdcbnkimjhefkaaGreatDoor
open Go.RowKit
set_option maxRecDepth 100000
section
variable {P : Program} {f : FuncId} {R : Ending → World → Prop}
def curAdd (n : Nat) (E : Nat → Value) (todo : List Item) : Option (ByteArray × ByteArray × Option Tmp) := match curOp n E todo with
 | some o => match o.op with
  | .binOp .add _ x y _ => match evE n E x, evE n E y with
   | .string a, .string b => some (a, b, o.dst)
   | _, _ => none
  | _ => none
 | none => none
theorem at_add {n : Nat} {todo : List Item} {E : Nat → Value} {w : World} (a b : ByteArray) (dst : Option Tmp) (hc : curAdd n E todo = some (a, b, dst)) (hs : ((a.size + b.size : Nat) : Int) ≤ IntKind.i64.max) (h : At P f R (popOp todo) (Fr n (updO E dst (.string (a ++ b)))) w) : At P f R todo (Fr n E) w := by
 unfold curAdd at hc
 split at hc
 ·rename_i o hcur
  split at hc
  ·rename_i T x y T' ho
   split at hc
   ·rename_i a' b' hx hy
    simp only [Option.some.injEq, Prod.mk.injEq] at hc
    obtain ⟨rfl, rfl, rfl⟩ := hc
    exact at_op o hcur (v := .string (a' ++ b')) (w' := w) (exec_add ho hx hy hs) h
   ·cases hc
  ·cases hc
 ·cases hc
end
theorem exec_eq {P : Program} {o : Oper} {ρ : Operand → Value} {w : World} {T T' : TypeId} {x y : Operand} {a b : Array Value} {r : Bool} (hop : o.op = .binOp .eql T x y T') (hx : ρ x = .agg a) (hy : ρ y = .agg b) (hg : (eqGuard .eql T x y (.agg a) (.agg b)).run P w = .ok () w)
  (he : (Op.equal T (.agg a) (.agg b)).run P w = .ok r w) : (execOp ρ o).run P w = .ok (.value (.bool r)) w := by
 unfold execOp
 simp only [hop, hx, hy]
 unfold binOp
 simp [Sem.run_bind, hg, he, Result.andThen]
def Cmd.of (F : Form) : Cmd := ⟨F.kind, 0, F.fact, 0, [], 0, 0, 0, [], 0, 0, 0, 0⟩
def linesP (c : Cmd) (F : Form) : List UInt8 := F.word ++ itemsP c F.letters ++ [10] ++ (if F.fact = 5 then c.txt ++ [101, 110, 100, 10] else [])
def leftP (c : Cmd) (F : Form) : Cmd := if F.fact = 5 then { restP c F.letters with txt := [] } else restP c F.letters
def okF (c : Cmd) (F : Form) : Bool := (okL c F.letters && (F.fact != 5 || linedP c.txt)) && decide (leftP c F = Cmd.of F)
theorem zero_in : inR 0 := ⟨by decide, by decide⟩
variable {w0 : World} {B b kc kf kr ki i : Nat} {bs : List UInt8} {c rest : Cmd} {F : Form} {R : Ending → World → Prop}
def textC (c : Cmd) : List UInt8 := match formOf c with
 | some F => linesP c F
 | none => []
def okC (c : Cmd) : Bool := match formOf c with
 | some F => okF c F
 | none => false
end Go.Proofs.YtdcbnkimjhefkaaGreatDoor

namespace Go.Proofs.YtdcbnkimjhefkaaGreatDoor
open Go.RowKit
set_option maxRecDepth 100000
section
variable {P : Program} {f : FuncId} {R : Ending → World → Prop}
def curIA (n : Nat) (E : Nat → Value) (todo : List Item) : Option (TypeId × Value × Value × Option Tmp) := match curOp n E todo with
 | some o => match o.op with
  | .indexAddr t x i => some (t, evE n E x, evE n E i, o.dst)
  | _ => none
 | none => none
theorem exec_index {P : Program} {o : Oper} {ρ : Operand → Value} {w : World} (T : TypeId) (x i : Operand) (hop : o.op = .indexAddr T x i) {g off len cap k sz : Nat} {e : TypeId} (hx : ρ x = .slice (some ⟨g, off, none⟩) len cap) (hi : ρ i = .int .i64 k) (hk : k < len)
  (hT : P.underlying T = some (.slice e)) (hs : (P.info? e).map (·.size) = some sz) : (execOp ρ o).run P w = .ok (.value (.pointer (some ⟨g, off + k * sz, none⟩))) w := by
 unfold execOp
 cases hq : P.info? e with
 | none => rw [hq] at hs; cases hs
 | some inf =>
  have hsz : inf.size = sz := by rw [hq] at hs; exact Option.some.inj hs
  simp [hop, hx, hi, Instr.indexAt, asIntOf, run_underlying hT, hk, sizeOf, typeInfo, hq, hsz, Addr.add]
  try (intro h0; simp [h0])
theorem at_elem {n : Nat} {todo : List Item} {E : Nat → Value} {w : World} {g off len cap k sz : Nat} {T e : TypeId} (dst : Option Tmp) (hc : curIA n E todo = some (T, .slice (some ⟨g, off, none⟩) len cap, .int .i64 k, dst)) (hk : k < len)
  (hT : P.underlying T = some (.slice e)) (hs : (P.info? e).map (·.size) = some sz) (h : At P f R (popOp todo) (Fr n (updO E dst (.pointer (some ⟨g, off + k * sz, none⟩)))) w) : At P f R todo (Fr n E) w := by
 unfold curIA at hc
 split at hc
 ·rename_i o hcur
  split at hc
  ·rename_i t x i ho
   simp only [Option.some.injEq, Prod.mk.injEq] at hc
   obtain ⟨rfl, hx, hi, rfl⟩ := hc
   exact at_op o hcur (v := .pointer (some ⟨g, off + k * sz, none⟩)) (w' := w) (exec_index t x i ho hx hi hk hT hs) h
  ·cases hc
 ·cases hc
end
def CmdsAt (w : World) (lim : Nat) (v : Value) (l : List Cmd) : Prop :=
 ∃ a cap, v = .slice a l.length cap ∧ (l ≠ [] → ∃ g off, a = some ⟨g, off, none⟩ ∧ g < lim ∧ ∀ (i : Nat) (h : i < l.length), w.rangeAt g (off + i * 13) (l[i]).cells)
def fmtS : List UInt8 → List Cmd → Option (List UInt8)
 | acc, [] => some acc
 | acc, c :: l => if okC c = true ∧ (acc ++ textC c).length ≤ 65536 then fmtS (acc ++ textC c) l else none
def fmtV : Option (List UInt8) → Value
 | some t => .tuple #[.string ⟨⟨t⟩⟩, .int .i64 0]
 | none => .tuple #[.string ⟨⟨[]⟩⟩, .int .i64 1]
end Go.Proofs.YtdcbnkimjhefkaaGreatDoor

namespace Go.Proofs.YtdcbnkimjhefkaaGreatDoor
open Go.RowKit
def wordP (k : Int) : List UInt8 × List UInt8 :=
 if k = 1 then ([104, 105, 114, 101], [101, 100]) else if k = 2 then ([108, 101, 97, 118, 101], [101, 100]) else if k = 3 then ([105, 110, 112, 117, 116], [101, 110, 100, 118]) else if k = 4 then ([104, 111, 117, 114, 115], [101, 110, 100, 118])
 else if k = 6 then ([114, 117, 108, 101, 115], [100, 118]) else if k = 7 then ([100, 101, 112, 101, 110, 100, 101, 110, 116, 115], [101, 100, 118]) else if k = 8 then ([111, 114, 100, 101, 114], [101, 110, 100, 118, 120, 114]) else if k = 9 then ([100, 101, 100, 117, 99, 116, 105, 111, 110], [101, 110, 100, 118, 120, 114]) else ([], [])
set_option maxHeartbeats 2000000 in
theorem rword46_any (k : Int) (w : World) : Calls Tryz.prog 69 #[.int .i64 k] w fun e w' => e = .returned (.tuple #[.string ⟨(wordP k).1.toArray⟩, .string ⟨(wordP k).2.toArray⟩]) ∧ w' = w := by
 by_cases h1 : k = 1
 ·subst h1; go_enter Tryz.func69, Tryz.ntmps69; go_wp2_with fail; go_ret2; exact ⟨rfl, rfl⟩
 by_cases h2 : k = 2
 ·subst h2; go_enter Tryz.func69, Tryz.ntmps69; go_wp2_with fail; go_ret2; exact ⟨rfl, rfl⟩
 by_cases h3 : k = 3
 ·subst h3; go_enter Tryz.func69, Tryz.ntmps69; go_wp2_with fail; go_ret2; exact ⟨rfl, rfl⟩
 by_cases h4 : k = 4
 ·subst h4; go_enter Tryz.func69, Tryz.ntmps69; go_wp2_with fail; go_ret2; exact ⟨rfl, rfl⟩
 by_cases h6 : k = 6
 ·subst h6; go_enter Tryz.func69, Tryz.ntmps69; go_wp2_with fail; go_ret2; exact ⟨rfl, rfl⟩
 by_cases h7 : k = 7
 ·subst h7; go_enter Tryz.func69, Tryz.ntmps69; go_wp2_with fail; go_ret2; exact ⟨rfl, rfl⟩
 by_cases h8 : k = 8
 ·subst h8; go_enter Tryz.func69, Tryz.ntmps69; go_wp2_with fail; go_ret2; exact ⟨rfl, rfl⟩
 by_cases h9 : k = 9
 ·subst h9; go_enter Tryz.func69, Tryz.ntmps69; go_wp2_with fail; go_ret2; exact ⟨rfl, rfl⟩
 have e : wordP k = ([], []) := by simp [wordP, h1, h2, h3, h4, h6, h7, h8, h9]
 rw [e]
 have g1 : (k == 1) = false := by simpa using h1
 have g2 : (k == 2) = false := by simpa using h2
 have g3 : (k == 3) = false := by simpa using h3
 have g4 : (k == 4) = false := by simpa using h4
 have g6 : (k == 6) = false := by simpa using h6
 have g7 : (k == 7) = false := by simpa using h7
 have g8 : (k == 8) = false := by simpa using h8
 have g9 : (k == 9) = false := by simpa using h9
 go_enter Tryz.func69, Tryz.ntmps69
 go_wp2_with fail
 go_ret2
 exact ⟨rfl, rfl⟩
noncomputable def codeFi : Code := Tryz.f56.body.getD .skip
noncomputable def tFi0 : List Item := advG [.code codeFi]
set_option maxRecDepth 100000 in
theorem rfits_any (n : Int) (w : World) : Calls Tryz.prog 56 [.int .i64 n].toArray w fun e w' => e = .returned (.bool (fitsP n)) ∧ Below w.heap.size w w' := by
 refine calls_at (args := [.int .i64 n]) (fn := Tryz.f56) (c := codeFi) (n := 9) (by kernel_rfl) (by kernel_rfl) (by kernel_rfl) (by kernel_rfl) ?_
 refine at_run (cntG 90 [.code codeFi]) [.code codeFi] w.heap.size [] [] tFi0 [(0, .int .i64 n)] w.heap.size [] (lies_nil w) (by kernel_rfl) fun w1 E1 hL1 hK1 => ?_
 have B1 : Below w.heap.size w w1 := hK1.below (Nat.le_refl _) (fun k hk => by cases hk)
 refine at_ghost ((curReg tFi0).getD #[]) ⟨[], [], []⟩ [(2, .bool (fitsP n))] (by kernel_rfl) (by kernel_rfl) (by kernel_rfl) (fun e he => (by cases he)) (fun sp hsp => (by cases hsp)) (fun X => by kernel_rfl) (by kernel_rfl) fun w2 E2 B2 => ?_
 exact at_endT (fn := Tryz.f56) 60 (.bool (fitsP n)) (by kernel_rfl) (by kernel_rfl) fun w3 B3 => ⟨rfl, B1.trans ((B2.mono B1.size).trans (B3.mono (Nat.le_trans B1.size B2.size)))⟩
def Cmd.fact (c : Cmd) : List Value := [.int .i64 c.emp, .int .i64 c.fk, .int .i64 c.fr, .string ⟨⟨c.nm⟩⟩, .int .i64 c.val, .int .i64 c.ext, .int .i64 c.rnk, .string ⟨⟨c.txt⟩⟩]
def upLetter (a : Nat) : Nat := if a = 101 then 69 else if a = 100 then 68 else if a = 118 then 86 else if a = 120 then 88 else 82
section
variable {P : Program} {f : FuncId} {R : Ending → World → Prop}
theorem at_endM {n : Nat} {fn : Func} {E : Nat → Value} {w : World} {todo : List Item} (m : Nat) (H : List (Tmp × Nat)) (mem mem' : List Ent) (z' : Nat) (v : Value) (hf : P.funcs[f]? = some fn) (hL : Lies (mem.map (·.id)) w.heap.size w ⟨w.heap.size, mem, (0, 0), []⟩)
  (he : (fun a : St => (isRet a.todo, a.ms.mem, a.ms.sz, a.ms.eqs.map Prod.fst, (lrun P (resultsE fn n a.env) ⟨0, [], (0, 0), []⟩).map (fun r => (r.1, r.2.eqs)))) (advC P H n m ⟨todo, E, ⟨w.heap.size, mem, (0, 0), []⟩, []⟩) = (true, mem', z', (advC P H n m ⟨todo, E, ⟨w.heap.size, mem, (0, 0), []⟩, []⟩).ms.eqs.map Prod.snd, some (v, [])))
  (hk : ∀ w', Lies (mem.map (·.id)) w.heap.size w' ⟨z', mem', (0, 0), []⟩ → Kept (mem.map (·.id)) w.heap.size w w' → R (.returned v) w') : At P f R todo (Fr n E) w := by
 simp only [Prod.mk.injEq] at he
 obtain ⟨h1, h2, h3, h4, h5⟩ := he
 refine advC_sound (H := H) m ⟨todo, E, ⟨w.heap.size, mem, (0, 0), []⟩, []⟩ w hL (fun p hp => ?_) fun w' hL' hK => ?_
 ·obtain ⟨i, hi⟩ := List.mem_iff_getElem?.1 hp
  have g1 : ((advC P H n m ⟨todo, E, ⟨w.heap.size, mem, (0, 0), []⟩, []⟩).ms.eqs.map Prod.fst)[i]? = some p.1 := by rw [List.getElem?_map, hi]; rfl
  have g2 : ((advC P H n m ⟨todo, E, ⟨w.heap.size, mem, (0, 0), []⟩, []⟩).ms.eqs.map Prod.snd)[i]? = some p.2 := by rw [List.getElem?_map, hi]; rfl
  rw [h4, g2] at g1
  exact (Option.some.inj g1).symm
 ·have h6 : (lrun P (resultsE fn n (advC P H n m ⟨todo, E, ⟨w.heap.size, mem, (0, 0), []⟩, []⟩).env) ⟨0, [], (0, 0), []⟩).map (·.1) = some v := by
   cases hl : lrun P (resultsE fn n (advC P H n m ⟨todo, E, ⟨w.heap.size, mem, (0, 0), []⟩, []⟩).env) ⟨0, [], (0, 0), []⟩ with
   | none => rw [hl] at h5; cases h5
   | some r => rw [hl] at h5; simp at h5; simp [h5.1]
  refine at_ret (fn := fn) h1 hf ⟨0, [], (0, 0), []⟩ (fun e he => (by cases he)) v h6 ?_ (hk w' (lies_lit hL' z' mem' h3 h2) hK)
  cases hl : lrun P (resultsE fn n (advC P H n m ⟨todo, E, ⟨w.heap.size, mem, (0, 0), []⟩, []⟩).env) ⟨0, [], (0, 0), []⟩ with
  | none => rfl
  | some r =>
   rw [hl] at h5
   simp at h5
   simp [h5.2]
end
noncomputable def codeGe : Code := Tryz.f108.body.getD .skip
set_option maxRecDepth 100000 in
theorem rget_any (c : Cmd) (a : Nat) (ha : a = 101 ∨ a = 100 ∨ a = 118 ∨ a = 120 ∨ a = 114) (w : World) : Calls Tryz.prog 108 [.agg ⟨c.fact⟩, .int .u8 (a : Int)].toArray w fun e w' => e = .returned (.int .i64 (numP (upLetter a) c)) ∧ Below w.heap.size w w' := by
 refine calls_at (args := [.agg ⟨c.fact⟩, .int .u8 (a : Int)]) (fn := Tryz.f108) (c := codeGe) (n := 24) (by kernel_rfl) (by kernel_rfl) (by kernel_rfl) (by kernel_rfl) ?_
 rcases ha with rfl | rfl | rfl | rfl | rfl
 ·exact at_endM (fn := Tryz.f108) 200 [] [] [⟨w.heap.size, 0, c.fact, 61, true⟩] (w.heap.size + 1) (.int .i64 (numP (upLetter 101) c)) (by kernel_rfl) (lies_nil w) (by kernel_rfl) fun w' _ hK => ⟨rfl, hK.below (Nat.le_refl _) (fun k hk => by cases hk)⟩
 ·exact at_endM (fn := Tryz.f108) 200 [] [] [⟨w.heap.size, 0, c.fact, 61, true⟩] (w.heap.size + 1) (.int .i64 (numP (upLetter 100) c)) (by kernel_rfl) (lies_nil w) (by kernel_rfl) fun w' _ hK => ⟨rfl, hK.below (Nat.le_refl _) (fun k hk => by cases hk)⟩
 ·exact at_endM (fn := Tryz.f108) 200 [] [] [⟨w.heap.size, 0, c.fact, 61, true⟩] (w.heap.size + 1) (.int .i64 (numP (upLetter 118) c)) (by kernel_rfl) (lies_nil w) (by kernel_rfl) fun w' _ hK => ⟨rfl, hK.below (Nat.le_refl _) (fun k hk => by cases hk)⟩
 ·exact at_endM (fn := Tryz.f108) 200 [] [] [⟨w.heap.size, 0, c.fact, 61, true⟩] (w.heap.size + 1) (.int .i64 (numP (upLetter 120) c)) (by kernel_rfl) (lies_nil w) (by kernel_rfl) fun w' _ hK => ⟨rfl, hK.below (Nat.le_refl _) (fun k hk => by cases hk)⟩
 ·exact at_endM (fn := Tryz.f108) 200 [] [] [⟨w.heap.size, 0, c.fact, 61, true⟩] (w.heap.size + 1) (.int .i64 (numP (upLetter 114) c)) (by kernel_rfl) (lies_nil w) (by kernel_rfl) fun w' _ hK => ⟨rfl, hK.below (Nat.le_refl _) (fun k hk => by cases hk)⟩
def setN (a : Nat) (v : Int) (c : Cmd) : Cmd := if a = 69 then { c with emp := v } else if a = 68 then { c with fr := v } else if a = 86 then { c with val := v } else if a = 88 then { c with ext := v } else { c with rnk := v }
noncomputable def codeSe : Code := Tryz.f72.body.getD .skip
set_option maxRecDepth 100000 in
theorem rset_any (k : Nat) (x : Cmd) (a : Nat) (v : Int) (ha : a = 101 ∨ a = 100 ∨ a = 118 ∨ a = 120 ∨ a = 114) (w : World) (hx : w.heap[k]? = some (.cells x.fact.toArray 61 (0, 0))) :
  Calls Tryz.prog 72 [pt k, .int .u8 (a : Int), .int .i64 v].toArray w fun e w' => e = .returned (.tuple #[]) ∧ w'.heap[k]? = some (.cells (setN (upLetter a) v x).fact.toArray 61 (0, 0)) ∧ Kept [k] w.heap.size w w' := by
 refine calls_at (args := [pt k, .int .u8 (a : Int), .int .i64 v]) (fn := Tryz.f72) (c := codeSe) (n := 35) (by kernel_rfl) (by kernel_rfl) (by kernel_rfl) (by kernel_rfl) ?_
 rcases ha with rfl | rfl | rfl | rfl | rfl
 ·exact at_endM (fn := Tryz.f72) 200 [] [⟨k, 0, x.fact, 61, true⟩] [⟨k, 0, (setN (upLetter 101) v x).fact, 61, true⟩] w.heap.size (.tuple #[]) (by kernel_rfl) (lies_one hx) (by kernel_rfl) fun w' hL hK => ⟨rfl, own_good (hL.sat.good _ (List.mem_singleton.2 rfl)), hK⟩
 ·exact at_endM (fn := Tryz.f72) 200 [] [⟨k, 0, x.fact, 61, true⟩] [⟨k, 0, (setN (upLetter 100) v x).fact, 61, true⟩] w.heap.size (.tuple #[]) (by kernel_rfl) (lies_one hx) (by kernel_rfl) fun w' hL hK => ⟨rfl, own_good (hL.sat.good _ (List.mem_singleton.2 rfl)), hK⟩
 ·exact at_endM (fn := Tryz.f72) 200 [] [⟨k, 0, x.fact, 61, true⟩] [⟨k, 0, (setN (upLetter 118) v x).fact, 61, true⟩] w.heap.size (.tuple #[]) (by kernel_rfl) (lies_one hx) (by kernel_rfl) fun w' hL hK => ⟨rfl, own_good (hL.sat.good _ (List.mem_singleton.2 rfl)), hK⟩
 ·exact at_endM (fn := Tryz.f72) 200 [] [⟨k, 0, x.fact, 61, true⟩] [⟨k, 0, (setN (upLetter 120) v x).fact, 61, true⟩] w.heap.size (.tuple #[]) (by kernel_rfl) (lies_one hx) (by kernel_rfl) fun w' hL hK => ⟨rfl, own_good (hL.sat.good _ (List.mem_singleton.2 rfl)), hK⟩
 ·exact at_endM (fn := Tryz.f72) 200 [] [⟨k, 0, x.fact, 61, true⟩] [⟨k, 0, (setN (upLetter 114) v x).fact, 61, true⟩] w.heap.size (.tuple #[]) (by kernel_rfl) (lies_one hx) (by kernel_rfl) fun w' hL hK => ⟨rfl, own_good (hL.sat.good _ (List.mem_singleton.2 rfl)), hK⟩
end Go.Proofs.YtdcbnkimjhefkaaGreatDoor

namespace Go.Proofs.YtdcbnkimjhefkaaGreatDoor
open Go.RowKit
set_option maxRecDepth 100000
def isAdd : List Item → Bool
 | .inRegion ops (i :: _) :: _ => match ops[i]? with
  | some o => match o.op with
   | .binOp .add _ _ _ _ => true
   | _ => false
  | none => false
 | _ => false
def cntP : Nat → List Item → Nat
 | 0, _ => 0
 | m + 1, t => match isAdd t with
  | true => 0
  | false => match stepT t with
   | some t' => cntP m t' + 1
   | none => 0
noncomputable def advP (t : List Item) : List Item := advT (cntP 90 t) t
noncomputable def codeFa : Code := Tryz.f54.body.getD .skip
noncomputable def tA0 : List Item := advT 60 [.code codeFa]
noncomputable def tA1 : List Item := advT 60 (elseT tA0)
noncomputable def tA2 : List Item := advT 60 (popOp tA1)
noncomputable def tA3 : List Item := advT 60 (elseT tA2)
noncomputable def tA4 : List Item := advT 60 (bodyT tA3)
noncomputable def tA5 : List Item := advT 60 (thenT tA4)
noncomputable def tA6 : List Item := advT 60 (popOp tA5)
noncomputable def tA7 : List Item := advT 60 (thenT tA6)
noncomputable def tA8 : List Item := advT 60 (popOp tA7)
noncomputable def tA9 : List Item := advP (elseT tA8)
noncomputable def tAd0 : List Item := advT 60 (elseT tA6)
noncomputable def tAd1 : List Item := advT 60 (tailT tAd0)
noncomputable def tAd2 : List Item := advT 60 (popOp tAd1)
noncomputable def tAd3 : List Item := advT 60 (elseT tAd2)
noncomputable def tAd4 : List Item := advT 60 (popOp tAd3)
noncomputable def tAd5 : List Item := advT 60 (popOp tAd4)
noncomputable def tAx : List Item := advT 60 (elseT tA4)
theorem idx_str (w : World) (s : List UInt8) (i : Nat) (h : i < s.length) : (Instr.index 9 (.string ⟨⟨s⟩⟩) (.int .i64 (i : Int))).run Tryz.prog w = .ok (.int .u8 ((s[i]).toNat : Int)) w := by
 have hs : (⟨⟨s⟩⟩ : ByteArray).size = s.length := rfl
 rw [run_index_string w _ _ _ _ Tryz.underlying9, dif_pos ⟨by omega, by rw [hs]; omega⟩]
 simp only [Int.toNat_natCast]
 rfl
def upL (a : UInt8) : Nat := if a.toNat = 110 then 78 else upLetter a.toNat
def copyN (a : Nat) (c x : Cmd) : Cmd := if a = 78 then { x with nm := c.nm } else setN a (numP a c) x
def itemsR (c : Cmd) (l : List UInt8) : List UInt8 := l.flatMap fun a => 32 :: itemP (upL a) c
def copyR (c : Cmd) (l : List UInt8) : Cmd := l.foldl (fun x a => copyN (upL a) c x) ⟨0, 0, c.fk, 0, [], 0, 0, 0, [], 0, 0, 0, 0⟩
def okR (c : Cmd) (l : List UInt8) : Bool := l.all fun a => okP (upL a) c
def Cmd.factOnly (c : Cmd) : Cmd := { c with kind := 0, per := 0, wh := 0, torn := 0, stop := 0 }
def fieldsOk (l : List UInt8) : Bool := l.all (fun x => x.toNat == 110 || x.toNat == 101 || x.toNat == 100 || x.toNat == 118 || x.toNat == 120 || x.toNat == 114) && Nat.ble l.length 6
structure FS (w0 : World) (k1 k9 : Nat) (c x : Cmd) (w : World) : Prop where
 bel : Below w0.heap.size w0 w
 h1 : w.heap[k1]? = some (.cells c.fact.toArray 61 (0, 0))
 h9 : w.heap[k9]? = some (.cells x.fact.toArray 61 (0, 0))
 l1 : w0.heap.size ≤ k1
 l9 : k1 < k9
theorem FS.kept {w0 w w' : World} {k1 k9 : Nat} {c x : Cmd} (h : FS w0 k1 k9 c x w) (hb : Below w.heap.size w w') : FS w0 k1 k9 c x w' :=
 ⟨h.bel.trans (hb.mono h.bel.size), (hb.block _ (Array.getElem?_eq_some_iff.1 h.h1).1).trans h.h1, (hb.block _ (Array.getElem?_eq_some_iff.1 h.h9).1).trans h.h9, h.l1, h.l9⟩
theorem FS.set {w0 w w' : World} {k1 k9 : Nat} {c x x' : Cmd} (h : FS w0 k1 k9 c x w) (hK : Kept [k9] w.heap.size w w') (hx : w'.heap[k9]? = some (.cells x'.fact.toArray 61 (0, 0))) : FS w0 k1 k9 c x' w' := by
 have := h.l1
 have := h.l9
 refine ⟨h.bel.trans (hK.below h.bel.size (fun k hk => by rw [List.mem_singleton.1 hk]; omega)), (hK.block _ (Array.getElem?_eq_some_iff.1 h.h1).1 (fun hk => by have := List.mem_singleton.1 hk; omega)).trans h.h1, hx, h.l1, h.l9⟩
theorem FS.ran1 {w0 w w' : World} {k1 k9 : Nat} {c x : Cmd} {z : Nat} (h : FS w0 k1 k9 c x w) (hL : Lies [k1] w.heap.size w' ⟨z, [⟨k1, 0, c.fact, 61, true⟩], (0, 0), []⟩) (hK : Kept [k1] w.heap.size w w') : FS w0 k1 k9 c x w' := by
 have := h.l1
 have := h.l9
 refine ⟨h.bel.trans (hK.below h.bel.size (fun k hk => by rw [List.mem_singleton.1 hk]; omega)), own_good (hL.sat.good _ (List.mem_singleton.2 rfl)), (hK.block _ (Array.getElem?_eq_some_iff.1 h.h9).1 (fun hk => by have := List.mem_singleton.1 hk; omega)).trans h.h9, h.l1, h.l9⟩
theorem fact_litsC (c : Cmd) (h : c.Wf) : Tryz.prog.keyLits 3 61 c.fact = some ((c.lits.drop 1).take 8) := by
 simp [Program.keyLits, Tryz.underlying61, Tryz.underlying3, Tryz.underlying9, cz_fact, cz_int, cz_str, Cmd.fact, Cmd.lits, wf_int _ h.fk, wf_int _ h.emp, wf_int _ h.fr, wf_int _ h.val, wf_int _ h.ext, wf_int _ h.rnk, sz_str _ h.nm, sz_str c.txt (by have := h.txt; omega)]
theorem run_fact_eq (x y : Cmd) (hx : x.Wf) (hy : y.Wf) (w : World) : (Op.equal 61 (.agg ⟨x.fact⟩) (.agg ⟨y.fact⟩)).run Tryz.prog w = .ok (decide (x.factOnly = y.factOnly)) w := by
 obtain ⟨r, hr, hiff⟩ := run_equalIn_deep 9998 2 61 (by kernel_rfl) w 3 3 (.agg ⟨x.fact⟩) (.agg ⟨y.fact⟩) _ _ (by kernel_rfl) (by kernel_rfl) (fact_litsC x hx) (fact_litsC y hy)
 have e : r = decide (x.factOnly = y.factOnly) := by
  have hiff2 : (x.lits.drop 1).take 8 = (y.lits.drop 1).take 8 ↔ x.factOnly = y.factOnly := by
   simp [Cmd.lits, Cmd.factOnly]
  rw [hiff2] at hiff
  by_cases hxy : x.factOnly = y.factOnly
  ·rw [decide_eq_true hxy]; exact hiff.2 hxy
  ·rw [decide_eq_false hxy]; cases r with
   | false => rfl
   | true => exact absurd (hiff.1 rfl) hxy
 rw [← e]
 exact hr
end Go.Proofs.YtdcbnkimjhefkaaGreatDoor

namespace Go.Proofs.YtdcbnkimjhefkaaGreatDoor
open Go.RowKit
set_option maxRecDepth 100000
section
variable {P : Program} {f : FuncId} {R : Ending → World → Prop}
theorem at_addL {n : Nat} {todo : List Item} {E : Nat → Value} {w : World} (a b : List UInt8) (dst : Option Tmp) (hc : curAdd n E todo = some (⟨⟨a⟩⟩, ⟨⟨b⟩⟩, dst)) (hs : a.length + b.length ≤ 9223372036854775807) (h : At P f R (popOp todo) (Fr n (updO E dst (.string ⟨⟨a ++ b⟩⟩))) w) : At P f R todo (Fr n E) w := by
 refine at_add ⟨⟨a⟩⟩ ⟨⟨b⟩⟩ dst hc ?_ ?_
 ·have e1 : (⟨⟨a⟩⟩ : ByteArray).size = a.length := rfl
  have e2 : (⟨⟨b⟩⟩ : ByteArray).size = b.length := rfl
  have h3 : IntKind.i64.max = 9223372036854775807 := by decide
  rw [e1, e2, h3]
  omega
 ·have e9 : (⟨⟨a⟩⟩ : ByteArray) ++ ⟨⟨b⟩⟩ = ⟨⟨a ++ b⟩⟩ := by
   apply ByteArray.ext
   simp
  rw [e9]
  exact h
end
abbrev envA (k1 k9 : Nat) (t fs : List UInt8) (i : Int) : List (Nat × Value) := [(1, pt k1), (7, .string ⟨⟨t⟩⟩), (8, .string ⟨⟨fs⟩⟩), (9, pt k9), (10, .int .i64 i)]
theorem lies_two {w : World} {k k' : Nat} {cs cs' : List Value} {ty ty' : TypeId} (h : w.heap[k]? = some (.cells cs.toArray ty (0, 0))) (h' : w.heap[k']? = some (.cells cs'.toArray ty' (0, 0))) (hne : k ≠ k') : Lies ([(⟨k, 0, cs, ty, true⟩ : Ent), ⟨k', 0, cs', ty', true⟩].map (·.id)) w.heap.size w ⟨w.heap.size, [⟨k, 0, cs, ty, true⟩, ⟨k', 0, cs', ty', true⟩], (0, 0), []⟩ :=
 lies_mk w _ (fun e he => by
  simp only [List.mem_cons, List.not_mem_nil, or_false] at he
  rcases he with rfl | rfl
  ·exact good_own h
  ·exact good_own h') (by simp; exact hne)
def badR : Ending := .returned (.tuple #[.string ⟨⟨[]⟩⟩, .bool false])
variable {w0 : World} {k1 k9 : Nat} {c x : Cmd} {t fs : List UInt8} {i : Nat} {R : Ending → World → Prop}
theorem FS.ran2 {w w' : World} {x' : Cmd} {z : Nat} (h : FS w0 k1 k9 c x w) (hL : Lies [k1, k9] w.heap.size w' ⟨z, [⟨k1, 0, c.fact, 61, true⟩, ⟨k9, 0, x'.fact, 61, true⟩], (0, 0), []⟩) (hK : Kept [k1, k9] w.heap.size w w') : FS w0 k1 k9 c x' w' := by
 have := h.l1
 have := h.l9
 exact ⟨h.bel.trans (hK.below h.bel.size (fun k hk => by simp at hk; omega)), own_good (hL.sat.good ⟨k1, 0, c.fact, 61, true⟩ (by simp)), own_good (hL.sat.good ⟨k9, 0, x'.fact, 61, true⟩ (by simp)), h.l1, h.l9⟩
theorem letterR_N {wx : World} {E : Nat → Value} (S : FS w0 k1 k9 c x wx) (hc : c.Wf) (ht : t.length ≤ 1125899906842624) (hi : i < 4294967296)
  (hbad : okP 78 c = false → ∀ w', Below w0.heap.size w0 w' → R badR w')
  (hgood : okP 78 c = true → ∀ w' E', FS w0 k1 k9 c (copyN 78 c x) w' → At Tryz.prog 54 R (againT tA3) (Fr 116 (updL E' (envA k1 k9 (t ++ 32 :: itemP 78 c) fs ((i + 1 : Nat) : Int)))) w') :
  At Tryz.prog 54 R tA7 (Fr 116 (updL E (envA k1 k9 t fs i ++ [(82, .string ⟨⟨c.nm⟩⟩)]))) wx := by
 have hnm := hc.nm
 refine at_call 70 [.tmp 82] (some 83) [.string ⟨⟨c.nm⟩⟩] (by kernel_rfl) (by kernel_rfl) (by kernel_rfl) ((risName_any c.nm wx (by unfold maxLen; omega)).mono fun e w1 hh => ?_)
 obtain ⟨rfl, B1⟩ := hh
 refine ⟨_, rfl, ?_⟩
 have S1 := S.kept B1
 refine at_run 60 (popOp tA7) w1.heap.size [] [] tA8 (envA k1 k9 t fs i ++ [(84, .bool (!(Tk.isName c.nm)))]) w1.heap.size [] (lies_nil w1) (by kernel_rfl) fun w2 E2 hL2 hK2 => ?_
 have S2 := S1.kept (hK2.below (Nat.le_refl _) (fun k hk => by cases hk))
 cases hok : Tk.isName c.nm with
 | false =>
  refine at_cond true (by kernel_rfl) (fun _ => ?_) (fun h => nomatch h)
  refine at_endT (fn := Tryz.f54) 60 (.tuple #[.string ⟨⟨[]⟩⟩, .bool false]) (by kernel_rfl) (by kernel_rfl) fun w3 B3 => hbad (by simp [okP, hok]) w3 (S2.kept B3).bel
 | true =>
  refine at_cond false (by kernel_rfl) (fun h => nomatch h) fun _ => ?_
  refine at_run (cntP 90 (elseT tA8)) (elseT tA8) w2.heap.size [⟨k1, 0, c.fact, 61, true⟩, ⟨k9, 0, x.fact, 61, true⟩] [(0, 3), (1, 3), (0, 3)] tA9 (envA k1 k9 t fs i ++ [(88, .string ⟨⟨t⟩⟩), (90, .string ⟨⟨c.nm⟩⟩)]) w2.heap.size [⟨k1, 0, c.fact, 61, true⟩, ⟨k9, 0, (copyN 78 c x).fact, 61, true⟩]
   (lies_two S2.h1 S2.h9 (by have := S2.l9; omega)) (by kernel_rfl) fun w3 E3 hL3 hK3 => ?_
  have S3 := S2.ran2 hL3 hK3
  refine at_addL [32] c.nm (some 91) (by kernel_rfl) (by simp; omega) ?_
  refine at_addL t ([32] ++ c.nm) (some 92) (by kernel_rfl) (by simp; omega) ?_
  refine at_run 60 (popOp (popOp tA9)) w3.heap.size [] [] (againT tA3) (envA k1 k9 (t ++ ([32] ++ c.nm)) fs (IntKind.i64.wrap ((i : Int) + 1))) w3.heap.size [] (lies_nil w3) (by kernel_rfl) fun w4 E4 hL4 hK4 => ?_
  have hw : IntKind.i64.wrap ((i : Int) + 1) = ((i + 1 : Nat) : Int) := by
   rw [IntWalk.i64_in _ (by omega)]
   omega
  rw [hw]
  exact hgood (by simp [okP, hok]) w4 E4 (S3.kept (hK4.below (Nat.le_refl _) (fun k hk => by cases hk)))
theorem exec_idx {P : Program} {o : Oper} {ρ : Operand → Value} {w : World} {T : TypeId} {x i : Operand} {v1 v2 v : Value} (hop : o.op = .index T x i) (hx : ρ x = v1) (hi : ρ i = v2) (h : (Instr.index T v1 v2).run P w = .ok v w) : (execOp ρ o).run P w = .ok (.value v) w := by
 simp only [execOp, hop, hx, hi]
 exact run_val h
theorem letterR_D {wx : World} {E : Nat → Value} (S : FS w0 k1 k9 c x wx) (hc : c.Wf) (a : Nat) (ha : a = 101 ∨ a = 100 ∨ a = 118 ∨ a = 120 ∨ a = 114) (hi : i < fs.length) (hfa : (fs[i]).toNat = a) (ht : t.length ≤ 1125899906842624) (hil : i < 4294967296)
  (hbad : okP (upLetter a) c = false → ∀ w', Below w0.heap.size w0 w' → R badR w')
  (hgood : okP (upLetter a) c = true → ∀ w' E', FS w0 k1 k9 c (copyN (upLetter a) c x) w' → At Tryz.prog 54 R (againT tA3) (Fr 116 (updL E' (envA k1 k9 (t ++ 32 :: itemP (upLetter a) c) fs ((i + 1 : Nat) : Int)))) w') :
  At Tryz.prog 54 R tAd0 (Fr 116 (updL E (envA k1 k9 t fs i))) wx := by
 have hup : upLetter a ≠ 78 ∧ upLetter a ≠ 87 := by rcases ha with rfl | rfl | rfl | rfl | rfl <;> decide
 have hn := hc.num (upLetter a)
 have e1 : okP (upLetter a) c = fitsP (numP (upLetter a) c) := by simp [okP, hup]
 have e2 : itemP (upLetter a) c = Lib.itoa (numP (upLetter a) c) := by simp [itemP, hup]
 have e3 : copyN (upLetter a) c x = setN (upLetter a) (numP (upLetter a) c) x := by simp [copyN, hup]
 rw [e1] at hbad hgood
 rw [e2, e3] at hgood
 generalize hnn : numP (upLetter a) c = n at *
 refine at_ghost ((curReg tAd0).getD #[]) ⟨[⟨k1, 0, c.fact, 61, true⟩], [(0, 0, 0)], [⟨3, [(94, .string ⟨⟨fs⟩⟩), (95, .int .i64 (i : Int))], .int .u8 (a : Int), true⟩, ⟨4, [(93, .agg ⟨c.fact⟩), (96, .int .u8 (a : Int))], .int .i64 n, true⟩]⟩ (envA k1 k9 t fs i ++ [(11, .int .i64 n)]) (by kernel_rfl) (by kernel_rfl) (by kernel_rfl)
  (fun e he => by rw [List.mem_singleton.1 he]; exact good_own S.h1) (fun sp hsp => ?_) (fun X => by kernel_rfl) (by kernel_rfl) fun w1 E1 B1 => ?_
 ·simp only [List.mem_cons, List.not_mem_nil, or_false] at hsp
  rcases hsp with rfl | rfl
  ·refine spec_op fun _ E w _ => ?_
   refine exec_idx (T := 9) (x := .tmp 94) (i := .tmp 95) (v1 := .string ⟨⟨fs⟩⟩) (v2 := .int .i64 (i : Int)) (by kernel_rfl) (by kernel_rfl) (by kernel_rfl) ?_
   rw [← hfa]
   exact idx_str w fs i hi
  ·refine spec_call 108 [.tmp 93, .tmp 96] [.agg ⟨c.fact⟩, .int .u8 (a : Int)] (by kernel_rfl) (by kernel_rfl) (fun E => by kernel_rfl) fun hc1 u hu => below_call hu ?_
   rw [← hnn]
   exact rget_any c a ha u
 have S1 := S.kept B1
 refine at_run 60 (tailT tAd0) w1.heap.size [] [] tAd1 (envA k1 k9 t fs i ++ [(11, .int .i64 n), (98, .int .i64 n)]) w1.heap.size [] (lies_nil w1) (by kernel_rfl) fun w2 E2 hL2 hK2 => ?_
 have S2 := S1.kept (hK2.below (Nat.le_refl _) (fun k hk => by cases hk))
 refine at_call 56 [.tmp 98] (some 99) [.int .i64 n] (by kernel_rfl) (by kernel_rfl) (by kernel_rfl) ((rfits_any n w2).mono fun e w3 hh => ?_)
 obtain ⟨rfl, B3⟩ := hh
 refine ⟨_, rfl, ?_⟩
 have S3 := S2.kept B3
 refine at_run 60 (popOp tAd1) w3.heap.size [] [] tAd2 (envA k1 k9 t fs i ++ [(11, .int .i64 n), (100, .bool (!(fitsP n)))]) w3.heap.size [] (lies_nil w3) (by kernel_rfl) fun w4 E4 hL4 hK4 => ?_
 have S4 := S3.kept (hK4.below (Nat.le_refl _) (fun k hk => by cases hk))
 cases hok : fitsP n with
 | false =>
  refine at_cond true (by kernel_rfl) (fun _ => ?_) (fun h => nomatch h)
  exact at_endT (fn := Tryz.f54) 60 (.tuple #[.string ⟨⟨[]⟩⟩, .bool false]) (by kernel_rfl) (by kernel_rfl) fun w5 B5 => hbad hok w5 (S4.kept B5).bel
 | true =>
  refine at_cond false (by kernel_rfl) (fun h => nomatch h) fun _ => ?_
  refine at_run 60 (elseT tAd2) w4.heap.size [] [] tAd3 (envA k1 k9 t fs i ++ [(11, .int .i64 n), (101, .string ⟨⟨fs⟩⟩), (102, .int .i64 (i : Int))]) w4.heap.size [] (lies_nil w4) (by kernel_rfl) fun w5 E5 hL5 hK5 => ?_
  have S5 := S4.kept (hK5.below (Nat.le_refl _) (fun k hk => by cases hk))
  refine at_index 9 (.string ⟨⟨fs⟩⟩) (.int .i64 (i : Int)) (some 103) (.int .u8 (a : Int)) (by kernel_rfl) (by rw [← hfa]; exact idx_str w5 fs i hi) ?_
  refine at_run 60 (popOp tAd3) w5.heap.size [] [] tAd4 (envA k1 k9 t fs i ++ [(11, .int .i64 n), (103, .int .u8 (a : Int)), (104, .int .i64 n)]) w5.heap.size [] (lies_nil w5) (by kernel_rfl) fun w6 E6 hL6 hK6 => ?_
  have S6 := S5.kept (hK6.below (Nat.le_refl _) (fun k hk => by cases hk))
  refine at_call 72 [.tmp 9, .tmp 103, .tmp 104] (some 105) [pt k9, .int .u8 (a : Int), .int .i64 n] (by kernel_rfl) (by kernel_rfl) (by kernel_rfl) ((rset_any k9 x a n ha w6 S6.h9).mono fun e w7 hh => ?_)
  obtain ⟨rfl, h7, hK7⟩ := hh
  refine ⟨_, rfl, ?_⟩
  have S7 := S6.set hK7 h7
  refine at_run 60 (popOp tAd4) w7.heap.size [] [] tAd5 (envA k1 k9 t fs i ++ [(106, .string ⟨⟨t⟩⟩), (107, .int .i64 n)]) w7.heap.size [] (lies_nil w7) (by kernel_rfl) fun w8 E8 hL8 hK8 => ?_
  have S8 := S7.kept (hK8.below (Nat.le_refl _) (fun k hk => by cases hk))
  refine at_call 55 [.tmp 107] (some 108) [.int .i64 n] (by kernel_rfl) (by kernel_rfl) (by kernel_rfl) ((rdecAll_any n w8 hn.1 hn.2).mono fun e w9 hh => ?_)
  obtain ⟨rfl, B9⟩ := hh
  refine ⟨_, rfl, ?_⟩
  have S9 := S8.kept B9
  have hil2 := itoa_len n hn.1 hn.2
  refine at_addL [32] (Lib.itoa n) (some 109) (by kernel_rfl) (by simp; omega) ?_
  refine at_addL t ([32] ++ Lib.itoa n) (some 110) (by kernel_rfl) (by simp; omega) ?_
  refine at_run 60 (popOp (popOp (popOp tAd5))) w9.heap.size [] [] (againT tA3) (envA k1 k9 (t ++ ([32] ++ Lib.itoa n)) fs (IntKind.i64.wrap ((i : Int) + 1))) w9.heap.size [] (lies_nil w9) (by kernel_rfl) fun w10 E10 hL10 hK10 => ?_
  have hw : IntKind.i64.wrap ((i : Int) + 1) = ((i + 1 : Nat) : Int) := by
   rw [IntWalk.i64_in _ (by omega)]
   omega
  rw [hw]
  exact hgood hok w10 E10 (S9.kept (hK10.below (Nat.le_refl _) (fun k hk => by cases hk)))
end Go.Proofs.YtdcbnkimjhefkaaGreatDoor

namespace Go.Proofs.YtdcbnkimjhefkaaGreatDoor
open Go.RowKit
set_option maxRecDepth 100000
theorem goodR_letter {fs : List UInt8} (h : fieldsOk fs = true) {x : UInt8} (hx : x ∈ fs) : x.toNat = 110 ∨ (x.toNat = 101 ∨ x.toNat = 100 ∨ x.toNat = 118 ∨ x.toNat = 120 ∨ x.toNat = 114) := by
 unfold fieldsOk at h
 simp only [Bool.and_eq_true] at h
 have := List.all_eq_true.1 h.1 x hx
 simp only [Bool.or_eq_true, beq_iff_eq] at this
 omega
theorem goodR_len {fs : List UInt8} (h : fieldsOk fs = true) : fs.length ≤ 6 := by
 unfold fieldsOk at h
 simp only [Bool.and_eq_true] at h
 exact Nat.le_of_ble_eq_true h.2
theorem word_fields (k : Int) : fieldsOk (wordP k).2 = true ∧ (wordP k).1.length ≤ 10 := by
 unfold wordP
 repeat' split
 all_goals exact ⟨by decide, by decide⟩
theorem itemsR_len {c : Cmd} (hc : CmdOk c) : ∀ l : List UInt8, (itemsR c l).length ≤ l.length * 4294967296
 | [] => Nat.le_refl _
 | x :: l => by
  have := itemsR_len hc l
  have := item_len hc (upL x)
  simp only [itemsR, List.flatMap_cons, List.length_append, List.length_cons] at *
  omega
theorem setN_wf {x : Cmd} (h : x.Wf) (a : Nat) {v : Int} (hv : inR v) : (setN a v x).Wf := by
 unfold setN
 repeat' split
 all_goals
  refine ⟨?_, ?_, ?_, ?_, ?_, ?_, ?_, ?_, ?_, ?_, ?_, ?_, ?_⟩
  all_goals first
   | exact hv
   | exact h.kind
   | exact h.emp
   | exact h.fk
   | exact h.fr
   | exact h.val
   | exact h.ext
   | exact h.rnk
   | exact h.per
   | exact h.torn
   | exact h.stop
   | exact h.wh
   | exact h.nm
   | exact h.txt
theorem copyN_wf {c x : Cmd} (hc : c.Wf) (h : x.Wf) (a : Nat) : (copyN a c x).Wf := by
 unfold copyN
 split
 ·exact ⟨h.kind, h.emp, h.fk, h.fr, h.val, h.ext, h.rnk, h.per, h.torn, h.stop, h.wh, hc.nm, h.txt⟩
 ·exact setN_wf h a (hc.num a)
theorem copyR_wf {c : Cmd} (hc : c.Wf) (l : List UInt8) : (copyR c l).Wf := by
 unfold copyR
 have h0 : (⟨0, 0, c.fk, 0, [], 0, 0, 0, [], 0, 0, 0, 0⟩ : Cmd).Wf := ⟨zero_in, zero_in, hc.fk, zero_in, zero_in, zero_in, zero_in, zero_in, zero_in, zero_in, (by decide : (0 : Nat) < 18446744073709551616), Nat.zero_le _, Nat.zero_le _⟩
 generalize (⟨0, 0, c.fk, 0, [], 0, 0, 0, [], 0, 0, 0, 0⟩ : Cmd) = x at h0
 induction l generalizing x with
 | nil => exact h0
 | cons a l ih => exact ih _ (copyN_wf hc h0 _)
theorem itemsR_snoc (c : Cmd) (l : List UInt8) (x : UInt8) : itemsR c (l ++ [x]) = itemsR c l ++ 32 :: itemP (upL x) c := by simp [itemsR]
theorem copyR_snoc (c : Cmd) (l : List UInt8) (x : UInt8) : copyR c (l ++ [x]) = copyN (upL x) c (copyR c l) := by simp [copyR]
theorem okR_snoc (c : Cmd) (l : List UInt8) (x : UInt8) : okR c (l ++ [x]) = (okR c l && okP (upL x) c) := by simp [okR]
variable {w0 : World} {k1 k9 : Nat} {c : Cmd} {t0 fs : List UInt8} {R : Ending → World → Prop}
theorem fact_loop {wx : World} {E : Nat → Value} (hc : c.Wf) (hfs : fieldsOk fs = true) (ht0 : t0.length ≤ 10) (S : FS w0 k1 k9 c (copyR c []) wx)
  (hbad : okR c fs = false → ∀ w', Below w0.heap.size w0 w' → R badR w')
  (hgood : okR c fs = true → ∀ w' E', FS w0 k1 k9 c (copyR c fs) w' → At Tryz.prog 54 R tAx (Fr 116 (updL E' (envA k1 k9 (t0 ++ itemsR c fs) fs fs.length))) w') :
  At Tryz.prog 54 R tA3 (Fr 116 (updL E (envA k1 k9 t0 fs 0))) wx := by
 have hfl := goodR_len hfs
 refine at_loop (by kernel_rfl) (fun E wx => ∃ (i : Nat) (E0 : Nat → Value), i ≤ fs.length ∧ E = updL E0 (envA k1 k9 (t0 ++ itemsR c (fs.take i)) fs (i : Int)) ∧ okR c (fs.take i) = true ∧ FS w0 k1 k9 c (copyR c (fs.take i)) wx)
  (fun E _ => fs.length - idxOf (E 10)) ⟨0, E, Nat.zero_le _, by simp [itemsR], rfl, S⟩ ?_
 rintro E wx ⟨i, E0, hi, rfl, hok, S⟩ hagain
 have htl : (t0 ++ itemsR c (fs.take i)).length ≤ 1125899906842624 := by
  have h1 := itemsR_len hc.ok (fs.take i)
  have h2 : (fs.take i).length * 4294967296 ≤ 6 * 4294967296 := Nat.mul_le_mul_right _ (by simp; omega)
  simp only [List.length_append]
  have : (itemsR c (fs.take i)).length ≤ 25769803776 := Nat.le_trans h1 h2
  omega
 refine at_run 60 (bodyT tA3) wx.heap.size [] [] tA4 (envA k1 k9 (t0 ++ itemsR c (fs.take i)) fs (i : Int) ++ [(74, .bool (decide ((i : Int) < (fs.length : Int))))]) wx.heap.size [] (lies_nil wx) (by kernel_rfl) fun w1 E1 hL1 hK1 => ?_
 have S1 := S.kept (hK1.below (Nat.le_refl _) (fun k hk => by cases hk))
 refine at_cond (decide ((i : Int) < (fs.length : Int))) (by kernel_rfl) (fun hlt => ?_) (fun hf => ?_)
 ·have hlt' : i < fs.length := by have := of_decide_eq_true hlt; omega
  have hx : fs[i] ∈ fs := List.getElem_mem hlt'
  have hlet := goodR_letter hfs hx
  have htake : fs.take (i + 1) = fs.take i ++ [fs[i]] := by rw [List.take_add_one, List.getElem?_eq_getElem hlt']; rfl
  have hne0 : okP (upL fs[i]) c = false → okR c fs = false := by
   intro h
   unfold okR
   rw [List.all_eq_false]
   exact ⟨fs[i], hx, by simp [h]⟩
  have hnext : okP (upL fs[i]) c = true → ∀ w' E', FS w0 k1 k9 c (copyN (upL fs[i]) c (copyR c (fs.take i))) w' → At Tryz.prog 54 R (againT tA3) (Fr 116 (updL E' (envA k1 k9 ((t0 ++ itemsR c (fs.take i)) ++ 32 :: itemP (upL fs[i]) c) fs ((i + 1 : Nat) : Int)))) w' := by
   intro h w' E' S'
   refine hagain _ _ ⟨i + 1, E', hlt', ?_, ?_, ?_⟩ ?_
   ·rw [htake, itemsR_snoc, List.append_assoc]
   ·rw [htake, okR_snoc, hok, h]
    rfl
   ·rw [htake, copyR_snoc]
    exact S'
   ·show fs.length - idxOf (.int .i64 ((i + 1 : Nat) : Int)) < fs.length - idxOf (.int .i64 (i : Int))
    simp only [idxOf, Int.toNat_natCast]
    omega
  refine at_run 60 (thenT tA4) w1.heap.size [] [] tA5 (envA k1 k9 (t0 ++ itemsR c (fs.take i)) fs (i : Int) ++ [(77, .string ⟨⟨fs⟩⟩), (78, .int .i64 (i : Int))]) w1.heap.size [] (lies_nil w1) (by kernel_rfl) fun w2 E2 hL2 hK2 => ?_
  have S2 := S1.kept (hK2.below (Nat.le_refl _) (fun k hk => by cases hk))
  refine at_index 9 (.string ⟨⟨fs⟩⟩) (.int .i64 (i : Int)) (some 79) (.int .u8 ((fs[i]).toNat : Int)) (by kernel_rfl) (idx_str w2 fs i hlt') ?_
  generalize hfa : (fs[i]).toNat = a at *
  have hup : upL fs[i] = if a = 110 then 78 else upLetter a := by unfold upL; rw [hfa]
  rcases hlet with rfl | ha
  ·rw [if_pos rfl] at hup
   rw [hup] at hne0 hnext
   refine at_run 60 (popOp tA5) w2.heap.size [] [] tA6 (envA k1 k9 (t0 ++ itemsR c (fs.take i)) fs (i : Int) ++ [(80, .bool true)]) w2.heap.size [] (lies_nil w2) (by kernel_rfl) fun w3 E3 hL3 hK3 => ?_
   have S3 := S2.kept (hK3.below (Nat.le_refl _) (fun k hk => by cases hk))
   refine at_cond true (by kernel_rfl) (fun _ => ?_) (fun h => nomatch h)
   refine at_run 60 (thenT tA6) w3.heap.size [⟨k1, 0, c.fact, 61, true⟩] [(0, 3)] tA7 (envA k1 k9 (t0 ++ itemsR c (fs.take i)) fs (i : Int) ++ [(82, .string ⟨⟨c.nm⟩⟩)]) w3.heap.size [⟨k1, 0, c.fact, 61, true⟩] (lies_one S3.h1) (by kernel_rfl) fun w4 E4 hL4 hK4 => ?_
   exact letterR_N (S3.ran1 hL4 hK4) hc htl (by omega) (fun h => hbad (hne0 h)) hnext
  ·have n1 : a ≠ 110 := by omega
   rw [if_neg n1] at hup
   rw [hup] at hne0 hnext
   have q1 : ((a : Int) == 110) = false := by simpa using (by omega : (a : Int) ≠ 110)
   refine at_run 60 (popOp tA5) w2.heap.size [] [] tA6 (envA k1 k9 (t0 ++ itemsR c (fs.take i)) fs (i : Int) ++ [(80, .bool ((a : Int) == 110))]) w2.heap.size [] (lies_nil w2) (by kernel_rfl) fun w3 E3 hL3 hK3 => ?_
   have S3 := S2.kept (hK3.below (Nat.le_refl _) (fun k hk => by cases hk))
   refine at_cond ((a : Int) == 110) (by kernel_rfl) (fun h => by rw [q1] at h; cases h) fun _ => ?_
   refine at_run 60 (elseT tA6) w3.heap.size [] [] tAd0 (envA k1 k9 (t0 ++ itemsR c (fs.take i)) fs (i : Int)) w3.heap.size [] (lies_nil w3) (by kernel_rfl) fun w4 E4 hL4 hK4 => ?_
   exact letterR_D (S3.kept (hK4.below (Nat.le_refl _) (fun k hk => by cases hk))) hc a ha hlt' hfa htl (by omega) (fun h => hbad (hne0 h)) hnext
 ·have hil : i = fs.length := by have := of_decide_eq_false hf; omega
  subst hil
  rw [List.take_length] at hok S1
  refine at_run 60 (elseT tA4) w1.heap.size [] [] tAx (envA k1 k9 (t0 ++ itemsR c (fs.take fs.length)) fs (fs.length : Int)) w1.heap.size [] (lies_nil w1) (by kernel_rfl) fun w2 E2 hL2 hK2 => ?_
  rw [List.take_length]
  exact hgood hok w2 E2 (S1.kept (hK2.below (Nat.le_refl _) (fun k hk => by cases hk)))
end Go.Proofs.YtdcbnkimjhefkaaGreatDoor

/-
 console.Parse: the lines of an agreement.
 console.Parse: the whole script.
-/
import Derived.Test.YtdcbnkimjhefkaaGreatDoorU29
namespace Go.Proofs.YtdcbnkimjhefkaaGreatDoor
open Go.RowKit
set_option maxRecDepth 100000
noncomputable def codePa : Code := Tryz.f17.body.getD .skip
noncomputable def tPa0 : List Item := advT 60 [.code codePa]
noncomputable def tPa1 : List Item := advT 60 (elseT tPa0)
noncomputable def tPa2 : List Item := advT (cntO isNeq 90 (bodyT tPa1)) (bodyT tPa1)
noncomputable def tPa3 : List Item := advT 60 (popOp tPa2)
noncomputable def tPa4 : List Item := advT 60 (thenT tPa3)
noncomputable def tPa5 : List Item := advT 60 (popOp tPa4)
noncomputable def tPa6 : List Item := advG (popOp tPa5)
noncomputable def tPa7 : List Item := advT 60 (tailT tPa6)
noncomputable def tPa8 : List Item := advT 60 (elseT tPa7)
noncomputable def tPb : List Item := advT 60 (elseT tPa8)
noncomputable def tPc0 : List Item := advT 60 (thenT tPa8)
noncomputable def tPc1 : List Item := advT 60 (bodyT tPc0)
noncomputable def tPc2 : List Item := advT 60 (popOp tPc1)
noncomputable def tPc3 : List Item := advT (cntO isEqlO 90 (elseT tPc2)) (elseT tPc2)
noncomputable def tPc4 : List Item := advT 60 (popOp tPc3)
noncomputable def tPc5 : List Item := advT 60 (thenT tPc4)
noncomputable def tPc6 : List Item := advT (cntO isAddO 90 (elseT tPc4)) (elseT tPc4)
noncomputable def tPc7 : List Item := advT 60 (popOp tPc6)
def sLen : Value → Nat
 | .string b => b.size
 | _ => 0
def badV (ln : Nat) : Value := .tuple #[.slice none 0 0, .int .i64 (ln : Int), .int .i64 6]
theorem agr_loop {R : Ending → World → Prop} {E : Nat → Value} (wb : World) (b k10 : Nat) (v : Value) (ln : Nat) (s : List UInt8) (out : Option (List UInt8 × List UInt8) × Nat)
  (hC : Con wb) (hg : Tryz.prog.globals.size ≤ b) (hs : s.length ≤ 65536) (hln : ln ≤ 100000) (S : WS wb b b (Lib.byteCells []) [] wb) (ho : ∃ n, s.length ≤ n ∧ out = agrB n s [] 0)
  (hno : out.1 = none → ∀ w', Below b wb w' → R (.returned (badV (ln + out.2))) w')
  (hyes : ∀ t r, out.1 = some (t, r) → r.length < s.length → ln + out.2 + r.length ≤ ln + s.length → ∀ w' E', WS wb b b (Lib.byteCells t) [] w' → t.length ≤ 65536 →
   At Tryz.prog 17 R tPc5 (Fr 67 (updL E' [(0, .string ⟨⟨r⟩⟩), (5, v), (6, .int .i64 ((ln + out.2 : Nat) : Int)), (10, pt k10), (12, pt b)])) w') :
  At Tryz.prog 17 R tPc0 (Fr 67 (updL E [(0, .string ⟨⟨s⟩⟩), (5, v), (6, .int .i64 (ln : Int)), (10, pt k10), (12, pt b)])) wb := by
 obtain ⟨n0, hn0, ho⟩ := ho
 refine at_loop (by kernel_rfl) (fun E wx => ∃ (s' acc : List UInt8) (k n : Nat) (E0 : Nat → Value), E = updL E0 [(0, .string ⟨⟨s'⟩⟩), (5, v), (6, .int .i64 ((ln + k : Nat) : Int)), (10, pt k10), (12, pt b)] ∧ s'.length ≤ n ∧ out = agrB n s' acc k ∧ acc.length + s'.length ≤ s.length ∧ k + s'.length ≤ s.length ∧ WS wb b b (Lib.byteCells acc) [] wx)
  (fun E _ => sLen (E 0)) ⟨s, [], 0, n0, E, rfl, hn0, ho, by simp, by omega, S⟩ ?_
 rintro E wx ⟨s', acc, k, n, E0, rfl, hn, hout, hal, hks, Sx⟩ hagain
 have CC : ∀ {bs : List Value} w', WS wb b b bs [] w' → Con w' := fun w' S' => hC.below hg S'.bel
 refine at_run 60 (bodyT tPc0) wx.heap.size [] [] tPc1 [(5, v), (6, .int .i64 (IntKind.i64.wrap (((ln + k : Nat) : Int) + 1))), (10, pt k10), (12, pt b), (46, .string ⟨⟨s'⟩⟩)] wx.heap.size [] (lies_nil wx) (by kernel_rfl) fun w1 E1 hL1 hK1 => ?_
 have S1 := Sx.below (hK1.below (Nat.le_refl _) (fun k hk => by cases hk))
 have hw : IntKind.i64.wrap (((ln + k : Nat) : Int) + 1) = ((ln + (k + 1) : Nat) : Int) := by
  rw [IntWalk.i64_in _ (by omega)]
  omega
 rw [hw]
 refine at_call 35 [.tmp 46, .const (.string ⟨⟨[10]⟩⟩)] (some 47) [.string ⟨⟨s'⟩⟩, .string ⟨⟨[10]⟩⟩] (by kernel_rfl) (by kernel_rfl) (by kernel_rfl) ((cut_any s' w1 (by omega) (CC _ S1)).mono fun e w2 hh => ?_)
 obtain ⟨rfl, b2⟩ := hh
 refine ⟨_, rfl, ?_⟩
 have S2 := S1.below b2
 have hcl := cutP_len 10 s'
 have hct := cutP_lt 10 s'
 generalize hc1 : (cutP 10 s').1 = l at *
 generalize hc2 : (cutP 10 s').2.1 = r at *
 generalize hc3 : (cutP 10 s').2.2 = fd at *
 have hstep : agrB n s' acc k = if fd = true then (if l = endW then (some (acc, r), k + 1) else agrB (n - 1) r (acc ++ (l ++ [10])) (k + 1)) else (none, k + 1) := by
  cases n with
  | zero =>
   have : s' = [] := List.length_eq_zero_iff.1 (by omega)
   subst this
   have : fd = false := hc3.symm
   subst this
   rfl
  | succ n =>
   rw [agrB, hc1, hc2, hc3]
   rfl
 refine at_run 60 (popOp tPc1) w2.heap.size [] [] tPc2 [(0, .string ⟨⟨r⟩⟩), (5, v), (6, .int .i64 ((ln + (k + 1) : Nat) : Int)), (7, .string ⟨⟨l⟩⟩), (10, pt k10), (12, pt b), (52, .bool (!fd))] w2.heap.size [] (lies_nil w2) (by kernel_rfl) fun w3 E3 hL3 hK3 => ?_
 have S3 := S2.below (hK3.below (Nat.le_refl _) (fun k hk => by cases hk))
 cases fd with
 | false =>
  have hr : out = (none, k + 1) := hout.trans hstep
  refine at_cond true (by kernel_rfl) (fun _ => ?_) (fun h => nomatch h)
  refine at_endT (fn := Tryz.f17) 60 (badV (ln + (k + 1))) (by kernel_rfl) (by kernel_rfl) fun w4 B4 => ?_
  have := hno (by rw [hr]) w4 (S3.below B4).bel
  rw [hr] at this
  exact this
 | true =>
  replace hct := hct rfl
  replace hstep : agrB n s' acc k = if l = endW then (some (acc, r), k + 1) else agrB (n - 1) r (acc ++ (l ++ [10])) (k + 1) := hstep
  refine at_cond false (by kernel_rfl) (fun h => nomatch h) fun _ => ?_
  refine at_run (cntO isEqlO 90 (elseT tPc2)) (elseT tPc2) w3.heap.size [] [] tPc3 [(0, .string ⟨⟨r⟩⟩), (5, v), (6, .int .i64 ((ln + (k + 1) : Nat) : Int)), (7, .string ⟨⟨l⟩⟩), (10, pt k10), (12, pt b), (54, .string ⟨⟨l⟩⟩)] w3.heap.size [] (lies_nil w3) (by kernel_rfl) fun w4 E4 hL4 hK4 => ?_
  have S4 := S3.below (hK4.below (Nat.le_refl _) (fun k hk => by cases hk))
  refine at_eqs l endW (some 55) (by kernel_rfl) ?_
  refine at_run 60 (popOp tPc3) w4.heap.size [] [] tPc4 [(0, .string ⟨⟨r⟩⟩), (5, v), (6, .int .i64 ((ln + (k + 1) : Nat) : Int)), (7, .string ⟨⟨l⟩⟩), (10, pt k10), (12, pt b), (55, .bool (decide (l = endW)))] w4.heap.size [] (lies_nil w4) (by kernel_rfl) fun w5 E5 hL5 hK5 => ?_
  have S5 := S4.below (hK5.below (Nat.le_refl _) (fun k hk => by cases hk))
  by_cases he : l = endW
  ·rw [decide_eq_true he]
   have hr : out = (some (acc, r), k + 1) := hout.trans (hstep.trans (if_pos he))
   refine at_cond true (by kernel_rfl) (fun _ => ?_) (fun h => nomatch h)
   refine at_run 60 (thenT tPc4) w5.heap.size [] [] tPc5 [(0, .string ⟨⟨r⟩⟩), (5, v), (6, .int .i64 ((ln + (k + 1) : Nat) : Int)), (10, pt k10), (12, pt b)] w5.heap.size [] (lies_nil w5) (by kernel_rfl) fun w6 E6 hL6 hK6 => ?_
   have S6 := S5.below (hK6.below (Nat.le_refl _) (fun k hk => by cases hk))
   have := hyes acc r (by rw [hr]) (by omega) (by rw [hr]; show ln + (k + 1) + r.length ≤ ln + s.length; omega) w6 E6 S6 (by omega)
   rw [hr] at this
   exact this
  ·rw [decide_eq_false he]
   have hr : out = agrB (n - 1) r (acc ++ (l ++ [10])) (k + 1) := hout.trans (hstep.trans (if_neg he))
   refine at_cond false (by kernel_rfl) (fun h => nomatch h) fun _ => ?_
   refine at_run (cntO isAddO 90 (elseT tPc4)) (elseT tPc4) w5.heap.size [] [] tPc6 [(0, .string ⟨⟨r⟩⟩), (5, v), (6, .int .i64 ((ln + (k + 1) : Nat) : Int)), (10, pt k10), (12, pt b), (56, .string ⟨⟨l⟩⟩)] w5.heap.size [] (lies_nil w5) (by kernel_rfl) fun w6 E6 hL6 hK6 => ?_
   have S6 := S5.below (hK6.below (Nat.le_refl _) (fun k hk => by cases hk))
   refine at_addL l [10] (some 57) (by kernel_rfl) (by simp only [List.length_singleton]; omega) ?_
   refine at_run 60 (popOp tPc6) w6.heap.size [] [] tPc7 [(0, .string ⟨⟨r⟩⟩), (5, v), (6, .int .i64 ((ln + (k + 1) : Nat) : Int)), (10, pt k10), (12, pt b), (57, .string ⟨⟨l ++ [10]⟩⟩)] w6.heap.size [] (lies_nil w6) (by kernel_rfl) fun w7 E7 hL7 hK7 => ?_
   have S7 := S6.below (hK7.below (Nat.le_refl _) (fun k hk => by cases hk))
   refine at_call 37 [.tmp 12, .tmp 57] (some 58) [pt b, .string ⟨⟨l ++ [10]⟩⟩] (by kernel_rfl) (by kernel_rfl) (by kernel_rfl) ((S7.str (l ++ [10]) (by simp only [List.length_append, List.length_singleton]; omega)).mono fun e w8 hh => ?_)
   obtain ⟨rfl, S8⟩ := hh
   refine ⟨_, rfl, ?_⟩
   refine at_run 60 (popOp tPc7) w8.heap.size [] [] (againT tPc0) [(0, .string ⟨⟨r⟩⟩), (5, v), (6, .int .i64 ((ln + (k + 1) : Nat) : Int)), (10, pt k10), (12, pt b)] w8.heap.size [] (lies_nil w8) (by kernel_rfl) fun w9 E9 hL9 hK9 => ?_
   refine hagain _ _ ⟨r, acc ++ (l ++ [10]), k + 1, n - 1, E9, rfl, by omega, hr, ?_, by omega, S8.below (hK9.below (Nat.le_refl _) (fun k hk => by cases hk))⟩ ?_
   ·simp only [List.length_append, List.length_singleton]
    omega
   ·show r.length < s'.length
    omega
end Go.Proofs.YtdcbnkimjhefkaaGreatDoor

namespace Go.Proofs.YtdcbnkimjhefkaaGreatDoor
open Go.RowKit
set_option maxRecDepth 100000
structure PaS (w0 : World) (v : Value) (acc : List Cmd) (w : World) : Prop where
 bel : Below w0.heap.size w0 w
 own : w.ownsRow w0.heap.size 64 13 v acc.length (acc.flatMap Cmd.cells)
theorem PaS.below {w0 w w' : World} {v : Value} {acc : List Cmd} (h : PaS w0 v acc w) (hb : Below w.heap.size w w') : PaS w0 v acc w' :=
 ⟨h.bel.trans (hb.mono h.bel.size), owns_keep h.own fun g hg => hb.block g (own_block h.own hg).2⟩
theorem own_nil (w : World) : w.ownsRow w.heap.size 64 13 (.slice none 0 0) ([] : List Cmd).length (([] : List Cmd).flatMap Cmd.cells) := ⟨rfl, .inl ⟨rfl, rfl⟩⟩
theorem push_pa {f : FuncId} {R : Ending → World → Prop} {w0 w : World} {v : Value} {l : List Cmd} {c : Cmd} {n : Nat} {td : List Item} {E : Nat → Value} {g : Nat} (S : PaS w0 v l w) (hl : l.length ≤ 70000) (hg : w.heap[g]? = some (.cells c.cells.toArray 64 (0, 0)))
  (s x : Operand) (o : Oper) (hc : curOp n E td = some o) (ho : o.op = .call { callee := .builtin .append, args := #[s, x], argTypes := #[50, 50] }) (hs : evE n E s = v) (hx : evE n E x = .slice (some ⟨g, 0, none⟩) 1 1)
  (hk : ∀ v' w', PaS w0 v' (l ++ [c]) w' → At Tryz.prog f R (popOp td) (Fr n (updO E o.dst v')) w') : At Tryz.prog f R td (Fr n E) w := by
 have hw0 : w0.heap.size ≤ w.heap.size := S.bel.size
 refine at_append o hc s x 50 ho w0.heap.size 64 Tryz.underlying50 infoCmd (by rfl) (by decide) v l.length (l.flatMap Cmd.cells) hs S.own ⟨g, 0, none⟩ 1 1 c.cells hx rfl ?_ ?_ (by unfold maxLen; omega) (by omega) hw0 ?_
 ·intro j u hj
  rw [Addr.add_mid]
  exact rangeAt_lit hg 0 c.cells rfl j u hj
 ·intro u hu
  simp only [Cmd.cells, List.mem_cons, List.not_mem_nil, or_false] at hu
  rcases hu with rfl | rfl | rfl | rfl | rfl | rfl | rfl | rfl | rfl | rfl | rfl | rfl | rfl <;> rfl
 ·intro v' w' hown hgr
  refine hk v' w' ⟨?_, ?_⟩
  ·have hB := S.bel
   refine ⟨hgr.os.trans hB.os, hgr.tape.trans hB.tape, hgr.output.trans hB.output, Nat.le_trans hB.size hgr.size, fun k hk => (hgr.block k (Nat.lt_of_lt_of_le hk hB.size) (fun e => ?_)).trans (hB.block k hk)⟩
   have := own_block S.own e.symm
   omega
  ·simpa [List.flatMap_append] using hown
def zeroCmd : Cmd := ⟨0, 0, 0, 0, [], 0, 0, 0, [], 0, 0, 0, 0⟩
theorem kept_same {k : Nat} {o : Obj} {w w' : World} (hK : Kept [k] w.heap.size w w') (h : w.heap[k]? = some o) (h' : w'.heap[k]? = some o) : Below w.heap.size w w' :=
 ⟨hK.os, hK.tape, hK.output, hK.size, fun j hj => by
  by_cases e : j = k
  ·subst e
   rw [h, h']
  ·exact hK.block j hj (fun hm => e (List.mem_singleton.1 hm))⟩
def ParsR (w : World) (s : List UInt8) (e : Ending) (w' : World) : Prop := Below w.heap.size w w' ∧
 if 65536 < s.length then e = .returned (.tuple #[.slice none 0 0, .int .i64 0, .int .i64 3]) else match parB (s.length + 1) s 1 [] with
  | .error ln => e = .returned (badV ln)
  | .ok acc => ∃ v, e = .returned (.tuple #[v, .int .i64 0, .int .i64 0]) ∧ w'.ownsRow w.heap.size 64 13 v acc.length (acc.flatMap Cmd.cells)
theorem parse_any (s : List UInt8) (w : World) (hs : s.length ≤ 9223372036854775807) (hC : ConP w) (hg : Tryz.prog.globals.size ≤ w.heap.size) :
  Calls Tryz.prog 17 #[.string ⟨⟨s⟩⟩] w (ParsR w s) := by
 refine calls_at (args := [.string ⟨⟨s⟩⟩]) (fn := Tryz.f17) (c := codePa) (n := 67) (by kernel_rfl) (by kernel_rfl) (by kernel_rfl) (by kernel_rfl) ?_
 refine at_run 60 [.code codePa] w.heap.size [] [] tPa0 [(0, .string ⟨⟨s⟩⟩), (15, .bool (decide ((65536 : Int) < (s.length : Int))))] w.heap.size [] (lies_nil w) (by kernel_rfl) fun w1 E1 hL1 hK1 => ?_
 have B1 : Below w.heap.size w w1 := hK1.below (Nat.le_refl _) (fun k hk => by cases hk)
 by_cases hbig : 65536 < s.length
 ·rw [decide_eq_true (by omega : (65536 : Int) < (s.length : Int))]
  refine at_cond true (by kernel_rfl) (fun _ => ?_) (fun h => nomatch h)
  exact at_endT (fn := Tryz.f17) 60 (.tuple #[.slice none 0 0, .int .i64 0, .int .i64 3]) (by kernel_rfl) (by kernel_rfl) fun w2 B2 => ⟨B1.trans (B2.mono B1.size), by rw [if_pos hbig]⟩
 rw [decide_eq_false (by omega : ¬ (65536 : Int) < (s.length : Int))]
 have hR : ∀ e w', ParsR w s e w' ↔ (Below w.heap.size w w' ∧ match parB (s.length + 1) s 1 [] with
  | .error ln => e = .returned (badV ln)
  | .ok acc => ∃ v, e = .returned (.tuple #[v, .int .i64 0, .int .i64 0]) ∧ w'.ownsRow w.heap.size 64 13 v acc.length (acc.flatMap Cmd.cells)) := fun e w' => by unfold ParsR; rw [if_neg hbig]
 generalize hout : parB (s.length + 1) s 1 [] = out at hR
 refine at_cond false (by kernel_rfl) (fun h => nomatch h) fun _ => ?_
 refine at_run 60 (elseT tPa0) w1.heap.size [] [] tPa1 [(0, .string ⟨⟨s⟩⟩), (5, .slice none 0 0), (6, .int .i64 1)] w1.heap.size [] (lies_nil w1) (by kernel_rfl) fun w2 E2 hL2 hK2 => ?_
 have S2 : PaS w (.slice none 0 0) [] w2 := (PaS.below ⟨Below.refl _ _, own_nil w⟩ B1).below (hK2.below (Nat.le_refl _) (fun k hk => by cases hk))
 refine at_loop (by kernel_rfl) (fun E wx => ∃ (s' : List UInt8) (v : Value) (ln n : Nat) (acc : List Cmd) (E0 : Nat → Value), E = updL E0 [(0, .string ⟨⟨s'⟩⟩), (5, v), (6, .int .i64 (ln : Int))] ∧ s'.length < n ∧ out = parB n s' ln acc ∧ s'.length ≤ 65536 ∧ ln + s'.length ≤ 65537 ∧ acc.length + s'.length ≤ 65536 ∧ PaS w v acc wx)
  (fun E _ => sLen (E 0)) ⟨s, .slice none 0 0, 1, s.length + 1, [], E2, rfl, Nat.lt_succ_self _, hout.symm, by omega, by omega, by simp; omega, S2⟩ ?_
 rintro E wx ⟨s', v, ln, n, acc, E0, rfl, hn, ho, hsl, hln, hal, S⟩ hagain
 obtain ⟨n, rfl⟩ : ∃ m, n = m + 1 := ⟨n - 1, by omega⟩
 refine at_run (cntO isNeq 90 (bodyT tPa1)) (bodyT tPa1) wx.heap.size [] [] tPa2 [(0, .string ⟨⟨s'⟩⟩), (5, v), (6, .int .i64 (ln : Int)), (16, .string ⟨⟨s'⟩⟩)] wx.heap.size [] (lies_nil wx) (by kernel_rfl) fun w3 E3 hL3 hK3 => ?_
 have S3 := S.below (hK3.below (Nat.le_refl _) (fun k hk => by cases hk))
 refine at_neqs s' [] (some 17) (by kernel_rfl) ?_
 refine at_run 60 (popOp tPa2) w3.heap.size [] [] tPa3 [(0, .string ⟨⟨s'⟩⟩), (5, v), (6, .int .i64 (ln : Int)), (17, .bool (!(decide (s' = []))))] w3.heap.size [] (lies_nil w3) (by kernel_rfl) fun w4 E4 hL4 hK4 => ?_
 have S4 := S3.below (hK4.below (Nat.le_refl _) (fun k hk => by cases hk))
 by_cases hs0 : s' = []
 ·rw [decide_eq_true hs0]
  have hres : out = .ok acc := by rw [ho, parB, if_pos hs0]
  refine at_cond false (by kernel_rfl) (fun h => nomatch h) fun _ => ?_
  refine at_endT (fn := Tryz.f17) 60 (.tuple #[v, .int .i64 0, .int .i64 0]) (by kernel_rfl) (by kernel_rfl) fun w5 B5 => ?_
  have S5 := S4.below B5
  rw [hR, hres]
  exact ⟨S5.bel, v, rfl, S5.own⟩
 rw [decide_eq_false hs0]
 rw [parB, if_neg hs0] at ho
 refine at_cond true (by kernel_rfl) (fun _ => ?_) (fun h => nomatch h)
 refine at_run 60 (thenT tPa3) w4.heap.size [] [] tPa4 [(5, v), (6, .int .i64 (ln : Int)), (21, .string ⟨⟨s'⟩⟩)] w4.heap.size [] (lies_nil w4) (by kernel_rfl) fun w5 E5 hL5 hK5 => ?_
 have S5 := S4.below (hK5.below (Nat.le_refl _) (fun k hk => by cases hk))
 refine at_call 35 [.tmp 21, .const (.string ⟨⟨[10]⟩⟩)] (some 22) [.string ⟨⟨s'⟩⟩, .string ⟨⟨[10]⟩⟩] (by kernel_rfl) (by kernel_rfl) (by kernel_rfl) ((cut_any s' w5 (by omega) (hC.below hg S5.bel).con).mono fun e w6 hh => ?_)
 obtain ⟨rfl, b6⟩ := hh
 refine ⟨_, rfl, ?_⟩
 have S6 := S5.below b6
 have hcl := cutP_len 10 s'
 have hct := cutP_lt 10 s'
 generalize hc1 : (cutP 10 s').1 = l at *
 generalize hc2 : (cutP 10 s').2.1 = r at *
 generalize hc3 : (cutP 10 s').2.2 = fd at *
 refine at_run 60 (popOp tPa4) w6.heap.size [] [] tPa5 [(5, v), (6, .int .i64 (ln : Int)), (8, .string ⟨⟨r⟩⟩), (9, .bool fd), (27, .string ⟨⟨l⟩⟩)] w6.heap.size [] (lies_nil w6) (by kernel_rfl) fun w7 E7 hL7 hK7 => ?_
 have S7 := S6.below (hK7.below (Nat.le_refl _) (fun k hk => by cases hk))
 refine at_call 36 [.tmp 27] (some 28) [.string ⟨⟨l⟩⟩] (by kernel_rfl) (by kernel_rfl) (by kernel_rfl) ((read_any l w7 (by omega) (hC.below hg S7.bel) (Nat.le_trans hg S7.bel.size)).mono fun e w8 hh => ?_)
 obtain ⟨rfl, b8⟩ := hh
 refine ⟨_, rfl, ?_⟩
 have S8 := S7.below b8
 unfold readV
 have hcs : ((readL l).map Cmd.cells).getD zeroC = ((readL l).getD zeroCmd).cells := by cases readL l <;> rfl
 rw [hcs]
 generalize hrl : readL l = rl at ho ⊢
 generalize hc : rl.getD zeroCmd = c
 generalize hok : rl.isSome = ok
 refine at_run (cntG 90 (popOp tPa5)) (popOp tPa5) w8.heap.size [] [(0, 0)] tPa6 [(5, v), (6, .int .i64 (ln : Int)), (8, .string ⟨⟨r⟩⟩), (9, .bool fd), (10, pt w8.heap.size), (11, .bool ok)] (w8.heap.size + 1) [⟨w8.heap.size, 0, c.cells, 64, true⟩] (lies_nil w8) (by kernel_rfl) fun w9 E9 hL9 hK9 => ?_
 have S9 := S8.below (hK9.below (Nat.le_refl _) (fun k hk => by cases hk))
 have m9 := own_good (hL9.sat.good ⟨w8.heap.size, 0, c.cells, 64, true⟩ (by simp))
 have hk10 : w.heap.size ≤ w8.heap.size := S8.bel.size
 have hgk : ∀ g, v.ownBlock = some g → g < w8.heap.size := fun g hg => (own_block S8.own hg).2
 generalize w8.heap.size = k10 at *
 refine at_ghost ((curReg tPa6).getD #[]) ⟨[], [], []⟩ [(5, v), (6, .int .i64 (ln : Int)), (8, .string ⟨⟨r⟩⟩), (10, pt k10), (36, .bool (cond (!fd) true (!ok)))] (by kernel_rfl) (by kernel_rfl) (by kernel_rfl)
  (fun e he => (by cases he)) (fun sp hsp => (by cases hsp)) (fun X => by kernel_rfl) (by kernel_rfl) fun w10 E10 b10 => ?_
 have S10 := S9.below b10
 have m10 := (b10.block _ (heap_lt m9)).trans m9
 generalize hbad : cond (!fd) true (!ok) = bad
 refine at_run 60 (tailT tPa6) w10.heap.size [] [] tPa7 [(5, v), (6, .int .i64 (ln : Int)), (8, .string ⟨⟨r⟩⟩), (10, pt k10), (36, .bool bad)] w10.heap.size [] (lies_nil w10) (by kernel_rfl) fun w11 E11 hL11 hK11 => ?_
 have b11 : Below w10.heap.size w10 w11 := hK11.below (Nat.le_refl _) (fun k hk => by cases hk)
 have S11 := S10.below b11
 have m11 := (b11.block _ (heap_lt m10)).trans m10
 cases bad with
 | true =>
  have hres : out = .error ln := by
   rw [ho]
   cases fd with
   | false => rfl
   | true =>
    cases hq : rl with
    | none => rfl
    | some c' =>
     rw [hq] at hok
     obtain rfl : true = ok := hok
     cases hbad
  refine at_cond true (by kernel_rfl) (fun _ => ?_) (fun h => nomatch h)
  refine at_endT (fn := Tryz.f17) 60 (badV ln) (by kernel_rfl) (by kernel_rfl) fun w12 B12 => ?_
  rw [hR, hres]
  exact ⟨(S11.below B12).bel, rfl⟩
 | false =>
  cases fd with
  | false => cases hbad
  | true =>
  cases hq : rl with
  | none =>
   rw [hq] at hok
   obtain rfl : false = ok := hok
   cases hbad
  | some c' =>
  rw [hq] at hc ho
  obtain rfl : c' = c := hc
  replace hct := hct rfl
  refine at_cond false (by kernel_rfl) (fun h => nomatch h) fun _ => ?_
  refine at_run 60 (elseT tPa7) w11.heap.size [⟨k10, 0, c'.cells, 64, true⟩] [(0, 2)] tPa8 [(0, .string ⟨⟨r⟩⟩), (5, v), (6, .int .i64 (ln : Int)), (10, pt k10), (42, .bool (c'.fk == 5))] w11.heap.size [⟨k10, 0, c'.cells, 64, true⟩] (lies_one m11) (by kernel_rfl) fun w12 E12 hL12 hK12 => ?_
  have m12 := own_good (hL12.sat.good _ (List.mem_singleton.2 rfl))
  have S12 := S11.below (kept_same hK12 m11 m12)
  have push : ∀ (c2 : Cmd) (r2 : List UInt8) (ln2 : Nat) (wy : World) (Ey : Nat → Value) (g : Nat), PaS w v acc wy → wy.heap[g]? = some (.cells c2.cells.toArray 64 (0, 0)) → out = parB n r2 (ln2 + 1) (acc ++ [c2]) → r2.length < s'.length → ln2 + 1 + r2.length ≤ 65537 →
    At Tryz.prog 17 (ParsR w s) tPb (Fr 67 (updL Ey [(0, .string ⟨⟨r2⟩⟩), (6, .int .i64 (ln2 : Int)), (62, v), (64, .slice (some ⟨g, 0, none⟩) 1 1)])) wy := by
   intro c2 r2 ln2 wy Ey g Sy hgy ho2 hr2 hl2
   refine push_pa Sy (by omega) hgy (.tmp 62) (.tmp 64) (opAt tPb) (by kernel_rfl) (by kernel_rfl) (by kernel_rfl) (by kernel_rfl) fun v' wz Sz => ?_
   refine at_run 60 (popOp tPb) wz.heap.size [] [] (againT tPa1) [(0, .string ⟨⟨r2⟩⟩), (5, v'), (6, .int .i64 (IntKind.i64.wrap ((ln2 : Int) + 1)))] wz.heap.size [] (lies_nil wz) (by kernel_rfl) fun wu Eu hLu hKu => ?_
   have hw : IntKind.i64.wrap ((ln2 : Int) + 1) = ((ln2 + 1 : Nat) : Int) := by
    rw [IntWalk.i64_in _ (by omega)]
    omega
   rw [hw]
   refine hagain _ _ ⟨r2, v', ln2 + 1, n, acc ++ [c2], Eu, rfl, by omega, ho2, by omega, by omega, ?_, Sz.below (hKu.below (Nat.le_refl _) (fun k hk => by cases hk))⟩ ?_
   ·simp only [List.length_append, List.length_singleton]
    omega
   ·show r2.length < s'.length
    exact hr2
  by_cases hfk : c'.fk = 5
  ·have e5 : (c'.fk == 5) = true := by rw [hfk]; rfl
   rw [e5]
   replace ho : out = (match agrB n r [] 0 with
    | (none, k) => .error (ln + k)
    | (some (t, r), k) => parB n r (ln + k + 1) (acc ++ [{ c' with txt := t }])) := ho.trans (if_pos hfk)
   refine at_cond true (by kernel_rfl) (fun _ => ?_) (fun h => nomatch h)
   refine at_run 60 (thenT tPa8) w12.heap.size [] [] tPc0 [(0, .string ⟨⟨r⟩⟩), (5, v), (6, .int .i64 (ln : Int)), (10, pt k10), (12, pt w12.heap.size)] (w12.heap.size + 1) [⟨w12.heap.size, 0, [.pointer none, .slice none 0 0], 89, true⟩] (lies_nil w12) (by kernel_rfl) fun w13 E13 hL13 hK13 => ?_
   have b13 : Below w12.heap.size w12 w13 := hK13.below (Nat.le_refl _) (fun k hk => by cases hk)
   have hb1 := own_good (hL13.sat.good ⟨w12.heap.size, 0, [.pointer none, .slice none 0 0], 89, true⟩ (by simp))
   have hs1 := heap_lt hb1
   have hkb : k10 < w12.heap.size := heap_lt m12
   have hgb : w.heap.size ≤ w12.heap.size := S12.bel.size
   have m13 := (b13.block _ hkb).trans m12
   have S13 := S12.below b13
   have W13 : WS w13 w12.heap.size w12.heap.size (Lib.byteCells []) [] w13 := ⟨.inl ⟨Nat.le_refl _, .slice none 0 0, hb1, ⟨rfl, .inl ⟨rfl, rfl⟩⟩, by simp [Value.ownBlock]⟩, Below.refl _ _, Lib.OthersKept.refl _ _ _, fun p hp => (by cases hp), fun p hp => (by cases hp), hs1, Nat.le_refl _⟩
   generalize w12.heap.size = b at *
   refine agr_loop w13 b k10 v ln r (agrB n r [] 0) (hC.below hg S13.bel).con (by omega) (by omega) (by omega) W13 ⟨n, by omega, rfl⟩ (fun hno w' hb' => ?_) (fun t r2 hy hlt hle w14 E14 W14 htl => ?_)
   ·rw [hR]
    generalize agrB n r [] 0 = q at *
    obtain ⟨q1, q2⟩ := q
    obtain rfl : q1 = none := hno
    replace ho : out = .error (ln + q2) := ho
    rw [ho]
    exact ⟨S13.bel.trans (hb'.mono hgb), rfl⟩
   ·generalize agrB n r [] 0 = q at *
    obtain ⟨q1, q2⟩ := q
    obtain rfl : q1 = some (t, r2) := hy
    replace ho : out = parB n r2 (ln + q2 + 1) (acc ++ [{ c' with txt := t }]) := ho
    replace hle : ln + q2 + r2.length ≤ ln + r.length := hle
    have hb14 : b ≤ w14.heap.size := by have := W14.size; have := W14.lo; omega
    refine at_call 38 [.tmp 12] (some 59) [pt b] (by kernel_rfl) (by kernel_rfl) (by kernel_rfl) ((Tryz.Builder_String_any_k b b t w14 W14.bld hb14).mono fun e w15 hh => ?_)
    obtain ⟨rfl, _, hB15, _⟩ := hh
    refine ⟨_, rfl, ?_⟩
    have b15 : Below b w13 w15 := W14.bel.trans hB15
    have m15 := (b15.block _ hkb).trans m13
    refine at_run 60 (popOp tPc5) w15.heap.size [⟨k10, 0, c'.cells, 64, true⟩] [(0, 8), (0, 0)] tPb [(0, .string ⟨⟨r2⟩⟩), (6, .int .i64 ((ln + q2 : Nat) : Int)), (62, v), (64, .slice (some ⟨w15.heap.size, 0, none⟩) 1 1)] (w15.heap.size + 1) [⟨k10, 0, { c' with txt := t }.cells, 64, true⟩, ⟨w15.heap.size, 0, { c' with txt := t }.cells, 64, true⟩] (lies_one m15) (by kernel_rfl) fun w16 E16 hL16 hK16 => ?_
    have g16 := own_good (hL16.sat.good ⟨w15.heap.size, 0, { c' with txt := t }.cells, 64, true⟩ (by simp))
    have S16 : PaS w v acc w16 := by
     have hbel : Below w.heap.size w w15 := S13.bel.trans (b15.mono hgb)
     refine ⟨hbel.trans (hK16.below hbel.size (fun k hk => by rw [List.mem_singleton.1 hk]; exact hk10)), owns_keep S13.own fun g hg => ?_⟩
     have h1 := hgk g hg
     have h2 : g < w15.heap.size := by have := b15.size; have := b13.size; omega
     exact (hK16.block g h2 (fun hm => absurd (List.mem_singleton.1 hm) (by show g ≠ k10; omega))).trans (b15.block g (by omega))
    exact push _ r2 (ln + q2) w16 E16 _ S16 g16 ho (by omega) (by omega)
  ·have e5 : (c'.fk == 5) = false := beq_eq_false_iff_ne.2 hfk
   rw [e5]
   replace ho : out = parB n r (ln + 1) (acc ++ [c']) := ho.trans (if_neg hfk)
   refine at_cond false (by kernel_rfl) (fun h => nomatch h) fun _ => ?_
   refine at_run 60 (elseT tPa8) w12.heap.size [⟨k10, 0, c'.cells, 64, true⟩] [(0, 0)] tPb [(0, .string ⟨⟨r⟩⟩), (6, .int .i64 (ln : Int)), (62, v), (64, .slice (some ⟨w12.heap.size, 0, none⟩) 1 1)] (w12.heap.size + 1) [⟨k10, 0, c'.cells, 64, true⟩, ⟨w12.heap.size, 0, c'.cells, 64, true⟩] (lies_one m12) (by kernel_rfl) fun w13 E13 hL13 hK13 => ?_
   have m13 := own_good (hL13.sat.good ⟨k10, 0, c'.cells, 64, true⟩ (by simp))
   have g13 := own_good (hL13.sat.good ⟨w12.heap.size, 0, c'.cells, 64, true⟩ (by simp))
   exact push c' r ln w13 E13 _ (S12.below (kept_same hK13 m12 m13)) g13 ho (by omega) (by omega)
end Go.Proofs.YtdcbnkimjhefkaaGreatDoor

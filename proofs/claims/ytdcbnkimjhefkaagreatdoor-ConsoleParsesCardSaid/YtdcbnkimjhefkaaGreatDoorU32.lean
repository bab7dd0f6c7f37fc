/-
 payrollref34.Number.
 A line that reads as a command is what the command prints.
-/
import Derived.Test.YtdcbnkimjhefkaaGreatDoorU31
import Derived.Test.YtdcbnkimjhefkaaGreatDoorU28
import Derived.Test.YtdcbnkimjhefkaaGreatDoorU25
namespace Go.Proofs.YtdcbnkimjhefkaaGreatDoor
open Go.RowKit
set_option maxRecDepth 100000
def ten18 : List UInt8 := [49, 48, 48, 48, 48, 48, 48, 48, 48, 48, 48, 48, 48, 48, 48, 48, 48, 48, 48]
def badN (neg : Bool) (d : List UInt8) : Bool :=
 cond (cond (cond (decide (d = [])) true (decide ((19 : Int) < (d.length : Int)))) true (cond ((d.length : Int) == 19) (!(decide (d = ten18))) false)) true (cond (((d.headD 0).toNat : Int) == 48) (cond (decide ((1 : Int) < (d.length : Int))) true neg) false)
def digB (c : UInt8) : Bool := !(cond (decide ((c.toNat : Int) < 48)) true (decide ((57 : Int) < (c.toNat : Int))))
def valN (d : List UInt8) : Nat := d.foldl (fun n c => 10 * n + (c.toNat - 48)) 0
def numRd (neg : Bool) (d : List UInt8) : Option Int := if badN neg d = true then none else if d.all digB = true then some (if neg = true then -(valN d : Int) else valN d) else none
def negN (s : List UInt8) : Bool := cond (decide ((1 : Int) < (s.length : Int))) (((s.headD 0).toNat : Int) == 45) false
def numR (s : List UInt8) : Option Int := numRd (negN s) (if negN s = true then s.drop 1 else s)
def numV (r : Option Int) : Value := .tuple #[.int .i64 (r.getD 0), .bool r.isSome]
theorem valN_snoc (l : List UInt8) (c : UInt8) : valN (l ++ [c]) = 10 * valN l + (c.toNat - 48) := by simp [valN, List.foldl_append]
theorem dig_of {c : UInt8} (h : digB c = true) : 48 ≤ c.toNat ∧ c.toNat ≤ 57 := by
 unfold digB at h
 by_cases h1 : (c.toNat : Int) < 48
 ·rw [decide_eq_true h1] at h; cases h
 ·rw [decide_eq_false h1] at h
  by_cases h2 : (57 : Int) < (c.toNat : Int)
  ·rw [decide_eq_true h2] at h; cases h
  ·omega
theorem foldN_lt : ∀ (l : List UInt8) (a : Nat), (∀ c ∈ l, c.toNat ≤ 57) → l.foldl (fun n c => 10 * n + (c.toNat - 48)) a + 1 ≤ (a + 1) * 10 ^ l.length
 | [], a, _ => by simp
 | c :: l, a, h => by
  have h1 := h c (by simp)
  have h2 := foldN_lt l (10 * a + (c.toNat - 48)) fun x hx => h x (by simp [hx])
  rw [List.foldl_cons, List.length_cons, Nat.pow_succ]
  refine Nat.le_trans h2 ?_
  rw [Nat.mul_comm (10 ^ l.length) 10, ← Nat.mul_assoc]
  exact Nat.mul_le_mul_right _ (by omega)
theorem valN_lt (l : List UInt8) (h : ∀ c ∈ l, c.toNat ≤ 57) : valN l < 10 ^ l.length := by
 have := foldN_lt l 0 h
 unfold valN
 omega
theorem bad_facts {neg : Bool} {d : List UInt8} (h : badN neg d = false) : d ≠ [] ∧ d.length ≤ 19 ∧ (d.length = 19 → d = ten18) := by
 unfold badN at h
 by_cases h1 : d = []
 ·rw [decide_eq_true h1] at h; simp at h
 rw [decide_eq_false h1] at h
 by_cases h2 : (19 : Int) < (d.length : Int)
 ·rw [decide_eq_true h2] at h; simp at h
 rw [decide_eq_false h2] at h
 refine ⟨h1, by omega, fun h3 => ?_⟩
 have e : ((d.length : Int) == 19) = true := by rw [h3]; rfl
 rw [e] at h
 by_cases h4 : d = ten18
 ·exact h4
 ·rw [decide_eq_false h4] at h; simp at h
theorem val_le {neg : Bool} {d : List UInt8} (h : badN neg d = false) (i : Nat) (hi : i ≤ d.length) (hd : (d.take i).all digB = true) : valN (d.take i) ≤ 1000000000000000000 := by
 obtain ⟨_, h2, h3⟩ := bad_facts h
 by_cases h19 : d.length = 19
 ·rw [h3 h19]
  rw [h19] at hi
  have key : ∀ i ∈ List.range 20, valN (ten18.take i) ≤ 1000000000000000000 := by decide
  exact key i (by simp; omega)
 ·have hl : (d.take i).length ≤ 18 := by rw [List.length_take]; omega
  have h1 := valN_lt (d.take i) fun c hc => (dig_of (List.all_eq_true.1 hd c hc)).2
  have h4 : 10 ^ (d.take i).length ≤ 10 ^ 18 := Nat.pow_le_pow_right (by omega) hl
  have : (10 : Nat) ^ 18 = 1000000000000000000 := by decide
  omega
noncomputable def codeNm : Code := Tryz.f71.body.getD .skip
noncomputable def tNm0 : List Item := advG [.code codeNm]
noncomputable def tNm1 : List Item := advT 60 (tailT tNm0)
noncomputable def tNm2 : List Item := advT (cntO isSliceO 90 (thenT tNm1)) (thenT tNm1)
noncomputable def tNm3 : List Item := advG (elseT tNm1)
noncomputable def tNm4 : List Item := advT 60 (tailT tNm3)
noncomputable def tNm5 : List Item := advT 60 (elseT tNm4)
noncomputable def tNm6 : List Item := advT 60 (bodyT tNm5)
noncomputable def tNm7 : List Item := advG (thenT tNm6)
noncomputable def tNm8 : List Item := advT 60 (tailT tNm7)
noncomputable def tNm9 : List Item := advT 60 (elseT tNm8)
noncomputable def tNma : List Item := advT 60 (elseT tNm6)
abbrev NumR (w0 : World) (r : Option Int) (e : Ending) (w : World) : Prop := e = .returned (numV r) ∧ Below w0.heap.size w0 w
theorem num_rest (neg : Bool) (d : List UInt8) {w0 w : World} {E : Nat → Value} (hd : d.length ≤ 4294967296) (B : Below w0.heap.size w0 w) :
  At Tryz.prog 71 (NumR w0 (numRd neg d)) tNm3 (Fr 77 (updL E [(4, .bool neg), (5, .string ⟨⟨d⟩⟩)])) w := by
 refine at_ghost ((curReg tNm3).getD #[]) ⟨[], [], [⟨1, [(20, .string ⟨⟨d⟩⟩)], .bool (decide (d = [])), true⟩,
  ⟨13, [(32, .string ⟨⟨d⟩⟩)], .bool (!(decide (d = ten18))), ((d.length : Int) == 19) && ((!(cond (decide (d = [])) true (decide ((19 : Int) < (d.length : Int))))) && true)⟩,
  ⟨18, [(37, .string ⟨⟨d⟩⟩)], .int .u8 ((d.headD 0).toNat : Int), (!(cond (cond (decide (d = [])) true (decide ((19 : Int) < (d.length : Int)))) true (cond ((d.length : Int) == 19) (!(decide (d = ten18))) false))) && true⟩]⟩
  [(4, .bool neg), (5, .string ⟨⟨d⟩⟩), (48, .bool (badN neg d))] (by kernel_rfl) (by kernel_rfl) (by kernel_rfl) (fun e he => by cases he) (fun sp hsp => ?_) (fun X => by kernel_rfl) (by kernel_rfl) fun w1 E1 b1 => ?_
 ·simp only [List.mem_cons, List.not_mem_nil, or_false] at hsp
  rcases hsp with rfl | rfl | rfl
  ·refine spec_op fun _ E w _ => ?_
   exact exec_eqs (T := 9) (T' := 9) (x := .tmp 20) (y := .const (.string ⟨⟨[]⟩⟩)) (by kernel_rfl) (by kernel_rfl) (by kernel_rfl)
  ·refine spec_op fun _ E w _ => ?_
   exact exec_neqs (T := 9) (T' := 9) (x := .tmp 32) (y := .const (.string ⟨⟨ten18⟩⟩)) (by kernel_rfl) (by kernel_rfl) (by kernel_rfl)
  ·refine spec_op fun hc E w _ => ?_
   have hne : d ≠ [] := by
    intro h
    subst h
    simp at hc
   refine exec_idx (T := 9) (x := .tmp 37) (i := .const (.int .i64 0)) (v1 := .string ⟨⟨d⟩⟩) (v2 := .int .i64 ((0 : Nat) : Int)) (by kernel_rfl) (by kernel_rfl) (by kernel_rfl) ?_
   cases d with
   | nil => exact absurd rfl hne
   | cons c r => exact idx_str w (c :: r) 0 (by simp)
 have B1 := B.trans (b1.mono B.size)
 generalize hbad : badN neg d = bad
 refine at_run 60 (tailT tNm3) w1.heap.size [] [] tNm4 [(4, .bool neg), (5, .string ⟨⟨d⟩⟩), (48, .bool bad)] w1.heap.size [] (lies_nil w1) (by kernel_rfl) fun w2 E2 hL2 hK2 => ?_
 have B2 := B1.trans ((hK2.below (Nat.le_refl _) (fun k hk => by cases hk) : Below w1.heap.size w1 w2).mono B1.size)
 have none_of : (badN neg d = true ∨ d.all digB = false) → numRd neg d = none := by
  intro h
  unfold numRd
  rcases h with h | h
  ·rw [if_pos h]
  ·rw [h]; simp
 cases bad with
 | true =>
  rw [none_of (.inl hbad)]
  refine at_cond true (by kernel_rfl) (fun _ => ?_) (fun h => nomatch h)
  exact at_endT (fn := Tryz.f71) 60 (.tuple #[.int .i64 0, .bool false]) (by kernel_rfl) (by kernel_rfl) fun w3 B3 => ⟨rfl, B2.trans (B3.mono B2.size)⟩
 | false =>
 obtain ⟨hne, hd19, _⟩ := bad_facts hbad
 have hok : d.all digB = true → numRd neg d = some (if neg = true then -(valN d : Int) else valN d) := by
  intro h
  unfold numRd
  rw [if_neg (by rw [hbad]; decide), if_pos h]
 generalize hres : numRd neg d = res at *
 refine at_cond false (by kernel_rfl) (fun h => nomatch h) fun _ => ?_
 refine at_run 60 (elseT tNm4) w2.heap.size [] [] tNm5 [(4, .bool neg), (5, .string ⟨⟨d⟩⟩), (6, .int .i64 0), (7, .int .i64 0)] w2.heap.size [] (lies_nil w2) (by kernel_rfl) fun w3 E3 hL3 hK3 => ?_
 have B3 := B2.trans ((hK3.below (Nat.le_refl _) (fun k hk => by cases hk) : Below w2.heap.size w2 w3).mono B2.size)
 refine at_loop (by kernel_rfl) (fun E wx => ∃ (i : Nat) (E0 : Nat → Value), i ≤ d.length ∧ E = updL E0 [(4, .bool neg), (5, .string ⟨⟨d⟩⟩), (6, .int .i64 (valN (d.take i) : Nat)), (7, .int .i64 (i : Nat))] ∧ (d.take i).all digB = true ∧ Below w0.heap.size w0 wx)
  (fun E _ => d.length - idxOf (E 7)) ⟨0, E3, Nat.zero_le _, rfl, rfl, B3⟩ ?_
 rintro E wx ⟨i, E0, hi, rfl, hdig, Bx⟩ hagain
 have hvl := val_le hbad i hi hdig
 refine at_run 60 (bodyT tNm5) wx.heap.size [] [] tNm6 [(4, .bool neg), (5, .string ⟨⟨d⟩⟩), (6, .int .i64 (valN (d.take i) : Nat)), (7, .int .i64 (i : Nat)), (52, .bool (decide ((i : Int) < (d.length : Int))))] wx.heap.size [] (lies_nil wx) (by kernel_rfl) fun w4 E4 hL4 hK4 => ?_
 have B4 := Bx.trans ((hK4.below (Nat.le_refl _) (fun k hk => by cases hk) : Below wx.heap.size wx w4).mono Bx.size)
 refine at_cond (decide ((i : Int) < (d.length : Int))) (by kernel_rfl) (fun ht => ?_) (fun hf => ?_)
 ·have hlt : i < d.length := by have := of_decide_eq_true ht; omega
  have hsnoc : d.take (i + 1) = d.take i ++ [d[i]] := by rw [List.take_add_one, List.getElem?_eq_getElem hlt]; rfl
  have hmem := List.getElem_mem hlt
  have hget := fun w => idx_str w d i hlt
  have hv1 := valN_snoc (d.take i) d[i]
  rw [← hsnoc] at hv1
  have hv2 := val_le hbad (i + 1) hlt
  generalize hc : d[i] = c at *
  refine at_run (cntG 90 (thenT tNm6)) (thenT tNm6) w4.heap.size [] [] tNm7 [(4, .bool neg), (5, .string ⟨⟨d⟩⟩), (6, .int .i64 (valN (d.take i) : Nat)), (7, .int .i64 (i : Nat))] w4.heap.size [] (lies_nil w4) (by kernel_rfl) fun w5 E5 hL5 hK5 => ?_
  have B5 := B4.trans ((hK5.below (Nat.le_refl _) (fun k hk => by cases hk) : Below w4.heap.size w4 w5).mono B4.size)
  refine at_ghost ((curReg tNm7).getD #[]) ⟨[], [], [⟨2, [(55, .string ⟨⟨d⟩⟩), (56, .int .i64 (i : Nat))], .int .u8 (c.toNat : Int), true⟩, ⟨7, [(60, .string ⟨⟨d⟩⟩), (61, .int .i64 (i : Nat))], .int .u8 (c.toNat : Int), (!(decide ((c.toNat : Int) < 48))) && true⟩]⟩
   [(4, .bool neg), (5, .string ⟨⟨d⟩⟩), (6, .int .i64 (valN (d.take i) : Nat)), (7, .int .i64 (i : Nat)), (64, .bool (cond (decide ((c.toNat : Int) < 48)) true (decide ((57 : Int) < (c.toNat : Int)))))] (by kernel_rfl) (by kernel_rfl) (by kernel_rfl) (fun e he => by cases he) (fun sp hsp => ?_) (fun X => by kernel_rfl) (by kernel_rfl) fun w6 E6 b6 => ?_
  ·simp only [List.mem_cons, List.not_mem_nil, or_false] at hsp
   rcases hsp with rfl | rfl
   ·refine spec_op fun _ E w _ => ?_
    exact exec_idx (T := 9) (x := .tmp 55) (i := .tmp 56) (v1 := .string ⟨⟨d⟩⟩) (v2 := .int .i64 (i : Int)) (by kernel_rfl) (by kernel_rfl) (by kernel_rfl) (hget w)
   ·refine spec_op fun _ E w _ => ?_
    exact exec_idx (T := 9) (x := .tmp 60) (i := .tmp 61) (v1 := .string ⟨⟨d⟩⟩) (v2 := .int .i64 (i : Int)) (by kernel_rfl) (by kernel_rfl) (by kernel_rfl) (hget w)
  have B6 := B5.trans (b6.mono B5.size)
  have hdc : digB c = !(cond (decide ((c.toNat : Int) < 48)) true (decide ((57 : Int) < (c.toNat : Int)))) := rfl
  generalize hbc : cond (decide ((c.toNat : Int) < 48)) true (decide ((57 : Int) < (c.toNat : Int))) = bc at *
  refine at_run 60 (tailT tNm7) w6.heap.size [] [] tNm8 [(4, .bool neg), (5, .string ⟨⟨d⟩⟩), (6, .int .i64 (valN (d.take i) : Nat)), (7, .int .i64 (i : Nat)), (64, .bool bc)] w6.heap.size [] (lies_nil w6) (by kernel_rfl) fun w7 E7 hL7 hK7 => ?_
  have B7 := B6.trans ((hK7.below (Nat.le_refl _) (fun k hk => by cases hk) : Below w6.heap.size w6 w7).mono B6.size)
  cases bc with
  | true =>
   have hall : d.all digB = false := by
    rw [List.all_eq_false]
    exact ⟨c, hmem, by rw [hdc]; decide⟩
   rw [none_of (.inr hall)]
   refine at_cond true (by kernel_rfl) (fun _ => ?_) (fun h => nomatch h)
   exact at_endT (fn := Tryz.f71) 60 (.tuple #[.int .i64 0, .bool false]) (by kernel_rfl) (by kernel_rfl) fun w8 B8 => ⟨rfl, B7.trans (B8.mono B7.size)⟩
  | false =>
   have hdt : digB c = true := by rw [hdc]; rfl
   have hr := dig_of hdt
   have hdig2 : (d.take (i + 1)).all digB = true := by rw [hsnoc, List.all_append, hdig]; simp [hdt]
   have hv3 := hv2 hdig2
   refine at_cond false (by kernel_rfl) (fun h => nomatch h) fun _ => ?_
   refine at_run 60 (elseT tNm8) w7.heap.size [] [] tNm9 [(4, .bool neg), (5, .string ⟨⟨d⟩⟩), (7, .int .i64 (i : Nat)), (66, .int .i64 (IntKind.i64.wrap (10 * (valN (d.take i) : Nat)))), (67, .string ⟨⟨d⟩⟩), (68, .int .i64 (i : Nat))] w7.heap.size [] (lies_nil w7) (by kernel_rfl) fun w8 E8 hL8 hK8 => ?_
   have B8 := B7.trans ((hK8.below (Nat.le_refl _) (fun k hk => by cases hk) : Below w7.heap.size w7 w8).mono B7.size)
   refine at_index 9 (.string ⟨⟨d⟩⟩) (.int .i64 (i : Int)) (some 69) (.int .u8 (c.toNat : Int)) (by kernel_rfl) (hget w8) ?_
   refine at_run 60 (popOp tNm9) w8.heap.size [] [] (againT tNm5) [(4, .bool neg), (5, .string ⟨⟨d⟩⟩), (6, .int .i64 (IntKind.i64.wrap (IntKind.i64.wrap (10 * (valN (d.take i) : Nat)) + IntKind.i64.wrap (IntKind.u8.wrap ((c.toNat : Int) - 48))))), (7, .int .i64 (IntKind.i64.wrap ((i : Int) + 1)))] w8.heap.size [] (lies_nil w8) (by kernel_rfl) fun w9 E9 hL9 hK9 => ?_
   have B9 := B8.trans ((hK9.below (Nat.le_refl _) (fun k hk => by cases hk) : Below w8.heap.size w8 w9).mono B8.size)
   have hwi : IntKind.i64.wrap ((i : Int) + 1) = ((i + 1 : Nat) : Int) := by rw [IntWalk.i64_in _ (by omega)]; omega
   have hu8 : IntKind.u8.wrap ((c.toNat : Int) - 48) = ((c.toNat - 48 : Nat) : Int) := by
    show ((c.toNat : Int) - 48) % 256 = _
    omega
   have hwn : IntKind.i64.wrap (IntKind.i64.wrap (10 * (valN (d.take i) : Nat)) + IntKind.i64.wrap (IntKind.u8.wrap ((c.toNat : Int) - 48))) = ((valN (d.take (i + 1)) : Nat) : Int) := by
    rw [hu8, IntWalk.i64_in (10 * (valN (d.take i) : Nat)) (by omega), IntWalk.i64_in (((c.toNat - 48 : Nat) : Int)) (by omega), IntWalk.i64_in _ (by omega), hv1]
    omega
   rw [hwi, hwn]
   refine hagain _ _ ⟨i + 1, E9, hlt, rfl, hdig2, B9⟩ ?_
   show d.length - idxOf (.int .i64 ((i + 1 : Nat) : Int)) < d.length - idxOf (.int .i64 (i : Int))
   simp only [idxOf]
   omega
 ·have hie : i = d.length := by have := of_decide_eq_false hf; omega
  subst hie
  rw [List.take_length] at hdig hvl ⊢
  have hr := hok hdig
  rw [hr]
  refine at_run 60 (elseT tNm6) w4.heap.size [] [] tNma [(6, .int .i64 (valN d : Nat)), (73, .bool neg)] w4.heap.size [] (lies_nil w4) (by kernel_rfl) fun w5 E5 hL5 hK5 => ?_
  have B5 := B4.trans ((hK5.below (Nat.le_refl _) (fun k hk => by cases hk) : Below w4.heap.size w4 w5).mono B4.size)
  cases neg with
  | true =>
   refine at_cond true (by kernel_rfl) (fun _ => ?_) (fun h => nomatch h)
   have hwn : IntKind.i64.wrap (0 - ((valN d : Nat) : Int)) = -((valN d : Nat) : Int) := by rw [IntWalk.i64_in _ (by omega)]; omega
   refine at_endT (fn := Tryz.f71) 60 (.tuple #[.int .i64 (IntKind.i64.wrap (0 - ((valN d : Nat) : Int))), .bool true]) (by kernel_rfl) (by kernel_rfl) fun w6 B6 => ⟨?_, B5.trans (B6.mono B5.size)⟩
   rw [hwn]
   rfl
  | false =>
   refine at_cond false (by kernel_rfl) (fun h => nomatch h) fun _ => ?_
   exact at_endT (fn := Tryz.f71) 60 (.tuple #[.int .i64 (valN d : Nat), .bool true]) (by kernel_rfl) (by kernel_rfl) fun w6 B6 => ⟨rfl, B5.trans (B6.mono B5.size)⟩
theorem rnum_any (s : List UInt8) (w : World) (hs : s.length ≤ 4294967296) :
  Calls Tryz.prog 71 #[.string ⟨⟨s⟩⟩] w (NumR w (numR s)) := by
 refine calls_at (args := [.string ⟨⟨s⟩⟩]) (fn := Tryz.f71) (c := codeNm) (n := 77) (by kernel_rfl) (by kernel_rfl) (by kernel_rfl) (by kernel_rfl) ?_
 refine at_run (cntG 90 [.code codeNm]) [.code codeNm] w.heap.size [] [] tNm0 [(0, .string ⟨⟨s⟩⟩)] w.heap.size [] (lies_nil w) (by kernel_rfl) fun w1 E1 hL1 hK1 => ?_
 have B1 : Below w.heap.size w w1 := hK1.below (Nat.le_refl _) (fun k hk => by cases hk)
 refine at_ghost ((curReg tNm0).getD #[]) ⟨[], [], [⟨5, [(12, .string ⟨⟨s⟩⟩)], .int .u8 ((s.headD 0).toNat : Int), (decide ((1 : Int) < (s.length : Int))) && true⟩]⟩ [(0, .string ⟨⟨s⟩⟩), (4, .bool (negN s))] (by kernel_rfl) (by kernel_rfl) (by kernel_rfl) (fun e he => by cases he) (fun sp hsp => ?_) (fun X => by kernel_rfl) (by kernel_rfl) fun w2 E2 b2 => ?_
 ·rw [List.mem_singleton.1 hsp]
  refine spec_op fun hc E w _ => ?_
  refine exec_idx (T := 9) (x := .tmp 12) (i := .const (.int .i64 0)) (v1 := .string ⟨⟨s⟩⟩) (v2 := .int .i64 ((0 : Nat) : Int)) (by kernel_rfl) (by kernel_rfl) (by kernel_rfl) ?_
  cases s with
  | nil => simp at hc
  | cons c r => exact idx_str w (c :: r) 0 (by simp)
 have B2 := B1.trans (b2.mono B1.size)
 have hn1 : negN s = true → 1 ≤ s.length := by
  intro h
  cases s with
  | nil => cases h
  | cons => simp
 unfold numR
 generalize negN s = neg at *
 refine at_run 60 (tailT tNm0) w2.heap.size [] [] tNm1 [(0, .string ⟨⟨s⟩⟩), (4, .bool neg), (5, .string ⟨⟨s⟩⟩), (17, .bool neg)] w2.heap.size [] (lies_nil w2) (by kernel_rfl) fun w3 E3 hL3 hK3 => ?_
 have B3 := B2.trans ((hK3.below (Nat.le_refl _) (fun k hk => by cases hk) : Below w2.heap.size w2 w3).mono B2.size)
 cases neg with
 | true =>
  rw [if_pos rfl]
  refine at_cond true (by kernel_rfl) (fun _ => ?_) (fun h => nomatch h)
  refine at_run (cntO isSliceO 90 (thenT tNm1)) (thenT tNm1) w3.heap.size [] [] tNm2 [(4, .bool true), (18, .string ⟨⟨s⟩⟩)] w3.heap.size [] (lies_nil w3) (by kernel_rfl) fun w4 E4 hL4 hK4 => ?_
  have B4 := B3.trans ((hK4.below (Nat.le_refl _) (fun k hk => by cases hk) : Below w3.heap.size w3 w4).mono B3.size)
  refine at_op (opAt tNm2) (by kernel_rfl) (v := .string ⟨⟨s.drop 1⟩⟩) (w' := w4) (exec_loS (t := 9) (x := .tmp 18) (h := .const (.int .i64 1)) (a := 1) (by kernel_rfl) Tryz.underlying9 (by kernel_rfl) (by kernel_rfl) (hn1 rfl)) ?_
  have hdl : (s.drop 1).length ≤ s.length := by rw [List.length_drop]; omega
  generalize s.drop 1 = d at *
  refine at_run (cntG 90 (popOp tNm2)) (popOp tNm2) w4.heap.size [] [] tNm3 [(4, .bool true), (5, .string ⟨⟨d⟩⟩)] w4.heap.size [] (lies_nil w4) (by kernel_rfl) fun w5 E5 hL5 hK5 => ?_
  exact num_rest true d (by omega) (B4.trans ((hK5.below (Nat.le_refl _) (fun k hk => by cases hk) : Below w4.heap.size w4 w5).mono B4.size))
 | false =>
  rw [if_neg (by decide)]
  refine at_cond false (by kernel_rfl) (fun h => nomatch h) fun _ => ?_
  refine at_run (cntG 90 (elseT tNm1)) (elseT tNm1) w3.heap.size [] [] tNm3 [(4, .bool false), (5, .string ⟨⟨s⟩⟩)] w3.heap.size [] (lies_nil w3) (by kernel_rfl) fun w4 E4 hL4 hK4 => ?_
  exact num_rest false s hs (B3.trans ((hK4.below (Nat.le_refl _) (fun k hk => by cases hk) : Below w3.heap.size w3 w4).mono B3.size))
end Go.Proofs.YtdcbnkimjhefkaaGreatDoor

namespace Go.Proofs.YtdcbnkimjhefkaaGreatDoor
open Go.RowKit
set_option maxRecDepth 100000
theorem numO_some {s : List UInt8} {n : Int} (h : numO s = some n) : Lib.itoa n = s ∧ -1000000000000000000 ≤ n ∧ n ≤ 1000000000000000000 := by
 unfold numO at h
 split at h
 ·split at h
  ·rename_i hc
   obtain rfl := Option.some.inj h
   exact hc
  ·cases h
 ·cases h
theorem fits_in {n : Int} (h1 : -1000000000000000000 ≤ n) (h2 : n ≤ 1000000000000000000) : fitsP n = true := by
 unfold fitsP
 rw [decide_eq_true h1, decide_eq_true h2]
 rfl
theorem inR_of {n : Int} (h1 : -1000000000000000000 ≤ n) (h2 : n ≤ 1000000000000000000) : inR n := ⟨by omega, by omega⟩
theorem lp78 (s : List UInt8) (c : Cmd) : letP (78 : UInt8).toNat s c = if Tk.isName s = true then some { c with nm := s } else none := rfl
theorem lp87 (s : List UInt8) (c : Cmd) : letP (87 : UInt8).toNat s c = match numO s with | some n => if 0 ≤ n then some { c with wh := n.toNat } else none | none => none := rfl
theorem lp69 (s : List UInt8) (c : Cmd) : letP (69 : UInt8).toNat s c = (numO s).map fun n => { c with emp := n } := rfl
theorem lp68 (s : List UInt8) (c : Cmd) : letP (68 : UInt8).toNat s c = (numO s).map fun n => { c with fr := n } := rfl
theorem lp86 (s : List UInt8) (c : Cmd) : letP (86 : UInt8).toNat s c = (numO s).map fun n => { c with val := n } := rfl
theorem lp88 (s : List UInt8) (c : Cmd) : letP (88 : UInt8).toNat s c = (numO s).map fun n => { c with ext := n } := rfl
theorem lp82 (s : List UInt8) (c : Cmd) : letP (82 : UInt8).toNat s c = (numO s).map fun n => { c with rnk := n } := rfl
theorem lp80 (s : List UInt8) (c : Cmd) : letP (80 : UInt8).toNat s c = (numO s).map fun n => { c with per := n } := rfl
theorem lp84 (s : List UInt8) (c : Cmd) : letP (84 : UInt8).toNat s c = (numO s).map fun n => { c with torn := n } := rfl
theorem lp83 (s : List UInt8) (c : Cmd) : letP (83 : UInt8).toNat s c = (numO s).map fun n => { c with stop := n } := rfl
structure Back (F : Form) (r : List (List UInt8)) (c : Cmd) : Prop where
 form : formOf c = some F
 ok : okL c F.letters = true
 items : itemsP c F.letters = r.flatMap fun w => 32 :: w
 left : restP c F.letters = Cmd.of F
 txt : c.txt = []
 fk : c.fk = F.fact
 wf : c.Wf
theorem back0 (r : List (List UInt8)) (c : Cmd) (hl : r.length = 2) (hr : ∀ w ∈ r, w.length ≤ 70000) (hc : letsP [69, 68] r (Cmd.of ⟨[104, 105, 114, 101], 1, 1, [69, 68]⟩) = some c) : Back ⟨[104, 105, 114, 101], 1, 1, [69, 68]⟩ r c := by
 match r, hl with
 | [r1, r2], _ =>
  simp only [letsP, lp69, lp68] at hc
  cases h1 : numO r1 with
  | none => simp only [h1, Option.map_none] at hc; cases hc
  | some n1 =>
  simp only [h1, Option.map_some] at hc
  obtain ⟨i1, a1, b1⟩ := numO_some h1
  have f1 := fits_in a1 b1
  have g1 := inR_of a1 b1
  cases h2 : numO r2 with
  | none => simp only [h2, Option.map_none] at hc; cases hc
  | some n2 =>
  simp only [h2, Option.map_some] at hc
  obtain ⟨i2, a2, b2⟩ := numO_some h2
  have f2 := fits_in a2 b2
  have g2 := inR_of a2 b2
  obtain rfl := Option.some.inj hc
  refine ⟨by kernel_rfl, ?_, ?_, by kernel_rfl, rfl, rfl, ⟨(show inR 1 from ⟨by decide, by decide⟩), g1, (show inR 1 from ⟨by decide, by decide⟩), g2, zero_in, zero_in, zero_in, zero_in, zero_in, zero_in, (show (0 : Nat) < 18446744073709551616 from by decide), (Nat.zero_le _), Nat.zero_le _⟩⟩
  ·show (fitsP n1 && (fitsP n2 && true)) = true
   rw [f1, f2]
   rfl
  ·show ((32 :: Lib.itoa n1) ++ ((32 :: Lib.itoa n2) ++ [])) = _
   rw [i1, i2]
   rfl
theorem back1 (r : List (List UInt8)) (c : Cmd) (hl : r.length = 2) (hr : ∀ w ∈ r, w.length ≤ 70000) (hc : letsP [69, 68] r (Cmd.of ⟨[108, 101, 97, 118, 101], 1, 2, [69, 68]⟩) = some c) : Back ⟨[108, 101, 97, 118, 101], 1, 2, [69, 68]⟩ r c := by
 match r, hl with
 | [r1, r2], _ =>
  simp only [letsP, lp69, lp68] at hc
  cases h1 : numO r1 with
  | none => simp only [h1, Option.map_none] at hc; cases hc
  | some n1 =>
  simp only [h1, Option.map_some] at hc
  obtain ⟨i1, a1, b1⟩ := numO_some h1
  have f1 := fits_in a1 b1
  have g1 := inR_of a1 b1
  cases h2 : numO r2 with
  | none => simp only [h2, Option.map_none] at hc; cases hc
  | some n2 =>
  simp only [h2, Option.map_some] at hc
  obtain ⟨i2, a2, b2⟩ := numO_some h2
  have f2 := fits_in a2 b2
  have g2 := inR_of a2 b2
  obtain rfl := Option.some.inj hc
  refine ⟨by kernel_rfl, ?_, ?_, by kernel_rfl, rfl, rfl, ⟨(show inR 1 from ⟨by decide, by decide⟩), g1, (show inR 2 from ⟨by decide, by decide⟩), g2, zero_in, zero_in, zero_in, zero_in, zero_in, zero_in, (show (0 : Nat) < 18446744073709551616 from by decide), (Nat.zero_le _), Nat.zero_le _⟩⟩
  ·show (fitsP n1 && (fitsP n2 && true)) = true
   rw [f1, f2]
   rfl
  ·show ((32 :: Lib.itoa n1) ++ ((32 :: Lib.itoa n2) ++ [])) = _
   rw [i1, i2]
   rfl
theorem back2 (r : List (List UInt8)) (c : Cmd) (hl : r.length = 4) (hr : ∀ w ∈ r, w.length ≤ 70000) (hc : letsP [69, 78, 68, 86] r (Cmd.of ⟨[105, 110, 112, 117, 116], 1, 3, [69, 78, 68, 86]⟩) = some c) : Back ⟨[105, 110, 112, 117, 116], 1, 3, [69, 78, 68, 86]⟩ r c := by
 match r, hl with
 | [r1, r2, r3, r4], _ =>
  simp only [letsP, lp69, lp78, lp68, lp86] at hc
  cases h1 : numO r1 with
  | none => simp only [h1, Option.map_none] at hc; cases hc
  | some n1 =>
  simp only [h1, Option.map_some] at hc
  obtain ⟨i1, a1, b1⟩ := numO_some h1
  have f1 := fits_in a1 b1
  have g1 := inR_of a1 b1
  by_cases h2 : Tk.isName r2 = true
  case neg => simp only [if_neg h2] at hc; cases hc
  simp only [if_pos h2] at hc
  cases h3 : numO r3 with
  | none => simp only [h3, Option.map_none] at hc; cases hc
  | some n3 =>
  simp only [h3, Option.map_some] at hc
  obtain ⟨i3, a3, b3⟩ := numO_some h3
  have f3 := fits_in a3 b3
  have g3 := inR_of a3 b3
  cases h4 : numO r4 with
  | none => simp only [h4, Option.map_none] at hc; cases hc
  | some n4 =>
  simp only [h4, Option.map_some] at hc
  obtain ⟨i4, a4, b4⟩ := numO_some h4
  have f4 := fits_in a4 b4
  have g4 := inR_of a4 b4
  obtain rfl := Option.some.inj hc
  refine ⟨by kernel_rfl, ?_, ?_, by kernel_rfl, rfl, rfl, ⟨(show inR 1 from ⟨by decide, by decide⟩), g1, (show inR 3 from ⟨by decide, by decide⟩), g3, g4, zero_in, zero_in, zero_in, zero_in, zero_in, (show (0 : Nat) < 18446744073709551616 from by decide), (Nat.le_trans (hr r2 (by simp)) (by decide)), Nat.zero_le _⟩⟩
  ·show (fitsP n1 && (Tk.isName r2 && (fitsP n3 && (fitsP n4 && true)))) = true
   rw [f1, h2, f3, f4]
   rfl
  ·show ((32 :: Lib.itoa n1) ++ ((32 :: r2) ++ ((32 :: Lib.itoa n3) ++ ((32 :: Lib.itoa n4) ++ [])))) = _
   rw [i1, i3, i4]
   rfl
theorem back3 (r : List (List UInt8)) (c : Cmd) (hl : r.length = 4) (hr : ∀ w ∈ r, w.length ≤ 70000) (hc : letsP [69, 78, 68, 86] r (Cmd.of ⟨[104, 111, 117, 114, 115], 1, 4, [69, 78, 68, 86]⟩) = some c) : Back ⟨[104, 111, 117, 114, 115], 1, 4, [69, 78, 68, 86]⟩ r c := by
 match r, hl with
 | [r1, r2, r3, r4], _ =>
  simp only [letsP, lp69, lp78, lp68, lp86] at hc
  cases h1 : numO r1 with
  | none => simp only [h1, Option.map_none] at hc; cases hc
  | some n1 =>
  simp only [h1, Option.map_some] at hc
  obtain ⟨i1, a1, b1⟩ := numO_some h1
  have f1 := fits_in a1 b1
  have g1 := inR_of a1 b1
  by_cases h2 : Tk.isName r2 = true
  case neg => simp only [if_neg h2] at hc; cases hc
  simp only [if_pos h2] at hc
  cases h3 : numO r3 with
  | none => simp only [h3, Option.map_none] at hc; cases hc
  | some n3 =>
  simp only [h3, Option.map_some] at hc
  obtain ⟨i3, a3, b3⟩ := numO_some h3
  have f3 := fits_in a3 b3
  have g3 := inR_of a3 b3
  cases h4 : numO r4 with
  | none => simp only [h4, Option.map_none] at hc; cases hc
  | some n4 =>
  simp only [h4, Option.map_some] at hc
  obtain ⟨i4, a4, b4⟩ := numO_some h4
  have f4 := fits_in a4 b4
  have g4 := inR_of a4 b4
  obtain rfl := Option.some.inj hc
  refine ⟨by kernel_rfl, ?_, ?_, by kernel_rfl, rfl, rfl, ⟨(show inR 1 from ⟨by decide, by decide⟩), g1, (show inR 4 from ⟨by decide, by decide⟩), g3, g4, zero_in, zero_in, zero_in, zero_in, zero_in, (show (0 : Nat) < 18446744073709551616 from by decide), (Nat.le_trans (hr r2 (by simp)) (by decide)), Nat.zero_le _⟩⟩
  ·show (fitsP n1 && (Tk.isName r2 && (fitsP n3 && (fitsP n4 && true)))) = true
   rw [f1, h2, f3, f4]
   rfl
  ·show ((32 :: Lib.itoa n1) ++ ((32 :: r2) ++ ((32 :: Lib.itoa n3) ++ ((32 :: Lib.itoa n4) ++ [])))) = _
   rw [i1, i3, i4]
   rfl
theorem back4 (r : List (List UInt8)) (c : Cmd) (hl : r.length = 1) (hr : ∀ w ∈ r, w.length ≤ 70000) (hc : letsP [68] r (Cmd.of ⟨[97, 103, 114, 101, 101, 109, 101, 110, 116], 1, 5, [68]⟩) = some c) : Back ⟨[97, 103, 114, 101, 101, 109, 101, 110, 116], 1, 5, [68]⟩ r c := by
 match r, hl with
 | [r1], _ =>
  simp only [letsP, lp68] at hc
  cases h1 : numO r1 with
  | none => simp only [h1, Option.map_none] at hc; cases hc
  | some n1 =>
  simp only [h1, Option.map_some] at hc
  obtain ⟨i1, a1, b1⟩ := numO_some h1
  have f1 := fits_in a1 b1
  have g1 := inR_of a1 b1
  obtain rfl := Option.some.inj hc
  refine ⟨by kernel_rfl, ?_, ?_, by kernel_rfl, rfl, rfl, ⟨(show inR 1 from ⟨by decide, by decide⟩), zero_in, (show inR 5 from ⟨by decide, by decide⟩), g1, zero_in, zero_in, zero_in, zero_in, zero_in, zero_in, (show (0 : Nat) < 18446744073709551616 from by decide), (Nat.zero_le _), Nat.zero_le _⟩⟩
  ·show (fitsP n1 && true) = true
   rw [f1]
   rfl
  ·show ((32 :: Lib.itoa n1) ++ []) = _
   rw [i1]
   rfl
theorem back5 (r : List (List UInt8)) (c : Cmd) (hl : r.length = 2) (hr : ∀ w ∈ r, w.length ≤ 70000) (hc : letsP [68, 86] r (Cmd.of ⟨[114, 117, 108, 101, 115], 1, 6, [68, 86]⟩) = some c) : Back ⟨[114, 117, 108, 101, 115], 1, 6, [68, 86]⟩ r c := by
 match r, hl with
 | [r1, r2], _ =>
  simp only [letsP, lp68, lp86] at hc
  cases h1 : numO r1 with
  | none => simp only [h1, Option.map_none] at hc; cases hc
  | some n1 =>
  simp only [h1, Option.map_some] at hc
  obtain ⟨i1, a1, b1⟩ := numO_some h1
  have f1 := fits_in a1 b1
  have g1 := inR_of a1 b1
  cases h2 : numO r2 with
  | none => simp only [h2, Option.map_none] at hc; cases hc
  | some n2 =>
  simp only [h2, Option.map_some] at hc
  obtain ⟨i2, a2, b2⟩ := numO_some h2
  have f2 := fits_in a2 b2
  have g2 := inR_of a2 b2
  obtain rfl := Option.some.inj hc
  refine ⟨by kernel_rfl, ?_, ?_, by kernel_rfl, rfl, rfl, ⟨(show inR 1 from ⟨by decide, by decide⟩), zero_in, (show inR 6 from ⟨by decide, by decide⟩), g1, g2, zero_in, zero_in, zero_in, zero_in, zero_in, (show (0 : Nat) < 18446744073709551616 from by decide), (Nat.zero_le _), Nat.zero_le _⟩⟩
  ·show (fitsP n1 && (fitsP n2 && true)) = true
   rw [f1, f2]
   rfl
  ·show ((32 :: Lib.itoa n1) ++ ((32 :: Lib.itoa n2) ++ [])) = _
   rw [i1, i2]
   rfl
theorem back6 (r : List (List UInt8)) (c : Cmd) (hl : r.length = 3) (hr : ∀ w ∈ r, w.length ≤ 70000) (hc : letsP [69, 68, 86] r (Cmd.of ⟨[100, 101, 112, 101, 110, 100, 101, 110, 116, 115], 1, 7, [69, 68, 86]⟩) = some c) : Back ⟨[100, 101, 112, 101, 110, 100, 101, 110, 116, 115], 1, 7, [69, 68, 86]⟩ r c := by
 match r, hl with
 | [r1, r2, r3], _ =>
  simp only [letsP, lp69, lp68, lp86] at hc
  cases h1 : numO r1 with
  | none => simp only [h1, Option.map_none] at hc; cases hc
  | some n1 =>
  simp only [h1, Option.map_some] at hc
  obtain ⟨i1, a1, b1⟩ := numO_some h1
  have f1 := fits_in a1 b1
  have g1 := inR_of a1 b1
  cases h2 : numO r2 with
  | none => simp only [h2, Option.map_none] at hc; cases hc
  | some n2 =>
  simp only [h2, Option.map_some] at hc
  obtain ⟨i2, a2, b2⟩ := numO_some h2
  have f2 := fits_in a2 b2
  have g2 := inR_of a2 b2
  cases h3 : numO r3 with
  | none => simp only [h3, Option.map_none] at hc; cases hc
  | some n3 =>
  simp only [h3, Option.map_some] at hc
  obtain ⟨i3, a3, b3⟩ := numO_some h3
  have f3 := fits_in a3 b3
  have g3 := inR_of a3 b3
  obtain rfl := Option.some.inj hc
  refine ⟨by kernel_rfl, ?_, ?_, by kernel_rfl, rfl, rfl, ⟨(show inR 1 from ⟨by decide, by decide⟩), g1, (show inR 7 from ⟨by decide, by decide⟩), g2, g3, zero_in, zero_in, zero_in, zero_in, zero_in, (show (0 : Nat) < 18446744073709551616 from by decide), (Nat.zero_le _), Nat.zero_le _⟩⟩
  ·show (fitsP n1 && (fitsP n2 && (fitsP n3 && true))) = true
   rw [f1, f2, f3]
   rfl
  ·show ((32 :: Lib.itoa n1) ++ ((32 :: Lib.itoa n2) ++ ((32 :: Lib.itoa n3) ++ []))) = _
   rw [i1, i2, i3]
   rfl
theorem back7 (r : List (List UInt8)) (c : Cmd) (hl : r.length = 6) (hr : ∀ w ∈ r, w.length ≤ 70000) (hc : letsP [69, 78, 68, 86, 88, 82] r (Cmd.of ⟨[111, 114, 100, 101, 114], 1, 8, [69, 78, 68, 86, 88, 82]⟩) = some c) : Back ⟨[111, 114, 100, 101, 114], 1, 8, [69, 78, 68, 86, 88, 82]⟩ r c := by
 match r, hl with
 | [r1, r2, r3, r4, r5, r6], _ =>
  simp only [letsP, lp69, lp78, lp68, lp86, lp88, lp82] at hc
  cases h1 : numO r1 with
  | none => simp only [h1, Option.map_none] at hc; cases hc
  | some n1 =>
  simp only [h1, Option.map_some] at hc
  obtain ⟨i1, a1, b1⟩ := numO_some h1
  have f1 := fits_in a1 b1
  have g1 := inR_of a1 b1
  by_cases h2 : Tk.isName r2 = true
  case neg => simp only [if_neg h2] at hc; cases hc
  simp only [if_pos h2] at hc
  cases h3 : numO r3 with
  | none => simp only [h3, Option.map_none] at hc; cases hc
  | some n3 =>
  simp only [h3, Option.map_some] at hc
  obtain ⟨i3, a3, b3⟩ := numO_some h3
  have f3 := fits_in a3 b3
  have g3 := inR_of a3 b3
  cases h4 : numO r4 with
  | none => simp only [h4, Option.map_none] at hc; cases hc
  | some n4 =>
  simp only [h4, Option.map_some] at hc
  obtain ⟨i4, a4, b4⟩ := numO_some h4
  have f4 := fits_in a4 b4
  have g4 := inR_of a4 b4
  cases h5 : numO r5 with
  | none => simp only [h5, Option.map_none] at hc; cases hc
  | some n5 =>
  simp only [h5, Option.map_some] at hc
  obtain ⟨i5, a5, b5⟩ := numO_some h5
  have f5 := fits_in a5 b5
  have g5 := inR_of a5 b5
  cases h6 : numO r6 with
  | none => simp only [h6, Option.map_none] at hc; cases hc
  | some n6 =>
  simp only [h6, Option.map_some] at hc
  obtain ⟨i6, a6, b6⟩ := numO_some h6
  have f6 := fits_in a6 b6
  have g6 := inR_of a6 b6
  obtain rfl := Option.some.inj hc
  refine ⟨by kernel_rfl, ?_, ?_, by kernel_rfl, rfl, rfl, ⟨(show inR 1 from ⟨by decide, by decide⟩), g1, (show inR 8 from ⟨by decide, by decide⟩), g3, g4, g5, g6, zero_in, zero_in, zero_in, (show (0 : Nat) < 18446744073709551616 from by decide), (Nat.le_trans (hr r2 (by simp)) (by decide)), Nat.zero_le _⟩⟩
  ·show (fitsP n1 && (Tk.isName r2 && (fitsP n3 && (fitsP n4 && (fitsP n5 && (fitsP n6 && true)))))) = true
   rw [f1, h2, f3, f4, f5, f6]
   rfl
  ·show ((32 :: Lib.itoa n1) ++ ((32 :: r2) ++ ((32 :: Lib.itoa n3) ++ ((32 :: Lib.itoa n4) ++ ((32 :: Lib.itoa n5) ++ ((32 :: Lib.itoa n6) ++ [])))))) = _
   rw [i1, i3, i4, i5, i6]
   rfl
theorem back8 (r : List (List UInt8)) (c : Cmd) (hl : r.length = 6) (hr : ∀ w ∈ r, w.length ≤ 70000) (hc : letsP [69, 78, 68, 86, 88, 82] r (Cmd.of ⟨[100, 101, 100, 117, 99, 116, 105, 111, 110], 1, 9, [69, 78, 68, 86, 88, 82]⟩) = some c) : Back ⟨[100, 101, 100, 117, 99, 116, 105, 111, 110], 1, 9, [69, 78, 68, 86, 88, 82]⟩ r c := by
 match r, hl with
 | [r1, r2, r3, r4, r5, r6], _ =>
  simp only [letsP, lp69, lp78, lp68, lp86, lp88, lp82] at hc
  cases h1 : numO r1 with
  | none => simp only [h1, Option.map_none] at hc; cases hc
  | some n1 =>
  simp only [h1, Option.map_some] at hc
  obtain ⟨i1, a1, b1⟩ := numO_some h1
  have f1 := fits_in a1 b1
  have g1 := inR_of a1 b1
  by_cases h2 : Tk.isName r2 = true
  case neg => simp only [if_neg h2] at hc; cases hc
  simp only [if_pos h2] at hc
  cases h3 : numO r3 with
  | none => simp only [h3, Option.map_none] at hc; cases hc
  | some n3 =>
  simp only [h3, Option.map_some] at hc
  obtain ⟨i3, a3, b3⟩ := numO_some h3
  have f3 := fits_in a3 b3
  have g3 := inR_of a3 b3
  cases h4 : numO r4 with
  | none => simp only [h4, Option.map_none] at hc; cases hc
  | some n4 =>
  simp only [h4, Option.map_some] at hc
  obtain ⟨i4, a4, b4⟩ := numO_some h4
  have f4 := fits_in a4 b4
  have g4 := inR_of a4 b4
  cases h5 : numO r5 with
  | none => simp only [h5, Option.map_none] at hc; cases hc
  | some n5 =>
  simp only [h5, Option.map_some] at hc
  obtain ⟨i5, a5, b5⟩ := numO_some h5
  have f5 := fits_in a5 b5
  have g5 := inR_of a5 b5
  cases h6 : numO r6 with
  | none => simp only [h6, Option.map_none] at hc; cases hc
  | some n6 =>
  simp only [h6, Option.map_some] at hc
  obtain ⟨i6, a6, b6⟩ := numO_some h6
  have f6 := fits_in a6 b6
  have g6 := inR_of a6 b6
  obtain rfl := Option.some.inj hc
  refine ⟨by kernel_rfl, ?_, ?_, by kernel_rfl, rfl, rfl, ⟨(show inR 1 from ⟨by decide, by decide⟩), g1, (show inR 9 from ⟨by decide, by decide⟩), g3, g4, g5, g6, zero_in, zero_in, zero_in, (show (0 : Nat) < 18446744073709551616 from by decide), (Nat.le_trans (hr r2 (by simp)) (by decide)), Nat.zero_le _⟩⟩
  ·show (fitsP n1 && (Tk.isName r2 && (fitsP n3 && (fitsP n4 && (fitsP n5 && (fitsP n6 && true)))))) = true
   rw [f1, h2, f3, f4, f5, f6]
   rfl
  ·show ((32 :: Lib.itoa n1) ++ ((32 :: r2) ++ ((32 :: Lib.itoa n3) ++ ((32 :: Lib.itoa n4) ++ ((32 :: Lib.itoa n5) ++ ((32 :: Lib.itoa n6) ++ [])))))) = _
   rw [i1, i3, i4, i5, i6]
   rfl
theorem back9 (r : List (List UInt8)) (c : Cmd) (hl : r.length = 1) (hr : ∀ w ∈ r, w.length ≤ 70000) (hc : letsP [80] r (Cmd.of ⟨[112, 114, 101, 112, 97, 114, 101], 2, 0, [80]⟩) = some c) : Back ⟨[112, 114, 101, 112, 97, 114, 101], 2, 0, [80]⟩ r c := by
 match r, hl with
 | [r1], _ =>
  simp only [letsP, lp80] at hc
  cases h1 : numO r1 with
  | none => simp only [h1, Option.map_none] at hc; cases hc
  | some n1 =>
  simp only [h1, Option.map_some] at hc
  obtain ⟨i1, a1, b1⟩ := numO_some h1
  have f1 := fits_in a1 b1
  have g1 := inR_of a1 b1
  obtain rfl := Option.some.inj hc
  refine ⟨by kernel_rfl, ?_, ?_, by kernel_rfl, rfl, rfl, ⟨(show inR 2 from ⟨by decide, by decide⟩), zero_in, (show inR 0 from ⟨by decide, by decide⟩), zero_in, zero_in, zero_in, zero_in, g1, zero_in, zero_in, (show (0 : Nat) < 18446744073709551616 from by decide), (Nat.zero_le _), Nat.zero_le _⟩⟩
  ·show (fitsP n1 && true) = true
   rw [f1]
   rfl
  ·show ((32 :: Lib.itoa n1) ++ []) = _
   rw [i1]
   rfl
theorem back10 (r : List (List UInt8)) (c : Cmd) (hl : r.length = 0) (hr : ∀ w ∈ r, w.length ≤ 70000) (hc : letsP [] r (Cmd.of ⟨[114, 101, 108, 101, 97, 115, 101], 3, 0, []⟩) = some c) : Back ⟨[114, 101, 108, 101, 97, 115, 101], 3, 0, []⟩ r c := by
 match r, hl with
 | [], _ =>
  simp only [letsP] at hc
  obtain rfl := Option.some.inj hc
  refine ⟨by kernel_rfl, ?_, ?_, by kernel_rfl, rfl, rfl, ⟨(show inR 3 from ⟨by decide, by decide⟩), zero_in, (show inR 0 from ⟨by decide, by decide⟩), zero_in, zero_in, zero_in, zero_in, zero_in, zero_in, zero_in, (show (0 : Nat) < 18446744073709551616 from by decide), (Nat.zero_le _), Nat.zero_le _⟩⟩
  ·show true = true
   rfl
  ·show [] = _
   rfl
theorem back11 (r : List (List UInt8)) (c : Cmd) (hl : r.length = 0) (hr : ∀ w ∈ r, w.length ≤ 70000) (hc : letsP [] r (Cmd.of ⟨[112, 97, 121], 4, 0, []⟩) = some c) : Back ⟨[112, 97, 121], 4, 0, []⟩ r c := by
 match r, hl with
 | [], _ =>
  simp only [letsP] at hc
  obtain rfl := Option.some.inj hc
  refine ⟨by kernel_rfl, ?_, ?_, by kernel_rfl, rfl, rfl, ⟨(show inR 4 from ⟨by decide, by decide⟩), zero_in, (show inR 0 from ⟨by decide, by decide⟩), zero_in, zero_in, zero_in, zero_in, zero_in, zero_in, zero_in, (show (0 : Nat) < 18446744073709551616 from by decide), (Nat.zero_le _), Nat.zero_le _⟩⟩
  ·show true = true
   rfl
  ·show [] = _
   rfl
theorem back12 (r : List (List UInt8)) (c : Cmd) (hl : r.length = 0) (hr : ∀ w ∈ r, w.length ≤ 70000) (hc : letsP [] r (Cmd.of ⟨[114, 101, 118, 101, 114, 115, 101], 5, 0, []⟩) = some c) : Back ⟨[114, 101, 118, 101, 114, 115, 101], 5, 0, []⟩ r c := by
 match r, hl with
 | [], _ =>
  simp only [letsP] at hc
  obtain rfl := Option.some.inj hc
  refine ⟨by kernel_rfl, ?_, ?_, by kernel_rfl, rfl, rfl, ⟨(show inR 5 from ⟨by decide, by decide⟩), zero_in, (show inR 0 from ⟨by decide, by decide⟩), zero_in, zero_in, zero_in, zero_in, zero_in, zero_in, zero_in, (show (0 : Nat) < 18446744073709551616 from by decide), (Nat.zero_le _), Nat.zero_le _⟩⟩
  ·show true = true
   rfl
  ·show [] = _
   rfl
theorem back13 (r : List (List UInt8)) (c : Cmd) (hl : r.length = 3) (hr : ∀ w ∈ r, w.length ≤ 70000) (hc : letsP [87, 84, 83] r (Cmd.of ⟨[99, 114, 97, 115, 104], 6, 0, [87, 84, 83]⟩) = some c) : Back ⟨[99, 114, 97, 115, 104], 6, 0, [87, 84, 83]⟩ r c := by
 match r, hl with
 | [r1, r2, r3], _ =>
  simp only [letsP, lp87, lp84, lp83] at hc
  cases h1 : numO r1 with
  | none => simp only [h1] at hc; cases hc
  | some n1 =>
  simp only [h1] at hc
  by_cases p1 : 0 ≤ n1
  case neg => simp only [if_neg p1] at hc; cases hc
  simp only [if_pos p1] at hc
  obtain ⟨i1, a1, b1⟩ := numO_some h1
  cases h2 : numO r2 with
  | none => simp only [h2, Option.map_none] at hc; cases hc
  | some n2 =>
  simp only [h2, Option.map_some] at hc
  obtain ⟨i2, a2, b2⟩ := numO_some h2
  have f2 := fits_in a2 b2
  have g2 := inR_of a2 b2
  cases h3 : numO r3 with
  | none => simp only [h3, Option.map_none] at hc; cases hc
  | some n3 =>
  simp only [h3, Option.map_some] at hc
  obtain ⟨i3, a3, b3⟩ := numO_some h3
  have f3 := fits_in a3 b3
  have g3 := inR_of a3 b3
  obtain rfl := Option.some.inj hc
  refine ⟨by kernel_rfl, ?_, ?_, by kernel_rfl, rfl, rfl, ⟨(show inR 6 from ⟨by decide, by decide⟩), zero_in, (show inR 0 from ⟨by decide, by decide⟩), zero_in, zero_in, zero_in, zero_in, zero_in, g2, g3, (by show n1.toNat < 18446744073709551616; omega), (Nat.zero_le _), Nat.zero_le _⟩⟩
  ·show (decide (((n1.toNat : Nat) : Int) ≤ 1000000000000000000) && (fitsP n2 && (fitsP n3 && true))) = true
   have q1 : ((n1.toNat : Nat) : Int) ≤ 1000000000000000000 := by omega
   rw [decide_eq_true q1, f2, f3]
   rfl
  ·show ((32 :: Lib.decDigits n1.toNat) ++ ((32 :: Lib.itoa n2) ++ ((32 :: Lib.itoa n3) ++ []))) = _
   have d1 : Lib.decDigits n1.toNat = r1 := by
    rw [← i1]
    unfold Lib.itoa
    rw [if_neg (by omega)]
   rw [d1, i2, i3]
   rfl
theorem back_any {F : Form} {r : List (List UInt8)} {c : Cmd} (hF : F ∈ forms) (hl : r.length = F.letters.length) (hr : ∀ w ∈ r, w.length ≤ 70000) (hc : letsP F.letters r (Cmd.of F) = some c) : Back F r c := by
 unfold forms at hF
 simp only [List.mem_cons, List.not_mem_nil, or_false] at hF
 rcases hF with rfl | rfl | rfl | rfl | rfl | rfl | rfl | rfl | rfl | rfl | rfl | rfl | rfl | rfl
 ·exact back0 r c hl hr hc
 ·exact back1 r c hl hr hc
 ·exact back2 r c hl hr hc
 ·exact back3 r c hl hr hc
 ·exact back4 r c hl hr hc
 ·exact back5 r c hl hr hc
 ·exact back6 r c hl hr hc
 ·exact back7 r c hl hr hc
 ·exact back8 r c hl hr hc
 ·exact back9 r c hl hr hc
 ·exact back10 r c hl hr hc
 ·exact back11 r c hl hr hc
 ·exact back12 r c hl hr hc
 ·exact back13 r c hl hr hc
end Go.Proofs.YtdcbnkimjhefkaaGreatDoor

/-
  The walks of the reference of layer 1: size, common, New.
  The reference's small tests (printed by gen_tests.py): Mode, InDays, IsUnit, Valid, IsDecimal, IsStep.
  The walks of the reference's small functions on texts (payrollref17): digit, lower, word, date.
-/
import Derived.Test.YtpdbkbadjgellaaGreatDoorZ02
import Derived.Test.YtpdbkbadjgellaaGreatDoorZ10
import Derived.Test.YtpdbkbadjgellaaGreatDoorZ13
import Derived.Test.YtpdbkbadjgellaaGreatDoorZ00
namespace Go.Proofs.YtpdbkbadjgellaaGreatDoor
open Go.RowKit

set_option maxHeartbeats 1000000 in
theorem common_any (a b : Nat) (w : World) (ha : a ≤ 4000000000000000000) (hb : b ≤ 4000000000000000000) :
    Calls Tryz.prog 69 #[.int .u64 a, .int .u64 b] w fun e w' => e = .returned (.int .u64 (Nat.gcd a b)) ∧ ∃ n, w' = w.drewN n := by
  generalize hG : Nat.gcd a b = G
  have HG := Lib.hid hG
  clear hG
  go_enter Tryz.func69, Tryz.ntmps69
  go_wp2_with fail
  go_loopw [0, 1] (fun p q wr => ∃ x y n : Nat, x ≤ 4000000000000000000 ∧ y ≤ 4000000000000000000 ∧ p = .int .u64 x ∧ q = .int .u64 y ∧ Hid (Nat.gcd x y = G) ∧ wr = w.drewN n) (fun _ q _ => (intOf q).toNat)
  case atStart => exact ⟨a, b, 0, ha, hb, rfl, rfl, HG, rfl⟩
  case round =>
    obtain ⟨x, y, n, hx, hy, rfl, rfl, HX, rfl⟩ := hrel
    by_cases hy0 : y = 0
    · subst hy0
      go_wp2_with fail
      go_ret
      exact ⟨ret_int (by rw [← HX.out]; simp), n, rfl⟩
    · have g1 : ((y : Int) != 0) = true := by simp; omega
      have g2 : ((y : Int) == 0) = false := by simp; omega
      have hyp : 1 ≤ y := by omega
      have hm := Nat.mod_lt x hyp
      have HN : Hid (Nat.gcd y (x % y) = G) := by
        show _ = _
        rw [← HX.out, Nat.gcd_comm x y, Nat.gcd_rec y x, Nat.gcd_comm]
      clear hy0
      go_wp2_with fail
      go_quiet (fail)
      go_wp2_with fail
      go_roundw
      case rel => exact ⟨y, x % y, _, by omega, by omega, rfl, by go_num, HN, World.drewN_drewN _ _ _⟩
      case measure => simp [intOf]; omega


theorem size_any (n : Int) (w : World) (h0 : -4000000000000000000 ≤ n) (h1 : n ≤ 4000000000000000000) :
    Calls Tryz.prog 68 #[.int .i64 n] w fun e w' => e = .returned (.int .u64 (n.natAbs : Nat)) ∧ w = w' := by
  by_cases hn : n < 0
  · go_enter Tryz.func68, Tryz.ntmps68
    go_wp2_with fail
    go_ret
    refine ⟨ret_int ?_, rfl⟩
    first | omega | (simp only [IntKind.wrap_u64]; omega)
  · go_enter Tryz.func68, Tryz.ntmps68
    go_wp2_with fail
    go_ret
    exact ⟨ret_int (by first | omega | (simp only [IntKind.wrap_u64]; omega)), rfl⟩

set_option maxHeartbeats 2000000 in
theorem refNew_any (n d : Int) (w : World) (hn0 : -4000000000000000000 ≤ n) (hn : n ≤ 4000000000000000000) (hd0 : -4000000000000000000 ≤ d) (hd : d ≤ 4000000000000000000) :
    Calls Tryz.prog 34 #[.int .i64 n, .int .i64 d] w fun e w' => e = ratErr (newI n d) ∧ Below w.heap.size w w' := by
  by_cases h0 : d = 0
  · subst h0
    go_enter Tryz.func34, Tryz.ntmps34
    go_wp2_with fail
    refine bodyPost_ret (v := .tuple #[.agg #[.int .i64 0, .int .i64 0], .int .i64 5]) (by simp [results, Tryz.results34, go_sem]) rfl ⟨rfl, ?_⟩
    exact (Below.refl _ _).alloc (Nat.le_refl _) _
  · have HR : Hid (newI n d = fitR (!(decide (n < 0) == decide (d < 0))) n.natAbs d.natAbs) := by show _ = _; unfold newI; rw [if_neg h0]
    have g0 : (d == 0) = false := by simpa using h0
    have hd1 : 1 ≤ d.natAbs := by omega
    have bn : n.natAbs ≤ 4000000000000000000 := by omega
    have bd : d.natAbs ≤ 4000000000000000000 := by omega
    clear h0
    have hg0 : 1 ≤ Nat.gcd n.natAbs d.natAbs := Nat.gcd_pos_of_pos_right _ hd1
    generalize hG : Nat.gcd n.natAbs d.natAbs = G at *
    have HG := Lib.hid hG
    clear hG
    obtain ⟨q1, h1⟩ : ∃ q, n.natAbs / G = q := ⟨_, rfl⟩
    obtain ⟨q2, h2⟩ : ∃ q, d.natAbs / G = q := ⟨_, rfl⟩
    have b1 : q1 ≤ 4000000000000000000 := by rw [← h1]; exact Nat.le_trans (Nat.div_le_self _ _) bn
    have b2 : q2 ≤ 4000000000000000000 := by rw [← h2]; exact Nat.le_trans (Nat.div_le_self _ _) bd
    have HE1 : Hid (IntKind.u64.wrap ((n.natAbs : Int) / (G : Int)) = (q1 : Int)) := by
      show _ = _
      rw [← Int.natCast_ediv, h1]; exact IntWalk.u64_in _ (by omega)
    have HE2 : Hid (IntKind.u64.wrap ((d.natAbs : Int) / (G : Int)) = (q2 : Int)) := by
      show _ = _
      rw [← Int.natCast_ediv, h2]; exact IntWalk.u64_in _ (by omega)
    by_cases hA : 1000000000000 < q1 ∨ 1000000 < q2
    · have HF : Hid (newI n d = (0, 0, 4)) := by show _ = _; rw [HR.out]; exact fit_over HG h1 h2 hA
      have HA : 1000000000000 < q1 ∨ (¬ 1000000000000 < q1 ∧ 1000000 < q2) := by omega
      clear h1 h2 hA
      rcases HA with hA | ⟨hA1, hA2⟩
      all_goals
        go_enter Tryz.func34, Tryz.ntmps34
        go_wp2_with fail
        refine (size_any n _ hn0 hn).mono ?_
        rintro e w' ⟨rfl, rfl⟩
        go_wp2_with fail
        refine (size_any d _ hd0 hd).mono ?_
        rintro e w' ⟨rfl, rfl⟩
        go_wp2_with fail
        refine (common_any _ _ _ (by omega) (by omega)).mono ?_
        rintro e w' ⟨rfl, nq, rfl⟩
        rw [HG.out]
        have e1 := HE1.out
        have e2 := HE2.out
        go_wp2_with fail
        go_quiet (fail)
        clear e1 e2
        go_wp2_with fail
        refine bodyPost_ret (v := .tuple #[.agg #[.int .i64 0, .int .i64 0], .int .i64 4]) (by simp [results, Tryz.results34, go_sem]) rfl ⟨by rw [HF.out]; rfl, ?_⟩
        exact ((belowN ((Below.refl _ _).alloc (Nat.le_refl _) _) _).setCell (by simp) _).setCell (by simp) _
    · have hA1 : q1 ≤ 1000000000000 := by omega
      have hA2 : q2 ≤ 1000000 := by omega
      have HF : Hid (newI n d = (if (!(decide (n < 0) == decide (d < 0))) = true then -(q1 : Int) else q1, (q2 : Int), 0)) := by show _ = _; rw [HR.out]; exact fit_done HG h1 h2 (by omega) (by omega)
      clear h1 h2 hA
      go_enter Tryz.func34, Tryz.ntmps34
      go_wp2_with fail
      refine (size_any n _ hn0 hn).mono ?_
      rintro e w' ⟨rfl, rfl⟩
      go_wp2_with fail
      refine (size_any d _ hd0 hd).mono ?_
      rintro e w' ⟨rfl, rfl⟩
      go_wp2_with fail
      refine (common_any _ _ _ (by omega) (by omega)).mono ?_
      rintro e w' ⟨rfl, nq, rfl⟩
      rw [HG.out]
      have e1 := HE1.out
      have e2 := HE2.out
      go_wp2_with fail
      go_quiet (fail)
      clear e1 e2
      go_wp2_with fail
      · have hs : (!decide (n < 0) == decide (d < 0)) = true := by assumption
        refine bodyPost_ret (v := .tuple #[.agg #[.int .i64 (-(q1 : Int)), .int .i64 q2], .int .i64 0]) (by simp [results, Tryz.results34, go_sem]) rfl ⟨by rw [HF.out, if_pos hs]; rfl, ?_⟩
        repeat (first | exact (Below.refl _ _).alloc (Nat.le_refl _) _ | exact belowN ((Below.refl _ _).alloc (Nat.le_refl _) _) _ | refine Below.setCell ?_ (by simp) _ | refine Below.alloc ?_ (by simp) _ | refine belowN ?_ _)
      · have hs : ¬ (!decide (n < 0) == decide (d < 0)) = true := by rw [Bool.not_eq_true]; assumption
        refine bodyPost_ret (v := .tuple #[.agg #[.int .i64 (q1 : Int), .int .i64 q2], .int .i64 0]) (by simp [results, Tryz.results34, go_sem]) rfl ⟨by rw [HF.out, if_neg hs]; rfl, ?_⟩
        repeat (first | exact (Below.refl _ _).alloc (Nat.le_refl _) _ | exact belowN ((Below.refl _ _).alloc (Nat.le_refl _) _) _ | refine Below.setCell ?_ (by simp) _ | refine Below.alloc ?_ (by simp) _ | refine belowN ?_ _)
end Go.Proofs.YtpdbkbadjgellaaGreatDoor

namespace Go.Proofs.YtpdbkbadjgellaaGreatDoor
open Go.RowKit
section
set_option maxRecDepth 100000
theorem below_kept {w w' : World} (h : Kept [] w.heap.size w w') : Below w.heap.size w w' := ⟨h.os, h.tape, h.output, h.size, fun k hk => h.block k hk (by simp)⟩
theorem below_same {w w' : World} (h : w = w') : Below w.heap.size w w' := h ▸ Below.refl _ _
theorem below_drewN (w : World) (n : Nat) : Below w.heap.size w (w.drewN n) := ⟨rfl, rfl, rfl, Nat.le_refl _, fun _ _ => rfl⟩

noncomputable def codeMode : Code := Tryz.f117.body.getD .skip
noncomputable def tdMode : List Item := advT 5 [.code codeMode]
noncomputable def opsMode : Array Oper := (curReg tdMode).getD #[]
theorem rmode_any (m : Int) (w : World) : Calls Tryz.prog 117 #[.int .i64 m] w fun e w' => e = .returned (.bool (decide (0 ≤ m) && decide (m ≤ 6))) ∧ Below w.heap.size w w' := by
  refine calls_at (args := [.int .i64 m]) (fn := Tryz.f117) (c := codeMode) (n := 9) (by kernel_rfl) (by kernel_rfl) (by kernel_rfl) (by kernel_rfl) ?_
  refine at_run 5 [.code codeMode] w.heap.size [] [] tdMode [(0, .int .i64 m)] (w.heap.size) [] (lies_nil w) (by kernel_rfl) fun w1 E1 hL1 hK1 => ?_
  have B1 := below_kept hK1
  refine at_ghost opsMode ⟨[], [], []⟩ [(2, .bool (decide (0 ≤ m) && decide (m ≤ 6)))] (by kernel_rfl) (by kernel_rfl) (by kernel_rfl) hL1.sat.good (fun e he => (by cases he)) (fun X => by kernel_rfl) (by kernel_rfl) fun w2 E2 hB2 => ?_
  refine at_run 9 (tailT tdMode) w2.heap.size [] [] (advT 9 (tailT tdMode)) [(2, .bool (decide (0 ≤ m) && decide (m ≤ 6)))] w2.heap.size [] (lies_nil w2) (by kernel_rfl) fun w3 E3 hL3 hK3 => ?_
  refine at_ret (fn := Tryz.f117) (by kernel_rfl) (by kernel_rfl) ⟨0, [], (0, 0), []⟩ (fun e he => (by cases he)) (.bool (decide (0 ≤ m) && decide (m ≤ 6))) (by kernel_rfl) (by kernel_rfl) ⟨rfl, ?_⟩
  exact (B1.trans (hB2.mono B1.size)).trans ((below_kept hK3).mono (Nat.le_trans B1.size hB2.size))

noncomputable def codeInDays : Code := Tryz.f47.body.getD .skip
noncomputable def tdInDays : List Item := advT 5 [.code codeInDays]
noncomputable def opsInDays : Array Oper := (curReg tdInDays).getD #[]
theorem rinDays_any (m : Int) (w : World) : Calls Tryz.prog 47 #[.int .i64 m] w fun e w' => e = .returned (.bool (decide (0 ≤ m) && decide (m ≤ 84005))) ∧ Below w.heap.size w w' := by
  refine calls_at (args := [.int .i64 m]) (fn := Tryz.f47) (c := codeInDays) (n := 9) (by kernel_rfl) (by kernel_rfl) (by kernel_rfl) (by kernel_rfl) ?_
  refine at_run 5 [.code codeInDays] w.heap.size [] [] tdInDays [(0, .int .i64 m)] (w.heap.size) [] (lies_nil w) (by kernel_rfl) fun w1 E1 hL1 hK1 => ?_
  have B1 := below_kept hK1
  refine at_ghost opsInDays ⟨[], [], []⟩ [(2, .bool (decide (0 ≤ m) && decide (m ≤ 84005)))] (by kernel_rfl) (by kernel_rfl) (by kernel_rfl) hL1.sat.good (fun e he => (by cases he)) (fun X => by kernel_rfl) (by kernel_rfl) fun w2 E2 hB2 => ?_
  refine at_run 9 (tailT tdInDays) w2.heap.size [] [] (advT 9 (tailT tdInDays)) [(2, .bool (decide (0 ≤ m) && decide (m ≤ 84005)))] w2.heap.size [] (lies_nil w2) (by kernel_rfl) fun w3 E3 hL3 hK3 => ?_
  refine at_ret (fn := Tryz.f47) (by kernel_rfl) (by kernel_rfl) ⟨0, [], (0, 0), []⟩ (fun e he => (by cases he)) (.bool (decide (0 ≤ m) && decide (m ≤ 84005))) (by kernel_rfl) (by kernel_rfl) ⟨rfl, ?_⟩
  exact (B1.trans (hB2.mono B1.size)).trans ((below_kept hK3).mono (Nat.le_trans B1.size hB2.size))

def isUnitB (a b c : Int) : Bool := ((((decide (-3 ≤ a) && decide (a ≤ 3)) && decide (-3 ≤ b)) && decide (b ≤ 3)) && decide (-3 ≤ c)) && decide (c ≤ 3)

noncomputable def codeIsUnit : Code := Tryz.f113.body.getD .skip
noncomputable def tdIsUnit : List Item := advT 6 [.code codeIsUnit]
noncomputable def opsIsUnit : Array Oper := (curReg tdIsUnit).getD #[]
theorem risUnit_any (a b c : Int) (w : World) : Calls Tryz.prog 113 #[.agg #[.int .i64 a, .int .i64 b, .int .i64 c]] w fun e w' => e = .returned (.bool (isUnitB a b c)) ∧ Below w.heap.size w w' := by
  refine calls_at (args := [.agg #[.int .i64 a, .int .i64 b, .int .i64 c]]) (fn := Tryz.f113) (c := codeIsUnit) (n := 31) (by kernel_rfl) (by kernel_rfl) (by kernel_rfl) (by kernel_rfl) ?_
  refine at_run 6 [.code codeIsUnit] w.heap.size [] [] tdIsUnit [(1, pt w.heap.size 0)] (w.heap.size + 1) [⟨w.heap.size, 0, [.int .i64 a, .int .i64 b, .int .i64 c], 85, true⟩] (lies_nil w) (by kernel_rfl) fun w1 E1 hL1 hK1 => ?_
  have B1 := below_kept hK1
  refine at_ghost opsIsUnit ⟨[⟨w.heap.size, 0, [.int .i64 a, .int .i64 b, .int .i64 c], 85, true⟩], [(1, 0, 0), (5, 0, 0), (10, 0, 1), (15, 0, 1), (20, 0, 2), (25, 0, 2)], []⟩ [(2, .bool (isUnitB a b c))] (by kernel_rfl) (by kernel_rfl) (by kernel_rfl) hL1.sat.good (fun e he => (by cases he)) (fun X => by kernel_rfl) (by kernel_rfl) fun w2 E2 hB2 => ?_
  refine at_run 9 (tailT tdIsUnit) w2.heap.size [] [] (advT 9 (tailT tdIsUnit)) [(2, .bool (isUnitB a b c))] w2.heap.size [] (lies_nil w2) (by kernel_rfl) fun w3 E3 hL3 hK3 => ?_
  refine at_ret (fn := Tryz.f113) (by kernel_rfl) (by kernel_rfl) ⟨0, [], (0, 0), []⟩ (fun e he => (by cases he)) (.bool (isUnitB a b c)) (by kernel_rfl) (by kernel_rfl) ⟨rfl, ?_⟩
  exact (B1.trans (hB2.mono B1.size)).trans ((below_kept hK3).mono (Nat.le_trans B1.size hB2.size))

def ratInB (a b : Int) : Bool := ((decide (1 ≤ b) && decide (b ≤ 1000000)) && decide (-1000000000000 ≤ a)) && decide (a ≤ 1000000000000)
def ratB (a b : Int) : Bool := ratInB a b && decide ((Nat.gcd a.natAbs b.natAbs : Int) = 1)
theorem ratInB_iff {a b : Int} (h : (ratInB a b && true) = true) : 1 ≤ b ∧ b ≤ 1000000 ∧ -1000000000000 ≤ a ∧ a ≤ 1000000000000 := by
  simp only [ratInB, Bool.and_true, Bool.and_eq_true, decide_eq_true_eq] at h
  omega

noncomputable def codeRatValid : Code := Tryz.f76.body.getD .skip
noncomputable def tdRatValid : List Item := advT 6 [.code codeRatValid]
noncomputable def opsRatValid : Array Oper := (curReg tdRatValid).getD #[]
theorem rratValid_any (a b : Int) (w : World) : Calls Tryz.prog 76 #[.agg #[.int .i64 a, .int .i64 b]] w fun e w' => e = .returned (.bool (ratB a b)) ∧ Below w.heap.size w w' := by
  refine calls_at (args := [.agg #[.int .i64 a, .int .i64 b]]) (fn := Tryz.f76) (c := codeRatValid) (n := 31) (by kernel_rfl) (by kernel_rfl) (by kernel_rfl) (by kernel_rfl) ?_
  refine at_run 6 [.code codeRatValid] w.heap.size [] [] tdRatValid [(1, pt w.heap.size 0)] (w.heap.size + 1) [⟨w.heap.size, 0, [.int .i64 a, .int .i64 b], 33, true⟩] (lies_nil w) (by kernel_rfl) fun w1 E1 hL1 hK1 => ?_
  have B1 := below_kept hK1
  have hS : ∀ sp ∈ [(⟨21, [(23, .int .i64 a)], .int .u64 (a.natAbs : Nat), ratInB a b && true⟩ : Sp), ⟨24, [(26, .int .i64 b)], .int .u64 (b.natAbs : Nat), ratInB a b && true⟩, ⟨25, [(24, .int .u64 (a.natAbs : Nat)), (27, .int .u64 (b.natAbs : Nat))], .int .u64 (Nat.gcd a.natAbs b.natAbs : Nat), ratInB a b && true⟩], SpecOk Tryz.prog 31 (Below w1.heap.size w1) opsRatValid sp := by
    intro sp hsp
    simp only [List.mem_cons, List.not_mem_nil, or_false] at hsp
    rcases hsp with rfl | rfl | rfl
    · refine spec_call 68 [.tmp 23] [.int .i64 a] (by kernel_rfl) (by kernel_rfl) (fun E => by kernel_rfl) fun hc u hu => below_call hu ?_
      have := ratInB_iff hc
      exact (size_any a u (by omega) (by omega)).mono fun _ _ ⟨h1, h2⟩ => ⟨h1, below_same h2⟩
    · refine spec_call 68 [.tmp 26] [.int .i64 b] (by kernel_rfl) (by kernel_rfl) (fun E => by kernel_rfl) fun hc u hu => below_call hu ?_
      have := ratInB_iff hc
      exact (size_any b u (by omega) (by omega)).mono fun _ _ ⟨h1, h2⟩ => ⟨h1, below_same h2⟩
    · refine spec_call 69 [.tmp 24, .tmp 27] [.int .u64 (a.natAbs : Nat), .int .u64 (b.natAbs : Nat)] (by kernel_rfl) (by kernel_rfl) (fun E => by kernel_rfl) fun hc u hu => below_call hu ?_
      have := ratInB_iff hc
      exact (common_any a.natAbs b.natAbs u (by omega) (by omega)).mono fun _ _ ⟨h1, ⟨k, h2⟩⟩ => ⟨h1, h2 ▸ below_drewN _ _⟩
  refine at_ghost opsRatValid ⟨[⟨w.heap.size, 0, [.int .i64 a, .int .i64 b], 33, true⟩], [(1, 0, 1), (5, 0, 1), (10, 0, 0), (15, 0, 0), (20, 0, 0), (23, 0, 1)], _⟩ [(2, .bool (ratB a b))] (by kernel_rfl) (by kernel_rfl) (by kernel_rfl) hL1.sat.good hS (fun X => by kernel_rfl) (by kernel_rfl) fun w2 E2 hB2 => ?_
  refine at_run 9 (tailT tdRatValid) w2.heap.size [] [] (advT 9 (tailT tdRatValid)) [(2, .bool (ratB a b))] w2.heap.size [] (lies_nil w2) (by kernel_rfl) fun w3 E3 hL3 hK3 => ?_
  refine at_ret (fn := Tryz.f76) (by kernel_rfl) (by kernel_rfl) ⟨0, [], (0, 0), []⟩ (fun e he => (by cases he)) (.bool (ratB a b)) (by kernel_rfl) (by kernel_rfl) ⟨rfl, ?_⟩
  exact (B1.trans (hB2.mono B1.size)).trans ((below_kept hK3).mono (Nat.le_trans B1.size hB2.size))

def isDecimalB (a b : Int) : Bool := (ratB a b && decide (0 ≤ a)) && (Int.tmod 1000000 b == 0)

noncomputable def codeIsDecimal : Code := Tryz.f38.body.getD .skip
noncomputable def tdIsDecimal : List Item := advT 6 [.code codeIsDecimal]
noncomputable def opsIsDecimal : Array Oper := (curReg tdIsDecimal).getD #[]
theorem risDecimal_any (a b : Int) (w : World) : Calls Tryz.prog 38 #[.agg #[.int .i64 a, .int .i64 b]] w fun e w' => e = .returned (.bool (isDecimalB a b)) ∧ Below w.heap.size w w' := by
  refine calls_at (args := [.agg #[.int .i64 a, .int .i64 b]]) (fn := Tryz.f38) (c := codeIsDecimal) (n := 16) (by kernel_rfl) (by kernel_rfl) (by kernel_rfl) (by kernel_rfl) ?_
  refine at_run 6 [.code codeIsDecimal] w.heap.size [] [] tdIsDecimal [(1, pt w.heap.size 0)] (w.heap.size + 1) [⟨w.heap.size, 0, [.int .i64 a, .int .i64 b], 33, true⟩] (lies_nil w) (by kernel_rfl) fun w1 E1 hL1 hK1 => ?_
  have B1 := below_kept hK1
  have hS : ∀ sp ∈ [(⟨1, [(3, .agg #[.int .i64 a, .int .i64 b])], .bool (ratB a b), true⟩ : Sp), ⟨10, [(12, .int .i64 b)], .int .i64 (Int.tmod 1000000 b), (ratB a b && decide (0 ≤ a)) && true⟩], SpecOk Tryz.prog 16 (Below w1.heap.size w1) opsIsDecimal sp := by
    intro sp hsp
    simp only [List.mem_cons, List.not_mem_nil, or_false] at hsp
    rcases hsp with rfl | rfl
    · exact spec_call 76 [.tmp 3] [.agg #[.int .i64 a, .int .i64 b]] (by kernel_rfl) (by kernel_rfl) (fun E => by kernel_rfl) fun hc u hu => below_call hu (rratValid_any a b u)
    · refine spec_op fun hc E u hu => ?_
      simp only [Bool.and_true, Bool.and_eq_true, ratB] at hc
      have := ratInB_iff (a := a) (b := b) (by rw [hc.1.1]; rfl)
      have h0 : ¬ b = 0 := by omega
      have h1 : (execOp (ovr [(12, .int .i64 b)] (evE 16 E)) (opsIsDecimal.getD 10 default)).run Tryz.prog u = (Op.intDiv .rem .i64 1000000 b >>= fun v => (pure (.value v) : Sem Next)).run Tryz.prog u := by kernel_rfl
      rw [h1]
      unfold Op.intDiv
      rw [if_neg h0]
      rfl
  refine at_ghost opsIsDecimal ⟨[⟨w.heap.size, 0, [.int .i64 a, .int .i64 b], 33, true⟩], [(0, 0, 0), (4, 0, 0), (9, 0, 1)], _⟩ [(2, .bool (isDecimalB a b))] (by kernel_rfl) (by kernel_rfl) (by kernel_rfl) hL1.sat.good hS (fun X => by kernel_rfl) (by kernel_rfl) fun w2 E2 hB2 => ?_
  refine at_run 9 (tailT tdIsDecimal) w2.heap.size [] [] (advT 9 (tailT tdIsDecimal)) [(2, .bool (isDecimalB a b))] w2.heap.size [] (lies_nil w2) (by kernel_rfl) fun w3 E3 hL3 hK3 => ?_
  refine at_ret (fn := Tryz.f38) (by kernel_rfl) (by kernel_rfl) ⟨0, [], (0, 0), []⟩ (fun e he => (by cases he)) (.bool (isDecimalB a b)) (by kernel_rfl) (by kernel_rfl) ⟨rfl, ?_⟩
  exact (B1.trans (hB2.mono B1.size)).trans ((below_kept hK3).mono (Nat.le_trans B1.size hB2.size))

def isStepB (a b : Int) : Bool := (ratB a b && decide (0 < a)) && (Int.tmod 100 b == 0)

noncomputable def codeIsStep : Code := Tryz.f118.body.getD .skip
noncomputable def tdIsStep : List Item := advT 6 [.code codeIsStep]
noncomputable def opsIsStep : Array Oper := (curReg tdIsStep).getD #[]
theorem risStep_any (a b : Int) (w : World) : Calls Tryz.prog 118 #[.agg #[.int .i64 a, .int .i64 b]] w fun e w' => e = .returned (.bool (isStepB a b)) ∧ Below w.heap.size w w' := by
  refine calls_at (args := [.agg #[.int .i64 a, .int .i64 b]]) (fn := Tryz.f118) (c := codeIsStep) (n := 16) (by kernel_rfl) (by kernel_rfl) (by kernel_rfl) (by kernel_rfl) ?_
  refine at_run 6 [.code codeIsStep] w.heap.size [] [] tdIsStep [(1, pt w.heap.size 0)] (w.heap.size + 1) [⟨w.heap.size, 0, [.int .i64 a, .int .i64 b], 33, true⟩] (lies_nil w) (by kernel_rfl) fun w1 E1 hL1 hK1 => ?_
  have B1 := below_kept hK1
  have hS : ∀ sp ∈ [(⟨1, [(3, .agg #[.int .i64 a, .int .i64 b])], .bool (ratB a b), true⟩ : Sp), ⟨10, [(12, .int .i64 b)], .int .i64 (Int.tmod 100 b), (ratB a b && decide (0 < a)) && true⟩], SpecOk Tryz.prog 16 (Below w1.heap.size w1) opsIsStep sp := by
    intro sp hsp
    simp only [List.mem_cons, List.not_mem_nil, or_false] at hsp
    rcases hsp with rfl | rfl
    · exact spec_call 76 [.tmp 3] [.agg #[.int .i64 a, .int .i64 b]] (by kernel_rfl) (by kernel_rfl) (fun E => by kernel_rfl) fun hc u hu => below_call hu (rratValid_any a b u)
    · refine spec_op fun hc E u hu => ?_
      simp only [Bool.and_true, Bool.and_eq_true, ratB] at hc
      have := ratInB_iff (a := a) (b := b) (by rw [hc.1.1]; rfl)
      have h0 : ¬ b = 0 := by omega
      have h1 : (execOp (ovr [(12, .int .i64 b)] (evE 16 E)) (opsIsStep.getD 10 default)).run Tryz.prog u = (Op.intDiv .rem .i64 100 b >>= fun v => (pure (.value v) : Sem Next)).run Tryz.prog u := by kernel_rfl
      rw [h1]
      unfold Op.intDiv
      rw [if_neg h0]
      rfl
  refine at_ghost opsIsStep ⟨[⟨w.heap.size, 0, [.int .i64 a, .int .i64 b], 33, true⟩], [(0, 0, 0), (4, 0, 0), (9, 0, 1)], _⟩ [(2, .bool (isStepB a b))] (by kernel_rfl) (by kernel_rfl) (by kernel_rfl) hL1.sat.good hS (fun X => by kernel_rfl) (by kernel_rfl) fun w2 E2 hB2 => ?_
  refine at_run 9 (tailT tdIsStep) w2.heap.size [] [] (advT 9 (tailT tdIsStep)) [(2, .bool (isStepB a b))] w2.heap.size [] (lies_nil w2) (by kernel_rfl) fun w3 E3 hL3 hK3 => ?_
  refine at_ret (fn := Tryz.f118) (by kernel_rfl) (by kernel_rfl) ⟨0, [], (0, 0), []⟩ (fun e he => (by cases he)) (.bool (isStepB a b)) (by kernel_rfl) (by kernel_rfl) ⟨rfl, ?_⟩
  exact (B1.trans (hB2.mono B1.size)).trans ((below_kept hK3).mono (Nat.le_trans B1.size hB2.size))
end
end Go.Proofs.YtpdbkbadjgellaaGreatDoor

namespace Go.Proofs.YtpdbkbadjgellaaGreatDoor
open Go.RowKit
attribute [local go_sem] ba_get ba_extract take_rest

theorem rdigit_any (c : UInt8) (w : World) :
    Calls Tryz.prog 42 #[.int .u8 c.toNat] w fun e w' => e = .returned (.bool (Tk.isDig c)) ∧ w = w' := by
  go_enter Tryz.func42, Tryz.ntmps42
  go_wp2
  all_goals
    go_ret
    refine ⟨ret_bool ?_, rfl⟩
    unfold Tk.isDig
    rw [Bool.eq_iff_iff]
    simp
    omega

theorem rlower_any (c : UInt8) (w : World) :
    Calls Tryz.prog 44 #[.int .u8 c.toNat] w fun e w' => e = .returned (.bool (Tk.isLow c)) ∧ w = w' := by
  go_enter Tryz.func44, Tryz.ntmps44
  go_wp2
  all_goals
    go_ret
    refine ⟨ret_bool ?_, rfl⟩
    unfold Tk.isLow
    rw [Bool.eq_iff_iff]
    simp
    omega

theorem wordLen_lead (c : UInt8) (r : List UInt8) (h : Tk.isLow c = true) : Tk.wordLen (c :: r) = Tk.lead Tk.isWord (c :: r) := by
  have : Tk.isWord c = true := by simp [Tk.isWord, h]
  simp only [Tk.wordLen, h, if_true, Tk.lead, this]
theorem drop_consR (l : List UInt8) (p : Nat) (h : p < l.length) : l.drop p = l[p] :: l.drop (p + 1) := List.drop_eq_getElem_cons h

set_option maxHeartbeats 1000000 in
theorem rword_any (l : List UInt8) (p : Nat) (w : World) (hs : l.length ≤ maxLen) (hp : p ≤ l.length) :
    Calls Tryz.prog 33 #[.string ⟨l.toArray⟩, .int .i64 p] w fun e w' => e = .returned (.int .i64 (p + Tk.wordLen (l.drop p) : Nat)) ∧ w = w' := by
  unfold maxLen at hs
  by_cases hlt : p < l.length
  · by_cases hc : Tk.isLow l[p] = true
    · have HW : Hid (Tk.wordLen (l.drop p) = Tk.lead Tk.isWord (l.drop p)) := by show _ = _; rw [drop_consR l p hlt, wordLen_lead _ _ hc]
      have HC := Lib.hid hc
      clear hc
      have g0 : decide (l.length ≤ p) = false := by simp; omega
      go_enter Tryz.func33, Tryz.ntmps33
      go_wp2_with fail
      refine (rlower_any _ _).mono ?_
      rintro e w' ⟨rfl, rfl⟩
      rw [HC.out]
      go_wp2_with fail
      clear g0
      go_loop [1] (fun n => ∃ k : Nat, p + k ≤ l.length ∧ n = .int .i64 (p + k : Nat) ∧ Hid (∀ j (h : p + j < l.length), j < k → Tk.isWord l[p + j] = true)) (fun i => l.length - (intOf i).toNat)
      case atStart => exact ⟨0, by omega, rfl, fun _ _ h => by omega⟩
      case round =>
        obtain ⟨k, hk, rfl, HA⟩ := hrel
        have HE : Hid (∀ (hs : ∀ h : p + k < l.length, Tk.isWord l[p + k] = false), Tk.wordLen (l.drop p) = k) := by
          show ∀ _, _
          intro hs
          rw [HW.out]
          refine Tk.lead_eq _ _ k (by simp; omega) (fun j h hj => ?_) (fun h => ?_)
          · rw [List.getElem_drop]; exact HA.out j (by simp at h; omega) hj
          · rw [List.getElem_drop]; exact hs (by simp at h; omega)
        by_cases hlk : p + k < l.length
        · by_cases hd : Tk.isWord l[p + k] = true
          · have HD := Lib.hid hd
            have HN : Hid (∀ j (h : p + j < l.length), j < k + 1 → Tk.isWord l[p + j] = true) := fun j h hj => if e : j = k then by subst e; exact HD.out else HA.out j h (by omega)
            rcases (isWord_cases _).1 hd with h1 | ⟨h1, h2⟩ | ⟨h1, h2, h3⟩
            all_goals clear hd
            · go_wp2_with ((first | (go_at_call 44; refine (rlower_any _ _).mono ?_; rintro e w' ⟨rfl, rfl⟩) | (go_at_call 42; refine (rdigit_any _ _).mono ?_; rintro e w' ⟨rfl, rfl⟩)))
              go_round
              case rel => first | exact ⟨k + 1, by omega, by go_num, HN⟩ | ((repeat apply Exists.intro); exact ⟨⟨k + 1, by omega, by go_num, HN⟩, rfl⟩)
              case measure => simp [intOf]; omega
            · go_wp2_with ((first | (go_at_call 44; refine (rlower_any _ _).mono ?_; rintro e w' ⟨rfl, rfl⟩) | (go_at_call 42; refine (rdigit_any _ _).mono ?_; rintro e w' ⟨rfl, rfl⟩)))
              go_round
              case rel => first | exact ⟨k + 1, by omega, by go_num, HN⟩ | ((repeat apply Exists.intro); exact ⟨⟨k + 1, by omega, by go_num, HN⟩, rfl⟩)
              case measure => simp [intOf]; omega
            · have h4 : ((l[p + k].toNat : Int) == 95) = true := by simp; omega
              clear h3
              go_wp2_with ((first | (go_at_call 44; refine (rlower_any _ _).mono ?_; rintro e w' ⟨rfl, rfl⟩) | (go_at_call 42; refine (rdigit_any _ _).mono ?_; rintro e w' ⟨rfl, rfl⟩)))
              go_round
              case rel => first | exact ⟨k + 1, by omega, by go_num, HN⟩ | ((repeat apply Exists.intro); exact ⟨⟨k + 1, by omega, by go_num, HN⟩, rfl⟩)
              case measure => simp [intOf]; omega
          · have hd : Tk.isWord l[p + k] = false := by simpa using hd
            have HF : Hid (Tk.wordLen (l.drop p) = k) := HE.out (fun _ => hd)
            obtain ⟨h1, h2, h4⟩ := isWord_false hd
            clear hd
            go_wp2_with ((first | (go_at_call 44; refine (rlower_any _ _).mono ?_; rintro e w' ⟨rfl, rfl⟩) | (go_at_call 42; refine (rdigit_any _ _).mono ?_; rintro e w' ⟨rfl, rfl⟩)))
            go_ret
            exact ⟨ret_int (by rw [HF.out]; omega), rfl⟩
        · have HF : Hid (Tk.wordLen (l.drop p) = k) := HE.out (fun h => absurd h hlk)
          go_wp2_with fail
          go_ret
          exact ⟨ret_int (by rw [HF.out]), rfl⟩
    · have hc : Tk.isLow l[p] = false := by simpa using hc
      have HF : Hid (Tk.wordLen (l.drop p) = 0) := by show _ = _; rw [drop_consR l p hlt]; simp [Tk.wordLen, hc]
      have HC := Lib.hid hc
      clear hc
      go_enter Tryz.func33, Tryz.ntmps33
      go_wp2_with fail
      refine (rlower_any _ _).mono ?_
      rintro e w' ⟨rfl, rfl⟩
      rw [HC.out]
      go_wp2_with fail
      go_ret
      exact ⟨ret_int (by rw [HF.out]; rfl), rfl⟩
  · have HF : Hid (Tk.wordLen (l.drop p) = 0) := by show _ = _; rw [List.drop_of_length_le (by omega)]; rfl
    go_enter Tryz.func33, Tryz.ntmps33
    go_wp2_with fail
    go_ret
    exact ⟨ret_int (by rw [HF.out]; rfl), rfl⟩

set_option maxHeartbeats 1000000 in
theorem rdate_any (l : List UInt8) (p : Nat) (w : World) (hs : l.length ≤ 20000) (hp : p ≤ l.length) :
    Calls Tryz.prog 40 #[.string ⟨l.toArray⟩, .int .i64 p] w fun e w' => e = .returned (.bool (Tk.dateForm (l.drop p))) ∧ w = w' := by
  by_cases h10 : p + 10 ≤ l.length
  · go_enter Tryz.func40, Tryz.ntmps40
    go_wp2_with fail
    go_loop [5] (fun n => ∃ k : Nat, k ≤ 10 ∧ n = .int .i64 k ∧ Hid (∀ j, j < k → dateAt (l.drop p) j = true)) (fun i => 10 - (intOf i).toNat)
    case atStart => exact ⟨0, Nat.zero_le _, rfl, fun _ h => by omega⟩
    case round =>
      obtain ⟨k, hk, rfl, HA⟩ := hrel
      by_cases hlt : k < 10
      · have hkl : p + k < l.length := by omega
        have eg : (l.drop p).getD k 0 = l[p + k] := by rw [getD_eq _ k (by simp; omega), List.getElem_drop]
        by_cases hd : dateAt (l.drop p) k = true
        · have HD := Lib.hid hd
          have hnext : Hid (∀ j, j < k + 1 → dateAt (l.drop p) j = true) := fun j hj => if e : j = k then by subst e; exact HD.out else HA.out j (by omega)
          unfold dateAt at hd
          rw [eg] at hd
          clear eg
          by_cases h47 : k = 4 ∨ k = 7
          · rw [if_pos h47] at hd
            have hb : ((l[p + k].toNat : Int) == 45) = true := by simp at hd ⊢; omega
            clear hd
            rcases h47 with h47 | h47
            · have g1 : ((k : Int) == 4) = true := by simp; omega
              have g3 : ((k : Int) != 4) = false := by simp; omega
              clear h47
              go_wp2_with fail
              go_round
              case rel => exact ⟨k + 1, by omega, by go_num, hnext⟩
              case measure => simp [intOf]; omega
            · have g1 : ((k : Int) == 4) = false := by simp; omega
              have g2 : ((k : Int) == 7) = true := by simp; omega
              have g3 : ((k : Int) != 4) = true := by simp; omega
              have g4 : ((k : Int) != 7) = false := by simp; omega
              clear h47
              go_wp2_with fail
              go_round
              case rel => exact ⟨k + 1, by omega, by go_num, hnext⟩
              case measure => simp [intOf]; omega
          · rw [if_neg h47] at hd
            have g1 : ((k : Int) == 4) = false := by simp; omega
            have g2 : ((k : Int) == 7) = false := by simp; omega
            have g3 : ((k : Int) != 4) = true := by simp; omega
            have g4 : ((k : Int) != 7) = true := by simp; omega
            have hb : ((l[p + k].toNat : Int) == 45) = false := by have := of_decide_eq_true hd; simp; omega
            have HDg := Lib.hid hd
            clear h47 hd
            go_wp2_with fail
            refine (rdigit_any _ _).mono ?_
            rintro e w' ⟨rfl, rfl⟩
            rw [HDg.out]
            go_wp2_with fail
            go_round
            case rel => exact ⟨k + 1, by omega, by go_num, hnext⟩
            case measure => simp [intOf]; omega
        · have HF : Hid (Tk.dateForm (l.drop p) = false) := by
            show _ = _
            rw [Bool.eq_false_iff]
            exact fun h => hd (((dateForm_iff _).1 h).2 k hlt)
          have hd : dateAt (l.drop p) k = false := by simpa using hd
          unfold dateAt at hd
          rw [eg] at hd
          clear eg
          by_cases h47 : k = 4 ∨ k = 7
          · rw [if_pos h47] at hd
            have hb : ((l[p + k].toNat : Int) == 45) = false := by simp at hd ⊢; omega
            clear hd
            rcases h47 with h47 | h47
            · have g1 : ((k : Int) == 4) = true := by simp; omega
              clear h47
              go_wp2_with fail
              go_ret
              exact ⟨ret_bool HF.out.symm, rfl⟩
            · have g1 : ((k : Int) == 4) = false := by simp; omega
              have g2 : ((k : Int) == 7) = true := by simp; omega
              clear h47
              go_wp2_with fail
              go_ret
              exact ⟨ret_bool HF.out.symm, rfl⟩
          · rw [if_neg h47] at hd
            have g1 : ((k : Int) == 4) = false := by simp; omega
            have g2 : ((k : Int) == 7) = false := by simp; omega
            have g3 : ((k : Int) != 4) = true := by simp; omega
            have g4 : ((k : Int) != 7) = true := by simp; omega
            have HDg := Lib.hid hd
            clear h47 hd
            by_cases hy : l[p + k].toNat = 45
            · have hb : ((l[p + k].toNat : Int) == 45) = true := by simp; omega
              clear hy
              go_wp2_with fail
              go_ret
              exact ⟨ret_bool HF.out.symm, rfl⟩
            · have hb : ((l[p + k].toNat : Int) == 45) = false := by simp; omega
              clear hy
              go_wp2_with fail
              refine (rdigit_any _ _).mono ?_
              rintro e w' ⟨rfl, rfl⟩
              rw [HDg.out]
              go_wp2_with fail
              go_ret
              exact ⟨ret_bool HF.out.symm, rfl⟩
      · have HF : Hid (Tk.dateForm (l.drop p) = true) := (dateForm_iff _).2 ⟨by simp; omega, fun i hi => HA.out i (by omega)⟩
        go_wp2_with fail
        go_ret
        exact ⟨ret_bool HF.out.symm, rfl⟩
  · have HF : Hid (Tk.dateForm (l.drop p) = false) := by
      show _ = _
      rw [Bool.eq_false_iff]
      intro h
      have := ((dateForm_iff _).1 h).1
      simp at this
      omega
    go_enter Tryz.func40, Tryz.ntmps40
    go_wp2_with fail
    go_ret
    exact ⟨ret_bool HF.out.symm, rfl⟩
end Go.Proofs.YtpdbkbadjgellaaGreatDoor

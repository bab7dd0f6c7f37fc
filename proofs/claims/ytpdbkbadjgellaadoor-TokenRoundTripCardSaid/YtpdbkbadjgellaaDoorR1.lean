/-
  The walks of the reference of layer 1: size, common, New.
-/
import Derived.Test.YtpdbkbadjgellaaDoorRt
namespace Go.Proofs.YtpdbkbadjgellaaDoor
open Go.RowKit

set_option maxHeartbeats 1000000 in
theorem common_any (a b : Nat) (w : World) (ha : a ≤ 4000000000000000000) (hb : b ≤ 4000000000000000000) :
    Calls Tryd.prog 39 #[.int .u64 a, .int .u64 b] w fun e w' => e = .returned (.int .u64 (Nat.gcd a b)) ∧ ∃ n, w' = w.drewN n := by
  generalize hG : Nat.gcd a b = G
  have HG := Lib.hid hG
  clear hG
  go_enter Tryd.func39, Tryd.ntmps39
  go_wp2_with fail
  go_loopw [0, 1] (fun p q wr => ∃ x y n : Nat, x ≤ 4000000000000000000 ∧ y ≤ 4000000000000000000 ∧ p = .int .u64 x ∧ q = .int .u64 y ∧ Hid (Nat.gcd x y = G) ∧ wr = w.drewN n) (fun _ q _ => (intOf q).toNat)
  case atStart => exact ⟨a, b, 0, ha, hb, rfl, rfl, HG, rfl⟩
  case round =>
    obtain ⟨x, y, n, hx, hy, rfl, rfl, HX, rfl⟩ := hrel
    by_cases hy0 : y = 0
    · subst hy0
      go_wp2_with fail
      go_ret
      exact ⟨ret_int (by rw [← HX.out]; simp), n, rfl⟩
    · have g1 : ((y : Int) != 0) = true := by simp; omega
      have g2 : ((y : Int) == 0) = false := by simp; omega
      have hyp : 1 ≤ y := by omega
      have hm := Nat.mod_lt x hyp
      have HN : Hid (Nat.gcd y (x % y) = G) := by
        show _ = _
        rw [← HX.out, Nat.gcd_comm x y, Nat.gcd_rec y x, Nat.gcd_comm]
      clear hy0
      go_wp2_with fail
      go_quiet (fail)
      go_wp2_with fail
      go_roundw
      case rel => exact ⟨y, x % y, _, by omega, by omega, rfl, by go_num, HN, World.drewN_drewN _ _ _⟩
      case measure => simp [intOf]; omega


theorem size_any (n : Int) (w : World) (h0 : -4000000000000000000 ≤ n) (h1 : n ≤ 4000000000000000000) :
    Calls Tryd.prog 38 #[.int .i64 n] w fun e w' => e = .returned (.int .u64 (n.natAbs : Nat)) ∧ w = w' := by
  by_cases hn : n < 0
  · go_enter Tryd.func38, Tryd.ntmps38
    go_wp2_with fail
    go_ret
    refine ⟨ret_int ?_, rfl⟩
    first | omega | (simp only [IntKind.wrap_u64]; omega)
  · go_enter Tryd.func38, Tryd.ntmps38
    go_wp2_with fail
    go_ret
    exact ⟨ret_int (by first | omega | (simp only [IntKind.wrap_u64]; omega)), rfl⟩

set_option maxHeartbeats 2000000 in
theorem refNew_any (n d : Int) (w : World) (hn0 : -4000000000000000000 ≤ n) (hn : n ≤ 4000000000000000000) (hd0 : -4000000000000000000 ≤ d) (hd : d ≤ 4000000000000000000) :
    Calls Tryd.prog 17 #[.int .i64 n, .int .i64 d] w fun e w' => e = ratErr (newI n d) ∧ Below w.heap.size w w' := by
  by_cases h0 : d = 0
  · subst h0
    go_enter Tryd.func17, Tryd.ntmps17
    go_wp2_with fail
    refine bodyPost_ret (v := .tuple #[.agg #[.int .i64 0, .int .i64 0], .int .i64 5]) (by simp [results, Tryd.results17, go_sem]) rfl ⟨rfl, ?_⟩
    exact (Below.refl _ _).alloc (Nat.le_refl _) _
  · have HR : Hid (newI n d = fitR (!(decide (n < 0) == decide (d < 0))) n.natAbs d.natAbs) := by show _ = _; unfold newI; rw [if_neg h0]
    have g0 : (d == 0) = false := by simpa using h0
    have hd1 : 1 ≤ d.natAbs := by omega
    have bn : n.natAbs ≤ 4000000000000000000 := by omega
    have bd : d.natAbs ≤ 4000000000000000000 := by omega
    clear h0
    have hg0 : 1 ≤ Nat.gcd n.natAbs d.natAbs := Nat.gcd_pos_of_pos_right _ hd1
    generalize hG : Nat.gcd n.natAbs d.natAbs = G at *
    have HG := Lib.hid hG
    clear hG
    obtain ⟨q1, h1⟩ : ∃ q, n.natAbs / G = q := ⟨_, rfl⟩
    obtain ⟨q2, h2⟩ : ∃ q, d.natAbs / G = q := ⟨_, rfl⟩
    have b1 : q1 ≤ 4000000000000000000 := by rw [← h1]; exact Nat.le_trans (Nat.div_le_self _ _) bn
    have b2 : q2 ≤ 4000000000000000000 := by rw [← h2]; exact Nat.le_trans (Nat.div_le_self _ _) bd
    have HE1 : Hid (IntKind.u64.wrap ((n.natAbs : Int) / (G : Int)) = (q1 : Int)) := by
      show _ = _
      rw [← Int.natCast_ediv, h1]; exact IntWalk.u64_in _ (by omega)
    have HE2 : Hid (IntKind.u64.wrap ((d.natAbs : Int) / (G : Int)) = (q2 : Int)) := by
      show _ = _
      rw [← Int.natCast_ediv, h2]; exact IntWalk.u64_in _ (by omega)
    by_cases hA : 1000000000000 < q1 ∨ 1000000 < q2
    · have HF : Hid (newI n d = (0, 0, 4)) := by show _ = _; rw [HR.out]; exact fit_over HG h1 h2 hA
      have HA : 1000000000000 < q1 ∨ (¬ 1000000000000 < q1 ∧ 1000000 < q2) := by omega
      clear h1 h2 hA
      rcases HA with hA | ⟨hA1, hA2⟩
      all_goals
        go_enter Tryd.func17, Tryd.ntmps17
        go_wp2_with fail
        refine (size_any n _ hn0 hn).mono ?_
        rintro e w' ⟨rfl, rfl⟩
        go_wp2_with fail
        refine (size_any d _ hd0 hd).mono ?_
        rintro e w' ⟨rfl, rfl⟩
        go_wp2_with fail
        refine (common_any _ _ _ (by omega) (by omega)).mono ?_
        rintro e w' ⟨rfl, nq, rfl⟩
        rw [HG.out]
        have e1 := HE1.out
        have e2 := HE2.out
        go_wp2_with fail
        go_quiet (fail)
        clear e1 e2
        go_wp2_with fail
        refine bodyPost_ret (v := .tuple #[.agg #[.int .i64 0, .int .i64 0], .int .i64 4]) (by simp [results, Tryd.results17, go_sem]) rfl ⟨by rw [HF.out]; rfl, ?_⟩
        exact ((belowN ((Below.refl _ _).alloc (Nat.le_refl _) _) _).setCell (by simp) _).setCell (by simp) _
    · have hA1 : q1 ≤ 1000000000000 := by omega
      have hA2 : q2 ≤ 1000000 := by omega
      have HF : Hid (newI n d = (if (!(decide (n < 0) == decide (d < 0))) = true then -(q1 : Int) else q1, (q2 : Int), 0)) := by show _ = _; rw [HR.out]; exact fit_done HG h1 h2 (by omega) (by omega)
      clear h1 h2 hA
      go_enter Tryd.func17, Tryd.ntmps17
      go_wp2_with fail
      refine (size_any n _ hn0 hn).mono ?_
      rintro e w' ⟨rfl, rfl⟩
      go_wp2_with fail
      refine (size_any d _ hd0 hd).mono ?_
      rintro e w' ⟨rfl, rfl⟩
      go_wp2_with fail
      refine (common_any _ _ _ (by omega) (by omega)).mono ?_
      rintro e w' ⟨rfl, nq, rfl⟩
      rw [HG.out]
      have e1 := HE1.out
      have e2 := HE2.out
      go_wp2_with fail
      go_quiet (fail)
      clear e1 e2
      go_wp2_with fail
      · have hs : (!decide (n < 0) == decide (d < 0)) = true := by assumption
        refine bodyPost_ret (v := .tuple #[.agg #[.int .i64 (-(q1 : Int)), .int .i64 q2], .int .i64 0]) (by simp [results, Tryd.results17, go_sem]) rfl ⟨by rw [HF.out, if_pos hs]; rfl, ?_⟩
        repeat (first | exact (Below.refl _ _).alloc (Nat.le_refl _) _ | exact belowN ((Below.refl _ _).alloc (Nat.le_refl _) _) _ | refine Below.setCell ?_ (by simp) _ | refine Below.alloc ?_ (by simp) _ | refine belowN ?_ _)
      · have hs : ¬ (!decide (n < 0) == decide (d < 0)) = true := by rw [Bool.not_eq_true]; assumption
        refine bodyPost_ret (v := .tuple #[.agg #[.int .i64 (q1 : Int), .int .i64 q2], .int .i64 0]) (by simp [results, Tryd.results17, go_sem]) rfl ⟨by rw [HF.out, if_neg hs]; rfl, ?_⟩
        repeat (first | exact (Below.refl _ _).alloc (Nat.le_refl _) _ | exact belowN ((Below.refl _ _).alloc (Nat.le_refl _) _) _ | refine Below.setCell ?_ (by simp) _ | refine Below.alloc ?_ (by simp) _ | refine belowN ?_ _)
end Go.Proofs.YtpdbkbadjgellaaDoor

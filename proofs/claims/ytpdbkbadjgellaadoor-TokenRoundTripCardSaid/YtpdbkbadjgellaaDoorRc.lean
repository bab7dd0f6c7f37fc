/-
  The walks of the reference's calendar (payrollref3): lengths, before, raw, InYears, Day, Parse of ten bytes in a date's form.
-/
import Derived.Test.YtpdbkbadjgellaaDoorCp
import Derived.Test.YtpdbkbadjgellaaDoorTkC
namespace Go.Proofs.YtpdbkbadjgellaaDoor
open Go.RowKit
attribute [local go_sem] ba_get ba_extract take_rest

set_option maxHeartbeats 1000000 in
theorem rlengths_any (y m : Int) (w : World) (hy : 0 ≤ y) (hy2 : y ≤ 100000) (hm : 1 ≤ m) (hm2 : m ≤ 12) :
    Calls Tryd.prog 64 #[.int .i64 y, .int .i64 m] w fun e w' => e = .returned (.int .i64 (Tk.mlen y m)) ∧ w = w' := by
  have hc : m = 1 ∨ m = 2 ∨ m = 3 ∨ m = 4 ∨ m = 5 ∨ m = 6 ∨ m = 7 ∨ m = 8 ∨ m = 9 ∨ m = 10 ∨ m = 11 ∨ m = 12 := by omega
  rcases hc with rfl | rfl | rfl | rfl | rfl | rfl | rfl | rfl | rfl | rfl | rfl | rfl
  rotate_left 1
  · cases hb : Tk.leapB y
    · have HR : Hid (Tk.mlen y 2 = 28) := by show _ = _; simp [Tk.mlen, hb]
      have h := of_decide_eq_false hb
      clear hb
      by_cases h4 : y % 4 = 0
      · have g4 : (y % 4 == 0) = true := by simpa using h4
        have g1 : (y % 100 != 0) = false := by simp; omega
        have g2 : (y % 400 == 0) = false := by simp; omega
        clear h h4
        go_enter Tryd.func64, Tryd.ntmps64
        go_wp2_with fail
        go_ret
        exact ⟨ret_int HR.out.symm, rfl⟩
      · have g4 : (y % 4 == 0) = false := by simpa using h4
        clear h h4
        go_enter Tryd.func64, Tryd.ntmps64
        go_wp2_with fail
        go_ret
        exact ⟨ret_int HR.out.symm, rfl⟩
    · have HR : Hid (Tk.mlen y 2 = 29) := by show _ = _; simp [Tk.mlen, hb]
      have h := of_decide_eq_true hb
      clear hb
      have g4 : (y % 4 == 0) = true := by simpa using h.1
      by_cases h1 : y % 100 = 0
      · have g1 : (y % 100 != 0) = false := by simpa using h1
        have g2 : (y % 400 == 0) = true := by simp; omega
        clear h h1
        go_enter Tryd.func64, Tryd.ntmps64
        go_wp2_with fail
        go_ret
        exact ⟨ret_int HR.out.symm, rfl⟩
      · have g1 : (y % 100 != 0) = true := by simpa using h1
        clear h h1
        go_enter Tryd.func64, Tryd.ntmps64
        go_wp2_with fail
        go_ret
        exact ⟨ret_int HR.out.symm, rfl⟩
  all_goals
    go_enter Tryd.func64, Tryd.ntmps64
    go_wp2_with fail
    go_ret
    exact ⟨ret_int (by simp [Tk.mlen]), rfl⟩

/-- Leap days ahead of a year. -/
theorem begn_step (y : Int) (k : Nat) (hy : y = 1972 + 4 * (k : Int)) : Tk.begn (y + 4) - 365 * (y + 4 - 1970) = Tk.begn y - 365 * (y - 1970) + (if Tk.leapB y = true then 1 else 0) := by
  subst hy
  unfold Tk.begn Tk.leapsN Tk.leapB
  by_cases h : (1972 + 4 * (k : Int)) % 100 ≠ 0 ∨ (1972 + 4 * (k : Int)) % 400 = 0
  · rw [if_pos (decide_eq_true ⟨by omega, h⟩)]; omega
  · rw [if_neg (by rw [decide_eq_true_iff]; exact fun h' => h h'.2)]; omega
theorem begn_end (y : Int) (k : Nat) (h1 : y ≤ 1972 + 4 * (k : Int)) (h2 : 1972 + 4 * (k : Int) < y + 4 ∨ k = 0) (h3 : 1970 ≤ y) : Tk.begn (1972 + 4 * (k : Int)) - 365 * (1972 + 4 * (k : Int) - 1970) = Tk.begn y - 365 * (y - 1970) := by
  unfold Tk.begn Tk.leapsN
  omega

set_option maxHeartbeats 1000000 in
theorem rbefore_any (y : Int) (w : World) (hy : 1970 ≤ y) (hy2 : y ≤ 2201) :
    Calls Tryd.prog 80 #[.int .i64 y] w fun e w' => e = .returned (.int .i64 (Tk.begn y)) ∧ w = w' := by
  go_enter Tryd.func80, Tryd.ntmps80
  go_wp2_with fail
  go_loop [3, 4] (fun n i => ∃ k : Nat, 4 * (k : Int) ≤ 236 ∧ (1972 + 4 * (k : Int) < y + 4 ∨ k = 0) ∧ i = .int .i64 (1972 + 4 * (k : Int)) ∧ n = .int .i64 ((y - 1970) * 365 + (Tk.begn (1972 + 4 * (k : Int)) - 365 * (1972 + 4 * (k : Int) - 1970)))) (fun _ i => (3000 - intOf i).toNat)
  case atStart => exact ⟨0, by omega, .inr rfl, rfl, by simp [Tk.begn, Tk.leapsN]⟩
  case round =>
    obtain ⟨k, hk, hk2, rfl, rfl⟩ := hrel
    have hb : 0 ≤ Tk.begn (1972 + 4 * (k : Int)) - 365 * (1972 + 4 * (k : Int) - 1970) ∧ Tk.begn (1972 + 4 * (k : Int)) - 365 * (1972 + 4 * (k : Int) - 1970) ≤ 100 := by unfold Tk.begn Tk.leapsN; omega
    by_cases hlt : 1972 + 4 * (k : Int) < y
    · have HS := Lib.hid (begn_step (1972 + 4 * (k : Int)) k rfl)
      generalize Tk.begn (1972 + 4 * (k : Int)) - 365 * (1972 + 4 * (k : Int) - 1970) = B at *
      cases hl : Tk.leapB (1972 + 4 * (k : Int))
      · have HM : Hid (Tk.mlen (1972 + 4 * (k : Int)) 2 = 28) := by show _ = _; simp [Tk.mlen, hl]
        have HS2 : Hid (Tk.begn (1972 + 4 * ((k + 1 : Nat) : Int)) - 365 * (1972 + 4 * ((k + 1 : Nat) : Int) - 1970) = B) := by
          show _ = _
          have := HS.out
          rw [hl] at this
          rw [show (1972 + 4 * ((k + 1 : Nat) : Int)) = 1972 + 4 * (k : Int) + 4 by omega, this]; simp
        clear hl HS
        go_wp2_with fail
        refine (rlengths_any _ _ _ (by omega) (by omega) (by omega) (by omega)).mono ?_
        rintro e w' ⟨rfl, rfl⟩
        rw [HM.out]
        go_wp2_with fail
        go_round
        case rel => exact ⟨k + 1, by omega, by omega, by go_num, by rw [HS2.out]⟩
        case measure => simp [intOf]; omega
      · have HM : Hid (Tk.mlen (1972 + 4 * (k : Int)) 2 = 29) := by show _ = _; simp [Tk.mlen, hl]
        have HS2 : Hid (Tk.begn (1972 + 4 * ((k + 1 : Nat) : Int)) - 365 * (1972 + 4 * ((k + 1 : Nat) : Int) - 1970) = B + 1) := by
          show _ = _
          have := HS.out
          rw [hl] at this
          rw [show (1972 + 4 * ((k + 1 : Nat) : Int)) = 1972 + 4 * (k : Int) + 4 by omega, this]; simp
        clear hl HS
        go_wp2_with fail
        refine (rlengths_any _ _ _ (by omega) (by omega) (by omega) (by omega)).mono ?_
        rintro e w' ⟨rfl, rfl⟩
        rw [HM.out]
        go_wp2_with fail
        go_round
        case rel => exact ⟨k + 1, by omega, by omega, by go_num, by rw [HS2.out]; go_num⟩
        case measure => simp [intOf]; omega
    · have HE := Lib.hid (begn_end y k (by omega) hk2 hy)
      go_wp2_with fail
      go_ret
      exact ⟨ret_int (by rw [HE.out]; omega), rfl⟩

set_option maxHeartbeats 1000000 in
theorem rraw_any (y m d : Int) (w : World) (hy : 1970 ≤ y) (hy2 : y ≤ 2199) (hm : 1 ≤ m) (hm2 : m ≤ 12) (hd : 1 ≤ d) (hd2 : d ≤ 31) :
    Calls Tryd.prog 65 #[.int .i64 y, .int .i64 m, .int .i64 d] w fun e w' => e = .returned (.int .i64 (Tk.dayNo y m d)) ∧ w = w' := by
  have hb : 0 ≤ Tk.begn y ∧ Tk.begn y ≤ 100000 := by unfold Tk.begn Tk.leapsN; omega
  go_enter Tryd.func65, Tryd.ntmps65
  go_wp2_with fail
  refine (rbefore_any _ _ (by omega) (by omega)).mono ?_
  rintro e w' ⟨rfl, rfl⟩
  go_wp2_with fail
  go_loop [7, 8] (fun n i => ∃ k : Nat, (k : Int) + 1 ≤ m ∧ i = .int .i64 ((k : Int) + 1) ∧ n = .int .i64 (Tk.begn y + d - 1 + Tk.cumM y k)) (fun _ i => (100 - intOf i).toNat)
  case atStart => exact ⟨0, by omega, rfl, by simp [Tk.cumM]⟩
  case round =>
    obtain ⟨k, hk, rfl, rfl⟩ := hrel
    have hc := Tk.cum_lo y k
    by_cases hlt : (k : Int) + 1 < m
    · have hml := Tk.mlen_lo y ((k : Int) + 1)
      have HC := Lib.hid (Tk.cum_succ y k)
      go_wp2_with fail
      refine (rlengths_any _ _ _ (by omega) (by omega) (by omega) (by omega)).mono ?_
      rintro e w' ⟨rfl, rfl⟩
      go_wp2_with fail
      go_round
      case rel => exact ⟨k + 1, by omega, by go_num, by rw [HC.out]; go_num⟩
      case measure => simp [intOf]; omega
    · have HE : Hid (Tk.dayNo y m d = Tk.begn y + d - 1 + Tk.cumM y k) := by
        show _ = _
        unfold Tk.dayNo
        rw [show (m - 1).toNat = k by omega]
        omega
      go_wp2_with fail
      go_ret
      exact ⟨ret_int HE.out.symm, rfl⟩

theorem rinYears_any (y : Int) (w : World) : Calls Tryd.prog 63 #[.int .i64 y] w fun e w' => e = .returned (.bool (decide (1970 ≤ y ∧ y ≤ 2199))) ∧ w = w' := by
  go_enter Tryd.func63, Tryd.ntmps63
  go_wp2
  all_goals
    go_ret
    refine ⟨ret_bool ?_, rfl⟩
    rw [Bool.eq_iff_iff]
    simp
    try omega
end Go.Proofs.YtpdbkbadjgellaaDoor

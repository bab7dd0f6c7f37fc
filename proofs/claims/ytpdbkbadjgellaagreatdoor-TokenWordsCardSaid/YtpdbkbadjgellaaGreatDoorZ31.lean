/-
  The walks of the reference's calendar (payrollref3): lengths, before, raw, InYears, Day, Parse of ten bytes in a date's form.
  The reference's Date and Format of days.
-/
import Derived.Test.YtpdbkbadjgellaaGreatDoorZ01
import Derived.Test.YtpdbkbadjgellaaGreatDoorZ00
import Derived.Test.YtpdbkbadjgellaaGreatDoorZ28
namespace Go.Proofs.YtpdbkbadjgellaaGreatDoor
open Go.RowKit
attribute [local go_sem] ba_get ba_extract take_rest

set_option maxHeartbeats 1000000 in
theorem rlengths_any (y m : Int) (w : World) (hy : 0 ≤ y) (hy2 : y ≤ 100000) (hm : 1 ≤ m) (hm2 : m ≤ 12) :
    Calls Tryz.prog 100 #[.int .i64 y, .int .i64 m] w fun e w' => e = .returned (.int .i64 (Tk.mlen y m)) ∧ w = w' := by
  have hc : m = 1 ∨ m = 2 ∨ m = 3 ∨ m = 4 ∨ m = 5 ∨ m = 6 ∨ m = 7 ∨ m = 8 ∨ m = 9 ∨ m = 10 ∨ m = 11 ∨ m = 12 := by omega
  rcases hc with rfl | rfl | rfl | rfl | rfl | rfl | rfl | rfl | rfl | rfl | rfl | rfl
  rotate_left 1
  · cases hb : Tk.leapB y
    · have HR : Hid (Tk.mlen y 2 = 28) := by show _ = _; simp [Tk.mlen, hb]
      have h := of_decide_eq_false hb
      clear hb
      by_cases h4 : y % 4 = 0
      · have g4 : (y % 4 == 0) = true := by simpa using h4
        have g1 : (y % 100 != 0) = false := by simp; omega
        have g2 : (y % 400 == 0) = false := by simp; omega
        clear h h4
        go_enter Tryz.func100, Tryz.ntmps100
        go_wp2_with fail
        go_ret
        exact ⟨ret_int HR.out.symm, rfl⟩
      · have g4 : (y % 4 == 0) = false := by simpa using h4
        clear h h4
        go_enter Tryz.func100, Tryz.ntmps100
        go_wp2_with fail
        go_ret
        exact ⟨ret_int HR.out.symm, rfl⟩
    · have HR : Hid (Tk.mlen y 2 = 29) := by show _ = _; simp [Tk.mlen, hb]
      have h := of_decide_eq_true hb
      clear hb
      have g4 : (y % 4 == 0) = true := by simpa using h.1
      by_cases h1 : y % 100 = 0
      · have g1 : (y % 100 != 0) = false := by simpa using h1
        have g2 : (y % 400 == 0) = true := by simp; omega
        clear h h1
        go_enter Tryz.func100, Tryz.ntmps100
        go_wp2_with fail
        go_ret
        exact ⟨ret_int HR.out.symm, rfl⟩
      · have g1 : (y % 100 != 0) = true := by simpa using h1
        clear h h1
        go_enter Tryz.func100, Tryz.ntmps100
        go_wp2_with fail
        go_ret
        exact ⟨ret_int HR.out.symm, rfl⟩
  all_goals
    go_enter Tryz.func100, Tryz.ntmps100
    go_wp2_with fail
    go_ret
    exact ⟨ret_int (by simp [Tk.mlen]), rfl⟩

/-- Leap days ahead of a year. -/
theorem begn_step (y : Int) (k : Nat) (hy : y = 1972 + 4 * (k : Int)) : Tk.begn (y + 4) - 365 * (y + 4 - 1970) = Tk.begn y - 365 * (y - 1970) + (if Tk.leapB y = true then 1 else 0) := by
  subst hy
  unfold Tk.begn Tk.leapsN Tk.leapB
  by_cases h : (1972 + 4 * (k : Int)) % 100 ≠ 0 ∨ (1972 + 4 * (k : Int)) % 400 = 0
  · rw [if_pos (decide_eq_true ⟨by omega, h⟩)]; omega
  · rw [if_neg (by rw [decide_eq_true_iff]; exact fun h' => h h'.2)]; omega
theorem begn_end (y : Int) (k : Nat) (h1 : y ≤ 1972 + 4 * (k : Int)) (h2 : 1972 + 4 * (k : Int) < y + 4 ∨ k = 0) (h3 : 1970 ≤ y) : Tk.begn (1972 + 4 * (k : Int)) - 365 * (1972 + 4 * (k : Int) - 1970) = Tk.begn y - 365 * (y - 1970) := by
  unfold Tk.begn Tk.leapsN
  omega

set_option maxHeartbeats 1000000 in
theorem rbefore_any (y : Int) (w : World) (hy : 1970 ≤ y) (hy2 : y ≤ 2201) :
    Calls Tryz.prog 108 #[.int .i64 y] w fun e w' => e = .returned (.int .i64 (Tk.begn y)) ∧ w = w' := by
  go_enter Tryz.func108, Tryz.ntmps108
  go_wp2_with fail
  go_loop [3, 4] (fun n i => ∃ k : Nat, 4 * (k : Int) ≤ 236 ∧ (1972 + 4 * (k : Int) < y + 4 ∨ k = 0) ∧ i = .int .i64 (1972 + 4 * (k : Int)) ∧ n = .int .i64 ((y - 1970) * 365 + (Tk.begn (1972 + 4 * (k : Int)) - 365 * (1972 + 4 * (k : Int) - 1970)))) (fun _ i => (3000 - intOf i).toNat)
  case atStart => exact ⟨0, by omega, .inr rfl, rfl, by simp [Tk.begn, Tk.leapsN]⟩
  case round =>
    obtain ⟨k, hk, hk2, rfl, rfl⟩ := hrel
    have hb : 0 ≤ Tk.begn (1972 + 4 * (k : Int)) - 365 * (1972 + 4 * (k : Int) - 1970) ∧ Tk.begn (1972 + 4 * (k : Int)) - 365 * (1972 + 4 * (k : Int) - 1970) ≤ 100 := by unfold Tk.begn Tk.leapsN; omega
    by_cases hlt : 1972 + 4 * (k : Int) < y
    · have HS := Lib.hid (begn_step (1972 + 4 * (k : Int)) k rfl)
      generalize Tk.begn (1972 + 4 * (k : Int)) - 365 * (1972 + 4 * (k : Int) - 1970) = B at *
      cases hl : Tk.leapB (1972 + 4 * (k : Int))
      · have HM : Hid (Tk.mlen (1972 + 4 * (k : Int)) 2 = 28) := by show _ = _; simp [Tk.mlen, hl]
        have HS2 : Hid (Tk.begn (1972 + 4 * ((k + 1 : Nat) : Int)) - 365 * (1972 + 4 * ((k + 1 : Nat) : Int) - 1970) = B) := by
          show _ = _
          have := HS.out
          rw [hl] at this
          rw [show (1972 + 4 * ((k + 1 : Nat) : Int)) = 1972 + 4 * (k : Int) + 4 by omega, this]; simp
        clear hl HS
        go_wp2_with fail
        refine (rlengths_any _ _ _ (by omega) (by omega) (by omega) (by omega)).mono ?_
        rintro e w' ⟨rfl, rfl⟩
        rw [HM.out]
        go_wp2_with fail
        go_round
        case rel => exact ⟨k + 1, by omega, by omega, by go_num, by rw [HS2.out]⟩
        case measure => simp [intOf]; omega
      · have HM : Hid (Tk.mlen (1972 + 4 * (k : Int)) 2 = 29) := by show _ = _; simp [Tk.mlen, hl]
        have HS2 : Hid (Tk.begn (1972 + 4 * ((k + 1 : Nat) : Int)) - 365 * (1972 + 4 * ((k + 1 : Nat) : Int) - 1970) = B + 1) := by
          show _ = _
          have := HS.out
          rw [hl] at this
          rw [show (1972 + 4 * ((k + 1 : Nat) : Int)) = 1972 + 4 * (k : Int) + 4 by omega, this]; simp
        clear hl HS
        go_wp2_with fail
        refine (rlengths_any _ _ _ (by omega) (by omega) (by omega) (by omega)).mono ?_
        rintro e w' ⟨rfl, rfl⟩
        rw [HM.out]
        go_wp2_with fail
        go_round
        case rel => exact ⟨k + 1, by omega, by omega, by go_num, by rw [HS2.out]; go_num⟩
        case measure => simp [intOf]; omega
    · have HE := Lib.hid (begn_end y k (by omega) hk2 hy)
      go_wp2_with fail
      go_ret
      exact ⟨ret_int (by rw [HE.out]; omega), rfl⟩

set_option maxHeartbeats 1000000 in
theorem rraw_any (y m d : Int) (w : World) (hy : 1970 ≤ y) (hy2 : y ≤ 2199) (hm : 1 ≤ m) (hm2 : m ≤ 12) (hd : 1 ≤ d) (hd2 : d ≤ 31) :
    Calls Tryz.prog 101 #[.int .i64 y, .int .i64 m, .int .i64 d] w fun e w' => e = .returned (.int .i64 (Tk.dayNo y m d)) ∧ w = w' := by
  have hb : 0 ≤ Tk.begn y ∧ Tk.begn y ≤ 100000 := by unfold Tk.begn Tk.leapsN; omega
  go_enter Tryz.func101, Tryz.ntmps101
  go_wp2_with fail
  refine (rbefore_any _ _ (by omega) (by omega)).mono ?_
  rintro e w' ⟨rfl, rfl⟩
  go_wp2_with fail
  go_loop [7, 8] (fun n i => ∃ k : Nat, (k : Int) + 1 ≤ m ∧ i = .int .i64 ((k : Int) + 1) ∧ n = .int .i64 (Tk.begn y + d - 1 + Tk.cumM y k)) (fun _ i => (100 - intOf i).toNat)
  case atStart => exact ⟨0, by omega, rfl, by simp [Tk.cumM]⟩
  case round =>
    obtain ⟨k, hk, rfl, rfl⟩ := hrel
    have hc := Tk.cum_lo y k
    by_cases hlt : (k : Int) + 1 < m
    · have hml := Tk.mlen_lo y ((k : Int) + 1)
      have HC := Lib.hid (Tk.cum_succ y k)
      go_wp2_with fail
      refine (rlengths_any _ _ _ (by omega) (by omega) (by omega) (by omega)).mono ?_
      rintro e w' ⟨rfl, rfl⟩
      go_wp2_with fail
      go_round
      case rel => exact ⟨k + 1, by omega, by go_num, by rw [HC.out]; go_num⟩
      case measure => simp [intOf]; omega
    · have HE : Hid (Tk.dayNo y m d = Tk.begn y + d - 1 + Tk.cumM y k) := by
        show _ = _
        unfold Tk.dayNo
        rw [show (m - 1).toNat = k by omega]
        omega
      go_wp2_with fail
      go_ret
      exact ⟨ret_int HE.out.symm, rfl⟩

theorem rinYears_any (y : Int) (w : World) : Calls Tryz.prog 99 #[.int .i64 y] w fun e w' => e = .returned (.bool (decide (1970 ≤ y ∧ y ≤ 2199))) ∧ w = w' := by
  go_enter Tryz.func99, Tryz.ntmps99
  go_wp2
  all_goals
    go_ret
    refine ⟨ret_bool ?_, rfl⟩
    rw [Bool.eq_iff_iff]
    simp
    try omega
end Go.Proofs.YtpdbkbadjgellaaGreatDoor

namespace Go.Proofs.YtpdbkbadjgellaaGreatDoor
open Go.RowKit
attribute [local go_sem] ba_get ba_extract take_rest ba_append

set_option maxHeartbeats 2000000 in
theorem rdayOf_any (d : Int) (w : World) (h0 : 0 ≤ d) (h1 : d ≤ 84005) :
    Calls Tryz.prog 82 #[.int .i64 d] w fun e w' => e = .returned (.tuple #[.int .i64 (Tk.yOf d), .int .i64 (Tk.mOf d), .int .i64 (Tk.dOf d), .bool true]) ∧ Below w.heap.size w w' := by
  have HD : Hid ((decide (0 ≤ d) && decide (d ≤ 84005)) = true) := by show _ = _; simp [h0, h1]
  have hg := Tk.begn_guess d h0
  go_enter Tryz.func82, Tryz.ntmps82
  go_wp2_with fail
  refine (rinDays_any d _).mono ?_
  rintro e w1 ⟨rfl, hB⟩
  rw [HD.out]
  have HB := Lib.hid hB
  clear hB
  go_wp2_with fail
  go_loop [6] (fun t => ∃ (f : Nat) (y : Int), 1970 + d / 366 ≤ y ∧ y ≤ 2199 ∧ Hid ((f : Int) + y = 300 + (1970 + d / 366)) ∧ Tk.begn y ≤ d ∧ t = .int .i64 y ∧ Hid (Tk.yearUp f y d = Tk.yOf d)) (fun t => (2199 - intOf t).toNat)
  case atStart => exact ⟨300, _, Int.le_refl _, by omega, rfl, hg, rfl, rfl⟩
  case round =>
    obtain ⟨f, y, hy1, hy2, HF, hy3, rfl, HY⟩ := hrel
    by_cases hc : Tk.begn (y + 1) ≤ d
    · have hy4 : y + 1 ≤ 2199 := by
        rcases Int.lt_or_le y 2199 with h | h
        · omega
        · have := Tk.begn_mono 2200 (y + 1) (by omega)
          rw [Tk.begn_2200] at this
          omega
      have hf : 1 ≤ f := by have := HF.out; omega
      obtain ⟨g, rfl⟩ : ∃ g, f = g + 1 := ⟨f - 1, by omega⟩
      have HF2 : Hid ((g : Int) + (y + 1) = 300 + (1970 + d / 366)) := by show _ = _; have := HF.out; omega
      have HY2 : Hid (Tk.yearUp g (y + 1) d = Tk.yOf d) := by show _ = _; rw [← HY.out, Tk.yearUp, if_pos hc]
      go_wp2_with fail
      refine (rbefore_any _ _ (by omega) (by omega)).mono ?_
      rintro e w' ⟨rfl, rfl⟩
      go_wp2_with fail
      go_round
      case rel => exact ⟨g, y + 1, by omega, by omega, HF2, hc, rfl, HY2⟩
      case measure => simp [intOf]; omega
    · have HY2 : Hid (Tk.yOf d = y) := by show _ = _; rw [← HY.out]; exact Tk.yearUp_stop f y d (by omega)
      have HM : Hid (Tk.mOf d = (Tk.monUp 12 y 1 (d - Tk.begn y)).1 ∧ Tk.dOf d = (Tk.monUp 12 y 1 (d - Tk.begn y)).2 + 1) := by
        show _ ∧ _
        rw [← HY2.out]
        exact ⟨rfl, rfl⟩
      have hs := Tk.begn_succ y
      rw [← Tk.cum12] at hs
      have HS : d < Tk.begn y + Tk.cumM y 12 := by omega
      have hb9 : 0 ≤ Tk.begn y := by
        have := Tk.begn_mono 1970 y (by omega)
        have e0 : Tk.begn 1970 = 0 := by decide
        omega
      have hc366 : d - Tk.begn y ≤ 366 := by have := Tk.cum12 y; split at this <;> omega
      have hc0 : d - Tk.begn y + Tk.cumM y 0 < Tk.cumM y 12 := by
        have : Tk.cumM y 0 = 0 := rfl
        omega
      clear hs HF
      go_wp2_with fail
      refine (rbefore_any _ _ (by omega) (by omega)).mono ?_
      rintro e w' ⟨rfl, rfl⟩
      go_wp2_with fail
      refine (rbefore_any _ _ (by omega) (by omega)).mono ?_
      rintro e w' ⟨rfl, rfl⟩
      go_wp2_with fail
      go_loop [7, 8] (fun r i => ∃ (k f : Nat) (x : Int), k ≤ 11 ∧ k + f = 12 ∧ 0 ≤ x ∧ x ≤ 366 ∧ x + Tk.cumM y k < Tk.cumM y 12 ∧ i = .int .i64 ((k : Int) + 1) ∧ r = .int .i64 x ∧ Hid (Tk.monUp f y (k + 1) x = Tk.monUp 12 y 1 (d - Tk.begn y))) (fun _ i => (13 - intOf i).toNat)
      case atStart => exact ⟨0, 12, d - Tk.begn y, by omega, rfl, by omega, hc366, hc0, rfl, rfl, rfl⟩
      case round =>
        obtain ⟨k, f, x, hk, hkf, hx0, hx1, hx2, rfl, rfl, HX⟩ := hrel
        have hml := mlen_bd y (k + 1)
        obtain ⟨c3, c4⟩ := hml
        by_cases hc : Tk.mlen y (k + 1) ≤ x
        · have hk2 : k + 1 ≤ 11 := by
            rcases Nat.lt_or_ge k 11 with h | h
            · omega
            · have hk11 : k = 11 := by omega
              subst hk11
              have := Tk.cum_succ y 11
              simp only [Nat.reduceAdd] at this
              omega
          obtain ⟨g, rfl⟩ : ∃ g, f = g + 1 := ⟨f - 1, by omega⟩
          have HX2 : Hid (Tk.monUp g y ((k + 1 : Nat) + 1) (x - Tk.mlen y (k + 1)) = Tk.monUp 12 y 1 (d - Tk.begn y)) := by
            show _ = _
            rw [← HX.out]
            conv => rhs; rw [Tk.monUp, if_pos hc]
            simp
          have hx3 : x - Tk.mlen y (k + 1) + Tk.cumM y (k + 1) < Tk.cumM y 12 := by rw [Tk.cum_succ]; omega
          go_wp2_with fail
          refine (rlengths_any _ _ _ (by omega) (by omega) (by omega) (by omega)).mono ?_
          rintro e w' ⟨rfl, rfl⟩
          go_wp2_with fail
          refine (rlengths_any _ _ _ (by omega) (by omega) (by omega) (by omega)).mono ?_
          rintro e w' ⟨rfl, rfl⟩
          go_wp2_with fail
          go_round
          case rel => exact ⟨k + 1, g, x - Tk.mlen y (k + 1), by omega, by omega, by omega, by omega, hx3, by go_num, rfl, HX2⟩
          case measure => simp [intOf]; omega
        · have HX2 : Hid (Tk.mOf d = (k : Int) + 1 ∧ Tk.dOf d = x + 1) := by
            show _ ∧ _
            have hm := HM.out
            rw [← HX.out, Tk.monUp_stop f y _ x (by omega)] at hm
            exact hm
          go_wp2_with fail
          refine (rlengths_any _ _ _ (by omega) (by omega) (by omega) (by omega)).mono ?_
          rintro e w' ⟨rfl, rfl⟩
          go_wp2_with fail
          refine bodyPost_ret (results_tmp4 rfl _ _ _) rfl ⟨?_, HB.out⟩
          rw [HX2.out.1, HX2.out.2, HY2.out]
          rfl
def dateRef (d : Int) : List UInt8 := Lib.itoa (Tk.yOf d) ++ [45] ++ twoD (Tk.mOf d) ++ [45] ++ twoD (Tk.dOf d)
theorem dateRef_len (d : Int) (h0 : 0 ≤ d) (h1 : d ≤ 84005) : (dateRef d).length ≤ 27 := by
  have hs := of_decide_eq_true (Tk.date_spec d h0 h1).1
  obtain ⟨y1, y2, _⟩ := hs
  have l1 := Lib.itoa_length_le (Tk.yOf d) (by omega) (by omega)
  simp [dateRef, twoD]
  omega
set_option maxHeartbeats 2000000 in
theorem rdayText_any (d : Int) (w : World) (h0 : 0 ≤ d) (h1 : d ≤ 84005) :
    Calls Tryz.prog 52 #[.int .i64 d] w fun e w' => e = .returned (.string ⟨(dateRef d).toArray⟩) ∧ Below w.heap.size w w' := by
  have HT : Hid (dateRef d = Lib.itoa (Tk.yOf d) ++ [45] ++ twoD (Tk.mOf d) ++ [45] ++ twoD (Tk.dOf d)) := rfl
  have hs := of_decide_eq_true (Tk.date_spec d h0 h1).1
  obtain ⟨y1, y2, m1, m2, d1, d2⟩ := hs
  have d3 := (mlen_bd (Tk.yOf d) (Tk.mOf d)).2
  have hc := Lib.hid (rdayOf_any d w h0 h1)
  generalize Tk.yOf d = y at *
  generalize Tk.mOf d = m at *
  generalize Tk.dOf d = a at *
  have l1 := Lib.itoa_length_le y (by omega) (by omega)
  have l2 : (twoD m).length ≤ 2 := by simp [twoD]
  have l3 : (twoD a).length ≤ 2 := by simp [twoD]
  go_enter Tryz.func52, Tryz.ntmps52
  go_wp2_with fail
  refine hc.out.mono ?_
  rintro e w1 ⟨rfl, hB1⟩
  go_wp2_with fail
  refine (rdecimal_any y _ (by omega) (by omega)).mono ?_
  rintro e w2 ⟨rfl, hB2⟩
  go_wp2_with fail
  refine (rtwo_any m _ (by omega) (by omega)).mono ?_
  rintro e w3 ⟨rfl, hB3⟩
  go_wp2_with fail
  refine (rtwo_any a _ (by omega) (by omega)).mono ?_
  rintro e w4 ⟨rfl, hB4⟩
  go_wp2_with fail
  go_ret
  have B2 := hB1.trans (hB2.mono hB1.size)
  have B3 := B2.trans (hB3.mono B2.size)
  exact ⟨ret_str (by rw [HT.out]; simp), B3.trans (hB4.mono B3.size)⟩
end Go.Proofs.YtpdbkbadjgellaaGreatDoor

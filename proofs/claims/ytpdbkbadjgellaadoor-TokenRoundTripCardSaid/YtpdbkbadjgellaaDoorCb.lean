/-
  The walks of package calendar: valid, yearOf, Date, two, Format; strconv.Itoa as the shelf has it.
-/
import Derived.Test.YtpdbkbadjgellaaDoorCa
import Derived.Test.YtpdbkbadjgellaaDoorCp
import Derived.Test.YtpdbkbadjgellaaDoorTkF
import Derived.Lib.ItoaLen
import Derived.Lib.SmallJoins
namespace Go.Proofs.YtpdbkbadjgellaaDoor
open Go.RowKit
attribute [local go_sem] ba_get ba_extract take_rest

/-- The tables that the texts of numbers need. -/
def Pow (w : World) : Prop := Lib.TabIs Tryd.prog w "internal/strconv.uint64pow10" .u64 Lib.pow10Tab
theorem gPow : Tryd.prog.globalNamed "internal/strconv.uint64pow10" = some 2 := by kernel_rfl
theorem Pow.below {w w' : World} (h : Pow w) (hb : Below w.heap.size w w') : Pow w' := Joins.tab_stays gPow h hb (Nat.le_refl _)
theorem Pow.alloc {w : World} (h : Pow w) (o : Obj) : Pow (w.alloc o) := h.below ((Below.refl _ _).alloc (Nat.le_refl _) _)
theorem below_grow (w : World) (n : Nat) (os : Array Obj) : Below w.heap.size w (Sort.grow (w.drewN n) os) :=
  ⟨rfl, rfl, rfl, by simp [Sort.grow], fun k hk => by show (w.heap ++ os)[k]? = _; rw [Array.getElem?_append_left hk]⟩

theorem itoa_any (n : Int) (w : World) (h0 : -9223372036854775808 ≤ n) (h1 : n ≤ 9223372036854775807) (hp : Pow w) :
    Calls Tryd.prog 40 #[.int .i64 n] w fun e w' => e = .returned (.string ⟨(Lib.itoa n).toArray⟩) ∧ Below w.heap.size w w' := by
  refine (Tryd.strconv_Itoa n h0 h1 w hp).mono ?_
  rintro e w' ⟨rfl, k, os, rfl⟩
  exact ⟨rfl, below_grow w k os⟩

def inDays (d : Int) : Bool := decide (0 ≤ d ∧ d ≤ 84005)
theorem calValid_any (d : Int) (w : World) :
    Calls Tryd.prog 67 #[.int .i64 d] w fun e w' => e = .returned (.bool (inDays d)) ∧ w = w' := by
  go_enter Tryd.func67, Tryd.ntmps67
  go_wp2
  all_goals
    go_ret
    refine ⟨ret_bool ?_, rfl⟩
    unfold inDays
    rw [Bool.eq_iff_iff]
    simp
    omega

set_option maxHeartbeats 1000000 in
theorem yearOf_any (d : Int) (w : World) (h0 : 0 ≤ d) (h1 : d ≤ 84005) :
    Calls Tryd.prog 68 #[.int .i64 d] w fun e w' => e = .returned (.int .i64 (Tk.yOf d)) ∧ w = w' := by
  have hg := Tk.begn_guess d h0
  go_enter Tryd.func68, Tryd.ntmps68
  go_wp2_with fail
  go_loop [3] (fun t => ∃ (f : Nat) (y : Int), 1970 + d / 366 ≤ y ∧ y ≤ 2199 ∧ Hid ((f : Int) + y = 300 + (1970 + d / 366)) ∧ Tk.begn y ≤ d ∧ t = .int .i64 y ∧ Hid (Tk.yearUp f y d = Tk.yOf d)) (fun t => (2199 - intOf t).toNat)
  case atStart => exact ⟨300, _, Int.le_refl _, by omega, rfl, hg, rfl, rfl⟩
  case round =>
    obtain ⟨f, y, hy1, hy2, HF, hy3, rfl, HY⟩ := hrel
    by_cases hc : Tk.begn (y + 1) ≤ d
    · have hy4 : y + 1 ≤ 2199 := by
        rcases Int.lt_or_le y 2199 with h | h
        · omega
        · have := Tk.begn_mono 2200 (y + 1) (by omega)
          rw [Tk.begn_2200] at this
          omega
      have hf : 1 ≤ f := by have := HF.out; omega
      obtain ⟨g, rfl⟩ : ∃ g, f = g + 1 := ⟨f - 1, by omega⟩
      have HF2 : Hid ((g : Int) + (y + 1) = 300 + (1970 + d / 366)) := by show _ = _; have := HF.out; omega
      have HY2 : Hid (Tk.yearUp g (y + 1) d = Tk.yOf d) := by show _ = _; rw [← HY.out, Tk.yearUp, if_pos hc]
      go_wp2_with (go_at_call 69; refine (begin_any _ _ (by omega) (by omega)).mono ?_; rintro e w' ⟨rfl, rfl⟩)
      go_round
      case rel => exact ⟨g, y + 1, by omega, by omega, HF2, hc, rfl, HY2⟩
      case measure => simp [intOf]; omega
    · have HY2 : Hid (Tk.yOf d = y) := by show _ = _; rw [← HY.out]; exact Tk.yearUp_stop f y d (by omega)
      go_wp2_with (go_at_call 69; refine (begin_any _ _ (by omega) (by omega)).mono ?_; rintro e w' ⟨rfl, rfl⟩)
      go_ret
      exact ⟨ret_int HY2.out.symm, rfl⟩

theorem results_tmp4 {fn : Func} {t u v x : Tmp} (h : fn.results = #[.tmp t, .tmp u, .tmp v, .tmp x]) (tmps : Array Value) (P : Program) (w : World) :
    (results fn tmps).run P w = .ok (.tuple #[tmps.getD t undef, tmps.getD u undef, tmps.getD v undef, tmps.getD x undef]) w := by simp [results, h]

/-- Date's four results. -/
def dateRes (d : Int) : Ending := if inDays d = true then .returned (.tuple #[.int .i64 (Tk.yOf d), .int .i64 (Tk.mOf d), .int .i64 (Tk.dOf d), .bool true]) else .returned (.tuple #[.int .i64 0, .int .i64 0, .int .i64 0, .bool false])

set_option maxHeartbeats 1000000 in
theorem date_any (d : Int) (w : World) (hl : Lens w) :
    Calls Tryd.prog 50 #[.int .i64 d] w fun e w' => e = dateRes d ∧ w = w' := by
  have HL := Lib.hid hl
  clear hl
  by_cases hd : 0 ≤ d ∧ d ≤ 84005
  · have HD : Hid (inDays d = true) := decide_eq_true hd
    obtain ⟨h0, h1⟩ := hd
    obtain ⟨a, b, c, e⟩ := Tk.yOf_spec d h0 h1
    have HM : Hid (Tk.mOf d = (Tk.monUp 12 (Tk.yOf d) 1 (d - Tk.begn (Tk.yOf d))).1 ∧ Tk.dOf d = (Tk.monUp 12 (Tk.yOf d) 1 (d - Tk.begn (Tk.yOf d))).2 + 1) := ⟨rfl, rfl⟩
    have hs := Tk.begn_succ (Tk.yOf d)
    rw [← Tk.cum12] at hs
    generalize hy : Tk.yOf d = y at *
    have HY := Lib.hid hy
    have HS : d < Tk.begn y + Tk.cumM y 12 := by omega
    have hb9 : 0 ≤ Tk.begn y := by
      have := Tk.begn_mono 1970 y (by omega)
      have e0 : Tk.begn 1970 = 0 := by decide
      omega
    have hc366 : d - Tk.begn y ≤ 366 := by have := Tk.cum12 y; split at this <;> omega
    have hc0 : d - Tk.begn y + Tk.cumM y 0 < Tk.cumM y 12 := by
      have : Tk.cumM y 0 = 0 := rfl
      omega
    clear hy hs
    go_enter Tryd.func50, Tryd.ntmps50
    go_wp2_with fail
    refine (calValid_any d _).mono ?_
    rintro e w' ⟨rfl, rfl⟩
    rw [HD.out]
    go_wp2_with fail
    refine (yearOf_any d _ h0 h1).mono ?_
    rintro e w' ⟨rfl, rfl⟩
    rw [HY.out]
    go_wp2_with fail
    refine (begin_any y _ (by omega) (by omega)).mono ?_
    rintro e w' ⟨rfl, rfl⟩
    go_wp2_with fail
    go_loop [7, 8] (fun r i => ∃ (k f : Nat) (x : Int), k ≤ 11 ∧ k + f = 12 ∧ 0 ≤ x ∧ x ≤ 366 ∧ x + Tk.cumM y k < Tk.cumM y 12 ∧ i = .int .i64 ((k : Int) + 1) ∧ r = .int .i64 x ∧ Hid (Tk.monUp f y (k + 1) x = Tk.monUp 12 y 1 (d - Tk.begn y))) (fun _ i => (13 - intOf i).toNat)
    case atStart => exact ⟨0, 12, d - Tk.begn y, by omega, rfl, by omega, hc366, hc0, rfl, rfl, rfl⟩
    case round =>
      obtain ⟨k, f, x, hk, hkf, hx0, hx1, hx2, rfl, rfl, HX⟩ := hrel
      have hml := mlen_bd y (k + 1)
      obtain ⟨c3, c4⟩ := hml
      by_cases hc : Tk.mlen y (k + 1) ≤ x
      · have hk2 : k + 1 ≤ 11 := by
          rcases Nat.lt_or_ge k 11 with h | h
          · omega
          · have hk11 : k = 11 := by omega
            subst hk11
            have := Tk.cum_succ y 11
            simp only [Nat.reduceAdd] at this
            omega
        obtain ⟨g, rfl⟩ : ∃ g, f = g + 1 := ⟨f - 1, by omega⟩
        have HX2 : Hid (Tk.monUp g y ((k + 1 : Nat) + 1) (x - Tk.mlen y (k + 1)) = Tk.monUp 12 y 1 (d - Tk.begn y)) := by
          show _ = _
          rw [← HX.out]
          conv => rhs; rw [Tk.monUp, if_pos hc]
          simp
        have hx3 : x - Tk.mlen y (k + 1) + Tk.cumM y (k + 1) < Tk.cumM y 12 := by rw [Tk.cum_succ]; omega
        go_wp2_with fail
        refine (length_int _ _ _ (by omega) (by omega) (by omega) (by omega) HL.out).mono ?_
        rintro e w' ⟨rfl, rfl⟩
        go_wp2_with fail
        refine (length_int _ _ _ (by omega) (by omega) (by omega) (by omega) HL.out).mono ?_
        rintro e w' ⟨rfl, rfl⟩
        go_wp2_with fail
        go_round
        case rel => exact ⟨k + 1, g, x - Tk.mlen y (k + 1), by omega, by omega, by omega, by omega, hx3, by go_num, rfl, HX2⟩
        case measure => simp [intOf]; omega
      · have HX2 : Hid (Tk.mOf d = (k : Int) + 1 ∧ Tk.dOf d = x + 1) := by
          show _ ∧ _
          have hm := HM.out
          rw [← HX.out, Tk.monUp_stop f y _ x (by omega)] at hm
          exact hm
        go_wp2_with fail
        refine (length_int _ _ _ (by omega) (by omega) (by omega) (by omega) HL.out).mono ?_
        rintro e w' ⟨rfl, rfl⟩
        go_wp2_with fail
        refine bodyPost_ret (results_tmp4 rfl _ _ _) rfl ⟨?_, rfl⟩
        unfold dateRes
        rw [HD.out, if_pos rfl, HX2.out.1, HX2.out.2, HY.out]
        rfl
  · have HD : Hid (inDays d = false) := decide_eq_false hd
    clear hd
    go_enter Tryd.func50, Tryd.ntmps50
    go_wp2_with fail
    refine (calValid_any d _).mono ?_
    rintro e w' ⟨rfl, rfl⟩
    rw [HD.out]
    go_wp2_with fail
    refine bodyPost_ret (results_tmp4 rfl _ _ _) rfl ⟨?_, rfl⟩
    unfold dateRes
    rw [HD.out]
    rfl
end Go.Proofs.YtpdbkbadjgellaaDoor

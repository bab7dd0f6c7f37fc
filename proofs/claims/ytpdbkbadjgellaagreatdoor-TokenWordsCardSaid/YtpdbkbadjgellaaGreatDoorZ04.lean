/-
  The walks of package calendar: valid, yearOf, Date, two, Format; strconv.Itoa as the shelf has it.
  The walks of package calendar's two and Format.
  The walks of package token's isDecimal and Number.
  Plain laws on the scan of a text. No program in sight.
  The walk of package token's Scan.
-/
import Derived.Test.YtpdbkbadjgellaaGreatDoorZ01
import Derived.Test.YtpdbkbadjgellaaGreatDoorZ03
import Derived.Lib.ItoaLen
import Derived.Lib.SmallJoins
import Derived.Test.YtpdbkbadjgellaaGreatDoorZ02
import Derived.Lib.TrimByte
namespace Go.Proofs.YtpdbkbadjgellaaGreatDoor
open Go.RowKit
attribute [local go_sem] ba_get ba_extract take_rest

/-- The tables that the texts of numbers need. -/
def Pow (w : World) : Prop := Lib.TabIs Tryz.prog w "internal/strconv.uint64pow10" .u64 Lib.pow10Tab
theorem gPow : Tryz.prog.globalNamed "internal/strconv.uint64pow10" = some 1 := by kernel_rfl
theorem Pow.below {w w' : World} (h : Pow w) (hb : Below w.heap.size w w') : Pow w' := Joins.tab_stays gPow h hb (Nat.le_refl _)
theorem Pow.alloc {w : World} (h : Pow w) (o : Obj) : Pow (w.alloc o) := h.below ((Below.refl _ _).alloc (Nat.le_refl _) _)
theorem below_grow (w : World) (n : Nat) (os : Array Obj) : Below w.heap.size w (Sort.grow (w.drewN n) os) :=
  ⟨rfl, rfl, rfl, by simp [Sort.grow], fun k hk => by show (w.heap ++ os)[k]? = _; rw [Array.getElem?_append_left hk]⟩

theorem itoa_any (n : Int) (w : World) (h0 : -9223372036854775808 ≤ n) (h1 : n ≤ 9223372036854775807) (hp : Pow w) :
    Calls Tryz.prog 36 #[.int .i64 n] w fun e w' => e = .returned (.string ⟨(Lib.itoa n).toArray⟩) ∧ Below w.heap.size w w' := by
  refine (Tryz.strconv_Itoa n h0 h1 w hp).mono ?_
  rintro e w' ⟨rfl, k, os, rfl⟩
  exact ⟨rfl, below_grow w k os⟩

def inDays (d : Int) : Bool := decide (0 ≤ d ∧ d ≤ 84005)
theorem calValid_any (d : Int) (w : World) :
    Calls Tryz.prog 104 #[.int .i64 d] w fun e w' => e = .returned (.bool (inDays d)) ∧ w = w' := by
  go_enter Tryz.func104, Tryz.ntmps104
  go_wp2
  all_goals
    go_ret
    refine ⟨ret_bool ?_, rfl⟩
    unfold inDays
    rw [Bool.eq_iff_iff]
    simp
    omega

set_option maxHeartbeats 1000000 in
theorem yearOf_any (d : Int) (w : World) (h0 : 0 ≤ d) (h1 : d ≤ 84005) :
    Calls Tryz.prog 105 #[.int .i64 d] w fun e w' => e = .returned (.int .i64 (Tk.yOf d)) ∧ w = w' := by
  have hg := Tk.begn_guess d h0
  go_enter Tryz.func105, Tryz.ntmps105
  go_wp2_with fail
  go_loop [3] (fun t => ∃ (f : Nat) (y : Int), 1970 + d / 366 ≤ y ∧ y ≤ 2199 ∧ Hid ((f : Int) + y = 300 + (1970 + d / 366)) ∧ Tk.begn y ≤ d ∧ t = .int .i64 y ∧ Hid (Tk.yearUp f y d = Tk.yOf d)) (fun t => (2199 - intOf t).toNat)
  case atStart => exact ⟨300, _, Int.le_refl _, by omega, rfl, hg, rfl, rfl⟩
  case round =>
    obtain ⟨f, y, hy1, hy2, HF, hy3, rfl, HY⟩ := hrel
    by_cases hc : Tk.begn (y + 1) ≤ d
    · have hy4 : y + 1 ≤ 2199 := by
        rcases Int.lt_or_le y 2199 with h | h
        · omega
        · have := Tk.begn_mono 2200 (y + 1) (by omega)
          rw [Tk.begn_2200] at this
          omega
      have hf : 1 ≤ f := by have := HF.out; omega
      obtain ⟨g, rfl⟩ : ∃ g, f = g + 1 := ⟨f - 1, by omega⟩
      have HF2 : Hid ((g : Int) + (y + 1) = 300 + (1970 + d / 366)) := by show _ = _; have := HF.out; omega
      have HY2 : Hid (Tk.yearUp g (y + 1) d = Tk.yOf d) := by show _ = _; rw [← HY.out, Tk.yearUp, if_pos hc]
      go_wp2_with (go_at_call 106; refine (begin_any _ _ (by omega) (by omega)).mono ?_; rintro e w' ⟨rfl, rfl⟩)
      go_round
      case rel => exact ⟨g, y + 1, by omega, by omega, HF2, hc, rfl, HY2⟩
      case measure => simp [intOf]; omega
    · have HY2 : Hid (Tk.yOf d = y) := by show _ = _; rw [← HY.out]; exact Tk.yearUp_stop f y d (by omega)
      go_wp2_with (go_at_call 106; refine (begin_any _ _ (by omega) (by omega)).mono ?_; rintro e w' ⟨rfl, rfl⟩)
      go_ret
      exact ⟨ret_int HY2.out.symm, rfl⟩

theorem results_tmp4 {fn : Func} {t u v x : Tmp} (h : fn.results = #[.tmp t, .tmp u, .tmp v, .tmp x]) (tmps : Array Value) (P : Program) (w : World) :
    (results fn tmps).run P w = .ok (.tuple #[tmps.getD t undef, tmps.getD u undef, tmps.getD v undef, tmps.getD x undef]) w := by simp [results, h]

/-- Date's four results. -/
def dateRes (d : Int) : Ending := if inDays d = true then .returned (.tuple #[.int .i64 (Tk.yOf d), .int .i64 (Tk.mOf d), .int .i64 (Tk.dOf d), .bool true]) else .returned (.tuple #[.int .i64 0, .int .i64 0, .int .i64 0, .bool false])

set_option maxHeartbeats 1000000 in
theorem date_any (d : Int) (w : World) (hl : Lens w) :
    Calls Tryz.prog 80 #[.int .i64 d] w fun e w' => e = dateRes d ∧ w = w' := by
  have HL := Lib.hid hl
  clear hl
  by_cases hd : 0 ≤ d ∧ d ≤ 84005
  · have HD : Hid (inDays d = true) := decide_eq_true hd
    obtain ⟨h0, h1⟩ := hd
    obtain ⟨a, b, c, e⟩ := Tk.yOf_spec d h0 h1
    have HM : Hid (Tk.mOf d = (Tk.monUp 12 (Tk.yOf d) 1 (d - Tk.begn (Tk.yOf d))).1 ∧ Tk.dOf d = (Tk.monUp 12 (Tk.yOf d) 1 (d - Tk.begn (Tk.yOf d))).2 + 1) := ⟨rfl, rfl⟩
    have hs := Tk.begn_succ (Tk.yOf d)
    rw [← Tk.cum12] at hs
    generalize hy : Tk.yOf d = y at *
    have HY := Lib.hid hy
    have HS : d < Tk.begn y + Tk.cumM y 12 := by omega
    have hb9 : 0 ≤ Tk.begn y := by
      have := Tk.begn_mono 1970 y (by omega)
      have e0 : Tk.begn 1970 = 0 := by decide
      omega
    have hc366 : d - Tk.begn y ≤ 366 := by have := Tk.cum12 y; split at this <;> omega
    have hc0 : d - Tk.begn y + Tk.cumM y 0 < Tk.cumM y 12 := by
      have : Tk.cumM y 0 = 0 := rfl
      omega
    clear hy hs
    go_enter Tryz.func80, Tryz.ntmps80
    go_wp2_with fail
    refine (calValid_any d _).mono ?_
    rintro e w' ⟨rfl, rfl⟩
    rw [HD.out]
    go_wp2_with fail
    refine (yearOf_any d _ h0 h1).mono ?_
    rintro e w' ⟨rfl, rfl⟩
    rw [HY.out]
    go_wp2_with fail
    refine (begin_any y _ (by omega) (by omega)).mono ?_
    rintro e w' ⟨rfl, rfl⟩
    go_wp2_with fail
    go_loop [7, 8] (fun r i => ∃ (k f : Nat) (x : Int), k ≤ 11 ∧ k + f = 12 ∧ 0 ≤ x ∧ x ≤ 366 ∧ x + Tk.cumM y k < Tk.cumM y 12 ∧ i = .int .i64 ((k : Int) + 1) ∧ r = .int .i64 x ∧ Hid (Tk.monUp f y (k + 1) x = Tk.monUp 12 y 1 (d - Tk.begn y))) (fun _ i => (13 - intOf i).toNat)
    case atStart => exact ⟨0, 12, d - Tk.begn y, by omega, rfl, by omega, hc366, hc0, rfl, rfl, rfl⟩
    case round =>
      obtain ⟨k, f, x, hk, hkf, hx0, hx1, hx2, rfl, rfl, HX⟩ := hrel
      have hml := mlen_bd y (k + 1)
      obtain ⟨c3, c4⟩ := hml
      by_cases hc : Tk.mlen y (k + 1) ≤ x
      · have hk2 : k + 1 ≤ 11 := by
          rcases Nat.lt_or_ge k 11 with h | h
          · omega
          · have hk11 : k = 11 := by omega
            subst hk11
            have := Tk.cum_succ y 11
            simp only [Nat.reduceAdd] at this
            omega
        obtain ⟨g, rfl⟩ : ∃ g, f = g + 1 := ⟨f - 1, by omega⟩
        have HX2 : Hid (Tk.monUp g y ((k + 1 : Nat) + 1) (x - Tk.mlen y (k + 1)) = Tk.monUp 12 y 1 (d - Tk.begn y)) := by
          show _ = _
          rw [← HX.out]
          conv => rhs; rw [Tk.monUp, if_pos hc]
          simp
        have hx3 : x - Tk.mlen y (k + 1) + Tk.cumM y (k + 1) < Tk.cumM y 12 := by rw [Tk.cum_succ]; omega
        go_wp2_with fail
        refine (length_int _ _ _ (by omega) (by omega) (by omega) (by omega) HL.out).mono ?_
        rintro e w' ⟨rfl, rfl⟩
        go_wp2_with fail
        refine (length_int _ _ _ (by omega) (by omega) (by omega) (by omega) HL.out).mono ?_
        rintro e w' ⟨rfl, rfl⟩
        go_wp2_with fail
        go_round
        case rel => exact ⟨k + 1, g, x - Tk.mlen y (k + 1), by omega, by omega, by omega, by omega, hx3, by go_num, rfl, HX2⟩
        case measure => simp [intOf]; omega
      · have HX2 : Hid (Tk.mOf d = (k : Int) + 1 ∧ Tk.dOf d = x + 1) := by
          show _ ∧ _
          have hm := HM.out
          rw [← HX.out, Tk.monUp_stop f y _ x (by omega)] at hm
          exact hm
        go_wp2_with fail
        refine (length_int _ _ _ (by omega) (by omega) (by omega) (by omega) HL.out).mono ?_
        rintro e w' ⟨rfl, rfl⟩
        go_wp2_with fail
        refine bodyPost_ret (results_tmp4 rfl _ _ _) rfl ⟨?_, rfl⟩
        unfold dateRes
        rw [HD.out, if_pos rfl, HX2.out.1, HX2.out.2, HY.out]
        rfl
  · have HD : Hid (inDays d = false) := decide_eq_false hd
    clear hd
    go_enter Tryz.func80, Tryz.ntmps80
    go_wp2_with fail
    refine (calValid_any d _).mono ?_
    rintro e w' ⟨rfl, rfl⟩
    rw [HD.out]
    go_wp2_with fail
    refine bodyPost_ret (results_tmp4 rfl _ _ _) rfl ⟨?_, rfl⟩
    unfold dateRes
    rw [HD.out]
    rfl
end Go.Proofs.YtpdbkbadjgellaaGreatDoor

namespace Go.Proofs.YtpdbkbadjgellaaGreatDoor
open Go.RowKit
attribute [local go_sem] ba_get ba_extract take_rest ba_append

theorem calTwo_any (n : Int) (w : World) (h0 : 0 ≤ n) (h1 : n ≤ 99) (hp : Pow w) :
    Calls Tryz.prog 81 #[.int .i64 n] w fun e w' => e = .returned (.string ⟨(Tk.two n).toArray⟩) ∧ Below w.heap.size w w' := by
  have HP := Lib.hid hp
  clear hp
  have hln := Lib.itoa_length_le n (by omega) (by omega)
  by_cases h : n < 10
  · have HT : Hid (Tk.two n = 48 :: Lib.itoa n) := by show _ = _; unfold Tk.two; rw [if_pos h]
    go_enter Tryz.func81, Tryz.ntmps81
    go_wp2_with fail
    refine (itoa_any n _ (by omega) (by omega) HP.out).mono ?_
    rintro e w1 ⟨rfl, hb⟩
    go_wp2_with fail
    go_ret
    exact ⟨ret_str HT.out.symm, hb⟩
  · have HT : Hid (Tk.two n = Lib.itoa n) := by show _ = _; unfold Tk.two; rw [if_neg h]
    go_enter Tryz.func81, Tryz.ntmps81
    go_wp2_with fail
    refine (itoa_any n _ (by omega) (by omega) HP.out).mono ?_
    rintro e w1 ⟨rfl, hb⟩
    go_wp2_with fail
    go_ret
    exact ⟨ret_str HT.out.symm, hb⟩

theorem two_len (n : Int) (h0 : 0 ≤ n) (h1 : n ≤ 99) : (Tk.two n).length ≤ 22 := by
  have hln := Lib.itoa_length_le n (by omega) (by omega)
  unfold Tk.two
  split <;> simp <;> omega

set_option maxHeartbeats 1000000 in
theorem calFormat_any (d : Int) (w : World) (hl : Lens w) (hp : Pow w) :
    Calls Tryz.prog 50 #[.int .i64 d] w fun e w' => e = .returned (.string ⟨(Tk.dateText d).toArray⟩) ∧ Below w.heap.size w w' := by
  have HP := Lib.hid hp
  have HL := Lib.hid hl
  clear hp hl
  by_cases hd : 0 ≤ d ∧ d ≤ 84005
  · have HT : Hid (Tk.dateText d = Lib.itoa (Tk.yOf d) ++ [45] ++ Tk.two (Tk.mOf d) ++ [45] ++ Tk.two (Tk.dOf d)) := by show _ = _; unfold Tk.dateText; rw [if_pos hd]
    have HD : Hid (dateRes d = .returned (.tuple #[.int .i64 (Tk.yOf d), .int .i64 (Tk.mOf d), .int .i64 (Tk.dOf d), .bool true])) := by
      show _ = _
      unfold dateRes inDays
      rw [if_pos (decide_eq_true hd)]
    have hs := (Tk.date_spec d hd.1 hd.2).1
    have hs2 := of_decide_eq_true hs
    obtain ⟨y1, y2, m1, m2, d1, d2⟩ := hs2
    have d3 := (mlen_bd (Tk.yOf d) (Tk.mOf d)).2
    clear hs hd
    generalize Tk.yOf d = y at *
    generalize Tk.mOf d = m at *
    generalize Tk.dOf d = a at *
    have l1 := Lib.itoa_length_le y (by omega) (by omega)
    have l2 := two_len m (by omega) (by omega)
    have l3 := two_len a (by omega) (by omega)
    go_enter Tryz.func50, Tryz.ntmps50
    go_wp2_with fail
    refine (date_any d _ HL.out).mono ?_
    rintro e w' ⟨rfl, rfl⟩
    rw [HD.out]
    go_wp2_with fail
    refine (itoa_any y _ (by omega) (by omega) HP.out).mono ?_
    rintro e w1 ⟨rfl, hb1⟩
    go_wp2_with fail
    refine (calTwo_any m _ (by omega) (by omega) (HP.out.below hb1)).mono ?_
    rintro e w2 ⟨rfl, hb2⟩
    have hb12 : Below w.heap.size w w2 := hb1.trans (hb2.mono hb1.size)
    go_wp2_with fail
    refine (calTwo_any a _ (by omega) (by omega) (HP.out.below hb12)).mono ?_
    rintro e w3 ⟨rfl, hb3⟩
    have hb13 : Below w.heap.size w w3 := hb12.trans (hb3.mono hb12.size)
    go_wp2_with fail
    go_ret
    exact ⟨ret_str (by rw [HT.out]; simp), hb13⟩
  · have HT : Hid (Tk.dateText d = []) := by show _ = _; unfold Tk.dateText; rw [if_neg hd]
    have HD : Hid (dateRes d = .returned (.tuple #[.int .i64 0, .int .i64 0, .int .i64 0, .bool false])) := by
      show _ = _
      unfold dateRes inDays
      rw [if_neg (by simpa using hd)]
    clear hd
    go_enter Tryz.func50, Tryz.ntmps50
    go_wp2_with fail
    refine (date_any d _ HL.out).mono ?_
    rintro e w' ⟨rfl, rfl⟩
    rw [HD.out]
    go_wp2_with fail
    go_ret
    exact ⟨ret_str HT.out.symm, Below.refl _ _⟩
end Go.Proofs.YtpdbkbadjgellaaGreatDoor

namespace Go.Proofs.YtpdbkbadjgellaaGreatDoor
open Go.RowKit
theorem take_tail (l : List UInt8) : l.tail.take (l.length - 1) = l.tail := List.take_of_length_le (by simp)
attribute [local go_sem] ba_get ba_extract take_rest ba_append take_tail

/-- Is a fraction the value of a number in a text? -/
def isDec (n d : Int) : Bool := validR n d && (decide (0 ≤ n) && (1000000 % d == 0))
/-- The millionths behind the point. -/
def mills (n d : Int) : Int := n % d * (1000000 / d)
/-- The shortest text of a decimal number. -/
def numText (n d : Int) : List UInt8 :=
  if isDec n d = true then
    if mills n d = 0 then Lib.itoa (n / d) else Lib.itoa (n / d) ++ [46] ++ Lib.trimRightB ((Lib.itoa (1000000 + mills n d)).drop 1) 48
  else []

set_option maxHeartbeats 1000000 in
theorem isDecimal_any (n d : Int) (w : World) :
    Calls Tryz.prog 35 #[.agg #[.int .i64 n, .int .i64 d]] w fun e w' => e = .returned (.bool (isDec n d)) ∧ Below w.heap.size w w' := by
  cases hv : validR n d
  · have HX : Hid (isDec n d = false) := by show _ = _; unfold isDec; rw [hv]; rfl
    have HV := Lib.hid hv
    clear hv
    go_enter Tryz.func35, Tryz.ntmps35
    go_wp2_with fail
    refine (ratioValid_any n d _).mono ?_
    rintro e w1 ⟨rfl, hb⟩
    rw [HV.out]
    have hB0 : Below w.heap.size w w1 := ((Below.refl _ _).alloc (Nat.le_refl _) _).trans (hb.mono (by simp))
    go_wp2_with fail
    go_ret
    exact ⟨ret_bool HX.out.symm, hB0⟩
  · have HX : Hid (isDec n d = (decide (0 ≤ n) && (1000000 % d == 0))) := by show _ = _; unfold isDec; rw [hv]; rfl
    have HV := Lib.hid hv
    have hr := of_decide_eq_true hv
    obtain ⟨d1, d2, n1, n2, _⟩ := hr
    clear hv
    by_cases hn : 0 ≤ n
    · have HX2 : Hid (isDec n d = (1000000 % d == 0)) := by show _ = _; rw [HX.out, decide_eq_true hn]; rfl
      go_enter Tryz.func35, Tryz.ntmps35
      go_wp2_with fail
      refine (ratioValid_any n d _).mono ?_
      rintro e w1 ⟨rfl, hb⟩
      rw [HV.out]
      have hB0 : Below w.heap.size w w1 := ((Below.refl _ _).alloc (Nat.le_refl _) _).trans (hb.mono (by simp))
      have hc0 : w1.cell? ⟨w.heap.size, 0, none⟩ = some (.int .i64 n) := by rw [hb.cell (by simp)]; simp
      have hc1 : w1.cell? ⟨w.heap.size, 1, none⟩ = some (.int .i64 d) := by rw [hb.cell (by simp)]; simp
      go_wp2_with fail
      go_ret
      exact ⟨ret_bool HX2.out.symm, hB0⟩
    · have HX2 : Hid (isDec n d = false) := by show _ = _; rw [HX.out, decide_eq_false hn]; rfl
      go_enter Tryz.func35, Tryz.ntmps35
      go_wp2_with fail
      refine (ratioValid_any n d _).mono ?_
      rintro e w1 ⟨rfl, hb⟩
      rw [HV.out]
      have hB0 : Below w.heap.size w w1 := ((Below.refl _ _).alloc (Nat.le_refl _) _).trans (hb.mono (by simp))
      have hc0 : w1.cell? ⟨w.heap.size, 0, none⟩ = some (.int .i64 n) := by rw [hb.cell (by simp)]; simp
      have hc1 : w1.cell? ⟨w.heap.size, 1, none⟩ = some (.int .i64 d) := by rw [hb.cell (by simp)]; simp
      go_wp2_with fail
      go_ret
      exact ⟨ret_bool HX2.out.symm, hB0⟩

theorem isDec_parts {n d : Int} (h : isDec n d = true) : 1 ≤ d ∧ d ≤ 1000000 ∧ 0 ≤ n ∧ n ≤ 1000000000000 ∧ 1000000 % d = 0 ∧ Nat.gcd n.natAbs d.natAbs = 1 := by
  unfold isDec at h
  rw [Bool.and_eq_true, Bool.and_eq_true] at h
  have h1 := of_decide_eq_true h.1
  have h2 := of_decide_eq_true h.2.1
  have h3 := beq_iff_eq.1 h.2.2
  exact ⟨h1.1, h1.2.1, h2, h1.2.2.2.1, h3, h1.2.2.2.2⟩

theorem mills_bd {n d : Int} (h : isDec n d = true) : 0 ≤ mills n d ∧ mills n d < 1000000 := by
  obtain ⟨h1, h2, h3, h4, h5, _⟩ := isDec_parts h
  unfold mills
  have hq : 1000000 / d * d = 1000000 := Int.ediv_mul_cancel (Int.dvd_of_emod_eq_zero h5)
  have hr0 := Int.emod_nonneg n (show d ≠ 0 by omega)
  have hr1 := Int.emod_lt_of_pos n (show 0 < d by omega)
  have hq0 : 0 < 1000000 / d := by
    rcases Int.lt_or_le 0 (1000000 / d) with h | h
    · exact h
    · have := Int.mul_le_mul_of_nonneg_right h (show 0 ≤ d by omega)
      omega
  refine ⟨Int.mul_nonneg hr0 (by omega), ?_⟩
  have := Int.mul_lt_mul_of_pos_right hr1 hq0
  rw [Int.mul_comm d, hq] at this
  exact this

theorem itoa_pos (n : Int) : 1 ≤ (Lib.itoa n).length := by
  have key : ∀ u : Nat, 1 ≤ (Lib.decDigits u).length := by
    intro u
    rw [Lib.decDigits]
    split <;> simp
  unfold Lib.itoa
  split
  · simp
  · exact key _
theorem trim_len (l : List UInt8) : (Lib.trimRightB l 48).length ≤ l.length := by
  unfold Lib.trimRightB
  rw [List.length_reverse]
  have := (List.dropWhile_sublist (fun x : UInt8 => x == 48) (l := l.reverse)).length_le
  simpa using this
theorem trim_any (l : List UInt8) (w : World) (hs : l.length ≤ 100000) :
    Calls Tryz.prog 37 #[.string ⟨l.toArray⟩, .string ⟨#[48]⟩] w fun e w' => e = .returned (.string ⟨(Lib.trimRightB l 48).toArray⟩) ∧ w = w' := by
  refine (Tryz.strings_TrimRight_one ⟨l.toArray⟩ 48 (by decide) w (by show l.length ≤ _; omega)).mono ?_
  rintro e w' ⟨rfl, rfl⟩
  exact ⟨by simp, rfl⟩

set_option maxHeartbeats 2000000 in
theorem number_text (n d : Int) (w : World) (hp : Pow w) :
    Calls Tryz.prog 18 #[.agg #[.int .i64 n, .int .i64 d]] w fun e w' => e = .returned (.string ⟨(numText n d).toArray⟩) ∧ Below w.heap.size w w' := by
  have HP := Lib.hid (hp.alloc (.cells #[.int .i64 n, .int .i64 d] 33))
  clear hp
  cases hv : isDec n d
  · have HX : Hid (numText n d = []) := by show _ = _; unfold numText; rw [hv]; rfl
    have HV := Lib.hid hv
    clear hv
    go_enter Tryz.func18, Tryz.ntmps18
    go_wp2_with fail
    refine (isDecimal_any n d _).mono ?_
    rintro e w1 ⟨rfl, hb⟩
    rw [HV.out]
    have hB0 : Below w.heap.size w w1 := ((Below.refl _ _).alloc (Nat.le_refl _) _).trans (hb.mono (by simp))
    go_wp2_with fail
    go_ret
    exact ⟨ret_str HX.out.symm, hB0⟩
  · obtain ⟨d1, d2, n1, n2, dm, _⟩ := isDec_parts hv
    obtain ⟨m1, m2⟩ := mills_bd hv
    have HX : Hid (numText n d = if mills n d = 0 then Lib.itoa (n / d) else Lib.itoa (n / d) ++ [46] ++ Lib.trimRightB ((Lib.itoa (1000000 + mills n d)).drop 1) 48) := by show _ = _; unfold numText; rw [if_pos hv]
    have HV := Lib.hid hv
    clear hv dm
    have HQ : Hid (IntKind.i64.wrap (n % d * (1000000 / d)) = mills n d) := by show _ = _; exact IntWalk.i64_in _ (by unfold mills at m1 m2; omega)
    have hq1 : 0 ≤ n / d := Int.ediv_nonneg n1 (by omega)
    have hq2 : n / d ≤ n := Int.ediv_le_self _ n1
    go_enter Tryz.func18, Tryz.ntmps18
    go_wp2_with fail
    refine (isDecimal_any n d _).mono ?_
    rintro e w1 ⟨rfl, hb⟩
    rw [HV.out]
    have hB0 : Below w.heap.size w w1 := ((Below.refl _ _).alloc (Nat.le_refl _) _).trans (hb.mono (by simp))
    have hc0 : w1.cell? ⟨w.heap.size, 0, none⟩ = some (.int .i64 n) := by rw [hb.cell (by simp)]; simp
    have hc1 : w1.cell? ⟨w.heap.size, 1, none⟩ = some (.int .i64 d) := by rw [hb.cell (by simp)]; simp
    have hz1 : w.heap.size < w1.heap.size := by have := hb.size; simp at this; omega
    go_wp2_with fail
    refine (itoa_any (n / d) _ (by omega) (by omega) (HP.out.below hb)).mono ?_
    rintro e w2 ⟨rfl, hb2⟩
    have hd0 : w2.cell? ⟨w.heap.size, 0, none⟩ = some (.int .i64 n) := by rw [hb2.cell (by simpa using hz1)]; exact hc0
    have hd1 : w2.cell? ⟨w.heap.size, 1, none⟩ = some (.int .i64 d) := by rw [hb2.cell (by simpa using hz1)]; exact hc1
    have hB1 : Below w.heap.size w w2 := hB0.trans (hb2.mono hB0.size)
    have HP2 : Hid (Pow w2) := (HP.out.below hb).below hb2
    clear hc0 hc1
    go_wp2_with fail
    have e1 := HQ.out
    have gd : (d == 0) = false := by simp; omega
    go_quiet (fail)
    clear e1 gd
    have hB2 : Below w.heap.size w (w2.drewN nq) := belowN hB1 nq
    have HP3 : Hid (Pow (w2.drewN nq)) := HP2.out.below (belowN (Below.refl _ _) nq)
    have l1 := Lib.itoa_length_le (n / d) (by omega) (by omega)
    have l2 := Lib.itoa_length_le (1000000 + mills n d) (by omega) (by omega)
    have l3 := itoa_pos (1000000 + mills n d)
    by_cases hm : mills n d = 0
    · have gm : (mills n d == 0) = true := by simpa using hm
      have HX2 : Hid (numText n d = Lib.itoa (n / d)) := by show _ = _; rw [HX.out, if_pos hm]
      clear hm
      go_wp2_with fail
      go_ret
      exact ⟨ret_str HX2.out.symm, hB2⟩
    · have gm : (mills n d == 0) = false := by simpa using hm
      have HX2 : Hid (numText n d = Lib.itoa (n / d) ++ [46] ++ Lib.trimRightB ((Lib.itoa (1000000 + mills n d)).drop 1) 48) := by show _ = _; rw [HX.out, if_neg hm]
      clear hm
      go_wp2_with fail
      refine (itoa_any (1000000 + mills n d) _ (by omega) (by omega) HP3.out).mono ?_
      rintro e w3 ⟨rfl, hb3⟩
      have hB3 : Below w.heap.size w w3 := hB2.trans (hb3.mono hB2.size)
      have l4 := trim_len (Lib.itoa (1000000 + mills n d)).tail
      rw [List.length_tail] at l4
      clear hb hb2 hb3 hd0 hd1
      go_wp2_with fail
      refine (trim_any (Lib.itoa (1000000 + mills n d)).tail _ (by simp; omega)).mono ?_
      rintro e w4 ⟨rfl, rfl⟩
      go_wp2_with fail
      go_ret
      exact ⟨ret_str (by rw [HX2.out]; simp), hB3⟩
end Go.Proofs.YtpdbkbadjgellaaGreatDoor

namespace Go.Proofs.YtpdbkbadjgellaaGreatDoor
namespace Tk

theorem skip_le (b : Bool) (l : List UInt8) : skipN b l ≤ l.length := by
  induction l generalizing b with
  | nil => cases b <;> simp [skipN]
  | cons c r ih =>
    cases b
    · simp only [skipN, List.length_cons]
      have h1 := ih false
      have h2 := ih true
      repeat' split
      all_goals omega
    · simp only [skipN, List.length_cons]
      have h1 := ih false
      have h2 := ih true
      repeat' split
      all_goals omega

/-- Behind blanks and comments there is none. -/
theorem skip_skip (b : Bool) (l : List UInt8) : skipN false (l.drop (skipN b l)) = 0 := by
  induction l generalizing b with
  | nil => cases b <;> simp [skipN]
  | cons c r ih =>
    cases b
    · rw [skipN]
      split
      · simpa using ih false
      · split
        · simpa using ih true
        · rename_i h1 h2
          simp only [List.drop_zero]
          rw [skipN, if_neg h1, if_neg h2]
    · rw [skipN]
      split
      · simpa using ih false
      · simpa using ih true

theorem digs_pos (l : List UInt8) (h : isDig (l.headD 0) = true) : 1 ≤ digs l := by
  cases l with
  | nil => simp [isDig] at h
  | cons c r => simp at h; simp [digs, lead, h]

theorem frac_len (l : List UInt8) : numEnd l ≤ l.length ∧ numLen l ≤ l.length ∧ digs l ≤ numLen l := by
  have h1 : digs l ≤ l.length := lead_le _ _
  have h2 : numEnd l ≤ l.length := by
    unfold numEnd
    split
    · rename_i h
      have hf : frac l ≤ (l.drop (digs l + 1)).length := by unfold frac; rw [if_pos h]; exact lead_le _ _
      rw [List.length_drop] at hf
      unfold hasFrac at h
      rw [Bool.and_eq_true] at h
      rcases Nat.lt_or_ge (digs l + 1) l.length with h' | h'
      · omega
      · rw [List.getD_eq_getElem?_getD, List.getD_eq_getElem?_getD, List.getElem?_eq_none (show l.length ≤ digs l + 1 by omega)] at h
        simp [isDig] at h
    · exact h1
  refine ⟨h2, ?_, ?_⟩
  · unfold numLen
    split
    · rename_i h
      unfold pct at h
      have := of_decide_eq_true h
      rcases Nat.lt_or_ge (numEnd l) l.length with h' | h'
      · omega
      · rw [List.getD_eq_getElem?_getD, List.getElem?_eq_none h'] at this
        simp at this
    · exact h2
  · unfold numLen numEnd
    split <;> split <;> omega

/-- A token has at least one byte and lies in the text. -/
theorem read_len (l : List UInt8) (t : Tok) (n : Nat) (h : readTok l = .ok (t, n)) : 1 ≤ n ∧ n ≤ l.length := by
  unfold readTok at h
  by_cases h1 : dateForm l = true
  · rw [if_pos h1] at h
    have hl : 10 ≤ l.length := by
      unfold dateForm at h1
      have key : ∀ (ps : List Bool) (l : List UInt8), form ps l = true → ps.length ≤ l.length := by
        intro ps
        induction ps with
        | nil => intro l _; simp
        | cons p ps ih =>
          intro l hf
          cases l with
          | nil => simp [form] at hf
          | cons c r => rw [form, Bool.and_eq_true] at hf; have := ih r hf.2; simp; omega
      simpa using key _ _ h1
    cases hd : dayOf l with
    | none => rw [hd] at h; cases h
    | some d => rw [hd] at h; injection h with h; injection h with _ h; omega
  · rw [if_neg h1] at h
    by_cases h2 : isDig (l.headD 0) = true
    · rw [if_pos h2] at h
      have hp := digs_pos l h2
      have hq := frac_len l
      unfold readNum at h
      split at h
      · rename_i e he
        cases h
      · rename_i a b m he
        split at he
        · cases he
        · split at he
          · cases he
          · injection he with he
            injection he with _ he
            injection he with _ he
            injection h with h
            injection h with _ h
            omega
    · rw [if_neg h2] at h
      by_cases h3 : isLow (l.headD 0) = true
      · rw [if_pos h3] at h
        split at h
        · injection h with h
          injection h with _ h
          cases l with
          | nil => simp [isLow] at h3
          | cons c r =>
            simp at h3
            simp only [wordLen, h3, if_true] at h
            have := lead_le isWord r
            simp
            omega
        · cases h
      · rw [if_neg h3] at h
        split at h
        · cases h
        · injection h with h
          injection h with _ h
          subst h
          rename_i hs
          refine ⟨by omega, ?_⟩
          cases l with
          | nil => simp [symLen]
          | cons c r =>
            simp only [symLen, List.length_cons]
            split
            · rename_i hp
              cases r with
              | nil => simp [pair] at hp
              | cons d r => simp
            · split <;> omega

theorem read_err (l : List UInt8) (e : Int) (h : readTok l = .error e) : e ≠ 0 := by
  have hn : ∀ x, readNum l = .error x → x ≠ 0 := by
    intro x hx
    unfold readNum at hx
    split at hx
    · injection hx with hx; omega
    · split at hx
      · injection hx with hx; omega
      · cases hx
  unfold readTok at h
  split at h
  · split at h
    · injection h with h; omega
    · cases h
  · split at h
    · split at h
      · rename_i x hx
        injection h with h
        exact h ▸ hn _ hx
      · cases h
    · split at h
      · split at h
        · cases h
        · injection h with h; omega
      · split at h
        · injection h with h; omega
        · cases h

/-- Enough steps are enough. -/
theorem scanF_more (f g at_ : Nat) (l : List UInt8) (hf : l.length ≤ f) (hg : l.length ≤ g) : scanF f at_ l = scanF g at_ l := by
  induction f generalizing g at_ l with
  | zero =>
    have : l = [] := List.eq_nil_of_length_eq_zero (by omega)
    subst this
    cases g with
    | zero => rfl
    | succ g => simp [scanF]
  | succ f ih =>
    cases g with
    | zero =>
      have : l = [] := List.eq_nil_of_length_eq_zero (by omega)
      subst this
      simp [scanF]
    | succ g =>
      simp only [scanF]
      split
      · rfl
      · cases hr : readTok (l.drop (skipN false l)) with
        | error e => rfl
        | ok x =>
          obtain ⟨t, n⟩ := x
          have hn := read_len _ _ _ hr
          rw [List.length_drop] at hn
          simp only
          rw [ih g _ _ (by simp; omega) (by simp; omega)]

def scanAt (at_ : Nat) (l : List UInt8) : Except (Nat × Int) (List Tok) := scanF l.length at_ l
/-- Tokens ahead of a scan. -/
def after (ts : List Tok) : Except (Nat × Int) (List Tok) → Except (Nat × Int) (List Tok)
  | .error e => .error e
  | .ok us => .ok (ts ++ us)
theorem after_nil (x : Except (Nat × Int) (List Tok)) : after [] x = x := by cases x <;> rfl
theorem after_after (a b : List Tok) (x : Except (Nat × Int) (List Tok)) : after a (after b x) = after (a ++ b) x := by cases x <;> simp [after]

theorem scanAt_eq (at_ : Nat) (l : List UInt8) : scanAt at_ l =
    if l.length ≤ skipN false l then .ok [] else
    match readTok (l.drop (skipN false l)) with
    | .error e => .error (at_ + skipN false l, e)
    | .ok (t, n) => after [{ t with place := at_ + skipN false l }] (scanAt (at_ + skipN false l + n) ((l.drop (skipN false l)).drop n)) := by
  unfold scanAt
  cases l with
  | nil => simp [scanF]
  | cons c r =>
    simp only [List.length_cons, scanF]
    split
    · rfl
    · cases hr : readTok ((c :: r).drop (skipN false (c :: r))) with
      | error e => rfl
      | ok x =>
        obtain ⟨t, n⟩ := x
        have hn := read_len _ _ _ hr
        rw [List.length_drop] at hn
        simp only
        rw [scanF_more r.length _ _ _ (by simp at hn ⊢; omega) (Nat.le_refl _)]
        cases scanF _ _ _ <;> rfl

theorem scanAt_skip (at_ : Nat) (l : List UInt8) : scanAt at_ l = scanAt (at_ + skipN false l) (l.drop (skipN false l)) := by
  rw [scanAt_eq at_ l, scanAt_eq _ (l.drop (skipN false l)), skip_skip]
  have := skip_le false l
  by_cases h : l.length ≤ skipN false l
  · rw [if_pos h, if_pos (by simp; omega)]
  · rw [if_neg h, if_neg (by simp; omega)]
    rfl
theorem scanAt_end (at_ : Nat) : scanAt at_ [] = .ok [] := rfl
theorem scanAt_err (at_ : Nat) (l : List UInt8) (h : skipN false l = 0) (hl : 0 < l.length) (e : Int) (hr : readTok l = .error e) : scanAt at_ l = .error (at_, e) := by
  rw [scanAt_eq, h, if_neg (by omega), List.drop_zero, hr]; rfl
theorem scanAt_ok (at_ : Nat) (l : List UInt8) (h : skipN false l = 0) (hl : 0 < l.length) (t : Tok) (n : Nat) (hr : readTok l = .ok (t, n)) :
    scanAt at_ l = after [{ t with place := at_ }] (scanAt (at_ + n) (l.drop n)) := by
  rw [scanAt_eq, h, if_neg (by omega), List.drop_zero, hr]; rfl

/-- The tokens of a text, or the first error. -/
def scan (l : List UInt8) : Except (Nat × Int) (List Tok) := if 16384 < l.length then .error (0, 3) else scanAt 0 l
end Tk
end Go.Proofs.YtpdbkbadjgellaaGreatDoor

namespace Go.Proofs.YtpdbkbadjgellaaGreatDoor
open Go.RowKit
attribute [local go_sem] ba_get ba_extract take_rest

def tokCells (t : Tk.Tok) : List Value := [.int .i64 t.kind, .string ⟨t.text.toArray⟩, .int .i64 t.num, .int .i64 t.den, .int .i64 t.day, .int .i64 t.place]
def toksCells (ts : List Tk.Tok) : List Value := ts.flatMap tokCells

/-- What Scan leaves: a list of tokens in memory of its own, or an error. -/
def ScanPost (r : Except (Nat × Int) (List Tk.Tok)) (w : World) (e : Ending) (w' : World) : Prop :=
  Below w.heap.size w w' ∧ match r with
  | .error (a, x) => e = .returned (.tuple #[.slice none 0 0, .int .i64 a, .int .i64 x])
  | .ok ts => ∃ v, e = .returned (.tuple #[v, .int .i64 0, .int .i64 0]) ∧ w'.ownsRow w.heap.size 43 6 v ts.length (toksCells ts)

theorem infoTok : (Tryz.prog.info? 43).map (fun i => (i.zero, i.size, i.bytes)) = some (some (.agg #[.int .i64 0, .string ⟨#[]⟩, .int .i64 0, .int .i64 0, .int .i64 0, .int .i64 0]), 6, 56) := by kernel_rfl

theorem tokCells_one (t : Tk.Tok) : ∀ u ∈ tokCells t, u.oneCell' = true := by
  intro u hu
  simp only [tokCells, List.mem_cons, List.not_mem_nil, or_false] at hu
  rcases hu with rfl | rfl | rfl | rfl | rfl | rfl <;> rfl
theorem toksCells_snoc (ts : List Tk.Tok) (t : Tk.Tok) : toksCells (ts ++ [t]) = toksCells ts ++ tokCells t := by simp [toksCells]
/-- The block of an owned row is one of the call's own. -/
theorem own_ge {w : World} {base : Nat} {e : TypeId} {size : Nat} {v : Value} {n : Nat} {xs : List Value} (h : w.ownsRow base e size v n xs) {k : Nat} (hk : v.ownBlock = some k) : base ≤ k := by
  rcases h.2 with ⟨rfl, _⟩ | ⟨g, cap, cur, rfl, hg, _⟩
  · simp [Value.ownBlock] at hk
  · simp [Value.ownBlock] at hk; omega

set_option maxHeartbeats 2000000 in
set_option maxRecDepth 100000 in
theorem scan_any (l : List UInt8) (w : World) (hs : l.length ≤ maxLen) (hl : Lens w) :
    Calls Tryz.prog 27 #[.string ⟨l.toArray⟩] w (ScanPost (Tk.scan l) w) := by
  unfold maxLen at hs
  obtain ⟨i0, hi, hz0, hz1, hz2⟩ := info_parts infoTok
  have HL := Lib.hid hl
  clear hl
  by_cases hbig : 16384 < l.length
  · have HR : Hid (Tk.scan l = .error (0, 3)) := by show _ = _; unfold Tk.scan; rw [if_pos hbig]
    go_enter Tryz.func27, Tryz.ntmps27
    go_wp2_with fail
    go_ret3
    exact ⟨Below.refl _ _, by rw [HR.out]; rfl⟩
  · have HR : Hid (Tk.scan l = Tk.scanAt 0 l) := by show _ = _; unfold Tk.scan; rw [if_neg hbig]
    have hle : l.length ≤ 16384 := by omega
    clear hbig hs
    have hm : Hid (l.length ≤ maxLen) := by show _ ≤ _; unfold maxLen; omega
    generalize hT : Tk.scan l = T at *
    clear hT
    have hk0 := Tk.skip_le false l
    go_enter Tryz.func27, Tryz.ntmps27
    go_wp2_with fail
    refine (skip_any l 0 _ hm.out (Nat.zero_le _)).mono ?_
    rintro e w' ⟨rfl, rfl⟩
    simp only [List.drop_zero, Nat.zero_add]
    go_wp2_with fail
    go_loopw [5, 6] (fun s5 s6 wr => ∃ (p : Nat) (ts : List Tk.Tok), p ≤ l.length ∧ ts.length ≤ p ∧ s6 = .int .i64 p ∧ Hid (Tk.skipN false (l.drop p) = 0) ∧ Hid (Tk.after ts (Tk.scanAt p (l.drop p)) = T) ∧
        wr.ownsRow w.heap.size 43 6 s5 ts.length (toksCells ts) ∧ Below w.heap.size w wr) (fun _ i _ => l.length - (intOf i).toNat)
    case atStart =>
      refine ⟨Tk.skipN false l, [], by omega, by simp, rfl, Tk.skip_skip false l, ?_, ⟨by simp [toksCells], .inl ⟨rfl, rfl⟩⟩, Below.refl _ _⟩
      show _ = _
      rw [Tk.after_nil, HR.out, Tk.scanAt_skip 0 l, Nat.zero_add]
    case round =>
      obtain ⟨p, ts, hp, htp, rfl, HS, HA, hown, hbl⟩ := hrel
      have hsz := hbl.size
      by_cases hlt : p < l.length
      · have HL1 : Hid (Lens wr) := HL.out.below hbl
        go_wp2_with fail
        refine (read_any (l.drop p) wr (by simp; omega) (by simp; omega) HL1.out).mono ?_
        rintro e w1 ⟨rfl, hb1⟩
        have hsz1 := hb1.size
        have hown1 : w1.ownsRow w.heap.size 43 6 u5 ts.length (toksCells ts) := owns_below hown hb1
        cases hr : Tk.readTok (l.drop p) with
        | error x =>
          have HX : Hid (T = .error (p, x)) := by
            show _ = _
            rw [← HA.out, Tk.scanAt_err p _ HS.out (by simp; omega) x hr]; rfl
          have hx0 : x ≠ 0 := Tk.read_err _ _ hr
          have gx : (x != 0) = true := by simpa using hx0
          clear hr hx0 HA HS
          simp only [tokRes, tokErr, tokV]
          go_wp2_with fail
          go_ret3
          refine ⟨?_, by rw [HX.out]; rfl⟩
          exact ((hbl.trans (hb1.mono hsz)).alloc (by omega) _)
        | ok y =>
          obtain ⟨t, n⟩ := y
          have hn := Tk.read_len _ _ _ hr
          rw [List.length_drop] at hn
          obtain ⟨hn1, hn2⟩ := hn
          have hk := Tk.skip_le false (l.drop (p + n))
          rw [List.length_drop] at hk
          have HX : Hid (Tk.after (ts ++ [{ t with place := p }]) (Tk.scanAt (p + n + Tk.skipN false (l.drop (p + n))) (l.drop (p + n + Tk.skipN false (l.drop (p + n))))) = T) := by
            show _ = _
            rw [← HA.out, Tk.scanAt_ok p _ HS.out (by simp; omega) t n hr, Tk.after_after, List.drop_drop, Tk.scanAt_skip (p + n) (l.drop (p + n)), List.drop_drop]
          have HX2 : Hid (Tk.skipN false (l.drop (p + n + Tk.skipN false (l.drop (p + n)))) = 0) := by
            show _ = _
            rw [← List.drop_drop]; exact Tk.skip_skip false _
          clear hr HA HS
          obtain ⟨t1, t2, t3, t4, t5, t6⟩ := t
          simp only [tokRes, tokErr, tokV]
          go_wp2_with (at_builtin; refine wpList_append_own _ rfl _ _ 34 rfl w.heap.size 43 i0 (.agg #[.int .i64 0, .string ⟨#[]⟩, .int .i64 0, .int .i64 0, .int .i64 0, .int .i64 0]) 6 56 Tryz.underlying34 hi hz0 hz1 hz2 rfl (by decide) _ _ _ rfl ((hown1.alloc _).alloc _) ⟨w1.heap.size + 1, 0, none⟩ 1 1 (tokCells ⟨t1, t2, t3, t4, t5, p⟩) rfl rfl ?c1 ?c2 ?c3 ?c4 ?c5 ?_)
          case c1 => exact fun j u hj => hj
          case c2 => exact tokCells_one _
          case c3 => unfold maxLen; omega
          case c4 => omega
          case c5 => omega
          intro v' w2 hown2 hg2 _
          have hB2 : Below w.heap.size w w2 := by
            refine Below.grown (((hbl.trans (hb1.mono hsz)).alloc (by omega) _).alloc (by simp; omega) _) hg2 (by simp; omega) ?_
            exact fun k hk => own_ge hown1 hk
          clear hg2 hown1 hown hbl hb1
          go_wp2_with fail
          refine (skip_any l (p + n) _ hm.out (by omega)).mono ?_
          rintro e w3 ⟨rfl, rfl⟩
          go_wp2_with fail
          go_roundw
          case rel => exact ⟨p + n + Tk.skipN false (l.drop (p + n)), ts ++ [⟨t1, t2, t3, t4, t5, p⟩], by omega, by simp; omega, by go_num, HX2, HX, by rw [toksCells_snoc, List.length_append]; exact hown2, hB2⟩
          case measure => simp [intOf]; omega
      · have HX : Hid (T = .ok ts) := by
          show _ = _
          rw [← HA.out, List.drop_of_length_le (by omega)]
          simp [Tk.scanAt_end, Tk.after]
        go_wp2_with fail
        go_ret3
        exact ⟨hbl, by rw [HX.out]; exact ⟨_, rfl, hown⟩⟩
end Go.Proofs.YtpdbkbadjgellaaGreatDoor

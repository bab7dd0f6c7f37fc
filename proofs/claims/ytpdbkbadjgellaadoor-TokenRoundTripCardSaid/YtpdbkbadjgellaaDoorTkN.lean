/-
  The walks of package token's isDecimal and Number.
-/
import Derived.Test.YtpdbkbadjgellaaDoorCc
import Derived.Test.YtpdbkbadjgellaaDoorRt
import Derived.Lib.TrimByte
namespace Go.Proofs.YtpdbkbadjgellaaDoor
open Go.RowKit
theorem take_tail (l : List UInt8) : l.tail.take (l.length - 1) = l.tail := List.take_of_length_le (by simp)
attribute [local go_sem] ba_get ba_extract take_rest ba_append take_tail

/-- Is a fraction the value of a number in a text? -/
def isDec (n d : Int) : Bool := validR n d && (decide (0 ≤ n) && (1000000 % d == 0))
/-- The millionths behind the point. -/
def mills (n d : Int) : Int := n % d * (1000000 / d)
/-- The shortest text of a decimal number. -/
def numText (n d : Int) : List UInt8 :=
  if isDec n d = true then
    if mills n d = 0 then Lib.itoa (n / d) else Lib.itoa (n / d) ++ [46] ++ Lib.trimRightB ((Lib.itoa (1000000 + mills n d)).drop 1) 48
  else []

set_option maxHeartbeats 1000000 in
theorem isDecimal_any (n d : Int) (w : World) :
    Calls Tryd.prog 36 #[.agg #[.int .i64 n, .int .i64 d]] w fun e w' => e = .returned (.bool (isDec n d)) ∧ Below w.heap.size w w' := by
  cases hv : validR n d
  · have HX : Hid (isDec n d = false) := by show _ = _; unfold isDec; rw [hv]; rfl
    have HV := Lib.hid hv
    clear hv
    go_enter Tryd.func36, Tryd.ntmps36
    go_wp2_with fail
    refine (ratioValid_any n d _).mono ?_
    rintro e w1 ⟨rfl, hb⟩
    rw [HV.out]
    have hB0 : Below w.heap.size w w1 := ((Below.refl _ _).alloc (Nat.le_refl _) _).trans (hb.mono (by simp))
    go_wp2_with fail
    go_ret
    exact ⟨ret_bool HX.out.symm, hB0⟩
  · have HX : Hid (isDec n d = (decide (0 ≤ n) && (1000000 % d == 0))) := by show _ = _; unfold isDec; rw [hv]; rfl
    have HV := Lib.hid hv
    have hr := of_decide_eq_true hv
    obtain ⟨d1, d2, n1, n2, _⟩ := hr
    clear hv
    by_cases hn : 0 ≤ n
    · have HX2 : Hid (isDec n d = (1000000 % d == 0)) := by show _ = _; rw [HX.out, decide_eq_true hn]; rfl
      go_enter Tryd.func36, Tryd.ntmps36
      go_wp2_with fail
      refine (ratioValid_any n d _).mono ?_
      rintro e w1 ⟨rfl, hb⟩
      rw [HV.out]
      have hB0 : Below w.heap.size w w1 := ((Below.refl _ _).alloc (Nat.le_refl _) _).trans (hb.mono (by simp))
      have hc0 : w1.cell? ⟨w.heap.size, 0, none⟩ = some (.int .i64 n) := by rw [hb.cell (by simp)]; simp
      have hc1 : w1.cell? ⟨w.heap.size, 1, none⟩ = some (.int .i64 d) := by rw [hb.cell (by simp)]; simp
      go_wp2_with fail
      go_ret
      exact ⟨ret_bool HX2.out.symm, hB0⟩
    · have HX2 : Hid (isDec n d = false) := by show _ = _; rw [HX.out, decide_eq_false hn]; rfl
      go_enter Tryd.func36, Tryd.ntmps36
      go_wp2_with fail
      refine (ratioValid_any n d _).mono ?_
      rintro e w1 ⟨rfl, hb⟩
      rw [HV.out]
      have hB0 : Below w.heap.size w w1 := ((Below.refl _ _).alloc (Nat.le_refl _) _).trans (hb.mono (by simp))
      have hc0 : w1.cell? ⟨w.heap.size, 0, none⟩ = some (.int .i64 n) := by rw [hb.cell (by simp)]; simp
      have hc1 : w1.cell? ⟨w.heap.size, 1, none⟩ = some (.int .i64 d) := by rw [hb.cell (by simp)]; simp
      go_wp2_with fail
      go_ret
      exact ⟨ret_bool HX2.out.symm, hB0⟩

theorem isDec_parts {n d : Int} (h : isDec n d = true) : 1 ≤ d ∧ d ≤ 1000000 ∧ 0 ≤ n ∧ n ≤ 1000000000000 ∧ 1000000 % d = 0 ∧ Nat.gcd n.natAbs d.natAbs = 1 := by
  unfold isDec at h
  rw [Bool.and_eq_true, Bool.and_eq_true] at h
  have h1 := of_decide_eq_true h.1
  have h2 := of_decide_eq_true h.2.1
  have h3 := beq_iff_eq.1 h.2.2
  exact ⟨h1.1, h1.2.1, h2, h1.2.2.2.1, h3, h1.2.2.2.2⟩

theorem mills_bd {n d : Int} (h : isDec n d = true) : 0 ≤ mills n d ∧ mills n d < 1000000 := by
  obtain ⟨h1, h2, h3, h4, h5, _⟩ := isDec_parts h
  unfold mills
  have hq : 1000000 / d * d = 1000000 := Int.ediv_mul_cancel (Int.dvd_of_emod_eq_zero h5)
  have hr0 := Int.emod_nonneg n (show d ≠ 0 by omega)
  have hr1 := Int.emod_lt_of_pos n (show 0 < d by omega)
  have hq0 : 0 < 1000000 / d := by
    rcases Int.lt_or_le 0 (1000000 / d) with h | h
    · exact h
    · have := Int.mul_le_mul_of_nonneg_right h (show 0 ≤ d by omega)
      omega
  refine ⟨Int.mul_nonneg hr0 (by omega), ?_⟩
  have := Int.mul_lt_mul_of_pos_right hr1 hq0
  rw [Int.mul_comm d, hq] at this
  exact this

theorem itoa_pos (n : Int) : 1 ≤ (Lib.itoa n).length := by
  have key : ∀ u : Nat, 1 ≤ (Lib.decDigits u).length := by
    intro u
    rw [Lib.decDigits]
    split <;> simp
  unfold Lib.itoa
  split
  · simp
  · exact key _
theorem trim_len (l : List UInt8) : (Lib.trimRightB l 48).length ≤ l.length := by
  unfold Lib.trimRightB
  rw [List.length_reverse]
  have := (List.dropWhile_sublist (fun x : UInt8 => x == 48) (l := l.reverse)).length_le
  simpa using this
theorem trim_any (l : List UInt8) (w : World) (hs : l.length ≤ 100000) :
    Calls Tryd.prog 41 #[.string ⟨l.toArray⟩, .string ⟨#[48]⟩] w fun e w' => e = .returned (.string ⟨(Lib.trimRightB l 48).toArray⟩) ∧ w = w' := by
  refine (Tryd.strings_TrimRight_one ⟨l.toArray⟩ 48 (by decide) w (by show l.length ≤ _; omega)).mono ?_
  rintro e w' ⟨rfl, rfl⟩
  exact ⟨by simp, rfl⟩

set_option maxHeartbeats 2000000 in
theorem number_text (n d : Int) (w : World) (hp : Pow w) :
    Calls Tryd.prog 18 #[.agg #[.int .i64 n, .int .i64 d]] w fun e w' => e = .returned (.string ⟨(numText n d).toArray⟩) ∧ Below w.heap.size w w' := by
  have HP := Lib.hid (hp.alloc (.cells #[.int .i64 n, .int .i64 d] 37))
  clear hp
  cases hv : isDec n d
  · have HX : Hid (numText n d = []) := by show _ = _; unfold numText; rw [hv]; rfl
    have HV := Lib.hid hv
    clear hv
    go_enter Tryd.func18, Tryd.ntmps18
    go_wp2_with fail
    refine (isDecimal_any n d _).mono ?_
    rintro e w1 ⟨rfl, hb⟩
    rw [HV.out]
    have hB0 : Below w.heap.size w w1 := ((Below.refl _ _).alloc (Nat.le_refl _) _).trans (hb.mono (by simp))
    go_wp2_with fail
    go_ret
    exact ⟨ret_str HX.out.symm, hB0⟩
  · obtain ⟨d1, d2, n1, n2, dm, _⟩ := isDec_parts hv
    obtain ⟨m1, m2⟩ := mills_bd hv
    have HX : Hid (numText n d = if mills n d = 0 then Lib.itoa (n / d) else Lib.itoa (n / d) ++ [46] ++ Lib.trimRightB ((Lib.itoa (1000000 + mills n d)).drop 1) 48) := by show _ = _; unfold numText; rw [if_pos hv]
    have HV := Lib.hid hv
    clear hv dm
    have HQ : Hid (IntKind.i64.wrap (n % d * (1000000 / d)) = mills n d) := by show _ = _; exact IntWalk.i64_in _ (by unfold mills at m1 m2; omega)
    have hq1 : 0 ≤ n / d := Int.ediv_nonneg n1 (by omega)
    have hq2 : n / d ≤ n := Int.ediv_le_self _ n1
    go_enter Tryd.func18, Tryd.ntmps18
    go_wp2_with fail
    refine (isDecimal_any n d _).mono ?_
    rintro e w1 ⟨rfl, hb⟩
    rw [HV.out]
    have hB0 : Below w.heap.size w w1 := ((Below.refl _ _).alloc (Nat.le_refl _) _).trans (hb.mono (by simp))
    have hc0 : w1.cell? ⟨w.heap.size, 0, none⟩ = some (.int .i64 n) := by rw [hb.cell (by simp)]; simp
    have hc1 : w1.cell? ⟨w.heap.size, 1, none⟩ = some (.int .i64 d) := by rw [hb.cell (by simp)]; simp
    have hz1 : w.heap.size < w1.heap.size := by have := hb.size; simp at this; omega
    go_wp2_with fail
    refine (itoa_any (n / d) _ (by omega) (by omega) (HP.out.below hb)).mono ?_
    rintro e w2 ⟨rfl, hb2⟩
    have hd0 : w2.cell? ⟨w.heap.size, 0, none⟩ = some (.int .i64 n) := by rw [hb2.cell (by simpa using hz1)]; exact hc0
    have hd1 : w2.cell? ⟨w.heap.size, 1, none⟩ = some (.int .i64 d) := by rw [hb2.cell (by simpa using hz1)]; exact hc1
    have hB1 : Below w.heap.size w w2 := hB0.trans (hb2.mono hB0.size)
    have HP2 : Hid (Pow w2) := (HP.out.below hb).below hb2
    clear hc0 hc1
    go_wp2_with fail
    have e1 := HQ.out
    have gd : (d == 0) = false := by simp; omega
    go_quiet (fail)
    clear e1 gd
    have hB2 : Below w.heap.size w (w2.drewN nq) := belowN hB1 nq
    have HP3 : Hid (Pow (w2.drewN nq)) := HP2.out.below (belowN (Below.refl _ _) nq)
    have l1 := Lib.itoa_length_le (n / d) (by omega) (by omega)
    have l2 := Lib.itoa_length_le (1000000 + mills n d) (by omega) (by omega)
    have l3 := itoa_pos (1000000 + mills n d)
    by_cases hm : mills n d = 0
    · have gm : (mills n d == 0) = true := by simpa using hm
      have HX2 : Hid (numText n d = Lib.itoa (n / d)) := by show _ = _; rw [HX.out, if_pos hm]
      clear hm
      go_wp2_with fail
      go_ret
      exact ⟨ret_str HX2.out.symm, hB2⟩
    · have gm : (mills n d == 0) = false := by simpa using hm
      have HX2 : Hid (numText n d = Lib.itoa (n / d) ++ [46] ++ Lib.trimRightB ((Lib.itoa (1000000 + mills n d)).drop 1) 48) := by show _ = _; rw [HX.out, if_neg hm]
      clear hm
      go_wp2_with fail
      refine (itoa_any (1000000 + mills n d) _ (by omega) (by omega) HP3.out).mono ?_
      rintro e w3 ⟨rfl, hb3⟩
      have hB3 : Below w.heap.size w w3 := hB2.trans (hb3.mono hB2.size)
      have l4 := trim_len (Lib.itoa (1000000 + mills n d)).tail
      rw [List.length_tail] at l4
      clear hb hb2 hb3 hd0 hd1
      go_wp2_with fail
      refine (trim_any (Lib.itoa (1000000 + mills n d)).tail _ (by simp; omega)).mono ?_
      rintro e w4 ⟨rfl, rfl⟩
      go_wp2_with fail
      go_ret
      exact ⟨ret_str (by rw [HX2.out]; simp), hB3⟩
end Go.Proofs.YtpdbkbadjgellaaDoor

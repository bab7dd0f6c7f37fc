/-
  The reference's Number.
-/
import Derived.Test.YtpdbkbadjgellaaGreatDoorZ27
import Derived.Test.YtpdbkbadjgellaaGreatDoorZ14
namespace Go.Proofs.YtpdbkbadjgellaaGreatDoor
open Go.RowKit
attribute [local go_sem] ba_get ba_extract take_rest ba_append

/-- The digits behind the point. -/
def fracL : Nat → Int → Int → List UInt8
  | 0, _, _ => []
  | k + 1, r, d => if r = 0 then [] else Lib.itoa (r * 10 / d) ++ fracL k (r * 10 % d) d
def numRef (n d : Int) : List UInt8 := if isDecimalB n d = true then Lib.itoa (n / d) ++ (if n % d = 0 then [] else [46] ++ fracL 6 (n % d) d) else []
theorem isDecimalB_parts {n d : Int} (h : isDecimalB n d = true) : 1 ≤ d ∧ d ≤ 1000000 ∧ 0 ≤ n ∧ n ≤ 1000000000000 ∧ 1000000 % d = 0 := by
  unfold isDecimalB ratB at h
  simp only [Bool.and_eq_true, decide_eq_true_eq, beq_iff_eq] at h
  have := ratInB_iff (a := n) (b := d) (by rw [h.1.1.1]; rfl)
  refine ⟨by omega, by omega, h.1.2, by omega, ?_⟩
  have h2 := h.2
  rwa [Int.tmod_eq_emod_of_nonneg (by omega)] at h2
theorem frac_zero (k : Nat) (d : Int) : fracL k 0 d = [] := by cases k <;> simp [fracL]
theorem frac_end {x d : Int} (h0 : 0 ≤ x) (h1 : x < d) (h : (x * 10 ^ 0) % d = 0) : x = 0 := by
  rw [Int.pow_zero, Int.mul_one, Int.emod_eq_of_lt h0 h1] at h
  exact h
theorem frac_mod {x d : Int} {k : Nat} (h : (x * 10 ^ (k + 1)) % d = 0) : (x * 10 % d * 10 ^ k) % d = 0 := by
  rw [Int.mul_emod, Int.emod_emod_of_dvd _ (Int.dvd_refl d), ← Int.mul_emod, Int.mul_assoc, Int.mul_comm 10, ← Int.pow_succ]
  exact h
theorem itoa_some (n : Int) : 1 ≤ (Lib.itoa n).length := by
  unfold Lib.itoa
  split
  · simp
  · rw [dec_last, List.length_append]; simp
def sizeV : Value → Nat
  | .string s => s.size
  | _ => 0

set_option maxHeartbeats 4000000 in
set_option maxRecDepth 100000 in
theorem rnumber_any (n d : Int) (w : World) :
    Calls Tryz.prog 19 #[.agg #[.int .i64 n, .int .i64 d]] w fun e w' => e = .returned (.string ⟨(numRef n d).toArray⟩) ∧ Below w.heap.size w w' := by
  cases hv : isDecimalB n d
  · have HX : Hid (numRef n d = []) := by show _ = _; unfold numRef; rw [hv]; rfl
    have HV := Lib.hid hv
    clear hv
    go_enter Tryz.func19, Tryz.ntmps19
    go_wp2_with fail
    refine (risDecimal_any n d _).mono ?_
    rintro e w1 ⟨rfl, hb⟩
    rw [HV.out]
    have hB0 : Below w.heap.size w w1 := ((Below.refl _ _).alloc (Nat.le_refl _) _).trans (hb.mono (by simp))
    go_wp2_with fail
    go_ret
    exact ⟨ret_str HX.out.symm, hB0⟩
  · obtain ⟨d1, d2, n1, n2, dm⟩ := isDecimalB_parts hv
    have HX : Hid (numRef n d = Lib.itoa (n / d) ++ (if n % d = 0 then [] else [46] ++ fracL 6 (n % d) d)) := by show _ = _; unfold numRef; rw [if_pos hv]
    have HV := Lib.hid hv
    have HM : Hid ((n % d * 10 ^ 6) % d = 0) := by
      show _ = _
      rw [show (10 : Int) ^ 6 = 1000000 by decide, Int.mul_emod, dm]
      simp
    clear hv dm
    have hq1 : 0 ≤ n / d := Int.ediv_nonneg n1 (by omega)
    have hq2 : n / d ≤ n := Int.ediv_le_self _ n1
    have hr1 := Int.emod_nonneg n (show d ≠ 0 by omega)
    have hr2 := Int.emod_lt_of_pos n (show 0 < d by omega)
    have gd : (d == 0) = false := by simp; omega
    go_enter Tryz.func19, Tryz.ntmps19
    go_wp2_with fail
    refine (risDecimal_any n d _).mono ?_
    rintro e w1 ⟨rfl, hb⟩
    rw [HV.out]
    have hB0 : Below w.heap.size w w1 := ((Below.refl _ _).alloc (Nat.le_refl _) _).trans (hb.mono (by simp))
    have hc0 : w1.cell? ⟨w.heap.size, 0, none⟩ = some (.int .i64 n) := by rw [hb.cell (by simp)]; simp
    have hc1 : w1.cell? ⟨w.heap.size, 1, none⟩ = some (.int .i64 d) := by rw [hb.cell (by simp)]; simp
    have hz1 : w.heap.size < w1.heap.size := by have := hb.size; simp at this; omega
    go_wp2_with fail
    refine (rdecimal_any (n / d) _ (by omega) (by omega)).mono ?_
    rintro e w2 ⟨rfl, hb2⟩
    have hd0 : w2.cell? ⟨w.heap.size, 0, none⟩ = some (.int .i64 n) := by rw [hb2.cell (by simpa using hz1)]; exact hc0
    have hd1 : w2.cell? ⟨w.heap.size, 1, none⟩ = some (.int .i64 d) := by rw [hb2.cell (by simpa using hz1)]; exact hc1
    have hB1 : Below w.heap.size w w2 := hB0.trans (hb2.mono hB0.size)
    have hz2 : w.heap.size < w2.heap.size := by have := hb2.size; omega
    clear hc0 hc1 hb hb2 hB0
    have l1 := Lib.itoa_length_le (n / d) (by omega) (by omega)
    by_cases hx : 0 < n % d
    · have HS : Hid ((Lib.itoa (n / d) ++ [46]) ++ fracL (6 - 0) (n % d) d = numRef n d) := by
        show _ = _
        rw [HX.out, if_neg (by omega), List.append_assoc]
      go_wp2_with fail
      go_loopw [3, 4] (fun s r wr => ∃ (l : List UInt8) (x : Int) (j : Nat), s = .string ⟨l.toArray⟩ ∧ r = .int .i64 x ∧ 0 ≤ x ∧ x < d ∧ j ≤ 6 ∧ Hid (l ++ fracL (6 - j) x d = numRef n d) ∧ Hid ((x * 10 ^ (6 - j)) % d = 0) ∧ l.length ≤ 22 + 21 * j ∧ Below w.heap.size w wr ∧ w.heap.size < wr.heap.size ∧ wr.cell? ⟨w.heap.size, 1, none⟩ = some (.int .i64 d)) (fun s _ _ => 400 - sizeV s)
      case atStart => exact ⟨_, _, 0, rfl, rfl, hr1, hr2, by omega, HS, HM, by simp; omega, hB1, hz2, hd1⟩
      case round =>
        obtain ⟨l, x, j, rfl, rfl, hx0, hx1, hj, HT, HZ, hl, hB, hz, hc⟩ := hrel
        have HB := Lib.hid hB
        clear hB
        by_cases hxz : x = 0
        · have HF : Hid (l = numRef n d) := by show _ = _; rw [← HT.out, hxz, frac_zero, List.append_nil]
          subst hxz
          go_wp2_with fail
          go_ret
          exact ⟨ret_str HF.out, HB.out⟩
        · have hj6 : j < 6 := by
            rcases Nat.lt_or_ge j 6 with h | h
            · exact h
            · have e : 6 - j = 0 := by omega
              have := HZ.out
              rw [e] at this
              exact (hxz (frac_end hx0 hx1 this)).elim
          obtain ⟨k, hk⟩ : ∃ k, 6 - j = k + 1 := ⟨6 - j - 1, by omega⟩
          have HT2 : Hid ((l ++ Lib.itoa (x * 10 / d)) ++ fracL (6 - (j + 1)) (x * 10 % d) d = numRef n d) := by
            show _ = _
            rw [← HT.out, hk, show 6 - (j + 1) = k by omega, List.append_assoc]
            show _ = l ++ (if x = 0 then [] else Lib.itoa (x * 10 / d) ++ fracL k (x * 10 % d) d)
            rw [if_neg hxz]
          have HZ2 : Hid ((x * 10 % d * 10 ^ (6 - (j + 1))) % d = 0) := by
            show _ = _
            have := HZ.out
            rw [hk] at this
            rw [show 6 - (j + 1) = k by omega]
            exact frac_mod this
          have p1 : 0 < x := by omega
          have r1 := Int.emod_nonneg (x * 10) (show d ≠ 0 by omega)
          have r2 := Int.emod_lt_of_pos (x * 10) (show 0 < d by omega)
          have q1 : 0 ≤ x * 10 / d := Int.ediv_nonneg (by omega) (by omega)
          have q2 : x * 10 / d ≤ x * 10 := Int.ediv_le_self _ (by omega)
          have s1 := Lib.itoa_length_le (x * 10 / d) (by omega) (by omega)
          have s2 := itoa_some (x * 10 / d)
          clear hxz hk
          go_wp2_with fail
          refine (rdecimal_any (x * 10 / d) _ (by omega) (by omega)).mono ?_
          rintro e w5 ⟨rfl, hb5⟩
          have hc5 : w5.cell? ⟨w.heap.size, 1, none⟩ = some (.int .i64 d) := by rw [hb5.cell (by simpa using hz)]; exact hc
          have HB5 : Hid (Below w.heap.size w w5) := HB.out.trans (hb5.mono HB.out.size)
          have hz5 : w.heap.size < w5.heap.size := by have := hb5.size; omega
          clear hc hb5
          go_wp2_with fail
          go_roundw
          case rel => exact ⟨_, _, j + 1, rfl, by go_num, r1, r2, by omega, HT2, HZ2, by simp; omega, HB5.out, hz5, hc5⟩
          case measure =>
            show 400 - (l ++ Lib.itoa (x * 10 / d)).length < 400 - l.length
            rw [List.length_append]
            omega
    · have HS : Hid (Lib.itoa (n / d) ++ fracL (6 - 0) (n % d) d = numRef n d) := by
        show _ = _
        rw [HX.out, if_pos (by omega), show n % d = 0 by omega, frac_zero]
      go_wp2_with fail
      go_loopw [3, 4] (fun s r wr => ∃ (l : List UInt8) (x : Int) (j : Nat), s = .string ⟨l.toArray⟩ ∧ r = .int .i64 x ∧ 0 ≤ x ∧ x < d ∧ j ≤ 6 ∧ Hid (l ++ fracL (6 - j) x d = numRef n d) ∧ Hid ((x * 10 ^ (6 - j)) % d = 0) ∧ l.length ≤ 22 + 21 * j ∧ Below w.heap.size w wr ∧ w.heap.size < wr.heap.size ∧ wr.cell? ⟨w.heap.size, 1, none⟩ = some (.int .i64 d)) (fun s _ _ => 400 - sizeV s)
      case atStart => exact ⟨_, _, 0, rfl, rfl, hr1, hr2, by omega, HS, HM, by omega, hB1, hz2, hd1⟩
      case round =>
        obtain ⟨l, x, j, rfl, rfl, hx0, hx1, hj, HT, HZ, hl, hB, hz, hc⟩ := hrel
        have HB := Lib.hid hB
        clear hB
        by_cases hxz : x = 0
        · have HF : Hid (l = numRef n d) := by show _ = _; rw [← HT.out, hxz, frac_zero, List.append_nil]
          subst hxz
          go_wp2_with fail
          go_ret
          exact ⟨ret_str HF.out, HB.out⟩
        · have hj6 : j < 6 := by
            rcases Nat.lt_or_ge j 6 with h | h
            · exact h
            · have e : 6 - j = 0 := by omega
              have := HZ.out
              rw [e] at this
              exact (hxz (frac_end hx0 hx1 this)).elim
          obtain ⟨k, hk⟩ : ∃ k, 6 - j = k + 1 := ⟨6 - j - 1, by omega⟩
          have HT2 : Hid ((l ++ Lib.itoa (x * 10 / d)) ++ fracL (6 - (j + 1)) (x * 10 % d) d = numRef n d) := by
            show _ = _
            rw [← HT.out, hk, show 6 - (j + 1) = k by omega, List.append_assoc]
            show _ = l ++ (if x = 0 then [] else Lib.itoa (x * 10 / d) ++ fracL k (x * 10 % d) d)
            rw [if_neg hxz]
          have HZ2 : Hid ((x * 10 % d * 10 ^ (6 - (j + 1))) % d = 0) := by
            show _ = _
            have := HZ.out
            rw [hk] at this
            rw [show 6 - (j + 1) = k by omega]
            exact frac_mod this
          have p1 : 0 < x := by omega
          have r1 := Int.emod_nonneg (x * 10) (show d ≠ 0 by omega)
          have r2 := Int.emod_lt_of_pos (x * 10) (show 0 < d by omega)
          have q1 : 0 ≤ x * 10 / d := Int.ediv_nonneg (by omega) (by omega)
          have q2 : x * 10 / d ≤ x * 10 := Int.ediv_le_self _ (by omega)
          have s1 := Lib.itoa_length_le (x * 10 / d) (by omega) (by omega)
          have s2 := itoa_some (x * 10 / d)
          clear hxz hk
          go_wp2_with fail
          refine (rdecimal_any (x * 10 / d) _ (by omega) (by omega)).mono ?_
          rintro e w5 ⟨rfl, hb5⟩
          have hc5 : w5.cell? ⟨w.heap.size, 1, none⟩ = some (.int .i64 d) := by rw [hb5.cell (by simpa using hz)]; exact hc
          have HB5 : Hid (Below w.heap.size w w5) := HB.out.trans (hb5.mono HB.out.size)
          have hz5 : w.heap.size < w5.heap.size := by have := hb5.size; omega
          clear hc hb5
          go_wp2_with fail
          go_roundw
          case rel => exact ⟨_, _, j + 1, rfl, by go_num, r1, r2, by omega, HT2, HZ2, by simp; omega, HB5.out, hz5, hc5⟩
          case measure =>
            show 400 - (l ++ Lib.itoa (x * 10 / d)).length < 400 - l.length
            rw [List.length_append]
            omega
theorem numRef_len (n d : Int) : (numRef n d).length ≤ 150 := by
  have key : ∀ (k : Nat) (x : Int), 0 ≤ x → x ≤ 1000000 → 1 ≤ d → d ≤ 1000000 → (fracL k x d).length ≤ 21 * k := by
    intro k
    induction k with
    | zero => intros; simp [fracL]
    | succ k ih =>
      intro x h0 h1 h2 h3
      unfold fracL
      split
      · simp
      · have r1 := Int.emod_nonneg (x * 10) (show d ≠ 0 by omega)
        have r2 := Int.emod_lt_of_pos (x * 10) (show 0 < d by omega)
        have q1 : 0 ≤ x * 10 / d := Int.ediv_nonneg (by omega) (by omega)
        have q2 : x * 10 / d ≤ x * 10 := Int.ediv_le_self _ (by omega)
        have s1 := Lib.itoa_length_le (x * 10 / d) (by omega) (by omega)
        have := ih (x * 10 % d) r1 (by omega) h2 h3
        rw [List.length_append]
        omega
  unfold numRef
  split
  · rename_i hv
    obtain ⟨d1, d2, n1, n2, dm⟩ := isDecimalB_parts hv
    have hq1 : 0 ≤ n / d := Int.ediv_nonneg n1 (by omega)
    have hq2 : n / d ≤ n := Int.ediv_le_self _ n1
    have hr1 := Int.emod_nonneg n (show d ≠ 0 by omega)
    have hr2 := Int.emod_lt_of_pos n (show 0 < d by omega)
    have l1 := Lib.itoa_length_le (n / d) (by omega) (by omega)
    have l2 := key 6 (n % d) hr1 (by omega) d1 d2
    split
    · simp; omega
    · simp; omega
  · simp
end Go.Proofs.YtpdbkbadjgellaaGreatDoor

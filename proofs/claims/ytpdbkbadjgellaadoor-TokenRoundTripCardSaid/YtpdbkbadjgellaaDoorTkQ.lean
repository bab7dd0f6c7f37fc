/-
  Plain laws on the numbers in texts. No program in sight.
-/
import Derived.Test.YtpdbkbadjgellaaDoorTkP
namespace Go.Proofs.YtpdbkbadjgellaaDoor
namespace Tk

theorem val_append (a b : List UInt8) : val (a ++ b) = val a * 10 ^ b.length + val b := by
  have key : ∀ (b : List UInt8) (n : Nat), b.foldl (fun n c => n * 10 + (c.toNat - 48)) n = n * 10 ^ b.length + b.foldl (fun n c => n * 10 + (c.toNat - 48)) 0 := by
    intro b
    induction b with
    | nil => intro n; simp
    | cons c r ih =>
      intro n
      simp only [List.foldl_cons, List.length_cons]
      rw [ih (n * 10 + (c.toNat - 48)), ih (0 * 10 + (c.toNat - 48)), Nat.pow_succ, Nat.add_mul, Nat.mul_assoc, Nat.mul_comm 10 (10 ^ r.length)]
      simp
      omega
  unfold val
  rw [List.foldl_append]
  exact key b _

/-- The digits among the first k bytes of a number. -/
def pre (l : List UInt8) (k : Nat) : List UInt8 := l.take (min k (digs l)) ++ (l.drop (digs l + 1)).take (k - (digs l + 1))

theorem pre_zero (l : List UInt8) : pre l 0 = [] := by simp [pre]
theorem pre_end (l : List UInt8) : pre l (numEnd l) = l.take (digs l) ++ (l.drop (digs l + 1)).take (frac l) := by
  unfold pre numEnd
  split
  · rw [Nat.min_eq_right (by omega), show digs l + (1 + frac l) - (digs l + 1) = frac l by omega]
  · rename_i h
    rw [Nat.min_self, show digs l - (digs l + 1) = 0 by omega]
    unfold frac
    rw [if_neg h]
theorem numN_eq (l : List UInt8) : numN l = val (pre l (numEnd l)) := by rw [pre_end]; rfl
theorem pre_point (l : List UInt8) : pre l (digs l + 1) = pre l (digs l) := by
  unfold pre
  rw [Nat.min_eq_right (by omega), Nat.min_self, Nat.sub_self, show digs l - (digs l + 1) = 0 by omega]
theorem pre_whole (l : List UInt8) (k : Nat) (hk : k < digs l) (h : k < l.length) : pre l (k + 1) = pre l k ++ [l[k]] := by
  unfold pre
  rw [Nat.min_eq_left (by omega), Nat.min_eq_left (by omega), show k + 1 - (digs l + 1) = 0 by omega, show k - (digs l + 1) = 0 by omega, List.take_succ_eq_append_getElem h]
  simp
theorem pre_part (l : List UInt8) (k : Nat) (hk : digs l + 1 ≤ k) (h : k < l.length) : pre l (k + 1) = pre l k ++ [l[k]] := by
  unfold pre
  rw [Nat.min_eq_right (by omega), Nat.min_eq_right (by omega), show k + 1 - (digs l + 1) = (k - (digs l + 1)) + 1 by omega, List.take_succ_eq_append_getElem (by simp; omega), List.append_assoc]
  congr 3
  rw [List.getElem_drop]
  congr 1
  omega

/-- A byte of a number is its point or a digit. -/
theorem num_byte (l : List UInt8) (k : Nat) (hk : k < numEnd l) (h : k < l.length) :
    (k = digs l ∧ l[k].toNat = 46 ∧ pre l (k + 1) = pre l k) ∨ (isDig l[k] = true ∧ pre l (k + 1) = pre l k ++ [l[k]]) := by
  rcases Nat.lt_trichotomy k (digs l) with hlt | heq | hgt
  · exact .inr ⟨lead_all isDig l k hlt h, pre_whole l k hlt h⟩
  · have hf : hasFrac l = true := by
      unfold numEnd at hk
      split at hk
      · assumption
      · omega
    refine .inl ⟨heq, ?_, by rw [heq]; exact pre_point l⟩
    unfold hasFrac at hf
    rw [Bool.and_eq_true] at hf
    have := of_decide_eq_true hf.1
    rw [List.getD_eq_getElem?_getD, ← heq, List.getElem?_eq_getElem h] at this
    simpa using this
  · have hf : hasFrac l = true := by
      unfold numEnd at hk
      split at hk
      · assumption
      · omega
    refine .inr ⟨?_, pre_part l k (by omega) h⟩
    have hfr : frac l = lead isDig (l.drop (digs l + 1)) := by unfold frac; rw [if_pos hf]; rfl
    have hn : numEnd l = digs l + (1 + frac l) := by unfold numEnd; rw [if_pos hf]
    have := lead_all isDig (l.drop (digs l + 1)) (k - (digs l + 1)) (by omega) (by simp; omega)
    rw [List.getElem_drop] at this
    have e : digs l + 1 + (k - (digs l + 1)) = k := by omega
    simpa [e] using this

theorem pre_mono (l : List UInt8) (hl : numEnd l ≤ l.length) (k j : Nat) (h : k + j ≤ numEnd l) : val (pre l k) ≤ val (pre l (k + j)) := by
  induction j with
  | zero => exact Nat.le_refl _
  | succ j ih =>
    refine Nat.le_trans (ih (by omega)) ?_
    rcases num_byte l (k + j) (by omega) (by omega) with ⟨_, _, e⟩ | ⟨_, e⟩
    · rw [show k + (j + 1) = k + j + 1 by omega, e]; exact Nat.le_refl _
    · rw [show k + (j + 1) = k + j + 1 by omega, e, val_append]; simp; omega

theorem newR_over (n d : Nat) (hd : 1 ≤ d) (hd2 : d ≤ 1000000) (hn : 1000000000000 * 1000000 < n) : newR n d = none := by
  unfold newR
  rw [if_pos]
  refine .inl ?_
  rcases Nat.lt_or_ge 1000000000000 (n / Nat.gcd n d) with h | h
  · exact h
  · exfalso
    have hg : Nat.gcd n d ≤ 1000000 := Nat.le_trans (Nat.gcd_le_right _ hd) hd2
    have he : n / Nat.gcd n d * Nat.gcd n d = n := Nat.div_mul_cancel (Nat.gcd_dvd_left _ _)
    have : n / Nat.gcd n d * Nat.gcd n d ≤ 1000000000000 * 1000000 := Nat.mul_le_mul h hg
    omega

theorem pow_le6 (l : List UInt8) (k : Nat) (hk : k ≤ frac l) (h : frac l ≤ most l) : den0 l * 10 ^ k ≤ 1000000 := by
  unfold most at h
  unfold den0
  split
  · rename_i hp
    rw [if_pos hp] at h
    have : 10 ^ k ≤ 10 ^ 4 := Nat.pow_le_pow_right (by omega) (by omega)
    omega
  · rename_i hp
    rw [if_neg hp] at h
    have : 10 ^ k ≤ 10 ^ 6 := Nat.pow_le_pow_right (by omega) (by omega)
    omega
theorem numD_pos (l : List UInt8) : 1 ≤ numD l := by
  unfold numD den0
  have : 1 ≤ 10 ^ frac l := Nat.pow_pos (by omega)
  split <;> omega

theorem not_bad (l : List UInt8) (h : badNum l = false) : frac l ≤ most l := by
  unfold badNum at h
  rw [Bool.or_eq_false_iff, Bool.or_eq_false_iff] at h
  have := of_decide_eq_false h.1.2
  omega

/-- A numerator that is too great before its last digit. -/
theorem num_over (l : List UInt8) (hb : badNum l = false) (hl : numEnd l ≤ l.length) (k : Nat) (hk : k < numEnd l) (hd : pre l (k + 1) = pre l k ++ [l[k]'(by omega)]) (hn : 100000000000000000 < val (pre l k)) : readNum l = .error 4 := by
  have h1 := pre_mono l hl (k + 1) (numEnd l - (k + 1)) (by omega)
  rw [show k + 1 + (numEnd l - (k + 1)) = numEnd l by omega, hd, val_append, ← numN_eq] at h1
  unfold readNum
  rw [if_neg (by rw [hb]; simp), newR_over _ _ (numD_pos l) (pow_le6 l _ (Nat.le_refl _) (not_bad l hb)) (by simp at h1; omega)]
end Tk
end Go.Proofs.YtpdbkbadjgellaaDoor

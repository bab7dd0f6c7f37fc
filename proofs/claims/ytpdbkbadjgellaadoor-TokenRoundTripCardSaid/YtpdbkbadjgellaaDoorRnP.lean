/-
  Plain laws on the numbers in texts, as the reference reads them. No program in sight.
-/
import Derived.Test.YtpdbkbadjgellaaDoorBkP
namespace Go.Proofs.YtpdbkbadjgellaaDoor
namespace Tk

theorem newR_none (N D : Nat) (hD : 1 ≤ D) (h : 1000000000000 * D < N) : newR N D = none := by
  unfold newR
  rw [if_pos]
  refine .inl ?_
  have hg : 0 < Nat.gcd N D := Nat.gcd_pos_of_pos_right _ hD
  have e1 : N / Nat.gcd N D * Nat.gcd N D = N := Nat.div_mul_cancel (Nat.gcd_dvd_left _ _)
  have hgD : Nat.gcd N D ≤ D := Nat.gcd_le_right _ hD
  rcases Nat.lt_or_ge 1000000000000 (N / Nat.gcd N D) with h1 | h1
  · exact h1
  · exfalso
    have : N / Nat.gcd N D * Nat.gcd N D ≤ 1000000000000 * D := Nat.mul_le_mul h1 hgD
    omega
theorem frac_len' (y : List UInt8) : ((y.drop (digs y + 1)).take (frac y)).length = frac y := by
  rw [List.length_take, Nat.min_eq_left]
  unfold frac
  split
  · exact lead_le _ _
  · omega
theorem numN_split (y : List UInt8) : numN y = val (y.take (digs y)) * 10 ^ frac y + val ((y.drop (digs y + 1)).take (frac y)) := by
  unfold numN
  rw [val_append, frac_len']
/-- A whole part that is too great. -/
theorem read_over (y : List UInt8) (hb : badNum y = false) (h : 1000000000000 * den0 y < val (y.take (digs y))) : readNum y = .error 4 := by
  unfold readNum
  rw [if_neg (by rw [hb]; simp), newR_none _ _ (numD_pos y)]
  rw [numN_split]
  unfold numD
  have hp : 0 < 10 ^ frac y := Nat.pow_pos (by omega)
  have := Nat.mul_lt_mul_of_pos_right h hp
  rw [Nat.mul_assoc] at this
  omega
/-- A whole part of more than fifteen digits. -/
theorem read_many (y : List UInt8) (hb : badNum y = false) (h : 15 < digs y) : readNum y = .error 4 := by
  refine read_over y hb ?_
  have hd0 : den0 y ≤ 100 := by unfold den0; split <;> omega
  have hl : digs y ≤ y.length := lead_le _ _
  cases y with
  | nil => simp at hl; omega
  | cons c r =>
    have hdig : isDig c = true := lead_all isDig (c :: r) 0 (by unfold digs at h; omega) (by simp)
    have hc : c.toNat ≠ 48 := by
      intro e
      unfold badNum at hb
      rw [Bool.or_eq_false_iff, Bool.or_eq_false_iff, Bool.and_eq_false_iff] at hb
      rcases hb.1.1 with h1 | h1
      · have := of_decide_eq_false h1; omega
      · have := of_decide_eq_false h1; exact this e
    have hd := of_decide_eq_true hdig
    obtain ⟨m, hm⟩ : ∃ m, digs (c :: r) = m + 1 := ⟨digs (c :: r) - 1, by omega⟩
    rw [hm, List.take_succ_cons]
    have e : c :: r.take m = [c] ++ r.take m := rfl
    rw [e, val_append]
    have hlm : (r.take m).length = m := by simp at hl ⊢; omega
    have h1 : 1 ≤ val [c] := by simp [val]; omega
    rw [hlm]
    have h2 : 10 ^ 15 ≤ 10 ^ m := Nat.pow_le_pow_right (by omega) (by omega)
    have h3 : 1 * 10 ^ m ≤ val [c] * 10 ^ m := Nat.mul_le_mul_right _ h1
    omega
theorem val_lt (l : List UInt8) (h : ∀ c ∈ l, isDig c = true) : val l < 10 ^ l.length := by
  have key : ∀ l : List UInt8, (∀ c ∈ l, isDig c = true) → val l < 10 ^ l.length := by
    intro l
    induction l with
    | nil => intro _; simp [val]
    | cons c r ih =>
      intro h
      have h1 := ih (fun d hd => h d (by simp [hd]))
      have h2 := of_decide_eq_true (h c (by simp))
      have e : c :: r = [c] ++ r := rfl
      rw [e, val_append, List.length_append, List.length_cons, List.length_nil, show 0 + 1 + r.length = r.length + 1 by omega, Nat.pow_succ]
      have h3 : val [c] ≤ 9 := by simp [val]; omega
      have h4 : val [c] * 10 ^ r.length ≤ 9 * 10 ^ r.length := Nat.mul_le_mul_right _ h3
      omega
  exact key l h
theorem whole_dig (y : List UInt8) : ∀ c ∈ y.take (digs y), isDig c = true := by
  intro c hc
  obtain ⟨i, hi, rfl⟩ := List.getElem_of_mem hc
  rw [List.getElem_take]
  have hl : digs y ≤ y.length := lead_le _ _
  simp at hi
  exact lead_all isDig y i (by unfold digs at hi; omega) (by omega)
theorem part_dig (y : List UInt8) : ∀ c ∈ (y.drop (digs y + 1)).take (frac y), isDig c = true := by
  intro c hc
  obtain ⟨i, hi, rfl⟩ := List.getElem_of_mem hc
  rw [List.getElem_take]
  rw [frac_len'] at hi
  have hf : hasFrac y = true := by
    rcases Bool.eq_false_or_eq_true (hasFrac y) with h | h
    · exact h
    · unfold frac at hi; rw [h] at hi; simp at hi
  have e : frac y = lead isDig (y.drop (digs y + 1)) := by unfold frac; rw [if_pos hf]; rfl
  exact lead_all isDig _ i (by omega) _
/-- The numerator stays small while the part behind the point is read. -/
theorem part_small (y : List UInt8) (hb : badNum y = false) (h : val (y.take (digs y)) ≤ 1000000000000 * den0 y) (k : Nat) (hk : k ≤ frac y) :
    val (y.take (digs y) ++ ((y.drop (digs y + 1)).take (frac y)).take k) ≤ 1000000000002000000 := by
  have hl : (((y.drop (digs y + 1)).take (frac y)).take k).length = k := by rw [List.length_take, frac_len', Nat.min_eq_left hk]
  have h1 := val_lt (((y.drop (digs y + 1)).take (frac y)).take k) (fun c hc => part_dig y c (List.mem_of_mem_take hc))
  have h2 := pow_le6 y k hk (not_bad y hb)
  rw [val_append, hl]
  rw [hl] at h1
  have h3 : val (y.take (digs y)) * 10 ^ k ≤ 1000000000000 * den0 y * 10 ^ k := Nat.mul_le_mul_right _ h
  rw [Nat.mul_assoc] at h3
  have h4 : 1000000000000 * (den0 y * 10 ^ k) ≤ 1000000000000 * 1000000 := Nat.mul_le_mul_left _ h2
  have h5 : 10 ^ k ≤ den0 y * 10 ^ k := Nat.le_mul_of_pos_left _ (by unfold den0; split <;> omega)
  omega
end Tk
end Go.Proofs.YtpdbkbadjgellaaDoor

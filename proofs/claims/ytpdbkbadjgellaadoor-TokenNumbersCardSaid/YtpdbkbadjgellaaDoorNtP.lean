/-
  Plain laws: a number's text is read as this number.
-/
import Derived.Test.YtpdbkbadjgellaaDoorTkX
namespace Go.Proofs.YtpdbkbadjgellaaDoor
namespace Tk

/-- A byte behind which no token goes on. -/
def stopB (c : UInt8) : Bool := !isWord c && decide (c.toNat ≠ 46 ∧ c.toNat ≠ 37 ∧ c.toNat ≠ 45 ∧ c.toNat ≠ 61 ∧ c.toNat ≠ 62)

theorem lead_append (p : UInt8 → Bool) (x r : List UInt8) (hx : ∀ c ∈ x, p c = true) (hr : p (r.headD 0) = false) : lead p (x ++ r) = x.length := by
  induction x with
  | nil =>
    cases r with
    | nil => rfl
    | cons c r => simp at hr; simp [lead, hr]
  | cons c x ih =>
    simp only [List.cons_append, lead, List.length_cons]
    rw [if_pos (hx c (by simp)), ih (fun c hc => hx c (by simp [hc]))]
theorem getD_append (x r : List UInt8) : (x ++ r).getD x.length 0 = r.headD 0 := by
  cases r <;> simp [List.getD_eq_getElem?_getD]
theorem getD_append' (x r : List UInt8) (k : Nat) : (x ++ r).getD (x.length + k) 0 = r.getD k 0 := by
  rw [List.getD_eq_getElem?_getD, List.getD_eq_getElem?_getD, List.getElem?_append_right (by omega), Nat.add_sub_cancel_left]

/-- Decimal digits. -/
theorem dec_digs (u : Nat) : ∀ c ∈ Lib.decDigits u, isDig c = true := by
  induction u using Nat.strongRecOn with
  | ind u ih =>
    intro c hc
    rw [Lib.decDigits] at hc
    split at hc
    · simp at hc; subst hc; simp [isDig]; omega
    · rw [List.mem_append] at hc
      rcases hc with hc | hc
      · exact ih (u / 10) (by omega) c hc
      · simp at hc; subst hc; simp [isDig]; omega
theorem dec_val (u : Nat) : val (Lib.decDigits u) = u := by
  induction u using Nat.strongRecOn with
  | ind u ih =>
    rw [Lib.decDigits]
    split
    · simp [val]; omega
    · rw [val_append, ih (u / 10) (by omega)]
      simp [val]
      omega
theorem dec_head (u : Nat) (h : 1 < (Lib.decDigits u).length) : ((Lib.decDigits u).getD 0 0).toNat ≠ 48 := by
  induction u using Nat.strongRecOn with
  | ind u ih =>
    rw [Lib.decDigits] at h ⊢
    split at h
    · simp at h
    · rename_i hu
      rw [dif_neg hu]
      have hne : (Lib.decDigits (u / 10)) ≠ [] := by rw [Lib.decDigits]; split <;> simp
      have hpos : 0 < (Lib.decDigits (u / 10)).length := List.length_pos_iff.2 hne
      rw [List.getD_eq_getElem?_getD, List.getElem?_append_left hpos, ← List.getD_eq_getElem?_getD]
      by_cases h1 : 1 < (Lib.decDigits (u / 10)).length
      · exact ih (u / 10) (by omega) h1
      · rw [Lib.decDigits] at h1 ⊢
        split at h1
        · rename_i h2
          rw [dif_pos h2]
          simp
          omega
        · exfalso
          have : 0 < (Lib.decDigits (u / 10 / 10)).length := by
            rw [Lib.decDigits]; split <;> simp
          rw [List.length_append, List.length_singleton] at h1
          omega
theorem itoa_nat (n : Int) (h : 0 ≤ n) : Lib.itoa n = Lib.decDigits n.toNat := by
  unfold Lib.itoa; rw [if_neg (by omega)]

/-- A list whose last zeros are gone. -/
theorem trim_spec (l : List UInt8) : ∃ z : Nat, l = Lib.trimRightB l 48 ++ List.replicate z 48 ∧ (Lib.trimRightB l 48 = [] ∨ (Lib.trimRightB l 48).getLast? ≠ some 48) := by
  have key : ∀ l : List UInt8, ∃ z : Nat, l = List.replicate z 48 ++ l.dropWhile (· == 48) ∧ (l.dropWhile (· == 48)).head? ≠ some 48 := by
    intro l
    induction l with
    | nil => exact ⟨0, by simp, by simp⟩
    | cons c r ih =>
      by_cases hc : c = 48
      · subst hc
        obtain ⟨z, h1, h2⟩ := ih
        refine ⟨z + 1, ?_, ?_⟩
        · rw [List.dropWhile_cons_of_pos (by simp), List.replicate_succ, List.cons_append, ← h1]
        · rw [List.dropWhile_cons_of_pos (by simp)]; exact h2
      · refine ⟨0, ?_, ?_⟩
        · rw [List.dropWhile_cons_of_neg (by simpa using hc)]; rfl
        · rw [List.dropWhile_cons_of_neg (by simpa using hc)]; simpa using hc
  obtain ⟨z, h1, h2⟩ := key l.reverse
  refine ⟨z, ?_, .inr ?_⟩
  · have := congrArg List.reverse h1
    rw [List.reverse_reverse, List.reverse_append, List.reverse_replicate] at this
    exact this
  · unfold Lib.trimRightB
    rw [List.getLast?_reverse]
    exact h2
theorem val_zeros (z : Nat) : val (List.replicate z 48) = 0 := by
  induction z with
  | zero => rfl
  | succ z ih => rw [List.replicate_succ', val_append, ih]; rfl

/-- The six digits behind a leading one. -/
theorem six (m : Nat) (h : m < 1000000) : ∃ D, Lib.decDigits (1000000 + m) = 49 :: D ∧ D.length = 6 ∧ val D = m ∧ ∀ c ∈ D, isDig c = true := by
  have e : ∃ a b c d e f : UInt8, Lib.decDigits (1000000 + m) = [49, a, b, c, d, e, f] := by
    rw [Lib.decDigits, dif_neg (by omega), Lib.decDigits, dif_neg (by omega), Lib.decDigits, dif_neg (by omega), Lib.decDigits, dif_neg (by omega), Lib.decDigits, dif_neg (by omega), Lib.decDigits, dif_neg (by omega), Lib.decDigits, dif_pos (by omega)]
    have : (1000000 + m) / 10 / 10 / 10 / 10 / 10 / 10 = 1 := by omega
    rw [this]
    exact ⟨_, _, _, _, _, _, rfl⟩
  obtain ⟨a, b, c, d, e, f, h1⟩ := e
  have hv := dec_val (1000000 + m)
  have hd := dec_digs (1000000 + m)
  rw [h1] at hv hd
  refine ⟨[a, b, c, d, e, f], h1, rfl, ?_, fun x hx => hd x (by simp at hx ⊢; exact .inr hx)⟩
  have : val (49 :: [a, b, c, d, e, f]) = val [49] * 10 ^ 6 + val [a, b, c, d, e, f] := val_append [49] [a, b, c, d, e, f]
  rw [this] at hv
  have e1 : val [49] = 1 := rfl
  rw [e1] at hv
  omega

/-- A fraction that equals one in lowest terms. -/
theorem newR_eq (N D a b : Nat) (hb : 0 < b) (hD : 0 < D) (hg : Nat.gcd a b = 1) (he : N * b = a * D) (ha : a ≤ 1000000000000) (hb2 : b ≤ 1000000) : newR N D = some (a, b) := by
  have hbd : b ∣ D := by
    have h1 : b ∣ a * D := ⟨N, by rw [← he, Nat.mul_comm]⟩
    exact (Nat.Coprime.dvd_of_dvd_mul_left (Nat.coprime_comm.1 hg) h1)
  obtain ⟨t, rfl⟩ := hbd
  have hN : N = a * t := by
    have : N * b = (a * t) * b := by rw [he, Nat.mul_comm b t, Nat.mul_assoc]
    exact Nat.eq_of_mul_eq_mul_right hb this
  subst hN
  have ht : 0 < t := Nat.pos_of_mul_pos_left hD
  have hgg : Nat.gcd (a * t) (b * t) = t := by rw [Nat.gcd_mul_right, hg, Nat.one_mul]
  unfold newR
  rw [hgg, Nat.mul_div_cancel _ ht, Nat.mul_div_cancel _ ht, if_neg (by omega)]

theorem stop_parts {c : UInt8} (h : stopB c = true) : isLow c = false ∧ isDig c = false ∧ c.toNat ≠ 95 ∧ c.toNat ≠ 46 ∧ c.toNat ≠ 37 ∧ c.toNat ≠ 45 := by
  unfold stopB at h
  rw [Bool.and_eq_true] at h
  have h2 := of_decide_eq_true h.2
  have h1 : isWord c = false := by simpa using h.1
  unfold isWord at h1
  rw [Bool.or_eq_false_iff, Bool.or_eq_false_iff] at h1
  exact ⟨h1.1.1, h1.1.2, of_decide_eq_false h1.2, h2.1, h2.2.1, h2.2.2.1⟩

/-- A text of digits, and what follows, has no form of a date. -/
theorem form_no (ps : List Bool) (x r : List UInt8) (hx : ∀ c ∈ x, isDig c = true ∨ c.toNat = 46) (hr : isDig (r.headD 0) = false) (hr2 : (r.headD 0).toNat ≠ 45) (hf : false ∈ ps) : form ps (x ++ r) = false := by
  induction ps generalizing x with
  | nil => simp at hf
  | cons p ps ih =>
    cases x with
    | nil =>
      cases r with
      | nil => rfl
      | cons c r =>
        simp at hr hr2
        simp only [List.nil_append, form]
        cases p
        · simp [hr2]
        · simp [hr]
    | cons c x =>
      simp only [List.cons_append, form]
      cases p
      · have : c.toNat ≠ 45 := by
          rcases hx c (by simp) with h | h
          · have := of_decide_eq_true h; omega
          · omega
        simp [this]
      · rw [ih x (fun c hc => hx c (by simp [hc])) (by simpa using hf)]
        simp

/-- A whole number's text is read as this number. -/
theorem read_whole (q : Nat) (r : List UInt8) (hr : stopB (r.headD 0) = true) (hq : q ≤ 1000000000000) : readTok (Lib.decDigits q ++ r) = .ok ({ kind := 2, num := q, den := 1 }, (Lib.decDigits q).length) := by
  obtain ⟨s1, s2, s3, s4, s5, s6⟩ := stop_parts hr
  have s2' := s2
  have s6' := s6
  generalize hc0 : r.headD 0 = c0 at s1 s2 s3 s4 s5 s6
  have hd := dec_digs q
  have hne : Lib.decDigits q ≠ [] := by rw [Lib.decDigits]; split <;> simp
  have hpos : 0 < (Lib.decDigits q).length := List.length_pos_iff.2 hne
  have h1 : dateForm (Lib.decDigits q ++ r) = false := form_no _ _ _ (fun c hc => .inl (hd c hc)) s2' s6' (by simp)
  have hhead : (Lib.decDigits q ++ r).headD 0 = (Lib.decDigits q).headD 0 := by
    cases h : Lib.decDigits q with
    | nil => exact absurd h hne
    | cons c x => rfl
  have h2 : isDig ((Lib.decDigits q ++ r).headD 0) = true := by
    rw [hhead]
    cases h : Lib.decDigits q with
    | nil => exact absurd h hne
    | cons c x => rw [h] at hd; exact hd c (by simp)
  have hdg : digs (Lib.decDigits q ++ r) = (Lib.decDigits q).length := lead_append _ _ _ hd s2'
  have hf : hasFrac (Lib.decDigits q ++ r) = false := by
    unfold hasFrac
    rw [hdg, getD_append, hc0]
    simp [s4]
  have hfr : frac (Lib.decDigits q ++ r) = 0 := by unfold frac; rw [hf]; rfl
  have hen : numEnd (Lib.decDigits q ++ r) = (Lib.decDigits q).length := by unfold numEnd; rw [hf, hdg]; rfl
  have hpc : pct (Lib.decDigits q ++ r) = false := by unfold pct; rw [hen, getD_append, hc0]; simp [s5]
  have hln : numLen (Lib.decDigits q ++ r) = (Lib.decDigits q).length := by unfold numLen; rw [hpc, hen]; rfl
  have hbad : badNum (Lib.decDigits q ++ r) = false := by
    unfold badNum
    rw [hdg, hfr, hln, getD_append, hc0, s1]
    have e : (Lib.decDigits q ++ r).getD 0 0 = (Lib.decDigits q).getD 0 0 := by
      rw [List.getD_eq_getElem?_getD, List.getElem?_append_left hpos, ← List.getD_eq_getElem?_getD]
    rw [e]
    by_cases h : 1 < (Lib.decDigits q).length
    · have := dec_head q h
      simp only [List.getD_eq_getElem?_getD] at this ⊢
      simp [this, s3]
    · simp [h, s3]
  have hN : numN (Lib.decDigits q ++ r) = q := by
    unfold numN
    rw [hdg, hfr, List.take_zero, List.append_nil, List.take_left', dec_val]
    rfl
  have hD : numD (Lib.decDigits q ++ r) = 1 := by unfold numD den0; rw [hpc, hfr]; rfl
  have hnum : readNum (Lib.decDigits q ++ r) = .ok (q, 1, (Lib.decDigits q).length) := by
    unfold readNum
    rw [hbad, hN, hD, newR_eq q 1 q 1 (by omega) (by omega) (Nat.gcd_one_right q) rfl hq (by omega), hln]
    rfl
  unfold readTok
  rw [h1, h2, hnum]
  rfl

/-- A text with a point is read as a number. -/
theorem read_point (q : Nat) (f : List UInt8) (a b : Nat) (r : List UInt8) (hr : stopB (r.headD 0) = true) (hf : ∀ c ∈ f, isDig c = true) (hf1 : 0 < f.length) (hf6 : f.length ≤ 6)
    (hb : 0 < b) (hg : Nat.gcd a b = 1) (he : (q * 10 ^ f.length + val f) * b = a * 10 ^ f.length) (ha : a ≤ 1000000000000) (hb2 : b ≤ 1000000) :
    readTok ((Lib.decDigits q ++ [46] ++ f) ++ r) = .ok ({ kind := 2, num := a, den := b }, (Lib.decDigits q ++ [46] ++ f).length) := by
  obtain ⟨s1, s2, s3, s4, s5, s6⟩ := stop_parts hr
  have s2' := s2
  have s6' := s6
  generalize hc0 : r.headD 0 = c0 at s1 s2 s3 s4 s5 s6
  have hd := dec_digs q
  have hne : Lib.decDigits q ≠ [] := by rw [Lib.decDigits]; split <;> simp
  have hpos : 0 < (Lib.decDigits q).length := List.length_pos_iff.2 hne
  generalize hl : (Lib.decDigits q ++ [46] ++ f) ++ r = l
  have e1 : l = Lib.decDigits q ++ (46 :: (f ++ r)) := by rw [← hl]; simp
  have h1 : dateForm l = false := by
    rw [← hl]
    refine form_no _ _ _ (fun c hc => ?_) s2' s6' (by simp)
    rw [List.mem_append, List.mem_append] at hc
    rcases hc with (hc | hc) | hc
    · exact .inl (hd c hc)
    · simp at hc; subst hc; exact .inr rfl
    · exact .inl (hf c hc)
  have h2 : isDig (l.headD 0) = true := by
    rw [e1]
    cases h : Lib.decDigits q with
    | nil => exact absurd h hne
    | cons c x => rw [h] at hd; exact hd c (by simp)
  have hdg : digs l = (Lib.decDigits q).length := by rw [e1]; exact lead_append _ _ _ hd rfl
  have hdrop : l.drop (digs l + 1) = f ++ r := by rw [hdg, e1, ← List.drop_drop, List.drop_left']; rfl; rfl
  have hff : hasFrac l = true := by
    unfold hasFrac
    rw [hdg, e1, getD_append, getD_append']
    cases f with
    | nil => simp at hf1
    | cons c f => simp [hf c (by simp)]
  have hfr : frac l = f.length := by unfold frac; rw [if_pos hff, hdrop]; exact lead_append _ _ _ hf s2'
  have hen : numEnd l = (Lib.decDigits q ++ [46] ++ f).length := by unfold numEnd; rw [if_pos hff, hdg, hfr]; simp; omega
  have hpc : pct l = false := by unfold pct; rw [hen, ← hl, getD_append, hc0]; simp [s5]
  have hln : numLen l = (Lib.decDigits q ++ [46] ++ f).length := by unfold numLen; rw [hpc, hen]; rfl
  have hmo : most l = 6 := by unfold most; rw [hpc]; rfl
  have hbad : badNum l = false := by
    unfold badNum
    rw [hfr, hmo, hln]
    have e2 : l.getD (Lib.decDigits q ++ [46] ++ f).length 0 = r.headD 0 := by rw [← hl, getD_append]
    rw [e2, hc0, s1, hdg]
    have e : l.getD 0 0 = (Lib.decDigits q).getD 0 0 := by
      rw [e1, List.getD_eq_getElem?_getD, List.getElem?_append_left hpos, ← List.getD_eq_getElem?_getD]
    rw [e]
    by_cases h : 1 < (Lib.decDigits q).length
    · have := dec_head q h
      simp only [List.getD_eq_getElem?_getD] at this ⊢
      simp [this, s3, hf6]
    · simp [h, s3, hf6]
  have hN : numN l = q * 10 ^ f.length + val f := by
    unfold numN
    rw [hdrop, hfr, hdg, List.take_left', e1, List.take_left', val_append, dec_val]
    · rfl
    · rfl
  have hD : numD l = 10 ^ f.length := by unfold numD den0; rw [hpc, hfr]; simp
  have hnum : readNum l = .ok (a, b, (Lib.decDigits q ++ [46] ++ f).length) := by
    unfold readNum
    rw [hbad, hN, hD, newR_eq _ _ a b hb (Nat.pow_pos (by omega)) hg he ha hb2, hln]
    rfl
  unfold readTok
  rw [h1, h2, hnum]
  rfl
end Tk
end Go.Proofs.YtpdbkbadjgellaaDoor

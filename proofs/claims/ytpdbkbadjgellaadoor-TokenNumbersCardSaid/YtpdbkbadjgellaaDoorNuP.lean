/-
  Plain laws: the text of a decimal number, read back.
-/
import Derived.Test.YtpdbkbadjgellaaDoorNtP
namespace Go.Proofs.YtpdbkbadjgellaaDoor

theorem numText_shape (a b : Int) (h : isDec a b = true) : (b = 1 ∧ numText a b = Lib.decDigits a.toNat) ∨
    ∃ f : List UInt8, numText a b = Lib.decDigits (a / b).toNat ++ [46] ++ f ∧ 0 < f.length ∧ f.length ≤ 6 ∧ (∀ c ∈ f, Tk.isDig c = true) ∧ f.getLast? ≠ some 48 ∧
      ((a / b).toNat * 10 ^ f.length + Tk.val f) * b.toNat = a.toNat * 10 ^ f.length := by
  obtain ⟨h1, h2, h3, h4, h5, h6⟩ := isDec_parts h
  obtain ⟨m1, m2⟩ := mills_bd h
  have hq1 : 0 ≤ a / b := Int.ediv_nonneg h3 (by omega)
  have hbq : 1000000 / b * b = 1000000 := Int.ediv_mul_cancel (Int.dvd_of_emod_eq_zero h5)
  have hab : a / b * b + a % b = a := by have := Int.ediv_mul_add_emod a b; omega
  unfold numText
  rw [if_pos h]
  by_cases hm : mills a b = 0
  · rw [if_pos hm]
    refine .inl ?_
    have hr0 : a % b = 0 := by
      unfold mills at hm
      rcases Int.mul_eq_zero.1 hm with h | h
      · exact h
      · rw [h] at hbq; omega
    have hd : b ∣ a := Int.dvd_of_emod_eq_zero hr0
    have hb1 : b = 1 := by
      have : b.natAbs ∣ a.natAbs := Int.natAbs_dvd_natAbs.2 hd
      rw [Nat.gcd_eq_right this] at h6
      omega
    subst hb1
    rw [Tk.itoa_nat _ hq1, Int.ediv_one]
    exact ⟨rfl, rfl⟩
  · rw [if_neg hm]
    refine .inr ?_
    obtain ⟨m, hmm⟩ := Int.eq_ofNat_of_zero_le m1
    rw [hmm, Tk.itoa_nat _ hq1, Tk.itoa_nat _ (show (0 : Int) ≤ 1000000 + (m : Int) by omega), show (1000000 + (m : Int)).toNat = 1000000 + m by omega]
    obtain ⟨D, d1, d2, d3, d4⟩ := Tk.six m (by omega)
    rw [d1, List.drop_succ_cons, List.drop_zero]
    obtain ⟨z, t1, t2⟩ := Tk.trim_spec D
    generalize hf : Lib.trimRightB D 48 = f at *
    have hval : Tk.val f * 10 ^ z = m := by
      have := congrArg Tk.val t1
      rw [Tk.val_append, Tk.val_zeros, List.length_replicate, d3] at this
      omega
    have hlen : f.length + z = 6 := by
      have := congrArg List.length t1
      rw [List.length_append, List.length_replicate, d2] at this
      omega
    have hne : f ≠ [] := by
      rintro rfl
      have e0 : Tk.val [] = 0 := rfl
      rw [e0] at hval
      omega
    refine ⟨f, rfl, List.length_pos_iff.2 hne, by omega, ?_, ?_, ?_⟩
    · intro c hc
      refine d4 c ?_
      rw [t1]
      exact List.mem_append_left _ hc
    · rcases t2 with t2 | t2
      · exact absurd t2 hne
      · exact t2
    · have hz : 0 < 10 ^ z := Nat.pow_pos (by omega)
      apply Nat.eq_of_mul_eq_mul_right hz
      obtain ⟨q, hq⟩ := Int.eq_ofNat_of_zero_le hq1
      obtain ⟨nb, hnb⟩ := Int.eq_ofNat_of_zero_le (show 0 ≤ b by omega)
      obtain ⟨na, hna⟩ := Int.eq_ofNat_of_zero_le h3
      have hmod : (a % b) * 1000000 = (m : Int) * b := by
        rw [← hmm]
        unfold mills
        rw [Int.mul_assoc, hbq]
      have key : ((q * 1000000 + m) * nb : Nat) = na * 1000000 := by
        have : ((q : Int) * 1000000 + m) * b = a * 1000000 := by
          rw [Int.add_mul, ← hmod, Int.mul_right_comm, ← Int.add_mul, ← hq, hab]
        rw [hnb, hna] at this
        apply Int.ofNat.inj
        show (((q * 1000000 + m) * nb : Nat) : Int) = ((na * 1000000 : Nat) : Int)
        rw [Int.natCast_mul, Int.natCast_add, Int.natCast_mul, Int.natCast_mul]
        exact this
      have hp : 10 ^ f.length * 10 ^ z = 1000000 := by rw [← Nat.pow_add, hlen]
      rw [hq, hnb, hna, Int.toNat_natCast, Int.toNat_natCast, Int.toNat_natCast]
      rw [Nat.mul_assoc na, hp, Nat.mul_right_comm, Nat.add_mul, Nat.mul_assoc q, hp, hval]
      exact key

theorem read_numText (a b : Int) (r : List UInt8) (h : isDec a b = true) (hr : Tk.stopB (r.headD 0) = true) : Tk.readTok (numText a b ++ r) = .ok ({ kind := 2, num := a, den := b }, (numText a b).length) := by
  obtain ⟨h1, h2, h3, h4, h5, h6⟩ := isDec_parts h
  have ea : ((a.toNat : Nat) : Int) = a := by omega
  have eb : ((b.toNat : Nat) : Int) = b := by omega
  rcases numText_shape a b h with ⟨hb, ht⟩ | ⟨f, ht, f1, f2, f3, _, f5⟩
  · subst hb
    rw [ht, Tk.read_whole a.toNat r hr (by omega), ea]
  · rw [ht, Tk.read_point (a / b).toNat f a.toNat b.toNat r hr f3 f1 f2 (by omega) (by rw [← h6]; congr 1 <;> omega) f5 (by omega) (by omega), ea, eb]

theorem numText_last (a b : Int) (h : isDec a b = true) : numText a b ≠ [] ∧ (numText a b).getLast? ≠ some 46 ∧ (b = 1 ∨ (numText a b).getLast? ≠ some 48) := by
  rcases numText_shape a b h with ⟨hb, ht⟩ | ⟨f, ht, f1, f2, f3, f4, _⟩
  · rw [ht]
    have hne : Lib.decDigits a.toNat ≠ [] := by rw [Lib.decDigits]; split <;> simp
    refine ⟨hne, ?_, .inl hb⟩
    intro e
    have := Tk.dec_digs a.toNat 46 (List.mem_of_getLast? e)
    simp [Tk.isDig] at this
  · rw [ht]
    have hne : f ≠ [] := List.length_pos_iff.1 f1
    have hl : (Lib.decDigits (a / b).toNat ++ [46] ++ f).getLast? = f.getLast? := by
      rw [List.getLast?_append]
      cases hg : f.getLast? with
      | none => exact absurd (List.getLast?_eq_none_iff.1 hg) hne
      | some c => rfl
    rw [hl]
    refine ⟨by simp, ?_, .inr f4⟩
    intro e
    have := f3 46 (List.mem_of_getLast? e)
    simp [Tk.isDig] at this

/-- A number's text alone: one token. -/
theorem scan_numText (a b : Int) (h : isDec a b = true) : Tk.scan (numText a b) = .ok [{ kind := 2, num := a, den := b, place := 0 }] := by
  have hl := numText_len a b
  have hr := read_numText a b [] h rfl
  rw [List.append_nil] at hr
  have hpos : 0 < (numText a b).length := List.length_pos_iff.2 (numText_last a b h).1
  have hsk : Tk.skipN false (numText a b) = 0 := by
    have key : ∀ l : List UInt8, (∃ c r, l = c :: r ∧ Tk.isDig c = true) → Tk.skipN false l = 0 := by
      rintro l ⟨c, r, rfl, hc⟩
      have := of_decide_eq_true hc
      rw [Tk.skipN, if_neg (by simp [Tk.isBlank]; omega), if_neg (by omega)]
    apply key
    have hd : ∀ q : Nat, ∃ c r, Lib.decDigits q = c :: r ∧ Tk.isDig c = true := by
      intro q
      have := Tk.dec_digs q
      cases hq : Lib.decDigits q with
      | nil => rw [Lib.decDigits] at hq; split at hq <;> simp at hq
      | cons c r => rw [hq] at this; exact ⟨c, r, rfl, this c (by simp)⟩
    rcases numText_shape a b h with ⟨_, ht⟩ | ⟨f, ht, _⟩
    · rw [ht]; exact hd _
    · obtain ⟨c, r, h1, h2⟩ := hd (a / b).toNat
      rw [ht, h1]
      exact ⟨c, _, rfl, h2⟩
  unfold Tk.scan
  rw [if_neg (by omega), Tk.scanAt_ok 0 _ hsk hpos _ _ hr, List.drop_length, Nat.zero_add, Tk.scanAt_end]
  rfl
end Go.Proofs.YtpdbkbadjgellaaDoor

/-
  Plain laws on the numbers in texts. No program in sight.
  Plain laws on dates. No program in sight.
  The walk of package token's skip.
  The walks of package ratio: gcd, magnitude, fit, New, Valid.
-/
import Derived.Test.YtpdbkbadjgellaaGreatDoorZ00
import Derived.Lib.ItoaNum
import Derived.Deep.QuietTactic
import Derived.BigQuiet
import Derived.IntWalk
namespace Go.Proofs.YtpdbkbadjgellaaGreatDoor
namespace Tk

theorem val_append (a b : List UInt8) : val (a ++ b) = val a * 10 ^ b.length + val b := by
  have key : ∀ (b : List UInt8) (n : Nat), b.foldl (fun n c => n * 10 + (c.toNat - 48)) n = n * 10 ^ b.length + b.foldl (fun n c => n * 10 + (c.toNat - 48)) 0 := by
    intro b
    induction b with
    | nil => intro n; simp
    | cons c r ih =>
      intro n
      simp only [List.foldl_cons, List.length_cons]
      rw [ih (n * 10 + (c.toNat - 48)), ih (0 * 10 + (c.toNat - 48)), Nat.pow_succ, Nat.add_mul, Nat.mul_assoc, Nat.mul_comm 10 (10 ^ r.length)]
      simp
      omega
  unfold val
  rw [List.foldl_append]
  exact key b _

/-- The digits among the first k bytes of a number. -/
def pre (l : List UInt8) (k : Nat) : List UInt8 := l.take (min k (digs l)) ++ (l.drop (digs l + 1)).take (k - (digs l + 1))

theorem pre_zero (l : List UInt8) : pre l 0 = [] := by simp [pre]
theorem pre_end (l : List UInt8) : pre l (numEnd l) = l.take (digs l) ++ (l.drop (digs l + 1)).take (frac l) := by
  unfold pre numEnd
  split
  · rw [Nat.min_eq_right (by omega), show digs l + (1 + frac l) - (digs l + 1) = frac l by omega]
  · rename_i h
    rw [Nat.min_self, show digs l - (digs l + 1) = 0 by omega]
    unfold frac
    rw [if_neg h]
theorem numN_eq (l : List UInt8) : numN l = val (pre l (numEnd l)) := by rw [pre_end]; rfl
theorem pre_point (l : List UInt8) : pre l (digs l + 1) = pre l (digs l) := by
  unfold pre
  rw [Nat.min_eq_right (by omega), Nat.min_self, Nat.sub_self, show digs l - (digs l + 1) = 0 by omega]
theorem pre_whole (l : List UInt8) (k : Nat) (hk : k < digs l) (h : k < l.length) : pre l (k + 1) = pre l k ++ [l[k]] := by
  unfold pre
  rw [Nat.min_eq_left (by omega), Nat.min_eq_left (by omega), show k + 1 - (digs l + 1) = 0 by omega, show k - (digs l + 1) = 0 by omega, List.take_succ_eq_append_getElem h]
  simp
theorem pre_part (l : List UInt8) (k : Nat) (hk : digs l + 1 ≤ k) (h : k < l.length) : pre l (k + 1) = pre l k ++ [l[k]] := by
  unfold pre
  rw [Nat.min_eq_right (by omega), Nat.min_eq_right (by omega), show k + 1 - (digs l + 1) = (k - (digs l + 1)) + 1 by omega, List.take_succ_eq_append_getElem (by simp; omega), List.append_assoc]
  congr 3
  rw [List.getElem_drop]
  congr 1
  omega

/-- A byte of a number is its point or a digit. -/
theorem num_byte (l : List UInt8) (k : Nat) (hk : k < numEnd l) (h : k < l.length) :
    (k = digs l ∧ l[k].toNat = 46 ∧ pre l (k + 1) = pre l k) ∨ (isDig l[k] = true ∧ pre l (k + 1) = pre l k ++ [l[k]]) := by
  rcases Nat.lt_trichotomy k (digs l) with hlt | heq | hgt
  · exact .inr ⟨lead_all isDig l k hlt h, pre_whole l k hlt h⟩
  · have hf : hasFrac l = true := by
      unfold numEnd at hk
      split at hk
      · assumption
      · omega
    refine .inl ⟨heq, ?_, by rw [heq]; exact pre_point l⟩
    unfold hasFrac at hf
    rw [Bool.and_eq_true] at hf
    have := of_decide_eq_true hf.1
    rw [List.getD_eq_getElem?_getD, ← heq, List.getElem?_eq_getElem h] at this
    simpa using this
  · have hf : hasFrac l = true := by
      unfold numEnd at hk
      split at hk
      · assumption
      · omega
    refine .inr ⟨?_, pre_part l k (by omega) h⟩
    have hfr : frac l = lead isDig (l.drop (digs l + 1)) := by unfold frac; rw [if_pos hf]; rfl
    have hn : numEnd l = digs l + (1 + frac l) := by unfold numEnd; rw [if_pos hf]
    have := lead_all isDig (l.drop (digs l + 1)) (k - (digs l + 1)) (by omega) (by simp; omega)
    rw [List.getElem_drop] at this
    have e : digs l + 1 + (k - (digs l + 1)) = k := by omega
    simpa [e] using this

theorem pre_mono (l : List UInt8) (hl : numEnd l ≤ l.length) (k j : Nat) (h : k + j ≤ numEnd l) : val (pre l k) ≤ val (pre l (k + j)) := by
  induction j with
  | zero => exact Nat.le_refl _
  | succ j ih =>
    refine Nat.le_trans (ih (by omega)) ?_
    rcases num_byte l (k + j) (by omega) (by omega) with ⟨_, _, e⟩ | ⟨_, e⟩
    · rw [show k + (j + 1) = k + j + 1 by omega, e]; exact Nat.le_refl _
    · rw [show k + (j + 1) = k + j + 1 by omega, e, val_append]; simp; omega

theorem newR_over (n d : Nat) (hd : 1 ≤ d) (hd2 : d ≤ 1000000) (hn : 1000000000000 * 1000000 < n) : newR n d = none := by
  unfold newR
  rw [if_pos]
  refine .inl ?_
  rcases Nat.lt_or_ge 1000000000000 (n / Nat.gcd n d) with h | h
  · exact h
  · exfalso
    have hg : Nat.gcd n d ≤ 1000000 := Nat.le_trans (Nat.gcd_le_right _ hd) hd2
    have he : n / Nat.gcd n d * Nat.gcd n d = n := Nat.div_mul_cancel (Nat.gcd_dvd_left _ _)
    have : n / Nat.gcd n d * Nat.gcd n d ≤ 1000000000000 * 1000000 := Nat.mul_le_mul h hg
    omega

theorem pow_le6 (l : List UInt8) (k : Nat) (hk : k ≤ frac l) (h : frac l ≤ most l) : den0 l * 10 ^ k ≤ 1000000 := by
  unfold most at h
  unfold den0
  split
  · rename_i hp
    rw [if_pos hp] at h
    have : 10 ^ k ≤ 10 ^ 4 := Nat.pow_le_pow_right (by omega) (by omega)
    omega
  · rename_i hp
    rw [if_neg hp] at h
    have : 10 ^ k ≤ 10 ^ 6 := Nat.pow_le_pow_right (by omega) (by omega)
    omega
theorem numD_pos (l : List UInt8) : 1 ≤ numD l := by
  unfold numD den0
  have : 1 ≤ 10 ^ frac l := Nat.pow_pos (by omega)
  split <;> omega

theorem not_bad (l : List UInt8) (h : badNum l = false) : frac l ≤ most l := by
  unfold badNum at h
  rw [Bool.or_eq_false_iff, Bool.or_eq_false_iff] at h
  have := of_decide_eq_false h.1.2
  omega

/-- A numerator that is too great before its last digit. -/
theorem num_over (l : List UInt8) (hb : badNum l = false) (hl : numEnd l ≤ l.length) (k : Nat) (hk : k < numEnd l) (hd : pre l (k + 1) = pre l k ++ [l[k]'(by omega)]) (hn : 100000000000000000 < val (pre l k)) : readNum l = .error 4 := by
  have h1 := pre_mono l hl (k + 1) (numEnd l - (k + 1)) (by omega)
  rw [show k + 1 + (numEnd l - (k + 1)) = numEnd l by omega, hd, val_append, ← numN_eq] at h1
  unfold readNum
  rw [if_neg (by rw [hb]; simp), newR_over _ _ (numD_pos l) (pow_le6 l _ (Nat.le_refl _) (not_bad l hb)) (by simp at h1; omega)]
end Tk
end Go.Proofs.YtpdbkbadjgellaaGreatDoor

namespace Go.Proofs.YtpdbkbadjgellaaGreatDoor
namespace Tk

def yearUp : Nat → Int → Int → Int
  | 0, y, _ => y
  | f + 1, y, day => if begn (y + 1) ≤ day then yearUp f (y + 1) day else y
def yOf (day : Int) : Int := yearUp 300 (1970 + day / 366) day
def monUp : Nat → Int → Int → Int → Int × Int
  | 0, _, m, r => (m, r)
  | f + 1, y, m, r => if mlen y m ≤ r then monUp f y (m + 1) (r - mlen y m) else (m, r)
/-- The year, the month and the day of the month of a day. -/
def mOf (day : Int) : Int := (monUp 12 (yOf day) 1 (day - begn (yOf day))).1
def dOf (day : Int) : Int := (monUp 12 (yOf day) 1 (day - begn (yOf day))).2 + 1

theorem begn_succ (y : Int) : begn (y + 1) = begn y + (if leapB y = true then 366 else 365) := by
  unfold begn leapsN leapB
  by_cases h : y % 4 = 0 ∧ (y % 100 ≠ 0 ∨ y % 400 = 0)
  · rw [if_pos (by simpa using h)]; omega
  · rw [if_neg (by simpa using h)]; omega
theorem cum12 (y : Int) : cumM y 12 = if leapB y = true then 366 else 365 := by
  simp only [cumM]
  by_cases h : leapB y = true <;> simp [mlen, h]
theorem begn_guess (day : Int) (h : 0 ≤ day) : begn (1970 + day / 366) ≤ day := by unfold begn leapsN; omega
theorem begn_2200 : begn 2200 = 84006 := by decide
theorem begn_mono (a b : Int) (h : a ≤ b) : begn a ≤ begn b := by unfold begn leapsN; omega

theorem yearUp_stop (f : Nat) (y day : Int) (h : day < begn (y + 1)) : yearUp f y day = y := by
  cases f with
  | zero => rfl
  | succ f => rw [yearUp, if_neg (by omega)]
theorem monUp_stop (f : Nat) (y m r : Int) (h : r < mlen y m) : monUp f y m r = (m, r) := by
  cases f with
  | zero => rfl
  | succ f => rw [monUp, if_neg (by omega)]

theorem mlen_lo (y m : Int) : 28 ≤ mlen y m ∧ mlen y m ≤ 31 := by unfold mlen; repeat' split <;> omega
theorem cum_lo (y : Int) (k : Nat) : 0 ≤ cumM y k ∧ cumM y k ≤ 31 * k := by
  induction k with
  | zero => simp [cumM]
  | succ k ih => have := mlen_lo y (k + 1); simp only [cumM]; omega
theorem cum_le (y : Int) (a b : Nat) (h : a ≤ b) : cumM y a ≤ cumM y b := by
  induction b with
  | zero => rw [show a = 0 by omega]; exact Int.le_refl _
  | succ b ih =>
    rcases Nat.lt_or_ge a (b + 1) with h' | h'
    · have := ih (by omega)
      have := mlen_lo y (b + 1)
      simp only [cumM]
      omega
    · rw [show a = b + 1 by omega]; exact Int.le_refl _

theorem cum_succ (y : Int) (k : Nat) : cumM y (k + 1) = cumM y k + mlen y (k + 1) := rfl

/-- The years' loop. -/
theorem yearUp_spec (f : Nat) (y day : Int) (h0 : begn y ≤ day) (h1 : day < begn (y + f + 1)) : begn (yearUp f y day) ≤ day ∧ day < begn (yearUp f y day + 1) ∧ y ≤ yearUp f y day := by
  induction f generalizing y with
  | zero => rw [yearUp]; exact ⟨h0, by simpa using h1, Int.le_refl _⟩
  | succ f ih =>
    rw [yearUp]
    split
    · rename_i h
      have := ih (y + 1) h (by rw [show y + 1 + (f : Int) + 1 = y + ((f + 1 : Nat) : Int) + 1 by omega]; exact h1)
      omega
    · omega
theorem yOf_spec (day : Int) (h0 : 0 ≤ day) (h1 : day ≤ 84005) : begn (yOf day) ≤ day ∧ day < begn (yOf day + 1) ∧ 1970 ≤ yOf day ∧ yOf day ≤ 2199 := by
  have hg := begn_guess day h0
  have h := yearUp_spec 300 (1970 + day / 366) day hg (by
    have := begn_mono 2200 (1970 + day / 366 + (300 : Nat) + 1) (by omega)
    rw [begn_2200] at this
    omega)
  refine ⟨h.1, h.2.1, ?_, ?_⟩
  · have := h.2.2; unfold yOf; omega
  · rcases Int.lt_or_le (yOf day) 2200 with h' | h'
    · omega
    · have := begn_mono 2200 (yOf day) h'
      rw [begn_2200] at this
      have := h.1
      unfold yOf at *
      omega

/-- The months' loop. -/
theorem monUp_spec (f : Nat) (y : Int) (k : Nat) (r : Int) (hk : k + f = 12) (h0 : 0 ≤ r) (h1 : r + cumM y k < cumM y 12) :
    ∃ m : Nat, 1 ≤ m ∧ m ≤ 12 ∧ (monUp f y (k + 1) r).1 = m ∧ 0 ≤ (monUp f y (k + 1) r).2 ∧ (monUp f y (k + 1) r).2 < mlen y m ∧ (monUp f y (k + 1) r).2 + cumM y (m - 1) = r + cumM y k := by
  induction f generalizing k r with
  | zero => rw [show k = 12 by omega] at h1; omega
  | succ f ih =>
    rw [monUp]
    split
    · rename_i h
      obtain ⟨m, h2, h3, h4, h5, h6, h7⟩ := ih (k + 1) (r - mlen y (k + 1)) (by omega) (by omega) (by rw [cum_succ]; omega)
      have e : ((k + 1 : Nat) : Int) + 1 = (k : Int) + 1 + 1 := by omega
      rw [e] at h4 h5 h6 h7
      refine ⟨m, h2, h3, h4, h5, h6, ?_⟩
      rw [h7]
      simp only [cumM]
      omega
    · rename_i h
      exact ⟨k + 1, by omega, by omega, by simp, h0, by simp; omega, by simp⟩

theorem date_spec (day : Int) (h0 : 0 ≤ day) (h1 : day ≤ 84005) : dayOK (yOf day) (mOf day) (dOf day) = true ∧ dayNo (yOf day) (mOf day) (dOf day) = day := by
  obtain ⟨a, b, c, d⟩ := yOf_spec day h0 h1
  have hs := begn_succ (yOf day)
  rw [← cum12] at hs
  obtain ⟨m, h2, h3, h4, h5, h6, h7⟩ := monUp_spec 12 (yOf day) 0 (day - begn (yOf day)) rfl (by omega) (by simp only [show cumM (yOf day) 0 = 0 from rfl]; omega)
  simp only [show ((0 : Nat) : Int) + 1 = 1 from rfl, show cumM (yOf day) 0 = 0 from rfl] at h4 h5 h6 h7
  have em : mOf day = m := h4
  have ed : dOf day = (monUp 12 (yOf day) 1 (day - begn (yOf day))).2 + 1 := rfl
  refine ⟨?_, ?_⟩
  · unfold dayOK
    rw [em, ed]
    simp
    omega
  · unfold dayNo
    rw [em, ed, show ((m : Int) - 1).toNat = m - 1 by omega]
    omega

/-- A number with two digits. -/
def two (n : Int) : List UInt8 := if n < 10 then 48 :: Lib.itoa n else Lib.itoa n
/-- The text of a day. -/
def dateText (day : Int) : List UInt8 := if 0 ≤ day ∧ day ≤ 84005 then Lib.itoa (yOf day) ++ [45] ++ two (mOf day) ++ [45] ++ two (dOf day) else []
end Tk
end Go.Proofs.YtpdbkbadjgellaaGreatDoor

namespace Go.Proofs.YtpdbkbadjgellaaGreatDoor
open Go.RowKit
attribute [local go_sem] ba_get ba_extract take_rest

theorem drop_cons (l : List UInt8) (k : Nat) (h : k < l.length) : l.drop k = l[k] :: l.drop (k + 1) := List.drop_eq_getElem_cons h
theorem skip_blank (l : List UInt8) (k : Nat) (h : k < l.length) (hb : Tk.isBlank l[k] = true) : k + Tk.skipN false (l.drop k) = (k + 1) + Tk.skipN false (l.drop (k + 1)) := by
  rw [drop_cons l k h, Tk.skipN, if_pos hb]; omega
theorem skip_hash (l : List UInt8) (k : Nat) (h : k < l.length) (hb : l[k].toNat = 35) : k + Tk.skipN false (l.drop k) = k + Tk.skipN true (l.drop k) := by
  rw [drop_cons l k h, Tk.skipN, Tk.skipN, if_neg (by simp [Tk.isBlank, hb]), if_pos hb, if_neg (by omega)]
theorem skip_else (l : List UInt8) (k : Nat) (h : k < l.length) (hb : Tk.isBlank l[k] = false) (hh : l[k].toNat ≠ 35) : k + Tk.skipN false (l.drop k) = k := by
  rw [drop_cons l k h, Tk.skipN, if_neg (by simp [hb]), if_neg hh]; rfl
theorem skip_end (b : Bool) (l : List UInt8) (k : Nat) (h : l.length ≤ k) : k + Tk.skipN b (l.drop k) = k := by
  rw [List.drop_of_length_le h, Tk.skipN]; rfl
theorem skip_in (l : List UInt8) (k : Nat) (h : k < l.length) (hb : l[k].toNat ≠ 10) : k + Tk.skipN true (l.drop k) = (k + 1) + Tk.skipN true (l.drop (k + 1)) := by
  rw [drop_cons l k h, Tk.skipN, if_neg hb]; omega
theorem skip_out (l : List UInt8) (k : Nat) (h : k < l.length) (hb : l[k].toNat = 10) : k + Tk.skipN true (l.drop k) = k + Tk.skipN false (l.drop k) := by
  rw [drop_cons l k h, Tk.skipN, Tk.skipN, if_pos hb, if_pos (by simp [Tk.isBlank, hb])]

set_option maxHeartbeats 1000000 in
theorem skip_any (l : List UInt8) (a : Nat) (w : World) (hs : l.length ≤ maxLen) (ha : a ≤ l.length) :
    Calls Tryz.prog 53 #[.string ⟨l.toArray⟩, .int .i64 a] w fun e w' => e = .returned (.int .i64 ((a + Tk.skipN false (l.drop a) : Nat) : Int)) ∧ w = w' := by
  unfold maxLen at hs
  generalize hT : a + Tk.skipN false (l.drop a) = T
  have HT := Lib.hid hT
  clear hT
  go_enter Tryz.func53, Tryz.ntmps53
  go_wp2_with fail
  go_loop [1] (fun n => ∃ k : Nat, k ≤ l.length ∧ n = .int .i64 k ∧ Hid (k + Tk.skipN false (l.drop k) = T)) (fun i => l.length - (intOf i).toNat)
  case atStart => exact ⟨a, ha, rfl, HT⟩
  case round =>
    obtain ⟨k, hk, rfl, HA⟩ := hrel
    by_cases hlt : k < l.length
    · by_cases hb : Tk.isBlank l[k] = true
      · have HN : Hid ((k + 1) + Tk.skipN false (l.drop (k + 1)) = T) := by show _ = _; rw [← skip_blank l k hlt hb]; exact HA.out
        have hb' := of_decide_eq_true hb
        clear hb
        rcases hb' with h | h | h | h
        · have g1 : ((l[k].toNat : Int) == 32) = true := by simp; omega
          clear h
          go_wp2_with fail
          go_round
          case rel => exact ⟨k + 1, by omega, by go_num, HN⟩
          case measure => simp [intOf]; omega
        · have g1 : ((l[k].toNat : Int) == 32) = false := by simp; omega
          have g2 : ((l[k].toNat : Int) == 9) = true := by simp; omega
          clear h
          go_wp2_with fail
          go_round
          case rel => exact ⟨k + 1, by omega, by go_num, HN⟩
          case measure => simp [intOf]; omega
        · have g1 : ((l[k].toNat : Int) == 32) = false := by simp; omega
          have g2 : ((l[k].toNat : Int) == 9) = false := by simp; omega
          have g3 : ((l[k].toNat : Int) == 10) = true := by simp; omega
          clear h
          go_wp2_with fail
          go_round
          case rel => exact ⟨k + 1, by omega, by go_num, HN⟩
          case measure => simp [intOf]; omega
        · have g1 : ((l[k].toNat : Int) == 32) = false := by simp; omega
          have g2 : ((l[k].toNat : Int) == 9) = false := by simp; omega
          have g3 : ((l[k].toNat : Int) == 10) = false := by simp; omega
          have g4 : ((l[k].toNat : Int) == 13) = true := by simp; omega
          clear h
          go_wp2_with fail
          go_round
          case rel => exact ⟨k + 1, by omega, by go_num, HN⟩
          case measure => simp [intOf]; omega
      · have hb : Tk.isBlank l[k] = false := by simpa using hb
        have hb' := of_decide_eq_false hb
        have g1 : ((l[k].toNat : Int) == 32) = false := by simp; omega
        have g2 : ((l[k].toNat : Int) == 9) = false := by simp; omega
        have g3 : ((l[k].toNat : Int) == 10) = false := by simp; omega
        have g4 : ((l[k].toNat : Int) == 13) = false := by simp; omega
        clear hb'
        by_cases hh : l[k].toNat = 35
        · have HN : Hid (k + Tk.skipN true (l.drop k) = T) := by show _ = _; rw [← skip_hash l k hlt hh]; exact HA.out
          have g5 : ((l[k].toNat : Int) == 35) = true := by simp; omega
          have HH := Lib.hid hh
          clear hb hh
          go_wp2_with fail
          clear g1 g2 g3 g4 g5
          go_loop [1] (fun n => ∃ j : Nat, k ≤ j ∧ j ≤ l.length ∧ n = .int .i64 j ∧ Hid (j + Tk.skipN true (l.drop j) = T)) (fun i => l.length - (intOf i).toNat)
          case atStart => exact ⟨k, Nat.le_refl _, hk, rfl, HN⟩
          case round =>
            obtain ⟨j, hj1, hj2, rfl, HJ⟩ := hrel
            by_cases hjl : j < l.length
            · by_cases hn : l[j].toNat = 10
              · have HM : Hid (j + Tk.skipN false (l.drop j) = T) := by show _ = _; rw [← skip_out l j hjl hn]; exact HJ.out
                have hjk : k < j := by
                  rcases Nat.lt_or_ge k j with h | h
                  · exact h
                  · have : j = k := by omega
                    subst this
                    have := HH.out
                    omega
                have g6 : ((l[j].toNat : Int) != 10) = false := by simp; omega
                clear hn
                go_wp2_with fail
                go_round
                case rel => exact ⟨j, by omega, rfl, HM⟩
                case measure => simp [intOf]; omega
              · have HM : Hid ((j + 1) + Tk.skipN true (l.drop (j + 1)) = T) := by show _ = _; rw [← skip_in l j hjl hn]; exact HJ.out
                have g6 : ((l[j].toNat : Int) != 10) = true := by simp; omega
                clear hn
                go_wp2_with fail
                go_round
                case rel => exact ⟨j + 1, by omega, by omega, by go_num, HM⟩
                case measure => simp [intOf]; omega
            · have HM : Hid (j + Tk.skipN false (l.drop j) = T) := by
                show _ = _
                have := HJ.out
                rw [skip_end _ _ _ (by omega)] at this ⊢
                exact this
              go_wp2_with fail
              go_round
              case rel => exact ⟨j, by omega, rfl, HM⟩
              case measure => simp [intOf]; omega
        · have HN : Hid (k = T) := by show _ = _; rw [← HA.out]; exact (skip_else l k hlt hb hh).symm
          have g5 : ((l[k].toNat : Int) == 35) = false := by simp; omega
          clear hb hh
          go_wp2_with fail
          go_ret
          exact ⟨ret_int (by rw [HN.out]), rfl⟩
    · have HN : Hid (k = T) := by show _ = _; rw [← HA.out]; exact (skip_end false l k (by omega)).symm
      go_wp2_with fail
      go_ret
      exact ⟨ret_int (by rw [HN.out]), rfl⟩
end Go.Proofs.YtpdbkbadjgellaaGreatDoor

namespace Go.Proofs.YtpdbkbadjgellaaGreatDoor
open Go.RowKit

set_option maxHeartbeats 1000000 in
theorem gcd_any (a b : Nat) (w : World) (ha : a ≤ 4000000000000000000) (hb : b ≤ 4000000000000000000) :
    Calls Tryz.prog 93 #[.int .u64 a, .int .u64 b] w fun e w' => e = .returned (.int .u64 (Nat.gcd a b)) ∧ ∃ n, w' = w.drewN n := by
  generalize hG : Nat.gcd a b = G
  have HG := Lib.hid hG
  clear hG
  go_enter Tryz.func93, Tryz.ntmps93
  go_wp2_with fail
  go_loopw [0, 1] (fun p q wr => ∃ x y n : Nat, x ≤ 4000000000000000000 ∧ y ≤ 4000000000000000000 ∧ p = .int .u64 x ∧ q = .int .u64 y ∧ Hid (Nat.gcd x y = G) ∧ wr = w.drewN n) (fun _ q _ => (intOf q).toNat)
  case atStart => exact ⟨a, b, 0, ha, hb, rfl, rfl, HG, rfl⟩
  case round =>
    obtain ⟨x, y, n, hx, hy, rfl, rfl, HX, rfl⟩ := hrel
    by_cases hy0 : y = 0
    · subst hy0
      go_wp2_with fail
      go_ret
      exact ⟨ret_int (by rw [← HX.out]; simp), n, rfl⟩
    · have g1 : ((y : Int) != 0) = true := by simp; omega
      have g2 : ((y : Int) == 0) = false := by simp; omega
      have hyp : 1 ≤ y := by omega
      have hm := Nat.mod_lt x hyp
      have HN : Hid (Nat.gcd y (x % y) = G) := by
        show _ = _
        rw [← HX.out, Nat.gcd_comm x y, Nat.gcd_rec y x, Nat.gcd_comm]
      clear hy0
      go_wp2_with fail
      go_quiet (fail)
      go_wp2_with fail
      go_roundw
      case rel => exact ⟨y, x % y, _, by omega, by omega, rfl, by go_num, HN, World.drewN_drewN _ _ _⟩
      case measure => simp [intOf]; omega

/-- What New gives for a numerator's and a denominator's magnitudes: the numerator, the denominator, the error. -/
def fitR (neg : Bool) (n d : Nat) : Int × Int × Int :=
  match Tk.newR n d with
  | none => (0, 0, 4)
  | some (a, b) => (if neg = true then -(a : Int) else a, b, 0)

/-- A fraction and an error, as a result. -/
def ratErr (x : Int × Int × Int) : Ending := .returned (.tuple #[.agg #[.int .i64 x.1, .int .i64 x.2.1], .int .i64 x.2.2])

theorem magnitude_any (n : Int) (w : World) (h0 : -4000000000000000000 ≤ n) (h1 : n ≤ 4000000000000000000) :
    Calls Tryz.prog 94 #[.int .i64 n] w fun e w' => e = .returned (.int .u64 (n.natAbs : Nat)) ∧ w = w' := by
  by_cases hn : n < 0
  · go_enter Tryz.func94, Tryz.ntmps94
    go_wp2_with fail
    go_ret
    refine ⟨ret_int ?_, rfl⟩
    simp only [IntKind.wrap_u64]
    omega
  · go_enter Tryz.func94, Tryz.ntmps94
    go_wp2_with fail
    go_ret
    exact ⟨ret_int (by first | omega | (simp only [IntKind.wrap_u64]; omega)), rfl⟩

theorem fit_done {neg : Bool} {n d G q1 q2 : Nat} (HG : Hid (Nat.gcd n d = G)) (h1 : n / G = q1) (h2 : d / G = q2) (hq1 : q1 ≤ 1000000000000) (hq2 : q2 ≤ 1000000) : fitR neg n d = (if neg = true then -(q1 : Int) else q1, (q2 : Int), 0) := by
  have hG := HG.out
  unfold fitR Tk.newR
  rw [hG, h1, h2, if_neg (by omega)]
theorem fit_over {neg : Bool} {n d G q1 q2 : Nat} (HG : Hid (Nat.gcd n d = G)) (h1 : n / G = q1) (h2 : d / G = q2) (hq : 1000000000000 < q1 ∨ 1000000 < q2) : fitR neg n d = (0, 0, 4) := by
  have hG := HG.out
  unfold fitR Tk.newR
  rw [hG, h1, h2, if_pos hq]

set_option maxHeartbeats 1000000 in
theorem fit_any (neg : Bool) (n d : Nat) (w : World) (hn : n ≤ 4000000000000000000) (hd0 : 1 ≤ d) (hd : d ≤ 4000000000000000000) :
    Calls Tryz.prog 130 #[.bool neg, .int .u64 n, .int .u64 d] w fun e w' => e = ratErr (fitR neg n d) ∧ Below w.heap.size w w' := by
  have hg0 : 1 ≤ Nat.gcd n d := Nat.gcd_pos_of_pos_right _ hd0
  generalize hG : Nat.gcd n d = G at *
  have HG := Lib.hid hG
  clear hG
  obtain ⟨q1, h1⟩ : ∃ q, n / G = q := ⟨_, rfl⟩
  obtain ⟨q2, h2⟩ : ∃ q, d / G = q := ⟨_, rfl⟩
  have b1 : q1 ≤ 4000000000000000000 := by rw [← h1]; exact Nat.le_trans (Nat.div_le_self _ _) hn
  have b2 : q2 ≤ 4000000000000000000 := by rw [← h2]; exact Nat.le_trans (Nat.div_le_self _ _) hd
  have e1 : IntKind.u64.wrap ((n : Int) / (G : Int)) = (q1 : Int) := by
    rw [← Int.natCast_ediv, h1]; exact IntWalk.u64_in _ (by omega)
  have e2 : IntKind.u64.wrap ((d : Int) / (G : Int)) = (q2 : Int) := by
    rw [← Int.natCast_ediv, h2]; exact IntWalk.u64_in _ (by omega)
  by_cases hA : 1000000000000 < q1 ∨ 1000000 < q2
  · have HF : Hid (fitR neg n d = (0, 0, 4)) := fit_over HG h1 h2 hA
    have HE1 := Lib.hid e1
    have HE2 := Lib.hid e2
    have HA : 1000000000000 < q1 ∨ (¬ 1000000000000 < q1 ∧ 1000000 < q2) := by omega
    clear h1 h2 e1 e2 hA
    rcases HA with hA | ⟨hA1, hA2⟩
    · go_enter Tryz.func130, Tryz.ntmps130
      go_wp2_with fail
      refine (gcd_any _ _ _ hn hd).mono ?_
      rintro e w' ⟨rfl, nq, rfl⟩
      rw [HG.out]
      have e1 := HE1.out
      have e2 := HE2.out
      go_wp2_with fail
      go_quiet (fail)
      clear e1 e2
      go_wp2_with fail
      refine bodyPost_ret (v := .tuple #[.agg #[.int .i64 0, .int .i64 0], .int .i64 4]) (by simp [results, Tryz.results130, go_sem]) rfl ⟨by rw [HF.out]; rfl, ?_⟩
      exact ((belowN ((Below.refl _ _).alloc (Nat.le_refl _) _) _).setCell (by simp) _).setCell (by simp) _
    · go_enter Tryz.func130, Tryz.ntmps130
      go_wp2_with fail
      refine (gcd_any _ _ _ hn hd).mono ?_
      rintro e w' ⟨rfl, nq, rfl⟩
      rw [HG.out]
      have e1 := HE1.out
      have e2 := HE2.out
      go_wp2_with fail
      go_quiet (fail)
      clear e1 e2
      go_wp2_with fail
      refine bodyPost_ret (v := .tuple #[.agg #[.int .i64 0, .int .i64 0], .int .i64 4]) (by simp [results, Tryz.results130, go_sem]) rfl ⟨by rw [HF.out]; rfl, ?_⟩
      exact ((belowN ((Below.refl _ _).alloc (Nat.le_refl _) _) _).setCell (by simp) _).setCell (by simp) _
  · have HF : Hid (fitR neg n d = (if neg = true then -(q1 : Int) else q1, (q2 : Int), 0)) := fit_done HG h1 h2 (by omega) (by omega)
    have HE1 := Lib.hid e1
    have HE2 := Lib.hid e2
    have hA1 : q1 ≤ 1000000000000 := by omega
    have hA2 : q2 ≤ 1000000 := by omega
    clear h1 h2 e1 e2 hA
    cases neg
    · go_enter Tryz.func130, Tryz.ntmps130
      go_wp2_with fail
      refine (gcd_any _ _ _ hn hd).mono ?_
      rintro e w' ⟨rfl, nq, rfl⟩
      rw [HG.out]
      have e1 := HE1.out
      have e2 := HE2.out
      go_wp2_with fail
      go_quiet (fail)
      clear e1 e2
      go_wp2_with fail
      refine bodyPost_ret (v := .tuple #[.agg #[.int .i64 q1, .int .i64 q2], .int .i64 0]) (by simp [results, Tryz.results130, go_sem]) rfl ⟨by rw [HF.out]; rfl, ?_⟩
      exact ((belowN ((Below.refl _ _).alloc (Nat.le_refl _) _) _).setCell (by simp) _).setCell (by simp) _
    · go_enter Tryz.func130, Tryz.ntmps130
      go_wp2_with fail
      refine (gcd_any _ _ _ hn hd).mono ?_
      rintro e w' ⟨rfl, nq, rfl⟩
      rw [HG.out]
      have e1 := HE1.out
      have e2 := HE2.out
      go_wp2_with fail
      go_quiet (fail)
      clear e1 e2
      go_wp2_with fail
      refine bodyPost_ret (v := .tuple #[.agg #[.int .i64 (-(q1 : Int)), .int .i64 q2], .int .i64 0]) (by simp [results, Tryz.results130, go_sem]) rfl ⟨by rw [HF.out]; rfl, ?_⟩
      exact ((belowN ((Below.refl _ _).alloc (Nat.le_refl _) _) _).setCell (by simp) _).setCell (by simp) _

/-- New, where the denominator is not 0. -/
def newI (n d : Int) : Int × Int × Int := if d = 0 then (0, 0, 5) else fitR (!(decide (n < 0) == decide (d < 0))) n.natAbs d.natAbs

set_option maxHeartbeats 1000000 in
theorem new_any (n d : Int) (w : World) (hn0 : -4000000000000000000 ≤ n) (hn : n ≤ 4000000000000000000) (hd0 : -4000000000000000000 ≤ d) (hd : d ≤ 4000000000000000000) :
    Calls Tryz.prog 112 #[.int .i64 n, .int .i64 d] w fun e w' => e = ratErr (newI n d) ∧ Below w.heap.size w w' := by
  by_cases h0 : d = 0
  · subst h0
    go_enter Tryz.func112, Tryz.ntmps112
    go_wp2_with fail
    refine bodyPost_ret (v := .tuple #[.agg #[.int .i64 0, .int .i64 0], .int .i64 5]) (by simp [results, Tryz.results112, go_sem]) rfl ⟨rfl, ?_⟩
    exact (Below.refl _ _).alloc (Nat.le_refl _) _
  · have HR : Hid (newI n d = fitR (!(decide (n < 0) == decide (d < 0))) n.natAbs d.natAbs) := by show _ = _; unfold newI; rw [if_neg h0]
    have g0 : (d == 0) = false := by simpa using h0
    have hd1 : 1 ≤ d.natAbs := by omega
    clear h0
    go_enter Tryz.func112, Tryz.ntmps112
    go_wp2_with fail
    refine (magnitude_any n _ hn0 hn).mono ?_
    rintro e w' ⟨rfl, rfl⟩
    go_wp2_with fail
    refine (magnitude_any d _ hd0 hd).mono ?_
    rintro e w' ⟨rfl, rfl⟩
    go_wp2_with fail
    refine (fit_any _ _ _ _ (by omega) (by omega) (by omega)).mono ?_
    rintro e w' ⟨rfl, hb⟩
    generalize hx : fitR _ _ _ = x
    obtain ⟨x1, x2, x3⟩ := x
    have HY : Hid (newI n d = (x1, x2, x3)) := by
      show _ = _
      rw [HR.out, ← hx]
    clear hx HR
    simp only [ratErr]
    have hc0 : w'.cell? ⟨w.heap.size, 0, none⟩ = some (.int .i64 0) := by rw [hb.cell (by simp)]; simp
    have hc1 : w'.cell? ⟨w.heap.size, 1, none⟩ = some (.int .i64 0) := by rw [hb.cell (by simp)]; simp
    have hf0 : w'.frozen? ⟨w.heap.size, 0, none⟩ = false := by rw [hb.frozen (by simp)]; simp
    have hf1 : w'.frozen? ⟨w.heap.size, 1, none⟩ = false := by rw [hb.frozen (by simp)]; simp
    go_wp2_with fail
    refine bodyPost_ret (v := .tuple #[.agg #[.int .i64 x1, .int .i64 x2], .int .i64 x3]) (by simp [results, Tryz.results112, go_sem, hc0, hc1]) rfl ⟨by rw [HY.out]; rfl, ?_⟩
    exact ((((Below.refl _ _).alloc (Nat.le_refl _) _).trans (hb.mono (by simp))).setCell (by simp) _).setCell (by simp) _

/-- Valid, of a numerator and a denominator. -/
def validR (n d : Int) : Bool := decide (1 ≤ d ∧ d ≤ 1000000 ∧ -1000000000000 ≤ n ∧ n ≤ 1000000000000 ∧ Nat.gcd n.natAbs d.natAbs = 1)

set_option maxHeartbeats 1000000 in
theorem ratioValid_any (n d : Int) (w : World) :
    Calls Tryz.prog 70 #[.agg #[.int .i64 n, .int .i64 d]] w fun e w' => e = .returned (.bool (validR n d)) ∧ Below w.heap.size w w' := by
  by_cases h1 : d < 1
  · have HF : Hid (validR n d = false) := decide_eq_false (by omega)
    go_enter Tryz.func70, Tryz.ntmps70
    go_wp2_with fail
    go_ret
    exact ⟨ret_bool HF.out.symm, (Below.refl _ _).alloc (Nat.le_refl _) _⟩
  by_cases h2 : 1000000 < d
  · have HF : Hid (validR n d = false) := decide_eq_false (by omega)
    go_enter Tryz.func70, Tryz.ntmps70
    go_wp2_with fail
    go_ret
    exact ⟨ret_bool HF.out.symm, (Below.refl _ _).alloc (Nat.le_refl _) _⟩
  by_cases h3 : n < -1000000000000
  · have HF : Hid (validR n d = false) := decide_eq_false (by omega)
    go_enter Tryz.func70, Tryz.ntmps70
    go_wp2_with fail
    go_ret
    exact ⟨ret_bool HF.out.symm, (Below.refl _ _).alloc (Nat.le_refl _) _⟩
  by_cases h4 : 1000000000000 < n
  · have HF : Hid (validR n d = false) := decide_eq_false (by omega)
    go_enter Tryz.func70, Tryz.ntmps70
    go_wp2_with fail
    go_ret
    exact ⟨ret_bool HF.out.symm, (Below.refl _ _).alloc (Nat.le_refl _) _⟩
  · obtain ⟨k, rfl⟩ := Int.eq_ofNat_of_zero_le (show 0 ≤ d by omega)
    have HF : Hid (validR n k = (((Nat.gcd n.natAbs k : Nat) : Int) == 1)) := by
      show _ = _
      unfold validR
      rw [Bool.eq_iff_iff]
      simp
      omega
    go_enter Tryz.func70, Tryz.ntmps70
    go_wp2_with fail
    go_quiet ((first | (go_at_call 94; exact quiet_left (magnitude_any _ _ (by omega) (by omega))) | (go_at_call 93; exact Calls.quiet_of (gcd_any _ _ _ (by omega) (by omega)))))
    go_wp2_with fail
    go_ret
    exact ⟨ret_bool HF.out.symm, belowN ((Below.refl _ _).alloc (Nat.le_refl _) _) _⟩
end Go.Proofs.YtpdbkbadjgellaaGreatDoor

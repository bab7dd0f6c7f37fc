/-
  Plain laws on dates. No program in sight.
-/
import Derived.Test.YtpdbkbadjgellaaDoorTkQ
import Derived.Lib.ItoaNum
namespace Go.Proofs.YtpdbkbadjgellaaDoor
namespace Tk

def yearUp : Nat → Int → Int → Int
  | 0, y, _ => y
  | f + 1, y, day => if begn (y + 1) ≤ day then yearUp f (y + 1) day else y
def yOf (day : Int) : Int := yearUp 300 (1970 + day / 366) day
def monUp : Nat → Int → Int → Int → Int × Int
  | 0, _, m, r => (m, r)
  | f + 1, y, m, r => if mlen y m ≤ r then monUp f y (m + 1) (r - mlen y m) else (m, r)
/-- The year, the month and the day of the month of a day. -/
def mOf (day : Int) : Int := (monUp 12 (yOf day) 1 (day - begn (yOf day))).1
def dOf (day : Int) : Int := (monUp 12 (yOf day) 1 (day - begn (yOf day))).2 + 1

theorem begn_succ (y : Int) : begn (y + 1) = begn y + (if leapB y = true then 366 else 365) := by
  unfold begn leapsN leapB
  by_cases h : y % 4 = 0 ∧ (y % 100 ≠ 0 ∨ y % 400 = 0)
  · rw [if_pos (by simpa using h)]; omega
  · rw [if_neg (by simpa using h)]; omega
theorem cum12 (y : Int) : cumM y 12 = if leapB y = true then 366 else 365 := by
  simp only [cumM]
  by_cases h : leapB y = true <;> simp [mlen, h]
theorem begn_guess (day : Int) (h : 0 ≤ day) : begn (1970 + day / 366) ≤ day := by unfold begn leapsN; omega
theorem begn_2200 : begn 2200 = 84006 := by decide
theorem begn_mono (a b : Int) (h : a ≤ b) : begn a ≤ begn b := by unfold begn leapsN; omega

theorem yearUp_stop (f : Nat) (y day : Int) (h : day < begn (y + 1)) : yearUp f y day = y := by
  cases f with
  | zero => rfl
  | succ f => rw [yearUp, if_neg (by omega)]
theorem monUp_stop (f : Nat) (y m r : Int) (h : r < mlen y m) : monUp f y m r = (m, r) := by
  cases f with
  | zero => rfl
  | succ f => rw [monUp, if_neg (by omega)]

theorem mlen_lo (y m : Int) : 28 ≤ mlen y m ∧ mlen y m ≤ 31 := by unfold mlen; repeat' split <;> omega
theorem cum_lo (y : Int) (k : Nat) : 0 ≤ cumM y k ∧ cumM y k ≤ 31 * k := by
  induction k with
  | zero => simp [cumM]
  | succ k ih => have := mlen_lo y (k + 1); simp only [cumM]; omega
theorem cum_le (y : Int) (a b : Nat) (h : a ≤ b) : cumM y a ≤ cumM y b := by
  induction b with
  | zero => rw [show a = 0 by omega]; exact Int.le_refl _
  | succ b ih =>
    rcases Nat.lt_or_ge a (b + 1) with h' | h'
    · have := ih (by omega)
      have := mlen_lo y (b + 1)
      simp only [cumM]
      omega
    · rw [show a = b + 1 by omega]; exact Int.le_refl _

theorem cum_succ (y : Int) (k : Nat) : cumM y (k + 1) = cumM y k + mlen y (k + 1) := rfl

/-- The years' loop. -/
theorem yearUp_spec (f : Nat) (y day : Int) (h0 : begn y ≤ day) (h1 : day < begn (y + f + 1)) : begn (yearUp f y day) ≤ day ∧ day < begn (yearUp f y day + 1) ∧ y ≤ yearUp f y day := by
  induction f generalizing y with
  | zero => rw [yearUp]; exact ⟨h0, by simpa using h1, Int.le_refl _⟩
  | succ f ih =>
    rw [yearUp]
    split
    · rename_i h
      have := ih (y + 1) h (by rw [show y + 1 + (f : Int) + 1 = y + ((f + 1 : Nat) : Int) + 1 by omega]; exact h1)
      omega
    · omega
theorem yOf_spec (day : Int) (h0 : 0 ≤ day) (h1 : day ≤ 84005) : begn (yOf day) ≤ day ∧ day < begn (yOf day + 1) ∧ 1970 ≤ yOf day ∧ yOf day ≤ 2199 := by
  have hg := begn_guess day h0
  have h := yearUp_spec 300 (1970 + day / 366) day hg (by
    have := begn_mono 2200 (1970 + day / 366 + (300 : Nat) + 1) (by omega)
    rw [begn_2200] at this
    omega)
  refine ⟨h.1, h.2.1, ?_, ?_⟩
  · have := h.2.2; unfold yOf; omega
  · rcases Int.lt_or_le (yOf day) 2200 with h' | h'
    · omega
    · have := begn_mono 2200 (yOf day) h'
      rw [begn_2200] at this
      have := h.1
      unfold yOf at *
      omega

/-- The months' loop. -/
theorem monUp_spec (f : Nat) (y : Int) (k : Nat) (r : Int) (hk : k + f = 12) (h0 : 0 ≤ r) (h1 : r + cumM y k < cumM y 12) :
    ∃ m : Nat, 1 ≤ m ∧ m ≤ 12 ∧ (monUp f y (k + 1) r).1 = m ∧ 0 ≤ (monUp f y (k + 1) r).2 ∧ (monUp f y (k + 1) r).2 < mlen y m ∧ (monUp f y (k + 1) r).2 + cumM y (m - 1) = r + cumM y k := by
  induction f generalizing k r with
  | zero => rw [show k = 12 by omega] at h1; omega
  | succ f ih =>
    rw [monUp]
    split
    · rename_i h
      obtain ⟨m, h2, h3, h4, h5, h6, h7⟩ := ih (k + 1) (r - mlen y (k + 1)) (by omega) (by omega) (by rw [cum_succ]; omega)
      have e : ((k + 1 : Nat) : Int) + 1 = (k : Int) + 1 + 1 := by omega
      rw [e] at h4 h5 h6 h7
      refine ⟨m, h2, h3, h4, h5, h6, ?_⟩
      rw [h7]
      simp only [cumM]
      omega
    · rename_i h
      exact ⟨k + 1, by omega, by omega, by simp, h0, by simp; omega, by simp⟩

theorem date_spec (day : Int) (h0 : 0 ≤ day) (h1 : day ≤ 84005) : dayOK (yOf day) (mOf day) (dOf day) = true ∧ dayNo (yOf day) (mOf day) (dOf day) = day := by
  obtain ⟨a, b, c, d⟩ := yOf_spec day h0 h1
  have hs := begn_succ (yOf day)
  rw [← cum12] at hs
  obtain ⟨m, h2, h3, h4, h5, h6, h7⟩ := monUp_spec 12 (yOf day) 0 (day - begn (yOf day)) rfl (by omega) (by simp only [show cumM (yOf day) 0 = 0 from rfl]; omega)
  simp only [show ((0 : Nat) : Int) + 1 = 1 from rfl, show cumM (yOf day) 0 = 0 from rfl] at h4 h5 h6 h7
  have em : mOf day = m := h4
  have ed : dOf day = (monUp 12 (yOf day) 1 (day - begn (yOf day))).2 + 1 := rfl
  refine ⟨?_, ?_⟩
  · unfold dayOK
    rw [em, ed]
    simp
    omega
  · unfold dayNo
    rw [em, ed, show ((m : Int) - 1).toNat = m - 1 by omega]
    omega

/-- A number with two digits. -/
def two (n : Int) : List UInt8 := if n < 10 then 48 :: Lib.itoa n else Lib.itoa n
/-- The text of a day. -/
def dateText (day : Int) : List UInt8 := if 0 ≤ day ∧ day ≤ 84005 then Lib.itoa (yOf day) ++ [45] ++ two (mOf day) ++ [45] ++ two (dOf day) else []
end Tk
end Go.Proofs.YtpdbkbadjgellaaDoor

/-
  Plain laws for TokenLimits: the tokens of the repeated text. No program in sight.
-/
import Derived.Test.YtpdbkbadjgellaaDoorTkS
import Derived.KernelRfl
namespace Go.Proofs.YtpdbkbadjgellaaDoor
namespace Tk

theorem scanAt_same (a b : Nat) (l r : List UInt8) (k : Nat) (hl : skipN false l = k + skipN false r) (hd : l.drop k = r) (hb : b = a + k) : scanAt a l = scanAt b r := by
  rw [scanAt_skip a l, scanAt_skip b r, hl, hb, ← hd, List.drop_drop, Nat.add_assoc]
theorem scanAt_blank (a : Nat) (c : UInt8) (r : List UInt8) (h : isBlank c = true) : scanAt a (c :: r) = scanAt (a + 1) r :=
  scanAt_same a (a + 1) _ r 1 (by rw [skipN, if_pos h]; omega) rfl rfl
theorem scanAt_rem (a : Nat) (r : List UInt8) : scanAt a (35 :: 10 :: r) = scanAt (a + 2) r :=
  scanAt_same a (a + 2) _ r 2 (by simp [skipN, isBlank]; omega) rfl rfl

/-- The text of k times a blank, a letter and a comment. -/
def pat4 : Nat → List UInt8
  | 0 => []
  | k + 1 => 32 :: 97 :: 35 :: 10 :: pat4 k
def patU (i : Nat) : UInt8 := if i % 4 = 0 then 32 else if i % 4 = 1 then 97 else if i % 4 = 2 then 35 else 10
def pattern (n : Nat) : List UInt8 := (List.range n).map patU

theorem pat4_len (k : Nat) : (pat4 k).length = 4 * k := by
  induction k with
  | zero => rfl
  | succ k ih => simp [pat4, ih]; omega
theorem pat4_get (k i : Nat) (h : i < 4 * k) : (pat4 k)[i]? = some (patU i) := by
  induction k generalizing i with
  | zero => omega
  | succ k ih =>
    match i, h with
    | 0, _ => rfl
    | 1, _ => rfl
    | 2, _ => rfl
    | 3, _ => rfl
    | i + 4, h =>
      simp only [pat4, List.getElem?_cons_succ]
      rw [ih i (by omega)]
      unfold patU
      rw [show (i + 4) % 4 = i % 4 by omega]
theorem pattern_len (n : Nat) : (pattern n).length = n := by simp [pattern]
theorem pattern_get (n i : Nat) (h : i < n) : (pattern n)[i]? = some (patU i) := by simp [pattern, h]
theorem pattern_all (k : Nat) : pattern (4 * k) = pat4 k := by
  apply List.ext_getElem?
  intro i
  rcases Nat.lt_or_ge i (4 * k) with h | h
  · rw [pattern_get _ _ h, pat4_get _ _ h]
  · rw [List.getElem?_eq_none (by rw [pattern_len]; exact h), List.getElem?_eq_none (by rw [pat4_len]; exact h)]
theorem pattern_three (k : Nat) : pattern (4 * k + 3) = pat4 k ++ [32, 97, 35] := by
  apply List.ext_getElem?
  intro i
  rcases Nat.lt_or_ge i (4 * k) with h | h
  · rw [pattern_get _ _ (by omega), List.getElem?_append_left (by rw [pat4_len]; exact h), pat4_get _ _ h]
  · rw [List.getElem?_append_right (by rw [pat4_len]; exact h), pat4_len]
    rcases Nat.lt_or_ge i (4 * k + 3) with h' | h'
    · rw [pattern_get _ _ h']
      have : i - 4 * k = 0 ∨ i - 4 * k = 1 ∨ i - 4 * k = 2 := by omega
      unfold patU
      rcases this with e | e | e
      · rw [e, show i % 4 = 0 by omega]; rfl
      · rw [e, show i % 4 = 1 by omega]; rfl
      · rw [e, show i % 4 = 2 by omega]; rfl
    · rw [List.getElem?_eq_none (by rw [pattern_len]; exact h'), List.getElem?_eq_none (by simp; omega)]

/-- The length of a scan's list. -/
def okLen (x : Except (Nat × Int) (List Tok)) (n : Nat) : Prop := ∃ ts, x = .ok ts ∧ ts.length = n

theorem read_a (r : List UInt8) : readTok (97 :: 35 :: r) = .ok ({ kind := 1, text := [97] }, 1) := by
  have h1 : dateForm (97 :: 35 :: r) = false := rfl
  have h2 : wordLen (97 :: 35 :: r) = 1 := rfl
  unfold readTok
  rw [h1, h2]
  rfl
theorem scan_pat (k a : Nat) (r : List UInt8) (n : Nat) (h : ∀ a, okLen (scanAt a r) n) : okLen (scanAt a (pat4 k ++ r)) (k + n) := by
  induction k generalizing a with
  | zero => simpa [pat4] using h a
  | succ k ih =>
    have e : pat4 (k + 1) ++ r = 32 :: 97 :: 35 :: 10 :: (pat4 k ++ r) := rfl
    rw [e, scanAt_blank a 32 _ rfl, scanAt_ok (a + 1) _ rfl (by simp) _ 1 (read_a _), List.drop_succ_cons, List.drop_zero, scanAt_rem]
    obtain ⟨ts, h1, h2⟩ := ih (a + 1 + 1 + 2)
    exact ⟨_, by rw [h1]; rfl, by simp [h2]; omega⟩
theorem scan_limit1 : okLen (scan (pattern 16383)) 4096 := by
  rw [show (16383 : Nat) = 4 * 4095 + 3 from rfl, pattern_three]
  unfold scan
  rw [if_neg (by rw [List.length_append, pat4_len]; decide)]
  refine scan_pat 4095 0 [32, 97, 35] 1 fun a => ?_
  rw [scanAt_blank a 32 _ rfl, scanAt_ok (a + 1) _ rfl (by simp) _ 1 (read_a _)]
  exact ⟨_, rfl, rfl⟩
theorem scan_limit2 : okLen (scan (pattern 16384)) 4096 := by
  rw [show (16384 : Nat) = 4 * 4096 from rfl, pattern_all]
  unfold scan
  rw [if_neg (by rw [pat4_len]; decide)]
  have := scan_pat 4096 0 [] 0 fun a => ⟨[], rfl, rfl⟩
  rwa [List.append_nil] at this
theorem scan_limit3 : scan (pattern 16385) = .error (0, 3) := by
  unfold scan
  rw [if_pos (by rw [pattern_len]; decide)]
end Tk
end Go.Proofs.YtpdbkbadjgellaaDoor

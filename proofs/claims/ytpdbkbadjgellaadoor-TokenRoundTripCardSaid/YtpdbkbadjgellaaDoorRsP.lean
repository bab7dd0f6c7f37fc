/-
  Plain laws on the scan of a text, blank by blank and comment by comment. No program in sight.
-/
import Derived.Test.YtpdbkbadjgellaaDoorBkP
namespace Go.Proofs.YtpdbkbadjgellaaDoor
namespace Tk

def ne10 (c : UInt8) : Bool := decide (c.toNat ≠ 10)
theorem scanAt_blank (p : Nat) (c : UInt8) (r : List UInt8) (h : isBlank c = true) : scanAt p (c :: r) = scanAt (p + 1) r := by
  have hs : skipN false (c :: r) = skipN false r + 1 := by rw [skipN, if_pos h]
  rw [scanAt_skip p (c :: r), hs, List.drop_succ_cons, scanAt_skip (p + 1) r]
  congr 1
  omega
theorem skip_comment (r : List UInt8) : skipN true r = lead ne10 r + skipN false (r.drop (lead ne10 r)) := by
  induction r with
  | nil => rfl
  | cons c r ih =>
    by_cases h : c.toNat = 10
    · have : ne10 c = false := by simp [ne10, h]
      have hb : isBlank c = true := by simp [isBlank, h]
      simp only [lead, this, skipN, h, if_true, Bool.false_eq_true, if_false, List.drop_zero, hb]
      omega
    · have : ne10 c = true := by simp [ne10, h]
      simp only [lead, this, skipN, h, if_true, if_false, List.drop_succ_cons, ih]
      omega
theorem scanAt_comment (p : Nat) (c : UInt8) (r : List UInt8) (h : c.toNat = 35) : scanAt p (c :: r) = scanAt (p + lead ne10 (c :: r)) ((c :: r).drop (lead ne10 (c :: r))) := by
  have hb : isBlank c = false := by simp [isBlank, h]
  have hn : ne10 c = true := by simp [ne10, h]
  have hl : lead ne10 (c :: r) = lead ne10 r + 1 := by simp [lead, hn]
  have hs : skipN false (c :: r) = skipN true r + 1 := by rw [skipN, if_neg (by simp [hb]), if_pos h]
  rw [hl, List.drop_succ_cons, scanAt_skip p (c :: r), hs, List.drop_succ_cons, skip_comment, scanAt_skip (p + (lead ne10 r + 1)) (r.drop (lead ne10 r)), List.drop_drop]
  congr 1
  omega
theorem skip_none (c : UInt8) (r : List UInt8) (h : isBlank c = false) (h2 : c.toNat ≠ 35) : skipN false (c :: r) = 0 := by
  rw [skipN, if_neg (by simp [h]), if_neg h2]
theorem lead_pos (p : UInt8 → Bool) (c : UInt8) (r : List UInt8) (h : p c = true) : 1 ≤ lead p (c :: r) := by simp [lead, h]
end Tk
end Go.Proofs.YtpdbkbadjgellaaDoor

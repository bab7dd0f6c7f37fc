/-
  Plain laws: bounds of a scan, and what it leaves. No program in sight.
-/
import Derived.Test.YtpdbkbadjgellaaDoorBkP
namespace Go.Proofs.YtpdbkbadjgellaaDoor
namespace Tk

/-- What a scan gives: the tokens, the place, the error. -/
def outT : Except (Nat × Int) (List Tok) → List Tok
  | .error _ => []
  | .ok ts => ts
def outN : Except (Nat × Int) (List Tok) → Nat
  | .error (a, _) => a
  | .ok _ => 0
def outE : Except (Nat × Int) (List Tok) → Int
  | .error (_, e) => e
  | .ok _ => 0
theorem outT_shift (d : Nat) (r : Except (Nat × Int) (List Tok)) : outT (shift d r) = (outT r).map (moved d) := by cases r <;> rfl
theorem outE_shift (d : Nat) (r : Except (Nat × Int) (List Tok)) : outE (shift d r) = outE r := by cases r <;> rfl
theorem outN_shift (d : Nat) (r : Except (Nat × Int) (List Tok)) (h : outE r ≠ 0) : outN (shift d r) = outN r + d := by
  cases r with
  | error x => rfl
  | ok ts => exact absurd rfl h
/-- Where a scan's tokens and its error may lie. -/
def Bd (p n : Nat) (r : Except (Nat × Int) (List Tok)) : Prop := outN r ≤ p + n ∧ (outT r).length ≤ n ∧ ∀ t ∈ outT r, 0 ≤ t.place ∧ t.place ≤ (p + n : Nat)
theorem scanAt_bd (n p : Nat) (x : List UInt8) (hn : x.length ≤ n) : Bd p x.length (scanAt p x) := by
  induction n generalizing p x with
  | zero =>
    have : x = [] := List.eq_nil_of_length_eq_zero (by omega)
    subst this
    exact ⟨Nat.zero_le _, Nat.le_refl _, fun t ht => by cases ht⟩
  | succ n ih =>
    rw [scanAt_eq]
    have hk := skip_le false x
    split
    · exact ⟨Nat.zero_le _, Nat.zero_le _, fun t ht => by cases ht⟩
    · cases hx : readTok (x.drop (skipN false x)) with
      | error e => exact ⟨by simp only [outN]; omega, Nat.zero_le _, fun t ht => by cases ht⟩
      | ok y =>
        obtain ⟨t, m⟩ := y
        have hm := read_len _ _ _ hx
        simp only [List.length_drop] at hm
        have h := ih (p + skipN false x + m) ((x.drop (skipN false x)).drop m) (by simp; omega)
        simp only
        generalize scanAt (p + skipN false x + m) ((x.drop (skipN false x)).drop m) = r at *
        simp only [List.length_drop] at h
        cases r with
        | error q => exact ⟨by have := h.1; simp only [outN, after] at this ⊢; omega, Nat.zero_le _, fun t ht => by cases ht⟩
        | ok ts =>
          obtain ⟨_, h2, h3⟩ := h
          simp only [outT] at h2 h3
          refine ⟨Nat.zero_le _, by simp only [outT, after, List.length_append, List.length_cons, List.length_nil]; omega, fun u hu => ?_⟩
          simp only [outT, after, List.cons_append, List.nil_append, List.mem_cons] at hu
          rcases hu with rfl | hu
          · exact ⟨by simp only; omega, by simp only; omega⟩
          · have := h3 u hu
            exact ⟨this.1, by omega⟩
theorem scan_bd (x : List UInt8) (h : x.length ≤ 16384) : Bd 0 x.length (scan x) := by
  unfold scan
  rw [if_neg (by omega)]
  exact scanAt_bd x.length 0 x (Nat.le_refl _)
end Tk
end Go.Proofs.YtpdbkbadjgellaaDoor

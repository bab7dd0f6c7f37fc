/-
  Plain laws on the scan of a text. No program in sight.
-/
import Derived.Test.YtpdbkbadjgellaaDoorTkQ
namespace Go.Proofs.YtpdbkbadjgellaaDoor
namespace Tk

theorem skip_le (b : Bool) (l : List UInt8) : skipN b l ≤ l.length := by
  induction l generalizing b with
  | nil => cases b <;> simp [skipN]
  | cons c r ih =>
    cases b
    · simp only [skipN, List.length_cons]
      have h1 := ih false
      have h2 := ih true
      repeat' split
      all_goals omega
    · simp only [skipN, List.length_cons]
      have h1 := ih false
      have h2 := ih true
      repeat' split
      all_goals omega

/-- Behind blanks and comments there is none. -/
theorem skip_skip (b : Bool) (l : List UInt8) : skipN false (l.drop (skipN b l)) = 0 := by
  induction l generalizing b with
  | nil => cases b <;> simp [skipN]
  | cons c r ih =>
    cases b
    · rw [skipN]
      split
      · simpa using ih false
      · split
        · simpa using ih true
        · rename_i h1 h2
          simp only [List.drop_zero]
          rw [skipN, if_neg h1, if_neg h2]
    · rw [skipN]
      split
      · simpa using ih false
      · simpa using ih true

theorem digs_pos (l : List UInt8) (h : isDig (l.headD 0) = true) : 1 ≤ digs l := by
  cases l with
  | nil => simp [isDig] at h
  | cons c r => simp at h; simp [digs, lead, h]

theorem frac_len (l : List UInt8) : numEnd l ≤ l.length ∧ numLen l ≤ l.length ∧ digs l ≤ numLen l := by
  have h1 : digs l ≤ l.length := lead_le _ _
  have h2 : numEnd l ≤ l.length := by
    unfold numEnd
    split
    · rename_i h
      have hf : frac l ≤ (l.drop (digs l + 1)).length := by unfold frac; rw [if_pos h]; exact lead_le _ _
      rw [List.length_drop] at hf
      unfold hasFrac at h
      rw [Bool.and_eq_true] at h
      rcases Nat.lt_or_ge (digs l + 1) l.length with h' | h'
      · omega
      · rw [List.getD_eq_getElem?_getD, List.getD_eq_getElem?_getD, List.getElem?_eq_none (show l.length ≤ digs l + 1 by omega)] at h
        simp [isDig] at h
    · exact h1
  refine ⟨h2, ?_, ?_⟩
  · unfold numLen
    split
    · rename_i h
      unfold pct at h
      have := of_decide_eq_true h
      rcases Nat.lt_or_ge (numEnd l) l.length with h' | h'
      · omega
      · rw [List.getD_eq_getElem?_getD, List.getElem?_eq_none h'] at this
        simp at this
    · exact h2
  · unfold numLen numEnd
    split <;> split <;> omega

/-- A token has at least one byte and lies in the text. -/
theorem read_len (l : List UInt8) (t : Tok) (n : Nat) (h : readTok l = .ok (t, n)) : 1 ≤ n ∧ n ≤ l.length := by
  unfold readTok at h
  by_cases h1 : dateForm l = true
  · rw [if_pos h1] at h
    have hl : 10 ≤ l.length := by
      unfold dateForm at h1
      have key : ∀ (ps : List Bool) (l : List UInt8), form ps l = true → ps.length ≤ l.length := by
        intro ps
        induction ps with
        | nil => intro l _; simp
        | cons p ps ih =>
          intro l hf
          cases l with
          | nil => simp [form] at hf
          | cons c r => rw [form, Bool.and_eq_true] at hf; have := ih r hf.2; simp; omega
      simpa using key _ _ h1
    cases hd : dayOf l with
    | none => rw [hd] at h; cases h
    | some d => rw [hd] at h; injection h with h; injection h with _ h; omega
  · rw [if_neg h1] at h
    by_cases h2 : isDig (l.headD 0) = true
    · rw [if_pos h2] at h
      have hp := digs_pos l h2
      have hq := frac_len l
      unfold readNum at h
      split at h
      · rename_i e he
        cases h
      · rename_i a b m he
        split at he
        · cases he
        · split at he
          · cases he
          · injection he with he
            injection he with _ he
            injection he with _ he
            injection h with h
            injection h with _ h
            omega
    · rw [if_neg h2] at h
      by_cases h3 : isLow (l.headD 0) = true
      · rw [if_pos h3] at h
        split at h
        · injection h with h
          injection h with _ h
          cases l with
          | nil => simp [isLow] at h3
          | cons c r =>
            simp at h3
            simp only [wordLen, h3, if_true] at h
            have := lead_le isWord r
            simp
            omega
        · cases h
      · rw [if_neg h3] at h
        split at h
        · cases h
        · injection h with h
          injection h with _ h
          subst h
          rename_i hs
          refine ⟨by omega, ?_⟩
          cases l with
          | nil => simp [symLen]
          | cons c r =>
            simp only [symLen, List.length_cons]
            split
            · rename_i hp
              cases r with
              | nil => simp [pair] at hp
              | cons d r => simp
            · split <;> omega

theorem read_err (l : List UInt8) (e : Int) (h : readTok l = .error e) : e ≠ 0 := by
  have hn : ∀ x, readNum l = .error x → x ≠ 0 := by
    intro x hx
    unfold readNum at hx
    split at hx
    · injection hx with hx; omega
    · split at hx
      · injection hx with hx; omega
      · cases hx
  unfold readTok at h
  split at h
  · split at h
    · injection h with h; omega
    · cases h
  · split at h
    · split at h
      · rename_i x hx
        injection h with h
        exact h ▸ hn _ hx
      · cases h
    · split at h
      · split at h
        · cases h
        · injection h with h; omega
      · split at h
        · injection h with h; omega
        · cases h

/-- Enough steps are enough. -/
theorem scanF_more (f g at_ : Nat) (l : List UInt8) (hf : l.length ≤ f) (hg : l.length ≤ g) : scanF f at_ l = scanF g at_ l := by
  induction f generalizing g at_ l with
  | zero =>
    have : l = [] := List.eq_nil_of_length_eq_zero (by omega)
    subst this
    cases g with
    | zero => rfl
    | succ g => simp [scanF]
  | succ f ih =>
    cases g with
    | zero =>
      have : l = [] := List.eq_nil_of_length_eq_zero (by omega)
      subst this
      simp [scanF]
    | succ g =>
      simp only [scanF]
      split
      · rfl
      · cases hr : readTok (l.drop (skipN false l)) with
        | error e => rfl
        | ok x =>
          obtain ⟨t, n⟩ := x
          have hn := read_len _ _ _ hr
          rw [List.length_drop] at hn
          simp only
          rw [ih g _ _ (by simp; omega) (by simp; omega)]

def scanAt (at_ : Nat) (l : List UInt8) : Except (Nat × Int) (List Tok) := scanF l.length at_ l
/-- Tokens ahead of a scan. -/
def after (ts : List Tok) : Except (Nat × Int) (List Tok) → Except (Nat × Int) (List Tok)
  | .error e => .error e
  | .ok us => .ok (ts ++ us)
theorem after_nil (x : Except (Nat × Int) (List Tok)) : after [] x = x := by cases x <;> rfl
theorem after_after (a b : List Tok) (x : Except (Nat × Int) (List Tok)) : after a (after b x) = after (a ++ b) x := by cases x <;> simp [after]

theorem scanAt_eq (at_ : Nat) (l : List UInt8) : scanAt at_ l =
    if l.length ≤ skipN false l then .ok [] else
    match readTok (l.drop (skipN false l)) with
    | .error e => .error (at_ + skipN false l, e)
    | .ok (t, n) => after [{ t with place := at_ + skipN false l }] (scanAt (at_ + skipN false l + n) ((l.drop (skipN false l)).drop n)) := by
  unfold scanAt
  cases l with
  | nil => simp [scanF]
  | cons c r =>
    simp only [List.length_cons, scanF]
    split
    · rfl
    · cases hr : readTok ((c :: r).drop (skipN false (c :: r))) with
      | error e => rfl
      | ok x =>
        obtain ⟨t, n⟩ := x
        have hn := read_len _ _ _ hr
        rw [List.length_drop] at hn
        simp only
        rw [scanF_more r.length _ _ _ (by simp at hn ⊢; omega) (Nat.le_refl _)]
        cases scanF _ _ _ <;> rfl

theorem scanAt_skip (at_ : Nat) (l : List UInt8) : scanAt at_ l = scanAt (at_ + skipN false l) (l.drop (skipN false l)) := by
  rw [scanAt_eq at_ l, scanAt_eq _ (l.drop (skipN false l)), skip_skip]
  have := skip_le false l
  by_cases h : l.length ≤ skipN false l
  · rw [if_pos h, if_pos (by simp; omega)]
  · rw [if_neg h, if_neg (by simp; omega)]
    rfl
theorem scanAt_end (at_ : Nat) : scanAt at_ [] = .ok [] := rfl
theorem scanAt_err (at_ : Nat) (l : List UInt8) (h : skipN false l = 0) (hl : 0 < l.length) (e : Int) (hr : readTok l = .error e) : scanAt at_ l = .error (at_, e) := by
  rw [scanAt_eq, h, if_neg (by omega), List.drop_zero, hr]; rfl
theorem scanAt_ok (at_ : Nat) (l : List UInt8) (h : skipN false l = 0) (hl : 0 < l.length) (t : Tok) (n : Nat) (hr : readTok l = .ok (t, n)) :
    scanAt at_ l = after [{ t with place := at_ }] (scanAt (at_ + n) (l.drop n)) := by
  rw [scanAt_eq, h, if_neg (by omega), List.drop_zero, hr]; rfl

/-- The tokens of a text, or the first error. -/
def scan (l : List UInt8) : Except (Nat × Int) (List Tok) := if 16384 < l.length then .error (0, 3) else scanAt 0 l
end Tk
end Go.Proofs.YtpdbkbadjgellaaDoor

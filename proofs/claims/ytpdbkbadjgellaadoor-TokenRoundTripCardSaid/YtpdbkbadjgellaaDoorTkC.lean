/-
  The walks of package token's IsName, symbolLength, isDate, skip.
-/
import Derived.Test.YtpdbkbadjgellaaDoorTkA
import Derived.Test.YtpdbkbadjgellaaDoorShelf
namespace Go.Proofs.YtpdbkbadjgellaaDoor
open Go.RowKit
attribute [local go_sem] ba_get ba_extract take_rest

set_option maxHeartbeats 1000000 in
theorem isName_any (l : List UInt8) (w : World) (hs : l.length ≤ maxLen) :
    Calls Tryd.prog 21 #[.string ⟨l.toArray⟩] w fun e w' => e = .returned (.bool (Tk.isName l)) ∧ w = w' := by
  have hs' := hs
  unfold maxLen at hs
  by_cases h0 : 0 < l.length
  · by_cases h1 : l.length ≤ 24
    · by_cases h2 : Tk.wordLen l = l.length
      · have hn : Tk.isName l = !Tk.isKey l := by simp [Tk.isName, h0, h1, h2]
        rw [hn]
        have h3 : ((Tk.wordLen l : Int) == l.length) = true := by simp; omega
        clear hn h2
        go_enter Tryd.func21, Tryd.ntmps21
        go_wp2_with ((first | (go_at_call 47; refine (wordLength_any _ _ hs').mono ?_; rintro e w' ⟨rfl, rfl⟩) | (go_at_call 22; refine (isKeyword_any _ _).mono ?_; rintro e w' ⟨rfl, rfl⟩)))
        go_ret
        exact ⟨rfl, rfl⟩
      · have hn : Tk.isName l = false := by simp [Tk.isName, h2]
        rw [hn]
        have h3 : ((Tk.wordLen l : Int) == l.length) = false := by simp; omega
        clear hn h2
        go_enter Tryd.func21, Tryd.ntmps21
        go_wp2_with ((first | (go_at_call 47; refine (wordLength_any _ _ hs').mono ?_; rintro e w' ⟨rfl, rfl⟩) | (go_at_call 22; refine (isKeyword_any _ _).mono ?_; rintro e w' ⟨rfl, rfl⟩)))
        go_ret
        exact ⟨rfl, rfl⟩
    · have hn : Tk.isName l = false := by simp [Tk.isName, h1]
      rw [hn]
      clear hn
      go_enter Tryd.func21, Tryd.ntmps21
      go_wp2_with fail
      go_ret
      exact ⟨rfl, rfl⟩
  · have hn : Tk.isName l = false := by simp [Tk.isName, h0]
    rw [hn]
    clear hn
    go_enter Tryd.func21, Tryd.ntmps21
    go_wp2_with fail
    go_ret
    exact ⟨rfl, rfl⟩

theorem indexByte_mem (l : List UInt8) (c : UInt8) : (l.contains c = true → 0 ≤ Lib.indexByte l c) ∧ (l.contains c = false → Lib.indexByte l c = -1) := by
  induction l with
  | nil => simp [Lib.indexByte]
  | cons b l ih =>
    by_cases hb : b = c
    · subst hb; simp [Lib.indexByte]
    · have h1 : (b == c) = false := by simpa using hb
      have h2 : (c == b) = false := by simpa using fun e => hb e.symm
      simp only [Lib.indexByte, h1, List.contains_cons, h2, Bool.false_or, Bool.false_eq_true, if_false]
      refine ⟨fun h => ?_, fun h => ?_⟩
      · have := ih.1 h
        rw [if_neg (by simp; omega)]
        omega
      · rw [ih.2 h]; rfl

set_option maxHeartbeats 1000000 in
theorem symbolLength_any (l : List UInt8) (w : World) (hs : l.length ≤ maxLen) :
    Calls Tryd.prog 37 #[.string ⟨l.toArray⟩] w fun e w' => e = .returned (.int .i64 (Tk.symLen l)) ∧ w = w' := by
  unfold maxLen at hs
  rcases l with _ | ⟨c, _ | ⟨d, r⟩⟩
  · go_enter Tryd.func37, Tryd.ntmps37
    go_wp2_with fail
    go_ret
    exact ⟨rfl, rfl⟩
  · have hp : Tk.pair c 0 = false := by simp [Tk.pair]
    by_cases hc : Tk.signs.contains c = true
    · have hi : 0 ≤ Lib.indexByte [40, 41, 91, 93, 44, 59, 58, 61, 60, 62, 43, 45, 42, 47] c := (indexByte_mem Tk.signs c).1 hc
      have HC : Hid (Tk.symLen [c] = 1) := by show _ = _; simp only [Tk.symLen, List.headD_nil, hp, hc]; rfl
      clear hc hp
      go_enter Tryd.func37, Tryd.ntmps37
      go_wp2_with ((go_at_call 53; refine (Tryd.strings_IndexByte _ _ _).mono ?_; rintro e w' ⟨rfl, rfl⟩))
      go_ret
      exact ⟨ret_int (by rw [HC.out]; rfl), rfl⟩
    · have hc : Tk.signs.contains c = false := by simpa using hc
      have hi : Lib.indexByte [40, 41, 91, 93, 44, 59, 58, 61, 60, 62, 43, 45, 42, 47] c < 0 := by have := (indexByte_mem Tk.signs c).2 hc; unfold Tk.signs at this; omega
      have HC : Hid (Tk.symLen [c] = 0) := by show _ = _; simp only [Tk.symLen, List.headD_nil, hp, hc]; rfl
      clear hc hp
      go_enter Tryd.func37, Tryd.ntmps37
      go_wp2_with ((go_at_call 53; refine (Tryd.strings_IndexByte _ _ _).mono ?_; rintro e w' ⟨rfl, rfl⟩))
      go_ret
      exact ⟨ret_int (by rw [HC.out]; rfl), rfl⟩
  · by_cases hp : Tk.pair c d = true
    · have h := of_decide_eq_true hp
      rcases h with ⟨rfl, rfl⟩ | ⟨rfl, rfl⟩ | ⟨rfl, rfl⟩
      all_goals
        clear hp
        go_enter Tryd.func37, Tryd.ntmps37
        go_wp2_with fail
        go_ret
        exact ⟨rfl, rfl⟩
    · have hp : Tk.pair c d = false := by simpa using hp
      have h0 := of_decide_eq_false hp
      simp only [not_or, not_and] at h0
      obtain ⟨g1, g2, g3⟩ := h0
      have h1 : ([c, d] == [60, 61]) = false := by simp; exact g1
      have h2 : ([c, d] == [62, 61]) = false := by simp; exact g2
      have h3 : ([c, d] == [60, 62]) = false := by simp; exact g3
      clear g1 g2 g3
      by_cases hc : Tk.signs.contains c = true
      · have hi : 0 ≤ Lib.indexByte [40, 41, 91, 93, 44, 59, 58, 61, 60, 62, 43, 45, 42, 47] c := (indexByte_mem Tk.signs c).1 hc
        have HC : Hid (Tk.symLen (c :: d :: r) = 1) := by show _ = _; simp only [Tk.symLen, List.headD_cons, hp, hc]; rfl
        clear hc hp
        go_enter Tryd.func37, Tryd.ntmps37
        go_wp2_with ((go_at_call 53; refine (Tryd.strings_IndexByte _ _ _).mono ?_; rintro e w' ⟨rfl, rfl⟩))
        go_ret
        exact ⟨ret_int (by rw [HC.out]; rfl), rfl⟩
      · have hc : Tk.signs.contains c = false := by simpa using hc
        have hi : Lib.indexByte [40, 41, 91, 93, 44, 59, 58, 61, 60, 62, 43, 45, 42, 47] c < 0 := by have := (indexByte_mem Tk.signs c).2 hc; unfold Tk.signs at this; omega
        have HC : Hid (Tk.symLen (c :: d :: r) = 0) := by show _ = _; simp only [Tk.symLen, List.headD_cons, hp, hc]; rfl
        clear hc hp
        go_enter Tryd.func37, Tryd.ntmps37
        go_wp2_with ((go_at_call 53; refine (Tryd.strings_IndexByte _ _ _).mono ?_; rintro e w' ⟨rfl, rfl⟩))
        go_ret
        exact ⟨ret_int (by rw [HC.out]; rfl), rfl⟩

/-- The form of a date, place by place. -/
theorem form_get (ps : List Bool) (l : List UInt8) (h : Tk.form ps l = true) : ps.length ≤ l.length ∧ ∀ i (hi : i < l.length) (hp : i < ps.length), (if ps[i] = true then Tk.isDig l[i] else decide (l[i].toNat = 45)) = true := by
  induction ps generalizing l with
  | nil => exact ⟨by simp, fun i _ hp => by simp at hp⟩
  | cons p ps ih =>
    cases l with
    | nil => simp [Tk.form] at h
    | cons c r =>
      rw [Tk.form, Bool.and_eq_true] at h
      obtain ⟨h1, h2⟩ := ih r h.2
      refine ⟨by simp; omega, fun i hi hp => ?_⟩
      cases i with
      | zero => simpa using h.1
      | succ i => simp at hi hp ⊢; simpa using h2 i hi hp
theorem form_of (ps : List Bool) (l : List UInt8) (hl : ps.length ≤ l.length) (h : ∀ i (hi : i < l.length) (hp : i < ps.length), (if ps[i] = true then Tk.isDig l[i] else decide (l[i].toNat = 45)) = true) : Tk.form ps l = true := by
  induction ps generalizing l with
  | nil => rfl
  | cons p ps ih =>
    cases l with
    | nil => simp at hl
    | cons c r =>
      rw [Tk.form, Bool.and_eq_true]
      refine ⟨h 0 (by simp) (by simp), ih r (by simpa using hl) fun i hi hp => ?_⟩
      exact h (i + 1) (by simpa using hi) (by simpa using hp)

def dateAt (l : List UInt8) (i : Nat) : Bool := if i = 4 ∨ i = 7 then decide ((l.getD i 0).toNat = 45) else Tk.isDig (l.getD i 0)
theorem dateForm_iff (l : List UInt8) : Tk.dateForm l = true ↔ 10 ≤ l.length ∧ ∀ i, i < 10 → dateAt l i = true := by
  have key : ∀ i (hi : i < l.length) (hp : i < 10), (if [true, true, true, true, false, true, true, false, true, true][i] = true then Tk.isDig l[i] else decide (l[i].toNat = 45)) = dateAt l i := by
    intro i hi hp
    unfold dateAt
    rw [getD_eq l i hi]
    have : i = 0 ∨ i = 1 ∨ i = 2 ∨ i = 3 ∨ i = 4 ∨ i = 5 ∨ i = 6 ∨ i = 7 ∨ i = 8 ∨ i = 9 := by omega
    rcases this with rfl | rfl | rfl | rfl | rfl | rfl | rfl | rfl | rfl | rfl <;> simp
  constructor
  · intro h
    obtain ⟨h1, h2⟩ := form_get _ _ h
    simp at h1
    exact ⟨h1, fun i hi => by rw [← key i (by omega) hi]; exact h2 i (by omega) (by simpa using hi)⟩
  · rintro ⟨h1, h2⟩
    refine form_of _ _ (by simpa using h1) fun i hi hp => ?_
    have hp' : i < 10 := by simpa using hp
    rw [key i hi hp']; exact h2 i hp'

set_option maxHeartbeats 1000000 in
theorem isDate_any (l : List UInt8) (w : World) (hs : l.length ≤ maxLen) :
    Calls Tryd.prog 42 #[.string ⟨l.toArray⟩] w fun e w' => e = .returned (.bool (Tk.dateForm l)) ∧ w = w' := by
  unfold maxLen at hs
  by_cases h10 : 10 ≤ l.length
  · go_enter Tryd.func42, Tryd.ntmps42
    go_wp2_with fail
    go_loop [7] (fun n => ∃ k : Nat, k ≤ 10 ∧ n = .int .i64 k ∧ Hid (∀ j, j < k → dateAt l j = true)) (fun i => 10 - (intOf i).toNat)
    case atStart => exact ⟨0, Nat.zero_le _, rfl, fun _ h => by omega⟩
    case round =>
      obtain ⟨k, hk, rfl, HA⟩ := hrel
      by_cases hlt : k < 10
      · have hkl : k < l.length := by omega
        by_cases hd : dateAt l k = true
        · have HD := Lib.hid hd
          have hnext : Hid (∀ j, j < k + 1 → dateAt l j = true) := fun j hj => if e : j = k then by subst e; exact HD.out else HA.out j (by omega)
          unfold dateAt at hd
          rw [getD_eq l k hkl] at hd
          by_cases h47 : k = 4 ∨ k = 7
          · rw [if_pos h47] at hd
            have hb : ((l[k].toNat : Int) != 45) = false := by simp at hd ⊢; omega
            clear hd
            rcases h47 with h47 | h47
            · have g1 : ((k : Int) == 4) = true := by simp; omega
              clear h47
              go_wp2_with fail
              go_round
              case rel => exact ⟨k + 1, by omega, by go_num, hnext⟩
              case measure => simp [intOf]; omega
            · have g1 : ((k : Int) == 4) = false := by simp; omega
              have g2 : ((k : Int) == 7) = true := by simp; omega
              clear h47
              go_wp2_with fail
              go_round
              case rel => exact ⟨k + 1, by omega, by go_num, hnext⟩
              case measure => simp [intOf]; omega
          · rw [if_neg h47] at hd
            have g1 : ((k : Int) == 4) = false := by simp; omega
            have g2 : ((k : Int) == 7) = false := by simp; omega
            clear h47
            go_wp2_with ((go_at_call 44; refine (isDigit_any _ _).mono ?_; rintro e w' ⟨rfl, rfl⟩))
            go_round
            case rel => exact ⟨k + 1, by omega, by go_num, hnext⟩
            case measure => simp [intOf]; omega
        · have HF : Hid (Tk.dateForm l = false) := by
            show _ = _
            rw [Bool.eq_false_iff]
            exact fun h => hd (((dateForm_iff l).1 h).2 k hlt)
          have hd : dateAt l k = false := by simpa using hd
          unfold dateAt at hd
          rw [getD_eq l k hkl] at hd
          by_cases h47 : k = 4 ∨ k = 7
          · rw [if_pos h47] at hd
            have hb : ((l[k].toNat : Int) != 45) = true := by simp at hd ⊢; omega
            clear hd
            rcases h47 with h47 | h47
            · have g1 : ((k : Int) == 4) = true := by simp; omega
              clear h47
              go_wp2_with fail
              go_ret
              exact ⟨ret_bool HF.out.symm, rfl⟩
            · have g1 : ((k : Int) == 4) = false := by simp; omega
              have g2 : ((k : Int) == 7) = true := by simp; omega
              clear h47
              go_wp2_with fail
              go_ret
              exact ⟨ret_bool HF.out.symm, rfl⟩
          · rw [if_neg h47] at hd
            have g1 : ((k : Int) == 4) = false := by simp; omega
            have g2 : ((k : Int) == 7) = false := by simp; omega
            clear h47
            go_wp2_with ((go_at_call 44; refine (isDigit_any _ _).mono ?_; rintro e w' ⟨rfl, rfl⟩))
            go_ret
            exact ⟨ret_bool HF.out.symm, rfl⟩
      · have HF : Hid (Tk.dateForm l = true) := (dateForm_iff l).2 ⟨h10, fun i hi => HA.out i (by omega)⟩
        go_wp2_with fail
        go_ret
        exact ⟨ret_bool HF.out.symm, rfl⟩
  · have HF : Hid (Tk.dateForm l = false) := by
      show _ = _
      rw [Bool.eq_false_iff]
      exact fun h => h10 ((dateForm_iff l).1 h).1
    go_enter Tryd.func42, Tryd.ntmps42
    go_wp2_with fail
    go_ret
    exact ⟨ret_bool HF.out.symm, rfl⟩
end Go.Proofs.YtpdbkbadjgellaaDoor

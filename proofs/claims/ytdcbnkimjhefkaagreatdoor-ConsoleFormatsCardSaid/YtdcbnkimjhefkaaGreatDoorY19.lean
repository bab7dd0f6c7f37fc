/-
  The walks of package token's IsName, symbolLength, isDate, skip.
  The walks of the reference's IsName (payrollref17).
  The reference's Decimal, for every int.
-/
import Derived.Test.YtdcbnkimjhefkaaGreatDoorY18
import Derived.Test.YtdcbnkimjhefkaaGreatDoorShelf
import Derived.Lib.SlBytesConst
import Derived.Laws.BytesArg
import Derived.Lib.ItoaLen
namespace Go.Proofs.YtdcbnkimjhefkaaGreatDoor
open Go.RowKit
attribute [local go_sem] ba_get ba_extract take_rest

set_option maxHeartbeats 1000000 in
theorem isName_any (l : List UInt8) (w : World) (hs : l.length ≤ maxLen) :
    Calls Tryz.prog 45 #[.string ⟨l.toArray⟩] w fun e w' => e = .returned (.bool (Tk.isName l)) ∧ w = w' := by
  have hs' := hs
  unfold maxLen at hs
  by_cases h0 : 0 < l.length
  · by_cases h1 : l.length ≤ 24
    · by_cases h2 : Tk.wordLen l = l.length
      · have hn : Tk.isName l = !Tk.isKey l := by simp [Tk.isName, h0, h1, h2]
        rw [hn]
        have h3 : ((Tk.wordLen l : Int) == l.length) = true := by simp; omega
        clear hn h2
        go_enter Tryz.func45, Tryz.ntmps45
        go_wp2_with ((first | (go_at_call 77; refine (wordLength_any _ _ hs').mono ?_; rintro e w' ⟨rfl, rfl⟩) | (go_at_call 78; refine (isKeyword_any _ _).mono ?_; rintro e w' ⟨rfl, rfl⟩)))
        go_ret
        exact ⟨rfl, rfl⟩
      · have hn : Tk.isName l = false := by simp [Tk.isName, h2]
        rw [hn]
        have h3 : ((Tk.wordLen l : Int) == l.length) = false := by simp; omega
        clear hn h2
        go_enter Tryz.func45, Tryz.ntmps45
        go_wp2_with ((first | (go_at_call 77; refine (wordLength_any _ _ hs').mono ?_; rintro e w' ⟨rfl, rfl⟩) | (go_at_call 78; refine (isKeyword_any _ _).mono ?_; rintro e w' ⟨rfl, rfl⟩)))
        go_ret
        exact ⟨rfl, rfl⟩
    · have hn : Tk.isName l = false := by simp [Tk.isName, h1]
      rw [hn]
      clear hn
      go_enter Tryz.func45, Tryz.ntmps45
      go_wp2_with fail
      go_ret
      exact ⟨rfl, rfl⟩
  · have hn : Tk.isName l = false := by simp [Tk.isName, h0]
    rw [hn]
    clear hn
    go_enter Tryz.func45, Tryz.ntmps45
    go_wp2_with fail
    go_ret
    exact ⟨rfl, rfl⟩

theorem indexByte_mem (l : List UInt8) (c : UInt8) : (l.contains c = true → 0 ≤ Lib.indexByte l c) ∧ (l.contains c = false → Lib.indexByte l c = -1) := by
  induction l with
  | nil => simp [Lib.indexByte]
  | cons b l ih =>
    by_cases hb : b = c
    · subst hb; simp [Lib.indexByte]
    · have h1 : (b == c) = false := by simpa using hb
      have h2 : (c == b) = false := by simpa using fun e => hb e.symm
      simp only [Lib.indexByte, h1, List.contains_cons, h2, Bool.false_or, Bool.false_eq_true, if_false]
      refine ⟨fun h => ?_, fun h => ?_⟩
      · have := ih.1 h
        rw [if_neg (by simp; omega)]
        omega
      · rw [ih.2 h]; rfl

set_option maxHeartbeats 1000000 in
theorem symbolLength_any (l : List UInt8) (w : World) (hs : l.length ≤ maxLen) :
    Calls Tryz.prog 496 #[.string ⟨l.toArray⟩] w fun e w' => e = .returned (.int .i64 (Tk.symLen l)) ∧ w = w' := by
  unfold maxLen at hs
  rcases l with _ | ⟨c, _ | ⟨d, r⟩⟩
  · go_enter Tryz.func496, Tryz.ntmps496
    go_wp2_with fail
    go_ret
    exact ⟨rfl, rfl⟩
  · have hp : Tk.pair c 0 = false := by simp [Tk.pair]
    by_cases hc : Tk.signs.contains c = true
    · have hi : 0 ≤ Lib.indexByte [40, 41, 91, 93, 44, 59, 58, 61, 60, 62, 43, 45, 42, 47] c := (indexByte_mem Tk.signs c).1 hc
      have HC : Hid (Tk.symLen [c] = 1) := by show _ = _; simp only [Tk.symLen, List.headD_nil, hp, hc]; rfl
      clear hc hp
      go_enter Tryz.func496, Tryz.ntmps496
      go_wp2_with ((go_at_call 561; refine (Tryz.strings_IndexByte _ _ _).mono ?_; rintro e w' ⟨rfl, rfl⟩))
      go_ret
      exact ⟨ret_int (by rw [HC.out]; rfl), rfl⟩
    · have hc : Tk.signs.contains c = false := by simpa using hc
      have hi : Lib.indexByte [40, 41, 91, 93, 44, 59, 58, 61, 60, 62, 43, 45, 42, 47] c < 0 := by have := (indexByte_mem Tk.signs c).2 hc; unfold Tk.signs at this; omega
      have HC : Hid (Tk.symLen [c] = 0) := by show _ = _; simp only [Tk.symLen, List.headD_nil, hp, hc]; rfl
      clear hc hp
      go_enter Tryz.func496, Tryz.ntmps496
      go_wp2_with ((go_at_call 561; refine (Tryz.strings_IndexByte _ _ _).mono ?_; rintro e w' ⟨rfl, rfl⟩))
      go_ret
      exact ⟨ret_int (by rw [HC.out]; rfl), rfl⟩
  · by_cases hp : Tk.pair c d = true
    · have h := of_decide_eq_true hp
      rcases h with ⟨rfl, rfl⟩ | ⟨rfl, rfl⟩ | ⟨rfl, rfl⟩
      all_goals
        clear hp
        go_enter Tryz.func496, Tryz.ntmps496
        go_wp2_with fail
        go_ret
        exact ⟨rfl, rfl⟩
    · have hp : Tk.pair c d = false := by simpa using hp
      have h0 := of_decide_eq_false hp
      simp only [not_or, not_and] at h0
      obtain ⟨g1, g2, g3⟩ := h0
      have h1 : ([c, d] == [60, 61]) = false := by simp; exact g1
      have h2 : ([c, d] == [62, 61]) = false := by simp; exact g2
      have h3 : ([c, d] == [60, 62]) = false := by simp; exact g3
      clear g1 g2 g3
      by_cases hc : Tk.signs.contains c = true
      · have hi : 0 ≤ Lib.indexByte [40, 41, 91, 93, 44, 59, 58, 61, 60, 62, 43, 45, 42, 47] c := (indexByte_mem Tk.signs c).1 hc
        have HC : Hid (Tk.symLen (c :: d :: r) = 1) := by show _ = _; simp only [Tk.symLen, List.headD_cons, hp, hc]; rfl
        clear hc hp
        go_enter Tryz.func496, Tryz.ntmps496
        go_wp2_with ((go_at_call 561; refine (Tryz.strings_IndexByte _ _ _).mono ?_; rintro e w' ⟨rfl, rfl⟩))
        go_ret
        exact ⟨ret_int (by rw [HC.out]; rfl), rfl⟩
      · have hc : Tk.signs.contains c = false := by simpa using hc
        have hi : Lib.indexByte [40, 41, 91, 93, 44, 59, 58, 61, 60, 62, 43, 45, 42, 47] c < 0 := by have := (indexByte_mem Tk.signs c).2 hc; unfold Tk.signs at this; omega
        have HC : Hid (Tk.symLen (c :: d :: r) = 0) := by show _ = _; simp only [Tk.symLen, List.headD_cons, hp, hc]; rfl
        clear hc hp
        go_enter Tryz.func496, Tryz.ntmps496
        go_wp2_with ((go_at_call 561; refine (Tryz.strings_IndexByte _ _ _).mono ?_; rintro e w' ⟨rfl, rfl⟩))
        go_ret
        exact ⟨ret_int (by rw [HC.out]; rfl), rfl⟩

/-- The form of a date, place by place. -/
theorem form_get (ps : List Bool) (l : List UInt8) (h : Tk.form ps l = true) : ps.length ≤ l.length ∧ ∀ i (hi : i < l.length) (hp : i < ps.length), (if ps[i] = true then Tk.isDig l[i] else decide (l[i].toNat = 45)) = true := by
  induction ps generalizing l with
  | nil => exact ⟨by simp, fun i _ hp => by simp at hp⟩
  | cons p ps ih =>
    cases l with
    | nil => simp [Tk.form] at h
    | cons c r =>
      rw [Tk.form, Bool.and_eq_true] at h
      obtain ⟨h1, h2⟩ := ih r h.2
      refine ⟨by simp; omega, fun i hi hp => ?_⟩
      cases i with
      | zero => simpa using h.1
      | succ i => simp at hi hp ⊢; simpa using h2 i hi hp
theorem form_of (ps : List Bool) (l : List UInt8) (hl : ps.length ≤ l.length) (h : ∀ i (hi : i < l.length) (hp : i < ps.length), (if ps[i] = true then Tk.isDig l[i] else decide (l[i].toNat = 45)) = true) : Tk.form ps l = true := by
  induction ps generalizing l with
  | nil => rfl
  | cons p ps ih =>
    cases l with
    | nil => simp at hl
    | cons c r =>
      rw [Tk.form, Bool.and_eq_true]
      refine ⟨h 0 (by simp) (by simp), ih r (by simpa using hl) fun i hi hp => ?_⟩
      exact h (i + 1) (by simpa using hi) (by simpa using hp)

def dateAt (l : List UInt8) (i : Nat) : Bool := if i = 4 ∨ i = 7 then decide ((l.getD i 0).toNat = 45) else Tk.isDig (l.getD i 0)
theorem dateForm_iff (l : List UInt8) : Tk.dateForm l = true ↔ 10 ≤ l.length ∧ ∀ i, i < 10 → dateAt l i = true := by
  have key : ∀ i (hi : i < l.length) (hp : i < 10), (if [true, true, true, true, false, true, true, false, true, true][i] = true then Tk.isDig l[i] else decide (l[i].toNat = 45)) = dateAt l i := by
    intro i hi hp
    unfold dateAt
    rw [getD_eq l i hi]
    have : i = 0 ∨ i = 1 ∨ i = 2 ∨ i = 3 ∨ i = 4 ∨ i = 5 ∨ i = 6 ∨ i = 7 ∨ i = 8 ∨ i = 9 := by omega
    rcases this with rfl | rfl | rfl | rfl | rfl | rfl | rfl | rfl | rfl | rfl <;> simp
  constructor
  · intro h
    obtain ⟨h1, h2⟩ := form_get _ _ h
    simp at h1
    exact ⟨h1, fun i hi => by rw [← key i (by omega) hi]; exact h2 i (by omega) (by simpa using hi)⟩
  · rintro ⟨h1, h2⟩
    refine form_of _ _ (by simpa using h1) fun i hi hp => ?_
    have hp' : i < 10 := by simpa using hp
    rw [key i hi hp']; exact h2 i hp'

set_option maxHeartbeats 1000000 in
theorem isDate_any (l : List UInt8) (w : World) (hs : l.length ≤ maxLen) :
    Calls Tryz.prog 493 #[.string ⟨l.toArray⟩] w fun e w' => e = .returned (.bool (Tk.dateForm l)) ∧ w = w' := by
  unfold maxLen at hs
  by_cases h10 : 10 ≤ l.length
  · go_enter Tryz.func493, Tryz.ntmps493
    go_wp2_with fail
    go_loop [7] (fun n => ∃ k : Nat, k ≤ 10 ∧ n = .int .i64 k ∧ Hid (∀ j, j < k → dateAt l j = true)) (fun i => 10 - (intOf i).toNat)
    case atStart => exact ⟨0, Nat.zero_le _, rfl, fun _ h => by omega⟩
    case round =>
      obtain ⟨k, hk, rfl, HA⟩ := hrel
      by_cases hlt : k < 10
      · have hkl : k < l.length := by omega
        by_cases hd : dateAt l k = true
        · have HD := Lib.hid hd
          have hnext : Hid (∀ j, j < k + 1 → dateAt l j = true) := fun j hj => if e : j = k then by subst e; exact HD.out else HA.out j (by omega)
          unfold dateAt at hd
          rw [getD_eq l k hkl] at hd
          by_cases h47 : k = 4 ∨ k = 7
          · rw [if_pos h47] at hd
            have hb : ((l[k].toNat : Int) != 45) = false := by simp at hd ⊢; omega
            clear hd
            rcases h47 with h47 | h47
            · have g1 : ((k : Int) == 4) = true := by simp; omega
              clear h47
              go_wp2_with fail
              go_round
              case rel => exact ⟨k + 1, by omega, by go_num, hnext⟩
              case measure => simp [intOf]; omega
            · have g1 : ((k : Int) == 4) = false := by simp; omega
              have g2 : ((k : Int) == 7) = true := by simp; omega
              clear h47
              go_wp2_with fail
              go_round
              case rel => exact ⟨k + 1, by omega, by go_num, hnext⟩
              case measure => simp [intOf]; omega
          · rw [if_neg h47] at hd
            have g1 : ((k : Int) == 4) = false := by simp; omega
            have g2 : ((k : Int) == 7) = false := by simp; omega
            clear h47
            go_wp2_with ((go_at_call 123; refine (isDigit_any _ _).mono ?_; rintro e w' ⟨rfl, rfl⟩))
            go_round
            case rel => exact ⟨k + 1, by omega, by go_num, hnext⟩
            case measure => simp [intOf]; omega
        · have HF : Hid (Tk.dateForm l = false) := by
            show _ = _
            rw [Bool.eq_false_iff]
            exact fun h => hd (((dateForm_iff l).1 h).2 k hlt)
          have hd : dateAt l k = false := by simpa using hd
          unfold dateAt at hd
          rw [getD_eq l k hkl] at hd
          by_cases h47 : k = 4 ∨ k = 7
          · rw [if_pos h47] at hd
            have hb : ((l[k].toNat : Int) != 45) = true := by simp at hd ⊢; omega
            clear hd
            rcases h47 with h47 | h47
            · have g1 : ((k : Int) == 4) = true := by simp; omega
              clear h47
              go_wp2_with fail
              go_ret
              exact ⟨ret_bool HF.out.symm, rfl⟩
            · have g1 : ((k : Int) == 4) = false := by simp; omega
              have g2 : ((k : Int) == 7) = true := by simp; omega
              clear h47
              go_wp2_with fail
              go_ret
              exact ⟨ret_bool HF.out.symm, rfl⟩
          · rw [if_neg h47] at hd
            have g1 : ((k : Int) == 4) = false := by simp; omega
            have g2 : ((k : Int) == 7) = false := by simp; omega
            clear h47
            go_wp2_with ((go_at_call 123; refine (isDigit_any _ _).mono ?_; rintro e w' ⟨rfl, rfl⟩))
            go_ret
            exact ⟨ret_bool HF.out.symm, rfl⟩
      · have HF : Hid (Tk.dateForm l = true) := (dateForm_iff l).2 ⟨h10, fun i hi => HA.out i (by omega)⟩
        go_wp2_with fail
        go_ret
        exact ⟨ret_bool HF.out.symm, rfl⟩
  · have HF : Hid (Tk.dateForm l = false) := by
      show _ = _
      rw [Bool.eq_false_iff]
      exact fun h => h10 ((dateForm_iff l).1 h).1
    go_enter Tryz.func493, Tryz.ntmps493
    go_wp2_with fail
    go_ret
    exact ⟨ret_bool HF.out.symm, rfl⟩
end Go.Proofs.YtdcbnkimjhefkaaGreatDoor

namespace Go.Proofs.YtdcbnkimjhefkaaGreatDoor
open Go.RowKit
attribute [local go_sem] ba_get ba_extract take_rest

theorem rdigit_any (c : UInt8) (w : World) :
    Calls Tryz.prog 171 #[.int .u8 c.toNat] w fun e w' => e = .returned (.bool (Tk.isDig c)) ∧ w = w' := by
  go_enter Tryz.func171, Tryz.ntmps171
  go_wp2
  all_goals
    go_ret
    refine ⟨ret_bool ?_, rfl⟩
    unfold Tk.isDig
    rw [Bool.eq_iff_iff]
    simp
    omega

theorem rlower_any (c : UInt8) (w : World) :
    Calls Tryz.prog 170 #[.int .u8 c.toNat] w fun e w' => e = .returned (.bool (Tk.isLow c)) ∧ w = w' := by
  go_enter Tryz.func170, Tryz.ntmps170
  go_wp2
  all_goals
    go_ret
    refine ⟨ret_bool ?_, rfl⟩
    unfold Tk.isLow
    rw [Bool.eq_iff_iff]
    simp
    omega

theorem wordLen_lead (c : UInt8) (r : List UInt8) (h : Tk.isLow c = true) : Tk.wordLen (c :: r) = Tk.lead Tk.isWord (c :: r) := by
  have : Tk.isWord c = true := by simp [Tk.isWord, h]
  simp only [Tk.wordLen, h, if_true, Tk.lead, this]
theorem drop_consR (l : List UInt8) (p : Nat) (h : p < l.length) : l.drop p = l[p] :: l.drop (p + 1) := List.drop_eq_getElem_cons h

set_option maxHeartbeats 1000000 in
theorem rword_any (l : List UInt8) (p : Nat) (w : World) (hs : l.length ≤ maxLen) (hp : p ≤ l.length) :
    Calls Tryz.prog 116 #[.string ⟨l.toArray⟩, .int .i64 p] w fun e w' => e = .returned (.int .i64 (p + Tk.wordLen (l.drop p) : Nat)) ∧ w = w' := by
  unfold maxLen at hs
  by_cases hlt : p < l.length
  · by_cases hc : Tk.isLow l[p] = true
    · have HW : Hid (Tk.wordLen (l.drop p) = Tk.lead Tk.isWord (l.drop p)) := by show _ = _; rw [drop_consR l p hlt, wordLen_lead _ _ hc]
      have HC := Lib.hid hc
      clear hc
      have g0 : decide (l.length ≤ p) = false := by simp; omega
      go_enter Tryz.func116, Tryz.ntmps116
      go_wp2_with fail
      refine (rlower_any _ _).mono ?_
      rintro e w' ⟨rfl, rfl⟩
      rw [HC.out]
      go_wp2_with fail
      clear g0
      go_loop [1] (fun n => ∃ k : Nat, p + k ≤ l.length ∧ n = .int .i64 (p + k : Nat) ∧ Hid (∀ j (h : p + j < l.length), j < k → Tk.isWord l[p + j] = true)) (fun i => l.length - (intOf i).toNat)
      case atStart => exact ⟨0, by omega, rfl, fun _ _ h => by omega⟩
      case round =>
        obtain ⟨k, hk, rfl, HA⟩ := hrel
        have HE : Hid (∀ (hs : ∀ h : p + k < l.length, Tk.isWord l[p + k] = false), Tk.wordLen (l.drop p) = k) := by
          show ∀ _, _
          intro hs
          rw [HW.out]
          refine Tk.lead_eq _ _ k (by simp; omega) (fun j h hj => ?_) (fun h => ?_)
          · rw [List.getElem_drop]; exact HA.out j (by simp at h; omega) hj
          · rw [List.getElem_drop]; exact hs (by simp at h; omega)
        by_cases hlk : p + k < l.length
        · by_cases hd : Tk.isWord l[p + k] = true
          · have HD := Lib.hid hd
            have HN : Hid (∀ j (h : p + j < l.length), j < k + 1 → Tk.isWord l[p + j] = true) := fun j h hj => if e : j = k then by subst e; exact HD.out else HA.out j h (by omega)
            rcases (isWord_cases _).1 hd with h1 | ⟨h1, h2⟩ | ⟨h1, h2, h3⟩
            all_goals clear hd
            · go_wp2_with ((first | (go_at_call 170; refine (rlower_any _ _).mono ?_; rintro e w' ⟨rfl, rfl⟩) | (go_at_call 171; refine (rdigit_any _ _).mono ?_; rintro e w' ⟨rfl, rfl⟩)))
              go_round
              case rel => first | exact ⟨k + 1, by omega, by go_num, HN⟩ | ((repeat apply Exists.intro); exact ⟨⟨k + 1, by omega, by go_num, HN⟩, rfl⟩)
              case measure => simp [intOf]; omega
            · go_wp2_with ((first | (go_at_call 170; refine (rlower_any _ _).mono ?_; rintro e w' ⟨rfl, rfl⟩) | (go_at_call 171; refine (rdigit_any _ _).mono ?_; rintro e w' ⟨rfl, rfl⟩)))
              go_round
              case rel => first | exact ⟨k + 1, by omega, by go_num, HN⟩ | ((repeat apply Exists.intro); exact ⟨⟨k + 1, by omega, by go_num, HN⟩, rfl⟩)
              case measure => simp [intOf]; omega
            · have h4 : ((l[p + k].toNat : Int) == 95) = true := by simp; omega
              clear h3
              go_wp2_with ((first | (go_at_call 170; refine (rlower_any _ _).mono ?_; rintro e w' ⟨rfl, rfl⟩) | (go_at_call 171; refine (rdigit_any _ _).mono ?_; rintro e w' ⟨rfl, rfl⟩)))
              go_round
              case rel => first | exact ⟨k + 1, by omega, by go_num, HN⟩ | ((repeat apply Exists.intro); exact ⟨⟨k + 1, by omega, by go_num, HN⟩, rfl⟩)
              case measure => simp [intOf]; omega
          · have hd : Tk.isWord l[p + k] = false := by simpa using hd
            have HF : Hid (Tk.wordLen (l.drop p) = k) := HE.out (fun _ => hd)
            obtain ⟨h1, h2, h4⟩ := isWord_false hd
            clear hd
            go_wp2_with ((first | (go_at_call 170; refine (rlower_any _ _).mono ?_; rintro e w' ⟨rfl, rfl⟩) | (go_at_call 171; refine (rdigit_any _ _).mono ?_; rintro e w' ⟨rfl, rfl⟩)))
            go_ret
            exact ⟨ret_int (by rw [HF.out]; omega), rfl⟩
        · have HF : Hid (Tk.wordLen (l.drop p) = k) := HE.out (fun h => absurd h hlk)
          go_wp2_with fail
          go_ret
          exact ⟨ret_int (by rw [HF.out]), rfl⟩
    · have hc : Tk.isLow l[p] = false := by simpa using hc
      have HF : Hid (Tk.wordLen (l.drop p) = 0) := by show _ = _; rw [drop_consR l p hlt]; simp [Tk.wordLen, hc]
      have HC := Lib.hid hc
      clear hc
      go_enter Tryz.func116, Tryz.ntmps116
      go_wp2_with fail
      refine (rlower_any _ _).mono ?_
      rintro e w' ⟨rfl, rfl⟩
      rw [HC.out]
      go_wp2_with fail
      go_ret
      exact ⟨ret_int (by rw [HF.out]; rfl), rfl⟩
  · have HF : Hid (Tk.wordLen (l.drop p) = 0) := by show _ = _; rw [List.drop_of_length_le (by omega)]; rfl
    go_enter Tryz.func116, Tryz.ntmps116
    go_wp2_with fail
    go_ret
    exact ⟨ret_int (by rw [HF.out]; rfl), rfl⟩

theorem or_two {p q G : Prop} (h : p ∨ q) (h1 : p → G) (h2 : q → G) : G := h.elim h1 h2
theorem keywords_len : Tk.keywords.length = 34 := by decide
theorem keyBlock (w : World) (k : Nat) (hk : k < 34) : (w.alloc (.cells (Tk.keywords.map fun x => Value.string ⟨x.toArray⟩).toArray 9)).cell? ⟨w.heap.size, k, none⟩ = some (.string ⟨(Tk.keywords[k]'(by rw [keywords_len]; exact hk)).toArray⟩) := by
  rw [Lib.cell_of_heap (heap_alloc_new w _), List.getElem?_toArray, List.getElem?_map, List.getElem?_eq_getElem (by rw [keywords_len]; exact hk)]
  rfl

set_option maxHeartbeats 1000000 in
set_option maxRecDepth 100000 in
theorem risKeyword_any (l : List UInt8) (w : World) :
    Calls Tryz.prog 117 #[.string ⟨l.toArray⟩] w fun e w' => e = .returned (.bool (Tk.isKey l)) ∧ Below w.heap.size w w' := by
  go_enter Tryz.func117, Tryz.ntmps117
  go_wp2_with fail
  change Code.wp _ _ _ _ (w.alloc (.cells (Tk.keywords.map fun x => Value.string ⟨x.toArray⟩).toArray 9))
  have HC := Lib.hid (keyBlock w)
  have hB : Below w.heap.size w (w.alloc (.cells (Tk.keywords.map fun x => Value.string ⟨x.toArray⟩).toArray 9)) := (Below.refl _ _).alloc (Nat.le_refl _) _
  generalize w.alloc (.cells (Tk.keywords.map fun x => Value.string ⟨x.toArray⟩).toArray 9) = w1 at *
  go_loop [4] (fun i => ∃ k : Nat, k ≤ 34 ∧ i = .int .i64 k ∧ Hid (∀ j (h : j < Tk.keywords.length), j < k → Tk.keywords[j] ≠ l)) (fun i => 34 - (intOf i).toNat)
  case atStart => exact ⟨0, Nat.zero_le _, rfl, fun _ _ h => by omega⟩
  case round =>
    obtain ⟨k, hk, rfl, HA⟩ := hrel
    by_cases hlt : k < 34
    · have hc := HC.out k hlt
      have hkl : k < Tk.keywords.length := by rw [keywords_len]; exact hlt
      by_cases he : Tk.keywords[k] = l
      · have HF : Hid (Tk.isKey l = true) := by show _ = _; unfold Tk.isKey; rw [List.contains_iff_mem, ← he]; exact List.getElem_mem _
        rw [he] at hc
        clear he
        go_wp2_with fail
        go_ret
        exact ⟨ret_bool HF.out.symm, hB⟩
      · have HN : Hid (∀ j (h : j < Tk.keywords.length), j < k + 1 → Tk.keywords[j] ≠ l) := fun j h hj => if e : j = k then by subst e; exact he else HA.out j h (by omega)
        generalize Tk.keywords[k] = x at *
        have g : (x == l) = false := by simpa using he
        clear he
        go_wp2_with fail
        go_round
        case rel => exact ⟨k + 1, by omega, by go_num, HN⟩
        case measure => simp [intOf]; omega
    · have HF : Hid (Tk.isKey l = false) := by
        show _ = _
        unfold Tk.isKey
        rw [Bool.eq_false_iff]
        intro h
        obtain ⟨j, hj, e⟩ := List.getElem_of_mem (List.contains_iff_mem.1 h)
        exact HA.out j hj (by rw [keywords_len] at hj; omega) e
      go_wp2_with fail
      go_ret
      exact ⟨ret_bool HF.out.symm, hB⟩

set_option maxHeartbeats 1000000 in
theorem risName_any (l : List UInt8) (w : World) (hs : l.length ≤ maxLen) :
    Calls Tryz.prog 70 #[.string ⟨l.toArray⟩] w fun e w' => e = .returned (.bool (Tk.isName l)) ∧ Below w.heap.size w w' := by
  have hs' := hs
  unfold maxLen at hs
  cases l with
  | nil =>
    go_enter Tryz.func70, Tryz.ntmps70
    go_wp2_with fail
    go_ret
    exact ⟨rfl, Below.refl _ _⟩
  | cons c r =>
    by_cases h1 : (c :: r).length ≤ 24
    · by_cases h2 : Tk.wordLen (c :: r) = (c :: r).length
      · have HN : Hid (Tk.isName (c :: r) = !Tk.isKey (c :: r)) := by show _ = _; simp [Tk.isName, h2]; intro _; simpa using h1
        have H2 := Lib.hid h2
        simp only [List.length_cons] at h1
        clear h2
        go_enter Tryz.func70, Tryz.ntmps70
        go_wp2_with fail
        refine (rword_any (c :: r) 0 _ hs' (Nat.zero_le _)).mono ?_
        rintro e w' ⟨rfl, rfl⟩
        rw [List.drop_zero, H2.out]
        simp only [Nat.zero_add, List.length_cons]
        go_wp2_with fail
        refine (risKeyword_any _ _).mono ?_
        rintro e w' ⟨rfl, hb⟩
        go_wp2_with fail
        go_ret
        exact ⟨ret_bool HN.out.symm, hb⟩
      · have HN : Hid (Tk.isName (c :: r) = false) := by show _ = _; simp only [Tk.isName, h2]; simp
        have h3 : ((Tk.wordLen (c :: r) : Int) == (r.length : Int) + 1) = false := by simp at h2 ⊢; omega
        simp only [List.length_cons] at h1
        clear h2
        generalize hW : Tk.wordLen (c :: r) = W at *
        have HW := Lib.hid hW
        clear hW
        go_enter Tryz.func70, Tryz.ntmps70
        go_wp2_with fail
        refine (rword_any (c :: r) 0 _ hs' (Nat.zero_le _)).mono ?_
        rintro e w' ⟨rfl, rfl⟩
        rw [List.drop_zero, HW.out]
        simp only [Nat.zero_add]
        go_wp2_with fail
        go_ret
        exact ⟨ret_bool HN.out.symm, Below.refl _ _⟩
    · have HN : Hid (Tk.isName (c :: r) = false) := by show _ = _; simp only [Tk.isName, h1]; simp
      simp only [List.length_cons] at h1
      go_enter Tryz.func70, Tryz.ntmps70
      go_wp2_with fail
      go_ret
      exact ⟨ret_bool HN.out.symm, Below.refl _ _⟩

theorem signs_len : Tk.signs.length = 14 := by decide
theorem signBlock (w : World) (k : Nat) (hk : k < 14) : (w.alloc (.cells (Tk.signs.map fun x => Value.int .u8 x.toNat).toArray 5 (14, 15))).cell? ⟨w.heap.size, k, none⟩ = some (.int .u8 ((Tk.signs[k]'(by rw [signs_len]; exact hk)).toNat)) := by
  rw [Lib.cell_of_heap (heap_alloc_new w _), List.getElem?_toArray, List.getElem?_map, List.getElem?_eq_getElem (by rw [signs_len]; exact hk)]
  rfl

/-- The symbol at a place, case by case. -/
theorem sym_case (l : List UInt8) (p : Nat) (hp : p < l.length) :
    (p + 2 ≤ l.length ∧ ((l.drop p).take 2 = [60, 61] ∨ (l.drop p).take 2 = [62, 61] ∨ (l.drop p).take 2 = [60, 62]) ∧ Tk.symLen (l.drop p) = 2) ∨
    ((p + 2 ≤ l.length → (l.drop p).take 2 ≠ [60, 61] ∧ (l.drop p).take 2 ≠ [62, 61] ∧ (l.drop p).take 2 ≠ [60, 62]) ∧ Tk.symLen (l.drop p) = if Tk.signs.contains l[p] = true then 1 else 0) := by
  rw [drop_consR l p hp]
  generalize hc : l[p] = c
  rcases Nat.lt_or_ge (p + 1) l.length with h | h
  · rw [drop_consR l (p + 1) h]
    generalize l[p + 1] = d
    cases hpair : Tk.pair c d
    · refine .inr ⟨fun _ => ?_, ?_⟩
      · have h0 := of_decide_eq_false hpair
        simp only [not_or, not_and] at h0
        simp only [List.take_succ_cons, List.take_zero, ne_eq, List.cons.injEq, and_true, not_and]
        exact h0
      · simp only [Tk.symLen, List.headD_cons, hpair, Bool.false_eq_true, if_false]
    · refine .inl ⟨by omega, ?_, ?_⟩
      · have h0 := of_decide_eq_true hpair
        simp only [List.take_succ_cons, List.take_zero, List.cons.injEq, and_true]
        exact h0
      · simp only [Tk.symLen, List.headD_cons, hpair, if_true]
  · rw [List.drop_of_length_le h]
    refine .inr ⟨fun h' => by omega, ?_⟩
    have hp0 : Tk.pair c 0 = false := by simp [Tk.pair]
    simp only [Tk.symLen, List.headD_nil, hp0, Bool.false_eq_true, if_false]

end Go.Proofs.YtdcbnkimjhefkaaGreatDoor

namespace Go.Proofs.YtdcbnkimjhefkaaGreatDoor
open Go.RowKit
theorem ret_intC {a b : Int} (h : a = b) : Ending.returned (.int .u64 a) = .returned (.int .u64 b) := by rw [h]
def intOfC : Value → Int
  | .int _ n => n
  | _ => 0
theorem sizeAll_any (n : Int) (w : World) (h0 : -9223372036854775808 ≤ n) (h1 : n ≤ 9223372036854775807) :
    Calls Tryz.prog 109 #[.int .i64 n] w fun e w' => e = .returned (.int .u64 (n.natAbs : Nat)) ∧ w = w' := by
  by_cases hn : n < 0
  · go_enter Tryz.func109, Tryz.ntmps109
    go_wp2_with fail
    go_ret
    refine ⟨ret_intC ?_, rfl⟩
    first | omega | (simp only [IntKind.wrap_u64]; omega)
  · go_enter Tryz.func109, Tryz.ntmps109
    go_wp2_with fail
    go_ret
    exact ⟨ret_intC (by first | omega | (simp only [IntKind.wrap_u64]; omega)), rfl⟩
theorem conv_one (w : World) (n : Int) : (convert 68 9 (.slice (some ⟨w.heap.size, 0, none⟩) 1 1)).run Tryz.prog (w.alloc (.cells #[.int .u8 n] 5)) = .ok (.string ⟨[UInt8.ofNat n.toNat].toArray⟩) (w.alloc (.cells #[.int .u8 n] 5)) :=
  run_convert_bytes_arg _ 68 5 Tryz.underlying68 Tryz.underlying5 w.heap.size 0 1 1 [n] rfl (fun i hi => by
    obtain rfl : i = 0 := by omega
    simp) 9 Tryz.underlying9
attribute [local go_sem] ba_get ba_extract take_rest ba_append conv_one

/-- What stands in the text s while the digits of m are still to come. -/
def DecPre (D : List UInt8) (m : Nat) (s : List UInt8) : Prop := (s = [] ∧ D = Lib.decDigits m) ∨ (s ≠ [] ∧ ((m = 0 ∧ s = D) ∨ (0 < m ∧ Lib.decDigits m ++ s = D)))
theorem dec_last (m : Nat) : Lib.decDigits m = (if m < 10 then [] else Lib.decDigits (m / 10)) ++ [UInt8.ofNat (48 + m % 10)] := by
  rw [Lib.decDigits]
  split
  · rename_i h; rw [Nat.mod_eq_of_lt h]; rfl
  · rfl
theorem DecPre.next {D : List UInt8} {m : Nat} {s : List UInt8} (h : DecPre D m s) (hc : 0 < m ∨ s = []) : DecPre D (m / 10) (UInt8.ofNat (48 + m % 10) :: s) := by
  have hD : Lib.decDigits m ++ s = D := by
    rcases h with ⟨rfl, rfl⟩ | ⟨h1, ⟨h2, h3⟩ | ⟨_, h2⟩⟩
    · simp
    · rcases hc with hc | hc
      · omega
      · exact (h1 hc).elim
    · exact h2
  rw [dec_last m, List.append_assoc] at hD
  refine .inr ⟨by simp, ?_⟩
  by_cases h10 : m < 10
  · rw [if_pos h10] at hD
    exact .inl ⟨by omega, hD⟩
  · rw [if_neg h10] at hD
    exact .inr ⟨by omega, hD⟩
theorem DecPre.len {n : Int} {m : Nat} {s : List UInt8} (h : DecPre (Lib.decDigits n.natAbs) m s) (h0 : -9223372036854775808 ≤ n) (h1 : n ≤ 9223372036854775807) : s.length ≤ 22 := by
  have hl : (Lib.decDigits n.natAbs).length ≤ 21 := by
    rw [Lib.decDigits_length]
    have := Lib.nDigits_le20 n.natAbs (by omega)
    omega
  rcases h with ⟨rfl, _⟩ | ⟨_, ⟨_, rfl⟩ | ⟨_, e⟩⟩
  · simp
  · omega
  · have := congrArg List.length e
    rw [List.length_append] at this
    omega
theorem DecPre.done {D : List UInt8} {s : List UInt8} (h : DecPre D 0 s) (hs : s ≠ []) : s = D := by
  rcases h with ⟨e, _⟩ | ⟨_, ⟨_, e⟩ | ⟨e, _⟩⟩
  · exact (hs e).elim
  · exact e
  · omega
def emptyOf : Value → Nat
  | .string ⟨⟨[]⟩⟩ => 1
  | _ => 0
theorem emptyOf_cons (c : UInt8) (l : List UInt8) : emptyOf (.string ⟨(c :: l).toArray⟩) = 0 := rfl
theorem emptyOf_nil : emptyOf (.string ⟨([] : List UInt8).toArray⟩) = 1 := rfl
theorem byte_add (k : Nat) : 48 + UInt8.ofNat k = UInt8.ofNat (48 + k) := by simp [UInt8.ofNat_add]

set_option maxHeartbeats 2000000 in
set_option maxRecDepth 100000 in
theorem rdecAll_any (n : Int) (w : World) (h0 : -9223372036854775808 ≤ n) (h1 : n ≤ 9223372036854775807) :
    Calls Tryz.prog 55 #[.int .i64 n] w fun e w' => e = .returned (.string ⟨(Lib.itoa n).toArray⟩) ∧ Below w.heap.size w w' := by
  go_enter Tryz.func55, Tryz.ntmps55
  go_wp2_with fail
  refine (sizeAll_any n _ h0 h1).mono ?_
  rintro e w' ⟨rfl, rfl⟩
  go_wp2_with fail
  go_loopw [3, 4] (fun s m wr => ∃ (l : List UInt8) (k : Nat), s = .string ⟨l.toArray⟩ ∧ m = .int .u64 (k : Nat) ∧ k ≤ 9223372036854775808 ∧ Hid (DecPre (Lib.decDigits n.natAbs) k l) ∧ l.length ≤ 22 ∧ Below w.heap.size w wr) (fun s m _ => 2 * (intOfC m).toNat + emptyOf s)
  case atStart => exact ⟨[], n.natAbs, rfl, rfl, by omega, .inl ⟨rfl, rfl⟩, by simp, Below.refl _ _⟩
  case round =>
    obtain ⟨l, k, rfl, rfl, hk, HD, hl, hB⟩ := hrel
    have HB := Lib.hid hB
    by_cases hc : 0 < k ∨ l = []
    · have HN := Lib.hid (HD.out.next hc)
      have HL : Hid ((UInt8.ofNat (48 + k % 10) :: l).length ≤ 22) := HN.out.len h0 h1
      have hm : k % 10 < 10 := Nat.mod_lt _ (by decide)
      by_cases hk0 : 0 < k
      · clear hc hB
        go_wp2_with fail
        go_round
        case rel => exact ⟨UInt8.ofNat (48 + k % 10) :: l, k / 10, by simp, by go_num, by omega, HN, HL.out, HB.out.alloc HB.out.size _⟩
        case measure =>
          rw [byte_add, emptyOf_cons]
          show 2 * ((k : Int) / 10).toNat + 0 < 2 * (k : Int).toNat + _
          omega
      · have hl0 : l = [] := by rcases hc with h | h; exact (hk0 h).elim; exact h
        have hk1 : k = 0 := by omega
        subst hl0 hk1
        clear hc hB hk0
        go_wp2_with fail
        go_round
        case rel => exact ⟨[48], 0, by simp, by go_num, by omega, HN, by simp, HB.out.alloc HB.out.size _⟩
        case measure => decide
    · have hk0 : k = 0 := by omega
      subst hk0
      have hl0 : l ≠ [] := fun e => hc (.inr e)
      have HE := Lib.hid (HD.out.done hl0)
      obtain ⟨c, r, rfl⟩ := List.exists_cons_of_ne_nil hl0
      have hl0 : (c :: r).isEmpty = false := rfl
      have hl1 : r.length ≤ 21 := by simpa using hl
      clear hl
      clear hc hB
      by_cases hn : n < 0
      · have HI : Hid (Lib.itoa n = 45 :: (c :: r)) := by show _ = _; unfold Lib.itoa; rw [if_pos hn, HE.out]
        go_wp2_with fail
        go_ret
        exact ⟨ret_str (by rw [HI.out]), HB.out⟩
      · have HI : Hid (Lib.itoa n = c :: r) := by show _ = _; unfold Lib.itoa; rw [if_neg hn, HE.out, show n.toNat = n.natAbs by omega]
        go_wp2_with fail
        go_ret
        exact ⟨ret_str HI.out.symm, HB.out⟩
end Go.Proofs.YtdcbnkimjhefkaaGreatDoor

/-
  The walks of the reference's small functions on texts (payrollref17): digit, lower, word, date.
-/
import Derived.Test.YtpdbkbadjgellaaDoorTkC
namespace Go.Proofs.YtpdbkbadjgellaaDoor
open Go.RowKit
attribute [local go_sem] ba_get ba_extract take_rest

theorem rdigit_any (c : UInt8) (w : World) :
    Calls Tryd.prog 25 #[.int .u8 c.toNat] w fun e w' => e = .returned (.bool (Tk.isDig c)) ∧ w = w' := by
  go_enter Tryd.func25, Tryd.ntmps25
  go_wp2
  all_goals
    go_ret
    refine ⟨ret_bool ?_, rfl⟩
    unfold Tk.isDig
    rw [Bool.eq_iff_iff]
    simp
    omega

theorem rlower_any (c : UInt8) (w : World) :
    Calls Tryd.prog 27 #[.int .u8 c.toNat] w fun e w' => e = .returned (.bool (Tk.isLow c)) ∧ w = w' := by
  go_enter Tryd.func27, Tryd.ntmps27
  go_wp2
  all_goals
    go_ret
    refine ⟨ret_bool ?_, rfl⟩
    unfold Tk.isLow
    rw [Bool.eq_iff_iff]
    simp
    omega

theorem wordLen_lead (c : UInt8) (r : List UInt8) (h : Tk.isLow c = true) : Tk.wordLen (c :: r) = Tk.lead Tk.isWord (c :: r) := by
  have : Tk.isWord c = true := by simp [Tk.isWord, h]
  simp only [Tk.wordLen, h, if_true, Tk.lead, this]
theorem drop_cons (l : List UInt8) (p : Nat) (h : p < l.length) : l.drop p = l[p] :: l.drop (p + 1) := List.drop_eq_getElem_cons h

set_option maxHeartbeats 1000000 in
theorem rword_any (l : List UInt8) (p : Nat) (w : World) (hs : l.length ≤ maxLen) (hp : p ≤ l.length) :
    Calls Tryd.prog 28 #[.string ⟨l.toArray⟩, .int .i64 p] w fun e w' => e = .returned (.int .i64 (p + Tk.wordLen (l.drop p) : Nat)) ∧ w = w' := by
  unfold maxLen at hs
  by_cases hlt : p < l.length
  · by_cases hc : Tk.isLow l[p] = true
    · have HW : Hid (Tk.wordLen (l.drop p) = Tk.lead Tk.isWord (l.drop p)) := by show _ = _; rw [drop_cons l p hlt, wordLen_lead _ _ hc]
      have HC := Lib.hid hc
      clear hc
      have g0 : decide (l.length ≤ p) = false := by simp; omega
      go_enter Tryd.func28, Tryd.ntmps28
      go_wp2_with fail
      refine (rlower_any _ _).mono ?_
      rintro e w' ⟨rfl, rfl⟩
      rw [HC.out]
      go_wp2_with fail
      clear g0
      go_loop [1] (fun n => ∃ k : Nat, p + k ≤ l.length ∧ n = .int .i64 (p + k : Nat) ∧ Hid (∀ j (h : p + j < l.length), j < k → Tk.isWord l[p + j] = true)) (fun i => l.length - (intOf i).toNat)
      case atStart => exact ⟨0, by omega, rfl, fun _ _ h => by omega⟩
      case round =>
        obtain ⟨k, hk, rfl, HA⟩ := hrel
        have HE : Hid (∀ (hs : ∀ h : p + k < l.length, Tk.isWord l[p + k] = false), Tk.wordLen (l.drop p) = k) := by
          show ∀ _, _
          intro hs
          rw [HW.out]
          refine Tk.lead_eq _ _ k (by simp; omega) (fun j h hj => ?_) (fun h => ?_)
          · rw [List.getElem_drop]; exact HA.out j (by simp at h; omega) hj
          · rw [List.getElem_drop]; exact hs (by simp at h; omega)
        by_cases hlk : p + k < l.length
        · by_cases hd : Tk.isWord l[p + k] = true
          · have HD := Lib.hid hd
            have HN : Hid (∀ j (h : p + j < l.length), j < k + 1 → Tk.isWord l[p + j] = true) := fun j h hj => if e : j = k then by subst e; exact HD.out else HA.out j h (by omega)
            rcases (isWord_cases _).1 hd with h1 | ⟨h1, h2⟩ | ⟨h1, h2, h3⟩
            all_goals clear hd
            · go_wp2_with ((first | (go_at_call 27; refine (rlower_any _ _).mono ?_; rintro e w' ⟨rfl, rfl⟩) | (go_at_call 25; refine (rdigit_any _ _).mono ?_; rintro e w' ⟨rfl, rfl⟩)))
              go_round
              case rel => first | exact ⟨k + 1, by omega, by go_num, HN⟩ | ((repeat apply Exists.intro); exact ⟨⟨k + 1, by omega, by go_num, HN⟩, rfl⟩)
              case measure => simp [intOf]; omega
            · go_wp2_with ((first | (go_at_call 27; refine (rlower_any _ _).mono ?_; rintro e w' ⟨rfl, rfl⟩) | (go_at_call 25; refine (rdigit_any _ _).mono ?_; rintro e w' ⟨rfl, rfl⟩)))
              go_round
              case rel => first | exact ⟨k + 1, by omega, by go_num, HN⟩ | ((repeat apply Exists.intro); exact ⟨⟨k + 1, by omega, by go_num, HN⟩, rfl⟩)
              case measure => simp [intOf]; omega
            · have h4 : ((l[p + k].toNat : Int) == 95) = true := by simp; omega
              clear h3
              go_wp2_with ((first | (go_at_call 27; refine (rlower_any _ _).mono ?_; rintro e w' ⟨rfl, rfl⟩) | (go_at_call 25; refine (rdigit_any _ _).mono ?_; rintro e w' ⟨rfl, rfl⟩)))
              go_round
              case rel => first | exact ⟨k + 1, by omega, by go_num, HN⟩ | ((repeat apply Exists.intro); exact ⟨⟨k + 1, by omega, by go_num, HN⟩, rfl⟩)
              case measure => simp [intOf]; omega
          · have hd : Tk.isWord l[p + k] = false := by simpa using hd
            have HF : Hid (Tk.wordLen (l.drop p) = k) := HE.out (fun _ => hd)
            obtain ⟨h1, h2, h4⟩ := isWord_false hd
            clear hd
            go_wp2_with ((first | (go_at_call 27; refine (rlower_any _ _).mono ?_; rintro e w' ⟨rfl, rfl⟩) | (go_at_call 25; refine (rdigit_any _ _).mono ?_; rintro e w' ⟨rfl, rfl⟩)))
            go_ret
            exact ⟨ret_int (by rw [HF.out]; omega), rfl⟩
        · have HF : Hid (Tk.wordLen (l.drop p) = k) := HE.out (fun h => absurd h hlk)
          go_wp2_with fail
          go_ret
          exact ⟨ret_int (by rw [HF.out]), rfl⟩
    · have hc : Tk.isLow l[p] = false := by simpa using hc
      have HF : Hid (Tk.wordLen (l.drop p) = 0) := by show _ = _; rw [drop_cons l p hlt]; simp [Tk.wordLen, hc]
      have HC := Lib.hid hc
      clear hc
      go_enter Tryd.func28, Tryd.ntmps28
      go_wp2_with fail
      refine (rlower_any _ _).mono ?_
      rintro e w' ⟨rfl, rfl⟩
      rw [HC.out]
      go_wp2_with fail
      go_ret
      exact ⟨ret_int (by rw [HF.out]; rfl), rfl⟩
  · have HF : Hid (Tk.wordLen (l.drop p) = 0) := by show _ = _; rw [List.drop_of_length_le (by omega)]; rfl
    go_enter Tryd.func28, Tryd.ntmps28
    go_wp2_with fail
    go_ret
    exact ⟨ret_int (by rw [HF.out]; rfl), rfl⟩

set_option maxHeartbeats 1000000 in
theorem rdate_any (l : List UInt8) (p : Nat) (w : World) (hs : l.length ≤ 20000) (hp : p ≤ l.length) :
    Calls Tryd.prog 23 #[.string ⟨l.toArray⟩, .int .i64 p] w fun e w' => e = .returned (.bool (Tk.dateForm (l.drop p))) ∧ w = w' := by
  by_cases h10 : p + 10 ≤ l.length
  · go_enter Tryd.func23, Tryd.ntmps23
    go_wp2_with fail
    go_loop [5] (fun n => ∃ k : Nat, k ≤ 10 ∧ n = .int .i64 k ∧ Hid (∀ j, j < k → dateAt (l.drop p) j = true)) (fun i => 10 - (intOf i).toNat)
    case atStart => exact ⟨0, Nat.zero_le _, rfl, fun _ h => by omega⟩
    case round =>
      obtain ⟨k, hk, rfl, HA⟩ := hrel
      by_cases hlt : k < 10
      · have hkl : p + k < l.length := by omega
        have eg : (l.drop p).getD k 0 = l[p + k] := by rw [getD_eq _ k (by simp; omega), List.getElem_drop]
        by_cases hd : dateAt (l.drop p) k = true
        · have HD := Lib.hid hd
          have hnext : Hid (∀ j, j < k + 1 → dateAt (l.drop p) j = true) := fun j hj => if e : j = k then by subst e; exact HD.out else HA.out j (by omega)
          unfold dateAt at hd
          rw [eg] at hd
          clear eg
          by_cases h47 : k = 4 ∨ k = 7
          · rw [if_pos h47] at hd
            have hb : ((l[p + k].toNat : Int) == 45) = true := by simp at hd ⊢; omega
            clear hd
            rcases h47 with h47 | h47
            · have g1 : ((k : Int) == 4) = true := by simp; omega
              have g3 : ((k : Int) != 4) = false := by simp; omega
              clear h47
              go_wp2_with fail
              go_round
              case rel => exact ⟨k + 1, by omega, by go_num, hnext⟩
              case measure => simp [intOf]; omega
            · have g1 : ((k : Int) == 4) = false := by simp; omega
              have g2 : ((k : Int) == 7) = true := by simp; omega
              have g3 : ((k : Int) != 4) = true := by simp; omega
              have g4 : ((k : Int) != 7) = false := by simp; omega
              clear h47
              go_wp2_with fail
              go_round
              case rel => exact ⟨k + 1, by omega, by go_num, hnext⟩
              case measure => simp [intOf]; omega
          · rw [if_neg h47] at hd
            have g1 : ((k : Int) == 4) = false := by simp; omega
            have g2 : ((k : Int) == 7) = false := by simp; omega
            have g3 : ((k : Int) != 4) = true := by simp; omega
            have g4 : ((k : Int) != 7) = true := by simp; omega
            have hb : ((l[p + k].toNat : Int) == 45) = false := by have := of_decide_eq_true hd; simp; omega
            have HDg := Lib.hid hd
            clear h47 hd
            go_wp2_with fail
            refine (rdigit_any _ _).mono ?_
            rintro e w' ⟨rfl, rfl⟩
            rw [HDg.out]
            go_wp2_with fail
            go_round
            case rel => exact ⟨k + 1, by omega, by go_num, hnext⟩
            case measure => simp [intOf]; omega
        · have HF : Hid (Tk.dateForm (l.drop p) = false) := by
            show _ = _
            rw [Bool.eq_false_iff]
            exact fun h => hd (((dateForm_iff _).1 h).2 k hlt)
          have hd : dateAt (l.drop p) k = false := by simpa using hd
          unfold dateAt at hd
          rw [eg] at hd
          clear eg
          by_cases h47 : k = 4 ∨ k = 7
          · rw [if_pos h47] at hd
            have hb : ((l[p + k].toNat : Int) == 45) = false := by simp at hd ⊢; omega
            clear hd
            rcases h47 with h47 | h47
            · have g1 : ((k : Int) == 4) = true := by simp; omega
              clear h47
              go_wp2_with fail
              go_ret
              exact ⟨ret_bool HF.out.symm, rfl⟩
            · have g1 : ((k : Int) == 4) = false := by simp; omega
              have g2 : ((k : Int) == 7) = true := by simp; omega
              clear h47
              go_wp2_with fail
              go_ret
              exact ⟨ret_bool HF.out.symm, rfl⟩
          · rw [if_neg h47] at hd
            have g1 : ((k : Int) == 4) = false := by simp; omega
            have g2 : ((k : Int) == 7) = false := by simp; omega
            have g3 : ((k : Int) != 4) = true := by simp; omega
            have g4 : ((k : Int) != 7) = true := by simp; omega
            have HDg := Lib.hid hd
            clear h47 hd
            by_cases hy : l[p + k].toNat = 45
            · have hb : ((l[p + k].toNat : Int) == 45) = true := by simp; omega
              clear hy
              go_wp2_with fail
              go_ret
              exact ⟨ret_bool HF.out.symm, rfl⟩
            · have hb : ((l[p + k].toNat : Int) == 45) = false := by simp; omega
              clear hy
              go_wp2_with fail
              refine (rdigit_any _ _).mono ?_
              rintro e w' ⟨rfl, rfl⟩
              rw [HDg.out]
              go_wp2_with fail
              go_ret
              exact ⟨ret_bool HF.out.symm, rfl⟩
      · have HF : Hid (Tk.dateForm (l.drop p) = true) := (dateForm_iff _).2 ⟨by simp; omega, fun i hi => HA.out i (by omega)⟩
        go_wp2_with fail
        go_ret
        exact ⟨ret_bool HF.out.symm, rfl⟩
  · have HF : Hid (Tk.dateForm (l.drop p) = false) := by
      show _ = _
      rw [Bool.eq_false_iff]
      intro h
      have := ((dateForm_iff _).1 h).1
      simp at this
      omega
    go_enter Tryd.func23, Tryd.ntmps23
    go_wp2_with fail
    go_ret
    exact ⟨ret_bool HF.out.symm, rfl⟩
end Go.Proofs.YtpdbkbadjgellaaDoor

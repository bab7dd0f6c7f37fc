/-
  The walk of package token's skip.
-/
import Derived.Test.YtpdbkbadjgellaaDoorTkC
namespace Go.Proofs.YtpdbkbadjgellaaDoor
open Go.RowKit
attribute [local go_sem] ba_get ba_extract take_rest

theorem drop_cons (l : List UInt8) (k : Nat) (h : k < l.length) : l.drop k = l[k] :: l.drop (k + 1) := List.drop_eq_getElem_cons h
theorem skip_blank (l : List UInt8) (k : Nat) (h : k < l.length) (hb : Tk.isBlank l[k] = true) : k + Tk.skipN false (l.drop k) = (k + 1) + Tk.skipN false (l.drop (k + 1)) := by
  rw [drop_cons l k h, Tk.skipN, if_pos hb]; omega
theorem skip_hash (l : List UInt8) (k : Nat) (h : k < l.length) (hb : l[k].toNat = 35) : k + Tk.skipN false (l.drop k) = k + Tk.skipN true (l.drop k) := by
  rw [drop_cons l k h, Tk.skipN, Tk.skipN, if_neg (by simp [Tk.isBlank, hb]), if_pos hb, if_neg (by omega)]
theorem skip_else (l : List UInt8) (k : Nat) (h : k < l.length) (hb : Tk.isBlank l[k] = false) (hh : l[k].toNat ≠ 35) : k + Tk.skipN false (l.drop k) = k := by
  rw [drop_cons l k h, Tk.skipN, if_neg (by simp [hb]), if_neg hh]; rfl
theorem skip_end (b : Bool) (l : List UInt8) (k : Nat) (h : l.length ≤ k) : k + Tk.skipN b (l.drop k) = k := by
  rw [List.drop_of_length_le h, Tk.skipN]; rfl
theorem skip_in (l : List UInt8) (k : Nat) (h : k < l.length) (hb : l[k].toNat ≠ 10) : k + Tk.skipN true (l.drop k) = (k + 1) + Tk.skipN true (l.drop (k + 1)) := by
  rw [drop_cons l k h, Tk.skipN, if_neg hb]; omega
theorem skip_out (l : List UInt8) (k : Nat) (h : k < l.length) (hb : l[k].toNat = 10) : k + Tk.skipN true (l.drop k) = k + Tk.skipN false (l.drop k) := by
  rw [drop_cons l k h, Tk.skipN, Tk.skipN, if_pos hb, if_pos (by simp [Tk.isBlank, hb])]

set_option maxHeartbeats 1000000 in
theorem skip_any (l : List UInt8) (a : Nat) (w : World) (hs : l.length ≤ maxLen) (ha : a ≤ l.length) :
    Calls Tryd.prog 19 #[.string ⟨l.toArray⟩, .int .i64 a] w fun e w' => e = .returned (.int .i64 ((a + Tk.skipN false (l.drop a) : Nat) : Int)) ∧ w = w' := by
  unfold maxLen at hs
  generalize hT : a + Tk.skipN false (l.drop a) = T
  have HT := Lib.hid hT
  clear hT
  go_enter Tryd.func19, Tryd.ntmps19
  go_wp2_with fail
  go_loop [1] (fun n => ∃ k : Nat, k ≤ l.length ∧ n = .int .i64 k ∧ Hid (k + Tk.skipN false (l.drop k) = T)) (fun i => l.length - (intOf i).toNat)
  case atStart => exact ⟨a, ha, rfl, HT⟩
  case round =>
    obtain ⟨k, hk, rfl, HA⟩ := hrel
    by_cases hlt : k < l.length
    · by_cases hb : Tk.isBlank l[k] = true
      · have HN : Hid ((k + 1) + Tk.skipN false (l.drop (k + 1)) = T) := by show _ = _; rw [← skip_blank l k hlt hb]; exact HA.out
        have hb' := of_decide_eq_true hb
        clear hb
        rcases hb' with h | h | h | h
        · have g1 : ((l[k].toNat : Int) == 32) = true := by simp; omega
          clear h
          go_wp2_with fail
          go_round
          case rel => exact ⟨k + 1, by omega, by go_num, HN⟩
          case measure => simp [intOf]; omega
        · have g1 : ((l[k].toNat : Int) == 32) = false := by simp; omega
          have g2 : ((l[k].toNat : Int) == 9) = true := by simp; omega
          clear h
          go_wp2_with fail
          go_round
          case rel => exact ⟨k + 1, by omega, by go_num, HN⟩
          case measure => simp [intOf]; omega
        · have g1 : ((l[k].toNat : Int) == 32) = false := by simp; omega
          have g2 : ((l[k].toNat : Int) == 9) = false := by simp; omega
          have g3 : ((l[k].toNat : Int) == 10) = true := by simp; omega
          clear h
          go_wp2_with fail
          go_round
          case rel => exact ⟨k + 1, by omega, by go_num, HN⟩
          case measure => simp [intOf]; omega
        · have g1 : ((l[k].toNat : Int) == 32) = false := by simp; omega
          have g2 : ((l[k].toNat : Int) == 9) = false := by simp; omega
          have g3 : ((l[k].toNat : Int) == 10) = false := by simp; omega
          have g4 : ((l[k].toNat : Int) == 13) = true := by simp; omega
          clear h
          go_wp2_with fail
          go_round
          case rel => exact ⟨k + 1, by omega, by go_num, HN⟩
          case measure => simp [intOf]; omega
      · have hb : Tk.isBlank l[k] = false := by simpa using hb
        have hb' := of_decide_eq_false hb
        have g1 : ((l[k].toNat : Int) == 32) = false := by simp; omega
        have g2 : ((l[k].toNat : Int) == 9) = false := by simp; omega
        have g3 : ((l[k].toNat : Int) == 10) = false := by simp; omega
        have g4 : ((l[k].toNat : Int) == 13) = false := by simp; omega
        clear hb'
        by_cases hh : l[k].toNat = 35
        · have HN : Hid (k + Tk.skipN true (l.drop k) = T) := by show _ = _; rw [← skip_hash l k hlt hh]; exact HA.out
          have g5 : ((l[k].toNat : Int) == 35) = true := by simp; omega
          have HH := Lib.hid hh
          clear hb hh
          go_wp2_with fail
          clear g1 g2 g3 g4 g5
          go_loop [1] (fun n => ∃ j : Nat, k ≤ j ∧ j ≤ l.length ∧ n = .int .i64 j ∧ Hid (j + Tk.skipN true (l.drop j) = T)) (fun i => l.length - (intOf i).toNat)
          case atStart => exact ⟨k, Nat.le_refl _, hk, rfl, HN⟩
          case round =>
            obtain ⟨j, hj1, hj2, rfl, HJ⟩ := hrel
            by_cases hjl : j < l.length
            · by_cases hn : l[j].toNat = 10
              · have HM : Hid (j + Tk.skipN false (l.drop j) = T) := by show _ = _; rw [← skip_out l j hjl hn]; exact HJ.out
                have hjk : k < j := by
                  rcases Nat.lt_or_ge k j with h | h
                  · exact h
                  · have : j = k := by omega
                    subst this
                    have := HH.out
                    omega
                have g6 : ((l[j].toNat : Int) != 10) = false := by simp; omega
                clear hn
                go_wp2_with fail
                go_round
                case rel => exact ⟨j, by omega, rfl, HM⟩
                case measure => simp [intOf]; omega
              · have HM : Hid ((j + 1) + Tk.skipN true (l.drop (j + 1)) = T) := by show _ = _; rw [← skip_in l j hjl hn]; exact HJ.out
                have g6 : ((l[j].toNat : Int) != 10) = true := by simp; omega
                clear hn
                go_wp2_with fail
                go_round
                case rel => exact ⟨j + 1, by omega, by omega, by go_num, HM⟩
                case measure => simp [intOf]; omega
            · have HM : Hid (j + Tk.skipN false (l.drop j) = T) := by
                show _ = _
                have := HJ.out
                rw [skip_end _ _ _ (by omega)] at this ⊢
                exact this
              go_wp2_with fail
              go_round
              case rel => exact ⟨j, by omega, rfl, HM⟩
              case measure => simp [intOf]; omega
        · have HN : Hid (k = T) := by show _ = _; rw [← HA.out]; exact (skip_else l k hlt hb hh).symm
          have g5 : ((l[k].toNat : Int) == 35) = false := by simp; omega
          clear hb hh
          go_wp2_with fail
          go_ret
          exact ⟨ret_int (by rw [HN.out]), rfl⟩
    · have HN : Hid (k = T) := by show _ = _; rw [← HA.out]; exact (skip_end false l k (by omega)).symm
      go_wp2_with fail
      go_ret
      exact ⟨ret_int (by rw [HN.out]), rfl⟩
end Go.Proofs.YtpdbkbadjgellaaDoor

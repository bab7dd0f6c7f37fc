/-
  The walks of package token's small functions.
-/
import Derived.Test.YtpdbkbadjgellaaDoorTkB
namespace Go.Proofs.YtpdbkbadjgellaaDoor
open Go.RowKit

theorem isDigit_any (c : UInt8) (w : World) :
    Calls Tryd.prog 44 #[.int .u8 c.toNat] w fun e w' => e = .returned (.bool (Tk.isDig c)) ∧ w = w' := by
  go_enter Tryd.func44, Tryd.ntmps44
  go_wp2
  all_goals
    go_ret
    refine ⟨ret_bool ?_, rfl⟩
    unfold Tk.isDig
    rw [Bool.eq_iff_iff]
    simp
    omega

theorem isLower_any (c : UInt8) (w : World) :
    Calls Tryd.prog 46 #[.int .u8 c.toNat] w fun e w' => e = .returned (.bool (Tk.isLow c)) ∧ w = w' := by
  go_enter Tryd.func46, Tryd.ntmps46
  go_wp2
  all_goals
    go_ret
    refine ⟨ret_bool ?_, rfl⟩
    unfold Tk.isLow
    rw [Bool.eq_iff_iff]
    simp
    omega

attribute [local go_sem] ba_get

set_option maxHeartbeats 400000 in
theorem digits_any (l : List UInt8) (w : World) (hs : l.length ≤ maxLen) :
    Calls Tryd.prog 61 #[.string ⟨l.toArray⟩] w fun e w' => e = .returned (.int .i64 (Tk.digs l)) ∧ w = w' := by
  unfold maxLen at hs
  go_enter Tryd.func61, Tryd.ntmps61
  go_wp2
  go_loop [3] (fun n => ∃ k : Nat, k ≤ l.length ∧ n = .int .i64 k ∧ Hid (∀ j (h : j < l.length), j < k → Tk.isDig l[j] = true)) (fun i => l.length - (intOf i).toNat)
  case atStart => exact ⟨0, Nat.zero_le _, rfl, fun _ _ h => by omega⟩
  case round =>
    obtain ⟨k, hk, rfl, HA⟩ := hrel
    by_cases hlt : k < l.length
    · by_cases hd : Tk.isDig l[k] = true
      · have HD := Lib.hid hd
        go_wp2_with ((go_at_call 44; refine (isDigit_any _ _).mono ?_; rintro e w' ⟨rfl, rfl⟩))
        go_round
        case rel => exact ⟨k + 1, by omega, by go_num, fun j h hj => if e : j = k then by subst e; exact HD.out else HA.out j h (by omega)⟩
        case measure => simp [intOf]; omega
      · have hd : Tk.isDig l[k] = false := by simpa using hd
        have HD := Lib.hid hd
        go_wp2_with ((go_at_call 44; refine (isDigit_any _ _).mono ?_; rintro e w' ⟨rfl, rfl⟩))
        go_ret
        exact ⟨ret_int (by unfold Tk.digs; rw [Tk.lead_eq _ _ k hk HA.out (fun _ => HD.out)]), rfl⟩
    · go_wp2_with fail
      go_ret
      exact ⟨ret_int (by unfold Tk.digs; rw [Tk.lead_eq _ _ k hk HA.out (fun h => absurd h hlt)]), rfl⟩

theorem isWord_cases (c : UInt8) : Tk.isWord c = true ↔ (Tk.isLow c = true ∨ (Tk.isLow c = false ∧ Tk.isDig c = true) ∨ (Tk.isLow c = false ∧ Tk.isDig c = false ∧ c.toNat = 95)) := by
  unfold Tk.isWord
  cases Tk.isLow c <;> cases Tk.isDig c <;> simp

theorem isWord_false {c : UInt8} (h : Tk.isWord c = false) : Tk.isLow c = false ∧ Tk.isDig c = false ∧ ((c.toNat : Int) == 95) = false := by
  unfold Tk.isWord at h
  cases hl : Tk.isLow c <;> cases hd : Tk.isDig c <;> simp_all
  omega

set_option maxHeartbeats 400000 in
theorem wordLength_any (l : List UInt8) (w : World) (hs : l.length ≤ maxLen) :
    Calls Tryd.prog 47 #[.string ⟨l.toArray⟩] w fun e w' => e = .returned (.int .i64 (Tk.wordLen l)) ∧ w = w' := by
  unfold maxLen at hs
  cases l with
  | nil =>
    go_enter Tryd.func47, Tryd.ntmps47
    go_wp2
    go_ret
    exact ⟨rfl, rfl⟩
  | cons c r =>
    by_cases hc : Tk.isLow c = true
    · have HC := Lib.hid hc
      simp only [List.length_cons] at hs
      go_enter Tryd.func47, Tryd.ntmps47
      go_wp2_with ((go_at_call 46; refine (isLower_any _ _).mono ?_; rintro e w' ⟨rfl, rfl⟩))
      clear hc
      go_loop [3] (fun n => ∃ k : Nat, k ≤ r.length ∧ n = .int .i64 (k + 1) ∧ Hid (∀ j (h : j < r.length), j < k → Tk.isWord r[j] = true)) (fun i => r.length + 1 - (intOf i).toNat)
      case atStart => exact ⟨0, Nat.zero_le _, rfl, fun _ _ h => by omega⟩
      case round =>
        obtain ⟨k, hk, rfl, HA⟩ := hrel
        by_cases hlt : k < r.length
        · by_cases hd : Tk.isWord r[k] = true
          · have HD := Lib.hid hd
            rcases (isWord_cases _).1 hd with h1 | ⟨h1, h2⟩ | ⟨h1, h2, h3⟩
            all_goals clear hd
            · go_wp2_with ((first | (go_at_call 46; refine (isLower_any _ _).mono ?_; rintro e w' ⟨rfl, rfl⟩) | (go_at_call 44; refine (isDigit_any _ _).mono ?_; rintro e w' ⟨rfl, rfl⟩)))
              go_round
              case rel => exact ⟨k + 1, by omega, by go_num, fun j h hj => if e : j = k then by subst e; exact HD.out else HA.out j h (by omega)⟩
              case measure => simp [intOf]; omega
            · go_wp2_with ((first | (go_at_call 46; refine (isLower_any _ _).mono ?_; rintro e w' ⟨rfl, rfl⟩) | (go_at_call 44; refine (isDigit_any _ _).mono ?_; rintro e w' ⟨rfl, rfl⟩)))
              go_round
              case rel => exact ⟨k + 1, by omega, by go_num, fun j h hj => if e : j = k then by subst e; exact HD.out else HA.out j h (by omega)⟩
              case measure => simp [intOf]; omega
            · have h4 : ((r[k].toNat : Int) == 95) = true := by simp; omega
              clear h3
              go_wp2_with ((first | (go_at_call 46; refine (isLower_any _ _).mono ?_; rintro e w' ⟨rfl, rfl⟩) | (go_at_call 44; refine (isDigit_any _ _).mono ?_; rintro e w' ⟨rfl, rfl⟩)))
              go_round
              case rel => exact ⟨k + 1, by omega, by go_num, fun j h hj => if e : j = k then by subst e; exact HD.out else HA.out j h (by omega)⟩
              case measure => simp [intOf]; omega
          · have hd : Tk.isWord r[k] = false := by simpa using hd
            have HD := Lib.hid hd
            obtain ⟨h1, h2, h4⟩ := isWord_false hd
            clear hd
            go_wp2_with ((first | (go_at_call 46; refine (isLower_any _ _).mono ?_; rintro e w' ⟨rfl, rfl⟩) | (go_at_call 44; refine (isDigit_any _ _).mono ?_; rintro e w' ⟨rfl, rfl⟩)))
            go_ret
            exact ⟨ret_int (by simp only [Tk.wordLen, HC.out, if_true]; rw [Tk.lead_eq _ _ k hk HA.out (fun _ => HD.out)]; omega), rfl⟩
        · go_wp2_with fail
          go_ret
          exact ⟨ret_int (by simp only [Tk.wordLen, HC.out, if_true]; rw [Tk.lead_eq _ _ k hk HA.out (fun h => absurd h hlt)]; omega), rfl⟩
    · have hc : Tk.isLow c = false := by simpa using hc
      have HC := Lib.hid hc
      go_enter Tryd.func47, Tryd.ntmps47
      go_wp2_with ((go_at_call 46; refine (isLower_any _ _).mono ?_; rintro e w' ⟨rfl, rfl⟩))
      go_ret
      exact ⟨ret_int (by simp [Tk.wordLen, HC.out]), rfl⟩

theorem key_false {l k : List UInt8} (h : Tk.isKey l = false) (hk : k ∈ Tk.keywords) : (l == k) = false := by
  rw [beq_eq_false_iff_ne]
  rintro rfl
  unfold Tk.isKey at h
  rw [List.contains_iff_mem.2 hk] at h
  cases h

set_option maxHeartbeats 2000000 in
theorem isKeyword_any (l : List UInt8) (w : World) :
    Calls Tryd.prog 22 #[.string ⟨l.toArray⟩] w fun e w' => e = .returned (.bool (Tk.isKey l)) ∧ w = w' := by
  by_cases hk : Tk.isKey l = true
  · have hm : l ∈ Tk.keywords := List.contains_iff_mem.1 hk
    rw [hk]
    clear hk
    simp only [Tk.keywords, List.mem_cons, List.not_mem_nil, or_false] at hm
    rcases hm with rfl | rfl | rfl | rfl | rfl | rfl | rfl | rfl | rfl | rfl | rfl | rfl | rfl | rfl | rfl | rfl | rfl | rfl | rfl | rfl | rfl | rfl | rfl | rfl | rfl | rfl | rfl | rfl | rfl | rfl | rfl | rfl | rfl | rfl
    all_goals
      go_enter Tryd.func22, Tryd.ntmps22
      go_wp2
      go_ret
      exact ⟨rfl, rfl⟩
  · have hk : Tk.isKey l = false := by simpa using hk
    rw [hk]
    have k0 := key_false (k := [97, 103, 114, 101, 101, 109, 101, 110, 116]) hk (by decide)
    have k1 := key_false (k := [105, 110, 112, 117, 116]) hk (by decide)
    have k2 := key_false (k := [112, 97, 115, 116]) hk (by decide)
    have k3 := key_false (k := [115, 99, 97, 108, 101]) hk (by decide)
    have k4 := key_false (k := [114, 117, 108, 101]) hk (by decide)
    have k5 := key_false (k := [112, 97, 121]) hk (by decide)
    have k6 := key_false (k := [102, 114, 111, 109]) hk (by decide)
    have k7 := key_false (k := [114, 111, 117, 110, 100, 101, 100]) hk (by decide)
    have k8 := key_false (k := [116, 111]) hk (by decide)
    have k9 := key_false (k := [105, 102]) hk (by decide)
    have k10 := key_false (k := [116, 104, 101, 110]) hk (by decide)
    have k11 := key_false (k := [101, 108, 115, 101]) hk (by decide)
    have k12 := key_false (k := [97, 110, 100]) hk (by decide)
    have k13 := key_false (k := [111, 114]) hk (by decide)
    have k14 := key_false (k := [110, 111, 116]) hk (by decide)
    have k15 := key_false (k := [116, 114, 117, 101]) hk (by decide)
    have k16 := key_false (k := [102, 97, 108, 115, 101]) hk (by decide)
    have k17 := key_false (k := [109, 105, 110]) hk (by decide)
    have k18 := key_false (k := [109, 97, 120]) hk (by decide)
    have k19 := key_false (k := [114, 111, 117, 110, 100]) hk (by decide)
    have k20 := key_false (k := [97, 118, 101, 114, 97, 103, 101]) hk (by decide)
    have k21 := key_false (k := [108, 97, 115, 116]) hk (by decide)
    have k22 := key_false (k := [109, 111, 110, 101, 121]) hk (by decide)
    have k23 := key_false (k := [104, 111, 117, 114, 115]) hk (by decide)
    have k24 := key_false (k := [100, 97, 121, 115]) hk (by decide)
    have k25 := key_false (k := [110, 117, 109, 98, 101, 114]) hk (by decide)
    have k26 := key_false (k := [98, 111, 111, 108]) hk (by decide)
    have k27 := key_false (k := [100, 111, 119, 110]) hk (by decide)
    have k28 := key_false (k := [117, 112]) hk (by decide)
    have k29 := key_false (k := [102, 108, 111, 111, 114]) hk (by decide)
    have k30 := key_false (k := [99, 101, 105, 108, 105, 110, 103]) hk (by decide)
    have k31 := key_false (k := [104, 97, 108, 102, 95, 117, 112]) hk (by decide)
    have k32 := key_false (k := [104, 97, 108, 102, 95, 100, 111, 119, 110]) hk (by decide)
    have k33 := key_false (k := [104, 97, 108, 102, 95, 101, 118, 101, 110]) hk (by decide)
    clear hk
    go_enter Tryd.func22, Tryd.ntmps22
    go_wp2
    go_ret
    exact ⟨rfl, rfl⟩
end Go.Proofs.YtpdbkbadjgellaaDoor

/-
  The walk of payrollgen.Mod.
-/
import Derived.Test.YtgmpcmnkcaniaaaGreatDoorTkB
namespace Go.Proofs.YtgmpcmnkcaniaaaGreatDoor
open Go.RowKit

set_option maxHeartbeats 1000000 in
theorem mod_any (v n : Int) (w : World) (h0 : -9223372036854775808 ≤ v) (h1 : v ≤ 9223372036854775807) (hn : 1 ≤ n) (hn2 : n ≤ 2000000000000) :
    Calls Tryz.prog 10 #[.int .i64 v, .int .i64 n] w fun e w' => e = .returned (.int .i64 (v % n)) ∧ w = w' := by
  have hm0 := Int.emod_nonneg v (show n ≠ 0 by omega)
  have hm1 := Int.emod_lt_of_pos v (show 0 < n by omega)
  have gn : (n == 0) = false := by simp; omega
  by_cases hv : 0 ≤ v
  · go_enter Tryz.func10, Tryz.ntmps10
    go_wp2_with fail
    go_ret
    exact ⟨rfl, rfl⟩
  · by_cases hd : n ∣ v
    · have ht : v.tmod n = 0 := Int.tmod_eq_zero_of_dvd hd
      have HR : Hid (v % n = 0) := Int.emod_eq_zero_of_dvd hd
      clear hd
      go_enter Tryz.func10, Tryz.ntmps10
      go_wp2_with fail
      go_ret
      exact ⟨ret_int HR.out.symm, rfl⟩
    · obtain ⟨r, hr⟩ : ∃ r, v % n = r := ⟨_, rfl⟩
      have ht : v.tmod n = r - n := by
        rw [Int.tmod_eq_emod, if_neg (by omega), hr]
        omega
      rw [hr] at hm0 hm1
      have HR := Lib.hid hr
      clear hd hr
      go_enter Tryz.func10, Tryz.ntmps10
      go_wp2_with fail
      go_ret
      exact ⟨ret_int (by rw [HR.out]), rfl⟩
end Go.Proofs.YtgmpcmnkcaniaaaGreatDoor

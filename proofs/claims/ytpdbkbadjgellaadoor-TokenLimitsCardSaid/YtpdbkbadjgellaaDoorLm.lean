/-
  The walk of TokenLimits.
-/
import Derived.Test.YtpdbkbadjgellaaDoorTkZ
import Derived.Test.YtpdbkbadjgellaaDoorLmP
import Derived.Laws.BytesArg
namespace Go.Proofs.YtpdbkbadjgellaaDoor
open Go.RowKit

set_option maxHeartbeats 1000000 in
theorem mod_any (v n : Int) (w : World) (h0 : -9223372036854775808 ≤ v) (h1 : v ≤ 9223372036854775807) (hn : 1 ≤ n) (hn2 : n ≤ 2000000000000) :
    Calls Tryd.prog 7 #[.int .i64 v, .int .i64 n] w fun e w' => e = .returned (.int .i64 (v % n)) ∧ w = w' := by
  have hm0 := Int.emod_nonneg v (show n ≠ 0 by omega)
  have hm1 := Int.emod_lt_of_pos v (show 0 < n by omega)
  have gn : (n == 0) = false := by simp; omega
  by_cases hv : 0 ≤ v
  · go_enter Tryd.func7, Tryd.ntmps7
    go_wp2_with fail
    go_ret
    exact ⟨rfl, rfl⟩
  · by_cases hd : n ∣ v
    · have ht : v.tmod n = 0 := Int.tmod_eq_zero_of_dvd hd
      have HR : Hid (v % n = 0) := Int.emod_eq_zero_of_dvd hd
      clear hd
      go_enter Tryd.func7, Tryd.ntmps7
      go_wp2_with fail
      go_ret
      exact ⟨ret_int HR.out.symm, rfl⟩
    · obtain ⟨r, hr⟩ : ∃ r, v % n = r := ⟨_, rfl⟩
      have ht : v.tmod n = r - n := by
        rw [Int.tmod_eq_emod, if_neg (by omega), hr]
        omega
      rw [hr] at hm0 hm1
      have HR := Lib.hid hr
      clear hd hr
      go_enter Tryd.func7, Tryd.ntmps7
      go_wp2_with fail
      go_ret
      exact ⟨ret_int (by rw [HR.out]), rfl⟩

theorem infoB : (Tryd.prog.info? 5).map (fun i => (i.zero, i.size, i.bytes)) = some (some (.int .u8 0), 1, 1) := by kernel_rfl

/-- What TokenLimits tests, for each of the three lengths. -/
theorem lim_case (n : Int) : ∃ N : Nat, 16383 + n % 3 = (N : Int) ∧ 16383 ≤ N ∧ N ≤ 16385 ∧ ((16384 < N ∧ Tk.scan (Tk.pattern N) = .error (0, 3)) ∨ (N ≤ 16384 ∧ Tk.okLen (Tk.scan (Tk.pattern N)) ((N + 2) / 4))) := by
  have h0 := Int.emod_nonneg n (show (3 : Int) ≠ 0 by decide)
  have h1 := Int.emod_lt_of_pos n (show (0 : Int) < 3 by decide)
  have : n % 3 = 0 ∨ n % 3 = 1 ∨ n % 3 = 2 := by omega
  rcases this with e | e | e
  · exact ⟨16383, by omega, by omega, by omega, .inr ⟨by omega, Tk.scan_limit1⟩⟩
  · exact ⟨16384, by omega, by omega, by omega, .inr ⟨by omega, Tk.scan_limit2⟩⟩
  · exact ⟨16385, by omega, by omega, by omega, .inl ⟨by omega, Tk.scan_limit3⟩⟩

theorem patU_cases (k : Nat) : ([32, 97, 35, 10] : List UInt8)[k % 4]'(by simp only [List.length_cons, List.length_nil]; omega) = Tk.patU k := by
  unfold Tk.patU
  have : k % 4 = 0 ∨ k % 4 = 1 ∨ k % 4 = 2 ∨ k % 4 = 3 := by omega
  rcases this with e | e | e | e <;> simp [e]

attribute [local go_sem] ba_get ba_extract take_rest ba_append

set_option maxHeartbeats 2000000 in
set_option maxRecDepth 100000 in
theorem limits_any (n : Int) (w : World) (h0 : -9223372036854775808 ≤ n) (h1 : n ≤ 9223372036854775807) (hl : Lens w) (hp : Pow w) :
    Calls Tryd.prog 3 #[.int .i64 n] w fun e w' => e = .returned (.bool true) ∧ Below w.heap.size w w' := by
  have HL := Lib.hid hl
  have HP := Lib.hid hp
  clear hl hp
  obtain ⟨i0, hi, hz0, hz1, hz2⟩ := info_parts infoB
  obtain ⟨N, hN, hN1, hN2, hcase⟩ := lim_case n
  have HC := Lib.hid hcase
  have HN := Lib.hid hN
  clear hcase hN
  have hm0 := Int.emod_nonneg n (show (3 : Int) ≠ 0 by decide)
  have hm1 := Int.emod_lt_of_pos n (show (0 : Int) < 3 by decide)
  go_enter Tryd.func3, Tryd.ntmps3
  go_wp2_with fail
  refine (mod_any n 3 _ h0 h1 (by omega) (by omega)).mono ?_
  rintro e w' ⟨rfl, rfl⟩
  go_wp2_with (at_make; refine wpList_make_full _ rfl _ _ _ rfl w.heap.size 5 i0 (.int .u8 0) 1 Tryd.underlying22 hi hz0 hz1 .i64 .i64 _ _ N rfl rfl HN.out HN.out (by rw [hz2]; omega) (by unfold maxLen; omega) (Nat.le_refl _) ?_)
  intro w1 hown1 hg1
  have hB1 : Below w.heap.size w w1 := (Below.refl _ _).grown hg1 (Nat.le_refl _) (by simp)
  go_wp2_with fail
  go_loopw [4] (fun i wr => ∃ (k : Nat) (xs : List Value), k ≤ N ∧ i = .int .i64 k ∧ wr.ownsRow w.heap.size 5 1 (.slice (some ⟨w.heap.size, 0, none⟩) N N) N xs ∧ Hid (∀ j, j < k → xs[j]? = some (.int .u8 (Tk.patU j).toNat)) ∧ Below w.heap.size w wr) (fun i _ => N - (intOf i).toNat)
  case atStart => exact ⟨0, _, Nat.zero_le _, rfl, hown1, fun j h => by omega, hB1⟩
  case round =>
    obtain ⟨k, xs, hk, rfl, hown, HX, hB⟩ := hrel
    by_cases hlt : k < N
    · have hxl : xs.length = N := by have := hown.1; omega
      have hc : wr.cell? ⟨w.heap.size, k, none⟩ = some xs[k] := by rw [hown.cellAt k (by omega), List.getElem?_eq_getElem (by omega)]
      have hf : wr.frozen? ⟨w.heap.size, k, none⟩ = false := hown.frozenAt k
      have HS := Lib.hid (hown.stored k (.int .u8 (Tk.patU k).toNat)).1
      have HX2 : Hid (∀ j, j < k + 1 → (xs.set k (.int .u8 (Tk.patU k).toNat))[j]? = some (.int .u8 (Tk.patU j).toNat)) := by
        show ∀ j, _
        intro j hj
        by_cases e : j = k
        · subst e; rw [List.getElem?_set_self (by omega)]
        · rw [List.getElem?_set_ne (fun h => e h.symm)]; exact HX.out j (by omega)
      have HG := Lib.hid (patU_cases k)
      have hk4 : k % 4 < 4 := Nat.mod_lt _ (by omega)
      clear hown HX
      go_wp2_with fail
      rw [HG.out]
      go_roundw
      case rel => exact ⟨k + 1, _, by omega, by go_num, HS.out, HX2, hB.setCell (by simp) _⟩
      case measure => simp [intOf]; omega
    · have hkN : k = N := by omega
      subst hkN
      have hconv : (convert 22 9 (.slice (some ⟨w.heap.size, 0, none⟩) k k)).run Tryd.prog wr = .ok (.string ⟨(Tk.pattern k).toArray⟩) wr := by
        have h := run_convert_bytes_arg (P := Tryd.prog) wr 22 5 Tryd.underlying22 Tryd.underlying5 w.heap.size 0 k k ((List.range k).map fun j => ((Tk.patU j).toNat : Int)) (by simp) (fun i hi => by
          rw [Nat.zero_add, hown.cellAt i (by omega), HX.out i hi]
          simp [List.getD_eq_getElem?_getD, hi]) 9 Tryd.underlying9
        rw [h]
        congr 2
        unfold strOfNums Tk.pattern
        rw [List.map_map]
        congr 2
        apply List.map_congr_left
        intro j _
        simp
      clear hown HX
      go_wp2_with fail
      refine (scan_any (Tk.pattern k) _ (by rw [Tk.pattern_len]; unfold maxLen; omega) (HL.out.below hB)).mono ?_
      rintro e w2 ⟨hb2, h2⟩
      clear hconv
      have hB2 : Below w.heap.size w w2 := hB.trans (hb2.mono hB.size)
      rcases HC.out with ⟨hbig, hs⟩ | ⟨hsm, ts, hs, hlen⟩
      · rw [hs] at h2
        obtain rfl := h2
        clear HC
        go_wp2_with fail
        refine (sane_any _ (HL.out.below hB2) (HP.out.below hB2)).mono ?_
        rintro e w3 ⟨rfl, hb3⟩
        go_wp2_with fail
        go_ret
        exact ⟨rfl, hB2.trans (hb3.mono hB2.size)⟩
      · rw [hs] at h2
        obtain ⟨v, rfl, hown⟩ := h2
        obtain ⟨A, c, rfl, _⟩ := TokRow.of_own hown
        rw [hlen]
        have gq : ((((k + 2) / 4 : Nat) : Int) == ((k : Int) + 2) / 4) = true := by simp
        clear HC hs hlen hown
        go_wp2_with fail
        refine (sane_any _ (HL.out.below hB2) (HP.out.below hB2)).mono ?_
        rintro e w3 ⟨rfl, hb3⟩
        go_wp2_with fail
        go_ret
        exact ⟨rfl, hB2.trans (hb3.mono hB2.size)⟩
end Go.Proofs.YtpdbkbadjgellaaDoor

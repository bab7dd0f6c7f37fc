/-
  The walk of TokenNumbers.
-/
import Derived.Test.YtpdbkbadjgellaaDoorNuP
import Derived.Test.YtpdbkbadjgellaaDoorR1
import Derived.Test.YtpdbkbadjgellaaDoorMd
import Derived.Test.YtpdbkbadjgellaaDoorTkZ
import Derived.Test.YtpdbkbadjgellaaDoorQt
namespace Go.Proofs.YtpdbkbadjgellaaDoor
open Go.RowKit
attribute [local go_sem] ba_get ba_extract take_rest ba_append
attribute [local go_sem ↓] run_eql_tok run_neq_tok

def tenPow (k : Nat) : Nat := 10 ^ k
/-- The fraction of a number and a power of ten. -/
theorem num_case (n : Int) (k : Nat) (hn : 0 ≤ n) (hn2 : n < 1000000000000) (hk : k < 7) : ∃ a b : Int, newI n (10 ^ k : Nat) = (a, b, 0) ∧ isDec a b = true := by
  have hp : 1 ≤ 10 ^ k := Nat.pow_pos (by omega)
  have hp2 : 10 ^ k ≤ 10 ^ 6 := Nat.pow_le_pow_right (by omega) (by omega)
  have hdvd : 10 ^ k ∣ 10 ^ 6 := Nat.pow_dvd_pow _ (by omega)
  obtain ⟨m, rfl⟩ := Int.eq_ofNat_of_zero_le hn
  generalize hD : 10 ^ k = D at *
  have hg0 : 0 < Nat.gcd m D := Nat.gcd_pos_of_pos_right _ hp
  have e1 : newI m D = fitR false m D := by
    unfold newI
    rw [if_neg (by omega), Int.natAbs_natCast, Int.natAbs_natCast, show decide ((m : Int) < 0) = false from decide_eq_false (by omega), show decide ((D : Int) < 0) = false from decide_eq_false (by omega)]
    rfl
  have q1 : m / Nat.gcd m D ≤ m := Nat.div_le_self _ _
  have q2 : D / Nat.gcd m D ≤ D := Nat.div_le_self _ _
  refine ⟨(m / Nat.gcd m D : Nat), (D / Nat.gcd m D : Nat), ?_, ?_⟩
  · rw [e1]
    unfold fitR Tk.newR
    rw [if_neg (by omega)]
    rfl
  · have h1 : 1 ≤ D / Nat.gcd m D := Nat.div_pos (Nat.gcd_le_right _ hp) hg0
    have hco : Nat.gcd (m / Nat.gcd m D) (D / Nat.gcd m D) = 1 := Nat.coprime_div_gcd_div_gcd hg0
    have hdv : D / Nat.gcd m D ∣ 1000000 := Nat.dvd_trans (Nat.div_dvd_of_dvd (Nat.gcd_dvd_right _ _)) hdvd
    unfold isDec validR
    rw [Bool.and_eq_true, Bool.and_eq_true, decide_eq_true_iff, decide_eq_true_iff, beq_iff_eq, Int.natAbs_natCast, Int.natAbs_natCast]
    have z1 : (0 : Int) ≤ ((m / Nat.gcd m D : Nat) : Int) := Int.natCast_nonneg _
    have z2 : ((m / Nat.gcd m D : Nat) : Int) ≤ m := Int.ofNat_le.2 q1
    refine ⟨⟨by omega, by omega, Int.le_trans (by decide) z1, by omega, hco⟩, z1, ?_⟩
    have := Nat.mod_eq_zero_of_dvd hdv
    have e : ((1000000 % (D / Nat.gcd m D) : Nat) : Int) = 0 := by rw [this]; rfl
    rw [Int.natCast_emod] at e
    exact e

theorem ten_at (k : Nat) (hk : k < 7) : ([1, 10, 100, 1000, 10000, 100000, 1000000] : List Int)[k]? = some ((10 ^ k : Nat) : Int) := by
  have : k = 0 ∨ k = 1 ∨ k = 2 ∨ k = 3 ∨ k = 4 ∨ k = 5 ∨ k = 6 := by omega
  rcases this with rfl | rfl | rfl | rfl | rfl | rfl | rfl <;> rfl

set_option maxHeartbeats 4000000 in
set_option maxRecDepth 100000 in
theorem numbers_any (n d : Int) (w : World) (h0 : -9223372036854775808 ≤ n) (h1 : n ≤ 9223372036854775807) (g0 : -9223372036854775808 ≤ d) (g1 : d ≤ 9223372036854775807) (hl : Lens w) (hp : Pow w) :
    Calls Tryd.prog 6 #[.int .i64 n, .int .i64 d] w fun e w' => e = .returned (.bool true) ∧ Below w.heap.size w w' := by
  have HL := Lib.hid hl
  have HP := Lib.hid hp
  clear hl hp
  have hm0 := Int.emod_nonneg d (show (7 : Int) ≠ 0 by decide)
  have hm1 := Int.emod_lt_of_pos d (show (0 : Int) < 7 by decide)
  have hn0 := Int.emod_nonneg n (show (1000000000000 : Int) ≠ 0 by decide)
  have hn1 := Int.emod_lt_of_pos n (show (0 : Int) < 1000000000000 by decide)
  obtain ⟨k, hk⟩ := Int.eq_ofNat_of_zero_le hm0
  have HK := Lib.hid hk
  have hk7 : k < 7 := by omega
  obtain ⟨a, b, hnew, hdec⟩ := num_case (n % 1000000000000) k hn0 hn1 hk7
  have HN := Lib.hid hnew
  have HD := Lib.hid hdec
  have hD1 : 1 ≤ 10 ^ k := Nat.pow_pos (by omega)
  have hD2 : 10 ^ k ≤ 1000000 := Nat.pow_le_pow_right (j := 6) (by omega) (by omega)
  have HT := Lib.hid (ten_at k hk7)
  generalize hD : 10 ^ k = D at *
  clear hD hk hnew hdec hm0 hm1
  go_enter Tryd.func6, Tryd.ntmps6
  go_wp2_with fail
  refine (mod_any d 7 _ g0 g1 (by omega) (by omega)).mono ?_
  rintro e w' ⟨rfl, rfl⟩
  rw [HK.out]
  have hc : (w.alloc (.cells #[.int .i64 1, .int .i64 10, .int .i64 100, .int .i64 1000, .int .i64 10000, .int .i64 100000, .int .i64 1000000] 3)).cell? ⟨w.heap.size, k, none⟩ = some (.int .i64 D) := by
    rw [Lib.cell_of_heap (heap_alloc_new w _)]
    have := HT.out
    have e : ([Value.int .i64 1, .int .i64 10, .int .i64 100, .int .i64 1000, .int .i64 10000, .int .i64 100000, .int .i64 1000000] : List Value) = ([1, 10, 100, 1000, 10000, 100000, 1000000] : List Int).map (Value.int .i64) := rfl
    rw [List.getElem?_toArray, e, List.getElem?_map, this]
    rfl
  go_wp2_with fail
  refine (mod_any n 1000000000000 _ h0 h1 (by omega) (by omega)).mono ?_
  rintro e w' ⟨rfl, rfl⟩
  clear hc
  go_wp2_with fail
  refine (refNew_any _ _ _ (by omega) (by omega) (by omega) (by omega)).mono ?_
  rintro e w1 ⟨rfl, hb1⟩
  rw [HN.out]
  simp only [ratErr]
  have hz1 := hb1.size
  simp only [World.size_alloc] at hz1
  have hB1 : Below w.heap.size w w1 := ((Below.refl _ _).alloc (Nat.le_refl _) _).trans (hb1.mono (by simp))
  clear hb1 HN
  have hB2 : Below w.heap.size w (w1.alloc (.cells #[.int .i64 a, .int .i64 b] 37)) := hB1.alloc (by omega) _
  go_wp2_with fail
  refine (number_text a b _ (HP.out.below hB2)).mono ?_
  rintro e w2 ⟨rfl, hb2⟩
  have hB3 : Below w.heap.size w w2 := hB2.trans (hb2.mono (by simp; omega))
  have hblk := (hb2.block w1.heap.size (by simp)).trans (heap_alloc_new w1 _)
  have hz2 := hb2.size
  simp only [World.size_alloc] at hz2
  have hsc := scan_numText a b HD.out
  have hla := numText_last a b HD.out
  have hlen := numText_len a b
  generalize numText a b = s at *
  obtain ⟨s1, s2, s3⟩ := hla
  go_wp2_with fail
  refine (scan_any s _ (by unfold maxLen; omega) (HL.out.below hB3)).mono ?_
  rintro e w3 ⟨hb3, h3⟩
  rw [hsc] at h3
  obtain ⟨v, rfl, hown⟩ := h3
  obtain ⟨g, off, c, rfl, hcl⟩ := (TokRow.of_own hown).at_ (by simp)
  have a0 := hcl 0 (by simp) 0 _ rfl
  have a1 := hcl 0 (by simp) 1 _ rfl
  have a2 := hcl 0 (by simp) 2 _ rfl
  have a3 := hcl 0 (by simp) 3 _ rfl
  have a4 := hcl 0 (by simp) 4 _ rfl
  have a5 := hcl 0 (by simp) 5 _ rfl
  simp only [Nat.zero_mul, Nat.add_zero, List.getElem_cons_zero] at a0 a1 a2 a3 a4 a5
  have hB4 : Below w.heap.size w w3 := hB3.trans (hb3.mono hB3.size)
  have hblk3 := (hb3.block w1.heap.size (by omega)).trans hblk
  have r0 := Lib.cell_of_heap hblk3 0
  have r1 := Lib.cell_of_heap hblk3 1
  simp only [List.getElem?_toArray, List.getElem?_cons_zero, List.getElem?_cons_succ] at r0 r1
  simp only [List.length_cons, List.length_nil, Nat.zero_add]
  clear hown hcl hsc hblk hblk3 hb2 hb3
  obtain ⟨c0, r0, rfl⟩ : ∃ c0 r0, s = c0 :: r0 := by cases s with
    | nil => exact absurd rfl s1
    | cons c r => exact ⟨c, r, rfl⟩
  simp only [List.length_cons] at hlen
  obtain ⟨cl, hcl⟩ : ∃ cl, (c0 :: r0)[r0.length]? = some cl := ⟨_, List.getElem?_eq_getElem (by simp)⟩
  have hlast : (c0 :: r0).getLast? = some cl := by rw [List.getLast?_eq_getElem?, ← hcl]; rfl
  rw [hlast] at s2 s3
  have hcg : (c0 :: r0)[r0.length]'(by simp) = cl := by
    rw [List.getElem?_eq_getElem (by simp)] at hcl
    simpa using hcl
  have n46 : ((cl.toNat : Int) != 46) = true := by
    have : cl ≠ 46 := fun e => s2 (by rw [e])
    have : cl.toNat ≠ 46 := fun e => this (UInt8.toNat_inj.1 e)
    simp; omega
  have n48 : b = 1 ∨ ((cl.toNat : Int) != 48) = true := by
    rcases s3 with h | h
    · exact .inl h
    · refine .inr ?_
      have : cl ≠ 48 := fun e => h (by rw [e])
      have : cl.toNat ≠ 48 := fun e => this (UInt8.toNat_inj.1 e)
      simp; omega
  have hix : (r0.length : Int) < (r0.length : Int) + 1 := by omega
  have hw : IntKind.i64.wrap (r0.length : Int) = r0.length := IntWalk.i64_in _ (by omega)
  clear hlast hcl s1 s2 s3
  by_cases hb1 : b = 1
  · subst hb1
    clear n48
    go_wp2_with fail
    refine region_quiet_tail 41 (by kernel_rfl) (by kernel_rfl) ?_
    simp only [List.take_succ_cons, List.take_zero, List.drop_succ_cons, List.drop_zero]
    repeat (go_big_quiet_step (fail))
    refine wpQuiet_nil ?_
    clear hw
    have hB5 : Below w.heap.size w w3.drew := hB4.drew
    generalize w3.drew = w4 at *
    go_wp2_with fail
    refine (sane_any _ (HL.out.below hB5) (HP.out.below hB5)).mono ?_
    rintro e w5 ⟨rfl, hb5⟩
    go_wp2_with fail
    go_ret
    exact ⟨rfl, hB5.trans (hb5.mono hB5.size)⟩
  · have gb : (b == 1) = false := by simpa using hb1
    have n48 := n48.resolve_left hb1
    clear hb1
    go_wp2_with fail
    refine region_quiet_tail 41 (by kernel_rfl) (by kernel_rfl) ?_
    simp only [List.take_succ_cons, List.take_zero, List.drop_succ_cons, List.drop_zero]
    repeat (go_big_quiet_step (fail))
    refine wpQuiet_nil ?_
    clear hw
    have hB5 : Below w.heap.size w w3.drew := hB4.drew
    generalize w3.drew = w4 at *
    go_wp2_with fail
    refine (sane_any _ (HL.out.below hB5) (HP.out.below hB5)).mono ?_
    rintro e w5 ⟨rfl, hb5⟩
    go_wp2_with fail
    go_ret
    exact ⟨rfl, hB5.trans (hb5.mono hB5.size)⟩
end Go.Proofs.YtpdbkbadjgellaaDoor

/-
  The walk of package token's skip.
  The walks of package ratio: gcd, magnitude, fit, New, Valid.
-/
import Derived.Test.YtpdbkbadjgellaaGreatDoorZ00
import Derived.Deep.QuietTactic
import Derived.BigQuiet
import Derived.IntWalk
namespace Go.Proofs.YtpdbkbadjgellaaGreatDoor
open Go.RowKit
attribute [local go_sem] ba_get ba_extract take_rest

theorem drop_cons (l : List UInt8) (k : Nat) (h : k < l.length) : l.drop k = l[k] :: l.drop (k + 1) := List.drop_eq_getElem_cons h
theorem skip_blank (l : List UInt8) (k : Nat) (h : k < l.length) (hb : Tk.isBlank l[k] = true) : k + Tk.skipN false (l.drop k) = (k + 1) + Tk.skipN false (l.drop (k + 1)) := by
  rw [drop_cons l k h, Tk.skipN, if_pos hb]; omega
theorem skip_hash (l : List UInt8) (k : Nat) (h : k < l.length) (hb : l[k].toNat = 35) : k + Tk.skipN false (l.drop k) = k + Tk.skipN true (l.drop k) := by
  rw [drop_cons l k h, Tk.skipN, Tk.skipN, if_neg (by simp [Tk.isBlank, hb]), if_pos hb, if_neg (by omega)]
theorem skip_else (l : List UInt8) (k : Nat) (h : k < l.length) (hb : Tk.isBlank l[k] = false) (hh : l[k].toNat ≠ 35) : k + Tk.skipN false (l.drop k) = k := by
  rw [drop_cons l k h, Tk.skipN, if_neg (by simp [hb]), if_neg hh]; rfl
theorem skip_end (b : Bool) (l : List UInt8) (k : Nat) (h : l.length ≤ k) : k + Tk.skipN b (l.drop k) = k := by
  rw [List.drop_of_length_le h, Tk.skipN]; rfl
theorem skip_in (l : List UInt8) (k : Nat) (h : k < l.length) (hb : l[k].toNat ≠ 10) : k + Tk.skipN true (l.drop k) = (k + 1) + Tk.skipN true (l.drop (k + 1)) := by
  rw [drop_cons l k h, Tk.skipN, if_neg hb]; omega
theorem skip_out (l : List UInt8) (k : Nat) (h : k < l.length) (hb : l[k].toNat = 10) : k + Tk.skipN true (l.drop k) = k + Tk.skipN false (l.drop k) := by
  rw [drop_cons l k h, Tk.skipN, Tk.skipN, if_pos hb, if_pos (by simp [Tk.isBlank, hb])]

set_option maxHeartbeats 1000000 in
theorem skip_any (l : List UInt8) (a : Nat) (w : World) (hs : l.length ≤ maxLen) (ha : a ≤ l.length) :
    Calls Tryz.prog 53 #[.string ⟨l.toArray⟩, .int .i64 a] w fun e w' => e = .returned (.int .i64 ((a + Tk.skipN false (l.drop a) : Nat) : Int)) ∧ w = w' := by
  unfold maxLen at hs
  generalize hT : a + Tk.skipN false (l.drop a) = T
  have HT := Lib.hid hT
  clear hT
  go_enter Tryz.func53, Tryz.ntmps53
  go_wp2_with fail
  go_loop [1] (fun n => ∃ k : Nat, k ≤ l.length ∧ n = .int .i64 k ∧ Hid (k + Tk.skipN false (l.drop k) = T)) (fun i => l.length - (intOf i).toNat)
  case atStart => exact ⟨a, ha, rfl, HT⟩
  case round =>
    obtain ⟨k, hk, rfl, HA⟩ := hrel
    by_cases hlt : k < l.length
    · by_cases hb : Tk.isBlank l[k] = true
      · have HN : Hid ((k + 1) + Tk.skipN false (l.drop (k + 1)) = T) := by show _ = _; rw [← skip_blank l k hlt hb]; exact HA.out
        have hb' := of_decide_eq_true hb
        clear hb
        rcases hb' with h | h | h | h
        · have g1 : ((l[k].toNat : Int) == 32) = true := by simp; omega
          clear h
          go_wp2_with fail
          go_round
          case rel => exact ⟨k + 1, by omega, by go_num, HN⟩
          case measure => simp [intOf]; omega
        · have g1 : ((l[k].toNat : Int) == 32) = false := by simp; omega
          have g2 : ((l[k].toNat : Int) == 9) = true := by simp; omega
          clear h
          go_wp2_with fail
          go_round
          case rel => exact ⟨k + 1, by omega, by go_num, HN⟩
          case measure => simp [intOf]; omega
        · have g1 : ((l[k].toNat : Int) == 32) = false := by simp; omega
          have g2 : ((l[k].toNat : Int) == 9) = false := by simp; omega
          have g3 : ((l[k].toNat : Int) == 10) = true := by simp; omega
          clear h
          go_wp2_with fail
          go_round
          case rel => exact ⟨k + 1, by omega, by go_num, HN⟩
          case measure => simp [intOf]; omega
        · have g1 : ((l[k].toNat : Int) == 32) = false := by simp; omega
          have g2 : ((l[k].toNat : Int) == 9) = false := by simp; omega
          have g3 : ((l[k].toNat : Int) == 10) = false := by simp; omega
          have g4 : ((l[k].toNat : Int) == 13) = true := by simp; omega
          clear h
          go_wp2_with fail
          go_round
          case rel => exact ⟨k + 1, by omega, by go_num, HN⟩
          case measure => simp [intOf]; omega
      · have hb : Tk.isBlank l[k] = false := by simpa using hb
        have hb' := of_decide_eq_false hb
        have g1 : ((l[k].toNat : Int) == 32) = false := by simp; omega
        have g2 : ((l[k].toNat : Int) == 9) = false := by simp; omega
        have g3 : ((l[k].toNat : Int) == 10) = false := by simp; omega
        have g4 : ((l[k].toNat : Int) == 13) = false := by simp; omega
        clear hb'
        by_cases hh : l[k].toNat = 35
        · have HN : Hid (k + Tk.skipN true (l.drop k) = T) := by show _ = _; rw [← skip_hash l k hlt hh]; exact HA.out
          have g5 : ((l[k].toNat : Int) == 35) = true := by simp; omega
          have HH := Lib.hid hh
          clear hb hh
          go_wp2_with fail
          clear g1 g2 g3 g4 g5
          go_loop [1] (fun n => ∃ j : Nat, k ≤ j ∧ j ≤ l.length ∧ n = .int .i64 j ∧ Hid (j + Tk.skipN true (l.drop j) = T)) (fun i => l.length - (intOf i).toNat)
          case atStart => exact ⟨k, Nat.le_refl _, hk, rfl, HN⟩
          case round =>
            obtain ⟨j, hj1, hj2, rfl, HJ⟩ := hrel
            by_cases hjl : j < l.length
            · by_cases hn : l[j].toNat = 10
              · have HM : Hid (j + Tk.skipN false (l.drop j) = T) := by show _ = _; rw [← skip_out l j hjl hn]; exact HJ.out
                have hjk : k < j := by
                  rcases Nat.lt_or_ge k j with h | h
                  · exact h
                  · have : j = k := by omega
                    subst this
                    have := HH.out
                    omega
                have g6 : ((l[j].toNat : Int) != 10) = false := by simp; omega
                clear hn
                go_wp2_with fail
                go_round
                case rel => exact ⟨j, by omega, rfl, HM⟩
                case measure => simp [intOf]; omega
              · have HM : Hid ((j + 1) + Tk.skipN true (l.drop (j + 1)) = T) := by show _ = _; rw [← skip_in l j hjl hn]; exact HJ.out
                have g6 : ((l[j].toNat : Int) != 10) = true := by simp; omega
                clear hn
                go_wp2_with fail
                go_round
                case rel => exact ⟨j + 1, by omega, by omega, by go_num, HM⟩
                case measure => simp [intOf]; omega
            · have HM : Hid (j + Tk.skipN false (l.drop j) = T) := by
                show _ = _
                have := HJ.out
                rw [skip_end _ _ _ (by omega)] at this ⊢
                exact this
              go_wp2_with fail
              go_round
              case rel => exact ⟨j, by omega, rfl, HM⟩
              case measure => simp [intOf]; omega
        · have HN : Hid (k = T) := by show _ = _; rw [← HA.out]; exact (skip_else l k hlt hb hh).symm
          have g5 : ((l[k].toNat : Int) == 35) = false := by simp; omega
          clear hb hh
          go_wp2_with fail
          go_ret
          exact ⟨ret_int (by rw [HN.out]), rfl⟩
    · have HN : Hid (k = T) := by show _ = _; rw [← HA.out]; exact (skip_end false l k (by omega)).symm
      go_wp2_with fail
      go_ret
      exact ⟨ret_int (by rw [HN.out]), rfl⟩
end Go.Proofs.YtpdbkbadjgellaaGreatDoor

namespace Go.Proofs.YtpdbkbadjgellaaGreatDoor
open Go.RowKit

set_option maxHeartbeats 1000000 in
theorem gcd_any (a b : Nat) (w : World) (ha : a ≤ 4000000000000000000) (hb : b ≤ 4000000000000000000) :
    Calls Tryz.prog 93 #[.int .u64 a, .int .u64 b] w fun e w' => e = .returned (.int .u64 (Nat.gcd a b)) ∧ ∃ n, w' = w.drewN n := by
  generalize hG : Nat.gcd a b = G
  have HG := Lib.hid hG
  clear hG
  go_enter Tryz.func93, Tryz.ntmps93
  go_wp2_with fail
  go_loopw [0, 1] (fun p q wr => ∃ x y n : Nat, x ≤ 4000000000000000000 ∧ y ≤ 4000000000000000000 ∧ p = .int .u64 x ∧ q = .int .u64 y ∧ Hid (Nat.gcd x y = G) ∧ wr = w.drewN n) (fun _ q _ => (intOf q).toNat)
  case atStart => exact ⟨a, b, 0, ha, hb, rfl, rfl, HG, rfl⟩
  case round =>
    obtain ⟨x, y, n, hx, hy, rfl, rfl, HX, rfl⟩ := hrel
    by_cases hy0 : y = 0
    · subst hy0
      go_wp2_with fail
      go_ret
      exact ⟨ret_int (by rw [← HX.out]; simp), n, rfl⟩
    · have g1 : ((y : Int) != 0) = true := by simp; omega
      have g2 : ((y : Int) == 0) = false := by simp; omega
      have hyp : 1 ≤ y := by omega
      have hm := Nat.mod_lt x hyp
      have HN : Hid (Nat.gcd y (x % y) = G) := by
        show _ = _
        rw [← HX.out, Nat.gcd_comm x y, Nat.gcd_rec y x, Nat.gcd_comm]
      clear hy0
      go_wp2_with fail
      go_quiet (fail)
      go_wp2_with fail
      go_roundw
      case rel => exact ⟨y, x % y, _, by omega, by omega, rfl, by go_num, HN, World.drewN_drewN _ _ _⟩
      case measure => simp [intOf]; omega

/-- What New gives for a numerator's and a denominator's magnitudes: the numerator, the denominator, the error. -/
def fitR (neg : Bool) (n d : Nat) : Int × Int × Int :=
  match Tk.newR n d with
  | none => (0, 0, 4)
  | some (a, b) => (if neg = true then -(a : Int) else a, b, 0)

/-- A fraction and an error, as a result. -/
def ratErr (x : Int × Int × Int) : Ending := .returned (.tuple #[.agg #[.int .i64 x.1, .int .i64 x.2.1], .int .i64 x.2.2])

theorem magnitude_any (n : Int) (w : World) (h0 : -4000000000000000000 ≤ n) (h1 : n ≤ 4000000000000000000) :
    Calls Tryz.prog 94 #[.int .i64 n] w fun e w' => e = .returned (.int .u64 (n.natAbs : Nat)) ∧ w = w' := by
  by_cases hn : n < 0
  · go_enter Tryz.func94, Tryz.ntmps94
    go_wp2_with fail
    go_ret
    refine ⟨ret_int ?_, rfl⟩
    simp only [IntKind.wrap_u64]
    omega
  · go_enter Tryz.func94, Tryz.ntmps94
    go_wp2_with fail
    go_ret
    exact ⟨ret_int (by first | omega | (simp only [IntKind.wrap_u64]; omega)), rfl⟩

theorem fit_done {neg : Bool} {n d G q1 q2 : Nat} (HG : Hid (Nat.gcd n d = G)) (h1 : n / G = q1) (h2 : d / G = q2) (hq1 : q1 ≤ 1000000000000) (hq2 : q2 ≤ 1000000) : fitR neg n d = (if neg = true then -(q1 : Int) else q1, (q2 : Int), 0) := by
  have hG := HG.out
  unfold fitR Tk.newR
  rw [hG, h1, h2, if_neg (by omega)]
theorem fit_over {neg : Bool} {n d G q1 q2 : Nat} (HG : Hid (Nat.gcd n d = G)) (h1 : n / G = q1) (h2 : d / G = q2) (hq : 1000000000000 < q1 ∨ 1000000 < q2) : fitR neg n d = (0, 0, 4) := by
  have hG := HG.out
  unfold fitR Tk.newR
  rw [hG, h1, h2, if_pos hq]

set_option maxHeartbeats 1000000 in
theorem fit_any (neg : Bool) (n d : Nat) (w : World) (hn : n ≤ 4000000000000000000) (hd0 : 1 ≤ d) (hd : d ≤ 4000000000000000000) :
    Calls Tryz.prog 130 #[.bool neg, .int .u64 n, .int .u64 d] w fun e w' => e = ratErr (fitR neg n d) ∧ Below w.heap.size w w' := by
  have hg0 : 1 ≤ Nat.gcd n d := Nat.gcd_pos_of_pos_right _ hd0
  generalize hG : Nat.gcd n d = G at *
  have HG := Lib.hid hG
  clear hG
  obtain ⟨q1, h1⟩ : ∃ q, n / G = q := ⟨_, rfl⟩
  obtain ⟨q2, h2⟩ : ∃ q, d / G = q := ⟨_, rfl⟩
  have b1 : q1 ≤ 4000000000000000000 := by rw [← h1]; exact Nat.le_trans (Nat.div_le_self _ _) hn
  have b2 : q2 ≤ 4000000000000000000 := by rw [← h2]; exact Nat.le_trans (Nat.div_le_self _ _) hd
  have e1 : IntKind.u64.wrap ((n : Int) / (G : Int)) = (q1 : Int) := by
    rw [← Int.natCast_ediv, h1]; exact IntWalk.u64_in _ (by omega)
  have e2 : IntKind.u64.wrap ((d : Int) / (G : Int)) = (q2 : Int) := by
    rw [← Int.natCast_ediv, h2]; exact IntWalk.u64_in _ (by omega)
  by_cases hA : 1000000000000 < q1 ∨ 1000000 < q2
  · have HF : Hid (fitR neg n d = (0, 0, 4)) := fit_over HG h1 h2 hA
    have HE1 := Lib.hid e1
    have HE2 := Lib.hid e2
    have HA : 1000000000000 < q1 ∨ (¬ 1000000000000 < q1 ∧ 1000000 < q2) := by omega
    clear h1 h2 e1 e2 hA
    rcases HA with hA | ⟨hA1, hA2⟩
    · go_enter Tryz.func130, Tryz.ntmps130
      go_wp2_with fail
      refine (gcd_any _ _ _ hn hd).mono ?_
      rintro e w' ⟨rfl, nq, rfl⟩
      rw [HG.out]
      have e1 := HE1.out
      have e2 := HE2.out
      go_wp2_with fail
      go_quiet (fail)
      clear e1 e2
      go_wp2_with fail
      refine bodyPost_ret (v := .tuple #[.agg #[.int .i64 0, .int .i64 0], .int .i64 4]) (by simp [results, Tryz.results130, go_sem]) rfl ⟨by rw [HF.out]; rfl, ?_⟩
      exact ((belowN ((Below.refl _ _).alloc (Nat.le_refl _) _) _).setCell (by simp) _).setCell (by simp) _
    · go_enter Tryz.func130, Tryz.ntmps130
      go_wp2_with fail
      refine (gcd_any _ _ _ hn hd).mono ?_
      rintro e w' ⟨rfl, nq, rfl⟩
      rw [HG.out]
      have e1 := HE1.out
      have e2 := HE2.out
      go_wp2_with fail
      go_quiet (fail)
      clear e1 e2
      go_wp2_with fail
      refine bodyPost_ret (v := .tuple #[.agg #[.int .i64 0, .int .i64 0], .int .i64 4]) (by simp [results, Tryz.results130, go_sem]) rfl ⟨by rw [HF.out]; rfl, ?_⟩
      exact ((belowN ((Below.refl _ _).alloc (Nat.le_refl _) _) _).setCell (by simp) _).setCell (by simp) _
  · have HF : Hid (fitR neg n d = (if neg = true then -(q1 : Int) else q1, (q2 : Int), 0)) := fit_done HG h1 h2 (by omega) (by omega)
    have HE1 := Lib.hid e1
    have HE2 := Lib.hid e2
    have hA1 : q1 ≤ 1000000000000 := by omega
    have hA2 : q2 ≤ 1000000 := by omega
    clear h1 h2 e1 e2 hA
    cases neg
    · go_enter Tryz.func130, Tryz.ntmps130
      go_wp2_with fail
      refine (gcd_any _ _ _ hn hd).mono ?_
      rintro e w' ⟨rfl, nq, rfl⟩
      rw [HG.out]
      have e1 := HE1.out
      have e2 := HE2.out
      go_wp2_with fail
      go_quiet (fail)
      clear e1 e2
      go_wp2_with fail
      refine bodyPost_ret (v := .tuple #[.agg #[.int .i64 q1, .int .i64 q2], .int .i64 0]) (by simp [results, Tryz.results130, go_sem]) rfl ⟨by rw [HF.out]; rfl, ?_⟩
      exact ((belowN ((Below.refl _ _).alloc (Nat.le_refl _) _) _).setCell (by simp) _).setCell (by simp) _
    · go_enter Tryz.func130, Tryz.ntmps130
      go_wp2_with fail
      refine (gcd_any _ _ _ hn hd).mono ?_
      rintro e w' ⟨rfl, nq, rfl⟩
      rw [HG.out]
      have e1 := HE1.out
      have e2 := HE2.out
      go_wp2_with fail
      go_quiet (fail)
      clear e1 e2
      go_wp2_with fail
      refine bodyPost_ret (v := .tuple #[.agg #[.int .i64 (-(q1 : Int)), .int .i64 q2], .int .i64 0]) (by simp [results, Tryz.results130, go_sem]) rfl ⟨by rw [HF.out]; rfl, ?_⟩
      exact ((belowN ((Below.refl _ _).alloc (Nat.le_refl _) _) _).setCell (by simp) _).setCell (by simp) _

/-- New, where the denominator is not 0. -/
def newI (n d : Int) : Int × Int × Int := if d = 0 then (0, 0, 5) else fitR (!(decide (n < 0) == decide (d < 0))) n.natAbs d.natAbs

set_option maxHeartbeats 1000000 in
theorem new_any (n d : Int) (w : World) (hn0 : -4000000000000000000 ≤ n) (hn : n ≤ 4000000000000000000) (hd0 : -4000000000000000000 ≤ d) (hd : d ≤ 4000000000000000000) :
    Calls Tryz.prog 112 #[.int .i64 n, .int .i64 d] w fun e w' => e = ratErr (newI n d) ∧ Below w.heap.size w w' := by
  by_cases h0 : d = 0
  · subst h0
    go_enter Tryz.func112, Tryz.ntmps112
    go_wp2_with fail
    refine bodyPost_ret (v := .tuple #[.agg #[.int .i64 0, .int .i64 0], .int .i64 5]) (by simp [results, Tryz.results112, go_sem]) rfl ⟨rfl, ?_⟩
    exact (Below.refl _ _).alloc (Nat.le_refl _) _
  · have HR : Hid (newI n d = fitR (!(decide (n < 0) == decide (d < 0))) n.natAbs d.natAbs) := by show _ = _; unfold newI; rw [if_neg h0]
    have g0 : (d == 0) = false := by simpa using h0
    have hd1 : 1 ≤ d.natAbs := by omega
    clear h0
    go_enter Tryz.func112, Tryz.ntmps112
    go_wp2_with fail
    refine (magnitude_any n _ hn0 hn).mono ?_
    rintro e w' ⟨rfl, rfl⟩
    go_wp2_with fail
    refine (magnitude_any d _ hd0 hd).mono ?_
    rintro e w' ⟨rfl, rfl⟩
    go_wp2_with fail
    refine (fit_any _ _ _ _ (by omega) (by omega) (by omega)).mono ?_
    rintro e w' ⟨rfl, hb⟩
    generalize hx : fitR _ _ _ = x
    obtain ⟨x1, x2, x3⟩ := x
    have HY : Hid (newI n d = (x1, x2, x3)) := by
      show _ = _
      rw [HR.out, ← hx]
    clear hx HR
    simp only [ratErr]
    have hc0 : w'.cell? ⟨w.heap.size, 0, none⟩ = some (.int .i64 0) := by rw [hb.cell (by simp)]; simp
    have hc1 : w'.cell? ⟨w.heap.size, 1, none⟩ = some (.int .i64 0) := by rw [hb.cell (by simp)]; simp
    have hf0 : w'.frozen? ⟨w.heap.size, 0, none⟩ = false := by rw [hb.frozen (by simp)]; simp
    have hf1 : w'.frozen? ⟨w.heap.size, 1, none⟩ = false := by rw [hb.frozen (by simp)]; simp
    go_wp2_with fail
    refine bodyPost_ret (v := .tuple #[.agg #[.int .i64 x1, .int .i64 x2], .int .i64 x3]) (by simp [results, Tryz.results112, go_sem, hc0, hc1]) rfl ⟨by rw [HY.out]; rfl, ?_⟩
    exact ((((Below.refl _ _).alloc (Nat.le_refl _) _).trans (hb.mono (by simp))).setCell (by simp) _).setCell (by simp) _

/-- Valid, of a numerator and a denominator. -/
def validR (n d : Int) : Bool := decide (1 ≤ d ∧ d ≤ 1000000 ∧ -1000000000000 ≤ n ∧ n ≤ 1000000000000 ∧ Nat.gcd n.natAbs d.natAbs = 1)

set_option maxHeartbeats 1000000 in
theorem ratioValid_any (n d : Int) (w : World) :
    Calls Tryz.prog 70 #[.agg #[.int .i64 n, .int .i64 d]] w fun e w' => e = .returned (.bool (validR n d)) ∧ Below w.heap.size w w' := by
  by_cases h1 : d < 1
  · have HF : Hid (validR n d = false) := decide_eq_false (by omega)
    go_enter Tryz.func70, Tryz.ntmps70
    go_wp2_with fail
    go_ret
    exact ⟨ret_bool HF.out.symm, (Below.refl _ _).alloc (Nat.le_refl _) _⟩
  by_cases h2 : 1000000 < d
  · have HF : Hid (validR n d = false) := decide_eq_false (by omega)
    go_enter Tryz.func70, Tryz.ntmps70
    go_wp2_with fail
    go_ret
    exact ⟨ret_bool HF.out.symm, (Below.refl _ _).alloc (Nat.le_refl _) _⟩
  by_cases h3 : n < -1000000000000
  · have HF : Hid (validR n d = false) := decide_eq_false (by omega)
    go_enter Tryz.func70, Tryz.ntmps70
    go_wp2_with fail
    go_ret
    exact ⟨ret_bool HF.out.symm, (Below.refl _ _).alloc (Nat.le_refl _) _⟩
  by_cases h4 : 1000000000000 < n
  · have HF : Hid (validR n d = false) := decide_eq_false (by omega)
    go_enter Tryz.func70, Tryz.ntmps70
    go_wp2_with fail
    go_ret
    exact ⟨ret_bool HF.out.symm, (Below.refl _ _).alloc (Nat.le_refl _) _⟩
  · obtain ⟨k, rfl⟩ := Int.eq_ofNat_of_zero_le (show 0 ≤ d by omega)
    have HF : Hid (validR n k = (((Nat.gcd n.natAbs k : Nat) : Int) == 1)) := by
      show _ = _
      unfold validR
      rw [Bool.eq_iff_iff]
      simp
      omega
    go_enter Tryz.func70, Tryz.ntmps70
    go_wp2_with fail
    go_quiet ((first | (go_at_call 94; exact quiet_left (magnitude_any _ _ (by omega) (by omega))) | (go_at_call 93; exact Calls.quiet_of (gcd_any _ _ _ (by omega) (by omega)))))
    go_wp2_with fail
    go_ret
    exact ⟨ret_bool HF.out.symm, belowN ((Below.refl _ _).alloc (Nat.le_refl _) _) _⟩
end Go.Proofs.YtpdbkbadjgellaaGreatDoor

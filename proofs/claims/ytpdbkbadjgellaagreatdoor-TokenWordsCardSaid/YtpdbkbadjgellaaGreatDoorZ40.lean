/-
  The walks of payrollgen's Ratio and Fraction.
  The walk of payrollgen's Fraction.
  Plain facts: the texts of a scan's tokens are short; a token stored into a row of tokens.
-/
import Derived.Test.YtpdbkbadjgellaaGreatDoorZ19
import Derived.Test.YtpdbkbadjgellaaGreatDoorZ14
import Derived.Test.YtpdbkbadjgellaaGreatDoorZ38
import Derived.Test.YtpdbkbadjgellaaGreatDoorZ05
import Derived.Test.YtpdbkbadjgellaaGreatDoorZ10
namespace Go.Proofs.YtpdbkbadjgellaaGreatDoor
open Go.RowKit

theorem pick4 (b : Nat) (ns : List Int) (p q r s : Int) (w : World) (hT : TapeOk b ns w) : Calls Tryz.prog 21 #[.pointer (some ⟨b, 0, none⟩), .slice (some ⟨w.heap.size, 0, none⟩) 4 4] (w.alloc (.cells #[.int .i64 p, .int .i64 q, .int .i64 r, .int .i64 s] 3)) (PickPost b ns [p, q, r, s] w) := by
  refine (pick_any b w.heap.size 4 ns [p, q, r, s] (w.alloc (.cells #[.int .i64 p, .int .i64 q, .int .i64 r, .int .i64 s] 3)) (hT.alloc _) (Nat.ne_of_gt hT.lt) (by simp) (by simp) (pick_row [p, q, r, s] w)).mono ?_
  rintro e w' ⟨x, hx, rfl, h1, h2⟩
  exact ⟨x, hx, rfl, h1, ((But.refl b w).alloc _).trans h2⟩
theorem pick3n (b : Nat) (ns : List Int) (p q r : Int) (w : World) (hT : TapeOk b ns w) : Calls Tryz.prog 21 #[.pointer (some ⟨b, 0, none⟩), .slice (some ⟨w.heap.size, 0, none⟩) 3 3] (w.alloc (.cells #[.int .i64 p, .int .i64 q, .int .i64 r] 3)) (PickPost b ns [p, q, r] w) := by
  refine (pick_any b w.heap.size 3 ns [p, q, r] (w.alloc (.cells #[.int .i64 p, .int .i64 q, .int .i64 r] 3)) (hT.alloc _) (Nat.ne_of_gt hT.lt) (by simp) (by simp) (pick_row [p, q, r] w)).mono ?_
  rintro e w' ⟨x, hx, rfl, h1, h2⟩
  exact ⟨x, hx, rfl, h1, ((But.refl b w).alloc _).trans h2⟩

theorem newI_ok (n d : Int) (h1 : -1000000000000 ≤ n) (h2 : n ≤ 1000000000000) (h3 : 1 ≤ d) (h4 : d ≤ 1000000) :
    ∃ p q : Int, newI n d = (p, q, 0) ∧ -1000000000000 ≤ p ∧ p ≤ 1000000000000 ∧ 0 ≤ q ∧ q ≤ 1000000 := by
  have a1 : n.natAbs / Nat.gcd n.natAbs d.natAbs ≤ 1000000000000 := Nat.le_trans (Nat.div_le_self _ _) (by omega)
  have a2 : d.natAbs / Nat.gcd n.natAbs d.natAbs ≤ 1000000 := Nat.le_trans (Nat.div_le_self _ _) (by omega)
  refine ⟨_, _, by unfold newI; rw [if_neg (by omega)]; exact fit_done (Lib.hid rfl) rfl rfl a1 a2, ?_, ?_, ?_, ?_⟩
  · generalize n.natAbs / Nat.gcd n.natAbs d.natAbs = x at *
    split <;> omega
  · generalize n.natAbs / Nat.gcd n.natAbs d.natAbs = x at *
    split <;> omega
  · exact Int.natCast_nonneg _
  · exact Int.ofNat_le.2 a2

/-- The state inside Ratio and Fraction: the tape, the old blocks, the result's block. -/
structure RSt (b : Nat) (ns : List Int) (w wi : World) : Prop where
  tape : TapeOk b ns wi
  but : But b w wi
  res : wi.heap[w.heap.size]? = some (.cells #[.int .i64 0, .int .i64 0] 33 (0, 0))
theorem RSt.init {b : Nat} {ns : List Int} {w : World} (h : TapeOk b ns w) : RSt b ns w (w.alloc (.cells #[.int .i64 0, .int .i64 0] 33)) :=
  ⟨h.alloc _, (But.refl _ _).alloc _, heap_alloc_new w _⟩
theorem RSt.next {b : Nat} {ns : List Int} {w wi wj : World} (h : RSt b ns w wi) (hl : b < w.heap.size) (hT : TapeOk b ns wj) (hb : But b wi wj) : RSt b ns w wj :=
  ⟨hT, h.but.trans hb, (hb.block _ (heap_lt h.res) (by omega)).trans h.res⟩
theorem RSt.below {b : Nat} {ns : List Int} {w wi wj : World} (h : RSt b ns w wi) (hb : Below wi.heap.size wi wj) : RSt b ns w wj :=
  ⟨h.tape.below hb, h.but.trans (.of_below hb), (hb.block _ (heap_lt h.res)).trans h.res⟩
theorem RSt.alloc {b : Nat} {ns : List Int} {w wi : World} (h : RSt b ns w wi) (o : Obj) : RSt b ns w (wi.alloc o) := h.below ((Below.refl _ _).alloc (Nat.le_refl _) _)

/-- What Ratio leaves. -/
def RatPost (b : Nat) (ns : List Int) (w : World) (e : Ending) (w' : World) : Prop :=
  ∃ n d : Int, (-1000000000000 ≤ n ∧ n ≤ 1000000000000 ∧ 0 ≤ d ∧ d ≤ 1000000) ∧ e = .returned (.agg #[.int .i64 n, .int .i64 d]) ∧ TapeOk b ns w' ∧ But b w w'

theorem blk2 {w : World} {g : Nat} {v0 v1 : Value} {T : TypeId} (h : w.heap[g]? = some (.cells #[v0, v1] T (0, 0))) :
    w.cell? ⟨g, 0, none⟩ = some v0 ∧ w.cell? ⟨g, 1, none⟩ = some v1 ∧ w.frozen? ⟨g, 0, none⟩ = false ∧ w.frozen? ⟨g, 1, none⟩ = false :=
  ⟨Lib.cell_of_heap h 0, Lib.cell_of_heap h 1, Lib.frozen_of_heap h 0, Lib.frozen_of_heap h 1⟩

set_option maxHeartbeats 2000000 in
set_option maxRecDepth 100000 in
theorem ratio_any (b : Nat) (ns : List Int) (w : World) (h : TapeOk b ns w) :
    Calls Tryz.prog 15 #[.pointer (some ⟨b, 0, none⟩)] w (RatPost b ns w) := by
  have HT := Lib.hid h
  have hlt := h.lt
  clear h
  go_enter Tryz.func15, Tryz.ntmps15
  go_wp2_with fail
  have HS := Lib.hid (RSt.init HT.out)
  generalize w.alloc (.cells #[.int .i64 0, .int .i64 0] 33) = w1 at *
  refine (next_any b ns 41 w1 HS.out.tape (by omega) (by omega)).mono ?_
  rintro e w2 ⟨k1, hk1, rfl, hT2, hb2⟩
  replace HS := Lib.hid (HS.out.next hlt hT2 hb2)
  have b1 : k1 ≤ 40 := by omega
  clear hT2 hb2 hk1
  go_wp2_with fail
  refine (next_any b ns 12 w2 HS.out.tape (by omega) (by omega)).mono ?_
  rintro e w3 ⟨k2, hk2, rfl, hT3, hb3⟩
  replace HS := Lib.hid (HS.out.next hlt hT3 hb3)
  have b2 : k2 ≤ 11 := by omega
  clear hT3 hb3 hk2
  go_wp2_with fail
  refine (next_any b ns 8 w3 HS.out.tape (by omega) (by omega)).mono ?_
  rintro e w4 ⟨k3, hk3, rfl, hT4, hb4⟩
  replace HS := Lib.hid (HS.out.next hlt hT4 hb4)
  clear hT4 hb4 hk3
  have tail : ∀ (n d : Int), -1000000000000 ≤ n → n ≤ 1000000000000 → 1 ≤ d → d ≤ 1000000 → Hid (∃ p q : Int, newI n d = (p, q, 0) ∧ -1000000000000 ≤ p ∧ p ≤ 1000000000000 ∧ 0 ≤ q ∧ q ≤ 1000000) := fun n d a1 a2 a3 a4 => newI_ok n d a1 a2 a3 a4
  by_cases h5 : k3 = 5
  · subst h5
    go_wp2_with fail
    refine (pick4 b ns 1000000000000 (-1000000000000) 999999999999 999999 w4 HS.out.tape).mono ?_
    rintro e w5 ⟨n, hn, rfl, hT5, hb5⟩
    replace HS := Lib.hid (HS.out.next hlt hT5 hb5)
    clear hT5 hb5
    have n1 : -1000000000000 ≤ n ∧ n ≤ 1000000000000 := by simp at hn; omega
    go_wp2_with fail
    refine (pick4 b ns 1 1000000 7 100 w5 HS.out.tape).mono ?_
    rintro e w6 ⟨d, hd, rfl, hT6, hb6⟩
    replace HS := Lib.hid (HS.out.next hlt hT6 hb6)
    clear hT6 hb6
    have d1 : 1 ≤ d ∧ d ≤ 1000000 := by simp at hd; omega
    clear hn hd
    obtain ⟨p, q, hpq, bq⟩ := (tail n d n1.1 n1.2 d1.1 d1.2).out
    have HQ := Lib.hid bq
    clear bq
    go_wp2_with fail
    refine (refNew_any n d w6 (by omega) (by omega) (by omega) (by omega)).mono ?_
    rintro e w7 ⟨rfl, hb7⟩
    rw [hpq]
    unfold ratErr
    replace HS := Lib.hid (HS.out.below hb7)
    obtain ⟨r0, r1, f0, f1⟩ := blk2 HS.out.res
    have hsz := heap_lt HS.out.res
    clear hb7 hpq tail
    go_wp2_with fail
    refine bodyPost_ret (v := .agg #[.int .i64 p, .int .i64 q]) (by simp [results, Tryz.results15, go_sem, r0, r1, hsz]) rfl ⟨p, q, HQ.out, rfl, ?_, ?_⟩
    · exact ((HS.out.tape.setCell hlt _).setCell hlt _).alloc _
    · exact ((HS.out.but.setNew (Nat.le_refl _) _).setNew (Nat.le_refl _) _).alloc _
  have g5 : ((k3 : Int) == 5) = false := by simp; omega
  by_cases h6 : k3 = 6
  · subst h6
    go_wp2_with fail
    refine (next_any b ns 200001 w4 HS.out.tape (by omega) (by omega)).mono ?_
    rintro e w6 ⟨k4, hk4, rfl, hT6, hb6⟩
    replace HS := Lib.hid (HS.out.next hlt hT6 hb6)
    have b4 : k4 ≤ 200000 := by omega
    clear hT6 hb6 hk4
    obtain ⟨p, q, hpq, bq⟩ := (tail ((k4 : Int) - 100000) 100 (by omega) (by omega) (by omega) (by omega)).out
    have HQ := Lib.hid bq
    clear bq
    go_wp2_with fail
    refine (refNew_any ((k4 : Int) - 100000) 100 w6 (by omega) (by omega) (by omega) (by omega)).mono ?_
    rintro e w7 ⟨rfl, hb7⟩
    rw [hpq]
    unfold ratErr
    replace HS := Lib.hid (HS.out.below hb7)
    obtain ⟨r0, r1, f0, f1⟩ := blk2 HS.out.res
    have hsz := heap_lt HS.out.res
    clear hb7 hpq tail
    go_wp2_with fail
    refine bodyPost_ret (v := .agg #[.int .i64 p, .int .i64 q]) (by simp [results, Tryz.results15, go_sem, r0, r1, hsz]) rfl ⟨p, q, HQ.out, rfl, ?_, ?_⟩
    · exact ((HS.out.tape.setCell hlt _).setCell hlt _).alloc _
    · exact ((HS.out.but.setNew (Nat.le_refl _) _).setNew (Nat.le_refl _) _).alloc _
  have g6 : ((k3 : Int) == 6) = false := by simp; omega
  by_cases h7 : k3 = 7
  · subst h7
    clear g5 g6 h5 h6
    go_wp2_with fail
    refine (next_any b ns 1000 w4 HS.out.tape (by omega) (by omega)).mono ?_
    rintro e w5 ⟨k4, hk4, rfl, hT5, hb5⟩
    replace HS := Lib.hid (HS.out.next hlt hT5 hb5)
    have b4 : k4 ≤ 999 := by omega
    clear hT5 hb5 hk4
    go_wp2_with fail
    refine (pick4 b ns 1000000 999983 65536 1000 w5 HS.out.tape).mono ?_
    rintro e w6 ⟨d, hd, rfl, hT6, hb6⟩
    replace HS := Lib.hid (HS.out.next hlt hT6 hb6)
    clear hT6 hb6
    have d1 : 1 ≤ d ∧ d ≤ 1000000 := by simp at hd; omega
    clear hd
    obtain ⟨p, q, hpq, bq⟩ := (tail (k4 : Int) d (by omega) (by omega) d1.1 d1.2).out
    have HQ := Lib.hid bq
    clear bq
    go_wp2_with fail
    refine (refNew_any (k4 : Int) d w6 (by omega) (by omega) (by omega) (by omega)).mono ?_
    rintro e w7 ⟨rfl, hb7⟩
    rw [hpq]
    unfold ratErr
    replace HS := Lib.hid (HS.out.below hb7)
    obtain ⟨r0, r1, f0, f1⟩ := blk2 HS.out.res
    have hsz := heap_lt HS.out.res
    clear hb7 hpq tail
    go_wp2_with fail
    refine bodyPost_ret (v := .agg #[.int .i64 p, .int .i64 q]) (by simp [results, Tryz.results15, go_sem, r0, r1, hsz]) rfl ⟨p, q, HQ.out, rfl, ?_, ?_⟩
    · exact ((HS.out.tape.setCell hlt _).setCell hlt _).alloc _
    · exact ((HS.out.but.setNew (Nat.le_refl _) _).setNew (Nat.le_refl _) _).alloc _
  have g7 : ((k3 : Int) == 7) = false := by simp; omega
  clear h5 h6 h7
  obtain ⟨p, q, hpq, bq⟩ := (tail ((k1 : Int) - 20) (1 + (k2 : Int)) (by omega) (by omega) (by omega) (by omega)).out
  have HQ := Lib.hid bq
  clear bq
  go_wp2_with fail
  refine (refNew_any ((k1 : Int) - 20) (1 + (k2 : Int)) w4 (by omega) (by omega) (by omega) (by omega)).mono ?_
  rintro e w7 ⟨rfl, hb7⟩
  rw [hpq]
  unfold ratErr
  replace HS := Lib.hid (HS.out.below hb7)
  obtain ⟨r0, r1, f0, f1⟩ := blk2 HS.out.res
  have hsz := heap_lt HS.out.res
  clear hb7 hpq tail
  go_wp2_with fail
  refine bodyPost_ret (v := .agg #[.int .i64 p, .int .i64 q]) (by simp [results, Tryz.results15, go_sem, r0, r1, hsz]) rfl ⟨p, q, HQ.out, rfl, ?_, ?_⟩
  · exact ((HS.out.tape.setCell hlt _).setCell hlt _).alloc _
  · exact ((HS.out.but.setNew (Nat.le_refl _) _).setNew (Nat.le_refl _) _).alloc _
end Go.Proofs.YtpdbkbadjgellaaGreatDoor

namespace Go.Proofs.YtpdbkbadjgellaaGreatDoor
open Go.RowKit

/-- What Fraction leaves. -/
def FracPost (b : Nat) (ns : List Int) (w : World) (e : Ending) (w' : World) : Prop :=
  ∃ n d : Int, e = .returned (.agg #[.int .i64 n, .int .i64 d]) ∧ TapeOk b ns w' ∧ But b w w'
set_option maxHeartbeats 2000000 in
set_option maxRecDepth 100000 in
theorem fraction_any (b : Nat) (ns : List Int) (w : World) (h : TapeOk b ns w) :
    Calls Tryz.prog 17 #[.pointer (some ⟨b, 0, none⟩)] w (FracPost b ns w) := by
  have HT := Lib.hid h
  have hlt := h.lt
  clear h
  go_enter Tryz.func17, Tryz.ntmps17
  go_wp2_with fail
  have HS := Lib.hid (RSt.init HT.out)
  generalize w.alloc (.cells #[.int .i64 0, .int .i64 0] 33) = w1 at *
  refine (ratio_any b ns w1 HS.out.tape).mono ?_
  rintro e w2 ⟨n, d, ⟨n1, n2, d1, d2⟩, rfl, hT2, hb2⟩
  replace HS := Lib.hid (HS.out.next hlt hT2 hb2)
  clear hT2 hb2
  go_wp2_with fail
  have HBX := Lib.hid (heap_alloc_new w2 (.cells #[.int .i64 n, .int .i64 d] 33))
  have hz2 : w.heap.size < w2.heap.size := heap_lt HS.out.res
  have hbz : b ≠ w2.heap.size := by omega
  replace HS := Lib.hid (HS.out.alloc (.cells #[.int .i64 n, .int .i64 d] 33))
  generalize w2.alloc (.cells #[.int .i64 n, .int .i64 d] 33) = w3 at *
  refine (next_any b ns 10 w3 HS.out.tape (by omega) (by omega)).mono ?_
  rintro e w4 ⟨k, hk, rfl, hT4, hb4⟩
  replace HBX := Lib.hid ((hb4.block _ (heap_lt HBX.out) (Ne.symm hbz)).trans HBX.out)
  replace HS := Lib.hid (HS.out.next hlt hT4 hb4)
  clear hT4 hb4 hk
  by_cases h8 : k = 8
  · subst h8
    obtain ⟨q0, q1, g0, g1⟩ := blk2 HBX.out
    obtain ⟨r0, r1, f0, f1⟩ := blk2 HS.out.res
    go_wp2_with fail
    have hb2 : b < w2.heap.size := by omega
    have hsz := heap_lt HS.out.res
    have hsx := heap_lt HBX.out
    refine bodyPost_ret (v := .agg #[.int .i64 (2 * n), .int .i64 (2 * d)]) (by simp [results, Tryz.results17, go_sem, r0, r1]) rfl ⟨(2 * n), (2 * d), rfl, ?_, ?_⟩
    · exact ((((HS.out.tape.setCell hb2 _).setCell hb2 _).setCell hlt _).setCell hlt _)
    · exact ((((HS.out.but.setNew (Nat.le_of_lt hz2) _).setNew (Nat.le_of_lt hz2) _).setNew (Nat.le_refl _) _).setNew (Nat.le_refl _) _)
  · have g8 : ((k : Int) == 8) = false := by simp; omega
    by_cases h9 : k = 9
    · subst h9
      go_wp2_with fail
      refine (pick3n b ns 0 (-1) 1000001 w4 HS.out.tape).mono ?_
      rintro e w5 ⟨x, hx, rfl, hT5, hb5⟩
      replace HBX := Lib.hid ((hb5.block _ (heap_lt HBX.out) (Ne.symm hbz)).trans HBX.out)
      replace HS := Lib.hid (HS.out.next hlt hT5 hb5)
      clear hT5 hb5 hx
      obtain ⟨q0, q1, g0, g1⟩ := blk2 HBX.out
      obtain ⟨r0, r1, f0, f1⟩ := blk2 HS.out.res
      go_wp2_with fail
      have hb2 : b < w2.heap.size := by omega
      have hsz := heap_lt HS.out.res
      have hsx := heap_lt HBX.out
      refine bodyPost_ret (v := .agg #[.int .i64 n, .int .i64 x]) (by simp [results, Tryz.results17, go_sem, r0, r1]) rfl ⟨n, x, rfl, ?_, ?_⟩
      · exact (((HS.out.tape.setCell hb2 _).setCell hlt _).setCell hlt _)
      · exact (((HS.out.but.setNew (Nat.le_of_lt hz2) _).setNew (Nat.le_refl _) _).setNew (Nat.le_refl _) _)
    · have g9 : ((k : Int) == 9) = false := by simp; omega
      obtain ⟨q0, q1, g0, g1⟩ := blk2 HBX.out
      obtain ⟨r0, r1, f0, f1⟩ := blk2 HS.out.res
      go_wp2_with fail
      have hb2 : b < w2.heap.size := by omega
      have hsz := heap_lt HS.out.res
      have hsx := heap_lt HBX.out
      refine bodyPost_ret (v := .agg #[.int .i64 n, .int .i64 d]) (by simp [results, Tryz.results17, go_sem, r0, r1]) rfl ⟨n, d, rfl, ?_, ?_⟩
      · exact ((HS.out.tape.setCell hlt _).setCell hlt _)
      · exact ((HS.out.but.setNew (Nat.le_refl _) _).setNew (Nat.le_refl _) _)
end Go.Proofs.YtpdbkbadjgellaaGreatDoor

namespace Go.Proofs.YtpdbkbadjgellaaGreatDoor
open Go.RowKit
namespace Tk
theorem read_text (l : List UInt8) (t : Tok) (n : Nat) (h : readTok l = .ok (t, n)) : t.text.length ≤ l.length := by
  unfold readTok at h
  split at h
  · split at h
    · cases h
    · cases h; exact Nat.zero_le _
  · split at h
    · split at h
      · cases h
      · cases h; exact Nat.zero_le _
    · split at h
      · split at h
        · cases h; simp only [List.length_take]; exact Nat.min_le_right _ _
        · cases h
      · split at h
        · cases h
        · cases h; simp only [List.length_take]; exact Nat.min_le_right _ _
theorem scanAt_text (n p : Nat) (x : List UInt8) (hn : x.length ≤ n) : ∀ t ∈ outT (scanAt p x), t.text.length ≤ x.length := by
  induction n generalizing p x with
  | zero =>
    have : x = [] := List.eq_nil_of_length_eq_zero (by omega)
    subst this
    exact fun t ht => by cases ht
  | succ n ih =>
    rw [scanAt_eq]
    split
    · exact fun t ht => by cases ht
    · cases hx : readTok (x.drop (skipN false x)) with
      | error e => exact fun t ht => by cases ht
      | ok y =>
        obtain ⟨t, m⟩ := y
        have hm := read_len _ _ _ hx
        have hr := read_text _ _ _ hx
        simp only [List.length_drop] at hm hr
        have h := ih (p + skipN false x + m) ((x.drop (skipN false x)).drop m) (by simp; omega)
        simp only
        generalize scanAt (p + skipN false x + m) ((x.drop (skipN false x)).drop m) = r at *
        simp only [List.length_drop] at h
        cases r with
        | error q => exact fun t ht => by cases ht
        | ok ts =>
          simp only [outT] at h
          intro u hu
          simp only [outT, after, List.cons_append, List.nil_append, List.mem_cons] at hu
          rcases hu with rfl | hu
          · simp only; omega
          · have := h u hu
            omega
theorem scan_text (x : List UInt8) : ∀ t ∈ outT (scan x), t.text.length ≤ x.length := by
  unfold scan
  split
  · exact fun t ht => by cases ht
  · exact scanAt_text x.length 0 x (Nat.le_refl _)
end Tk

theorem tokRow_set {w : World} {g cap : Nat} {cur : Array Value} {ms : List Tk.Tok} {j : Nat} (t : Tk.Tok) (hg : w.heap[g]? = some (.cells cur 43 (0, 0)))
    (hcur : cur.toList.take (ms.length * 6) = toksCells ms) (hsz : cur.size = cap * 6) (hle : ms.length ≤ cap) (hj : j < ms.length) :
    TokRow ((((((w.setCell ⟨g, j * 6, none⟩ (.int .i64 t.kind)).setCell ⟨g, j * 6 + 1, none⟩ (.string ⟨t.text.toArray⟩)).setCell ⟨g, j * 6 + 2, none⟩ (.int .i64 t.num)).setCell ⟨g, j * 6 + 3, none⟩ (.int .i64 t.den)).setCell ⟨g, j * 6 + 4, none⟩ (.int .i64 t.day)).setCell ⟨g, j * 6 + 5, none⟩ (.int .i64 t.place))
      (.slice (some ⟨g, 0, none⟩) ms.length cap) (ms.set j t) := by
  have hw := setCell_at (setCell_at (setCell_at (setCell_at (setCell_at (setCell_at hg (i := j * 6) (.int .i64 t.kind)) (i := j * 6 + 1) (.string ⟨t.text.toArray⟩)) (i := j * 6 + 2) (.int .i64 t.num)) (i := j * 6 + 3) (.int .i64 t.den)) (i := j * 6 + 4) (.int .i64 t.day)) (i := j * 6 + 5) (.int .i64 t.place)
  refine ⟨some ⟨g, 0, none⟩, cap, by rw [List.length_set], fun hn => ⟨g, 0, rfl, fun i hi k u hu => ?_⟩⟩
  rw [List.length_set] at hi
  have hk : k < 6 := by
    rcases Nat.lt_or_ge k 6 with h' | h'
    · exact h'
    · rw [List.getElem?_eq_none (by simp [tokCells]; omega)] at hu; cases hu
  rw [show 0 + i * 6 + k = i * 6 + k by omega, Lib.cell_of_heap hw (i * 6 + k)]
  have hs : j * 6 + 5 < cur.size := by omega
  by_cases hij : j = i
  · subst hij
    rw [List.getElem_set_self] at hu
    have : k = 0 ∨ k = 1 ∨ k = 2 ∨ k = 3 ∨ k = 4 ∨ k = 5 := by omega
    rcases this with rfl | rfl | rfl | rfl | rfl | rfl <;> simp [tokCells] at hu <;> subst hu <;> simp [Array.getElem?_setIfInBounds, Array.size_setIfInBounds] <;> omega
  · rw [List.getElem_set_ne hij] at hu
    have h0 : ∀ c, c < 6 → ¬ j * 6 + c = i * 6 + k := fun c hc => by omega
    have e1 := toksCells_get ms i k hi hk
    rw [hu, ← hcur, List.getElem?_take_of_lt (by omega)] at e1
    rw [Array.getElem?_setIfInBounds_ne (h0 5 (by omega)), Array.getElem?_setIfInBounds_ne (h0 4 (by omega)), Array.getElem?_setIfInBounds_ne (h0 3 (by omega)), Array.getElem?_setIfInBounds_ne (h0 2 (by omega)), Array.getElem?_setIfInBounds_ne (h0 1 (by omega)), Array.getElem?_setIfInBounds_ne (by have := h0 0 (by omega); simpa using this)]
    rw [← e1, Array.getElem?_toList]
theorem row_cells {w : World} {g cap : Nat} {cur : Array Value} {j : Nat} (hg : w.heap[g]? = some (.cells cur 43 (0, 0))) (hsz : cur.size = cap * 6) (hj : j < cap) :
    ∀ k, k < 6 → ∃ u, w.cell? ⟨g, j * 6 + k, none⟩ = some u := by
  intro k hk
  refine ⟨cur[j * 6 + k]'(by omega), ?_⟩
  rw [Lib.cell_of_heap hg (j * 6 + k), Array.getElem?_eq_getElem]
theorem TokRow.cellsN {w : World} {A : Option Addr} {N c : Nat} {ts : List Tk.Tok} (h : TokRow w (.slice A N c) ts) (hN : ts.length = N) {k : Nat} (hk : k < N) :
    ∃ g off t1 t2 t3 t4 t5 t6, A = some ⟨g, off, none⟩ ∧ (⟨t1, t2, t3, t4, t5, t6⟩ : Tk.Tok) ∈ ts ∧ w.cell? ⟨g, off + k * 6, none⟩ = some (.int .i64 t1) ∧ w.cell? ⟨g, off + k * 6 + 1, none⟩ = some (.string ⟨t2.toArray⟩) ∧
      w.cell? ⟨g, off + k * 6 + 2, none⟩ = some (.int .i64 t3) ∧ w.cell? ⟨g, off + k * 6 + 3, none⟩ = some (.int .i64 t4) ∧ w.cell? ⟨g, off + k * 6 + 4, none⟩ = some (.int .i64 t5) ∧ w.cell? ⟨g, off + k * 6 + 5, none⟩ = some (.int .i64 t6) := by
  subst hN
  obtain ⟨A', c', e', hA⟩ := h
  obtain ⟨g, off, hAe, hc⟩ := hA (by omega)
  simp only [Value.slice.injEq] at e'
  obtain ⟨rfl, _, rfl⟩ := e'
  have h0 := hc k hk
  have hm : ts[k] ∈ ts := List.getElem_mem hk
  obtain ⟨t1, t2, t3, t4, t5, t6, ht⟩ : ∃ t1 t2 t3 t4 t5 t6, ts[k] = ⟨t1, t2, t3, t4, t5, t6⟩ := ⟨_, _, _, _, _, _, rfl⟩
  rw [ht] at h0 hm
  exact ⟨g, off, t1, t2, t3, t4, t5, t6, hAe, hm, h0 0 _ rfl, h0 1 _ rfl, h0 2 _ rfl, h0 3 _ rfl, h0 4 _ rfl, h0 5 _ rfl⟩
theorem TokRow.but {w w' : World} {b g off n c : Nat} {ts : List Tk.Tok} (h : TokRow w (.slice (some ⟨g, off, none⟩) n c) ts) (hb : But b w w') (hne : g ≠ b) : TokRow w' (.slice (some ⟨g, off, none⟩) n c) ts := by
  obtain ⟨A, c', e, hc⟩ := h
  refine ⟨A, c', e, fun hn => ?_⟩
  obtain ⟨g', off', rfl, hg⟩ := hc hn
  simp only [Value.slice.injEq, Option.some.injEq, Addr.mk.injEq, and_true] at e
  obtain ⟨⟨rfl, rfl⟩, _⟩ := e
  refine ⟨g, off, rfl, fun i hi j u hu => ?_⟩
  have := hg i hi j u hu
  rw [hb.cell (World.block_lt_of_cell? w _ this) hne]
  exact this
/-- The state while a token is made: the tape, the old blocks, the row of tokens. -/
structure WSt (w w0 : World) (ns : List Int) (g : Nat) (o : Obj) (wi : World) : Prop where
  tape : TapeOk w0.heap.size ns wi
  below : Below w.heap.size w wi
  row : wi.heap[g]? = some o
theorem WSt.next {w w0 wi wj : World} {ns : List Int} {g : Nat} {o : Obj} (h : WSt w w0 ns g o wi) (hle : w.heap.size ≤ w0.heap.size) (hne : w0.heap.size ≠ g) (hT : TapeOk w0.heap.size ns wj) (hb : But w0.heap.size wi wj) : WSt w w0 ns g o wj :=
  ⟨hT, h.below.trans (hb.below hle h.below.size), (hb.block g (heap_lt h.row) (Ne.symm hne)).trans h.row⟩
/-- What a scan leaves, in one form; a row that is not empty is the callee's own. -/
theorem scan_outO {r : Except (Nat × Int) (List Tk.Tok)} {w w' : World} {e : Ending} (h : ScanPost r w e w') :
    ∃ A c, e = .returned (.tuple #[.slice A (Tk.outT r).length c, .int .i64 (Tk.outN r), .int .i64 (Tk.outE r)]) ∧ TokRow w' (.slice A (Tk.outT r).length c) (Tk.outT r) ∧ Below w.heap.size w w' ∧
      (0 < (Tk.outT r).length → ∃ g cur, A = some ⟨g, 0, none⟩ ∧ w.heap.size ≤ g ∧ w'.heap[g]? = some (.cells cur 43 (0, 0)) ∧ (Tk.outT r).length ≤ c ∧ cur.size = c * 6 ∧ cur.toList.take ((Tk.outT r).length * 6) = toksCells (Tk.outT r)) := by
  obtain ⟨hb, h⟩ := h
  cases r with
  | error x => exact ⟨none, 0, h, ⟨none, 0, rfl, fun h => by cases h⟩, hb, fun h => absurd h (by simp [Tk.outT])⟩
  | ok ts =>
    obtain ⟨v, rfl, hown⟩ := h
    have hr := TokRow.of_own hown
    obtain ⟨A, c, rfl, hc⟩ := hr
    refine ⟨A, c, rfl, ⟨A, c, rfl, hc⟩, hb, fun h0 => ?_⟩
    rcases hown.2 with ⟨_, h2⟩ | ⟨g, cap, cur, hv, hg, hh, hle, _, hsz, hcur⟩
    · simp only [Tk.outT] at h0; omega
    · simp only [Value.slice.injEq] at hv
      obtain ⟨rfl, _, rfl⟩ := hv
      exact ⟨g, cur, rfl, hg, hh, hle, hsz, hcur⟩
end Go.Proofs.YtpdbkbadjgellaaGreatDoor

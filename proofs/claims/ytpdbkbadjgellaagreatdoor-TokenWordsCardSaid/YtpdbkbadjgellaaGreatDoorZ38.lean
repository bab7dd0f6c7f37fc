/-
  The pieces of texts: the walk of payrolllaw17.piece.
  Plain laws: bounds of a scan, and what it leaves. No program in sight.
  The walks of scans and of the law TokenScans.
  Plain laws: a number's text is read as this number.
  Plain laws: the text of a decimal number, read back.
  Plain laws: the reference's text of a number and of a day is the program's.
  The walk of payrollref17.Valid (the case of numbers so far).
-/
import Derived.Test.YtpdbkbadjgellaaGreatDoorZ10
import Derived.Test.YtpdbkbadjgellaaGreatDoorZ34
import Derived.Test.YtpdbkbadjgellaaGreatDoorZ37
import Derived.Test.YtpdbkbadjgellaaGreatDoorZ05
import Derived.Deep.DeepCutAuto
import Derived.Test.YtpdbkbadjgellaaGreatDoorZ31
import Derived.Test.YtpdbkbadjgellaaGreatDoorZ15
import Derived.Deep.RegionHeld3
namespace Go.Proofs.YtpdbkbadjgellaaGreatDoor
open Go.RowKit

def pieces : List (List UInt8) := [[97], [105, 102], [104, 97, 108, 102, 95, 117, 112], [120, 95, 57], [65], [95, 97], [97, 98, 99, 100, 101, 102, 103, 104, 105, 106, 107, 108, 109, 110, 111, 112, 113, 114, 115, 116, 117, 118, 119, 120], [97, 98, 99, 100, 101, 102, 103, 104, 105, 106, 107, 108, 109, 110, 111, 112, 113, 114, 115, 116, 117, 118, 119, 120, 121], [48], [48, 48, 55], [49, 46, 53], [49, 46], [46, 53], [49, 50, 37], [48, 46, 49, 50, 51, 52, 53, 37], [48, 46, 49, 50, 51, 52, 37], [49, 46, 49, 50, 51, 52, 53, 54, 55], [48, 46, 48, 48, 48, 48, 48, 49], [49, 48, 48, 48, 48, 48, 48, 48, 48, 48, 48, 48, 48], [49, 48, 48, 48, 48, 48, 48, 48, 48, 48, 48, 48, 49], [57, 57, 57, 57, 57, 57, 57, 57, 57, 57, 57, 57, 46, 53], [49, 48, 48, 48, 48, 48, 48, 48, 48, 48, 48, 48, 48, 48, 48, 37], [49, 48, 48, 48, 48, 48, 48, 48, 48, 48, 48, 48, 48, 48, 49, 37], [57, 57, 57, 57, 57, 57, 57, 57, 57, 57, 57, 57, 57, 57, 57, 57, 57, 57, 57, 57], [49, 97], [49, 95], [53, 37, 120], [50, 48, 50, 54, 45, 48, 50, 45, 50, 57], [50, 48, 50, 52, 45, 48, 50, 45, 50, 57], [50, 48, 50, 54, 45, 49, 45, 48, 49], [49, 50, 48, 50, 54, 45, 48, 49, 45, 48, 49], [50, 48, 50, 54, 45, 48, 49, 45, 48, 49, 49], [60], [60, 61], [60, 62], [61, 62], [62, 61], [91], [93], [58], [59], [33], [34], [128], [35], [10], [9], [13], [32], [45], [42, 47]]
theorem pieces_len : pieces.length = 51 := by decide
theorem pieces_short : ∀ x ∈ pieces, x.length ≤ 25 := by decide

/-- What piece leaves. -/
def PiecePost (b : Nat) (ns : List Int) (w : World) (e : Ending) (w' : World) : Prop :=
  ∃ x, x ∈ pieces ∧ e = .returned (.string ⟨x.toArray⟩) ∧ TapeOk b ns w' ∧ But b w w'

theorem piece_cell (w : World) (k : Nat) (hk : k < 51) : ∃ x, x ∈ pieces ∧ (w.alloc (.cells (pieces.map fun x => Value.string ⟨x.toArray⟩).toArray 9)).cell? ⟨w.heap.size, k, none⟩ = some (.string ⟨x.toArray⟩) := by
  refine ⟨pieces[k]'(by rw [pieces_len]; exact hk), List.getElem_mem _, ?_⟩
  rw [Lib.cell_of_heap (heap_alloc_new w _), List.getElem?_toArray, List.getElem?_map, List.getElem?_eq_getElem (by rw [pieces_len]; exact hk)]
  rfl

set_option maxHeartbeats 1000000 in
set_option maxRecDepth 100000 in
theorem piece_any (b : Nat) (ns : List Int) (w : World) (h : TapeOk b ns w) :
    Calls Tryz.prog 7 #[.pointer (some ⟨b, 0, none⟩)] w (PiecePost b ns w) := by
  have HT := Lib.hid h
  have hlt := h.lt
  clear h
  go_enter Tryz.func7, Tryz.ntmps7
  go_wp2_with fail
  change Calls _ _ _ (w.alloc (.cells (pieces.map fun x => Value.string ⟨x.toArray⟩).toArray 9)) _
  have HC := Lib.hid (piece_cell w)
  have hB0 : But b w (w.alloc (.cells (pieces.map fun x => Value.string ⟨x.toArray⟩).toArray 9)) := (But.refl _ _).alloc _
  have HT0 : Hid (TapeOk b ns (w.alloc (.cells (pieces.map fun x => Value.string ⟨x.toArray⟩).toArray 9))) := HT.out.below ((Below.refl _ _).alloc (Nat.le_refl _) _)
  have hz0 : w.heap.size < (w.alloc (.cells (pieces.map fun x => Value.string ⟨x.toArray⟩).toArray 9)).heap.size := by simp
  generalize w.alloc (.cells (pieces.map fun x => Value.string ⟨x.toArray⟩).toArray 9) = w1 at *
  refine (next_any b ns 51 w1 HT0.out (by omega) (by omega)).mono ?_
  rintro e w2 ⟨k, hk, rfl, hT2, hB2⟩
  have hk51 : k < 51 := by omega
  obtain ⟨x, hx, hc⟩ := HC.out k hk51
  have hc2 : w2.cell? ⟨w.heap.size, k, none⟩ = some (.string ⟨x.toArray⟩) := by rw [hB2.cell (by simpa using hz0) (by simp; omega)]; exact hc
  have HX := Lib.hid hx
  have HT2 := Lib.hid hT2
  clear hT2 hc hx HC HT0 HT
  go_wp2_with fail
  go_ret
  exact ⟨x, HX.out, rfl, HT2.out, hB0.trans hB2⟩
end Go.Proofs.YtpdbkbadjgellaaGreatDoor

namespace Go.Proofs.YtpdbkbadjgellaaGreatDoor
namespace Tk

/-- What a scan gives: the tokens, the place, the error. -/
def outT : Except (Nat × Int) (List Tok) → List Tok
  | .error _ => []
  | .ok ts => ts
def outN : Except (Nat × Int) (List Tok) → Nat
  | .error (a, _) => a
  | .ok _ => 0
def outE : Except (Nat × Int) (List Tok) → Int
  | .error (_, e) => e
  | .ok _ => 0
/-- Where a scan's tokens and its error may lie. -/
def Bd (p n : Nat) (r : Except (Nat × Int) (List Tok)) : Prop := outN r ≤ p + n ∧ (outT r).length ≤ n ∧ ∀ t ∈ outT r, 0 ≤ t.place ∧ t.place ≤ (p + n : Nat)
theorem scanAt_bd (n p : Nat) (x : List UInt8) (hn : x.length ≤ n) : Bd p x.length (scanAt p x) := by
  induction n generalizing p x with
  | zero =>
    have : x = [] := List.eq_nil_of_length_eq_zero (by omega)
    subst this
    exact ⟨Nat.zero_le _, Nat.le_refl _, fun t ht => by cases ht⟩
  | succ n ih =>
    rw [scanAt_eq]
    have hk := skip_le false x
    split
    · exact ⟨Nat.zero_le _, Nat.zero_le _, fun t ht => by cases ht⟩
    · cases hx : readTok (x.drop (skipN false x)) with
      | error e => exact ⟨by simp only [outN]; omega, Nat.zero_le _, fun t ht => by cases ht⟩
      | ok y =>
        obtain ⟨t, m⟩ := y
        have hm := read_len _ _ _ hx
        simp only [List.length_drop] at hm
        have h := ih (p + skipN false x + m) ((x.drop (skipN false x)).drop m) (by simp; omega)
        simp only
        generalize scanAt (p + skipN false x + m) ((x.drop (skipN false x)).drop m) = r at *
        simp only [List.length_drop] at h
        cases r with
        | error q => exact ⟨by have := h.1; simp only [outN, after] at this ⊢; omega, Nat.zero_le _, fun t ht => by cases ht⟩
        | ok ts =>
          obtain ⟨_, h2, h3⟩ := h
          simp only [outT] at h2 h3
          refine ⟨Nat.zero_le _, by simp only [outT, after, List.length_append, List.length_cons, List.length_nil]; omega, fun u hu => ?_⟩
          simp only [outT, after, List.cons_append, List.nil_append, List.mem_cons] at hu
          rcases hu with rfl | hu
          · exact ⟨by simp only; omega, by simp only; omega⟩
          · have := h3 u hu
            exact ⟨this.1, by omega⟩
theorem scan_bd (x : List UInt8) (h : x.length ≤ 16384) : Bd 0 x.length (scan x) := by
  unfold scan
  rw [if_neg (by omega)]
  exact scanAt_bd x.length 0 x (Nat.le_refl _)
end Tk
end Go.Proofs.YtpdbkbadjgellaaGreatDoor

namespace Go.Proofs.YtpdbkbadjgellaaGreatDoor
open Go.RowKit
attribute [local go_sem] ba_get ba_extract take_rest ba_append
attribute [local go_sem ↓] run_eql_tok run_neq_tok

theorem scan_few (l : List UInt8) : (Tk.outT (Tk.scan l)).length ≤ 100000 := by
  by_cases h : 16384 < l.length
  · have : Tk.scan l = .error (0, 3) := by unfold Tk.scan; rw [if_pos h]
    rw [this]
    simp [Tk.outT]
  · have hb := (Tk.scan_bd l (by omega)).2.1
    omega
end Go.Proofs.YtpdbkbadjgellaaGreatDoor

namespace Go.Proofs.YtpdbkbadjgellaaGreatDoor
namespace Tk

/-- Decimal digits. -/
theorem dec_digs (u : Nat) : ∀ c ∈ Lib.decDigits u, isDig c = true := by
  induction u using Nat.strongRecOn with
  | ind u ih =>
    intro c hc
    rw [Lib.decDigits] at hc
    split at hc
    · simp at hc; subst hc; simp [isDig]; omega
    · rw [List.mem_append] at hc
      rcases hc with hc | hc
      · exact ih (u / 10) (by omega) c hc
      · simp at hc; subst hc; simp [isDig]; omega
theorem dec_val (u : Nat) : val (Lib.decDigits u) = u := by
  induction u using Nat.strongRecOn with
  | ind u ih =>
    rw [Lib.decDigits]
    split
    · simp [val]; omega
    · rw [val_append, ih (u / 10) (by omega)]
      simp [val]
      omega
theorem itoa_nat (n : Int) (h : 0 ≤ n) : Lib.itoa n = Lib.decDigits n.toNat := by
  unfold Lib.itoa; rw [if_neg (by omega)]

theorem val_zeros (z : Nat) : val (List.replicate z 48) = 0 := by
  induction z with
  | zero => rfl
  | succ z ih => rw [List.replicate_succ', val_append, ih]; rfl

/-- The six digits behind a leading one. -/
theorem six (m : Nat) (h : m < 1000000) : ∃ D, Lib.decDigits (1000000 + m) = 49 :: D ∧ D.length = 6 ∧ val D = m ∧ ∀ c ∈ D, isDig c = true := by
  have e : ∃ a b c d e f : UInt8, Lib.decDigits (1000000 + m) = [49, a, b, c, d, e, f] := by
    rw [Lib.decDigits, dif_neg (by omega), Lib.decDigits, dif_neg (by omega), Lib.decDigits, dif_neg (by omega), Lib.decDigits, dif_neg (by omega), Lib.decDigits, dif_neg (by omega), Lib.decDigits, dif_neg (by omega), Lib.decDigits, dif_pos (by omega)]
    have : (1000000 + m) / 10 / 10 / 10 / 10 / 10 / 10 = 1 := by omega
    rw [this]
    exact ⟨_, _, _, _, _, _, rfl⟩
  obtain ⟨a, b, c, d, e, f, h1⟩ := e
  have hv := dec_val (1000000 + m)
  have hd := dec_digs (1000000 + m)
  rw [h1] at hv hd
  refine ⟨[a, b, c, d, e, f], h1, rfl, ?_, fun x hx => hd x (by simp at hx ⊢; exact .inr hx)⟩
  have : val (49 :: [a, b, c, d, e, f]) = val [49] * 10 ^ 6 + val [a, b, c, d, e, f] := val_append [49] [a, b, c, d, e, f]
  rw [this] at hv
  have e1 : val [49] = 1 := rfl
  rw [e1] at hv
  omega

end Tk
end Go.Proofs.YtpdbkbadjgellaaGreatDoor

namespace Go.Proofs.YtpdbkbadjgellaaGreatDoor

end Go.Proofs.YtpdbkbadjgellaaGreatDoor

namespace Go.Proofs.YtpdbkbadjgellaaGreatDoor

theorem isDecimalB_eq (n d : Int) : isDecimalB n d = isDec n d := by
  rw [Bool.eq_iff_iff]
  unfold isDecimalB ratB ratInB isDec validR
  rw [Int.tmod_eq_emod_of_nonneg (by omega)]
  simp only [Bool.and_eq_true, decide_eq_true_eq, beq_iff_eq]
  constructor
  · rintro ⟨⟨⟨⟨⟨⟨a, b⟩, c⟩, e⟩, g⟩, z⟩, m⟩
    exact ⟨⟨a, b, c, e, by omega⟩, z, m⟩
  · rintro ⟨⟨a, b, c, e, g⟩, z, m⟩
    exact ⟨⟨⟨⟨⟨⟨a, b⟩, c⟩, e⟩, by omega⟩, z⟩, m⟩

/-- Digits of one length and one value are the same. -/
theorem Tk.val_inj : ∀ (a b : List UInt8), (∀ c ∈ a, Tk.isDig c = true) → (∀ c ∈ b, Tk.isDig c = true) → a.length = b.length → Tk.val a = Tk.val b → a = b
  | [], [], _, _, _, _ => rfl
  | [], _ :: _, _, _, h, _ => by simp at h
  | _ :: _, [], _, _, h, _ => by simp at h
  | x :: a, y :: b, ha, hb, hl, hv => by
    have hx := ha x (List.mem_cons_self)
    have hy := hb y (List.mem_cons_self)
    have ha' : ∀ c ∈ a, Tk.isDig c = true := fun c hc => ha c (List.mem_cons_of_mem _ hc)
    have hb' : ∀ c ∈ b, Tk.isDig c = true := fun c hc => hb c (List.mem_cons_of_mem _ hc)
    have hl' : a.length = b.length := by simpa using hl
    have la := Tk.val_lt a ha'
    have lb := Tk.val_lt b hb'
    rw [show x :: a = [x] ++ a from rfl, show y :: b = [y] ++ b from rfl, Tk.val_append, Tk.val_append, hl'] at hv
    rw [hl'] at la
    have e1 : Tk.val [x] = x.toNat - 48 := by simp [Tk.val]
    have e2 : Tk.val [y] = y.toNat - 48 := by simp [Tk.val]
    rw [e1, e2] at hv
    have hq : x.toNat - 48 = y.toNat - 48 ∧ Tk.val a = Tk.val b := by
      have h10 : 0 < 10 ^ b.length := Nat.pow_pos (by omega)
      have q1 : ((x.toNat - 48) * 10 ^ b.length + Tk.val a) / 10 ^ b.length = x.toNat - 48 := by
        rw [Nat.mul_comm, Nat.mul_add_div h10, Nat.div_eq_of_lt la, Nat.add_zero]
      have q2 : ((y.toNat - 48) * 10 ^ b.length + Tk.val b) / 10 ^ b.length = y.toNat - 48 := by
        rw [Nat.mul_comm, Nat.mul_add_div h10, Nat.div_eq_of_lt lb, Nat.add_zero]
      have q : x.toNat - 48 = y.toNat - 48 := by rw [← q1, ← q2, hv]
      rw [q] at hv
      exact ⟨q, by omega⟩
    simp only [Tk.isDig, decide_eq_true_eq] at hx hy
    have hxy : x = y := UInt8.toNat_inj.1 (by omega)
    rw [hxy, Tk.val_inj a b ha' hb' hl' hq.2]

theorem trim_zeros (f : List UInt8) (z : Nat) (h : f = [] ∨ f.getLast? ≠ some 48) : Lib.trimRightB (f ++ List.replicate z 48) 48 = f := by
  unfold Lib.trimRightB
  rw [List.reverse_append, List.reverse_replicate]
  have key : ∀ (z : Nat) (l : List UInt8), (List.replicate z 48 ++ l).dropWhile (· == 48) = l.dropWhile (· == 48) := by
    intro z l
    induction z with
    | zero => rfl
    | succ z ih => rw [List.replicate_succ, List.cons_append, List.dropWhile_cons_of_pos (by rfl), ih]
  rw [key]
  cases hr : f.reverse with
  | nil => rw [List.reverse_eq_nil_iff] at hr; subst hr; rfl
  | cons x t =>
    have hl : f.getLast? = some x := by rw [List.getLast?_eq_head?_reverse, hr]; rfl
    have hx : x ≠ 48 := by
      rcases h with h | h
      · subst h; cases hr
      · intro e; exact h (by rw [hl, e])
    rw [List.dropWhile_cons_of_neg (by simpa using hx), ← hr, List.reverse_reverse]

theorem itoa_digit (q : Int) (h0 : 0 ≤ q) (h1 : q ≤ 9) : Lib.itoa q = [UInt8.ofNat (48 + q.toNat)] ∧ (UInt8.ofNat (48 + q.toNat)).toNat = 48 + q.toNat := by
  have : q = 0 ∨ q = 1 ∨ q = 2 ∨ q = 3 ∨ q = 4 ∨ q = 5 ∨ q = 6 ∨ q = 7 ∨ q = 8 ∨ q = 9 := by omega
  rcases this with rfl | rfl | rfl | rfl | rfl | rfl | rfl | rfl | rfl | rfl <;> exact ⟨by rw [Tk.itoa_nat _ (by omega), Lib.decDigits, dif_pos (by decide)], rfl⟩

theorem frac_spec (d : Nat) (hd : 0 < d) : ∀ (k r : Nat), r < d → (r * 10 ^ k) % d = 0 →
    (fracL k r d).length ≤ k ∧ (∀ c ∈ fracL k r d, Tk.isDig c = true) ∧ (fracL k r d = [] ∨ (fracL k r d).getLast? ≠ some 48) ∧
      Tk.val (fracL k r d) * 10 ^ (k - (fracL k r d).length) * d = r * 10 ^ k
  | 0, r, hr, hm => by
    have : r = 0 := by rw [Nat.pow_zero, Nat.mul_one, Nat.mod_eq_of_lt hr] at hm; exact hm
    subst this
    simp [fracL, Tk.val]
  | k + 1, r, hr, hm => by
    by_cases h0 : r = 0
    · subst h0
      simp [fracL, Tk.val]
    · have hq : r * 10 / d ≤ 9 := by
        have : r * 10 / d < 10 := (Nat.div_lt_iff_lt_mul hd).2 (by omega)
        omega
      have hr' : r * 10 % d < d := Nat.mod_lt _ hd
      have hm' : (r * 10 % d * 10 ^ k) % d = 0 := by
        rw [Nat.mul_mod, Nat.mod_mod, ← Nat.mul_mod, Nat.mul_assoc, ← Nat.pow_succ', hm]
      obtain ⟨i1, i2, i3, i4⟩ := frac_spec d hd k (r * 10 % d) hr' hm'
      have e : fracL (k + 1) r d = Lib.itoa ((r : Int) * 10 / d) ++ fracL k ((r * 10 % d : Nat) : Int) d := by
        rw [fracL, if_neg (by omega)]
        rfl
      obtain ⟨t1, t2⟩ := itoa_digit ((r : Int) * 10 / d) (Int.ediv_nonneg (by omega) (by omega)) (by exact_mod_cast hq)
      have et : ((r : Int) * 10 / d).toNat = r * 10 / d := by
        have : ((r : Int) * 10 / d) = ((r * 10 / d : Nat) : Int) := rfl
        rw [this, Int.toNat_natCast]
      rw [et] at t1 t2
      rw [t1] at e
      rw [e]
      generalize fracL k ((r * 10 % d : Nat) : Int) d = F at *
      have hdm := Nat.div_add_mod (r * 10) d
      generalize r * 10 / d = q at *
      generalize r * 10 % d = r' at *
      generalize UInt8.ofNat (48 + q) = c at *
      have hval : Tk.val ([c] ++ F) = q * 10 ^ F.length + Tk.val F := by
        rw [Tk.val_append]
        have : Tk.val [c] = q := by simp [Tk.val]; omega
        rw [this]
      refine ⟨by simp; omega, ?_, .inr ?_, ?_⟩
      · intro x hx
        rcases List.mem_append.1 hx with h | h
        · obtain rfl := List.mem_singleton.1 h
          simp only [Tk.isDig, decide_eq_true_eq]; omega
        · exact i2 x h
      · by_cases h : F = []
        · subst h
          have hv0 : Tk.val [] = 0 := rfl
          rw [hv0, Nat.zero_mul, Nat.zero_mul] at i4
          have hr0 : r' = 0 := by
            rcases Nat.mul_eq_zero.1 i4.symm with h | h
            · exact h
            · exact absurd h (Nat.pos_iff_ne_zero.1 (Nat.pow_pos (by omega)))
          intro hc
          simp at hc
          have : q ≠ 0 := by
            rintro rfl
            omega
          have := congrArg UInt8.toNat hc
          rw [t2] at this
          have : (48 : UInt8).toNat = 48 := rfl
          omega
        · cases F with
          | nil => exact absurd rfl h
          | cons a F =>
            rw [List.singleton_append, List.getLast?_cons_cons]
            exact i3.resolve_left h
      · rw [hval, show ([c] ++ F).length = F.length + 1 by simp, show k + 1 - (F.length + 1) = k - F.length by omega]
        have hp : 10 ^ F.length * 10 ^ (k - F.length) = 10 ^ k := by rw [← Nat.pow_add]; congr 1; omega
        rw [Nat.add_mul, Nat.add_mul, i4, Nat.mul_assoc q, hp, Nat.pow_succ]
        have : r * (10 ^ k * 10) = (r * 10) * 10 ^ k := by rw [Nat.mul_comm (10 ^ k), Nat.mul_assoc]
        rw [this, ← hdm, Nat.add_mul, Nat.mul_right_comm, Nat.mul_comm q d]

theorem numRef_eq (n d : Int) : numRef n d = numText n d := by
  unfold numRef numText
  rw [isDecimalB_eq]
  by_cases h : isDec n d = true
  · rw [if_pos h, if_pos h]
    obtain ⟨h1, h2, h3, h4, h5, h6⟩ := isDec_parts h
    obtain ⟨D, hD⟩ := Int.eq_ofNat_of_zero_le (show 0 ≤ d by omega)
    obtain ⟨r, hr⟩ := Int.eq_ofNat_of_zero_le (Int.emod_nonneg n (show d ≠ 0 by omega))
    have hrd : n % d < d := Int.emod_lt_of_pos n (by omega)
    have hD1 : 0 < D := by omega
    have hrD : r < D := by omega
    have hdvd : D ∣ 1000000 := by
      have := Int.dvd_of_emod_eq_zero h5
      rw [hD] at this
      exact Int.natCast_dvd_natCast.1 this
    obtain ⟨c, hc⟩ := hdvd
    have hq : (1000000 : Int) / d = (c : Int) := by
      have hi : (1000000 : Int) = (D : Int) * c := by
        rw [← Int.natCast_mul, ← hc]
        rfl
      rw [hD, hi]
      exact Int.mul_ediv_cancel_left _ (by omega)
    have hc0 : c ≠ 0 := by rintro rfl; omega
    have hm : mills n d = ((r * c : Nat) : Int) := by
      unfold mills
      rw [hq, hr]
      rfl
    rw [hm, hr]
    by_cases h0 : r = 0
    · subst h0
      simp
    · rw [if_neg (by omega), if_neg (by have : r * c ≠ 0 := Nat.mul_ne_zero h0 hc0; omega)]
      have hm6 : r * 10 ^ 6 = r * c * D := by rw [show 10 ^ 6 = 1000000 from rfl, hc, Nat.mul_assoc, Nat.mul_comm c]
      obtain ⟨f1, f2, f3, f4⟩ := frac_spec D hD1 6 r hrD (by rw [hm6, Nat.mul_mod_left])
      rw [hm6] at f4
      have f5 := Nat.eq_of_mul_eq_mul_right hD1 f4
      have hlt : r * c < 1000000 := by rw [hc]; exact (Nat.mul_lt_mul_right (by omega)).2 hrD
      obtain ⟨E, e1, e2, e3, e4⟩ := Tk.six (r * c) hlt
      rw [Tk.itoa_nat _ (show (0 : Int) ≤ 1000000 + ((r * c : Nat) : Int) by omega), show (1000000 + ((r * c : Nat) : Int)).toNat = 1000000 + r * c by omega, e1, List.drop_succ_cons, List.drop_zero, hD]
      generalize fracL 6 (r : Int) (D : Int) = F at *
      have hE : E = F ++ List.replicate (6 - F.length) 48 := by
        refine Tk.val_inj _ _ e4 ?_ (by simp; omega) ?_
        · intro x hx
          rcases List.mem_append.1 hx with h | h
          · exact f2 x h
          · rw [List.eq_of_mem_replicate h]; rfl
        · rw [Tk.val_append, Tk.val_zeros, List.length_replicate, e3, f5, Nat.add_zero]
      rw [hE, trim_zeros F _ f3, List.append_assoc]
  · rw [if_neg h, if_neg h]

theorem two_eq (n : Int) (h0 : 0 ≤ n) (h1 : n ≤ 99) : Tk.two n = twoD n := by
  unfold Tk.two twoD
  obtain ⟨k, rfl⟩ := Int.eq_ofNat_of_zero_le h0
  by_cases h : k < 10
  · rw [if_pos (by omega), (itoa_digit k (by omega) (by omega)).1, show (48 + (k : Int) / 10).toNat = 48 by omega, show (48 + (k : Int) % 10).toNat = 48 + k by omega, Int.toNat_natCast]
    rfl
  · rw [if_neg (by omega), Tk.itoa_nat _ h0, Int.toNat_natCast, Lib.decDigits, dif_neg h, Lib.decDigits, dif_pos (by omega), show (48 + (k : Int) / 10).toNat = 48 + k / 10 by omega, show (48 + (k : Int) % 10).toNat = 48 + k % 10 by omega]
    rfl
theorem dateRef_eq (d : Int) (h0 : 0 ≤ d) (h1 : d ≤ 84005) : dateRef d = Tk.dateText d := by
  obtain ⟨y1, y2, m1, m2, d1, d2⟩ := of_decide_eq_true (Tk.date_spec d h0 h1).1
  have hm : Tk.mlen (Tk.yOf d) (Tk.mOf d) ≤ 31 := by unfold Tk.mlen; split <;> (try split) <;> omega
  unfold dateRef Tk.dateText
  rw [if_pos ⟨h0, h1⟩, two_eq _ (by omega) (by omega), two_eq _ (by omega) (by omega)]
end Go.Proofs.YtpdbkbadjgellaaGreatDoor

namespace Go.Proofs.YtpdbkbadjgellaaGreatDoor
open Go.RowKit
attribute [local go_sem] ba_get ba_extract take_rest ba_append
attribute [local go_sem ↓] run_eql_tok run_neq_tok

theorem beq0 (y : Int) : ((0 : Int) == y) = (y == 0) := by
  rw [Bool.eq_iff_iff, beq_iff_eq, beq_iff_eq]
  exact eq_comm
theorem twoB (w : World) (A B : Array Value) (T : TypeId) : ((w.alloc (.cells A T)).alloc (.cells B T)).heap[w.heap.size]? = some (.cells A T (0, 0)) ∧ ((w.alloc (.cells A T)).alloc (.cells B T)).heap[w.heap.size + 1]? = some (.cells B T (0, 0)) ∧ Below w.heap.size w ((w.alloc (.cells A T)).alloc (.cells B T)) ∧ ((w.alloc (.cells A T)).alloc (.cells B T)).heap.size = w.heap.size + 2 := by
  refine ⟨(Below.heap_alloc (w.alloc _) _ _ (by simp)).trans (heap_alloc_new w _), ?_, (((Below.refl _ _).alloc (Nat.le_refl _) _).alloc (by simp) _), by simp⟩
  have := heap_alloc_new (w.alloc (.cells A T)) (.cells B T)
  rw [World.size_alloc] at this
  exact this
theorem blkT {w : World} {b : Nat} {v0 v1 v2 v3 v4 v5 : Value} {T : TypeId} (h : w.heap[b]? = some (.cells #[v0, v1, v2, v3, v4, v5] T (0, 0))) :
    (w.cell? ⟨b, 0, none⟩ = some v0 ∧ w.cell? ⟨b, 1, none⟩ = some v1 ∧ w.cell? ⟨b, 2, none⟩ = some v2 ∧ w.cell? ⟨b, 3, none⟩ = some v3 ∧ w.cell? ⟨b, 4, none⟩ = some v4 ∧ w.cell? ⟨b, 5, none⟩ = some v5) ∧
    (w.frozen? ⟨b, 1, none⟩ = false ∧ w.frozen? ⟨b, 2, none⟩ = false ∧ w.frozen? ⟨b, 3, none⟩ = false ∧ w.frozen? ⟨b, 4, none⟩ = false) := by
  refine ⟨⟨Lib.cell_of_heap h 0, Lib.cell_of_heap h 1, Lib.cell_of_heap h 2, Lib.cell_of_heap h 3, Lib.cell_of_heap h 4, Lib.cell_of_heap h 5⟩, Lib.frozen_of_heap h 1, Lib.frozen_of_heap h 2, Lib.frozen_of_heap h 3, Lib.frozen_of_heap h 4⟩
set_option maxHeartbeats 1000000 in
set_option maxRecDepth 100000 in
theorem rvalid2 (x : List UInt8) (n d y p : Int) (w : World) (hp1 : 0 ≤ p) (hp2 : p ≤ 16384) :
    Calls Tryz.prog 23 #[.agg #[.int .i64 2, .string ⟨x.toArray⟩, .int .i64 n, .int .i64 d, .int .i64 y, .int .i64 p]] w fun e w' => e = .returned (.bool (isDec n d && (x.isEmpty && y == 0))) ∧ Below w.heap.size w w' := by
  cases hv : isDec n d
  · have HV := Lib.hid hv
    clear hv
    go_enter Tryz.func23, Tryz.ntmps23
    go_wp2_with fail
    obtain ⟨hA, hB, hb, hz⟩ := twoB w #[.int .i64 2, .string ⟨x.toArray⟩, .int .i64 n, .int .i64 d, .int .i64 y, .int .i64 p] #[.int .i64 2, .string ⟨#[]⟩, .int .i64 0, .int .i64 0, .int .i64 0, .int .i64 p] 43
    generalize (w.alloc (.cells #[.int .i64 2, .string ⟨x.toArray⟩, .int .i64 n, .int .i64 d, .int .i64 y, .int .i64 p] 43)).alloc (.cells #[.int .i64 2, .string ⟨#[]⟩, .int .i64 0, .int .i64 0, .int .i64 0, .int .i64 p] 43) = wA at *
    have HA := Lib.hid hA
    have HB := Lib.hid hB
    have HBL := Lib.hid hb
    obtain ⟨⟨a0, a1, a2, a3, a4, a5⟩, _⟩ := blkT hA
    clear hA hB hb
    go_region_held3 (fun w' => w'.cell? ⟨w.heap.size, 2, none⟩ = some (.int .i64 n) ∧ w'.cell? ⟨w.heap.size, 3, none⟩ = some (.int .i64 d)) (go_keep)
      (first | (go_at_call 38; refine (risDecimal_any n d _).mono ?_; rintro e w7 ⟨rfl, hb7⟩; rw [isDecimalB_eq, HV.out]; have HA7 := Lib.hid ((hb7.block (w.heap.size) (show _ < wA.heap.size by omega)).trans HA.out); have HB7 := Lib.hid ((hb7.block (w.heap.size + 1) (show _ < wA.heap.size by omega)).trans HB.out); have HBL7 := Lib.hid (HBL.out.drew.trans (hb7.mono (show _ ≤ wA.heap.size by omega))); obtain ⟨⟨c0, c1, c2, c3, c4, c5⟩, _⟩ := blkT HA7.out; obtain ⟨⟨r0, r1, r2, r3, r4, r5⟩, ⟨f1, f2, f3, f4⟩⟩ := blkT HB7.out; clear hb7))
    go_wp2_with fail
    go_ret
    exact ⟨ret_bool rfl, (HBL7.out.setCell (by simp) _).setCell (by simp) _⟩
  · have HV := Lib.hid hv
    clear hv
    go_enter Tryz.func23, Tryz.ntmps23
    go_wp2_with fail
    obtain ⟨hA, hB, hb, hz⟩ := twoB w #[.int .i64 2, .string ⟨x.toArray⟩, .int .i64 n, .int .i64 d, .int .i64 y, .int .i64 p] #[.int .i64 2, .string ⟨#[]⟩, .int .i64 0, .int .i64 0, .int .i64 0, .int .i64 p] 43
    generalize (w.alloc (.cells #[.int .i64 2, .string ⟨x.toArray⟩, .int .i64 n, .int .i64 d, .int .i64 y, .int .i64 p] 43)).alloc (.cells #[.int .i64 2, .string ⟨#[]⟩, .int .i64 0, .int .i64 0, .int .i64 0, .int .i64 p] 43) = wA at *
    have HA := Lib.hid hA
    have HB := Lib.hid hB
    have HBL := Lib.hid hb
    obtain ⟨⟨a0, a1, a2, a3, a4, a5⟩, _⟩ := blkT hA
    clear hA hB hb
    go_region_held3 (fun w' => w'.cell? ⟨w.heap.size, 2, none⟩ = some (.int .i64 n) ∧ w'.cell? ⟨w.heap.size, 3, none⟩ = some (.int .i64 d)) (go_keep)
      (first | (go_at_call 38; refine (risDecimal_any n d _).mono ?_; rintro e w7 ⟨rfl, hb7⟩; rw [isDecimalB_eq, HV.out]; have HA7 := Lib.hid ((hb7.block (w.heap.size) (show _ < wA.heap.size by omega)).trans HA.out); have HB7 := Lib.hid ((hb7.block (w.heap.size + 1) (show _ < wA.heap.size by omega)).trans HB.out); have HBL7 := Lib.hid (HBL.out.drew.trans (hb7.mono (show _ ≤ wA.heap.size by omega))); obtain ⟨⟨c0, c1, c2, c3, c4, c5⟩, _⟩ := blkT HA7.out; obtain ⟨⟨r0, r1, r2, r3, r4, r5⟩, ⟨f1, f2, f3, f4⟩⟩ := blkT HB7.out; clear hb7))
    go_wp2_with fail
    go_ret
    exact ⟨ret_bool (by rw [Bool.true_and, beq0]), (HBL7.out.setCell (by simp) _).setCell (by simp) _⟩
theorem inDays_eq (y : Int) : (decide (0 ≤ y) && decide (y ≤ 84005)) = inDays y := by
  rw [Bool.eq_iff_iff]
  simp [inDays]
set_option maxHeartbeats 1000000 in
set_option maxRecDepth 100000 in
theorem rvalid3 (x : List UInt8) (n d y p : Int) (w : World) (hp1 : 0 ≤ p) (hp2 : p ≤ 16384) :
    Calls Tryz.prog 23 #[.agg #[.int .i64 3, .string ⟨x.toArray⟩, .int .i64 n, .int .i64 d, .int .i64 y, .int .i64 p]] w fun e w' => e = .returned (.bool (inDays y && (x.isEmpty && (n == 0 && d == 0)))) ∧ Below w.heap.size w w' := by
  cases hv : inDays y
  · have HV := Lib.hid hv
    clear hv
    go_enter Tryz.func23, Tryz.ntmps23
    go_wp2_with fail
    obtain ⟨hA, hB, hb, hz⟩ := twoB w #[.int .i64 3, .string ⟨x.toArray⟩, .int .i64 n, .int .i64 d, .int .i64 y, .int .i64 p] #[.int .i64 3, .string ⟨#[]⟩, .int .i64 0, .int .i64 0, .int .i64 0, .int .i64 p] 43
    generalize (w.alloc (.cells #[.int .i64 3, .string ⟨x.toArray⟩, .int .i64 n, .int .i64 d, .int .i64 y, .int .i64 p] 43)).alloc (.cells #[.int .i64 3, .string ⟨#[]⟩, .int .i64 0, .int .i64 0, .int .i64 0, .int .i64 p] 43) = wA at *
    have HA := Lib.hid hA
    have HB := Lib.hid hB
    have HBL := Lib.hid hb
    obtain ⟨⟨a0, a1, a2, a3, a4, a5⟩, _⟩ := blkT hA
    clear hA hB hb
    go_region_held3 (fun w' => w'.cell? ⟨w.heap.size, 4, none⟩ = some (.int .i64 y)) (go_keep)
      (first | (go_at_call 47; refine (rinDays_any y _).mono ?_; rintro e w7 ⟨rfl, hb7⟩; rw [inDays_eq, HV.out]; have HA7 := Lib.hid ((hb7.block (w.heap.size) (show _ < wA.heap.size by omega)).trans HA.out); have HB7 := Lib.hid ((hb7.block (w.heap.size + 1) (show _ < wA.heap.size by omega)).trans HB.out); have HBL7 := Lib.hid (HBL.out.drew.trans (hb7.mono (show _ ≤ wA.heap.size by omega))); obtain ⟨⟨c0, c1, c2, c3, c4, c5⟩, _⟩ := blkT HA7.out; obtain ⟨⟨r0, r1, r2, r3, r4, r5⟩, ⟨f1, f2, f3, f4⟩⟩ := blkT HB7.out; clear hb7))
    go_wp2_with fail
    go_ret
    exact ⟨ret_bool rfl, HBL7.out.setCell (by simp) _⟩
  · have HV := Lib.hid hv
    clear hv
    go_enter Tryz.func23, Tryz.ntmps23
    go_wp2_with fail
    obtain ⟨hA, hB, hb, hz⟩ := twoB w #[.int .i64 3, .string ⟨x.toArray⟩, .int .i64 n, .int .i64 d, .int .i64 y, .int .i64 p] #[.int .i64 3, .string ⟨#[]⟩, .int .i64 0, .int .i64 0, .int .i64 0, .int .i64 p] 43
    generalize (w.alloc (.cells #[.int .i64 3, .string ⟨x.toArray⟩, .int .i64 n, .int .i64 d, .int .i64 y, .int .i64 p] 43)).alloc (.cells #[.int .i64 3, .string ⟨#[]⟩, .int .i64 0, .int .i64 0, .int .i64 0, .int .i64 p] 43) = wA at *
    have HA := Lib.hid hA
    have HB := Lib.hid hB
    have HBL := Lib.hid hb
    obtain ⟨⟨a0, a1, a2, a3, a4, a5⟩, _⟩ := blkT hA
    clear hA hB hb
    go_region_held3 (fun w' => w'.cell? ⟨w.heap.size, 4, none⟩ = some (.int .i64 y)) (go_keep)
      (first | (go_at_call 47; refine (rinDays_any y _).mono ?_; rintro e w7 ⟨rfl, hb7⟩; rw [inDays_eq, HV.out]; have HA7 := Lib.hid ((hb7.block (w.heap.size) (show _ < wA.heap.size by omega)).trans HA.out); have HB7 := Lib.hid ((hb7.block (w.heap.size + 1) (show _ < wA.heap.size by omega)).trans HB.out); have HBL7 := Lib.hid (HBL.out.drew.trans (hb7.mono (show _ ≤ wA.heap.size by omega))); obtain ⟨⟨c0, c1, c2, c3, c4, c5⟩, _⟩ := blkT HA7.out; obtain ⟨⟨r0, r1, r2, r3, r4, r5⟩, ⟨f1, f2, f3, f4⟩⟩ := blkT HB7.out; clear hb7))
    go_wp2_with fail
    go_ret
    exact ⟨ret_bool (by rw [Bool.true_and, beq0, beq0]), HBL7.out.setCell (by simp) _⟩
end Go.Proofs.YtpdbkbadjgellaaGreatDoor

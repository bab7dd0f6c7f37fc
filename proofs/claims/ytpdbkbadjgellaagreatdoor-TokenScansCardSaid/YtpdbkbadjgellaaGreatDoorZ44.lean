/-
  The pieces of texts: the walk of payrolllaw17.piece.
  Plain laws: bounds of a scan, and what it leaves. No program in sight.
  The walks of scans and of the law TokenScans.
-/
import Derived.Test.YtpdbkbadjgellaaGreatDoorZ13
import Derived.Test.YtpdbkbadjgellaaGreatDoorZ40
import Derived.Test.YtpdbkbadjgellaaGreatDoorZ39
import Derived.Test.YtpdbkbadjgellaaGreatDoorZ43
import Derived.Test.YtpdbkbadjgellaaGreatDoorZ07
import Derived.Deep.DeepCutAuto
namespace Go.Proofs.YtpdbkbadjgellaaGreatDoor
open Go.RowKit

def pieces : List (List UInt8) := [[97], [105, 102], [104, 97, 108, 102, 95, 117, 112], [120, 95, 57], [65], [95, 97], [97, 98, 99, 100, 101, 102, 103, 104, 105, 106, 107, 108, 109, 110, 111, 112, 113, 114, 115, 116, 117, 118, 119, 120], [97, 98, 99, 100, 101, 102, 103, 104, 105, 106, 107, 108, 109, 110, 111, 112, 113, 114, 115, 116, 117, 118, 119, 120, 121], [48], [48, 48, 55], [49, 46, 53], [49, 46], [46, 53], [49, 50, 37], [48, 46, 49, 50, 51, 52, 53, 37], [48, 46, 49, 50, 51, 52, 37], [49, 46, 49, 50, 51, 52, 53, 54, 55], [48, 46, 48, 48, 48, 48, 48, 49], [49, 48, 48, 48, 48, 48, 48, 48, 48, 48, 48, 48, 48], [49, 48, 48, 48, 48, 48, 48, 48, 48, 48, 48, 48, 49], [57, 57, 57, 57, 57, 57, 57, 57, 57, 57, 57, 57, 46, 53], [49, 48, 48, 48, 48, 48, 48, 48, 48, 48, 48, 48, 48, 48, 48, 37], [49, 48, 48, 48, 48, 48, 48, 48, 48, 48, 48, 48, 48, 48, 49, 37], [57, 57, 57, 57, 57, 57, 57, 57, 57, 57, 57, 57, 57, 57, 57, 57, 57, 57, 57, 57], [49, 97], [49, 95], [53, 37, 120], [50, 48, 50, 54, 45, 48, 50, 45, 50, 57], [50, 48, 50, 52, 45, 48, 50, 45, 50, 57], [50, 48, 50, 54, 45, 49, 45, 48, 49], [49, 50, 48, 50, 54, 45, 48, 49, 45, 48, 49], [50, 48, 50, 54, 45, 48, 49, 45, 48, 49, 49], [60], [60, 61], [60, 62], [61, 62], [62, 61], [91], [93], [58], [59], [33], [34], [128], [35], [10], [9], [13], [32], [45], [42, 47]]
theorem pieces_len : pieces.length = 51 := by decide
theorem pieces_short : ∀ x ∈ pieces, x.length ≤ 25 := by decide

/-- What piece leaves. -/
def PiecePost (b : Nat) (ns : List Int) (w : World) (e : Ending) (w' : World) : Prop :=
  ∃ x, x ∈ pieces ∧ e = .returned (.string ⟨x.toArray⟩) ∧ TapeOk b ns w' ∧ But b w w'

theorem piece_cell (w : World) (k : Nat) (hk : k < 51) : ∃ x, x ∈ pieces ∧ (w.alloc (.cells (pieces.map fun x => Value.string ⟨x.toArray⟩).toArray 9)).cell? ⟨w.heap.size, k, none⟩ = some (.string ⟨x.toArray⟩) := by
  refine ⟨pieces[k]'(by rw [pieces_len]; exact hk), List.getElem_mem _, ?_⟩
  rw [Lib.cell_of_heap (heap_alloc_new w _), List.getElem?_toArray, List.getElem?_map, List.getElem?_eq_getElem (by rw [pieces_len]; exact hk)]
  rfl

set_option maxHeartbeats 1000000 in
set_option maxRecDepth 100000 in
theorem piece_any (b : Nat) (ns : List Int) (w : World) (h : TapeOk b ns w) :
    Calls Tryz.prog 7 #[.pointer (some ⟨b, 0, none⟩)] w (PiecePost b ns w) := by
  have HT := Lib.hid h
  have hlt := h.lt
  clear h
  go_enter Tryz.func7, Tryz.ntmps7
  go_wp2_with fail
  change Calls _ _ _ (w.alloc (.cells (pieces.map fun x => Value.string ⟨x.toArray⟩).toArray 9)) _
  have HC := Lib.hid (piece_cell w)
  have hB0 : But b w (w.alloc (.cells (pieces.map fun x => Value.string ⟨x.toArray⟩).toArray 9)) := (But.refl _ _).alloc _
  have HT0 : Hid (TapeOk b ns (w.alloc (.cells (pieces.map fun x => Value.string ⟨x.toArray⟩).toArray 9))) := HT.out.below ((Below.refl _ _).alloc (Nat.le_refl _) _)
  have hz0 : w.heap.size < (w.alloc (.cells (pieces.map fun x => Value.string ⟨x.toArray⟩).toArray 9)).heap.size := by simp
  generalize w.alloc (.cells (pieces.map fun x => Value.string ⟨x.toArray⟩).toArray 9) = w1 at *
  refine (next_any b ns 51 w1 HT0.out (by omega) (by omega)).mono ?_
  rintro e w2 ⟨k, hk, rfl, hT2, hB2⟩
  have hk51 : k < 51 := by omega
  obtain ⟨x, hx, hc⟩ := HC.out k hk51
  have hc2 : w2.cell? ⟨w.heap.size, k, none⟩ = some (.string ⟨x.toArray⟩) := by rw [hB2.cell (by simpa using hz0) (by simp; omega)]; exact hc
  have HX := Lib.hid hx
  have HT2 := Lib.hid hT2
  clear hT2 hc hx HC HT0 HT
  go_wp2_with fail
  go_ret
  exact ⟨x, HX.out, rfl, HT2.out, hB0.trans hB2⟩
end Go.Proofs.YtpdbkbadjgellaaGreatDoor

namespace Go.Proofs.YtpdbkbadjgellaaGreatDoor
namespace Tk

/-- What a scan gives: the tokens, the place, the error. -/
def outT : Except (Nat × Int) (List Tok) → List Tok
  | .error _ => []
  | .ok ts => ts
def outN : Except (Nat × Int) (List Tok) → Nat
  | .error (a, _) => a
  | .ok _ => 0
def outE : Except (Nat × Int) (List Tok) → Int
  | .error (_, e) => e
  | .ok _ => 0
theorem outT_shift (d : Nat) (r : Except (Nat × Int) (List Tok)) : outT (shift d r) = (outT r).map (moved d) := by cases r <;> rfl
theorem outE_shift (d : Nat) (r : Except (Nat × Int) (List Tok)) : outE (shift d r) = outE r := by cases r <;> rfl
theorem outN_shift (d : Nat) (r : Except (Nat × Int) (List Tok)) (h : outE r ≠ 0) : outN (shift d r) = outN r + d := by
  cases r with
  | error x => rfl
  | ok ts => exact absurd rfl h
/-- Where a scan's tokens and its error may lie. -/
def Bd (p n : Nat) (r : Except (Nat × Int) (List Tok)) : Prop := outN r ≤ p + n ∧ (outT r).length ≤ n ∧ ∀ t ∈ outT r, 0 ≤ t.place ∧ t.place ≤ (p + n : Nat)
theorem scanAt_bd (n p : Nat) (x : List UInt8) (hn : x.length ≤ n) : Bd p x.length (scanAt p x) := by
  induction n generalizing p x with
  | zero =>
    have : x = [] := List.eq_nil_of_length_eq_zero (by omega)
    subst this
    exact ⟨Nat.zero_le _, Nat.le_refl _, fun t ht => by cases ht⟩
  | succ n ih =>
    rw [scanAt_eq]
    have hk := skip_le false x
    split
    · exact ⟨Nat.zero_le _, Nat.zero_le _, fun t ht => by cases ht⟩
    · cases hx : readTok (x.drop (skipN false x)) with
      | error e => exact ⟨by simp only [outN]; omega, Nat.zero_le _, fun t ht => by cases ht⟩
      | ok y =>
        obtain ⟨t, m⟩ := y
        have hm := read_len _ _ _ hx
        simp only [List.length_drop] at hm
        have h := ih (p + skipN false x + m) ((x.drop (skipN false x)).drop m) (by simp; omega)
        simp only
        generalize scanAt (p + skipN false x + m) ((x.drop (skipN false x)).drop m) = r at *
        simp only [List.length_drop] at h
        cases r with
        | error q => exact ⟨by have := h.1; simp only [outN, after] at this ⊢; omega, Nat.zero_le _, fun t ht => by cases ht⟩
        | ok ts =>
          obtain ⟨_, h2, h3⟩ := h
          simp only [outT] at h2 h3
          refine ⟨Nat.zero_le _, by simp only [outT, after, List.length_append, List.length_cons, List.length_nil]; omega, fun u hu => ?_⟩
          simp only [outT, after, List.cons_append, List.nil_append, List.mem_cons] at hu
          rcases hu with rfl | hu
          · exact ⟨by simp only; omega, by simp only; omega⟩
          · have := h3 u hu
            exact ⟨this.1, by omega⟩
theorem scan_bd (x : List UInt8) (h : x.length ≤ 16384) : Bd 0 x.length (scan x) := by
  unfold scan
  rw [if_neg (by omega)]
  exact scanAt_bd x.length 0 x (Nat.le_refl _)
end Tk
end Go.Proofs.YtpdbkbadjgellaaGreatDoor

namespace Go.Proofs.YtpdbkbadjgellaaGreatDoor
open Go.RowKit
attribute [local go_sem] ba_get ba_extract take_rest ba_append
attribute [local go_sem ↓] run_eql_tok run_neq_tok

/-- What a scan leaves, in one form. -/
theorem scan_outS {r : Except (Nat × Int) (List Tk.Tok)} {w w' : World} {e : Ending} (h : ScanPost r w e w') :
    ∃ A c, e = .returned (.tuple #[.slice A (Tk.outT r).length c, .int .i64 (Tk.outN r), .int .i64 (Tk.outE r)]) ∧ TokRow w' (.slice A (Tk.outT r).length c) (Tk.outT r) ∧ Below w.heap.size w w' := by
  obtain ⟨hb, h⟩ := h
  cases r with
  | error x => exact ⟨none, 0, h, ⟨none, 0, rfl, fun h => by cases h⟩, hb⟩
  | ok ts =>
    obtain ⟨v, rfl, hown⟩ := h
    have hr := TokRow.of_own hown
    obtain ⟨A, c, rfl, hc⟩ := hr
    exact ⟨A, c, rfl, ⟨A, c, rfl, hc⟩, hb⟩
theorem scan_few (l : List UInt8) : (Tk.outT (Tk.scan l)).length ≤ 100000 := by
  by_cases h : 16384 < l.length
  · have : Tk.scan l = .error (0, 3) := by unfold Tk.scan; rw [if_pos h]
    rw [this]
    simp [Tk.outT]
  · have hb := (Tk.scan_bd l (by omega)).2.1
    omega
set_option maxHeartbeats 4000000 in
set_option maxRecDepth 100000 in
theorem scans_any (l : List UInt8) (w : World) (hs : l.length ≤ maxLen) (hl : Lens w) : Calls Tryz.prog 8 #[.string ⟨l.toArray⟩] w fun e w' => e = .returned (.bool true) ∧ Below w.heap.size w w' := by
  have HL := Lib.hid hl
  have HS := Lib.hid hs
  clear hl hs
  go_enter Tryz.func8, Tryz.ntmps8
  go_wp2_with fail
  refine (scan_any l w HS.out HL.out).mono ?_
  rintro e w1 h1
  obtain ⟨A, cA, rfl, hrA, hb1⟩ := scan_outS h1
  have HA := Lib.hid hrA
  clear h1 hrA
  go_wp2_with fail
  refine (rscan_any l w1 HS.out).mono ?_
  rintro e w2 h2
  obtain ⟨B, cB, rfl, hrB, hb2⟩ := scan_outS h2
  have HB := Lib.hid hrB
  have HA2 := Lib.hid (HA.out.below hb2)
  have hb := hb1.trans (hb2.mono hb1.size)
  have HF := Lib.hid (scan_few l)
  clear h2 hrB HA hb1 hb2
  generalize Tk.outN (Tk.scan l) = n0 at *
  generalize Tk.outE (Tk.scan l) = e0 at *
  generalize Tk.outT (Tk.scan l) = ts at *
  go_wp2_with fail
  refine (same_any _ _ ts ts w2 HA2.out HB.out HF.out HF.out).mono ?_
  rintro e w3 ⟨rfl, n3, rfl⟩
  rw [decide_eq_true rfl]
  go_wp2_with fail
  go_ret
  exact ⟨rfl, belowN hb _⟩

def seps : List (List UInt8) := [[32], [], [32]]
theorem sep_cell (w : World) (k : Nat) (hk : k < 3) : ∃ x : List UInt8, x.length ≤ 1 ∧ (w.alloc (.cells (seps.map fun x => Value.string ⟨x.toArray⟩).toArray 9)).cell? ⟨w.heap.size, k, none⟩ = some (.string ⟨x.toArray⟩) := by
  have hs : ∀ x ∈ seps, x.length ≤ 1 := by decide
  refine ⟨seps[k]'hk, hs _ (List.getElem_mem _), ?_⟩
  rw [Lib.cell_of_heap (heap_alloc_new w _), List.getElem?_toArray, List.getElem?_map, List.getElem?_eq_getElem hk]
  rfl
set_option maxHeartbeats 4000000 in
set_option maxRecDepth 100000 in
theorem tokenScans_any (v : Value) (ns : List Int) (l : List UInt8) (w : World) (hi : IntsAt w w.heap.size v ns) (hs : l.length ≤ maxLen) (hl : Lens w) (hp : Pow w) :
    Calls Tryz.prog 3 #[v, .string ⟨l.toArray⟩] w fun e w' => e = .returned (.bool true) ∧ Below w.heap.size w w' := by
  have HL := Lib.hid hl
  have HP := Lib.hid hp
  have HI := Lib.hid hi
  have HS := Lib.hid hs
  clear hl hp hi hs
  go_enter Tryz.func3, Tryz.ntmps3
  go_wp2_with fail
  refine (tapeNew_any v ns w HI.out).mono ?_
  rintro e w1 ⟨rfl, hT1, hz1, hB1⟩
  have HT1 := Lib.hid hT1
  clear hT1 HI
  go_wp2_with fail
  go_loopw [6] (fun s6 wr => ∃ i : Nat, i ≤ 6 ∧ s6 = .int .i64 i ∧ Hid (TapeOk w.heap.size ns wr) ∧ Below w.heap.size w wr ∧ w.heap.size < wr.heap.size) (fun i _ => 6 - (intOf i).toNat)
  case atStart => exact ⟨0, by omega, rfl, HT1, hB1, hz1⟩
  case round =>
    obtain ⟨i, hi6, rfl, HT, hB, hz⟩ := hrel
    clear HT1 hB1 hz1
    by_cases hlt : i < 6
    · go_wp2_with fail
      refine (next_any w.heap.size ns 7 wr HT.out (by omega) (by omega)).mono ?_
      rintro e w2 ⟨k, hk, rfl, hT2, hb2⟩
      have hB2 : Below w.heap.size w w2 := hB.trans (hb2.below (Nat.le_refl _) (by omega))
      have hz2 : w.heap.size < w2.heap.size := Nat.lt_of_lt_of_le hz hb2.size
      have HT2 := Lib.hid hT2
      have hk6 : k ≤ 6 := by omega
      clear hT2 HT hb2 hB hz hk
      go_wp2_with fail
      go_loopw [7, 8] (fun s7 s8 wi => ∃ (n : Nat) (x : List UInt8), n ≤ 6 ∧ x.length + 26 * n ≤ 200 ∧ s7 = .string ⟨x.toArray⟩ ∧ s8 = .int .i64 n ∧ Hid (TapeOk w.heap.size ns wi) ∧ Below w.heap.size w wi ∧ w.heap.size < wi.heap.size) (fun _ n _ => (intOf n).toNat)
      case atStart => exact ⟨k, [], hk6, by simp; omega, rfl, rfl, HT2, hB2, hz2⟩
      case round =>
        obtain ⟨n, x, hn6, hxn, rfl, rfl, HT, hB, hz⟩ := hrel
        clear HT2 hB2 hz2 hk6
        by_cases hn0 : 0 < n
        · go_wp2_with fail
          refine (piece_any w.heap.size ns wr HT.out).mono ?_
          rintro e w3 ⟨y, hy, rfl, hT3, hb3⟩
          have hyn := pieces_short y hy
          have HT3 := Lib.hid hT3
          have hB3 : Below w.heap.size w w3 := hB.trans (hb3.below (Nat.le_refl _) (by omega))
          have hz3 : w.heap.size < w3.heap.size := Nat.lt_of_lt_of_le hz hb3.size
          clear hT3 HT hb3 hB hz hy
          go_wp2_with fail
          change Calls _ _ _ (w3.alloc (.cells (seps.map fun x => Value.string ⟨x.toArray⟩).toArray 9)) _
          have HC := Lib.hid (sep_cell w3)
          have hB4 : Below w.heap.size w (w3.alloc (.cells (seps.map fun x => Value.string ⟨x.toArray⟩).toArray 9)) := hB3.alloc (by omega) _
          have HT4 : Hid (TapeOk w.heap.size ns (w3.alloc (.cells (seps.map fun x => Value.string ⟨x.toArray⟩).toArray 9))) := HT3.out.below ((Below.refl _ _).alloc (Nat.le_refl _) _)
          have hz4 : w3.heap.size < (w3.alloc (.cells (seps.map fun x => Value.string ⟨x.toArray⟩).toArray 9)).heap.size := by simp
          generalize w3.alloc (.cells (seps.map fun x => Value.string ⟨x.toArray⟩).toArray 9) = w4 at *
          refine (next_any w.heap.size ns 3 w4 HT4.out (by omega) (by omega)).mono ?_
          rintro e w5 ⟨j, hj, rfl, hT5, hb5⟩
          have hj3 : j < 3 := by omega
          obtain ⟨f, hf, hc⟩ := HC.out j hj3
          have hc5 : w5.cell? ⟨w3.heap.size, j, none⟩ = some (.string ⟨f.toArray⟩) := by rw [hb5.cell (by simpa using hz4) (by simp; omega)]; exact hc
          have hB5 : Below w.heap.size w w5 := hB4.trans (hb5.below (Nat.le_refl _) (by omega))
          have HT5 := Lib.hid hT5
          have hz5 : w.heap.size < w5.heap.size := by have := hb5.size; omega
          clear hT5 hc HC HT4 HT3 hB4 hB3 hb5 hj hz4 hz3
          go_wp2_with fail
          go_roundw
          case rel => exact ⟨n - 1, x ++ (y ++ f), by omega, by simp; omega, rfl, by go_num, HT5, hB5, hz5⟩
          case measure => simp [intOf]; omega
        · go_wp2_with fail
          refine (scans_any x wr (by unfold maxLen; omega) (HL.out.below hB)).mono ?_
          rintro e w6 ⟨rfl, hb6⟩
          have HT6 := Lib.hid (HT.out.below hb6)
          have hB6 := hB.trans (hb6.mono hB.size)
          have hz6 : w.heap.size < w6.heap.size := Nat.lt_of_lt_of_le hz hb6.size
          clear HT hB hz hb6
          go_wp2_with fail
          go_roundw
          case rel => exact ⟨i + 1, by omega, by go_num, HT6, hB6, hz6⟩
          case measure => simp [intOf]; omega
    · go_wp2_with fail
      refine (source_any HT.out).mono ?_
      rintro e w2 ⟨⟨⟨⟨s⟩⟩, rfl, hs⟩, hT2, hb2⟩
      have hB2 : Below w.heap.size w w2 := hB.trans (hb2.below (Nat.le_refl _) (by omega))
      have HS2 : Hid (s.length ≤ maxLen) := Nat.le_trans hs (by decide)
      clear hT2 HT hb2 hB hz hs
      go_wp2_with fail
      refine (scans_any s w2 HS2.out (HL.out.below hB2)).mono ?_
      rintro e w3 ⟨rfl, hb3⟩
      have hB3 := hB2.trans (hb3.mono hB2.size)
      clear hB2 hb3 HS2
      have hlen := HS.out
      unfold maxLen at hlen
      by_cases h1 : 5000 < l.length
      · by_cases h2 : l.length ≤ 16384
        · go_wp2_with fail
          refine (sane_any w3 (HL.out.below hB3) (HP.out.below hB3)).mono ?_
          rintro e w11 ⟨rfl, hb11⟩
          go_wp2_with fail
          go_ret
          exact ⟨rfl, hB3.trans (hb11.mono hB3.size)⟩
        · go_wp2_with fail
          refine (scans_any l w3 HS.out (HL.out.below hB3)).mono ?_
          rintro e w4 ⟨rfl, hb4⟩
          have hB4 := hB3.trans (hb4.mono hB3.size)
          go_wp2_with fail
          refine (sane_any w4 (HL.out.below hB4) (HP.out.below hB4)).mono ?_
          rintro e w11 ⟨rfl, hb11⟩
          go_wp2_with fail
          go_ret
          exact ⟨rfl, hB4.trans (hb11.mono hB4.size)⟩
      · go_wp2_with fail
        refine (scans_any l w3 HS.out (HL.out.below hB3)).mono ?_
        rintro e w4 ⟨rfl, hb4⟩
        have hB4 := hB3.trans (hb4.mono hB3.size)
        go_wp2_with fail
        refine (sane_any w4 (HL.out.below hB4) (HP.out.below hB4)).mono ?_
        rintro e w11 ⟨rfl, hb11⟩
        go_wp2_with fail
        go_ret
        exact ⟨rfl, hB4.trans (hb11.mono hB4.size)⟩
end Go.Proofs.YtpdbkbadjgellaaGreatDoor

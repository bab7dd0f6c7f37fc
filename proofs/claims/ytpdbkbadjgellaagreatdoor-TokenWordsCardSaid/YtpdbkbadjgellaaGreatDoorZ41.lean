/-
  The walk of the law TokenWords.
-/
import Derived.Test.YtpdbkbadjgellaaGreatDoorZ38
import Derived.Test.YtpdbkbadjgellaaGreatDoorZ39
import Derived.Test.YtpdbkbadjgellaaGreatDoorZ40
import Derived.Deep.RegionHeld3
namespace Go.Proofs.YtpdbkbadjgellaaGreatDoor
open Go.RowKit
attribute [local go_sem] ba_get ba_extract take_rest ba_append
attribute [local go_sem ↓] run_eql_tok run_neq_tok

theorem IntsAt.mono {w : World} {b c : Nat} {v : Value} {ns : List Int} (h : IntsAt w b v ns) (hbc : b ≤ c) : IntsAt w c v ns := by
  obtain ⟨A, k, rfl, h1, h2, h3⟩ := h
  refine ⟨A, k, rfl, h1, h2, fun hn => ?_⟩
  obtain ⟨g, off, rfl, hg, hc⟩ := h3 hn
  exact ⟨g, off, rfl, by omega, hc⟩
theorem four_strs (w : World) (a b c d : List UInt8) (k : Nat) (hk : k < 4) (ha : a.length ≤ maxLen) (hb : b.length ≤ maxLen) (hc : c.length ≤ maxLen) (hd : d.length ≤ maxLen) :
    ∃ x : List UInt8, x.length ≤ maxLen ∧ (w.alloc (.cells #[.string ⟨a.toArray⟩, .string ⟨b.toArray⟩, .string ⟨c.toArray⟩, .string ⟨d.toArray⟩] 9)).cell? ⟨w.heap.size, k, none⟩ = some (.string ⟨x.toArray⟩) := by
  have : k = 0 ∨ k = 1 ∨ k = 2 ∨ k = 3 := by omega
  rcases this with rfl | rfl | rfl | rfl
  · exact ⟨a, ha, Lib.cell_of_heap (heap_alloc_new w _) 0⟩
  · exact ⟨b, hb, Lib.cell_of_heap (heap_alloc_new w _) 1⟩
  · exact ⟨c, hc, Lib.cell_of_heap (heap_alloc_new w _) 2⟩
  · exact ⟨d, hd, Lib.cell_of_heap (heap_alloc_new w _) 3⟩
theorem four_rats (w : World) (a0 a1 b0 b1 c0 c1 d0 d1 : Int) (k : Nat) (hk : k < 4) :
    ∃ n m : Int, (w.alloc (.cells #[.int .i64 a0, .int .i64 a1, .int .i64 b0, .int .i64 b1, .int .i64 c0, .int .i64 c1, .int .i64 d0, .int .i64 d1] 33)).cell? ⟨w.heap.size, k * 2, none⟩ = some (.int .i64 n) ∧
      (w.alloc (.cells #[.int .i64 a0, .int .i64 a1, .int .i64 b0, .int .i64 b1, .int .i64 c0, .int .i64 c1, .int .i64 d0, .int .i64 d1] 33)).cell? ⟨w.heap.size, k * 2 + 1, none⟩ = some (.int .i64 m) := by
  have : k = 0 ∨ k = 1 ∨ k = 2 ∨ k = 3 := by omega
  rcases this with rfl | rfl | rfl | rfl
  · exact ⟨a0, a1, Lib.cell_of_heap (heap_alloc_new w _) 0, Lib.cell_of_heap (heap_alloc_new w _) 1⟩
  · exact ⟨b0, b1, Lib.cell_of_heap (heap_alloc_new w _) 2, Lib.cell_of_heap (heap_alloc_new w _) 3⟩
  · exact ⟨c0, c1, Lib.cell_of_heap (heap_alloc_new w _) 4, Lib.cell_of_heap (heap_alloc_new w _) 5⟩
  · exact ⟨d0, d1, Lib.cell_of_heap (heap_alloc_new w _) 6, Lib.cell_of_heap (heap_alloc_new w _) 7⟩

set_option maxHeartbeats 40000000 in
set_option maxRecDepth 100000 in
theorem tokenWords_any (v : Value) (ns : List Int) (l : List UInt8) (n d : Int) (V : Value) (ts : List Tk.Tok) (w : World) (hi : IntsAt w w.heap.size v ns) (hs : l.length ≤ maxLen)
    (hr : TokRow w V ts) (hx : ∀ t ∈ ts, t.text.length ≤ maxLen) (hl : Lens w) (hp : Pow w) :
    Calls Tryz.prog 4 #[v, .string ⟨l.toArray⟩, .agg #[.int .i64 n, .int .i64 d], V] w fun e w' => e = .returned (.bool true) ∧ Below w.heap.size w w' := by
  have HL := Lib.hid hl
  have HP := Lib.hid hp
  have HI := Lib.hid hi
  have HS := Lib.hid hs
  have HR := Lib.hid hr
  have HX := Lib.hid hx
  obtain ⟨A, c, rfl, -⟩ := hr
  clear hl hp hi hs hx
  go_enter Tryz.func4, Tryz.ntmps4
  go_wp2_with fail
  have hb0 : Below w.heap.size w (w.alloc (.cells #[.int .i64 n, .int .i64 d] 33)) := (Below.refl _ _).alloc (Nat.le_refl _) _
  have HBX := Lib.hid (heap_alloc_new w (.cells #[.int .i64 n, .int .i64 d] 33))
  have HZ0 : Hid ((w.alloc (.cells #[.int .i64 n, .int .i64 d] 33)).heap.size = w.heap.size + 1) := by show _ = _; simp
  generalize w.alloc (.cells #[.int .i64 n, .int .i64 d] 33) = w0 at *
  refine (tapeNew_any v ns w0 ((HI.out.keep (fun g hg => hb0.block g hg)).mono hb0.size)).mono ?_
  rintro e w1 ⟨rfl, hT1, hz1, hB1⟩
  have HT1 := Lib.hid hT1
  clear hT1 HI
  go_wp2_with fail
  refine (piece_any w0.heap.size ns w1 HT1.out).mono ?_
  rintro e w2 ⟨y1, hy1, rfl, hT2, hb2⟩
  have hB2 : Below w0.heap.size w0 w2 := hB1.trans (hb2.below (Nat.le_refl _) (by omega))
  have hz2 : w0.heap.size < w2.heap.size := Nat.lt_of_lt_of_le hz1 hb2.size
  have HT2 := Lib.hid hT2
  clear hT2 HT1 hb2 hB1 hz1
  go_wp2_with fail
  refine (piece_any w0.heap.size ns w2 HT2.out).mono ?_
  rintro e w3 ⟨y2, hy2, rfl, hT3, hb3⟩
  have hB3 : Below w0.heap.size w0 w3 := hB2.trans (hb3.below (Nat.le_refl _) (by omega))
  have hz3 : w0.heap.size < w3.heap.size := Nat.lt_of_lt_of_le hz2 hb3.size
  have HT3 := Lib.hid hT3
  clear hT3 HT2 hb3 hB2 hz2
  go_wp2_with fail
  refine (piece_any w0.heap.size ns w3 HT3.out).mono ?_
  rintro e w4 ⟨y3, hy3, rfl, hT4, hb4⟩
  have hB4 : Below w0.heap.size w0 w4 := hB3.trans (hb4.below (Nat.le_refl _) (by omega))
  have hz4 : w0.heap.size < w4.heap.size := Nat.lt_of_lt_of_le hz3 hb4.size
  have HT4 := Lib.hid hT4
  have HY : Hid (y1.length ≤ maxLen ∧ y2.length ≤ maxLen ∧ y3.length ≤ maxLen) := by
    have := pieces_short y1 hy1; have := pieces_short y2 hy2; have := pieces_short y3 hy3
    show _ ∧ _
    unfold maxLen
    omega
  clear hT4 HT3 hb4 hB3 hz3 hy1 hy2 hy3
  go_wp2_with fail
  have HC : Hid (∀ k, k < 4 → ∃ x : List UInt8, x.length ≤ maxLen ∧ (w4.alloc (.cells #[.string ⟨l.toArray⟩, .string ⟨y1.toArray⟩, .string ⟨y2.toArray⟩, .string ⟨y3.toArray⟩] 9)).cell? ⟨w4.heap.size, k, none⟩ = some (.string ⟨x.toArray⟩)) := fun k hk => four_strs w4 l y1 y2 y3 k hk HS.out HY.out.1 HY.out.2.1 HY.out.2.2
  have hB5 : Below w0.heap.size w0 (w4.alloc (.cells #[.string ⟨l.toArray⟩, .string ⟨y1.toArray⟩, .string ⟨y2.toArray⟩, .string ⟨y3.toArray⟩] 9)) := hB4.alloc (by omega) _
  have HT5 : Hid (TapeOk w0.heap.size ns (w4.alloc (.cells #[.string ⟨l.toArray⟩, .string ⟨y1.toArray⟩, .string ⟨y2.toArray⟩, .string ⟨y3.toArray⟩] 9))) := HT4.out.below ((Below.refl _ _).alloc (Nat.le_refl _) _)
  have hz5 : w4.heap.size < (w4.alloc (.cells #[.string ⟨l.toArray⟩, .string ⟨y1.toArray⟩, .string ⟨y2.toArray⟩, .string ⟨y3.toArray⟩] 9)).heap.size := by simp
  generalize w4.alloc (.cells #[.string ⟨l.toArray⟩, .string ⟨y1.toArray⟩, .string ⟨y2.toArray⟩, .string ⟨y3.toArray⟩] 9) = w5 at *
  clear HT4 HY hB4
  go_loopw [30] (fun s30 wr => ∃ i : Nat, i ≤ 4 ∧ s30 = .int .i64 i ∧ Below w5.heap.size w5 wr) (fun i _ => 4 - (intOf i).toNat)
  case atStart => exact ⟨0, by omega, rfl, Below.refl _ _⟩
  case round =>
    obtain ⟨i, hi4, rfl, hB⟩ := hrel
    by_cases hlt : i < 4
    · obtain ⟨x, hx, hc⟩ := HC.out i hlt
      have hc' : wr.cell? ⟨w4.heap.size, i, none⟩ = some (.string ⟨x.toArray⟩) := by rw [hB.cell hz5]; exact hc
      have HXL := Lib.hid hx
      clear hx hc
      go_wp2_with fail
      refine (isName_any x wr HXL.out).mono ?_
      rintro e w' ⟨rfl, rfl⟩
      go_wp2_with fail
      refine (risName_any x wr HXL.out).mono ?_
      rintro e w7 ⟨rfl, hb7⟩
      have hB7 := hB.trans (hb7.mono hB.size)
      generalize Tk.isName x = q1 at *
      clear hc' hb7 hB
      go_wp2_with fail
      refine (isKeyword_any x w7).mono ?_
      rintro e w' ⟨rfl, rfl⟩
      go_wp2_with fail
      refine (risKeyword_any x w7).mono ?_
      rintro e w8 ⟨rfl, hb8⟩
      have hB8 := hB7.trans (hb8.mono hB7.size)
      generalize Tk.isKey x = q2 at *
      clear hb8 hB7
      go_wp2_with fail
      go_roundw
      case rel => exact ⟨i + 1, by omega, by go_num, hB8⟩
      case measure => simp [intOf]; omega
    · go_wp2_with fail
      have HB := Lib.hid (hB5.trans (hB.mono hB5.size))
      have HTr := Lib.hid (HT5.out.below hB)
      have hzr : w0.heap.size < wr.heap.size := by have := hB.size; omega
      clear HT5 hB HC hB5
      obtain ⟨b0, b1, -, -⟩ := blk2 ((HB.out.block w.heap.size (by rw [HZ0.out]; exact Nat.lt_succ_self _)).trans HBX.out)
      go_region_held3 (fun w' => w'.cell? ⟨w.heap.size, 0, none⟩ = some (.int .i64 n) ∧ w'.cell? ⟨w.heap.size, 1, none⟩ = some (.int .i64 d)) (go_keep)
            (first | (go_at_call 15; refine (ratio_any w0.heap.size ns _ (HTr.out.below (Below.refl _ _).drew)).mono ?_; rintro e w6 ⟨n1, d1, -, rfl, hTx, hbx⟩; have HBw6 := Lib.hid (HB.out.drew.trans (hbx.below (Nat.le_refl _) (by simp only [World.size_drew]; omega))); have hzw6 := Nat.lt_of_lt_of_le hzr hbx.size; have HTw6 := Lib.hid hTx; obtain ⟨b0, b1, -, -⟩ := blk2 ((HBw6.out.block w.heap.size (by rw [HZ0.out]; exact Nat.lt_succ_self _)).trans HBX.out); clear hTx hbx) | (go_at_call 17; refine (fraction_any w0.heap.size ns _ HTw7.out).mono ?_; rintro e w8 ⟨n3, d3, rfl, hTx, hbx⟩; have HBw8 := Lib.hid (HBw7.out.trans (hbx.below (Nat.le_refl _) (Nat.le_of_lt hzw7))); have hzw8 := Nat.lt_of_lt_of_le hzw7 hbx.size; have HTw8 := Lib.hid hTx; obtain ⟨b0, b1, -, -⟩ := blk2 ((HBw8.out.block w.heap.size (by rw [HZ0.out]; exact Nat.lt_succ_self _)).trans HBX.out); clear hTx hbx) | (go_at_call 16; refine (decimal_any w0.heap.size ns _ HTw6.out).mono ?_; rintro e w7 ⟨⟨n2, d2⟩, -, rfl, hTx, hbx⟩; have HBw7 := Lib.hid (HBw6.out.trans (hbx.below (Nat.le_refl _) (Nat.le_of_lt hzw6))); have hzw7 := Nat.lt_of_lt_of_le hzw6 hbx.size; have HTw7 := Lib.hid hTx; obtain ⟨b0, b1, -, -⟩ := blk2 ((HBw7.out.block w.heap.size (by rw [HZ0.out]; exact Nat.lt_succ_self _)).trans HBX.out); clear hTx hbx))
      clear b0 b1 HB HTr hzr HBw6 HTw6 hzw6 HBw7 HTw7 hzw7
      go_wp2_with fail
      have HC8 : Hid (∀ k, k < 4 → ∃ a c : Int, (w8.alloc (.cells #[.int .i64 n, .int .i64 d, .int .i64 n1, .int .i64 d1, .int .i64 n2, .int .i64 d2, .int .i64 n3, .int .i64 d3] 33)).cell? ⟨w8.heap.size, k * 2, none⟩ = some (.int .i64 a) ∧ (w8.alloc (.cells #[.int .i64 n, .int .i64 d, .int .i64 n1, .int .i64 d1, .int .i64 n2, .int .i64 d2, .int .i64 n3, .int .i64 d3] 33)).cell? ⟨w8.heap.size, k * 2 + 1, none⟩ = some (.int .i64 c)) := fun k hk => four_rats w8 n d n1 d1 n2 d2 n3 d3 k hk
      have HB9 : Hid (Below w0.heap.size w0 (w8.alloc (.cells #[.int .i64 n, .int .i64 d, .int .i64 n1, .int .i64 d1, .int .i64 n2, .int .i64 d2, .int .i64 n3, .int .i64 d3] 33))) := HBw8.out.alloc (Nat.le_of_lt hzw8) _
      have HT9 : Hid (TapeOk w0.heap.size ns (w8.alloc (.cells #[.int .i64 n, .int .i64 d, .int .i64 n1, .int .i64 d1, .int .i64 n2, .int .i64 d2, .int .i64 n3, .int .i64 d3] 33))) := HTw8.out.below ((Below.refl _ _).alloc (Nat.le_refl _) _)
      have hz9 : w8.heap.size + 1 < (w8.alloc (.cells #[.int .i64 n, .int .i64 d, .int .i64 n1, .int .i64 d1, .int .i64 n2, .int .i64 d2, .int .i64 n3, .int .i64 d3] 33)).heap.size + 1 := by simp
      generalize w8.alloc (.cells #[.int .i64 n, .int .i64 d, .int .i64 n1, .int .i64 d1, .int .i64 n2, .int .i64 d2, .int .i64 n3, .int .i64 d3] 33) = w9 at *
      clear HTw8 HBw8
      have HW9 : Hid (Below w.heap.size w w9) := hb0.trans (HB9.out.mono hb0.size)
      go_loopw [56] (fun s56 wr => ∃ i : Nat, i ≤ 4 ∧ s56 = .int .i64 i ∧ Below w9.heap.size w9 wr) (fun i _ => 4 - (intOf i).toNat)
      case atStart => exact ⟨0, by omega, rfl, Below.refl _ _⟩
      case round =>
        obtain ⟨i, hi4, rfl, hB⟩ := hrel
        by_cases hlt : i < 4
        · obtain ⟨a, c1, hc0, hc1⟩ := HC8.out i hlt
          have k0 : wr.cell? ⟨w8.heap.size, i * 2, none⟩ = some (.int .i64 a) := by rw [hB.cell (by show w8.heap.size < _; omega)]; exact hc0
          have k1 : wr.cell? ⟨w8.heap.size, i * 2 + 1, none⟩ = some (.int .i64 c1) := by rw [hB.cell (by show w8.heap.size < _; omega)]; exact hc1
          clear hc0 hc1
          go_wp2_with fail
          have HBx := Lib.hid (heap_alloc_new wr (.cells #[.int .i64 a, .int .i64 c1] 33))
          have HBB : Hid (Below w9.heap.size w9 (wr.alloc (.cells #[.int .i64 a, .int .i64 c1] 33))) := hB.alloc hB.size _
          have hzB : wr.heap.size < (wr.alloc (.cells #[.int .i64 a, .int .i64 c1] 33)).heap.size := by simp
          clear k0 k1 hB
          generalize wr.alloc (.cells #[.int .i64 a, .int .i64 c1] 33) = wB at *
          obtain ⟨b0, b1, -, -⟩ := blk2 HBx.out
          go_region_held3 (fun w' => w'.cell? ⟨wr.heap.size, 0, none⟩ = some (.int .i64 a) ∧ w'.cell? ⟨wr.heap.size, 1, none⟩ = some (.int .i64 c1)) (go_keep)
            (first | (go_at_call 18; refine (number_text a c1 _ (HP.out.below (HW9.out.trans (HBB.out.mono HW9.out.size)).drew)).mono ?_; rintro e wC ⟨rfl, hbC⟩; have HCx := Lib.hid ((hbC.block wr.heap.size (show _ < wB.heap.size from hzB)).trans HBx.out); have HBC := Lib.hid (HBB.out.drew.trans (hbC.mono (show _ ≤ wB.heap.size from HBB.out.size))); have hzC : wr.heap.size < wC.heap.size := Nat.lt_of_lt_of_le (show _ < wB.heap.size from hzB) hbC.size; obtain ⟨b0, b1, -, -⟩ := blk2 HCx.out; clear hbC) | (go_at_call 19; refine (rnumber_any a c1 _).mono ?_; rintro e wD ⟨rfl, hbD⟩; rw [numRef_eq]; have HDx := Lib.hid ((hbD.block wr.heap.size hzC).trans HCx.out); have HBD := Lib.hid (HBC.out.trans (hbD.mono HBC.out.size)); obtain ⟨b0, b1, -, -⟩ := blk2 HDx.out; clear hbD))
          clear b0 b1
          go_wp2_with fail
          go_roundw
          case rel => exact ⟨i + 1, by omega, by go_num, HBD.out⟩
          case measure => simp [intOf]; omega
        · go_wp2_with fail
          have HBr := Lib.hid (HW9.out.trans (hB.mono HW9.out.size))
          have HTr := Lib.hid (HT9.out.below hB)
          have hzr : w0.heap.size < wr.heap.size := by have := hB.size; have := (HB9.out.size); have := hzw8; omega
          clear hB HC8 HT9 hz9 hzw8 hz5 hz4
          refine (source_any HTr.out).mono ?_
          rintro e w2 ⟨⟨⟨⟨s⟩⟩, rfl, hs⟩, hT2, hb2⟩
          have hB2 : Below w.heap.size w w2 := HBr.out.trans (hb2.below (by have := hb0.size; omega) (by have := hb0.size; omega))
          have HT2 := Lib.hid hT2
          have HS2 : Hid (s.length ≤ maxLen) := Nat.le_trans hs (by decide)
          clear hT2 HTr hb2 hs HBr
          go_wp2_with fail
          refine (rscan_any s w2 HS2.out).mono ?_
          rintro e w3 h3
          obtain ⟨M, cM, rfl, hrM, hb3, hoM⟩ := scan_outO h3
          have HF := Lib.hid (scan_few s)
          have HTx : Hid (∀ t ∈ Tk.outT (Tk.scan s), t.text.length ≤ maxLen) := fun t ht => Nat.le_trans (Tk.scan_text s t ht) HS2.out
          have HM := Lib.hid hrM
          have HO := Lib.hid hoM
          have hB3 : Below w.heap.size w w3 := hB2.trans (hb3.mono hB2.size)
          have HT3 := Lib.hid (HT2.out.below hb3)
          have hz3 : w0.heap.size < w2.heap.size := HT2.out.lt
          have HZ3 := Lib.hid (Nat.lt_of_lt_of_le hz3 hb3.size)
          clear h3 hrM hoM HS2 HT2 hb3 hB2
          generalize Tk.outN (Tk.scan s) = n0 at *
          generalize Tk.outE (Tk.scan s) = e0 at *
          generalize Tk.outT (Tk.scan s) = ms at *
          rcases Nat.eq_zero_or_pos ms.length with hm0 | hm0
          case' inl =>
            have hd : ¬ (0 : Int) < ms.length := by omega
            clear hm0
            go_wp2_with fail
            obtain ⟨us, hus⟩ : ∃ us, us = ms := ⟨_, rfl⟩
            have HU : Hid (TokRow w3 (.slice M ms.length cM) us) := by rw [hus]; exact HM.out
            have HN : Hid (us.length = ms.length) := by rw [hus]; rfl
            have HUX : Hid (∀ t ∈ us, t.text.length ≤ maxLen) := by rw [hus]; exact HTx.out
            have HB : Hid (Below w.heap.size w w3) := hB3
            clear hus
            obtain ⟨wq, hwq⟩ : ∃ wq, wq = w3 := ⟨_, rfl⟩
            subst hwq
            clear HO HT3 hB3 HM HTx hd HZ3
          case' inr =>
            have hd : (0 : Int) < ms.length := by omega
            go_wp2_with fail
            refine (next_any w0.heap.size ns 3 w3 HT3.out (by omega) (by omega)).mono ?_
            rintro e w4 ⟨k, -, rfl, hTx, hbx⟩
            by_cases hk0 : k = 0
            case' pos =>
              subst hk0
              have hb0s := hb0.size
              obtain ⟨g, cur, rfl, hgl, hgr, hcl, hcs, hct⟩ := HO.out hm0
              have hne : w0.heap.size ≠ g := by omega
              have HW : Hid (WSt w w0 ns g (.cells cur 43 (0, 0)) w4) := (WSt.mk HT3.out hB3 hgr).next hb0.size hne hTx hbx
              have HG := Lib.hid (And.intro hcl (And.intro hcs hct))
              clear hTx hbx HO hgr hcl hcs hct HT3 hB3
              go_wp2_with fail
              refine (next_any w0.heap.size ns ms.length w4 HW.out.tape (by omega) (by have := HF.out; omega)).mono ?_
              rintro e w5 ⟨j, hj, rfl, hTx, hbx⟩
              replace HW := Lib.hid (HW.out.next hb0.size hne hTx hbx)
              have hjl : j < ms.length := by omega
              clear hTx hbx hj
              go_wp2_with fail
              refine (next_any w0.heap.size ns 6 w5 HW.out.tape (by omega) (by omega)).mono ?_
              rintro e w6 ⟨k6, -, rfl, hTx, hbx⟩
              replace HW := Lib.hid (HW.out.next hb0.size hne hTx hbx)
              clear hTx hbx
              go_wp2_with fail
              refine (piece_any w0.heap.size ns w6 HW.out.tape).mono ?_
              rintro e w7 ⟨y, hy, rfl, hTx, hbx⟩
              replace HW := Lib.hid (HW.out.next hb0.size hne hTx hbx)
              have HYl : Hid (y.length ≤ maxLen) := Nat.le_trans (pieces_short y hy) (by decide)
              clear hTx hbx hy
              go_wp2_with fail
              refine (fraction_any w0.heap.size ns w7 HW.out.tape).mono ?_
              rintro e w8 ⟨n4, d4, rfl, hTx, hbx⟩
              replace HW := Lib.hid (HW.out.next hb0.size hne hTx hbx)
              clear hTx hbx
              go_wp2_with fail
              refine (pick3n w0.heap.size ns 0 (-1) 5 w8 HW.out.tape).mono ?_
              rintro e w9 ⟨p1, -, rfl, hTx, hbx⟩
              replace HW := Lib.hid (HW.out.next hb0.size hne hTx hbx)
              clear hTx hbx
              go_wp2_with fail
              refine (pick3n w0.heap.size ns 0 (-1) 16385 w9 HW.out.tape).mono ?_
              rintro e w10 ⟨p2, -, rfl, hTx, hbx⟩
              replace HW := Lib.hid (HW.out.next hb0.size hne hTx hbx)
              clear hTx hbx
              have hjc : j < cM := Nat.lt_of_lt_of_le hjl HG.out.1
              obtain ⟨v0, c0⟩ := row_cells HW.out.row HG.out.2.1 hjc 0 (by omega)
              obtain ⟨v1, c1⟩ := row_cells HW.out.row HG.out.2.1 hjc 1 (by omega)
              obtain ⟨v2, c2⟩ := row_cells HW.out.row HG.out.2.1 hjc 2 (by omega)
              obtain ⟨v3, c3⟩ := row_cells HW.out.row HG.out.2.1 hjc 3 (by omega)
              obtain ⟨v4, c4⟩ := row_cells HW.out.row HG.out.2.1 hjc 4 (by omega)
              obtain ⟨v5, c5⟩ := row_cells HW.out.row HG.out.2.1 hjc 5 (by omega)
              rw [Nat.add_zero] at c0
              have f0 := Lib.frozen_of_heap HW.out.row (j * 6)
              have f1 := Lib.frozen_of_heap HW.out.row (j * 6 + 1)
              have f2 := Lib.frozen_of_heap HW.out.row (j * 6 + 2)
              have f3 := Lib.frozen_of_heap HW.out.row (j * 6 + 3)
              have f4 := Lib.frozen_of_heap HW.out.row (j * 6 + 4)
              have f5 := Lib.frozen_of_heap HW.out.row (j * 6 + 5)
              go_wp2_with fail
              have hgw : w.heap.size ≤ g := by have := hb0.size; omega
              obtain ⟨us, hus⟩ : ∃ us, us = ms.set j ⟨k6, y, n4, d4, p1, p2⟩ := ⟨_, rfl⟩
              have HU : Hid (TokRow ((((((w10.setCell ⟨g, j * 6, none⟩ (.int .i64 k6)).setCell ⟨g, j * 6 + 1, none⟩ (.string ⟨y.toArray⟩)).setCell ⟨g, j * 6 + 2, none⟩ (.int .i64 n4)).setCell ⟨g, j * 6 + 3, none⟩ (.int .i64 d4)).setCell ⟨g, j * 6 + 4, none⟩ (.int .i64 p1)).setCell ⟨g, j * 6 + 5, none⟩ (.int .i64 p2)) (.slice (some ⟨g, 0, none⟩) ms.length cM) us) := by rw [hus]; exact tokRow_set ⟨k6, y, n4, d4, p1, p2⟩ HW.out.row HG.out.2.2 HG.out.2.1 HG.out.1 hjl
              have HN : Hid (us.length = ms.length) := by show _ = _; rw [hus, List.length_set]
              have HUX : Hid (∀ t ∈ us, t.text.length ≤ maxLen) := by
                intro t ht
                rw [hus] at ht
                rcases List.mem_or_eq_of_mem_set ht with h | rfl
                · exact HTx.out t h
                · exact HYl.out
              have HB : Hid (Below w.heap.size w ((((((w10.setCell ⟨g, j * 6, none⟩ (.int .i64 k6)).setCell ⟨g, j * 6 + 1, none⟩ (.string ⟨y.toArray⟩)).setCell ⟨g, j * 6 + 2, none⟩ (.int .i64 n4)).setCell ⟨g, j * 6 + 3, none⟩ (.int .i64 d4)).setCell ⟨g, j * 6 + 4, none⟩ (.int .i64 p1)).setCell ⟨g, j * 6 + 5, none⟩ (.int .i64 p2))) := (((((HW.out.below.setCell hgw _).setCell hgw _).setCell hgw _).setCell hgw _).setCell hgw _).setCell hgw _
              clear hus HW HG HYl c0 c1 c2 c3 c4 c5 f0 f1 f2 f3 f4 f5 HM HTx HZ3 hjl hjc hd hm0
              generalize ((((((w10.setCell ⟨g, j * 6, none⟩ (.int .i64 k6)).setCell ⟨g, j * 6 + 1, none⟩ (.string ⟨y.toArray⟩)).setCell ⟨g, j * 6 + 2, none⟩ (.int .i64 n4)).setCell ⟨g, j * 6 + 3, none⟩ (.int .i64 d4)).setCell ⟨g, j * 6 + 4, none⟩ (.int .i64 p1)).setCell ⟨g, j * 6 + 5, none⟩ (.int .i64 p2)) = wq at *
              generalize (some (⟨g, 0, none⟩ : Addr)) = M at *
            case' neg =>
              have gk : ((k : Int) == 0) = false := by simp; omega
              have hB4 : Below w.heap.size w w4 := hB3.trans (hbx.below hb0.size (by have := hb0.size; have := HZ3.out; omega))
              have hM4 : TokRow w4 (.slice M ms.length cM) ms := by
                obtain ⟨g, cur, rfl, hgl, hgr, _⟩ := HO.out hm0
                exact (HM.out.but hbx (by have := hb0.size; omega))
              go_wp2_with fail
              obtain ⟨us, hus⟩ : ∃ us, us = ms := ⟨_, rfl⟩
              have HU : Hid (TokRow w4 (.slice M ms.length cM) us) := by rw [hus]; exact hM4
              have HN : Hid (us.length = ms.length) := by rw [hus]; rfl
              have HUX : Hid (∀ t ∈ us, t.text.length ≤ maxLen) := by rw [hus]; exact HTx.out
              have HB : Hid (Below w.heap.size w w4) := hB4
              clear hus
              obtain ⟨wq, hwq⟩ : ∃ wq, wq = w4 := ⟨_, rfl⟩
              subst hwq
              clear HO HT3 hB3 HM HTx hd hm0 HZ3 gk hk0 hTx hbx hM4 hB4
          all_goals
            go_loopw [17] (fun s17 wr => ∃ i : Nat, i ≤ ts.length ∧ s17 = .int .i64 i ∧ Below wq.heap.size wq wr) (fun i _ => ts.length - (intOf i).toNat)
            case atStart => exact ⟨0, Nat.zero_le _, rfl, Below.refl _ _⟩
            case round =>
              obtain ⟨i, hi, rfl, hBr⟩ := hrel
              have HBr := Lib.hid hBr
              clear hBr
              have HBz := Lib.hid (HB.out.trans (HBr.out.mono HB.out.size))
              by_cases hlt : i < ts.length
              · by_cases h50 : i < 50
                · obtain ⟨ga, oa, t1, t2, t3, t4, t5, t6, rfl, hmem, c0, c1, c2, c3, c4, c5⟩ := (HR.out.below HBz.out).cellsN rfl hlt
                  have HXl : Hid (t2.length ≤ maxLen) := HX.out _ hmem
                  clear hmem HBz
                  have hga := World.block_lt_of_cell? wr _ c0
                  go_wp2_with fail
                  go_region_held3 (fun w' => w'.cell? ⟨ga, oa + i * 6, none⟩ = some (.int .i64 t1) ∧ w'.cell? ⟨ga, oa + i * 6 + 1, none⟩ = some (.string ⟨t2.toArray⟩) ∧ w'.cell? ⟨ga, oa + i * 6 + 2, none⟩ = some (.int .i64 t3) ∧ w'.cell? ⟨ga, oa + i * 6 + 3, none⟩ = some (.int .i64 t4) ∧ w'.cell? ⟨ga, oa + i * 6 + 4, none⟩ = some (.int .i64 t5) ∧ w'.cell? ⟨ga, oa + i * 6 + 5, none⟩ = some (.int .i64 t6)) (go_keep)
                    (first | (go_at_call 22; refine (valid_any ⟨t1, t2, t3, t4, t5, t6⟩ _ HXl.out).mono ?_; rintro e w7 ⟨rfl, hb7⟩; have hz7 : wr.heap.size ≤ w7.heap.size := hb7.size; replace c0 := (hb7.cell (show ga < wr.heap.size from hga)).trans c0; replace c1 := (hb7.cell (show ga < wr.heap.size from hga)).trans c1; replace c2 := (hb7.cell (show ga < wr.heap.size from hga)).trans c2; replace c3 := (hb7.cell (show ga < wr.heap.size from hga)).trans c3; replace c4 := (hb7.cell (show ga < wr.heap.size from hga)).trans c4; replace c5 := (hb7.cell (show ga < wr.heap.size from hga)).trans c5; have HB7 := Lib.hid (HBr.out.drew.trans (hb7.mono (show _ ≤ wr.heap.size from HBr.out.size))); clear hb7) | (go_at_call 23; refine (rvalidTok_any ⟨t1, t2, t3, t4, t5, t6⟩ _ HXl.out).mono ?_; rintro e w8 ⟨rfl, hb8⟩; replace c0 := (hb8.cell (Nat.lt_of_lt_of_le hga hz7)).trans c0; replace c1 := (hb8.cell (Nat.lt_of_lt_of_le hga hz7)).trans c1; replace c2 := (hb8.cell (Nat.lt_of_lt_of_le hga hz7)).trans c2; replace c3 := (hb8.cell (Nat.lt_of_lt_of_le hga hz7)).trans c3; replace c4 := (hb8.cell (Nat.lt_of_lt_of_le hga hz7)).trans c4; replace c5 := (hb8.cell (Nat.lt_of_lt_of_le hga hz7)).trans c5; have HB8 := Lib.hid (HB7.out.trans (hb8.mono HB7.out.size)); clear hb8))
                  generalize validTok ⟨t1, t2, t3, t4, t5, t6⟩ = q1 at *
                  clear c0 c1 c2 c3 c4 c5
                  go_wp2_with fail
                  go_roundw
                  case rel => exact ⟨i + 1, by omega, by go_num, HB8.out⟩
                  case measure => simp [intOf]; omega
                · go_wp2_with fail
                  have HUz := Lib.hid (HU.out.below HBr.out)
                  obtain ⟨wz, hwz⟩ : ∃ wz, wz = wr := ⟨_, rfl⟩
                  subst hwz
                  clear HBr HU hlt h50 hi
                  go_loopw [18] (fun s18 wr => ∃ i : Nat, i ≤ ms.length ∧ s18 = .int .i64 i ∧ Below wz.heap.size wz wr) (fun i _ => ms.length - (intOf i).toNat)
                  case atStart => exact ⟨0, Nat.zero_le _, rfl, Below.refl _ _⟩
                  case round =>
                    obtain ⟨i, hi, rfl, hBr⟩ := hrel
                    have HBr := Lib.hid hBr
                    clear hBr
                    have HBw := Lib.hid (HBz.out.trans (HBr.out.mono HBz.out.size))
                    by_cases hlt : i < ms.length
                    · obtain ⟨gm, om, t1, t2, t3, t4, t5, t6, rfl, hmem, c0, c1, c2, c3, c4, c5⟩ := (HUz.out.below HBr.out).cellsN HN.out hlt
                      have HXl : Hid (t2.length ≤ maxLen) := HUX.out _ hmem
                      have hml : ms.length ≤ 100000 := HF.out
                      clear hmem
                      have hga := World.block_lt_of_cell? wr _ c0
                      go_wp2_with fail
                      go_region_held3 (fun w' => w'.cell? ⟨gm, om + i * 6, none⟩ = some (.int .i64 t1) ∧ w'.cell? ⟨gm, om + i * 6 + 1, none⟩ = some (.string ⟨t2.toArray⟩) ∧ w'.cell? ⟨gm, om + i * 6 + 2, none⟩ = some (.int .i64 t3) ∧ w'.cell? ⟨gm, om + i * 6 + 3, none⟩ = some (.int .i64 t4) ∧ w'.cell? ⟨gm, om + i * 6 + 4, none⟩ = some (.int .i64 t5) ∧ w'.cell? ⟨gm, om + i * 6 + 5, none⟩ = some (.int .i64 t6)) (go_keep)
                        (first | (go_at_call 22; refine (valid_any ⟨t1, t2, t3, t4, t5, t6⟩ _ HXl.out).mono ?_; rintro e w7 ⟨rfl, hb7⟩; have hz7 : wr.heap.size ≤ w7.heap.size := hb7.size; replace c0 := (hb7.cell (show gm < wr.heap.size from hga)).trans c0; replace c1 := (hb7.cell (show gm < wr.heap.size from hga)).trans c1; replace c2 := (hb7.cell (show gm < wr.heap.size from hga)).trans c2; replace c3 := (hb7.cell (show gm < wr.heap.size from hga)).trans c3; replace c4 := (hb7.cell (show gm < wr.heap.size from hga)).trans c4; replace c5 := (hb7.cell (show gm < wr.heap.size from hga)).trans c5; have HB7 := Lib.hid (HBr.out.drew.trans (hb7.mono (show _ ≤ wr.heap.size from HBr.out.size))); clear hb7) | (go_at_call 23; refine (rvalidTok_any ⟨t1, t2, t3, t4, t5, t6⟩ _ HXl.out).mono ?_; rintro e w8 ⟨rfl, hb8⟩; replace c0 := (hb8.cell (Nat.lt_of_lt_of_le hga hz7)).trans c0; replace c1 := (hb8.cell (Nat.lt_of_lt_of_le hga hz7)).trans c1; replace c2 := (hb8.cell (Nat.lt_of_lt_of_le hga hz7)).trans c2; replace c3 := (hb8.cell (Nat.lt_of_lt_of_le hga hz7)).trans c3; replace c4 := (hb8.cell (Nat.lt_of_lt_of_le hga hz7)).trans c4; replace c5 := (hb8.cell (Nat.lt_of_lt_of_le hga hz7)).trans c5; have HB8 := Lib.hid (HB7.out.trans (hb8.mono HB7.out.size)); clear hb8))
                      generalize validTok ⟨t1, t2, t3, t4, t5, t6⟩ = q1 at *
                      clear c0 c1 c2 c3 c4 c5
                      go_wp2_with fail
                      go_roundw
                      case rel => exact ⟨i + 1, by omega, by go_num, HB8.out⟩
                      case measure => simp [intOf]; omega
                    · go_wp2_with fail
                      refine (text_any _ us wr (HUz.out.below HBr.out) (by rw [HN.out]; exact HF.out) HUX.out (HL.out.below HBw.out) (HP.out.below HBw.out)).mono ?_
                      rintro e wa ⟨rfl, hba⟩
                      have HBa := Lib.hid (HBr.out.trans (hba.mono HBr.out.size))
                      clear hba
                      go_wp2_with fail
                      refine (rtextT_any _ us wa (HUz.out.below HBa.out) (by rw [HN.out]; exact HF.out) HUX.out).mono ?_
                      rintro e wb ⟨rfl, hbb⟩
                      have HBb := Lib.hid (HBa.out.trans (hbb.mono HBa.out.size))
                      have HBc := Lib.hid (HBz.out.trans (HBb.out.mono HBz.out.size))
                      clear hbb HBa HBw
                      generalize textAll us = q2 at *
                      by_cases h50 : 50 < ts.length
                      · go_wp2_with fail
                        refine (sane_any wb (HL.out.below HBc.out) (HP.out.below HBc.out)).mono ?_
                        rintro e we ⟨rfl, hbe⟩
                        go_wp2_with fail
                        go_ret
                        exact ⟨rfl, HBc.out.trans (hbe.mono HBc.out.size)⟩
                      · go_wp2_with fail
                        refine (text_any _ ts wb (HR.out.below HBc.out) (by omega) HX.out (HL.out.below HBc.out) (HP.out.below HBc.out)).mono ?_
                        rintro e wc ⟨rfl, hbc⟩
                        have HBd := Lib.hid (HBc.out.trans (hbc.mono HBc.out.size))
                        clear hbc
                        go_wp2_with fail
                        refine (rtextT_any _ ts wc (HR.out.below HBd.out) (by omega) HX.out).mono ?_
                        rintro e wd ⟨rfl, hbd⟩
                        have HBe := Lib.hid (HBd.out.trans (hbd.mono HBd.out.size))
                        clear hbd
                        generalize textAll ts = q3 at *
                        go_wp2_with fail
                        refine (sane_any wd (HL.out.below HBe.out) (HP.out.below HBe.out)).mono ?_
                        rintro e we ⟨rfl, hbe⟩
                        go_wp2_with fail
                        go_ret
                        exact ⟨rfl, HBe.out.trans (hbe.mono HBe.out.size)⟩
              · go_wp2_with fail
                have HUz := Lib.hid (HU.out.below HBr.out)
                obtain ⟨wz, hwz⟩ : ∃ wz, wz = wr := ⟨_, rfl⟩
                subst hwz
                clear HBr HU hlt hi
                go_loopw [18] (fun s18 wr => ∃ i : Nat, i ≤ ms.length ∧ s18 = .int .i64 i ∧ Below wz.heap.size wz wr) (fun i _ => ms.length - (intOf i).toNat)
                case atStart => exact ⟨0, Nat.zero_le _, rfl, Below.refl _ _⟩
                case round =>
                  obtain ⟨i, hi, rfl, hBr⟩ := hrel
                  have HBr := Lib.hid hBr
                  clear hBr
                  have HBw := Lib.hid (HBz.out.trans (HBr.out.mono HBz.out.size))
                  by_cases hlt : i < ms.length
                  · obtain ⟨gm, om, t1, t2, t3, t4, t5, t6, rfl, hmem, c0, c1, c2, c3, c4, c5⟩ := (HUz.out.below HBr.out).cellsN HN.out hlt
                    have HXl : Hid (t2.length ≤ maxLen) := HUX.out _ hmem
                    have hml : ms.length ≤ 100000 := HF.out
                    clear hmem
                    have hga := World.block_lt_of_cell? wr _ c0
                    go_wp2_with fail
                    go_region_held3 (fun w' => w'.cell? ⟨gm, om + i * 6, none⟩ = some (.int .i64 t1) ∧ w'.cell? ⟨gm, om + i * 6 + 1, none⟩ = some (.string ⟨t2.toArray⟩) ∧ w'.cell? ⟨gm, om + i * 6 + 2, none⟩ = some (.int .i64 t3) ∧ w'.cell? ⟨gm, om + i * 6 + 3, none⟩ = some (.int .i64 t4) ∧ w'.cell? ⟨gm, om + i * 6 + 4, none⟩ = some (.int .i64 t5) ∧ w'.cell? ⟨gm, om + i * 6 + 5, none⟩ = some (.int .i64 t6)) (go_keep)
                      (first | (go_at_call 22; refine (valid_any ⟨t1, t2, t3, t4, t5, t6⟩ _ HXl.out).mono ?_; rintro e w7 ⟨rfl, hb7⟩; have hz7 : wr.heap.size ≤ w7.heap.size := hb7.size; replace c0 := (hb7.cell (show gm < wr.heap.size from hga)).trans c0; replace c1 := (hb7.cell (show gm < wr.heap.size from hga)).trans c1; replace c2 := (hb7.cell (show gm < wr.heap.size from hga)).trans c2; replace c3 := (hb7.cell (show gm < wr.heap.size from hga)).trans c3; replace c4 := (hb7.cell (show gm < wr.heap.size from hga)).trans c4; replace c5 := (hb7.cell (show gm < wr.heap.size from hga)).trans c5; have HB7 := Lib.hid (HBr.out.drew.trans (hb7.mono (show _ ≤ wr.heap.size from HBr.out.size))); clear hb7) | (go_at_call 23; refine (rvalidTok_any ⟨t1, t2, t3, t4, t5, t6⟩ _ HXl.out).mono ?_; rintro e w8 ⟨rfl, hb8⟩; replace c0 := (hb8.cell (Nat.lt_of_lt_of_le hga hz7)).trans c0; replace c1 := (hb8.cell (Nat.lt_of_lt_of_le hga hz7)).trans c1; replace c2 := (hb8.cell (Nat.lt_of_lt_of_le hga hz7)).trans c2; replace c3 := (hb8.cell (Nat.lt_of_lt_of_le hga hz7)).trans c3; replace c4 := (hb8.cell (Nat.lt_of_lt_of_le hga hz7)).trans c4; replace c5 := (hb8.cell (Nat.lt_of_lt_of_le hga hz7)).trans c5; have HB8 := Lib.hid (HB7.out.trans (hb8.mono HB7.out.size)); clear hb8))
                    generalize validTok ⟨t1, t2, t3, t4, t5, t6⟩ = q1 at *
                    clear c0 c1 c2 c3 c4 c5
                    go_wp2_with fail
                    go_roundw
                    case rel => exact ⟨i + 1, by omega, by go_num, HB8.out⟩
                    case measure => simp [intOf]; omega
                  · go_wp2_with fail
                    refine (text_any _ us wr (HUz.out.below HBr.out) (by rw [HN.out]; exact HF.out) HUX.out (HL.out.below HBw.out) (HP.out.below HBw.out)).mono ?_
                    rintro e wa ⟨rfl, hba⟩
                    have HBa := Lib.hid (HBr.out.trans (hba.mono HBr.out.size))
                    clear hba
                    go_wp2_with fail
                    refine (rtextT_any _ us wa (HUz.out.below HBa.out) (by rw [HN.out]; exact HF.out) HUX.out).mono ?_
                    rintro e wb ⟨rfl, hbb⟩
                    have HBb := Lib.hid (HBa.out.trans (hbb.mono HBa.out.size))
                    have HBc := Lib.hid (HBz.out.trans (HBb.out.mono HBz.out.size))
                    clear hbb HBa HBw
                    generalize textAll us = q2 at *
                    by_cases h50 : 50 < ts.length
                    · go_wp2_with fail
                      refine (sane_any wb (HL.out.below HBc.out) (HP.out.below HBc.out)).mono ?_
                      rintro e we ⟨rfl, hbe⟩
                      go_wp2_with fail
                      go_ret
                      exact ⟨rfl, HBc.out.trans (hbe.mono HBc.out.size)⟩
                    · go_wp2_with fail
                      refine (text_any _ ts wb (HR.out.below HBc.out) (by omega) HX.out (HL.out.below HBc.out) (HP.out.below HBc.out)).mono ?_
                      rintro e wc ⟨rfl, hbc⟩
                      have HBd := Lib.hid (HBc.out.trans (hbc.mono HBc.out.size))
                      clear hbc
                      go_wp2_with fail
                      refine (rtextT_any _ ts wc (HR.out.below HBd.out) (by omega) HX.out).mono ?_
                      rintro e wd ⟨rfl, hbd⟩
                      have HBe := Lib.hid (HBd.out.trans (hbd.mono HBd.out.size))
                      clear hbd
                      generalize textAll ts = q3 at *
                      go_wp2_with fail
                      refine (sane_any wd (HL.out.below HBe.out) (HP.out.below HBe.out)).mono ?_
                      rintro e we ⟨rfl, hbe⟩
                      go_wp2_with fail
                      go_ret
                      exact ⟨rfl, HBe.out.trans (hbe.mono HBe.out.size)⟩
end Go.Proofs.YtpdbkbadjgellaaGreatDoor

/-
  The walk of TokenBlanks.
-/
import Derived.Test.YtpdbkbadjgellaaDoorBkQ
import Derived.Test.YtpdbkbadjgellaaDoorPc
import Derived.Test.YtpdbkbadjgellaaDoorTkZ
import Derived.Deep.DeepCutAuto
namespace Go.Proofs.YtpdbkbadjgellaaDoor
open Go.RowKit
attribute [local go_sem] ba_get ba_extract take_rest ba_append
attribute [local go_sem ↓] run_eql_tok run_neq_tok

/-- What a scan leaves, in one form. -/
theorem scan_out {r : Except (Nat × Int) (List Tk.Tok)} {w w' : World} {e : Ending} (h : ScanPost r w e w') :
    ∃ A c, e = .returned (.tuple #[.slice A (Tk.outT r).length c, .int .i64 (Tk.outN r), .int .i64 (Tk.outE r)]) ∧ TokRow w' (.slice A (Tk.outT r).length c) (Tk.outT r) ∧ Below w.heap.size w w' := by
  obtain ⟨hb, h⟩ := h
  cases r with
  | error x => exact ⟨none, 0, h, ⟨none, 0, rfl, fun h => by cases h⟩, hb⟩
  | ok ts =>
    obtain ⟨v, rfl, hown⟩ := h
    have hr := TokRow.of_own hown
    obtain ⟨A, c, rfl, hc⟩ := hr
    exact ⟨A, c, rfl, ⟨A, c, rfl, hc⟩, hb⟩

theorem front_cell (w : World) (k : Nat) (hk : k < 4) : ∃ x, x ∈ Tk.fronts ∧ (w.alloc (.cells (Tk.fronts.map fun x => Value.string ⟨x.toArray⟩).toArray 9)).cell? ⟨w.heap.size, k, none⟩ = some (.string ⟨x.toArray⟩) := by
  refine ⟨Tk.fronts[k]'hk, List.getElem_mem _, ?_⟩
  rw [Lib.cell_of_heap (heap_alloc_new w _), List.getElem?_toArray, List.getElem?_map, List.getElem?_eq_getElem hk]
  rfl
theorem or_three {p q r G : Prop} (h : p ∨ q ∨ r) (h1 : p → G) (h2 : q → G) (h3 : r → G) : G := h.elim h1 fun h => h.elim h2 h3
theorem fronts_short : ∀ x ∈ Tk.fronts, x.length ≤ 6 := by decide

set_option maxHeartbeats 4000000 in
set_option maxRecDepth 100000 in
theorem blanks_any (v : Value) (ns : List Int) (l : List UInt8) (w : World) (hi : IntsAt w w.heap.size v ns) (hs : l.length ≤ maxLen) (hl : Lens w) (hp : Pow w) :
    Calls Tryd.prog 5 #[v, .string ⟨l.toArray⟩] w fun e w' => e = .returned (.bool true) ∧ Below w.heap.size w w' := by
  have HL := Lib.hid hl
  have HP := Lib.hid hp
  have HI := Lib.hid hi
  unfold maxLen at hs
  clear hl hp hi
  go_enter Tryd.func5, Tryd.ntmps5
  go_wp2_with fail
  refine (tapeNew_any v ns w HI.out).mono ?_
  rintro e w1 ⟨rfl, hT1, hz1, hB1⟩
  have HT1 := Lib.hid hT1
  clear hT1 HI
  go_upto_region 2 with fail
  go_cut [27] (fun s wx => ∃ c : Bool, s = .bool c ∧ Hid (c = false → l.length ≤ 2000) ∧ Hid (TapeOk w.heap.size ns wx) ∧ Below w.heap.size w wx ∧ w.heap.size < wx.heap.size)
  case first =>
    go_wp2_with fail
    refine (next_any w.heap.size ns 3 w1 HT1.out (by omega) (by omega)).mono ?_
    rintro e w2 ⟨k, hk, rfl, hT2, hb2⟩
    have hB2 : Below w.heap.size w w2 := hB1.trans (hb2.below (Nat.le_refl _) (by omega))
    have hz2 : w.heap.size < w2.heap.size := Nat.lt_of_lt_of_le hz1 hb2.size
    have HT2 := Lib.hid hT2
    clear hT2 HT1 hb2 hB1 hz1
    by_cases hk0 : 0 < k
    · go_wp2_with fail
      go_meet
      case rel => exact ⟨true, rfl, fun h => (by cases h), HT2, hB2, hz2⟩
    · obtain rfl : k = 0 := by omega
      go_wp2_with fail
      go_meet
      case rel => exact ⟨_, rfl, fun h => (by have := of_decide_eq_false h; omega), HT2, hB2, hz2⟩
  case rest =>
  obtain ⟨c, rfl, hcl, HT2, hB2, hz2⟩ := hcut
  clear HT1 hB1 hz1
  go_upto_if 27 with fail
  go_cut [1] (fun s1 wx => ∃ x : List UInt8, x.length ≤ 2000 ∧ s1 = .string ⟨x.toArray⟩ ∧ Hid (TapeOk w.heap.size ns wx) ∧ Below w.heap.size w wx ∧ w.heap.size < wx.heap.size)
  case first =>
    cases c
    · have hx := hcl.out rfl
      go_wp2_with fail
      go_meet
      case rel => exact ⟨_, hx, rfl, HT2, hB2, hz2⟩
    · clear hcl
      go_wp2_with fail
      refine (piece_any w.heap.size ns wc HT2.out).mono ?_
      rintro e w3 ⟨x1, hx1, rfl, hT3, hb3⟩
      have hn1 := pieces_short x1 hx1
      clear hx1
      have HT3 := Lib.hid hT3
      have hB3 : Below w.heap.size w w3 := hB2.trans (hb3.below (Nat.le_refl _) (by omega))
      have hz3 : w.heap.size < w3.heap.size := Nat.lt_of_lt_of_le hz2 hb3.size
      clear hT3 HT2 hb3 hB2 hz2
      go_wp2_with fail
      refine (piece_any w.heap.size ns w3 HT3.out).mono ?_
      rintro e w4 ⟨x2, hx2, rfl, hT4, hb4⟩
      have hn2 := pieces_short x2 hx2
      clear hx2
      have HT4 := Lib.hid hT4
      have hB4 : Below w.heap.size w w4 := hB3.trans (hb4.below (Nat.le_refl _) (by omega))
      have hz4 : w.heap.size < w4.heap.size := Nat.lt_of_lt_of_le hz3 hb4.size
      clear hT4 HT3 hb4 hB3 hz3
      go_wp2_with fail
      refine (piece_any w.heap.size ns w4 HT4.out).mono ?_
      rintro e w5 ⟨x3, hx3, rfl, hT5, hb5⟩
      have hn3 := pieces_short x3 hx3
      clear hx3
      have HT5 := Lib.hid hT5
      have hB5 : Below w.heap.size w w5 := hB4.trans (hb5.below (Nat.le_refl _) (by omega))
      have hz5 : w.heap.size < w5.heap.size := Nat.lt_of_lt_of_le hz4 hb5.size
      clear hT5 HT4 hb5 hB4 hz4
      go_wp2_with fail
      go_meet
      case rel => exact ⟨_, by simp; omega, rfl, HT5, hB5, hz5⟩
  case rest =>
    obtain ⟨x, hx, rfl, HT3, hB3, hz3⟩ := hcut
    clear HT2 hB2 hz2 hs hcl
    go_wp2_with fail
    change Calls _ _ _ (wc.alloc (.cells (Tk.fronts.map fun x => Value.string ⟨x.toArray⟩).toArray 9)) _
    have HC := Lib.hid (front_cell wc)
    have hB4 : Below w.heap.size w (wc.alloc (.cells (Tk.fronts.map fun x => Value.string ⟨x.toArray⟩).toArray 9)) := hB3.alloc (by omega) _
    have HT4 : Hid (TapeOk w.heap.size ns (wc.alloc (.cells (Tk.fronts.map fun x => Value.string ⟨x.toArray⟩).toArray 9))) := HT3.out.below ((Below.refl _ _).alloc (Nat.le_refl _) _)
    have hz4 : wc.heap.size < (wc.alloc (.cells (Tk.fronts.map fun x => Value.string ⟨x.toArray⟩).toArray 9)).heap.size := by simp
    generalize wc.alloc (.cells (Tk.fronts.map fun x => Value.string ⟨x.toArray⟩).toArray 9) = w4 at *
    refine (next_any w.heap.size ns 4 w4 HT4.out (by omega) (by omega)).mono ?_
    rintro e w5 ⟨k, hk, rfl, _, hb5⟩
    have hk4 : k < 4 := by omega
    obtain ⟨f, hf, hc⟩ := HC.out k hk4
    have hc5 : w5.cell? ⟨wc.heap.size, k, none⟩ = some (.string ⟨f.toArray⟩) := by rw [hb5.cell (by simpa using hz4) (by simp; omega)]; exact hc
    have hB5 : Below w.heap.size w w5 := hB4.trans (hb5.below (Nat.le_refl _) (by omega))
    have hfl := fronts_short f hf
    have HF1 := Lib.hid (Tk.scan_front f x hf (by omega))
    have HF2 := Lib.hid (Tk.scan_tail x (by omega))
    obtain ⟨bd1, bd2, bd3⟩ := Tk.scan_bd x (by omega)
    have HB3 := Lib.hid bd3
    clear bd3 hf hc HC HT4 hB4 hz4 HT3 hB3 hb5 hk
    go_wp2_with fail
    clear hc5
    refine (scan_any x w5 (by unfold maxLen; omega) (HL.out.below hB5)).mono ?_
    rintro e w6 h6
    obtain ⟨A, cA, rfl, hrA, hb6⟩ := scan_out h6
    have hB6 : Below w.heap.size w w6 := hB5.trans (hb6.mono hB5.size)
    have HA := Lib.hid hrA
    clear h6 hrA hb6 hB5
    go_wp2_with fail
    refine (scan_any (f ++ x) w6 (by unfold maxLen; simp; omega) (HL.out.below hB6)).mono ?_
    rintro e w7 h7
    rw [HF1.out] at h7
    obtain ⟨B, cB, rfl, hrB, hb7⟩ := scan_out h7
    rw [Tk.outT_shift, List.length_map] at hrB
    rw [Tk.outT_shift, Tk.outE_shift, List.length_map]
    have hB7 : Below w.heap.size w w7 := hB6.trans (hb7.mono hB6.size)
    have HB := Lib.hid hrB
    have HA7 := Lib.hid (HA.out.below hb7)
    clear h7 hrB hb7 hB6 HA
    go_wp2_with fail
    refine (scan_any (x ++ Tk.tailC) w7 (by unfold maxLen; simp [Tk.tailC]; omega) (HL.out.below hB7)).mono ?_
    rintro e w8 h8
    rw [HF2.out] at h8
    obtain ⟨C, cC, rfl, hrC, hb8⟩ := scan_out h8
    have hB8 : Below w.heap.size w w8 := hB7.trans (hb8.mono hB7.size)
    have HC := Lib.hid hrC
    have HA8 := Lib.hid (HA7.out.below hb8)
    have HB8 := Lib.hid (HB.out.below hb8)
    have hsh := Tk.outN_shift f.length (Tk.scan x)
    have HSH := Lib.hid hsh
    clear h8 hrC hb8 hB7 HA7 HB HF1 HF2 hsh
    generalize Tk.outN (Tk.shift f.length (Tk.scan x)) = mm at *
    generalize Tk.scan x = r at *
    generalize Tk.outN r = nn at *
    generalize Tk.outT r = ts at *
    generalize Tk.outE r = ee at *
    go_upto_region 8 with fail
    go_cut [100] (fun s wx => s = .bool false ∧ Below w8.heap.size w8 wx)
    case first =>
      by_cases hee : ee = 0
      · subst hee
        go_wp2_with fail
        refine (same_any _ _ ts ts w8 HA8.out HC.out (by omega) (by omega)).mono ?_
        rintro e w9 ⟨rfl, n9, rfl⟩
        rw [decide_eq_true rfl]
        go_wp2_with fail
        go_meet
        case rel => exact ⟨rfl, belowN (Below.refl _ _) _⟩
      · obtain rfl := HSH.out hee
        have gee : (ee != 0) = true := by simpa using hee
        clear HSH hee
        go_wp2_with fail
        refine (same_any _ _ ts ts w8 HA8.out HC.out (by omega) (by omega)).mono ?_
        rintro e w9 ⟨rfl, n9, rfl⟩
        rw [decide_eq_true rfl]
        go_wp2_with fail
        go_meet
        case rel => exact ⟨rfl, belowN (Below.refl _ _) _⟩
    case rest =>
      obtain ⟨rfl, hb9⟩ := hcut
      have hB9 : Below w.heap.size w wc := hB8.trans (hb9.mono hB8.size)
      have HA9 := Lib.hid (HA8.out.below hb9)
      have HB9 := Lib.hid (HB8.out.below hb9)
      clear HA8 HB8 HC hb9 hB8 HSH
      go_wp2_with fail
      go_loopw [16] (fun i wr => ∃ k : Nat, k ≤ ts.length ∧ i = .int .i64 k ∧ Below wc.heap.size wc wr) (fun i _ => ts.length - (intOf i).toNat)
      case atStart => exact ⟨0, Nat.zero_le _, rfl, Below.refl _ _⟩
      case round =>
        obtain ⟨k, hk, rfl, hb⟩ := hrel
        by_cases hlt : k < ts.length
        · obtain ⟨g1, o1, c1, e1, h1⟩ := (HA9.out.below hb).at_ (by omega)
          obtain ⟨g2, o2, c2, e2, h2⟩ := (HB9.out.below hb).at_ (by simp; omega)
          simp only [Value.slice.injEq] at e1 e2
          obtain ⟨rfl, h3, rfl⟩ := e1
          obtain ⟨rfl, h4, rfl⟩ := e2
          clear h3 h4
          replace h1 := h1 k hlt
          replace h2 := h2 k (by simpa using hlt)
          have hpl := HB3.out ts[k] (List.getElem_mem _)
          rw [List.getElem_map] at h2
          obtain ⟨t1, t2, t3, t4, t5, t6, ht⟩ : ∃ t1 t2 t3 t4 t5 t6, ts[k] = ⟨t1, t2, t3, t4, t5, t6⟩ := ⟨_, _, _, _, _, _, rfl⟩
          rw [ht] at h1 h2 hpl
          obtain ⟨hp1, hp2⟩ := hpl
          simp only [Nat.zero_add] at hp1 hp2
          have a0 := h1 0 _ rfl
          have a1 := h1 1 _ rfl
          have a2 := h1 2 _ rfl
          have a3 := h1 3 _ rfl
          have a4 := h1 4 _ rfl
          have a5 := h1 5 _ rfl
          have b0 := h2 0 _ rfl
          have b1 := h2 1 _ rfl
          have b2 := h2 2 _ rfl
          have b3 := h2 3 _ rfl
          have b4 := h2 4 _ rfl
          have b5 := h2 5 _ rfl
          simp only [Nat.add_zero, Tk.moved] at a0 b0 b1 b2 b3 b4 b5
          have hg1 := World.block_lt_of_cell? _ _ a0
          have hg2 := World.block_lt_of_cell? _ _ b0
          simp only at hg1 hg2
          clear h1 h2 ht
          have hsz := hb.size
          go_wp2_with fail
          go_quiet (fail)
          go_wp2_with fail
          go_roundw
          case rel => exact ⟨k + 1, by omega, by go_num, belowN ((hb.alloc (by omega) _)) _⟩
          case measure => simp [intOf]; omega
        · go_wp2_with fail
          have hB10 : Below w.heap.size w wr := hB9.trans (hb.mono hB9.size)
          refine (sane_any wr (HL.out.below hB10) (HP.out.below hB10)).mono ?_
          rintro e w11 ⟨rfl, hb11⟩
          go_wp2_with fail
          go_ret
          exact ⟨rfl, hB10.trans (hb11.mono hB10.size)⟩
end Go.Proofs.YtpdbkbadjgellaaDoor

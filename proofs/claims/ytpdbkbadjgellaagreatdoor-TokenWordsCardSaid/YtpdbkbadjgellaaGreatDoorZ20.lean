/-
  The walk of payrollgen's Expr: expressions of type bool.
-/
import Derived.Test.YtpdbkbadjgellaaGreatDoorZ19
namespace Go.Proofs.YtpdbkbadjgellaaGreatDoor
open Go.RowKit

set_option maxHeartbeats 8000000 in
set_option maxRecDepth 100000 in
theorem expr_true (b : Nat) (ns : List Int) (n : Nat) (IH0 : 1 ≤ n → ExprSaid b ns n) (tb : Bool) (hbb : tb = true) (tm th td h rules : Int) (w : World) (hT : TapeOk b ns w) (ht : (tb, tm, th, td) ∈ fiveTypes) (hh : h ≤ (n + 1 : Nat)) (hhm : h ≤ 100) (hh0 : -100 ≤ h) (hr0 : 0 ≤ rules) (hr1 : rules ≤ 10) :
    Calls Tryz.prog 65 #[.pointer (some ⟨b, 0, none⟩), .agg #[.bool tb, .int .i64 tm, .int .i64 th, .int .i64 td], .int .i64 h, .int .i64 rules] w (ExPost b ns (GenEx (max 1 (n + 1))) w) := by
  have HB := Lib.hid hbb
  clear hbb
  have HT := Lib.hid hT
  have hlt := hT.lt
  have HTy := Lib.hid ht
  have IHx := Lib.hid IH0
  clear hT ht IH0
  go_enter Tryz.func65, Tryz.ntmps65
  go_upto_region 1 with fail
  have st0 : LeafSt b ns (tb, tm, th, td) w ((w.alloc (.cells #[.bool tb, .int .i64 tm, .int .i64 th, .int .i64 td] 87)).alloc (.cells #[.int .i64 0, .int .i64 0, .int .i64 0, .int .i64 0, .int .i64 0, .int .i64 0, .string ⟨#[]⟩, .int .i64 0, .int .i64 0, .slice none 0 0] 91)) :=
    ⟨(Below.heap_alloc _ _ _ (by simp)).trans (heap_alloc_new w _), alloc_at (by simp), (HT.out.alloc _).alloc _, ((But.refl _ _).alloc _).alloc _⟩
  generalize (w.alloc (.cells #[.bool tb, .int .i64 tm, .int .i64 th, .int .i64 td] 87)).alloc (.cells #[.int .i64 0, .int .i64 0, .int .i64 0, .int .i64 0, .int .i64 0, .int .i64 0, .string ⟨#[]⟩, .int .i64 0, .int .i64 0, .slice none 0 0] 91) = w0 at *
  have ST0 := Lib.hid st0
  clear st0 HT
  go_cut [17] (fun s wx => ∃ c : Bool, s = .bool c ∧ Hid (c = false → 1 < h) ∧ Hid (LeafSt b ns (tb, tm, th, td) w wx))
  case first =>
    by_cases h1 : h ≤ 1
    · go_wp2_with fail
      go_meet
      case rel => exact ⟨true, rfl, fun h => (by cases h), ST0⟩
    · have hd : decide (h ≤ 1) = false := decide_eq_false h1
      go_wp2_with fail
      refine (next_any b ns 5 _ ST0.out.tape (by omega) (by omega)).mono ?_
      rintro e w2 ⟨k, hk, rfl, hT2, hb2⟩
      have ST2 := Lib.hid (ST0.out.next hlt hT2 hb2)
      clear hT2
      go_wp2_with fail
      go_meet
      case rel => exact ⟨_, rfl, fun _ => by omega, ST2⟩
  case rest =>
    obtain ⟨c, rfl, hc, ST1⟩ := hcut
    obtain ⟨w1, rfl⟩ : ∃ w1, w1 = wc := ⟨_, rfl⟩
    cases c
    · have hh1 := hc.out rfl
      have IH := Lib.hid (IHx.out (by omega))
      clear hc ST0 IHx
      go_wp2_with fail
      refine (number_ty _).mono ?_
      rintro e w2 ⟨rfl, hb2⟩
      have ST2 := Lib.hid (ST1.out.below hlt hb2)
      clear hb2
      unfold tyV tNumber
      go_wp2_with fail
      refine (money_ty _).mono ?_
      rintro e w3 ⟨rfl, hb3⟩
      have ST3 := Lib.hid (ST2.out.below hlt hb3)
      clear hb3
      unfold tyV tMoney
      go_wp2_with fail
      refine (hours_ty _).mono ?_
      rintro e w4 ⟨rfl, hb4⟩
      have ST4 := Lib.hid (ST3.out.below hlt hb4)
      clear hb4
      unfold tyV tHours
      go_wp2_with fail
      refine (rate_ty _).mono ?_
      rintro e w5 ⟨rfl, hb5⟩
      have ST5 := Lib.hid (ST4.out.below hlt hb5)
      clear hb5 ST1 ST2 ST3 ST4
      unfold tyV tRate
      go_wp2_with fail
      change Calls _ _ _ (w5.alloc (.cells (fourTypes.flatMap typeCells).toArray 87)) _
      have HC := Lib.hid (four_cells w5)
      have ST6 := Lib.hid (ST5.out.below hlt ((Below.refl _ _).alloc (Nat.le_refl _) (.cells (fourTypes.flatMap typeCells).toArray 87)))
      have hz6 : w5.heap.size < (w5.alloc (.cells (fourTypes.flatMap typeCells).toArray 87)).heap.size := by simp
      have hb5 := ST5.out.tape.lt
      generalize w5.alloc (.cells (fourTypes.flatMap typeCells).toArray 87) = w6 at *
      refine (next_any b ns 4 w6 ST6.out.tape (by omega) (by omega)).mono ?_
      rintro e w7 ⟨k, hk, rfl, hT7, hb7⟩
      obtain ⟨⟨sb, sm, sh, sd⟩, hs, d0, d1, d2, d3⟩ := HC.out k (by omega)
      have q0 : w7.cell? ⟨w5.heap.size, k * 4, none⟩ = some (.bool sb) := by rw [hb7.cell hz6 (by simp; omega)]; exact d0
      have q1 : w7.cell? ⟨w5.heap.size, k * 4 + 1, none⟩ = some (.int .i64 sm) := by rw [hb7.cell hz6 (by simp; omega)]; exact d1
      have q2 : w7.cell? ⟨w5.heap.size, k * 4 + 2, none⟩ = some (.int .i64 sh) := by rw [hb7.cell hz6 (by simp; omega)]; exact d2
      have q3 : w7.cell? ⟨w5.heap.size, k * 4 + 3, none⟩ = some (.int .i64 sd) := by rw [hb7.cell hz6 (by simp; omega)]; exact d3
      have ST7 := Lib.hid (ST6.out.next hlt hT7 hb7)
      have hk4 : k < 4 := by omega
      have hne : w7.heap.size ≠ w.heap.size + 1 := by have := heap_lt ST7.out.res; omega
      have HSy := Lib.hid hs
      clear hT7 hb7 HC ST5 ST6 hz6 hb5 d0 d1 d2 d3 hs hk
      go_upto_region 5 with fail
      have acc0 : Acc b ns (tb, tm, th, td) (sb, sm, sh, sd) w7.heap.size (max 1 n) (w7.heap.size + 1) w [] [] (w7.alloc (.cells #[.bool sb, .int .i64 sm, .int .i64 sh, .int .i64 sd] 87)) :=
        ⟨by unfold exsAt; rfl, trivial, fun r hr => (by cases hr), ST7.out.below hlt ((Below.refl _ _).alloc (Nat.le_refl _) _), heap_alloc_new _ _, by simp, by have := heap_lt ST7.out.res; omega, ⟨by omega, by have := ST7.out.tape.lt; omega⟩⟩
      generalize w7.alloc (.cells #[.bool sb, .int .i64 sm, .int .i64 sh, .int .i64 sd] 87) = w8 at *
      have HA0 := Lib.hid acc0
      clear acc0 q0 q1 q2 q3
      go_wp2_with fail
      refine (next_any b ns 6 w8 HA0.out.st.tape (by omega) (by omega)).mono ?_
      rintro e w9 ⟨k6, hk6, rfl, hT9, hb9⟩
      have HA := Lib.hid (HA0.out.step hlt hT9 hb9)
      clear hT9 hb9 HA0
      by_cases h5 : k6 = 5
      · subst h5
        replace HA := Lib.hid (HA.out.below hlt (Below.refl w9.heap.size w9).drew)
        obtain ⟨y0, y1, y2, y3⟩ := blk4 HA.out.st.ty
        simp only at y0 y1 y2 y3
        go_wp2_with fail
        go_region_held3 (fun w' => w'.cell? ⟨w.heap.size, 0, none⟩ = some (.bool tb) ∧ w'.cell? ⟨w.heap.size, 1, none⟩ = some (.int .i64 tm) ∧ w'.cell? ⟨w.heap.size, 2, none⟩ = some (.int .i64 th) ∧ w'.cell? ⟨w.heap.size, 3, none⟩ = some (.int .i64 td)) (go_keep)
          (first | (go_at_call 60; refine (truth_ty _).mono ?_; rintro e wA ⟨rfl, hbA⟩; replace HA := Lib.hid (HA.out.below hlt hbA); clear hbA; obtain ⟨y0, y1, y2, y3⟩ := blk4 HA.out.st.ty; simp only at y0 y1 y2 y3; obtain ⟨r0, r1, r2, r3, r4, r5, r6, r7, r8, r9, f0, f1, f2, f3, f4, f5, f6, f7, f8, f9⟩ := blk10 HA.out.st.res; have hz := heap_lt HA.out.st.res; unfold tyV tTruth)
                 | (go_at_call 65; refine (IH.out _ _ _ _ _ _ _ HA.out.st.tape (by first | exact HTy.out | exact mem_truth) (by omega) (by omega) (by omega) (by omega) (by omega)).mono ?_; rintro e wA ⟨x, cs, hx, hex, rfl, hTA, hbA⟩; replace HA := Lib.hid (HA.out.push hlt hx hex hTA hbA); obtain ⟨_, _, _, _, _, _, _, _, _, _, _, _, rfl⟩ := hex.cells; clear hx hex hTA hbA; obtain ⟨y0, y1, y2, y3⟩ := blk4 HA.out.st.ty; simp only at y0 y1 y2 y3; obtain ⟨r0, r1, r2, r3, r4, r5, r6, r7, r8, r9, f0, f1, f2, f3, f4, f5, f6, f7, f8, f9⟩ := blk10 HA.out.st.res; have hz := heap_lt HA.out.st.res))
        go_wp2_with fail
        refine bodyPost_ret (v := .agg #[.int .i64 18, .int .i64 0, .int .i64 0, .int .i64 0, .int .i64 0, .int .i64 0, .string ⟨#[]⟩, .int .i64 0, .int .i64 0, .slice (some ⟨wA.heap.size, 0, none⟩) 3 3]) (by simp [results, Tryz.results65, go_sem, hz, r0, r1, r2, r3, r4, r5, r6, r7, r8, r9]) rfl ?_
        exact HA.out.close hlt (ok_op (op := 18) (by decide) (by decide) rfl) _ _ _ _ _ _ _ _ _ _ rfl rfl (by omega)
-- REST-BEGIN
      · have g5 : ((k6 : Int) == 5) = false := by simp; omega
        obtain ⟨y0, y1, y2, y3⟩ := blk4 HA.out.st.ty
        simp only at y0 y1 y2 y3
        cases tb
        · exact absurd HB.out (by simp)
        · go_wp2_with fail
          refine (next_any b ns 6 _ HA.out.st.tape (by omega) (by omega)).mono ?_
          rintro e wk ⟨k7, hk7, rfl, hT, hb⟩
          replace HA := Lib.hid (HA.out.step hlt hT hb)
          clear hT hb
          clear y0 y1 y2 y3
          have hk7c : k7 = 0 ∨ k7 = 1 ∨ k7 = 2 ∨ k7 = 3 ∨ k7 = 4 ∨ k7 = 5 := by omega
          rcases hk7c with rfl | rfl | rfl | rfl | rfl | rfl
          · skip
            have HK := Lib.hid HA.out.st.tape
            replace HA := Lib.hid (HA.out.below hlt (Below.refl wk.heap.size wk).drew)
            obtain ⟨y0, y1, y2, y3⟩ := blk4 HA.out.some; simp only at y0 y1 y2 y3; obtain ⟨r0, r1, r2, r3, r4, r5, r6, r7, r8, r9, f0, f1, f2, f3, f4, f5, f6, f7, f8, f9⟩ := blk10 HA.out.st.res; have hz := heap_lt HA.out.st.res; have hyz := heap_lt HA.out.some
            go_wp2_with fail
            go_region_held3 (fun w' => w'.cell? ⟨w7.heap.size, 0, none⟩ = some (.bool sb) ∧ w'.cell? ⟨w7.heap.size, 1, none⟩ = some (.int .i64 sm) ∧ w'.cell? ⟨w7.heap.size, 2, none⟩ = some (.int .i64 sh) ∧ w'.cell? ⟨w7.heap.size, 3, none⟩ = some (.int .i64 sd)) (first | (with_reducible exact ⟨y0, y1, y2, y3⟩) | (with_reducible exact ⟨past_drew y0, past_drew y1, past_drew y2, past_drew y3⟩) | (go_keep; done) | (simp [go_sem, y0, y1, y2, y3]; done))
              (first | (go_at_call 21; refine (pick3 b ns 9 10 11 _ HK.out).mono ?_; rintro e wA ⟨ox, hox, rfl, hTA, hbA⟩; replace HA := Lib.hid (HA.out.step hlt hTA (But.of_drew hbA)); have HO := Lib.hid hox; clear hox hTA hbA; obtain ⟨y0, y1, y2, y3⟩ := blk4 HA.out.some; simp only at y0 y1 y2 y3; obtain ⟨r0, r1, r2, r3, r4, r5, r6, r7, r8, r9, f0, f1, f2, f3, f4, f5, f6, f7, f8, f9⟩ := blk10 HA.out.st.res; have hz := heap_lt HA.out.st.res; have hyz := heap_lt HA.out.some) | (go_at_call 65; refine (IH.out _ _ _ _ _ _ _ HA.out.st.tape (by exact HSy.out) (by omega) (by omega) (by omega) (by omega) (by omega)).mono ?_; rintro e wA ⟨x, cs, hx, hex, rfl, hTA, hbA⟩; replace HA := Lib.hid (HA.out.push hlt hx hex hTA hbA); obtain ⟨_, _, _, _, _, _, _, _, _, _, _, _, rfl⟩ := hex.cells; clear hx hex hTA hbA; obtain ⟨y0, y1, y2, y3⟩ := blk4 HA.out.some; simp only at y0 y1 y2 y3; obtain ⟨r0, r1, r2, r3, r4, r5, r6, r7, r8, r9, f0, f1, f2, f3, f4, f5, f6, f7, f8, f9⟩ := blk10 HA.out.st.res; have hz := heap_lt HA.out.st.res; have hyz := heap_lt HA.out.some) | (go_at_call 92; refine (two_any _ _ _ _ _ _ _ HA.out.lo_le HA.out.both.1 HA.out.both.2).mono ?_; rintro e wB ⟨cs, hex, rfl, hbB⟩; have HP := Lib.hid hex; have HB := Lib.hid (HA.out.below hlt hbB); have STz := Lib.hid HB.out.st; obtain ⟨a0, a1, a2, a3, a4, a5, a6, a7, a8, A, nn, cc, rfl⟩ := hex.cells; clear hex hbB; obtain ⟨y0, y1, y2, y3⟩ := blk4 HB.out.some; simp only at y0 y1 y2 y3; obtain ⟨r0, r1, r2, r3, r4, r5, r6, r7, r8, r9, f0, f1, f2, f3, f4, f5, f6, f7, f8, f9⟩ := blk10 HB.out.st.res; have hz := heap_lt HB.out.st.res; have hyz := heap_lt HB.out.some))
            have hlo := HA.out.lo_b
            go_wp2_with fail
            refine bodyPost_ret (v := .agg #[.int .i64 a0, .int .i64 a1, .int .i64 a2, .int .i64 a3, .int .i64 a4, .int .i64 a5, .string ⟨a6.toArray⟩, .int .i64 a7, .int .i64 a8, .slice A nn cc]) (by simp [results, Tryz.results65, go_sem, r0, r1, r2, r3, r4, r5, r6, r7, r8, r9]) rfl ?_
            have hox := HO.out
            simp only [List.mem_cons, List.not_mem_nil, or_false] at hox
            exact ex_close HP.out (by omega) ((gen_mk (ok_op (by omega) (by omega) (by rcases hox with rfl | rfl | rfl <;> rfl)) HA.out.gen).mono (by omega)) STz.out.tape STz.out.but hlt _ _ _ _ _ _ _ _ _ _
          · skip
            have HK := Lib.hid HA.out.st.tape
            replace HA := Lib.hid (HA.out.below hlt (Below.refl wk.heap.size wk).drew)
            obtain ⟨y0, y1, y2, y3⟩ := blk4 HA.out.some; simp only at y0 y1 y2 y3; obtain ⟨r0, r1, r2, r3, r4, r5, r6, r7, r8, r9, f0, f1, f2, f3, f4, f5, f6, f7, f8, f9⟩ := blk10 HA.out.st.res; have hz := heap_lt HA.out.st.res; have hyz := heap_lt HA.out.some
            go_wp2_with fail
            go_region_held3 (fun w' => w'.cell? ⟨w7.heap.size, 0, none⟩ = some (.bool sb) ∧ w'.cell? ⟨w7.heap.size, 1, none⟩ = some (.int .i64 sm) ∧ w'.cell? ⟨w7.heap.size, 2, none⟩ = some (.int .i64 sh) ∧ w'.cell? ⟨w7.heap.size, 3, none⟩ = some (.int .i64 sd)) (first | (with_reducible exact ⟨y0, y1, y2, y3⟩) | (with_reducible exact ⟨past_drew y0, past_drew y1, past_drew y2, past_drew y3⟩) | (go_keep; done) | (simp [go_sem, y0, y1, y2, y3]; done))
              (first | (go_at_call 21; refine (pick3 b ns 9 10 11 _ HK.out).mono ?_; rintro e wA ⟨ox, hox, rfl, hTA, hbA⟩; replace HA := Lib.hid (HA.out.step hlt hTA (But.of_drew hbA)); have HO := Lib.hid hox; clear hox hTA hbA; obtain ⟨y0, y1, y2, y3⟩ := blk4 HA.out.some; simp only at y0 y1 y2 y3; obtain ⟨r0, r1, r2, r3, r4, r5, r6, r7, r8, r9, f0, f1, f2, f3, f4, f5, f6, f7, f8, f9⟩ := blk10 HA.out.st.res; have hz := heap_lt HA.out.st.res; have hyz := heap_lt HA.out.some) | (go_at_call 65; refine (IH.out _ _ _ _ _ _ _ HA.out.st.tape (by exact HSy.out) (by omega) (by omega) (by omega) (by omega) (by omega)).mono ?_; rintro e wA ⟨x, cs, hx, hex, rfl, hTA, hbA⟩; replace HA := Lib.hid (HA.out.push hlt hx hex hTA hbA); obtain ⟨_, _, _, _, _, _, _, _, _, _, _, _, rfl⟩ := hex.cells; clear hx hex hTA hbA; obtain ⟨y0, y1, y2, y3⟩ := blk4 HA.out.some; simp only at y0 y1 y2 y3; obtain ⟨r0, r1, r2, r3, r4, r5, r6, r7, r8, r9, f0, f1, f2, f3, f4, f5, f6, f7, f8, f9⟩ := blk10 HA.out.st.res; have hz := heap_lt HA.out.st.res; have hyz := heap_lt HA.out.some) | (go_at_call 92; refine (two_any _ _ _ _ _ _ _ HA.out.lo_le HA.out.both.1 HA.out.both.2).mono ?_; rintro e wB ⟨cs, hex, rfl, hbB⟩; have HP := Lib.hid hex; have HB := Lib.hid (HA.out.below hlt hbB); have STz := Lib.hid HB.out.st; obtain ⟨a0, a1, a2, a3, a4, a5, a6, a7, a8, A, nn, cc, rfl⟩ := hex.cells; clear hex hbB; obtain ⟨y0, y1, y2, y3⟩ := blk4 HB.out.some; simp only at y0 y1 y2 y3; obtain ⟨r0, r1, r2, r3, r4, r5, r6, r7, r8, r9, f0, f1, f2, f3, f4, f5, f6, f7, f8, f9⟩ := blk10 HB.out.st.res; have hz := heap_lt HB.out.st.res; have hyz := heap_lt HB.out.some))
            have hlo := HA.out.lo_b
            go_wp2_with fail
            refine bodyPost_ret (v := .agg #[.int .i64 a0, .int .i64 a1, .int .i64 a2, .int .i64 a3, .int .i64 a4, .int .i64 a5, .string ⟨a6.toArray⟩, .int .i64 a7, .int .i64 a8, .slice A nn cc]) (by simp [results, Tryz.results65, go_sem, r0, r1, r2, r3, r4, r5, r6, r7, r8, r9]) rfl ?_
            have hox := HO.out
            simp only [List.mem_cons, List.not_mem_nil, or_false] at hox
            exact ex_close HP.out (by omega) ((gen_mk (ok_op (by omega) (by omega) (by rcases hox with rfl | rfl | rfl <;> rfl)) HA.out.gen).mono (by omega)) STz.out.tape STz.out.but hlt _ _ _ _ _ _ _ _ _ _
          · skip
            replace HA := Lib.hid (HA.out.below hlt (Below.refl wk.heap.size wk).drew)
            obtain ⟨y0, y1, y2, y3⟩ := blk4 HA.out.st.ty; simp only at y0 y1 y2 y3; obtain ⟨r0, r1, r2, r3, r4, r5, r6, r7, r8, r9, f0, f1, f2, f3, f4, f5, f6, f7, f8, f9⟩ := blk10 HA.out.st.res; have hz := heap_lt HA.out.st.res; have hyz := heap_lt HA.out.st.ty
            go_wp2_with fail
            go_region_held3 (fun w' => w'.cell? ⟨w.heap.size, 0, none⟩ = some (.bool true) ∧ w'.cell? ⟨w.heap.size, 1, none⟩ = some (.int .i64 tm) ∧ w'.cell? ⟨w.heap.size, 2, none⟩ = some (.int .i64 th) ∧ w'.cell? ⟨w.heap.size, 3, none⟩ = some (.int .i64 td)) (first | (with_reducible exact ⟨y0, y1, y2, y3⟩) | (with_reducible exact ⟨past_drew y0, past_drew y1, past_drew y2, past_drew y3⟩) | (go_keep; done) | (simp [go_sem, hne, y0, y1, y2, y3]; done))
              (first | (go_at_call 65; refine (IH.out _ _ _ _ _ _ _ HA.out.st.tape (by exact HTy.out) (by omega) (by omega) (by omega) (by omega) (by omega)).mono ?_; rintro e wA ⟨x, cs, hx, hex, rfl, hTA, hbA⟩; replace HA := Lib.hid (HA.out.push hlt hx hex hTA hbA); obtain ⟨_, _, _, _, _, _, _, _, _, _, _, _, rfl⟩ := hex.cells; clear hx hex hTA hbA; obtain ⟨y0, y1, y2, y3⟩ := blk4 HA.out.st.ty; simp only at y0 y1 y2 y3; obtain ⟨r0, r1, r2, r3, r4, r5, r6, r7, r8, r9, f0, f1, f2, f3, f4, f5, f6, f7, f8, f9⟩ := blk10 HA.out.st.res; have hz := heap_lt HA.out.st.res; have hyz := heap_lt HA.out.st.ty) | (go_at_call 92; refine (two_any _ _ _ _ _ _ _ HA.out.lo_le HA.out.both.1 HA.out.both.2).mono ?_; rintro e wB ⟨cs, hex, rfl, hbB⟩; have HP := Lib.hid hex; have HB := Lib.hid (HA.out.below hlt hbB); have STz := Lib.hid HB.out.st; obtain ⟨a0, a1, a2, a3, a4, a5, a6, a7, a8, A, nn, cc, rfl⟩ := hex.cells; clear hex hbB; obtain ⟨y0, y1, y2, y3⟩ := blk4 HB.out.st.ty; simp only at y0 y1 y2 y3; obtain ⟨r0, r1, r2, r3, r4, r5, r6, r7, r8, r9, f0, f1, f2, f3, f4, f5, f6, f7, f8, f9⟩ := blk10 HB.out.st.res; have hz := heap_lt HB.out.st.res; have hyz := heap_lt HB.out.st.ty))
            have hlo := HA.out.lo_b
            go_wp2_with fail
            refine bodyPost_ret (v := .agg #[.int .i64 a0, .int .i64 a1, .int .i64 a2, .int .i64 a3, .int .i64 a4, .int .i64 a5, .string ⟨a6.toArray⟩, .int .i64 a7, .int .i64 a8, .slice A nn cc]) (by simp [results, Tryz.results65, go_sem, r0, r1, r2, r3, r4, r5, r6, r7, r8, r9]) rfl ?_
            exact ex_close HP.out (by omega) ((gen_mk (ok_op (op := 12) (by decide) (by decide) rfl) HA.out.gen).mono (by omega)) STz.out.tape STz.out.but hlt _ _ _ _ _ _ _ _ _ _
          · skip
            replace HA := Lib.hid (HA.out.below hlt (Below.refl wk.heap.size wk).drew)
            obtain ⟨y0, y1, y2, y3⟩ := blk4 HA.out.st.ty; simp only at y0 y1 y2 y3; obtain ⟨r0, r1, r2, r3, r4, r5, r6, r7, r8, r9, f0, f1, f2, f3, f4, f5, f6, f7, f8, f9⟩ := blk10 HA.out.st.res; have hz := heap_lt HA.out.st.res; have hyz := heap_lt HA.out.st.ty
            go_wp2_with fail
            go_region_held3 (fun w' => w'.cell? ⟨w.heap.size, 0, none⟩ = some (.bool true) ∧ w'.cell? ⟨w.heap.size, 1, none⟩ = some (.int .i64 tm) ∧ w'.cell? ⟨w.heap.size, 2, none⟩ = some (.int .i64 th) ∧ w'.cell? ⟨w.heap.size, 3, none⟩ = some (.int .i64 td)) (first | (with_reducible exact ⟨y0, y1, y2, y3⟩) | (with_reducible exact ⟨past_drew y0, past_drew y1, past_drew y2, past_drew y3⟩) | (go_keep; done) | (simp [go_sem, hne, y0, y1, y2, y3]; done))
              (first | (go_at_call 65; refine (IH.out _ _ _ _ _ _ _ HA.out.st.tape (by exact HTy.out) (by omega) (by omega) (by omega) (by omega) (by omega)).mono ?_; rintro e wA ⟨x, cs, hx, hex, rfl, hTA, hbA⟩; replace HA := Lib.hid (HA.out.push hlt hx hex hTA hbA); obtain ⟨_, _, _, _, _, _, _, _, _, _, _, _, rfl⟩ := hex.cells; clear hx hex hTA hbA; obtain ⟨y0, y1, y2, y3⟩ := blk4 HA.out.st.ty; simp only at y0 y1 y2 y3; obtain ⟨r0, r1, r2, r3, r4, r5, r6, r7, r8, r9, f0, f1, f2, f3, f4, f5, f6, f7, f8, f9⟩ := blk10 HA.out.st.res; have hz := heap_lt HA.out.st.res; have hyz := heap_lt HA.out.st.ty) | (go_at_call 92; refine (two_any _ _ _ _ _ _ _ HA.out.lo_le HA.out.both.1 HA.out.both.2).mono ?_; rintro e wB ⟨cs, hex, rfl, hbB⟩; have HP := Lib.hid hex; have HB := Lib.hid (HA.out.below hlt hbB); have STz := Lib.hid HB.out.st; obtain ⟨a0, a1, a2, a3, a4, a5, a6, a7, a8, A, nn, cc, rfl⟩ := hex.cells; clear hex hbB; obtain ⟨y0, y1, y2, y3⟩ := blk4 HB.out.st.ty; simp only at y0 y1 y2 y3; obtain ⟨r0, r1, r2, r3, r4, r5, r6, r7, r8, r9, f0, f1, f2, f3, f4, f5, f6, f7, f8, f9⟩ := blk10 HB.out.st.res; have hz := heap_lt HB.out.st.res; have hyz := heap_lt HB.out.st.ty))
            have hlo := HA.out.lo_b
            go_wp2_with fail
            refine bodyPost_ret (v := .agg #[.int .i64 a0, .int .i64 a1, .int .i64 a2, .int .i64 a3, .int .i64 a4, .int .i64 a5, .string ⟨a6.toArray⟩, .int .i64 a7, .int .i64 a8, .slice A nn cc]) (by simp [results, Tryz.results65, go_sem, r0, r1, r2, r3, r4, r5, r6, r7, r8, r9]) rfl ?_
            exact ex_close HP.out (by omega) ((gen_mk (ok_op (op := 13) (by decide) (by decide) rfl) HA.out.gen).mono (by omega)) STz.out.tape STz.out.but hlt _ _ _ _ _ _ _ _ _ _
          · skip
            obtain ⟨y0, y1, y2, y3⟩ := blk4 HA.out.st.ty; simp only at y0 y1 y2 y3; obtain ⟨r0, r1, r2, r3, r4, r5, r6, r7, r8, r9, f0, f1, f2, f3, f4, f5, f6, f7, f8, f9⟩ := blk10 HA.out.st.res; have hz := heap_lt HA.out.st.res; have hyz := heap_lt HA.out.st.ty
            go_wp2_with fail
            refine (IH.out _ _ _ _ _ _ _ HA.out.st.tape (by exact HTy.out) (by omega) (by omega) (by omega) (by omega) (by omega)).mono ?_
            rintro e wA ⟨x, cs, hx, hex, rfl, hTA, hbA⟩
            replace HA := Lib.hid (HA.out.push hlt hx hex hTA hbA)
            obtain ⟨_, _, _, _, _, _, _, _, _, _, _, _, rfl⟩ := hex.cells
            clear hx hex hTA hbA
            obtain ⟨y0, y1, y2, y3⟩ := blk4 HA.out.st.ty; simp only at y0 y1 y2 y3; obtain ⟨r0, r1, r2, r3, r4, r5, r6, r7, r8, r9, f0, f1, f2, f3, f4, f5, f6, f7, f8, f9⟩ := blk10 HA.out.st.res; have hz := heap_lt HA.out.st.res; have hyz := heap_lt HA.out.st.ty
            go_wp2_with fail
            refine bodyPost_ret (v := .agg #[.int .i64 17, .int .i64 0, .int .i64 0, .int .i64 0, .int .i64 0, .int .i64 0, .string ⟨#[]⟩, .int .i64 0, .int .i64 0, .slice (some ⟨wA.heap.size, 0, none⟩) 1 1]) (by simp [results, Tryz.results65, go_sem, hz, r0, r1, r2, r3, r4, r5, r6, r7, r8, r9]) rfl ?_
            exact HA.out.close hlt (ok_op (op := 17) (by decide) (by decide) rfl) _ _ _ _ _ _ _ _ _ _ rfl rfl (by omega)
          · skip
            replace HA := Lib.hid (HA.out.below hlt (Below.refl wk.heap.size wk).drew)
            obtain ⟨y0, y1, y2, y3⟩ := blk4 HA.out.st.ty; simp only at y0 y1 y2 y3; obtain ⟨r0, r1, r2, r3, r4, r5, r6, r7, r8, r9, f0, f1, f2, f3, f4, f5, f6, f7, f8, f9⟩ := blk10 HA.out.st.res; have hz := heap_lt HA.out.st.res; have hyz := heap_lt HA.out.st.ty
            go_wp2_with fail
            go_region_held3 (fun w' => w'.cell? ⟨w.heap.size, 0, none⟩ = some (.bool true) ∧ w'.cell? ⟨w.heap.size, 1, none⟩ = some (.int .i64 tm) ∧ w'.cell? ⟨w.heap.size, 2, none⟩ = some (.int .i64 th) ∧ w'.cell? ⟨w.heap.size, 3, none⟩ = some (.int .i64 td)) (first | (with_reducible exact ⟨y0, y1, y2, y3⟩) | (with_reducible exact ⟨past_drew y0, past_drew y1, past_drew y2, past_drew y3⟩) | (go_keep; done) | (simp [go_sem, hne, y0, y1, y2, y3]; done))
              (first | (go_at_call 65; refine (IH.out _ _ _ _ _ _ _ HA.out.st.tape (by exact HTy.out) (by omega) (by omega) (by omega) (by omega) (by omega)).mono ?_; rintro e wA ⟨x, cs, hx, hex, rfl, hTA, hbA⟩; replace HA := Lib.hid (HA.out.push hlt hx hex hTA hbA); obtain ⟨_, _, _, _, _, _, _, _, _, _, _, _, rfl⟩ := hex.cells; clear hx hex hTA hbA; obtain ⟨y0, y1, y2, y3⟩ := blk4 HA.out.st.ty; simp only at y0 y1 y2 y3; obtain ⟨r0, r1, r2, r3, r4, r5, r6, r7, r8, r9, f0, f1, f2, f3, f4, f5, f6, f7, f8, f9⟩ := blk10 HA.out.st.res; have hz := heap_lt HA.out.st.res; have hyz := heap_lt HA.out.st.ty) | (go_at_call 92; refine (two_any _ _ _ _ _ _ _ HA.out.lo_le HA.out.both.1 HA.out.both.2).mono ?_; rintro e wB ⟨cs, hex, rfl, hbB⟩; have HP := Lib.hid hex; have HB := Lib.hid (HA.out.below hlt hbB); have STz := Lib.hid HB.out.st; obtain ⟨a0, a1, a2, a3, a4, a5, a6, a7, a8, A, nn, cc, rfl⟩ := hex.cells; clear hex hbB; obtain ⟨y0, y1, y2, y3⟩ := blk4 HB.out.st.ty; simp only at y0 y1 y2 y3; obtain ⟨r0, r1, r2, r3, r4, r5, r6, r7, r8, r9, f0, f1, f2, f3, f4, f5, f6, f7, f8, f9⟩ := blk10 HB.out.st.res; have hz := heap_lt HB.out.st.res; have hyz := heap_lt HB.out.st.ty))
            have hlo := HA.out.lo_b
            go_wp2_with fail
            refine bodyPost_ret (v := .agg #[.int .i64 a0, .int .i64 a1, .int .i64 a2, .int .i64 a3, .int .i64 a4, .int .i64 a5, .string ⟨a6.toArray⟩, .int .i64 a7, .int .i64 a8, .slice A nn cc]) (by simp [results, Tryz.results65, go_sem, r0, r1, r2, r3, r4, r5, r6, r7, r8, r9]) rfl ?_
            exact ex_close HP.out (by omega) ((gen_mk (ok_op (op := 11) (by decide) (by decide) rfl) HA.out.gen).mono (by omega)) STz.out.tape STz.out.but hlt _ _ _ _ _ _ _ _ _ _
-- REST-END
    · clear hc ST0
      obtain ⟨y0, y1, y2, y3⟩ := blk4 ST1.out.ty
      simp only at y0 y1 y2 y3
      go_wp2_with fail
      refine (leaf_any b ns (tb, tm, th, td) rules _ ST1.out.tape HTy.out hr0 hr1).mono ?_
      rintro e w2 ⟨x, cs, hx, hex, rfl, hT2, hb2⟩
      have ST2 := Lib.hid (ST1.out.next hlt hT2 hb2)
      have HE := Lib.hid hex
      have HX := Lib.hid hx
      obtain ⟨a0, a1, a2, a3, a4, a5, a6, a7, a8, A, nn, cc, rfl⟩ := hex.cells
      have hz := heap_lt ST1.out.res
      clear hT2 hb2 hex hx
      obtain ⟨r0, r1, r2, r3, r4, r5, r6, r7, r8, r9, f0, f1, f2, f3, f4, f5, f6, f7, f8, f9⟩ := blk10 ST2.out.res
      go_wp2_with fail
      refine bodyPost_ret (v := .agg #[.int .i64 a0, .int .i64 a1, .int .i64 a2, .int .i64 a3, .int .i64 a4, .int .i64 a5, .string ⟨a6.toArray⟩, .int .i64 a7, .int .i64 a8, .slice A nn cc]) (by simp [results, Tryz.results65, go_sem, r0, r1, r2, r3, r4, r5, r6, r7, r8, r9]) rfl ?_
      exact ex_close HE.out hz (HX.out.mono (by omega)) ST2.out.tape ST2.out.but hlt _ _ _ _ _ _ _ _ _ _
end Go.Proofs.YtpdbkbadjgellaaGreatDoor

/-
  The walk of payrollgen's Expr: numbers.
  payrollgen's Expr: its contract.
  payrollgen's Agreement: what holds from stop to stop.
-/
import Derived.Test.YtpdbkbadjgellaaGreatDoorZ21
import Derived.Test.YtpdbkbadjgellaaGreatDoorZ20
import Derived.Test.YtpdbkbadjgellaaGreatDoorZ16
import Derived.Test.YtpdbkbadjgellaaGreatDoorZ18
namespace Go.Proofs.YtpdbkbadjgellaaGreatDoor
open Go.RowKit

set_option maxHeartbeats 8000000 in
set_option maxRecDepth 100000 in
theorem expr_false (b : Nat) (ns : List Int) (n : Nat) (IH0 : 1 ≤ n → ExprSaid b ns n) (tb : Bool) (hbb : tb = false) (tm th td h rules : Int) (w : World) (hT : TapeOk b ns w) (ht : (tb, tm, th, td) ∈ fiveTypes) (hh : h ≤ (n + 1 : Nat)) (hhm : h ≤ 100) (hh0 : -100 ≤ h) (hr0 : 0 ≤ rules) (hr1 : rules ≤ 10) :
    Calls Tryz.prog 65 #[.pointer (some ⟨b, 0, none⟩), .agg #[.bool tb, .int .i64 tm, .int .i64 th, .int .i64 td], .int .i64 h, .int .i64 rules] w (ExPost b ns (GenEx (max 1 (n + 1))) w) := by
  have HB := Lib.hid hbb
  clear hbb
  have HT := Lib.hid hT
  have hlt := hT.lt
  have HTy := Lib.hid ht
  have IHx := Lib.hid IH0
  clear hT ht IH0
  go_enter Tryz.func65, Tryz.ntmps65
  go_upto_region 1 with fail
  have st0 : LeafSt b ns (tb, tm, th, td) w ((w.alloc (.cells #[.bool tb, .int .i64 tm, .int .i64 th, .int .i64 td] 87)).alloc (.cells #[.int .i64 0, .int .i64 0, .int .i64 0, .int .i64 0, .int .i64 0, .int .i64 0, .string ⟨#[]⟩, .int .i64 0, .int .i64 0, .slice none 0 0] 91)) :=
    ⟨(Below.heap_alloc _ _ _ (by simp)).trans (heap_alloc_new w _), alloc_at (by simp), (HT.out.alloc _).alloc _, ((But.refl _ _).alloc _).alloc _⟩
  generalize (w.alloc (.cells #[.bool tb, .int .i64 tm, .int .i64 th, .int .i64 td] 87)).alloc (.cells #[.int .i64 0, .int .i64 0, .int .i64 0, .int .i64 0, .int .i64 0, .int .i64 0, .string ⟨#[]⟩, .int .i64 0, .int .i64 0, .slice none 0 0] 91) = w0 at *
  have ST0 := Lib.hid st0
  clear st0 HT
  go_cut [17] (fun s wx => ∃ c : Bool, s = .bool c ∧ Hid (c = false → 1 < h) ∧ Hid (LeafSt b ns (tb, tm, th, td) w wx))
  case first =>
    by_cases h1 : h ≤ 1
    · go_wp2_with fail
      go_meet
      case rel => exact ⟨true, rfl, fun h => (by cases h), ST0⟩
    · have hd : decide (h ≤ 1) = false := decide_eq_false h1
      go_wp2_with fail
      refine (next_any b ns 5 _ ST0.out.tape (by omega) (by omega)).mono ?_
      rintro e w2 ⟨k, hk, rfl, hT2, hb2⟩
      have ST2 := Lib.hid (ST0.out.next hlt hT2 hb2)
      clear hT2
      go_wp2_with fail
      go_meet
      case rel => exact ⟨_, rfl, fun _ => by omega, ST2⟩
  case rest =>
    obtain ⟨c, rfl, hc, ST1⟩ := hcut
    obtain ⟨w1, rfl⟩ : ∃ w1, w1 = wc := ⟨_, rfl⟩
    cases c
    · have hh1 := hc.out rfl
      have IH := Lib.hid (IHx.out (by omega))
      clear hc ST0 IHx
      go_wp2_with fail
      refine (number_ty _).mono ?_
      rintro e w2 ⟨rfl, hb2⟩
      have ST2 := Lib.hid (ST1.out.below hlt hb2)
      clear hb2
      unfold tyV tNumber
      go_wp2_with fail
      refine (money_ty _).mono ?_
      rintro e w3 ⟨rfl, hb3⟩
      have ST3 := Lib.hid (ST2.out.below hlt hb3)
      clear hb3
      unfold tyV tMoney
      go_wp2_with fail
      refine (hours_ty _).mono ?_
      rintro e w4 ⟨rfl, hb4⟩
      have ST4 := Lib.hid (ST3.out.below hlt hb4)
      clear hb4
      unfold tyV tHours
      go_wp2_with fail
      refine (rate_ty _).mono ?_
      rintro e w5 ⟨rfl, hb5⟩
      have ST5 := Lib.hid (ST4.out.below hlt hb5)
      clear hb5 ST1 ST2 ST3 ST4
      unfold tyV tRate
      go_wp2_with fail
      change Calls _ _ _ (w5.alloc (.cells (fourTypes.flatMap typeCells).toArray 87)) _
      have HC := Lib.hid (four_cells w5)
      have ST6 := Lib.hid (ST5.out.below hlt ((Below.refl _ _).alloc (Nat.le_refl _) (.cells (fourTypes.flatMap typeCells).toArray 87)))
      have hz6 : w5.heap.size < (w5.alloc (.cells (fourTypes.flatMap typeCells).toArray 87)).heap.size := by simp
      have hb5 := ST5.out.tape.lt
      generalize w5.alloc (.cells (fourTypes.flatMap typeCells).toArray 87) = w6 at *
      refine (next_any b ns 4 w6 ST6.out.tape (by omega) (by omega)).mono ?_
      rintro e w7 ⟨k, hk, rfl, hT7, hb7⟩
      obtain ⟨⟨sb, sm, sh, sd⟩, hs, d0, d1, d2, d3⟩ := HC.out k (by omega)
      have q0 : w7.cell? ⟨w5.heap.size, k * 4, none⟩ = some (.bool sb) := by rw [hb7.cell hz6 (by simp; omega)]; exact d0
      have q1 : w7.cell? ⟨w5.heap.size, k * 4 + 1, none⟩ = some (.int .i64 sm) := by rw [hb7.cell hz6 (by simp; omega)]; exact d1
      have q2 : w7.cell? ⟨w5.heap.size, k * 4 + 2, none⟩ = some (.int .i64 sh) := by rw [hb7.cell hz6 (by simp; omega)]; exact d2
      have q3 : w7.cell? ⟨w5.heap.size, k * 4 + 3, none⟩ = some (.int .i64 sd) := by rw [hb7.cell hz6 (by simp; omega)]; exact d3
      have ST7 := Lib.hid (ST6.out.next hlt hT7 hb7)
      have hk4 : k < 4 := by omega
      have hne : w7.heap.size ≠ w.heap.size + 1 := by have := heap_lt ST7.out.res; omega
      have HSy := Lib.hid hs
      clear hT7 hb7 HC ST5 ST6 hz6 hb5 d0 d1 d2 d3 hs hk
      go_upto_region 5 with fail
      have acc0 : Acc b ns (tb, tm, th, td) (sb, sm, sh, sd) w7.heap.size (max 1 n) (w7.heap.size + 1) w [] [] (w7.alloc (.cells #[.bool sb, .int .i64 sm, .int .i64 sh, .int .i64 sd] 87)) :=
        ⟨by unfold exsAt; rfl, trivial, fun r hr => (by cases hr), ST7.out.below hlt ((Below.refl _ _).alloc (Nat.le_refl _) _), heap_alloc_new _ _, by simp, by have := heap_lt ST7.out.res; omega, ⟨by omega, by have := ST7.out.tape.lt; omega⟩⟩
      generalize w7.alloc (.cells #[.bool sb, .int .i64 sm, .int .i64 sh, .int .i64 sd] 87) = w8 at *
      have HA0 := Lib.hid acc0
      clear acc0 q0 q1 q2 q3
      go_wp2_with fail
      refine (next_any b ns 6 w8 HA0.out.st.tape (by omega) (by omega)).mono ?_
      rintro e w9 ⟨k6, hk6, rfl, hT9, hb9⟩
      have HA := Lib.hid (HA0.out.step hlt hT9 hb9)
      clear hT9 hb9 HA0
      by_cases h5 : k6 = 5
      · subst h5
        replace HA := Lib.hid (HA.out.below hlt (Below.refl w9.heap.size w9).drew)
        obtain ⟨y0, y1, y2, y3⟩ := blk4 HA.out.st.ty
        simp only at y0 y1 y2 y3
        go_wp2_with fail
        go_region_held3 (fun w' => w'.cell? ⟨w.heap.size, 0, none⟩ = some (.bool tb) ∧ w'.cell? ⟨w.heap.size, 1, none⟩ = some (.int .i64 tm) ∧ w'.cell? ⟨w.heap.size, 2, none⟩ = some (.int .i64 th) ∧ w'.cell? ⟨w.heap.size, 3, none⟩ = some (.int .i64 td)) (go_keep)
          (first | (go_at_call 60; refine (truth_ty _).mono ?_; rintro e wA ⟨rfl, hbA⟩; replace HA := Lib.hid (HA.out.below hlt hbA); clear hbA; obtain ⟨y0, y1, y2, y3⟩ := blk4 HA.out.st.ty; simp only at y0 y1 y2 y3; obtain ⟨r0, r1, r2, r3, r4, r5, r6, r7, r8, r9, f0, f1, f2, f3, f4, f5, f6, f7, f8, f9⟩ := blk10 HA.out.st.res; have hz := heap_lt HA.out.st.res; unfold tyV tTruth)
                 | (go_at_call 65; refine (IH.out _ _ _ _ _ _ _ HA.out.st.tape (by first | exact HTy.out | exact mem_truth) (by omega) (by omega) (by omega) (by omega) (by omega)).mono ?_; rintro e wA ⟨x, cs, hx, hex, rfl, hTA, hbA⟩; replace HA := Lib.hid (HA.out.push hlt hx hex hTA hbA); obtain ⟨_, _, _, _, _, _, _, _, _, _, _, _, rfl⟩ := hex.cells; clear hx hex hTA hbA; obtain ⟨y0, y1, y2, y3⟩ := blk4 HA.out.st.ty; simp only at y0 y1 y2 y3; obtain ⟨r0, r1, r2, r3, r4, r5, r6, r7, r8, r9, f0, f1, f2, f3, f4, f5, f6, f7, f8, f9⟩ := blk10 HA.out.st.res; have hz := heap_lt HA.out.st.res))
        go_wp2_with fail
        refine bodyPost_ret (v := .agg #[.int .i64 18, .int .i64 0, .int .i64 0, .int .i64 0, .int .i64 0, .int .i64 0, .string ⟨#[]⟩, .int .i64 0, .int .i64 0, .slice (some ⟨wA.heap.size, 0, none⟩) 3 3]) (by simp [results, Tryz.results65, go_sem, hz, r0, r1, r2, r3, r4, r5, r6, r7, r8, r9]) rfl ?_
        exact HA.out.close hlt (ok_op (op := 18) (by decide) (by decide) rfl) _ _ _ _ _ _ _ _ _ _ rfl rfl (by omega)
-- REST-BEGIN
      · have g5 : ((k6 : Int) == 5) = false := by simp; omega
        obtain ⟨y0, y1, y2, y3⟩ := blk4 HA.out.st.ty
        simp only at y0 y1 y2 y3
        cases tb
        · go_wp2_with fail
          refine (next_any b ns 8 _ HA.out.st.tape (by omega) (by omega)).mono ?_
          rintro e wk ⟨k8, hk8, rfl, hT, hb⟩
          replace HA := Lib.hid (HA.out.step hlt hT hb)
          clear hT hb
          clear y0 y1 y2 y3
          have hk8c : k8 = 0 ∨ k8 = 1 ∨ k8 = 2 ∨ k8 = 3 ∨ k8 = 4 ∨ k8 = 5 ∨ 6 ≤ k8 := by omega
          rcases hk8c with rfl | rfl | rfl | rfl | rfl | rfl | hk8
          · skip
            go_upto_region 22 with fail
            refine region22 hlt IH.out HTy.out (by omega) (by omega) (by omega) hr0 hr1 rfl rfl rfl rfl rfl rfl HA.out ?_
            intro aF u x cs e8 ed hC hx hex
            have HC := Lib.hid hC
            have HX := Lib.hid hx
            have HE := Lib.hid hex
            clear hC hx hex
            go_wp2_with fail
            exact two_end (by omega) hlt e8 ed HC.out HX.out HE.out
          · skip
            go_upto_region 22 with fail
            refine region22 hlt IH.out HTy.out (by omega) (by omega) (by omega) hr0 hr1 rfl rfl rfl rfl rfl rfl HA.out ?_
            intro aF u x cs e8 ed hC hx hex
            have HC := Lib.hid hC
            have HX := Lib.hid hx
            have HE := Lib.hid hex
            clear hC hx hex
            go_wp2_with fail
            exact two_end (by omega) hlt e8 ed HC.out HX.out HE.out
          · skip
            go_upto_region 24 with fail
            refine region24 hlt IH.out HTy.out (by omega) (by omega) (by omega) hr0 hr1 rfl rfl rfl rfl rfl rfl HA.out ?_
            intro aF u x cs e8 ed hC hx hex
            have HC := Lib.hid hC
            have HX := Lib.hid hx
            have HE := Lib.hid hex
            clear hC hx hex
            go_wp2_with fail
            exact two_end (by omega) hlt e8 ed HC.out HX.out HE.out
          · skip
            go_upto_region 26 with fail
            refine region26 hlt IH.out HTy.out (by omega) (by omega) (by omega) hr0 hr1 rfl rfl rfl rfl rfl rfl HA.out ?_
            intro aF u p q m K e8 ed hC hK hpq hm0 hm1
            have HC := Lib.hid hC
            have HK := Lib.hid hK
            have HPQ := Lib.hid hpq
            clear hC hK hpq
            go_wp2_with fail
            exact round_end (by omega) hlt HTy.out e8 ed HC.out HK.out HPQ.out hm0 hm1
          · skip
            obtain ⟨y0, y1, y2, y3⟩ := blk4 HA.out.st.ty; simp only at y0 y1 y2 y3; obtain ⟨r0, r1, r2, r3, r4, r5, r6, r7, r8, r9, f0, f1, f2, f3, f4, f5, f6, f7, f8, f9⟩ := blk10 HA.out.st.res; have hz := heap_lt HA.out.st.res; have hyz := heap_lt HA.out.st.ty
            go_wp2_with fail
            refine (IH.out _ _ _ _ _ _ _ HA.out.st.tape (by exact HTy.out) (by omega) (by omega) (by omega) (by omega) (by omega)).mono ?_
            rintro e wA ⟨x, cs, hx, hex, rfl, hTA, hbA⟩
            replace HA := Lib.hid (HA.out.push hlt hx hex hTA hbA)
            obtain ⟨_, _, _, _, _, _, _, _, _, _, _, _, rfl⟩ := hex.cells
            clear hx hex hTA hbA
            obtain ⟨y0, y1, y2, y3⟩ := blk4 HA.out.st.ty; simp only at y0 y1 y2 y3; obtain ⟨r0, r1, r2, r3, r4, r5, r6, r7, r8, r9, f0, f1, f2, f3, f4, f5, f6, f7, f8, f9⟩ := blk10 HA.out.st.res; have hz := heap_lt HA.out.st.res; have hyz := heap_lt HA.out.st.ty
            go_wp2_with fail
            refine bodyPost_ret (v := .agg #[.int .i64 16, .int .i64 0, .int .i64 0, .int .i64 0, .int .i64 0, .int .i64 0, .string ⟨#[]⟩, .int .i64 0, .int .i64 0, .slice (some ⟨wA.heap.size, 0, none⟩) 1 1]) (by simp [results, Tryz.results65, go_sem, hz, r0, r1, r2, r3, r4, r5, r6, r7, r8, r9]) rfl ?_
            exact HA.out.close hlt (ok_op (op := 16) (by decide) (by decide) rfl) _ _ _ _ _ _ _ _ _ _ rfl rfl (by omega)
          · skip
            go_upto_region 30 with fail
            refine region30 hlt IH.out HTy.out (by omega) (by omega) (by omega) hr0 hr1 rfl rfl rfl rfl rfl rfl HA.out ?_
            intro aF u x cs e8 ed hC hx hex
            have HC := Lib.hid hC
            have HX := Lib.hid hx
            have HE := Lib.hid hex
            clear hC hx hex
            go_wp2_with fail
            exact two_end (by omega) hlt e8 ed HC.out HX.out HE.out
          · skip
            have gk0 : ((k8 : Int) == 0) = false := by simp; omega
            have gk1 : ((k8 : Int) == 1) = false := by simp; omega
            have gk2 : ((k8 : Int) == 2) = false := by simp; omega
            have gk3 : ((k8 : Int) == 3) = false := by simp; omega
            have gk4 : ((k8 : Int) == 4) = false := by simp; omega
            have gk5 : ((k8 : Int) == 5) = false := by simp; omega
            have hty := HTy.out
            simp only [fiveTypes, tTruth, tMoney, tHours, tRate, tNumber, List.mem_cons, List.not_mem_nil, or_false, Prod.mk.injEq] at hty
            rcases hty with ⟨h9, _⟩ | ⟨-, rfl, rfl, rfl⟩ | ⟨-, rfl, rfl, rfl⟩ | ⟨-, rfl, rfl, rfl⟩ | ⟨-, rfl, rfl, rfl⟩
            · cases h9
            · skip
              obtain ⟨y0, y1, y2, y3⟩ := blk4 HA.out.st.ty
              simp only at y0 y1 y2 y3
              go_wp2_with fail
              refine (money_ty _).mono ?_
              rintro e wA ⟨rfl, hbA⟩
              replace HA := Lib.hid (HA.out.below hlt hbA)
              clear hbA
              unfold tyV tMoney
              go_wp2_with fail
              refine (hours_ty _).mono ?_
              rintro e wA ⟨rfl, hbA⟩
              replace HA := Lib.hid (HA.out.below hlt hbA)
              clear hbA
              unfold tyV tHours
              go_wp2_with fail
              refine (IH.out _ _ _ _ _ _ _ HA.out.st.tape (by exact mem_hours) (by omega) (by omega) (by omega) (by omega) (by omega)).mono ?_
              rintro e wA ⟨x, cs, hx, hex, rfl, hTA, hbA⟩
              replace HA := Lib.hid (HA.out.push hlt hx hex hTA hbA)
              obtain ⟨_, _, _, _, _, _, _, _, _, _, _, _, rfl⟩ := hex.cells
              clear hx hex hTA hbA
              go_wp2_with fail
              refine (rate_ty _).mono ?_
              rintro e wA ⟨rfl, hbA⟩
              replace HA := Lib.hid (HA.out.below hlt hbA)
              clear hbA
              unfold tyV tRate
              go_wp2_with fail
              refine (IH.out _ _ _ _ _ _ _ HA.out.st.tape (by exact mem_rate) (by omega) (by omega) (by omega) (by omega) (by omega)).mono ?_
              rintro e wA ⟨x, cs, hx, hex, rfl, hTA, hbA⟩
              replace HA := Lib.hid (HA.out.push hlt hx hex hTA hbA)
              obtain ⟨_, _, _, _, _, _, _, _, _, _, _, _, rfl⟩ := hex.cells
              clear hx hex hTA hbA
              go_wp2_with fail
              refine (two_any _ _ _ _ _ _ _ HA.out.lo_le HA.out.both.1 HA.out.both.2).mono ?_
              rintro e wB ⟨cs, hex, rfl, hbB⟩
              have HP := Lib.hid hex
              have HB := Lib.hid (HA.out.below hlt hbB)
              obtain ⟨a0, a1, a2, a3, a4, a5, a6, a7, a8, A, nn, cc, rfl⟩ := hex.cells
              clear hex hbB
              obtain ⟨r0, r1, r2, r3, r4, r5, r6, r7, r8, r9, f0, f1, f2, f3, f4, f5, f6, f7, f8, f9⟩ := blk10 HB.out.st.res
              have hlo := HA.out.lo_b
              go_wp2_with fail
              refine bodyPost_ret (v := .agg #[.int .i64 a0, .int .i64 a1, .int .i64 a2, .int .i64 a3, .int .i64 a4, .int .i64 a5, .string ⟨a6.toArray⟩, .int .i64 a7, .int .i64 a8, .slice A nn cc]) (by simp [results, Tryz.results65, go_sem, r0, r1, r2, r3, r4, r5, r6, r7, r8, r9]) rfl ?_
              exact ex_close HP.out (by omega) ((gen_mk (ok_op (op := 7) (by decide) (by decide) rfl) HA.out.gen).mono (by omega)) HB.out.st.tape HB.out.st.but hlt _ _ _ _ _ _ _ _ _ _
            · skip
              obtain ⟨y0, y1, y2, y3⟩ := blk4 HA.out.st.ty
              simp only at y0 y1 y2 y3
              go_wp2_with fail
              refine (money_ty _).mono ?_
              rintro e wA ⟨rfl, hbA⟩
              replace HA := Lib.hid (HA.out.below hlt hbA)
              clear hbA
              unfold tyV tMoney
              go_wp2_with fail
              refine (rate_ty _).mono ?_
              rintro e wA ⟨rfl, hbA⟩
              replace HA := Lib.hid (HA.out.below hlt hbA)
              clear hbA
              unfold tyV tRate
              go_wp2_with fail
              refine (number_ty _).mono ?_
              rintro e wA ⟨rfl, hbA⟩
              replace HA := Lib.hid (HA.out.below hlt hbA)
              clear hbA
              unfold tyV tNumber
              go_wp2_with fail
              refine (money_ty _).mono ?_
              rintro e wA ⟨rfl, hbA⟩
              replace HA := Lib.hid (HA.out.below hlt hbA)
              clear hbA
              unfold tyV tMoney
              go_wp2_with fail
              refine (IH.out _ _ _ _ _ _ _ HA.out.st.tape (by exact mem_money) (by omega) (by omega) (by omega) (by omega) (by omega)).mono ?_
              rintro e wA ⟨x, cs, hx, hex, rfl, hTA, hbA⟩
              replace HA := Lib.hid (HA.out.push hlt hx hex hTA hbA)
              obtain ⟨_, _, _, _, _, _, _, _, _, _, _, _, rfl⟩ := hex.cells
              clear hx hex hTA hbA
              go_wp2_with fail
              refine (rate_ty _).mono ?_
              rintro e wA ⟨rfl, hbA⟩
              replace HA := Lib.hid (HA.out.below hlt hbA)
              clear hbA
              unfold tyV tRate
              go_wp2_with fail
              refine (IH.out _ _ _ _ _ _ _ HA.out.st.tape (by exact mem_rate) (by omega) (by omega) (by omega) (by omega) (by omega)).mono ?_
              rintro e wA ⟨x, cs, hx, hex, rfl, hTA, hbA⟩
              replace HA := Lib.hid (HA.out.push hlt hx hex hTA hbA)
              obtain ⟨_, _, _, _, _, _, _, _, _, _, _, _, rfl⟩ := hex.cells
              clear hx hex hTA hbA
              go_wp2_with fail
              refine (two_any _ _ _ _ _ _ _ HA.out.lo_le HA.out.both.1 HA.out.both.2).mono ?_
              rintro e wB ⟨cs, hex, rfl, hbB⟩
              have HP := Lib.hid hex
              have HB := Lib.hid (HA.out.below hlt hbB)
              obtain ⟨a0, a1, a2, a3, a4, a5, a6, a7, a8, A, nn, cc, rfl⟩ := hex.cells
              clear hex hbB
              obtain ⟨r0, r1, r2, r3, r4, r5, r6, r7, r8, r9, f0, f1, f2, f3, f4, f5, f6, f7, f8, f9⟩ := blk10 HB.out.st.res
              have hlo := HA.out.lo_b
              go_wp2_with fail
              refine bodyPost_ret (v := .agg #[.int .i64 a0, .int .i64 a1, .int .i64 a2, .int .i64 a3, .int .i64 a4, .int .i64 a5, .string ⟨a6.toArray⟩, .int .i64 a7, .int .i64 a8, .slice A nn cc]) (by simp [results, Tryz.results65, go_sem, r0, r1, r2, r3, r4, r5, r6, r7, r8, r9]) rfl ?_
              exact ex_close HP.out (by omega) ((gen_mk (ok_op (op := 8) (by decide) (by decide) rfl) HA.out.gen).mono (by omega)) HB.out.st.tape HB.out.st.but hlt _ _ _ _ _ _ _ _ _ _
            · skip
              obtain ⟨y0, y1, y2, y3⟩ := blk4 HA.out.st.ty
              simp only at y0 y1 y2 y3
              go_wp2_with fail
              refine (money_ty _).mono ?_
              rintro e wA ⟨rfl, hbA⟩
              replace HA := Lib.hid (HA.out.below hlt hbA)
              clear hbA
              unfold tyV tMoney
              go_wp2_with fail
              refine (rate_ty _).mono ?_
              rintro e wA ⟨rfl, hbA⟩
              replace HA := Lib.hid (HA.out.below hlt hbA)
              clear hbA
              unfold tyV tRate
              go_wp2_with fail
              refine (next_any b ns 2 _ HA.out.st.tape (by omega) (by omega)).mono ?_
              rintro e wl ⟨k2, hk2, rfl, hT, hb⟩
              replace HA := Lib.hid (HA.out.step hlt hT hb)
              clear hT hb
              by_cases hk20 : k2 = 0
              · subst hk20
                obtain ⟨y0, y1, y2, y3⟩ := blk4 HA.out.st.ty; simp only at y0 y1 y2 y3; obtain ⟨r0, r1, r2, r3, r4, r5, r6, r7, r8, r9, f0, f1, f2, f3, f4, f5, f6, f7, f8, f9⟩ := blk10 HA.out.st.res; have hz := heap_lt HA.out.st.res; have hyz := heap_lt HA.out.st.ty
                go_wp2_with fail
                refine (number_ty _).mono ?_
                rintro e wA ⟨rfl, hbA⟩
                replace HA := Lib.hid (HA.out.below hlt hbA)
                clear hbA
                unfold tyV tNumber
                go_wp2_with fail
                refine (IH.out _ _ _ _ _ _ _ HA.out.st.tape (by exact mem_number) (by omega) (by omega) (by omega) (by omega) (by omega)).mono ?_
                rintro e wA ⟨x, cs, hx, hex, rfl, hTA, hbA⟩
                replace HA := Lib.hid (HA.out.push hlt hx hex hTA hbA)
                obtain ⟨_, _, _, _, _, _, _, _, _, _, _, _, rfl⟩ := hex.cells
                clear hx hex hTA hbA
                obtain ⟨y0, y1, y2, y3⟩ := blk4 HA.out.st.ty; simp only at y0 y1 y2 y3; obtain ⟨r0, r1, r2, r3, r4, r5, r6, r7, r8, r9, f0, f1, f2, f3, f4, f5, f6, f7, f8, f9⟩ := blk10 HA.out.st.res; have hz := heap_lt HA.out.st.res; have hyz := heap_lt HA.out.st.ty
                go_wp2_with fail
                refine bodyPost_ret (v := .agg #[.int .i64 4, .int .i64 0, .int .i64 0, .int .i64 0, .int .i64 0, .int .i64 0, .string ⟨#[119]⟩, .int .i64 0, .int .i64 0, .slice (some ⟨wA.heap.size, 0, none⟩) 1 1]) (by simp [results, Tryz.results65, go_sem, hz, r0, r1, r2, r3, r4, r5, r6, r7, r8, r9]) rfl ?_
                exact HA.out.close hlt (ok_named (op := 4) (name := [119]) (by decide) (by decide) (by decide) rfl) _ _ _ _ _ _ _ _ _ _ rfl rfl (by omega)
              · have gk : ((k2 : Int) == 0) = false := by simp; omega
                go_wp2_with fail
                refine (money_ty _).mono ?_
                rintro e wA ⟨rfl, hbA⟩
                replace HA := Lib.hid (HA.out.below hlt hbA)
                clear hbA
                unfold tyV tMoney
                go_wp2_with fail
                refine (IH.out _ _ _ _ _ _ _ HA.out.st.tape (by exact mem_money) (by omega) (by omega) (by omega) (by omega) (by omega)).mono ?_
                rintro e wA ⟨x, cs, hx, hex, rfl, hTA, hbA⟩
                replace HA := Lib.hid (HA.out.push hlt hx hex hTA hbA)
                obtain ⟨_, _, _, _, _, _, _, _, _, _, _, _, rfl⟩ := hex.cells
                clear hx hex hTA hbA
                go_wp2_with fail
                refine (hours_ty _).mono ?_
                rintro e wA ⟨rfl, hbA⟩
                replace HA := Lib.hid (HA.out.below hlt hbA)
                clear hbA
                unfold tyV tHours
                go_wp2_with fail
                refine (IH.out _ _ _ _ _ _ _ HA.out.st.tape (by exact mem_hours) (by omega) (by omega) (by omega) (by omega) (by omega)).mono ?_
                rintro e wA ⟨x, cs, hx, hex, rfl, hTA, hbA⟩
                replace HA := Lib.hid (HA.out.push hlt hx hex hTA hbA)
                obtain ⟨_, _, _, _, _, _, _, _, _, _, _, _, rfl⟩ := hex.cells
                clear hx hex hTA hbA
                go_wp2_with fail
                refine (two_any _ _ _ _ _ _ _ HA.out.lo_le HA.out.both.1 HA.out.both.2).mono ?_
                rintro e wB ⟨cs, hex, rfl, hbB⟩
                have HP := Lib.hid hex
                have HB := Lib.hid (HA.out.below hlt hbB)
                obtain ⟨a0, a1, a2, a3, a4, a5, a6, a7, a8, A, nn, cc, rfl⟩ := hex.cells
                clear hex hbB
                obtain ⟨r0, r1, r2, r3, r4, r5, r6, r7, r8, r9, f0, f1, f2, f3, f4, f5, f6, f7, f8, f9⟩ := blk10 HB.out.st.res
                have hlo := HA.out.lo_b
                go_wp2_with fail
                refine bodyPost_ret (v := .agg #[.int .i64 a0, .int .i64 a1, .int .i64 a2, .int .i64 a3, .int .i64 a4, .int .i64 a5, .string ⟨a6.toArray⟩, .int .i64 a7, .int .i64 a8, .slice A nn cc]) (by simp [results, Tryz.results65, go_sem, r0, r1, r2, r3, r4, r5, r6, r7, r8, r9]) rfl ?_
                exact ex_close HP.out (by omega) ((gen_mk (ok_op (op := 8) (by decide) (by decide) rfl) HA.out.gen).mono (by omega)) HB.out.st.tape HB.out.st.but hlt _ _ _ _ _ _ _ _ _ _
            · skip
              obtain ⟨y0, y1, y2, y3⟩ := blk4 HA.out.st.ty
              simp only at y0 y1 y2 y3
              go_wp2_with fail
              refine (money_ty _).mono ?_
              rintro e wA ⟨rfl, hbA⟩
              replace HA := Lib.hid (HA.out.below hlt hbA)
              clear hbA
              unfold tyV tMoney
              go_wp2_with fail
              refine (rate_ty _).mono ?_
              rintro e wA ⟨rfl, hbA⟩
              replace HA := Lib.hid (HA.out.below hlt hbA)
              clear hbA
              unfold tyV tRate
              go_wp2_with fail
              refine (number_ty _).mono ?_
              rintro e wA ⟨rfl, hbA⟩
              replace HA := Lib.hid (HA.out.below hlt hbA)
              clear hbA
              unfold tyV tNumber
              go_wp2_with fail
              refine (next_any b ns 2 _ HA.out.st.tape (by omega) (by omega)).mono ?_
              rintro e wl ⟨k2, hk2, rfl, hT, hb⟩
              replace HA := Lib.hid (HA.out.step hlt hT hb)
              clear hT hb
              by_cases hk20 : k2 = 0
              · subst hk20
                obtain ⟨y0, y1, y2, y3⟩ := blk4 HA.out.st.ty; simp only at y0 y1 y2 y3; obtain ⟨r0, r1, r2, r3, r4, r5, r6, r7, r8, r9, f0, f1, f2, f3, f4, f5, f6, f7, f8, f9⟩ := blk10 HA.out.st.res; have hz := heap_lt HA.out.st.res; have hyz := heap_lt HA.out.st.ty
                go_wp2_with fail
                refine (number_ty _).mono ?_
                rintro e wA ⟨rfl, hbA⟩
                replace HA := Lib.hid (HA.out.below hlt hbA)
                clear hbA
                unfold tyV tNumber
                go_wp2_with fail
                refine (IH.out _ _ _ _ _ _ _ HA.out.st.tape (by exact mem_number) (by omega) (by omega) (by omega) (by omega) (by omega)).mono ?_
                rintro e wA ⟨x, cs, hx, hex, rfl, hTA, hbA⟩
                replace HA := Lib.hid (HA.out.push hlt hx hex hTA hbA)
                obtain ⟨_, _, _, _, _, _, _, _, _, _, _, _, rfl⟩ := hex.cells
                clear hx hex hTA hbA
                obtain ⟨y0, y1, y2, y3⟩ := blk4 HA.out.st.ty; simp only at y0 y1 y2 y3; obtain ⟨r0, r1, r2, r3, r4, r5, r6, r7, r8, r9, f0, f1, f2, f3, f4, f5, f6, f7, f8, f9⟩ := blk10 HA.out.st.res; have hz := heap_lt HA.out.st.res; have hyz := heap_lt HA.out.st.ty
                go_wp2_with fail
                refine bodyPost_ret (v := .agg #[.int .i64 4, .int .i64 0, .int .i64 0, .int .i64 0, .int .i64 0, .int .i64 0, .string ⟨#[115]⟩, .int .i64 0, .int .i64 0, .slice (some ⟨wA.heap.size, 0, none⟩) 1 1]) (by simp [results, Tryz.results65, go_sem, hz, r0, r1, r2, r3, r4, r5, r6, r7, r8, r9]) rfl ?_
                exact HA.out.close hlt (ok_named (op := 4) (name := [115]) (by decide) (by decide) (by decide) rfl) _ _ _ _ _ _ _ _ _ _ rfl rfl (by omega)
              · have gk : ((k2 : Int) == 0) = false := by simp; omega
                go_upto_region 41 with fail
                refine region41 hlt IH.out HSy.out (by omega) (by omega) (by omega) hr0 hr1 rfl rfl rfl rfl rfl rfl HA.out ?_
                intro aF u x cs e8 ed hC hx hex
                have HC := Lib.hid hC
                have HX := Lib.hid hx
                have HE := Lib.hid hex
                clear hC hx hex
                go_wp2_with fail
                exact two_end (by omega) hlt e8 ed HC.out HX.out HE.out
        · exact absurd HB.out (by simp)
-- REST-END
    · clear hc ST0
      obtain ⟨y0, y1, y2, y3⟩ := blk4 ST1.out.ty
      simp only at y0 y1 y2 y3
      go_wp2_with fail
      refine (leaf_any b ns (tb, tm, th, td) rules _ ST1.out.tape HTy.out hr0 hr1).mono ?_
      rintro e w2 ⟨x, cs, hx, hex, rfl, hT2, hb2⟩
      have ST2 := Lib.hid (ST1.out.next hlt hT2 hb2)
      have HE := Lib.hid hex
      have HX := Lib.hid hx
      obtain ⟨a0, a1, a2, a3, a4, a5, a6, a7, a8, A, nn, cc, rfl⟩ := hex.cells
      have hz := heap_lt ST1.out.res
      clear hT2 hb2 hex hx
      obtain ⟨r0, r1, r2, r3, r4, r5, r6, r7, r8, r9, f0, f1, f2, f3, f4, f5, f6, f7, f8, f9⟩ := blk10 ST2.out.res
      go_wp2_with fail
      refine bodyPost_ret (v := .agg #[.int .i64 a0, .int .i64 a1, .int .i64 a2, .int .i64 a3, .int .i64 a4, .int .i64 a5, .string ⟨a6.toArray⟩, .int .i64 a7, .int .i64 a8, .slice A nn cc]) (by simp [results, Tryz.results65, go_sem, r0, r1, r2, r3, r4, r5, r6, r7, r8, r9]) rfl ?_
      exact ex_close HE.out hz (HX.out.mono (by omega)) ST2.out.tape ST2.out.but hlt _ _ _ _ _ _ _ _ _ _
end Go.Proofs.YtpdbkbadjgellaaGreatDoor

namespace Go.Proofs.YtpdbkbadjgellaaGreatDoor

theorem expr_step (b : Nat) (ns : List Int) (n : Nat) (IH : 1 ≤ n → ExprSaid b ns n) : ExprSaid b ns (n + 1) := by
  intro tb tm th td h rules w hT ht hh hhm hh0 hr0 hr1
  cases tb with
  | true => exact expr_true b ns n IH true rfl tm th td h rules w hT ht hh hhm hh0 hr0 hr1
  | false => exact expr_false b ns n IH false rfl tm th td h rules w hT ht hh hhm hh0 hr0 hr1
/-- Expr, whatever its height. -/
theorem expr_any (b : Nat) (ns : List Int) : ∀ n : Nat, ExprSaid b ns (n + 1)
  | 0 => expr_step b ns 0 (fun h => absurd h (by omega))
  | n + 1 => expr_step b ns (n + 1) (fun _ => expr_any b ns n)
end Go.Proofs.YtpdbkbadjgellaaGreatDoor

namespace Go.Proofs.YtpdbkbadjgellaaGreatDoor
open Go.RowKit

/-- A made definition. -/
def okDef (H : Nat) (d : Df) : Prop :=
  1 ≤ d.kind ∧ d.kind ≤ 5 ∧ d.name.length ≤ 5 ∧ -1 ≤ d.tm ∧ d.tm ≤ 1 ∧ -1 ≤ d.th ∧ d.th ≤ 1 ∧ -1 ≤ d.td ∧ d.td ≤ 1 ∧ 0 ≤ d.frm ∧ d.frm ≤ 30000 ∧ (∀ e ∈ d.ents, okEnt e) ∧ d.ents.length ≤ 3 ∧
    (d.body = exNone ∨ GenEx H d.body) ∧ ((d.kind = 3 ∨ d.kind = 4) → GenEx H d.body) ∧ 0 ≤ d.mode ∧ d.mode ≤ 6 ∧ 0 ≤ d.num ∧ d.num ≤ 100 ∧ 0 ≤ d.den ∧ d.den ≤ 100
def metal : Value := .string ⟨#[109, 101, 116, 97, 108]⟩
def memA (w : World) (r : List Value) (v : Value) (X : List Ent) : List Ent := ⟨w.heap.size, 0, r, 54, true⟩ :: ⟨w.heap.size + 1, 0, [metal, v], 54, true⟩ :: X
/-- The blocks that trees may lie in. -/
def SA (w : World) (v : Value) (X : List Ent) (h : Nat) : Prop := w.heap.size + 2 ≤ h ∧ v.ownBlock ≠ some h ∧ ∀ e ∈ X, e.id ≠ h
structure Ag (b : Nat) (ns : List Int) (H : Nat) (w : World) (r : List Value) (c v : Value) (X : List Ent) (rs : List (List Value)) (wx : World) : Prop where
  ph : Ph b ns w (memA w r c X) wx
  own : wx.ownsRow (w.heap.size + 2) 93 21 v rs.length rs.flatten
  ok : RowsOk (okDef H) (SA w v X) wx rs
  new : ∀ e ∈ X, w.heap.size + 2 ≤ e.id
  off : ∀ e ∈ X, v.ownBlock ≠ some e.id
def agZero : List Value := [.string ⟨#[]⟩, .slice none 0 0]
section
variable {b : Nat} {ns : List Int} {H : Nat} {w : World} {r : List Value} {c c' v : Value} {X : List Ent} {rs : List (List Value)} {wx wy : World}
theorem idsA (h : ∀ e ∈ X, w.heap.size + 2 ≤ e.id) : ∀ e ∈ memA w r c X, w.heap.size ≤ e.id := by
  intro e he
  unfold memA at he
  rcases List.mem_cons.1 he with rfl | he
  · exact Nat.le_refl _
  · rcases List.mem_cons.1 he with rfl | he
    · simp
    · have := h e he; omega
theorem notA {g : Nat} (h1 : w.heap.size + 2 ≤ g) (h2 : ∀ e ∈ X, e.id ≠ g) : g ∉ (memA w r c X).map (·.id) := by
  intro hm
  obtain ⟨e, he, hg⟩ := List.mem_map.1 hm
  unfold memA at he
  rcases List.mem_cons.1 he with rfl | he
  · simp only at hg; omega
  · rcases List.mem_cons.1 he with rfl | he
    · simp only at hg; omega
    · exact h2 e he hg
/-- Behind a run that may have made new blocks. -/
theorem Ag.run {r' : List Value} {X' : List Ent} {z : Nat} {O : List Nat} {B : Nat} {x : Nat × Nat} {q : List (Nat × Nat)} (h : Ag b ns H w r c v X rs wx) (hk : Kept ((memA w r c X).map (·.id)) wx.heap.size wx wy) (hL : Lies O B wy ⟨z, memA w r' c' X', x, q⟩)
    (hX : ∀ e ∈ X', (∃ e' ∈ X, e'.id = e.id) ∨ wx.heap.size ≤ e.id) : Ag b ns H w r' c' v X' rs wy := by
  have hz := h.ph.but.size
  have hsz : w.heap.size + 2 ≤ wx.heap.size := by
    have := (h.ph.lies.sat.good ⟨w.heap.size + 1, 0, [metal, c], 54, true⟩ (by simp [memA])).1
    simp only at this
    omega
  have hnew : ∀ e ∈ X', w.heap.size + 2 ≤ e.id := fun e he => by
    rcases hX e he with ⟨e', h1, h2⟩ | h1
    · rw [← h2]; exact h.new e' h1
    · omega
  have hg : ∀ g, v.ownBlock = some g → w.heap.size + 2 ≤ g ∧ g < wx.heap.size := fun g hg => h.own.lt g hg
  refine ⟨h.ph.run hk hL (idsA hnew), owns_keep h.own (fun g hgg => hk.block g (hg g hgg).2 (notA (hg g hgg).1 (fun e he he' => h.off e he (by rw [he']; exact hgg)))), h.ok.keep hk.size (fun g hS hlt => ⟨⟨hS.1, hS.2.1, fun e he he' => ?_⟩, hk.block g hlt (notA hS.1 hS.2.2)⟩), hnew, fun e he he' => ?_⟩
  · rcases hX e he with ⟨e', h1, h2⟩ | h1
    · exact hS.2.2 e' h1 (h2.trans he')
    · omega
  · rcases hX e he with ⟨e', h1, h2⟩ | h1
    · exact h.off e' h1 (by rw [h2]; exact he')
    · have := (hg _ he').2; omega
theorem Ag.call (h : Ag b ns H w r c v X rs wx) (hT : TapeOk b ns wy) (hb : But b wx wy) : Ag b ns H w r c v X rs wy := by
  have hlt := h.ph.lt
  refine ⟨h.ph.call hT hb, owns_keep h.own (fun g hg => ?_), h.ok.keep hb.size (fun g hS hl => ⟨hS, hb.block g hl (by have := hS.1; omega)⟩), h.new, h.off⟩
  have := h.own.lt g hg
  exact hb.block g this.2 (by omega)
theorem Ag.below (h : Ag b ns H w r c v X rs wx) (hb : Below wx.heap.size wx wy) : Ag b ns H w r c v X rs wy := h.call (h.ph.tape.below hb) (.of_below hb)
/-- What is made from here on lies in the trees' blocks. -/
theorem Ag.fresh (h : Ag b ns H w r c v X rs wx) {g : Nat} (hg : wx.heap.size ≤ g) : SA w v X g := by
  have hsz : w.heap.size + 2 ≤ wx.heap.size := by
    have := (h.ph.lies.sat.good ⟨w.heap.size + 1, 0, [metal, c], 54, true⟩ (by simp [memA])).1
    simp only at this
    omega
  refine ⟨by omega, fun e => ?_, fun e he he' => ?_⟩
  · have := (h.own.lt g e).2; omega
  · have := (h.ph.lies.sat.good e (by simp [memA, he])).1
    omega
theorem SA.keep {g : Nat} {u u' : World} (hlt : b < w.heap.size) (he : But b u u') (hS : SA w v X g) (hl : g < u.heap.size) : SA w v X g ∧ u'.heap[g]? = u.heap[g]? := ⟨hS, he.block g hl (by have := hS.1; omega)⟩
/-- An append of further rows. -/
theorem Ag.append {v' : Value} {qs : List (List Value)} (h : Ag b ns H w r c v X rs wx) (hq : RowsOk (okDef H) (SA w v X) wx qs) (ho : wy.ownsRow (w.heap.size + 2) 93 21 v' (rs.length + qs.length) (rs.flatten ++ qs.flatten)) (hg : wx.grownBy wy v.ownBlock) (hne : ∀ g, v'.ownBlock = some g → v.ownBlock = some g ∨ wx.heap.size ≤ g) :
    Ag b ns H w r c v' X (rs ++ qs) wy := by
  refine ⟨h.ph.grown hg (fun g hgg => ?_), by rw [List.length_append, List.flatten_append]; exact ho, ?_, h.new, fun e he he' => ?_⟩
  · have h1 := h.own.lt g hgg
    refine ⟨by omega, fun e he he' => ?_⟩
    have := notA (w := w) (r := r) (c := c) (X := X) h1.1 (fun e he he' => h.off e he (by rw [he']; exact hgg))
    exact this (List.mem_map.2 ⟨e, he, he'⟩)
  · refine (h.ok.append hq).keep hg.size (fun g hS hl => ⟨⟨hS.1, fun e => ?_, hS.2.2⟩, hg.block g hl (fun e => hS.2.1 e.symm)⟩)
    rcases hne g e with h1 | h1
    · exact hS.2.1 h1
    · omega
  · rcases hne _ he' with h1 | h1
    · exact h.off e he h1
    · have := (h.ph.lies.sat.good e (by simp [memA, he])).1
      omega
end
end Go.Proofs.YtpdbkbadjgellaaGreatDoor

/-
  The walk of payrollref17.Valid: names, symbols, other kinds, places out of range; joined.
  The walk of payrollref17.Text.
-/
import Derived.Test.YtpdbkbadjgellaaGreatDoorZ38
import Derived.Test.YtpdbkbadjgellaaGreatDoorZ05
namespace Go.Proofs.YtpdbkbadjgellaaGreatDoor
open Go.RowKit
attribute [local go_sem] ba_get ba_extract take_rest ba_append
attribute [local go_sem ↓] run_eql_tok run_neq_tok

set_option maxHeartbeats 4000000 in
set_option maxRecDepth 100000 in
theorem rvalid1 (x : List UInt8) (n d y p : Int) (w : World) (hs : x.length ≤ maxLen) (hp1 : 0 ≤ p) (hp2 : p ≤ 16384) :
    Calls Tryz.prog 23 #[.agg #[.int .i64 1, .string ⟨x.toArray⟩, .int .i64 n, .int .i64 d, .int .i64 y, .int .i64 p]] w fun e w' => e = .returned (.bool ((Tk.isName x || Tk.isKey x) && (n == 0 && (d == 0 && y == 0)))) ∧ Below w.heap.size w w' := by
  have HM := Lib.hid hs
  clear hs
  cases hn : Tk.isName x
  · have HN := Lib.hid hn
    clear hn
    cases hk : Tk.isKey x
    · have HK := Lib.hid hk
      clear hk
      go_enter Tryz.func23, Tryz.ntmps23
      go_wp2_with fail
      obtain ⟨hA, hB, hb, hz⟩ := twoB w #[.int .i64 1, .string ⟨x.toArray⟩, .int .i64 n, .int .i64 d, .int .i64 y, .int .i64 p] #[.int .i64 1, .string ⟨#[]⟩, .int .i64 0, .int .i64 0, .int .i64 0, .int .i64 p] 43
      generalize (w.alloc (.cells #[.int .i64 1, .string ⟨x.toArray⟩, .int .i64 n, .int .i64 d, .int .i64 y, .int .i64 p] 43)).alloc (.cells #[.int .i64 1, .string ⟨#[]⟩, .int .i64 0, .int .i64 0, .int .i64 0, .int .i64 p] 43) = wA at *
      have HA := Lib.hid hA
      have HB := Lib.hid hB
      have HBL := Lib.hid hb
      obtain ⟨⟨a0, a1, a2, a3, a4, a5⟩, _⟩ := blkT hA
      clear hA hB hb
      first
        | (go_region_held3 (fun w' => w'.cell? ⟨w.heap.size, 1, none⟩ = some (.string ⟨x.toArray⟩)) (go_keep)
            (first | (go_at_call 12; refine (risName_any x _ HM.out).mono ?_; rintro e w7 ⟨rfl, hb7⟩; rw [HN.out]; have hz7 := hb7.size; simp only [World.size_drew] at hz7; have HA7 := Lib.hid ((hb7.block (w.heap.size) (show _ < wA.heap.size by omega)).trans HA.out); have HB7 := Lib.hid ((hb7.block (w.heap.size + 1) (show _ < wA.heap.size by omega)).trans HB.out); have HBL7 := Lib.hid (HBL.out.drew.trans (hb7.mono (show _ ≤ wA.heap.size by omega))); obtain ⟨⟨c0, c1, c2, c3, c4, c5⟩, _⟩ := blkT HA7.out; obtain ⟨⟨r0, r1, r2, r3, r4, r5⟩, ⟨f1, f2, f3, f4⟩⟩ := blkT HB7.out; clear hb7) | (go_at_call 14; refine (risKeyword_any x _).mono ?_; rintro e w8 ⟨rfl, hb8⟩; rw [HK.out]; have hz8 := hb8.size; (try simp only [World.size_drew] at hz8); have HA8 := Lib.hid ((hb8.block (w.heap.size) (show _ < w7.heap.size by omega)).trans HA7.out); have HB8 := Lib.hid ((hb8.block (w.heap.size + 1) (show _ < w7.heap.size by omega)).trans HB7.out); have HBL8 := Lib.hid (HBL7.out.trans (hb8.mono (show _ ≤ w7.heap.size by omega))); obtain ⟨⟨c0, c1, c2, c3, c4, c5⟩, _⟩ := blkT HA8.out; obtain ⟨⟨r0, r1, r2, r3, r4, r5⟩, ⟨f1, f2, f3, f4⟩⟩ := blkT HB8.out; clear hb8)))
        | fail
      go_wp2_with fail
      go_ret
      exact ⟨ret_bool (by simp []), HBL8.out.setCell (by simp) _⟩
    · have HK := Lib.hid hk
      clear hk
      go_enter Tryz.func23, Tryz.ntmps23
      go_wp2_with fail
      obtain ⟨hA, hB, hb, hz⟩ := twoB w #[.int .i64 1, .string ⟨x.toArray⟩, .int .i64 n, .int .i64 d, .int .i64 y, .int .i64 p] #[.int .i64 1, .string ⟨#[]⟩, .int .i64 0, .int .i64 0, .int .i64 0, .int .i64 p] 43
      generalize (w.alloc (.cells #[.int .i64 1, .string ⟨x.toArray⟩, .int .i64 n, .int .i64 d, .int .i64 y, .int .i64 p] 43)).alloc (.cells #[.int .i64 1, .string ⟨#[]⟩, .int .i64 0, .int .i64 0, .int .i64 0, .int .i64 p] 43) = wA at *
      have HA := Lib.hid hA
      have HB := Lib.hid hB
      have HBL := Lib.hid hb
      obtain ⟨⟨a0, a1, a2, a3, a4, a5⟩, _⟩ := blkT hA
      clear hA hB hb
      first
        | (go_region_held3 (fun w' => w'.cell? ⟨w.heap.size, 1, none⟩ = some (.string ⟨x.toArray⟩)) (go_keep)
            (first | (go_at_call 12; refine (risName_any x _ HM.out).mono ?_; rintro e w7 ⟨rfl, hb7⟩; rw [HN.out]; have hz7 := hb7.size; simp only [World.size_drew] at hz7; have HA7 := Lib.hid ((hb7.block (w.heap.size) (show _ < wA.heap.size by omega)).trans HA.out); have HB7 := Lib.hid ((hb7.block (w.heap.size + 1) (show _ < wA.heap.size by omega)).trans HB.out); have HBL7 := Lib.hid (HBL.out.drew.trans (hb7.mono (show _ ≤ wA.heap.size by omega))); obtain ⟨⟨c0, c1, c2, c3, c4, c5⟩, _⟩ := blkT HA7.out; obtain ⟨⟨r0, r1, r2, r3, r4, r5⟩, ⟨f1, f2, f3, f4⟩⟩ := blkT HB7.out; clear hb7) | (go_at_call 14; refine (risKeyword_any x _).mono ?_; rintro e w8 ⟨rfl, hb8⟩; rw [HK.out]; have hz8 := hb8.size; (try simp only [World.size_drew] at hz8); have HA8 := Lib.hid ((hb8.block (w.heap.size) (show _ < w7.heap.size by omega)).trans HA7.out); have HB8 := Lib.hid ((hb8.block (w.heap.size + 1) (show _ < w7.heap.size by omega)).trans HB7.out); have HBL8 := Lib.hid (HBL7.out.trans (hb8.mono (show _ ≤ w7.heap.size by omega))); obtain ⟨⟨c0, c1, c2, c3, c4, c5⟩, _⟩ := blkT HA8.out; obtain ⟨⟨r0, r1, r2, r3, r4, r5⟩, ⟨f1, f2, f3, f4⟩⟩ := blkT HB8.out; clear hb8)))
        | fail
      go_wp2_with fail
      go_ret
      exact ⟨ret_bool (by simp [beq0, Bool.and_assoc]), HBL8.out.setCell (by simp) _⟩
  · have HN := Lib.hid hn
    clear hn
    go_enter Tryz.func23, Tryz.ntmps23
    go_wp2_with fail
    obtain ⟨hA, hB, hb, hz⟩ := twoB w #[.int .i64 1, .string ⟨x.toArray⟩, .int .i64 n, .int .i64 d, .int .i64 y, .int .i64 p] #[.int .i64 1, .string ⟨#[]⟩, .int .i64 0, .int .i64 0, .int .i64 0, .int .i64 p] 43
    generalize (w.alloc (.cells #[.int .i64 1, .string ⟨x.toArray⟩, .int .i64 n, .int .i64 d, .int .i64 y, .int .i64 p] 43)).alloc (.cells #[.int .i64 1, .string ⟨#[]⟩, .int .i64 0, .int .i64 0, .int .i64 0, .int .i64 p] 43) = wA at *
    have HA := Lib.hid hA
    have HB := Lib.hid hB
    have HBL := Lib.hid hb
    obtain ⟨⟨a0, a1, a2, a3, a4, a5⟩, _⟩ := blkT hA
    clear hA hB hb
    refine wp_region_held_drew (S := (fun w' => w'.cell? ⟨w.heap.size, 1, none⟩ = some (.string ⟨x.toArray⟩))) (by kernel_rfl) (by go_keep) (fun hHeld => ?_)
    refine wpAnyH_take (i := 0) (v := .pointer (some ⟨w.heap.size, 1, none⟩)) rfl (by kernel_rfl) (by kernel_rfl) (by kernel_rfl) (fun _ _ _ h => h) (Or.inl ⟨by kernel_rfl, fun w hSw => by (try dsimp only at hSw); go_simp⟩) hHeld ?_
    try simp only [Act.put, List.setIfInBounds_toArray]
    refine wpAnyH_take (i := 1) (v := .string ⟨x.toArray⟩) rfl (by kernel_rfl) (by kernel_rfl) (by kernel_rfl) (fun _ _ _ h => h) (Or.inl ⟨by kernel_rfl, fun w hSw => by (try dsimp only at hSw); go_simp⟩) hHeld ?_
    try simp only [Act.put]
    refine wpAnyH_take (i := 2) (v := .pointer (some ⟨w.heap.size, 1, none⟩)) rfl (by kernel_rfl) (by kernel_rfl) (by kernel_rfl) (fun _ _ _ h => h) (Or.inl ⟨by kernel_rfl, fun w hSw => by (try dsimp only at hSw); go_simp⟩) hHeld ?_
    try simp only [Act.put]
    refine wpAnyH_take (i := 3) (v := .string ⟨x.toArray⟩) rfl (by kernel_rfl) (by kernel_rfl) (by kernel_rfl) (fun _ _ _ h => h) (Or.inl ⟨by kernel_rfl, fun w hSw => by (try dsimp only at hSw); go_simp⟩) hHeld ?_
    try simp only [Act.put]
    refine wpAnyH_take (i := 10) (v := .pointer (some ⟨w.heap.size + 1, 1, none⟩)) rfl (by kernel_rfl) (by kernel_rfl) (by kernel_rfl) (fun _ _ _ h => h) (Or.inl ⟨by kernel_rfl, fun w hSw => by (try dsimp only at hSw); go_simp⟩) hHeld ?_
    try simp only [Act.put]
    refine wpAnyH_ready (rs := [4]) (by kernel_rfl) (by simp) (AllReadyH.cons rfl (fun K hK => ?_) AllReadyH.nil)
    go_simp
    go_at_call 12; refine (risName_any x _ HM.out).mono ?_; rintro e w7 ⟨rfl, hb7⟩; rw [HN.out]; have hz7 := hb7.size; simp only [World.size_drew] at hz7; have HA7 := Lib.hid ((hb7.block (w.heap.size) (show _ < wA.heap.size by omega)).trans HA.out); have HB7 := Lib.hid ((hb7.block (w.heap.size + 1) (show _ < wA.heap.size by omega)).trans HB.out); have HBL7 := Lib.hid (HBL.out.drew.trans (hb7.mono (show _ ≤ wA.heap.size by omega))); obtain ⟨⟨c0, c1, c2, c3, c4, c5⟩, _⟩ := blkT HA7.out; obtain ⟨⟨r0, r1, r2, r3, r4, r5⟩, ⟨f1, f2, f3, f4⟩⟩ := blkT HB7.out; clear hb7
    refine hK.out _ _ (by go_keep) (fun hHeld => ?_)
    clear hK K
    try simp only [Act.put, List.setIfInBounds_toArray, List.set_cons_zero, List.set_cons_succ]
    refine wpAnyH_take (i := 5) (v := .bool true) rfl (by kernel_rfl) (by kernel_rfl) (by kernel_rfl) (fun _ _ _ h => h) (Or.inl ⟨by kernel_rfl, fun w hSw => by (try dsimp only at hSw); go_simp⟩) hHeld ?_
    try simp only [Act.put, List.setIfInBounds_toArray]
    refine wpAnyH_take (i := 6) (v := undef) rfl (by kernel_rfl) (by kernel_rfl) (by kernel_rfl) (fun _ _ _ h => h) (Or.inr ⟨by kernel_rfl, rfl⟩) hHeld ?_
    try simp only [Act.put]
    refine wpAnyH_take (i := 7) (v := undef) rfl (by kernel_rfl) (by kernel_rfl) (by kernel_rfl) (fun _ _ _ h => h) (Or.inr ⟨by kernel_rfl, rfl⟩) hHeld ?_
    try simp only [Act.put]
    refine wpAnyH_take (i := 8) (v := undef) rfl (by kernel_rfl) (by kernel_rfl) (by kernel_rfl) (fun _ _ _ h => h) (Or.inr ⟨by kernel_rfl, rfl⟩) hHeld ?_
    try simp only [Act.put]
    refine wpAnyH_take (i := 9) (v := .bool true) rfl (by kernel_rfl) (by kernel_rfl) (by kernel_rfl) (fun _ _ _ h => h) (Or.inl ⟨by kernel_rfl, fun w hSw => by (try dsimp only at hSw); go_simp⟩) hHeld ?_
    try simp only [Act.put]
    refine wpAnyH_ready (rs := [11]) (by kernel_rfl) (by simp) (AllReadyH.cons rfl (fun K hK => ?_) AllReadyH.nil)
    go_simp
    refine hK.out _ _ (by go_keep) (fun hHeld => ?_)
    clear hK K
    try simp only [Act.put, List.setIfInBounds_toArray, List.set_cons_zero, List.set_cons_succ]
    refine wpAnyH_take (i := 12) (v := .bool true) rfl (by kernel_rfl) (by kernel_rfl) (by kernel_rfl) (fun _ _ _ h => h) (Or.inl ⟨by kernel_rfl, fun w hSw => by (try dsimp only at hSw); go_simp⟩) hHeld ?_
    try simp only [Act.put, List.setIfInBounds_toArray]
    refine wpAnyH_done (by kernel_rfl) ?_ _
    go_wp2_with fail
    go_ret
    exact ⟨ret_bool (by simp [beq0, Bool.and_assoc]), HBL7.out.setCell (by simp) _⟩
set_option maxHeartbeats 4000000 in
set_option maxRecDepth 100000 in
theorem rvalid4 (x : List UInt8) (n d y p : Int) (w : World) (hs : x.length ≤ maxLen) (hp1 : 0 ≤ p) (hp2 : p ≤ 16384) :
    Calls Tryz.prog 23 #[.agg #[.int .i64 4, .string ⟨x.toArray⟩, .int .i64 n, .int .i64 d, .int .i64 y, .int .i64 p]] w fun e w' => e = .returned (.bool ((!x.isEmpty && (x.take (Tk.symLen x) == x)) && (n == 0 && (d == 0 && y == 0)))) ∧ Below w.heap.size w w' := by
  have HM : Hid (x.length ≤ 9223372036854775807) := hs
  clear hs
  by_cases hx : x = []
  · subst hx
    go_enter Tryz.func23, Tryz.ntmps23
    go_wp2_with fail
    obtain ⟨hA, hB, hb, hz⟩ := twoB w #[.int .i64 4, .string ⟨([] : List UInt8).toArray⟩, .int .i64 n, .int .i64 d, .int .i64 y, .int .i64 p] #[.int .i64 4, .string ⟨#[]⟩, .int .i64 0, .int .i64 0, .int .i64 0, .int .i64 p] 43
    generalize (w.alloc (.cells #[.int .i64 4, .string ⟨([] : List UInt8).toArray⟩, .int .i64 n, .int .i64 d, .int .i64 y, .int .i64 p] 43)).alloc (.cells #[.int .i64 4, .string ⟨#[]⟩, .int .i64 0, .int .i64 0, .int .i64 0, .int .i64 p] 43) = wA at *
    have HA := Lib.hid hA
    have HB := Lib.hid hB
    have HBL := Lib.hid hb
    obtain ⟨⟨a0, a1, a2, a3, a4, a5⟩, _⟩ := blkT hA
    clear hA hB hb
    obtain ⟨⟨r0, r1, r2, r3, r4, r5⟩, ⟨f1, f2, f3, f4⟩⟩ := blkT HB.out
    refine wp_region_held_drew (S := (fun w' => w'.cell? ⟨w.heap.size, 1, none⟩ = some (.string ⟨#[]⟩))) (by kernel_rfl) (by go_keep) (fun hHeld => ?_)
    refine wpAnyH_take (i := 0) (v := .pointer (some ⟨w.heap.size, 1, none⟩)) rfl (by kernel_rfl) (by kernel_rfl) (by kernel_rfl) (fun _ _ _ h => h) (Or.inl ⟨by kernel_rfl, fun w hSw => by (try dsimp only at hSw); go_simp⟩) hHeld ?_
    try simp only [Act.put, List.setIfInBounds_toArray]
    refine wpAnyH_take (i := 1) (v := .string ⟨#[]⟩) rfl (by kernel_rfl) (by kernel_rfl) (by kernel_rfl) (fun _ _ _ h => h) (Or.inl ⟨by kernel_rfl, fun w hSw => by (try dsimp only at hSw); go_simp⟩) hHeld ?_
    try simp only [Act.put]
    refine wpAnyH_take (i := 2) (v := .pointer (some ⟨w.heap.size, 1, none⟩)) rfl (by kernel_rfl) (by kernel_rfl) (by kernel_rfl) (fun _ _ _ h => h) (Or.inl ⟨by kernel_rfl, fun w hSw => by (try dsimp only at hSw); go_simp⟩) hHeld ?_
    try simp only [Act.put]
    refine wpAnyH_take (i := 3) (v := .string ⟨#[]⟩) rfl (by kernel_rfl) (by kernel_rfl) (by kernel_rfl) (fun _ _ _ h => h) (Or.inl ⟨by kernel_rfl, fun w hSw => by (try dsimp only at hSw); go_simp⟩) hHeld ?_
    try simp only [Act.put]
    refine wpAnyH_take (i := 4) (v := .bool false) rfl (by kernel_rfl) (by kernel_rfl) (by kernel_rfl) (fun _ _ _ h => h) (Or.inl ⟨by kernel_rfl, fun w hSw => by (try dsimp only at hSw); go_simp⟩) hHeld ?_
    try simp only [Act.put]
    refine wpAnyH_take (i := 5) (v := .bool false) rfl (by kernel_rfl) (by kernel_rfl) (by kernel_rfl) (fun _ _ _ h => h) (Or.inl ⟨by kernel_rfl, fun w hSw => by (try dsimp only at hSw); go_simp⟩) hHeld ?_
    try simp only [Act.put]
    refine wpAnyH_take (i := 6) (v := undef) rfl (by kernel_rfl) (by kernel_rfl) (by kernel_rfl) (fun _ _ _ h => h) (Or.inr ⟨by kernel_rfl, rfl⟩) hHeld ?_
    try simp only [Act.put]
    refine wpAnyH_take (i := 7) (v := undef) rfl (by kernel_rfl) (by kernel_rfl) (by kernel_rfl) (fun _ _ _ h => h) (Or.inr ⟨by kernel_rfl, rfl⟩) hHeld ?_
    try simp only [Act.put]
    refine wpAnyH_take (i := 8) (v := undef) rfl (by kernel_rfl) (by kernel_rfl) (by kernel_rfl) (fun _ _ _ h => h) (Or.inr ⟨by kernel_rfl, rfl⟩) hHeld ?_
    try simp only [Act.put]
    refine wpAnyH_take (i := 9) (v := undef) rfl (by kernel_rfl) (by kernel_rfl) (by kernel_rfl) (fun _ _ _ h => h) (Or.inr ⟨by kernel_rfl, rfl⟩) hHeld ?_
    try simp only [Act.put]
    refine wpAnyH_take (i := 10) (v := undef) rfl (by kernel_rfl) (by kernel_rfl) (by kernel_rfl) (fun _ _ _ h => h) (Or.inr ⟨by kernel_rfl, rfl⟩) hHeld ?_
    try simp only [Act.put]
    refine wpAnyH_take (i := 11) (v := undef) rfl (by kernel_rfl) (by kernel_rfl) (by kernel_rfl) (fun _ _ _ h => h) (Or.inr ⟨by kernel_rfl, rfl⟩) hHeld ?_
    try simp only [Act.put]
    refine wpAnyH_take (i := 12) (v := .bool false) rfl (by kernel_rfl) (by kernel_rfl) (by kernel_rfl) (fun _ _ _ h => h) (Or.inl ⟨by kernel_rfl, fun w hSw => by (try dsimp only at hSw); go_simp⟩) hHeld ?_
    try simp only [Act.put]
    refine wpAnyH_take (i := 13) (v := .pointer (some ⟨w.heap.size + 1, 1, none⟩)) rfl (by kernel_rfl) (by kernel_rfl) (by kernel_rfl) (fun _ _ _ h => h) (Or.inl ⟨by kernel_rfl, fun w hSw => by (try dsimp only at hSw); go_simp⟩) hHeld ?_
    try simp only [Act.put]
    refine wpAnyH_ready (rs := [14]) (by kernel_rfl) (by simp) (AllReadyH.cons rfl (fun K hK => ?_) AllReadyH.nil)
    go_simp
    refine hK.out _ _ (by go_keep) (fun hHeld => ?_)
    clear hK K
    try simp only [Act.put, List.setIfInBounds_toArray, List.set_cons_zero, List.set_cons_succ]
    refine wpAnyH_take (i := 15) (v := .bool false) rfl (by kernel_rfl) (by kernel_rfl) (by kernel_rfl) (fun _ _ _ h => h) (Or.inl ⟨by kernel_rfl, fun w hSw => by (try dsimp only at hSw); go_simp⟩) hHeld ?_
    try simp only [Act.put, List.setIfInBounds_toArray]
    refine wpAnyH_done (by kernel_rfl) ?_ _
    go_wp2_with fail
    go_ret
    exact ⟨ret_bool (by simp), HBL.out.drew.setCell (by simp) _⟩
  · have g0 : (x == []) = false := by simpa using hx
    have g1 : (x != []) = true := by simpa using hx
    have HE : Hid (x.isEmpty = false) := by show _ = _; cases x <;> simp_all
    have HL : Hid (0 < x.length) := by show _ < _; cases x <;> simp_all
    clear hx
    cases hq : (x.take (Tk.symLen x) == x)
    · have HQ := hq
      clear hq
      go_enter Tryz.func23, Tryz.ntmps23
      go_wp2_with fail
      obtain ⟨hA, hB, hb, hz⟩ := twoB w #[.int .i64 4, .string ⟨x.toArray⟩, .int .i64 n, .int .i64 d, .int .i64 y, .int .i64 p] #[.int .i64 4, .string ⟨#[]⟩, .int .i64 0, .int .i64 0, .int .i64 0, .int .i64 p] 43
      generalize (w.alloc (.cells #[.int .i64 4, .string ⟨x.toArray⟩, .int .i64 n, .int .i64 d, .int .i64 y, .int .i64 p] 43)).alloc (.cells #[.int .i64 4, .string ⟨#[]⟩, .int .i64 0, .int .i64 0, .int .i64 0, .int .i64 p] 43) = wA at *
      have HA := Lib.hid hA
      have HB := Lib.hid hB
      have HBL := Lib.hid hb
      obtain ⟨⟨a0, a1, a2, a3, a4, a5⟩, _⟩ := blkT hA
      clear hA hB hb
      first
        | (go_region_held3 (fun w' => w'.cell? ⟨w.heap.size, 1, none⟩ = some (.string ⟨x.toArray⟩)) (go_keep)
            (first | (go_at_call 45; refine (rsymbol_any x 0 _ HM.out HL.out (by omega)).mono ?_; rintro e w7 ⟨rfl, hb7⟩; rw [List.drop_zero]; have hz7 := hb7.size; simp only [World.size_drew] at hz7; have HA7 := Lib.hid ((hb7.block (w.heap.size) (show _ < wA.heap.size by omega)).trans HA.out); have HB7 := Lib.hid ((hb7.block (w.heap.size + 1) (show _ < wA.heap.size by omega)).trans HB.out); have HBL7 := Lib.hid (HBL.out.drew.trans (hb7.mono (show _ ≤ wA.heap.size by omega))); obtain ⟨⟨c0, c1, c2, c3, c4, c5⟩, _⟩ := blkT HA7.out; obtain ⟨⟨r0, r1, r2, r3, r4, r5⟩, ⟨f1, f2, f3, f4⟩⟩ := blkT HB7.out; clear hb7)))
        | fail
      go_wp2_with fail
      go_ret
      exact ⟨ret_bool (by simp [HE.out]), HBL7.out.setCell (by simp) _⟩
    · have HQ := hq
      clear hq
      go_enter Tryz.func23, Tryz.ntmps23
      go_wp2_with fail
      obtain ⟨hA, hB, hb, hz⟩ := twoB w #[.int .i64 4, .string ⟨x.toArray⟩, .int .i64 n, .int .i64 d, .int .i64 y, .int .i64 p] #[.int .i64 4, .string ⟨#[]⟩, .int .i64 0, .int .i64 0, .int .i64 0, .int .i64 p] 43
      generalize (w.alloc (.cells #[.int .i64 4, .string ⟨x.toArray⟩, .int .i64 n, .int .i64 d, .int .i64 y, .int .i64 p] 43)).alloc (.cells #[.int .i64 4, .string ⟨#[]⟩, .int .i64 0, .int .i64 0, .int .i64 0, .int .i64 p] 43) = wA at *
      have HA := Lib.hid hA
      have HB := Lib.hid hB
      have HBL := Lib.hid hb
      obtain ⟨⟨a0, a1, a2, a3, a4, a5⟩, _⟩ := blkT hA
      clear hA hB hb
      first
        | (go_region_held3 (fun w' => w'.cell? ⟨w.heap.size, 1, none⟩ = some (.string ⟨x.toArray⟩)) (go_keep)
            (first | (go_at_call 45; refine (rsymbol_any x 0 _ HM.out HL.out (by omega)).mono ?_; rintro e w7 ⟨rfl, hb7⟩; rw [List.drop_zero]; have hz7 := hb7.size; simp only [World.size_drew] at hz7; have HA7 := Lib.hid ((hb7.block (w.heap.size) (show _ < wA.heap.size by omega)).trans HA.out); have HB7 := Lib.hid ((hb7.block (w.heap.size + 1) (show _ < wA.heap.size by omega)).trans HB.out); have HBL7 := Lib.hid (HBL.out.drew.trans (hb7.mono (show _ ≤ wA.heap.size by omega))); obtain ⟨⟨c0, c1, c2, c3, c4, c5⟩, _⟩ := blkT HA7.out; obtain ⟨⟨r0, r1, r2, r3, r4, r5⟩, ⟨f1, f2, f3, f4⟩⟩ := blkT HB7.out; clear hb7)))
        | fail
      go_wp2_with fail
      go_ret
      exact ⟨ret_bool (by simp [beq0, Bool.and_assoc, HE.out]), HBL7.out.setCell (by simp) _⟩
set_option maxHeartbeats 4000000 in
set_option maxRecDepth 100000 in
theorem rvalid0 (k : Int) (x : List UInt8) (n d y p : Int) (w : World) (h1 : (k == 1) = false) (h2 : (k == 2) = false) (h3 : (k == 3) = false) (h4 : (k == 4) = false) (hp1 : 0 ≤ p) (hp2 : p ≤ 16384) :
    Calls Tryz.prog 23 #[.agg #[.int .i64 k, .string ⟨x.toArray⟩, .int .i64 n, .int .i64 d, .int .i64 y, .int .i64 p]] w fun e w' => e = .returned (.bool (false)) ∧ Below w.heap.size w w' := by
  go_enter Tryz.func23, Tryz.ntmps23
  go_wp2_with fail
  go_ret
  exact ⟨ret_bool rfl, ((Below.refl _ _).alloc (Nat.le_refl _) _).alloc (by simp) _⟩
set_option maxHeartbeats 4000000 in
set_option maxRecDepth 100000 in
theorem rvalidP (k : Int) (x : List UInt8) (n d y p : Int) (w : World) (hp : ¬ (0 ≤ p ∧ p ≤ 16384)) :
    Calls Tryz.prog 23 #[.agg #[.int .i64 k, .string ⟨x.toArray⟩, .int .i64 n, .int .i64 d, .int .i64 y, .int .i64 p]] w fun e w' => e = .returned (.bool (false)) ∧ Below w.heap.size w w' := by
  have hp' : p < 0 ∨ (0 ≤ p ∧ 16384 < p) := by omega
  clear hp
  rcases hp' with v | ⟨v1, v2⟩
  all_goals
    go_enter Tryz.func23, Tryz.ntmps23
    go_wp2_with fail
    go_ret
    exact ⟨ret_bool rfl, (Below.refl _ _).alloc (Nat.le_refl _) _⟩

theorem take_sym (x : List UInt8) : (x.take (Tk.symLen x) == x) = decide (Tk.symLen x = x.length) := by
  rw [Bool.eq_iff_iff, beq_iff_eq, decide_eq_true_eq]
  constructor
  · intro h
    have h1 := congrArg List.length h
    rw [List.length_take] at h1
    have := (symLen_le x).1
    omega
  · intro h
    rw [h, List.take_length]
theorem rvalidTok_any (t : Tk.Tok) (w : World) (hs : t.text.length ≤ maxLen) :
    Calls Tryz.prog 23 #[tokV t] w fun e w' => e = .returned (.bool (validTok t)) ∧ Below w.heap.size w w' := by
  obtain ⟨k, x, n, d, y, p⟩ := t
  by_cases hp : 0 ≤ p ∧ p ≤ 16384
  · have hpd : decide (0 ≤ p ∧ p ≤ 16384) = true := decide_eq_true hp
    obtain ⟨hp1, hp2⟩ := hp
    by_cases k1 : k = 1
    · subst k1
      refine (rvalid1 x n d y p w hs hp1 hp2).mono ?_
      rintro e w' ⟨rfl, hb⟩
      refine ⟨?_, hb⟩
      unfold validTok
      rw [hpd]
      congr 2
      rw [Bool.eq_iff_iff]
      simp
    by_cases k2 : k = 2
    · subst k2
      refine (rvalid2 x n d y p w hp1 hp2).mono ?_
      rintro e w' ⟨rfl, hb⟩
      refine ⟨?_, hb⟩
      unfold validTok
      rw [hpd]
      congr 2
      rw [Bool.eq_iff_iff]
      simp
    by_cases k3 : k = 3
    · subst k3
      refine (rvalid3 x n d y p w hp1 hp2).mono ?_
      rintro e w' ⟨rfl, hb⟩
      refine ⟨?_, hb⟩
      unfold validTok
      rw [hpd]
      congr 2
      rw [Bool.eq_iff_iff]
      simp
    by_cases k4 : k = 4
    · subst k4
      refine (rvalid4 x n d y p w hs hp1 hp2).mono ?_
      rintro e w' ⟨rfl, hb⟩
      refine ⟨?_, hb⟩
      unfold validTok
      rw [hpd, take_sym]
      congr 2
      rw [Bool.eq_iff_iff]
      simp
    · refine (rvalid0 k x n d y p w (by simpa using k1) (by simpa using k2) (by simpa using k3) (by simpa using k4) hp1 hp2).mono ?_
      rintro e w' ⟨rfl, hb⟩
      refine ⟨?_, hb⟩
      simp [validTok, k1, k2, k3, k4]
  · refine (rvalidP k x n d y p w hp).mono ?_
    rintro e w' ⟨rfl, hb⟩
    refine ⟨?_, hb⟩
    unfold validTok
    rw [decide_eq_false hp]
    rfl
end Go.Proofs.YtpdbkbadjgellaaGreatDoor

namespace Go.Proofs.YtpdbkbadjgellaaGreatDoor
open Go.RowKit
attribute [local go_sem] ba_get ba_extract take_rest ba_append

theorem str_eq {a b : List UInt8} (h : a = b) : Value.string ⟨a.toArray⟩ = Value.string ⟨b.toArray⟩ := by rw [h]
theorem valid_day {t : Tk.Tok} (h : validTok t = true) (hk : t.kind = 3) : 0 ≤ t.day ∧ t.day ≤ 84005 := by
  unfold validTok at h
  rw [Bool.and_eq_true] at h
  simp [hk, inDays] at h
  exact h.2.1
theorem TokRow.cells {w : World} {A : Option Addr} {c : Nat} {ts : List Tk.Tok} (h : TokRow w (.slice A ts.length c) ts) {k : Nat} (hk : k < ts.length) :
    ∃ g off, A = some ⟨g, off, none⟩ ∧ ∀ j u, (tokCells ts[k])[j]? = some u → w.cell? ⟨g, off + k * 6 + j, none⟩ = some u := by
  obtain ⟨A', c', e', hA⟩ := h
  obtain ⟨g, off, hAe, hc⟩ := hA (by omega)
  simp only [Value.slice.injEq] at e'
  obtain ⟨rfl, _, rfl⟩ := e'
  exact ⟨g, off, hAe, hc k hk⟩

set_option maxHeartbeats 2000000 in
set_option maxRecDepth 100000 in
theorem rtextT_any (v : Value) (ts : List Tk.Tok) (w : World) (hr : TokRow w v ts) (hn : ts.length ≤ 100000) (hx : ∀ t ∈ ts, t.text.length ≤ maxLen) :
    Calls Tryz.prog 25 #[v] w fun e w' => e = .returned (.string ⟨(textAll ts).toArray⟩) ∧ Below w.heap.size w w' := by
  have HR := Lib.hid hr
  obtain ⟨A, c, rfl, hA⟩ := hr
  have HX := Lib.hid hx
  clear hx hA
  go_enter Tryz.func25, Tryz.ntmps25
  go_wp2_with fail
  go_loopw [3, 4] (fun s i wr => ∃ k : Nat, k ≤ ts.length ∧ s = .string ⟨(joinT (ts.take k)).toArray⟩ ∧ i = .int .i64 k ∧ Hid ((ts.take k).all validTok = true) ∧ Below w.heap.size w wr) (fun _ i _ => ts.length - (intOf i).toNat)
  case atStart => exact ⟨0, Nat.zero_le _, rfl, rfl, rfl, Below.refl _ _⟩
  case round =>
    obtain ⟨k, hk, rfl, rfl, HV, hbl⟩ := hrel
    have hjl := joinT_len _ HV.out
    rw [List.length_take] at hjl
    by_cases hlt : k < ts.length
    · have HR1 := Lib.hid (HR.out.below hbl)
      obtain ⟨g, off, rfl, hc⟩ := HR1.out.cells hlt
      obtain ⟨t1, t2, t3, t4, t5, t6, ht⟩ : ∃ t1 t2 t3 t4 t5 t6, ts[k] = ⟨t1, t2, t3, t4, t5, t6⟩ := ⟨_, _, _, _, _, _, rfl⟩
      have hx2 : t2.length ≤ maxLen := by have := HX.out ts[k] (List.getElem_mem hlt); rw [ht] at this; exact this
      have HX2 := Lib.hid hx2
      clear hx2
      rw [ht] at hc
      have c0 := hc 0 _ rfl
      have c1 := hc 1 _ rfl
      have c2 := hc 2 _ rfl
      have c3 := hc 3 _ rfl
      have c4 := hc 4 _ rfl
      have c5 := hc 5 _ rfl
      simp only [Nat.add_zero] at c0
      clear hc
      have HT := Lib.hid ht
      clear ht
      go_wp2_with fail
      refine (rvalidTok_any ⟨t1, t2, t3, t4, t5, t6⟩ _ HX2.out).mono ?_
      rintro e w1 ⟨rfl, hb1⟩
      clear c0 c1 c2 c3 c4 c5
      have hB1 : Below w.heap.size w w1 := hbl.trans (hb1.mono hbl.size)
      have HR2 := Lib.hid (HR1.out.below hb1)
      clear hb1 hbl HR1
      cases hv : validTok ⟨t1, t2, t3, t4, t5, t6⟩
      · have HF : Hid (textAll ts = []) := by
          show _ = _
          unfold textAll
          rw [if_neg]
          intro hall
          have := List.all_eq_true.1 hall ts[k] (List.getElem_mem hlt)
          rw [HT.out, hv] at this
          cases this
        clear hv
        go_wp2_with fail
        go_ret
        exact ⟨ret_str HF.out.symm, hB1⟩
      · have hlen := textOf_len _ hv
        have HV2 : Hid ((ts.take (k + 1)).all validTok = true) := by
          show _ = _
          rw [List.take_succ_eq_append_getElem hlt, List.all_append, HV.out, HT.out]
          simp [hv]
        have HN := Lib.hid (sepT_next ts k hlt)
        have HDay : Hid (t1 = 3 → 0 ≤ t5 ∧ t5 ≤ 84005) := fun h3 => valid_day hv h3
        clear hv
        obtain ⟨g', off', he', hc⟩ := HR2.out.cells hlt
        simp only [Option.some.injEq, Addr.mk.injEq, and_true] at he'
        obtain ⟨rfl, rfl⟩ := he'
        rw [HT.out] at hc
        have c0 := hc 0 _ rfl
        have c1 := hc 1 _ rfl
        have c2 := hc 2 _ rfl
        have c3 := hc 3 _ rfl
        have c4 := hc 4 _ rfl
        have c5 := hc 5 _ rfl
        simp only [Nat.add_zero] at c0
        clear hc HR2
        by_cases hk0 : k = 0
        case' pos =>
          have HS : Hid (sepT ts k = joinT (ts.take k)) := by show _ = _; unfold sepT; rw [if_pos hk0, hk0]; rfl
          have gk : ¬ (0 : Int) < k := by omega
          clear hk0
        case' neg =>
          have HS : Hid (sepT ts k = joinT (ts.take k) ++ [32]) := by show _ = _; unfold sepT; rw [if_neg hk0]
          have gk : (0 : Int) < k := by omega
          clear hk0
        all_goals
          by_cases k2 : t1 = 2
          · have HO : Hid (textOf ts[k] = numRef t3 t4) := by show _ = _; rw [HT.out, numRef_eq]; simp [textOf, k2]
            subst k2
            go_wp2_with fail
            refine (rnumber_any t3 t4 _).mono ?_
            rintro e w3 ⟨rfl, hb3⟩
            have hB3 : Below w.heap.size w w3 := hB1.trans (hb3.mono hB1.size)
            have hlim := numRef_len t3 t4
            clear c0 c1 c2 c3 c4 c5 hb3
            go_wp2_with fail
            go_roundw
            case rel => exact ⟨k + 1, by omega, str_eq (by rw [← HN.out, HS.out, HO.out]; try simp), by go_num, HV2, hB3⟩
            case measure => simp [intOf]; omega
          · have g2 : (t1 == 2) = false := by simpa using k2
            by_cases k3 : t1 = 3
            · obtain ⟨d0, d1⟩ := HDay.out k3
              have HO : Hid (textOf ts[k] = dateRef t5) := by show _ = _; rw [HT.out, dateRef_eq _ d0 d1]; simp [textOf, k3]
              subst k3
              clear g2 k2
              go_wp2_with fail
              refine (rdayText_any t5 _ d0 d1).mono ?_
              rintro e w3 ⟨rfl, hb3⟩
              have hB3 : Below w.heap.size w w3 := hB1.trans (hb3.mono hB1.size)
              have hlim := dateRef_len t5 d0 d1
              clear c0 c1 c2 c3 c4 c5 hb3
              go_wp2_with fail
              go_roundw
              case rel => exact ⟨k + 1, by omega, str_eq (by rw [← HN.out, HS.out, HO.out]; try simp), by go_num, HV2, hB3⟩
              case measure => simp [intOf]; omega
            · have HO : Hid (textOf ts[k] = t2) := by show _ = _; rw [HT.out]; simp [textOf, k2, k3]
              have g3 : (t1 == 3) = false := by simpa using k3
              have hlim : t2.length ≤ 70 := by
                have : textOf ⟨t1, t2, t3, t4, t5, t6⟩ = t2 := by simp [textOf, k2, k3]
                rw [this] at hlen
                omega
              clear k2 k3
              go_wp2_with fail
              go_roundw
              case rel => exact ⟨k + 1, by omega, str_eq (by rw [← HN.out, HS.out, HO.out]; try simp), by go_num, HV2, hB1⟩
              case measure => simp [intOf]; omega
    · have HF : Hid (textAll ts = joinT (ts.take k)) := by
        show _ = _
        have hv := HV.out
        have e : ts.take k = ts := List.take_of_length_le (by omega)
        rw [e] at hv ⊢
        unfold textAll
        rw [if_pos hv]
      go_wp2_with fail
      go_ret
      exact ⟨ret_str HF.out.symm, hbl⟩
end Go.Proofs.YtpdbkbadjgellaaGreatDoor

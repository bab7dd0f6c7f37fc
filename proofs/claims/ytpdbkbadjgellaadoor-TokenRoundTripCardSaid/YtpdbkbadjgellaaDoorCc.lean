/-
  The walks of package calendar's two and Format.
-/
import Derived.Test.YtpdbkbadjgellaaDoorCb
namespace Go.Proofs.YtpdbkbadjgellaaDoor
open Go.RowKit
attribute [local go_sem] ba_get ba_extract take_rest ba_append

theorem calTwo_any (n : Int) (w : World) (h0 : 0 ≤ n) (h1 : n ≤ 99) (hp : Pow w) :
    Calls Tryd.prog 51 #[.int .i64 n] w fun e w' => e = .returned (.string ⟨(Tk.two n).toArray⟩) ∧ Below w.heap.size w w' := by
  have HP := Lib.hid hp
  clear hp
  have hln := Lib.itoa_length_le n (by omega) (by omega)
  by_cases h : n < 10
  · have HT : Hid (Tk.two n = 48 :: Lib.itoa n) := by show _ = _; unfold Tk.two; rw [if_pos h]
    go_enter Tryd.func51, Tryd.ntmps51
    go_wp2_with fail
    refine (itoa_any n _ (by omega) (by omega) HP.out).mono ?_
    rintro e w1 ⟨rfl, hb⟩
    go_wp2_with fail
    go_ret
    exact ⟨ret_str HT.out.symm, hb⟩
  · have HT : Hid (Tk.two n = Lib.itoa n) := by show _ = _; unfold Tk.two; rw [if_neg h]
    go_enter Tryd.func51, Tryd.ntmps51
    go_wp2_with fail
    refine (itoa_any n _ (by omega) (by omega) HP.out).mono ?_
    rintro e w1 ⟨rfl, hb⟩
    go_wp2_with fail
    go_ret
    exact ⟨ret_str HT.out.symm, hb⟩

theorem two_len (n : Int) (h0 : 0 ≤ n) (h1 : n ≤ 99) : (Tk.two n).length ≤ 22 := by
  have hln := Lib.itoa_length_le n (by omega) (by omega)
  unfold Tk.two
  split <;> simp <;> omega

set_option maxHeartbeats 1000000 in
theorem calFormat_any (d : Int) (w : World) (hl : Lens w) (hp : Pow w) :
    Calls Tryd.prog 34 #[.int .i64 d] w fun e w' => e = .returned (.string ⟨(Tk.dateText d).toArray⟩) ∧ Below w.heap.size w w' := by
  have HP := Lib.hid hp
  have HL := Lib.hid hl
  clear hp hl
  by_cases hd : 0 ≤ d ∧ d ≤ 84005
  · have HT : Hid (Tk.dateText d = Lib.itoa (Tk.yOf d) ++ [45] ++ Tk.two (Tk.mOf d) ++ [45] ++ Tk.two (Tk.dOf d)) := by show _ = _; unfold Tk.dateText; rw [if_pos hd]
    have HD : Hid (dateRes d = .returned (.tuple #[.int .i64 (Tk.yOf d), .int .i64 (Tk.mOf d), .int .i64 (Tk.dOf d), .bool true])) := by
      show _ = _
      unfold dateRes inDays
      rw [if_pos (decide_eq_true hd)]
    have hs := (Tk.date_spec d hd.1 hd.2).1
    have hs2 := of_decide_eq_true hs
    obtain ⟨y1, y2, m1, m2, d1, d2⟩ := hs2
    have d3 := (mlen_bd (Tk.yOf d) (Tk.mOf d)).2
    clear hs hd
    generalize Tk.yOf d = y at *
    generalize Tk.mOf d = m at *
    generalize Tk.dOf d = a at *
    have l1 := Lib.itoa_length_le y (by omega) (by omega)
    have l2 := two_len m (by omega) (by omega)
    have l3 := two_len a (by omega) (by omega)
    go_enter Tryd.func34, Tryd.ntmps34
    go_wp2_with fail
    refine (date_any d _ HL.out).mono ?_
    rintro e w' ⟨rfl, rfl⟩
    rw [HD.out]
    go_wp2_with fail
    refine (itoa_any y _ (by omega) (by omega) HP.out).mono ?_
    rintro e w1 ⟨rfl, hb1⟩
    go_wp2_with fail
    refine (calTwo_any m _ (by omega) (by omega) (HP.out.below hb1)).mono ?_
    rintro e w2 ⟨rfl, hb2⟩
    have hb12 : Below w.heap.size w w2 := hb1.trans (hb2.mono hb1.size)
    go_wp2_with fail
    refine (calTwo_any a _ (by omega) (by omega) (HP.out.below hb12)).mono ?_
    rintro e w3 ⟨rfl, hb3⟩
    have hb13 : Below w.heap.size w w3 := hb12.trans (hb3.mono hb12.size)
    go_wp2_with fail
    go_ret
    exact ⟨ret_str (by rw [HT.out]; simp), hb13⟩
  · have HT : Hid (Tk.dateText d = []) := by show _ = _; unfold Tk.dateText; rw [if_neg hd]
    have HD : Hid (dateRes d = .returned (.tuple #[.int .i64 0, .int .i64 0, .int .i64 0, .bool false])) := by
      show _ = _
      unfold dateRes inDays
      rw [if_neg (by simpa using hd)]
    clear hd
    go_enter Tryd.func34, Tryd.ntmps34
    go_wp2_with fail
    refine (date_any d _ HL.out).mono ?_
    rintro e w' ⟨rfl, rfl⟩
    rw [HD.out]
    go_wp2_with fail
    go_ret
    exact ⟨ret_str HT.out.symm, Below.refl _ _⟩
end Go.Proofs.YtpdbkbadjgellaaDoor

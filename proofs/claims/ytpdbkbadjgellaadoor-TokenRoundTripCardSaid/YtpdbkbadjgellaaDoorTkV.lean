/-
  The walk of package token's Valid.
-/
import Derived.Test.YtpdbkbadjgellaaDoorTkN
import Derived.Test.YtpdbkbadjgellaaDoorTkG
import Derived.Test.YtpdbkbadjgellaaDoorTkEq
namespace Go.Proofs.YtpdbkbadjgellaaDoor
open Go.RowKit
attribute [local go_sem] ba_get ba_extract take_rest ba_append
attribute [local go_sem ↓] run_eql_tok run_neq_tok

/-- Is a token valid? -/
def validTok (t : Tk.Tok) : Bool :=
  decide (0 ≤ t.place ∧ t.place ≤ 16384) &&
  (if t.kind = 1 then (Tk.isName t.text || Tk.isKey t.text) && decide (t.num = 0 ∧ t.den = 0 ∧ t.day = 0)
   else if t.kind = 2 then isDec t.num t.den && decide (t.text = [] ∧ t.day = 0)
   else if t.kind = 3 then inDays t.day && decide (t.text = [] ∧ t.num = 0 ∧ t.den = 0)
   else if t.kind = 4 then (decide (t.text ≠ []) && decide (Tk.symLen t.text = t.text.length)) && decide (t.num = 0 ∧ t.den = 0 ∧ t.day = 0)
   else false)

set_option maxHeartbeats 1000000 in
set_option maxRecDepth 100000 in
theorem valid_any (t : Tk.Tok) (w : World) (hs : t.text.length ≤ maxLen) :
    Calls Tryd.prog 15 #[tokV t] w fun e w' => e = .returned (.bool (validTok t)) ∧ Below w.heap.size w w' := by
  obtain ⟨k, x, n, d, y, p⟩ := t
  simp only at hs
  have HM := Lib.hid hs
  clear hs
  unfold tokV
  simp only
  by_cases hp : 0 ≤ p ∧ p ≤ 16384
  · obtain ⟨hp1, hp2⟩ := hp
    by_cases k1 : k = 1
    · subst k1
      have HX : Hid (validTok ⟨1, x, n, d, y, p⟩ = ((Tk.isName x || Tk.isKey x) && (n == 0 && d == 0 && y == 0))) := by
        show _ = _
        simp only [validTok]
        rw [Bool.eq_iff_iff]
        simp [hp1, hp2, and_assoc]
      cases hn : Tk.isName x
      · have HN := Lib.hid hn
        cases hk : Tk.isKey x
        · have HK := Lib.hid hk
          have HX2 : Hid (validTok ⟨1, x, n, d, y, p⟩ = false) := by show _ = _; rw [HX.out, hn, hk]; rfl
          clear hn hk
          go_enter Tryd.func15, Tryd.ntmps15
          go_wp2_with fail
          refine (isName_any x _ HM.out).mono ?_
          rintro e w' ⟨rfl, rfl⟩
          rw [HN.out]
          go_wp2_with fail
          refine (isKeyword_any x _).mono ?_
          rintro e w' ⟨rfl, rfl⟩
          rw [HK.out]
          go_wp2_with fail
          go_ret
          exact ⟨ret_bool HX2.out.symm, (Below.refl _ _).alloc (Nat.le_refl _) _⟩
        · have HK := Lib.hid hk
          have HX2 : Hid (validTok ⟨1, x, n, d, y, p⟩ = (n == 0 && d == 0 && y == 0)) := by show _ = _; rw [HX.out, hn, hk]; rfl
          clear hn hk
          go_enter Tryd.func15, Tryd.ntmps15
          go_wp2_with fail
          refine (isName_any x _ HM.out).mono ?_
          rintro e w' ⟨rfl, rfl⟩
          rw [HN.out]
          go_wp2_with fail
          refine (isKeyword_any x _).mono ?_
          rintro e w' ⟨rfl, rfl⟩
          rw [HK.out]
          go_wp2_with fail
          go_ret
          exact ⟨ret_bool HX2.out.symm, (Below.refl _ _).alloc (Nat.le_refl _) _⟩
      · have HN := Lib.hid hn
        have HX2 : Hid (validTok ⟨1, x, n, d, y, p⟩ = (n == 0 && d == 0 && y == 0)) := by show _ = _; rw [HX.out, hn]; rfl
        clear hn
        go_enter Tryd.func15, Tryd.ntmps15
        go_wp2_with fail
        refine (isName_any x _ HM.out).mono ?_
        rintro e w' ⟨rfl, rfl⟩
        rw [HN.out]
        go_wp2_with fail
        go_ret
        exact ⟨ret_bool HX2.out.symm, (Below.refl _ _).alloc (Nat.le_refl _) _⟩
    have g1 : (k == 1) = false := by simpa using k1
    by_cases k2 : k = 2
    · subst k2
      have HX : Hid (validTok ⟨2, x, n, d, y, p⟩ = (isDec n d && (x.isEmpty && y == 0))) := by
        show _ = _
        simp only [validTok]
        rw [Bool.eq_iff_iff]
        simp [hp1, hp2]
      clear g1 k1
      cases hv : isDec n d
      · have HV := Lib.hid hv
        have HX2 : Hid (validTok ⟨2, x, n, d, y, p⟩ = false) := by show _ = _; rw [HX.out, hv]; rfl
        clear hv
        go_enter Tryd.func15, Tryd.ntmps15
        go_wp2_with fail
        refine (isDecimal_any n d _).mono ?_
        rintro e w1 ⟨rfl, hb⟩
        rw [HV.out]
        have hB0 : Below w.heap.size w w1 := ((Below.refl _ _).alloc (Nat.le_refl _) _).trans (hb.mono (by simp))
        go_wp2_with fail
        go_ret
        exact ⟨ret_bool HX2.out.symm, hB0⟩
      · have HV := Lib.hid hv
        have HX2 : Hid (validTok ⟨2, x, n, d, y, p⟩ = (x.isEmpty && y == 0)) := by show _ = _; rw [HX.out, hv]; rfl
        clear hv
        go_enter Tryd.func15, Tryd.ntmps15
        go_wp2_with fail
        refine (isDecimal_any n d _).mono ?_
        rintro e w1 ⟨rfl, hb⟩
        rw [HV.out]
        have hB0 : Below w.heap.size w w1 := ((Below.refl _ _).alloc (Nat.le_refl _) _).trans (hb.mono (by simp))
        have hbl := (hb.block w.heap.size (by simp)).trans (heap_alloc_new w _)
        have c0 := Lib.cell_of_heap hbl 0
        have c1 := Lib.cell_of_heap hbl 1
        have c2 := Lib.cell_of_heap hbl 2
        have c3 := Lib.cell_of_heap hbl 3
        have c4 := Lib.cell_of_heap hbl 4
        have c5 := Lib.cell_of_heap hbl 5
        simp only [List.getElem?_toArray, List.getElem?_cons_zero, List.getElem?_cons_succ] at c0 c1 c2 c3 c4 c5
        clear hbl
        go_wp2_with fail
        go_ret
        exact ⟨ret_bool HX2.out.symm, hB0⟩
    have g2 : (k == 2) = false := by simpa using k2
    by_cases k3 : k = 3
    · subst k3
      have HX : Hid (validTok ⟨3, x, n, d, y, p⟩ = (inDays y && (x.isEmpty && (n == 0 && d == 0)))) := by
        show _ = _
        simp only [validTok]
        rw [Bool.eq_iff_iff]
        simp [hp1, hp2]
      clear g1 k1 g2 k2
      by_cases hv : 0 ≤ y ∧ y ≤ 84005
      · have HX2 : Hid (validTok ⟨3, x, n, d, y, p⟩ = (x.isEmpty && (n == 0 && d == 0))) := by show _ = _; rw [HX.out, inDays, decide_eq_true hv]; rfl
        obtain ⟨v1, v2⟩ := hv
        go_enter Tryd.func15, Tryd.ntmps15
        go_wp2_with fail
        go_ret
        exact ⟨ret_bool HX2.out.symm, (Below.refl _ _).alloc (Nat.le_refl _) _⟩
      · have HX2 : Hid (validTok ⟨3, x, n, d, y, p⟩ = false) := by show _ = _; rw [HX.out, inDays, decide_eq_false hv]; rfl
        have hv' : y < 0 ∨ (0 ≤ y ∧ 84005 < y) := by omega
        clear hv
        rcases hv' with v | ⟨v1, v2⟩
        all_goals
          go_enter Tryd.func15, Tryd.ntmps15
          go_wp2_with fail
          go_ret
          exact ⟨ret_bool HX2.out.symm, (Below.refl _ _).alloc (Nat.le_refl _) _⟩
    have g3 : (k == 3) = false := by simpa using k3
    by_cases k4 : k = 4
    · subst k4
      have HX : Hid (validTok ⟨4, x, n, d, y, p⟩ = ((!x.isEmpty && ((Tk.symLen x : Int) == x.length)) && (n == 0 && d == 0 && y == 0))) := by
        show _ = _
        simp only [validTok]
        rw [Bool.eq_iff_iff]
        simp [hp1, hp2, and_assoc]
        omega
      clear g1 k1 g2 k2 g3 k3
      rcases x with _ | ⟨c, r⟩
      · have HX2 : Hid (validTok ⟨4, [], n, d, y, p⟩ = false) := by show _ = _; rw [HX.out]; rfl
        clear HX
        go_enter Tryd.func15, Tryd.ntmps15
        go_wp2_with fail
        go_quiet (fail)
        go_wp2_with fail
        go_ret
        exact ⟨ret_bool HX2.out.symm, belowN ((Below.refl _ _).alloc (Nat.le_refl _) _) _⟩
      · by_cases hq : Tk.symLen (c :: r) = (c :: r).length
        · have HQ : ((Tk.symLen (c :: r) : Int) == ((r.length : Int) + 1)) = true := by simp only [List.length_cons] at hq; simp; omega
          have HX2 : Hid (validTok ⟨4, c :: r, n, d, y, p⟩ = (n == 0 && d == 0 && y == 0)) := by show _ = _; rw [HX.out, hq]; simp
          clear HX hq
          go_enter Tryd.func15, Tryd.ntmps15
          go_wp2_with fail
          go_quiet ((go_at_call 37; exact quiet_left (symbolLength_any _ _ HM.out)))
          go_wp2_with fail
          go_ret
          exact ⟨ret_bool HX2.out.symm, belowN ((Below.refl _ _).alloc (Nat.le_refl _) _) _⟩
        · have HQ : ((Tk.symLen (c :: r) : Int) == ((r.length : Int) + 1)) = false := by simp only [List.length_cons] at hq; simp; omega
          have HX2 : Hid (validTok ⟨4, c :: r, n, d, y, p⟩ = false) := by
            show _ = _
            rw [HX.out]
            have : ((Tk.symLen (c :: r) : Int) == ((c :: r).length : Int)) = false := by simp only [List.length_cons] at hq ⊢; simp; omega
            rw [this]; simp
          clear HX hq
          go_enter Tryd.func15, Tryd.ntmps15
          go_wp2_with fail
          go_quiet ((go_at_call 37; exact quiet_left (symbolLength_any _ _ HM.out)))
          go_wp2_with fail
          go_ret
          exact ⟨ret_bool HX2.out.symm, belowN ((Below.refl _ _).alloc (Nat.le_refl _) _) _⟩
    · have g4 : (k == 4) = false := by simpa using k4
      have HX2 : Hid (validTok ⟨k, x, n, d, y, p⟩ = false) := by
        show _ = _
        simp [validTok, k1, k2, k3, k4]
      clear k1 k2 k3 k4
      go_enter Tryd.func15, Tryd.ntmps15
      go_wp2_with fail
      go_ret
      exact ⟨ret_bool HX2.out.symm, (Below.refl _ _).alloc (Nat.le_refl _) _⟩
  · have HX2 : Hid (validTok ⟨k, x, n, d, y, p⟩ = false) := by
      show _ = _
      simp only [validTok]
      rw [decide_eq_false hp]
      rfl
    have hp' : p < 0 ∨ (0 ≤ p ∧ 16384 < p) := by omega
    clear hp
    rcases hp' with v | ⟨v1, v2⟩
    all_goals
      go_enter Tryd.func15, Tryd.ntmps15
      go_wp2_with fail
      go_ret
      exact ⟨ret_bool HX2.out.symm, (Below.refl _ _).alloc (Nat.le_refl _) _⟩
end Go.Proofs.YtpdbkbadjgellaaDoor

/-
  The walk of package token's read.
  The walks of package calendar: valid, yearOf, Date, two, Format; strconv.Itoa as the shelf has it.
  The walks of package calendar's two and Format.
-/
import Derived.Test.YtpdbkbadjgellaaGreatDoorZ03
import Derived.Test.YtpdbkbadjgellaaGreatDoorZ01
import Derived.Test.YtpdbkbadjgellaaGreatDoorZ02
import Derived.Lib.ItoaLen
import Derived.Lib.SmallJoins
namespace Go.Proofs.YtpdbkbadjgellaaGreatDoor
open Go.RowKit
attribute [local go_sem] ba_get ba_extract take_rest

theorem Lens.below {w w' : World} (h : Lens w) (hb : Below w.heap.size w w') : Lens w' := fun m h1 h2 => by
  have hc := h m h1 h2
  rw [hb.cell (World.block_lt_of_cell? w _ hc)]
  exact hc
theorem Lens.alloc {w : World} (h : Lens w) (o : Obj) : Lens (w.alloc o) := h.below ((Below.refl _ _).alloc (Nat.le_refl _) _)

def tokRes : Except Int (Tk.Tok × Nat) → Tk.Tok × Int × Int
  | .error e => ({}, 0, e)
  | .ok (t, n) => (t, n, 0)

/-- The date of a text's first ten bytes. -/
theorem parse_ten (l : List UInt8) (h : Tk.dateForm l = true) : parseOK (l.take 10) = (Tk.dayOf l).isSome ∧ parseR (l.take 10) = (Tk.dayOf l).getD 0 := by
  have h10 := ((dateForm_iff l).1 h).1
  have e1 : Tk.dateForm (l.take 10) = true := by
    rw [dateForm_iff]
    refine ⟨by simp; omega, fun i hi => ?_⟩
    have := ((dateForm_iff l).1 h).2 i hi
    unfold dateAt at this ⊢
    rw [getD_eq (l.take 10) i (by simp; omega), List.getElem_take, ← getD_eq l i (by omega)]
    exact this
  have e2 : Tk.dateY (l.take 10) = Tk.dateY l := by unfold Tk.dateY; rw [List.take_take]; rfl
  have e3 : Tk.dateM (l.take 10) = Tk.dateM l := by unfold Tk.dateM; rw [List.drop_take, List.take_take]; rfl
  have e4 : Tk.dateD (l.take 10) = Tk.dateD l := by unfold Tk.dateD; rw [List.drop_take, List.take_take]; rfl
  have e5 : parseOK (l.take 10) = Tk.dayOK (Tk.dateY l) (Tk.dateM l) (Tk.dateD l) := by
    unfold parseOK
    rw [e1, e2, e3, e4]
    simp; omega
  have e6 : (Tk.dayOf l).isSome = Tk.dayOK (Tk.dateY l) (Tk.dateM l) (Tk.dateD l) := by
    unfold Tk.dayOf
    cases Tk.dayOK (Tk.dateY l) (Tk.dateM l) (Tk.dateD l) <;> rfl
  refine ⟨e5.trans e6.symm, ?_⟩
  unfold parseR Tk.dayOf
  rw [e5, e2, e3, e4]
  cases Tk.dayOK (Tk.dateY l) (Tk.dateM l) (Tk.dateD l) <;> rfl

theorem wordLen_le (l : List UInt8) : Tk.wordLen l ≤ l.length := by
  cases l with
  | nil => simp [Tk.wordLen]
  | cons c r =>
    have := Tk.lead_le Tk.isWord r
    simp only [Tk.wordLen, List.length_cons]
    split <;> omega
theorem symLen_le (l : List UInt8) : Tk.symLen l ≤ l.length ∧ Tk.symLen l ≤ 2 := by
  cases l with
  | nil => simp [Tk.symLen]
  | cons c r =>
    simp only [Tk.symLen, List.length_cons]
    split
    · rename_i h
      cases r with
      | nil => simp [Tk.pair] at h
      | cons d r => simp
    · split <;> omega

theorem numRes_tok (l : List UInt8) (h1 : Tk.dateForm l = false) (h2 : Tk.isDig (l.headD 0) = true) : tokRes (Tk.readTok l) = numRes (Tk.readNum l) := by
  unfold Tk.readTok
  rw [h1, h2]
  simp only [Bool.false_eq_true, if_false, if_true]
  cases Tk.readNum l <;> rfl

set_option maxHeartbeats 2000000 in
set_option maxRecDepth 100000 in
theorem read_any (l : List UInt8) (w : World) (hs : l.length ≤ 20000) (h0 : 0 < l.length) (hl : Lens w) :
    Calls Tryz.prog 54 #[.string ⟨l.toArray⟩] w fun e w' => e = tokErr (tokRes (Tk.readTok l)) ∧ Below w.heap.size w w' := by
  have HL := Lib.hid (hl.alloc (.cells #[.int .i64 0, .string ⟨#[]⟩, .int .i64 0, .int .i64 0, .int .i64 0, .int .i64 0] 43))
  clear hl
  have hm : l.length ≤ maxLen := by unfold maxLen; omega
  have HM := Lib.hid hm
  clear hm
  have hh : l.headD 0 = l[0] := by cases l with | nil => simp at h0 | cons c r => rfl
  by_cases hd : Tk.dateForm l = true
  · have h10 : 10 ≤ l.length := ((dateForm_iff l).1 hd).1
    obtain ⟨p1, p2⟩ := parse_ten l hd
    have HR : Hid (tokRes (Tk.readTok l) = match Tk.dayOf l with | none => ({}, 0, 6) | some d => ({ kind := 3, day := d }, 10, 0)) := by
      show _ = _
      unfold Tk.readTok
      rw [if_pos hd]
      cases Tk.dayOf l <;> rfl
    have P1 := Lib.hid p1
    have P2 := Lib.hid p2
    have HD := Lib.hid hd
    clear p1 p2 hd hh
    go_enter Tryz.func54, Tryz.ntmps54
    go_wp2_with fail
    refine (isDate_any _ _ HM.out).mono ?_
    rintro e w' ⟨rfl, rfl⟩
    rw [HD.out]
    go_wp2_with fail
    refine (calParse_any _ _ HL.out (by unfold maxLen; simp; omega)).mono ?_
    rintro e w' ⟨rfl, rfl⟩
    rw [P1.out, P2.out]
    cases hx : Tk.dayOf l with
    | none =>
      have HR2 : Hid (tokRes (Tk.readTok l) = ({}, 0, 6)) := by show _ = _; rw [HR.out, hx]
      clear hx HR
      simp only [Option.isSome_none]
      go_wp2_with fail
      refine bodyPost_ret (v := .tuple #[.agg #[.int .i64 0, .string ⟨#[]⟩, .int .i64 0, .int .i64 0, .int .i64 0, .int .i64 0], .int .i64 0, .int .i64 6]) (by simp [results, Tryz.results54, go_sem]) rfl ⟨by rw [HR2.out]; rfl, ?_⟩
      exact (Below.refl _ _).alloc (Nat.le_refl _) _
    | some d =>
      have HR2 : Hid (tokRes (Tk.readTok l) = ({ kind := 3, day := d }, 10, 0)) := by show _ = _; rw [HR.out, hx]
      clear hx HR
      simp only [Option.isSome_some, Option.getD_some]
      go_wp2_with fail
      refine bodyPost_ret (v := .tuple #[.agg #[.int .i64 3, .string ⟨#[]⟩, .int .i64 0, .int .i64 0, .int .i64 d, .int .i64 0], .int .i64 10, .int .i64 0]) (by simp [results, Tryz.results54, go_sem]) rfl ⟨by rw [HR2.out]; rfl, ?_⟩
      exact (Below.refl _ _).alloc (Nat.le_refl _) _
  · have hd : Tk.dateForm l = false := by simpa using hd
    have HD := Lib.hid hd
    by_cases hg : Tk.isDig l[0] = true
    · have HR : Hid (tokRes (Tk.readTok l) = numRes (Tk.readNum l)) := numRes_tok l hd (by rw [hh]; exact hg)
      have HG := Lib.hid hg
      clear hd hh hg
      go_enter Tryz.func54, Tryz.ntmps54
      go_wp2_with fail
      refine (isDate_any _ _ HM.out).mono ?_
      rintro e w' ⟨rfl, rfl⟩
      rw [HD.out]
      go_wp2_with fail
      refine (isDigit_any _ _).mono ?_
      rintro e w' ⟨rfl, rfl⟩
      rw [HG.out]
      go_wp2_with fail
      refine (readNumber_any _ _ hs h0).mono ?_
      rintro e w' ⟨rfl, hb⟩
      rw [← HR.out]
      generalize hx : tokRes (Tk.readTok l) = x
      clear HR
      obtain ⟨⟨t1, t2, t3, t4, t5, t6⟩, x2, x3⟩ := x
      have HX := Lib.hid hx
      clear hx
      simp only [tokErr, tokV]
      have hB0 : Below w.heap.size w w' := ((Below.refl _ _).alloc (Nat.le_refl _) _).trans (hb.mono (by simp))
      have hz : w.heap.size < w'.heap.size := by have := hb.size; simp at this; omega
      have hbl := (hb.block w.heap.size (by simp)).trans (heap_alloc_new w _)
      have c0 := Lib.cell_of_heap hbl 0
      have c1 := Lib.cell_of_heap hbl 1
      have c2 := Lib.cell_of_heap hbl 2
      have c3 := Lib.cell_of_heap hbl 3
      have c4 := Lib.cell_of_heap hbl 4
      have c5 := Lib.cell_of_heap hbl 5
      simp only [List.getElem?_toArray, List.getElem?_cons_zero, List.getElem?_cons_succ] at c0 c1 c2 c3 c4 c5
      have f0 := Lib.frozen_of_heap hbl 0
      have f1 := Lib.frozen_of_heap hbl 1
      have f2 := Lib.frozen_of_heap hbl 2
      have f3 := Lib.frozen_of_heap hbl 3
      have f4 := Lib.frozen_of_heap hbl 4
      have f5 := Lib.frozen_of_heap hbl 5
      clear hbl
      go_wp2_with fail
      refine bodyPost_ret (v := .tuple #[.agg #[.int .i64 t1, .string ⟨t2.toArray⟩, .int .i64 t3, .int .i64 t4, .int .i64 t5, .int .i64 t6], .int .i64 x2, .int .i64 x3]) (by simp [results, Tryz.results54, go_sem, c0, c1, c2, c3, c4, c5]) rfl ⟨by rw [HX.out]; rfl, ?_⟩
      exact (((((hB0.setCell (by simp) _).setCell (by simp) _).setCell (by simp) _).setCell (by simp) _).setCell (by simp) _).setCell (by simp) _
    · have hg : Tk.isDig l[0] = false := by simpa using hg
      have HG := Lib.hid hg
      by_cases hw : Tk.isLow l[0] = true
      · have HW := Lib.hid hw
        have hwl := wordLen_le l
        have HR : Hid (tokRes (Tk.readTok l) = if (Tk.isKey (l.take (Tk.wordLen l)) || Tk.isName (l.take (Tk.wordLen l))) = true then ({ kind := 1, text := l.take (Tk.wordLen l) }, (Tk.wordLen l : Int), 0) else ({}, 0, 6)) := by
          show _ = _
          unfold Tk.readTok
          rw [hd, hh, hg, hw]
          simp only [Bool.false_eq_true, if_false, if_true]
          cases (Tk.isKey (l.take (Tk.wordLen l)) || Tk.isName (l.take (Tk.wordLen l))) <;> rfl
        clear hd hh hg hw
        have HK : Hid (∀ c, (Tk.isKey (l.take (Tk.wordLen l)) || Tk.isName (l.take (Tk.wordLen l))) = c → tokRes (Tk.readTok l) = if c = true then ({ kind := 1, text := l.take (Tk.wordLen l) }, (Tk.wordLen l : Int), 0) else ({}, 0, 6)) := by
          show ∀ c, _ → _
          intro c hc
          rw [HR.out, hc]
        clear HR
        go_enter Tryz.func54, Tryz.ntmps54
        go_wp2_with fail
        refine (isDate_any _ _ HM.out).mono ?_
        rintro e w' ⟨rfl, rfl⟩
        rw [HD.out]
        go_wp2_with fail
        refine (isDigit_any _ _).mono ?_
        rintro e w' ⟨rfl, rfl⟩
        rw [HG.out]
        go_wp2_with fail
        refine (isLower_any _ _).mono ?_
        rintro e w' ⟨rfl, rfl⟩
        rw [HW.out]
        go_wp2_with fail
        refine (wordLength_any _ _ HM.out).mono ?_
        rintro e w' ⟨rfl, rfl⟩
        go_wp2_with fail
        refine (isKeyword_any _ _).mono ?_
        rintro e w' ⟨rfl, rfl⟩
        cases hk : Tk.isKey (l.take (Tk.wordLen l))
        · have HK1 := Lib.hid hk
          clear hk
          go_wp2_with fail
          refine (isName_any _ _ (by unfold maxLen; simp; omega)).mono ?_
          rintro e w' ⟨rfl, rfl⟩
          cases hn : Tk.isName (l.take (Tk.wordLen l))
          · have HX : Hid (tokRes (Tk.readTok l) = ({}, 0, 6)) := HK.out false (by rw [HK1.out, hn]; rfl)
            clear hn
            go_wp2_with fail
            refine bodyPost_ret (v := .tuple #[.agg #[.int .i64 0, .string ⟨#[]⟩, .int .i64 0, .int .i64 0, .int .i64 0, .int .i64 0], .int .i64 0, .int .i64 6]) (by simp [results, Tryz.results54, go_sem]) rfl ⟨by rw [HX.out]; rfl, ?_⟩
            exact (Below.refl _ _).alloc (Nat.le_refl _) _
          · have HX : Hid (tokRes (Tk.readTok l) = ({ kind := 1, text := l.take (Tk.wordLen l) }, (Tk.wordLen l : Int), 0)) := HK.out true (by rw [HK1.out, hn]; rfl)
            clear hn
            go_wp2_with fail
            refine bodyPost_ret (v := .tuple #[.agg #[.int .i64 1, .string ⟨(l.take (Tk.wordLen l)).toArray⟩, .int .i64 0, .int .i64 0, .int .i64 0, .int .i64 0], .int .i64 (Tk.wordLen l), .int .i64 0]) (by simp [results, Tryz.results54, go_sem]) rfl ⟨by rw [HX.out]; rfl, ?_⟩
            exact (Below.refl _ _).alloc (Nat.le_refl _) _
        · have HX : Hid (tokRes (Tk.readTok l) = ({ kind := 1, text := l.take (Tk.wordLen l) }, (Tk.wordLen l : Int), 0)) := HK.out true (by rw [hk]; rfl)
          clear hk
          go_wp2_with fail
          refine bodyPost_ret (v := .tuple #[.agg #[.int .i64 1, .string ⟨(l.take (Tk.wordLen l)).toArray⟩, .int .i64 0, .int .i64 0, .int .i64 0, .int .i64 0], .int .i64 (Tk.wordLen l), .int .i64 0]) (by simp [results, Tryz.results54, go_sem]) rfl ⟨by rw [HX.out]; rfl, ?_⟩
          exact (Below.refl _ _).alloc (Nat.le_refl _) _
      · have hw : Tk.isLow l[0] = false := by simpa using hw
        have HW := Lib.hid hw
        obtain ⟨hsl, hs2⟩ := symLen_le l
        have HR : Hid (tokRes (Tk.readTok l) = if Tk.symLen l = 0 then ({}, 0, 6) else ({ kind := 4, text := l.take (Tk.symLen l) }, (Tk.symLen l : Int), 0)) := by
          show _ = _
          unfold Tk.readTok
          rw [hd, hh, hg, hw]
          simp only [Bool.false_eq_true, if_false]
          by_cases h : Tk.symLen l = 0
          · rw [if_pos h, if_pos h]; rfl
          · rw [if_neg h, if_neg h]; rfl
        clear hd hh hg hw
        by_cases hz : Tk.symLen l = 0
        · have HX : Hid (tokRes (Tk.readTok l) = ({}, 0, 6)) := by show _ = _; rw [HR.out, if_pos hz]
          have HZ := Lib.hid hz
          clear HR hz
          go_enter Tryz.func54, Tryz.ntmps54
          go_wp2_with fail
          refine (isDate_any _ _ HM.out).mono ?_
          rintro e w' ⟨rfl, rfl⟩
          rw [HD.out]
          go_wp2_with fail
          refine (isDigit_any _ _).mono ?_
          rintro e w' ⟨rfl, rfl⟩
          rw [HG.out]
          go_wp2_with fail
          refine (isLower_any _ _).mono ?_
          rintro e w' ⟨rfl, rfl⟩
          rw [HW.out]
          go_wp2_with fail
          refine (symbolLength_any _ _ HM.out).mono ?_
          rintro e w' ⟨rfl, rfl⟩
          rw [HZ.out]
          go_wp2_with fail
          refine bodyPost_ret (v := .tuple #[.agg #[.int .i64 0, .string ⟨#[]⟩, .int .i64 0, .int .i64 0, .int .i64 0, .int .i64 0], .int .i64 0, .int .i64 6]) (by simp [results, Tryz.results54, go_sem]) rfl ⟨by rw [HX.out]; rfl, ?_⟩
          exact (Below.refl _ _).alloc (Nat.le_refl _) _
        · have HX : Hid (tokRes (Tk.readTok l) = ({ kind := 4, text := l.take (Tk.symLen l) }, (Tk.symLen l : Int), 0)) := by show _ = _; rw [HR.out, if_neg hz]
          have gz : ((Tk.symLen l : Int) == 0) = false := by simpa using hz
          clear HR hz
          go_enter Tryz.func54, Tryz.ntmps54
          go_wp2_with fail
          refine (isDate_any _ _ HM.out).mono ?_
          rintro e w' ⟨rfl, rfl⟩
          rw [HD.out]
          go_wp2_with fail
          refine (isDigit_any _ _).mono ?_
          rintro e w' ⟨rfl, rfl⟩
          rw [HG.out]
          go_wp2_with fail
          refine (isLower_any _ _).mono ?_
          rintro e w' ⟨rfl, rfl⟩
          rw [HW.out]
          go_wp2_with fail
          refine (symbolLength_any _ _ HM.out).mono ?_
          rintro e w' ⟨rfl, rfl⟩
          go_wp2_with fail
          refine bodyPost_ret (v := .tuple #[.agg #[.int .i64 4, .string ⟨(l.take (Tk.symLen l)).toArray⟩, .int .i64 0, .int .i64 0, .int .i64 0, .int .i64 0], .int .i64 (Tk.symLen l), .int .i64 0]) (by simp [results, Tryz.results54, go_sem]) rfl ⟨by rw [HX.out]; rfl, ?_⟩
          exact (Below.refl _ _).alloc (Nat.le_refl _) _
end Go.Proofs.YtpdbkbadjgellaaGreatDoor

namespace Go.Proofs.YtpdbkbadjgellaaGreatDoor
open Go.RowKit
attribute [local go_sem] ba_get ba_extract take_rest

/-- The tables that the texts of numbers need. -/
def Pow (w : World) : Prop := Lib.TabIs Tryz.prog w "internal/strconv.uint64pow10" .u64 Lib.pow10Tab
theorem gPow : Tryz.prog.globalNamed "internal/strconv.uint64pow10" = some 1 := by kernel_rfl
theorem Pow.below {w w' : World} (h : Pow w) (hb : Below w.heap.size w w') : Pow w' := Joins.tab_stays gPow h hb (Nat.le_refl _)
theorem Pow.alloc {w : World} (h : Pow w) (o : Obj) : Pow (w.alloc o) := h.below ((Below.refl _ _).alloc (Nat.le_refl _) _)
theorem below_grow (w : World) (n : Nat) (os : Array Obj) : Below w.heap.size w (Sort.grow (w.drewN n) os) :=
  ⟨rfl, rfl, rfl, by simp [Sort.grow], fun k hk => by show (w.heap ++ os)[k]? = _; rw [Array.getElem?_append_left hk]⟩

theorem itoa_any (n : Int) (w : World) (h0 : -9223372036854775808 ≤ n) (h1 : n ≤ 9223372036854775807) (hp : Pow w) :
    Calls Tryz.prog 36 #[.int .i64 n] w fun e w' => e = .returned (.string ⟨(Lib.itoa n).toArray⟩) ∧ Below w.heap.size w w' := by
  refine (Tryz.strconv_Itoa n h0 h1 w hp).mono ?_
  rintro e w' ⟨rfl, k, os, rfl⟩
  exact ⟨rfl, below_grow w k os⟩

def inDays (d : Int) : Bool := decide (0 ≤ d ∧ d ≤ 84005)
theorem calValid_any (d : Int) (w : World) :
    Calls Tryz.prog 104 #[.int .i64 d] w fun e w' => e = .returned (.bool (inDays d)) ∧ w = w' := by
  go_enter Tryz.func104, Tryz.ntmps104
  go_wp2
  all_goals
    go_ret
    refine ⟨ret_bool ?_, rfl⟩
    unfold inDays
    rw [Bool.eq_iff_iff]
    simp
    omega

set_option maxHeartbeats 1000000 in
theorem yearOf_any (d : Int) (w : World) (h0 : 0 ≤ d) (h1 : d ≤ 84005) :
    Calls Tryz.prog 105 #[.int .i64 d] w fun e w' => e = .returned (.int .i64 (Tk.yOf d)) ∧ w = w' := by
  have hg := Tk.begn_guess d h0
  go_enter Tryz.func105, Tryz.ntmps105
  go_wp2_with fail
  go_loop [3] (fun t => ∃ (f : Nat) (y : Int), 1970 + d / 366 ≤ y ∧ y ≤ 2199 ∧ Hid ((f : Int) + y = 300 + (1970 + d / 366)) ∧ Tk.begn y ≤ d ∧ t = .int .i64 y ∧ Hid (Tk.yearUp f y d = Tk.yOf d)) (fun t => (2199 - intOf t).toNat)
  case atStart => exact ⟨300, _, Int.le_refl _, by omega, rfl, hg, rfl, rfl⟩
  case round =>
    obtain ⟨f, y, hy1, hy2, HF, hy3, rfl, HY⟩ := hrel
    by_cases hc : Tk.begn (y + 1) ≤ d
    · have hy4 : y + 1 ≤ 2199 := by
        rcases Int.lt_or_le y 2199 with h | h
        · omega
        · have := Tk.begn_mono 2200 (y + 1) (by omega)
          rw [Tk.begn_2200] at this
          omega
      have hf : 1 ≤ f := by have := HF.out; omega
      obtain ⟨g, rfl⟩ : ∃ g, f = g + 1 := ⟨f - 1, by omega⟩
      have HF2 : Hid ((g : Int) + (y + 1) = 300 + (1970 + d / 366)) := by show _ = _; have := HF.out; omega
      have HY2 : Hid (Tk.yearUp g (y + 1) d = Tk.yOf d) := by show _ = _; rw [← HY.out, Tk.yearUp, if_pos hc]
      go_wp2_with (go_at_call 106; refine (begin_any _ _ (by omega) (by omega)).mono ?_; rintro e w' ⟨rfl, rfl⟩)
      go_round
      case rel => exact ⟨g, y + 1, by omega, by omega, HF2, hc, rfl, HY2⟩
      case measure => simp [intOf]; omega
    · have HY2 : Hid (Tk.yOf d = y) := by show _ = _; rw [← HY.out]; exact Tk.yearUp_stop f y d (by omega)
      go_wp2_with (go_at_call 106; refine (begin_any _ _ (by omega) (by omega)).mono ?_; rintro e w' ⟨rfl, rfl⟩)
      go_ret
      exact ⟨ret_int HY2.out.symm, rfl⟩

theorem results_tmp4 {fn : Func} {t u v x : Tmp} (h : fn.results = #[.tmp t, .tmp u, .tmp v, .tmp x]) (tmps : Array Value) (P : Program) (w : World) :
    (results fn tmps).run P w = .ok (.tuple #[tmps.getD t undef, tmps.getD u undef, tmps.getD v undef, tmps.getD x undef]) w := by simp [results, h]

/-- Date's four results. -/
def dateRes (d : Int) : Ending := if inDays d = true then .returned (.tuple #[.int .i64 (Tk.yOf d), .int .i64 (Tk.mOf d), .int .i64 (Tk.dOf d), .bool true]) else .returned (.tuple #[.int .i64 0, .int .i64 0, .int .i64 0, .bool false])

set_option maxHeartbeats 1000000 in
theorem date_any (d : Int) (w : World) (hl : Lens w) :
    Calls Tryz.prog 80 #[.int .i64 d] w fun e w' => e = dateRes d ∧ w = w' := by
  have HL := Lib.hid hl
  clear hl
  by_cases hd : 0 ≤ d ∧ d ≤ 84005
  · have HD : Hid (inDays d = true) := decide_eq_true hd
    obtain ⟨h0, h1⟩ := hd
    obtain ⟨a, b, c, e⟩ := Tk.yOf_spec d h0 h1
    have HM : Hid (Tk.mOf d = (Tk.monUp 12 (Tk.yOf d) 1 (d - Tk.begn (Tk.yOf d))).1 ∧ Tk.dOf d = (Tk.monUp 12 (Tk.yOf d) 1 (d - Tk.begn (Tk.yOf d))).2 + 1) := ⟨rfl, rfl⟩
    have hs := Tk.begn_succ (Tk.yOf d)
    rw [← Tk.cum12] at hs
    generalize hy : Tk.yOf d = y at *
    have HY := Lib.hid hy
    have HS : d < Tk.begn y + Tk.cumM y 12 := by omega
    have hb9 : 0 ≤ Tk.begn y := by
      have := Tk.begn_mono 1970 y (by omega)
      have e0 : Tk.begn 1970 = 0 := by decide
      omega
    have hc366 : d - Tk.begn y ≤ 366 := by have := Tk.cum12 y; split at this <;> omega
    have hc0 : d - Tk.begn y + Tk.cumM y 0 < Tk.cumM y 12 := by
      have : Tk.cumM y 0 = 0 := rfl
      omega
    clear hy hs
    go_enter Tryz.func80, Tryz.ntmps80
    go_wp2_with fail
    refine (calValid_any d _).mono ?_
    rintro e w' ⟨rfl, rfl⟩
    rw [HD.out]
    go_wp2_with fail
    refine (yearOf_any d _ h0 h1).mono ?_
    rintro e w' ⟨rfl, rfl⟩
    rw [HY.out]
    go_wp2_with fail
    refine (begin_any y _ (by omega) (by omega)).mono ?_
    rintro e w' ⟨rfl, rfl⟩
    go_wp2_with fail
    go_loop [7, 8] (fun r i => ∃ (k f : Nat) (x : Int), k ≤ 11 ∧ k + f = 12 ∧ 0 ≤ x ∧ x ≤ 366 ∧ x + Tk.cumM y k < Tk.cumM y 12 ∧ i = .int .i64 ((k : Int) + 1) ∧ r = .int .i64 x ∧ Hid (Tk.monUp f y (k + 1) x = Tk.monUp 12 y 1 (d - Tk.begn y))) (fun _ i => (13 - intOf i).toNat)
    case atStart => exact ⟨0, 12, d - Tk.begn y, by omega, rfl, by omega, hc366, hc0, rfl, rfl, rfl⟩
    case round =>
      obtain ⟨k, f, x, hk, hkf, hx0, hx1, hx2, rfl, rfl, HX⟩ := hrel
      have hml := mlen_bd y (k + 1)
      obtain ⟨c3, c4⟩ := hml
      by_cases hc : Tk.mlen y (k + 1) ≤ x
      · have hk2 : k + 1 ≤ 11 := by
          rcases Nat.lt_or_ge k 11 with h | h
          · omega
          · have hk11 : k = 11 := by omega
            subst hk11
            have := Tk.cum_succ y 11
            simp only [Nat.reduceAdd] at this
            omega
        obtain ⟨g, rfl⟩ : ∃ g, f = g + 1 := ⟨f - 1, by omega⟩
        have HX2 : Hid (Tk.monUp g y ((k + 1 : Nat) + 1) (x - Tk.mlen y (k + 1)) = Tk.monUp 12 y 1 (d - Tk.begn y)) := by
          show _ = _
          rw [← HX.out]
          conv => rhs; rw [Tk.monUp, if_pos hc]
          simp
        have hx3 : x - Tk.mlen y (k + 1) + Tk.cumM y (k + 1) < Tk.cumM y 12 := by rw [Tk.cum_succ]; omega
        go_wp2_with fail
        refine (length_int _ _ _ (by omega) (by omega) (by omega) (by omega) HL.out).mono ?_
        rintro e w' ⟨rfl, rfl⟩
        go_wp2_with fail
        refine (length_int _ _ _ (by omega) (by omega) (by omega) (by omega) HL.out).mono ?_
        rintro e w' ⟨rfl, rfl⟩
        go_wp2_with fail
        go_round
        case rel => exact ⟨k + 1, g, x - Tk.mlen y (k + 1), by omega, by omega, by omega, by omega, hx3, by go_num, rfl, HX2⟩
        case measure => simp [intOf]; omega
      · have HX2 : Hid (Tk.mOf d = (k : Int) + 1 ∧ Tk.dOf d = x + 1) := by
          show _ ∧ _
          have hm := HM.out
          rw [← HX.out, Tk.monUp_stop f y _ x (by omega)] at hm
          exact hm
        go_wp2_with fail
        refine (length_int _ _ _ (by omega) (by omega) (by omega) (by omega) HL.out).mono ?_
        rintro e w' ⟨rfl, rfl⟩
        go_wp2_with fail
        refine bodyPost_ret (results_tmp4 rfl _ _ _) rfl ⟨?_, rfl⟩
        unfold dateRes
        rw [HD.out, if_pos rfl, HX2.out.1, HX2.out.2, HY.out]
        rfl
  · have HD : Hid (inDays d = false) := decide_eq_false hd
    clear hd
    go_enter Tryz.func80, Tryz.ntmps80
    go_wp2_with fail
    refine (calValid_any d _).mono ?_
    rintro e w' ⟨rfl, rfl⟩
    rw [HD.out]
    go_wp2_with fail
    refine bodyPost_ret (results_tmp4 rfl _ _ _) rfl ⟨?_, rfl⟩
    unfold dateRes
    rw [HD.out]
    rfl
end Go.Proofs.YtpdbkbadjgellaaGreatDoor

namespace Go.Proofs.YtpdbkbadjgellaaGreatDoor
open Go.RowKit
attribute [local go_sem] ba_get ba_extract take_rest ba_append

theorem calTwo_any (n : Int) (w : World) (h0 : 0 ≤ n) (h1 : n ≤ 99) (hp : Pow w) :
    Calls Tryz.prog 81 #[.int .i64 n] w fun e w' => e = .returned (.string ⟨(Tk.two n).toArray⟩) ∧ Below w.heap.size w w' := by
  have HP := Lib.hid hp
  clear hp
  have hln := Lib.itoa_length_le n (by omega) (by omega)
  by_cases h : n < 10
  · have HT : Hid (Tk.two n = 48 :: Lib.itoa n) := by show _ = _; unfold Tk.two; rw [if_pos h]
    go_enter Tryz.func81, Tryz.ntmps81
    go_wp2_with fail
    refine (itoa_any n _ (by omega) (by omega) HP.out).mono ?_
    rintro e w1 ⟨rfl, hb⟩
    go_wp2_with fail
    go_ret
    exact ⟨ret_str HT.out.symm, hb⟩
  · have HT : Hid (Tk.two n = Lib.itoa n) := by show _ = _; unfold Tk.two; rw [if_neg h]
    go_enter Tryz.func81, Tryz.ntmps81
    go_wp2_with fail
    refine (itoa_any n _ (by omega) (by omega) HP.out).mono ?_
    rintro e w1 ⟨rfl, hb⟩
    go_wp2_with fail
    go_ret
    exact ⟨ret_str HT.out.symm, hb⟩

theorem two_len (n : Int) (h0 : 0 ≤ n) (h1 : n ≤ 99) : (Tk.two n).length ≤ 22 := by
  have hln := Lib.itoa_length_le n (by omega) (by omega)
  unfold Tk.two
  split <;> simp <;> omega

set_option maxHeartbeats 1000000 in
theorem calFormat_any (d : Int) (w : World) (hl : Lens w) (hp : Pow w) :
    Calls Tryz.prog 50 #[.int .i64 d] w fun e w' => e = .returned (.string ⟨(Tk.dateText d).toArray⟩) ∧ Below w.heap.size w w' := by
  have HP := Lib.hid hp
  have HL := Lib.hid hl
  clear hp hl
  by_cases hd : 0 ≤ d ∧ d ≤ 84005
  · have HT : Hid (Tk.dateText d = Lib.itoa (Tk.yOf d) ++ [45] ++ Tk.two (Tk.mOf d) ++ [45] ++ Tk.two (Tk.dOf d)) := by show _ = _; unfold Tk.dateText; rw [if_pos hd]
    have HD : Hid (dateRes d = .returned (.tuple #[.int .i64 (Tk.yOf d), .int .i64 (Tk.mOf d), .int .i64 (Tk.dOf d), .bool true])) := by
      show _ = _
      unfold dateRes inDays
      rw [if_pos (decide_eq_true hd)]
    have hs := (Tk.date_spec d hd.1 hd.2).1
    have hs2 := of_decide_eq_true hs
    obtain ⟨y1, y2, m1, m2, d1, d2⟩ := hs2
    have d3 := (mlen_bd (Tk.yOf d) (Tk.mOf d)).2
    clear hs hd
    generalize Tk.yOf d = y at *
    generalize Tk.mOf d = m at *
    generalize Tk.dOf d = a at *
    have l1 := Lib.itoa_length_le y (by omega) (by omega)
    have l2 := two_len m (by omega) (by omega)
    have l3 := two_len a (by omega) (by omega)
    go_enter Tryz.func50, Tryz.ntmps50
    go_wp2_with fail
    refine (date_any d _ HL.out).mono ?_
    rintro e w' ⟨rfl, rfl⟩
    rw [HD.out]
    go_wp2_with fail
    refine (itoa_any y _ (by omega) (by omega) HP.out).mono ?_
    rintro e w1 ⟨rfl, hb1⟩
    go_wp2_with fail
    refine (calTwo_any m _ (by omega) (by omega) (HP.out.below hb1)).mono ?_
    rintro e w2 ⟨rfl, hb2⟩
    have hb12 : Below w.heap.size w w2 := hb1.trans (hb2.mono hb1.size)
    go_wp2_with fail
    refine (calTwo_any a _ (by omega) (by omega) (HP.out.below hb12)).mono ?_
    rintro e w3 ⟨rfl, hb3⟩
    have hb13 : Below w.heap.size w w3 := hb12.trans (hb3.mono hb12.size)
    go_wp2_with fail
    go_ret
    exact ⟨ret_str (by rw [HT.out]; simp), hb13⟩
  · have HT : Hid (Tk.dateText d = []) := by show _ = _; unfold Tk.dateText; rw [if_neg hd]
    have HD : Hid (dateRes d = .returned (.tuple #[.int .i64 0, .int .i64 0, .int .i64 0, .bool false])) := by
      show _ = _
      unfold dateRes inDays
      rw [if_neg (by simpa using hd)]
    clear hd
    go_enter Tryz.func50, Tryz.ntmps50
    go_wp2_with fail
    refine (date_any d _ HL.out).mono ?_
    rintro e w' ⟨rfl, rfl⟩
    rw [HD.out]
    go_wp2_with fail
    go_ret
    exact ⟨ret_str HT.out.symm, Below.refl _ _⟩
end Go.Proofs.YtpdbkbadjgellaaGreatDoor

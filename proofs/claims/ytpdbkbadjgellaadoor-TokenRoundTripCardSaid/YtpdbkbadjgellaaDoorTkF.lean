/-
  The walk of package token's read.
-/
import Derived.Test.YtpdbkbadjgellaaDoorTkE
namespace Go.Proofs.YtpdbkbadjgellaaDoor
open Go.RowKit
attribute [local go_sem] ba_get ba_extract take_rest

theorem Lens.below {w w' : World} (h : Lens w) (hb : Below w.heap.size w w') : Lens w' := fun m h1 h2 => by
  have hc := h m h1 h2
  rw [hb.cell (World.block_lt_of_cell? w _ hc)]
  exact hc
theorem Lens.alloc {w : World} (h : Lens w) (o : Obj) : Lens (w.alloc o) := h.below ((Below.refl _ _).alloc (Nat.le_refl _) _)

def tokRes : Except Int (Tk.Tok × Nat) → Tk.Tok × Int × Int
  | .error e => ({}, 0, e)
  | .ok (t, n) => (t, n, 0)

/-- The date of a text's first ten bytes. -/
theorem parse_ten (l : List UInt8) (h : Tk.dateForm l = true) : parseOK (l.take 10) = (Tk.dayOf l).isSome ∧ parseR (l.take 10) = (Tk.dayOf l).getD 0 := by
  have h10 := ((dateForm_iff l).1 h).1
  have e1 : Tk.dateForm (l.take 10) = true := by
    rw [dateForm_iff]
    refine ⟨by simp; omega, fun i hi => ?_⟩
    have := ((dateForm_iff l).1 h).2 i hi
    unfold dateAt at this ⊢
    rw [getD_eq (l.take 10) i (by simp; omega), List.getElem_take, ← getD_eq l i (by omega)]
    exact this
  have e2 : Tk.dateY (l.take 10) = Tk.dateY l := by unfold Tk.dateY; rw [List.take_take]; rfl
  have e3 : Tk.dateM (l.take 10) = Tk.dateM l := by unfold Tk.dateM; rw [List.drop_take, List.take_take]; rfl
  have e4 : Tk.dateD (l.take 10) = Tk.dateD l := by unfold Tk.dateD; rw [List.drop_take, List.take_take]; rfl
  have e5 : parseOK (l.take 10) = Tk.dayOK (Tk.dateY l) (Tk.dateM l) (Tk.dateD l) := by
    unfold parseOK
    rw [e1, e2, e3, e4]
    simp; omega
  have e6 : (Tk.dayOf l).isSome = Tk.dayOK (Tk.dateY l) (Tk.dateM l) (Tk.dateD l) := by
    unfold Tk.dayOf
    cases Tk.dayOK (Tk.dateY l) (Tk.dateM l) (Tk.dateD l) <;> rfl
  refine ⟨e5.trans e6.symm, ?_⟩
  unfold parseR Tk.dayOf
  rw [e5, e2, e3, e4]
  cases Tk.dayOK (Tk.dateY l) (Tk.dateM l) (Tk.dateD l) <;> rfl

theorem wordLen_le (l : List UInt8) : Tk.wordLen l ≤ l.length := by
  cases l with
  | nil => simp [Tk.wordLen]
  | cons c r =>
    have := Tk.lead_le Tk.isWord r
    simp only [Tk.wordLen, List.length_cons]
    split <;> omega
theorem symLen_le (l : List UInt8) : Tk.symLen l ≤ l.length ∧ Tk.symLen l ≤ 2 := by
  cases l with
  | nil => simp [Tk.symLen]
  | cons c r =>
    simp only [Tk.symLen, List.length_cons]
    split
    · rename_i h
      cases r with
      | nil => simp [Tk.pair] at h
      | cons d r => simp
    · split <;> omega

theorem numRes_tok (l : List UInt8) (h1 : Tk.dateForm l = false) (h2 : Tk.isDig (l.headD 0) = true) : tokRes (Tk.readTok l) = numRes (Tk.readNum l) := by
  unfold Tk.readTok
  rw [h1, h2]
  simp only [Bool.false_eq_true, if_false, if_true]
  cases Tk.readNum l <;> rfl

set_option maxHeartbeats 2000000 in
set_option maxRecDepth 100000 in
theorem read_any (l : List UInt8) (w : World) (hs : l.length ≤ 20000) (h0 : 0 < l.length) (hl : Lens w) :
    Calls Tryd.prog 20 #[.string ⟨l.toArray⟩] w fun e w' => e = tokErr (tokRes (Tk.readTok l)) ∧ Below w.heap.size w w' := by
  have HL := Lib.hid (hl.alloc (.cells #[.int .i64 0, .string ⟨#[]⟩, .int .i64 0, .int .i64 0, .int .i64 0, .int .i64 0] 39))
  clear hl
  have hm : l.length ≤ maxLen := by unfold maxLen; omega
  have HM := Lib.hid hm
  clear hm
  have hh : l.headD 0 = l[0] := by cases l with | nil => simp at h0 | cons c r => rfl
  by_cases hd : Tk.dateForm l = true
  · have h10 : 10 ≤ l.length := ((dateForm_iff l).1 hd).1
    obtain ⟨p1, p2⟩ := parse_ten l hd
    have HR : Hid (tokRes (Tk.readTok l) = match Tk.dayOf l with | none => ({}, 0, 6) | some d => ({ kind := 3, day := d }, 10, 0)) := by
      show _ = _
      unfold Tk.readTok
      rw [if_pos hd]
      cases Tk.dayOf l <;> rfl
    have P1 := Lib.hid p1
    have P2 := Lib.hid p2
    have HD := Lib.hid hd
    clear p1 p2 hd hh
    go_enter Tryd.func20, Tryd.ntmps20
    go_wp2_with fail
    refine (isDate_any _ _ HM.out).mono ?_
    rintro e w' ⟨rfl, rfl⟩
    rw [HD.out]
    go_wp2_with fail
    refine (calParse_any _ _ HL.out (by unfold maxLen; simp; omega)).mono ?_
    rintro e w' ⟨rfl, rfl⟩
    rw [P1.out, P2.out]
    cases hx : Tk.dayOf l with
    | none =>
      have HR2 : Hid (tokRes (Tk.readTok l) = ({}, 0, 6)) := by show _ = _; rw [HR.out, hx]
      clear hx HR
      simp only [Option.isSome_none]
      go_wp2_with fail
      refine bodyPost_ret (v := .tuple #[.agg #[.int .i64 0, .string ⟨#[]⟩, .int .i64 0, .int .i64 0, .int .i64 0, .int .i64 0], .int .i64 0, .int .i64 6]) (by simp [results, Tryd.results20, go_sem]) rfl ⟨by rw [HR2.out]; rfl, ?_⟩
      exact (Below.refl _ _).alloc (Nat.le_refl _) _
    | some d =>
      have HR2 : Hid (tokRes (Tk.readTok l) = ({ kind := 3, day := d }, 10, 0)) := by show _ = _; rw [HR.out, hx]
      clear hx HR
      simp only [Option.isSome_some, Option.getD_some]
      go_wp2_with fail
      refine bodyPost_ret (v := .tuple #[.agg #[.int .i64 3, .string ⟨#[]⟩, .int .i64 0, .int .i64 0, .int .i64 d, .int .i64 0], .int .i64 10, .int .i64 0]) (by simp [results, Tryd.results20, go_sem]) rfl ⟨by rw [HR2.out]; rfl, ?_⟩
      exact (Below.refl _ _).alloc (Nat.le_refl _) _
  · have hd : Tk.dateForm l = false := by simpa using hd
    have HD := Lib.hid hd
    by_cases hg : Tk.isDig l[0] = true
    · have HR : Hid (tokRes (Tk.readTok l) = numRes (Tk.readNum l)) := numRes_tok l hd (by rw [hh]; exact hg)
      have HG := Lib.hid hg
      clear hd hh hg
      go_enter Tryd.func20, Tryd.ntmps20
      go_wp2_with fail
      refine (isDate_any _ _ HM.out).mono ?_
      rintro e w' ⟨rfl, rfl⟩
      rw [HD.out]
      go_wp2_with fail
      refine (isDigit_any _ _).mono ?_
      rintro e w' ⟨rfl, rfl⟩
      rw [HG.out]
      go_wp2_with fail
      refine (readNumber_any _ _ hs h0).mono ?_
      rintro e w' ⟨rfl, hb⟩
      rw [← HR.out]
      generalize hx : tokRes (Tk.readTok l) = x
      clear HR
      obtain ⟨⟨t1, t2, t3, t4, t5, t6⟩, x2, x3⟩ := x
      have HX := Lib.hid hx
      clear hx
      simp only [tokErr, tokV]
      have hB0 : Below w.heap.size w w' := ((Below.refl _ _).alloc (Nat.le_refl _) _).trans (hb.mono (by simp))
      have hz : w.heap.size < w'.heap.size := by have := hb.size; simp at this; omega
      have hbl := (hb.block w.heap.size (by simp)).trans (heap_alloc_new w _)
      have c0 := Lib.cell_of_heap hbl 0
      have c1 := Lib.cell_of_heap hbl 1
      have c2 := Lib.cell_of_heap hbl 2
      have c3 := Lib.cell_of_heap hbl 3
      have c4 := Lib.cell_of_heap hbl 4
      have c5 := Lib.cell_of_heap hbl 5
      simp only [List.getElem?_toArray, List.getElem?_cons_zero, List.getElem?_cons_succ] at c0 c1 c2 c3 c4 c5
      have f0 := Lib.frozen_of_heap hbl 0
      have f1 := Lib.frozen_of_heap hbl 1
      have f2 := Lib.frozen_of_heap hbl 2
      have f3 := Lib.frozen_of_heap hbl 3
      have f4 := Lib.frozen_of_heap hbl 4
      have f5 := Lib.frozen_of_heap hbl 5
      clear hbl
      go_wp2_with fail
      refine bodyPost_ret (v := .tuple #[.agg #[.int .i64 t1, .string ⟨t2.toArray⟩, .int .i64 t3, .int .i64 t4, .int .i64 t5, .int .i64 t6], .int .i64 x2, .int .i64 x3]) (by simp [results, Tryd.results20, go_sem, c0, c1, c2, c3, c4, c5]) rfl ⟨by rw [HX.out]; rfl, ?_⟩
      exact (((((hB0.setCell (by simp) _).setCell (by simp) _).setCell (by simp) _).setCell (by simp) _).setCell (by simp) _).setCell (by simp) _
    · have hg : Tk.isDig l[0] = false := by simpa using hg
      have HG := Lib.hid hg
      by_cases hw : Tk.isLow l[0] = true
      · have HW := Lib.hid hw
        have hwl := wordLen_le l
        have HR : Hid (tokRes (Tk.readTok l) = if (Tk.isKey (l.take (Tk.wordLen l)) || Tk.isName (l.take (Tk.wordLen l))) = true then ({ kind := 1, text := l.take (Tk.wordLen l) }, (Tk.wordLen l : Int), 0) else ({}, 0, 6)) := by
          show _ = _
          unfold Tk.readTok
          rw [hd, hh, hg, hw]
          simp only [Bool.false_eq_true, if_false, if_true]
          cases (Tk.isKey (l.take (Tk.wordLen l)) || Tk.isName (l.take (Tk.wordLen l))) <;> rfl
        clear hd hh hg hw
        have HK : Hid (∀ c, (Tk.isKey (l.take (Tk.wordLen l)) || Tk.isName (l.take (Tk.wordLen l))) = c → tokRes (Tk.readTok l) = if c = true then ({ kind := 1, text := l.take (Tk.wordLen l) }, (Tk.wordLen l : Int), 0) else ({}, 0, 6)) := by
          show ∀ c, _ → _
          intro c hc
          rw [HR.out, hc]
        clear HR
        go_enter Tryd.func20, Tryd.ntmps20
        go_wp2_with fail
        refine (isDate_any _ _ HM.out).mono ?_
        rintro e w' ⟨rfl, rfl⟩
        rw [HD.out]
        go_wp2_with fail
        refine (isDigit_any _ _).mono ?_
        rintro e w' ⟨rfl, rfl⟩
        rw [HG.out]
        go_wp2_with fail
        refine (isLower_any _ _).mono ?_
        rintro e w' ⟨rfl, rfl⟩
        rw [HW.out]
        go_wp2_with fail
        refine (wordLength_any _ _ HM.out).mono ?_
        rintro e w' ⟨rfl, rfl⟩
        go_wp2_with fail
        refine (isKeyword_any _ _).mono ?_
        rintro e w' ⟨rfl, rfl⟩
        cases hk : Tk.isKey (l.take (Tk.wordLen l))
        · have HK1 := Lib.hid hk
          clear hk
          go_wp2_with fail
          refine (isName_any _ _ (by unfold maxLen; simp; omega)).mono ?_
          rintro e w' ⟨rfl, rfl⟩
          cases hn : Tk.isName (l.take (Tk.wordLen l))
          · have HX : Hid (tokRes (Tk.readTok l) = ({}, 0, 6)) := HK.out false (by rw [HK1.out, hn]; rfl)
            clear hn
            go_wp2_with fail
            refine bodyPost_ret (v := .tuple #[.agg #[.int .i64 0, .string ⟨#[]⟩, .int .i64 0, .int .i64 0, .int .i64 0, .int .i64 0], .int .i64 0, .int .i64 6]) (by simp [results, Tryd.results20, go_sem]) rfl ⟨by rw [HX.out]; rfl, ?_⟩
            exact (Below.refl _ _).alloc (Nat.le_refl _) _
          · have HX : Hid (tokRes (Tk.readTok l) = ({ kind := 1, text := l.take (Tk.wordLen l) }, (Tk.wordLen l : Int), 0)) := HK.out true (by rw [HK1.out, hn]; rfl)
            clear hn
            go_wp2_with fail
            refine bodyPost_ret (v := .tuple #[.agg #[.int .i64 1, .string ⟨(l.take (Tk.wordLen l)).toArray⟩, .int .i64 0, .int .i64 0, .int .i64 0, .int .i64 0], .int .i64 (Tk.wordLen l), .int .i64 0]) (by simp [results, Tryd.results20, go_sem]) rfl ⟨by rw [HX.out]; rfl, ?_⟩
            exact (Below.refl _ _).alloc (Nat.le_refl _) _
        · have HX : Hid (tokRes (Tk.readTok l) = ({ kind := 1, text := l.take (Tk.wordLen l) }, (Tk.wordLen l : Int), 0)) := HK.out true (by rw [hk]; rfl)
          clear hk
          go_wp2_with fail
          refine bodyPost_ret (v := .tuple #[.agg #[.int .i64 1, .string ⟨(l.take (Tk.wordLen l)).toArray⟩, .int .i64 0, .int .i64 0, .int .i64 0, .int .i64 0], .int .i64 (Tk.wordLen l), .int .i64 0]) (by simp [results, Tryd.results20, go_sem]) rfl ⟨by rw [HX.out]; rfl, ?_⟩
          exact (Below.refl _ _).alloc (Nat.le_refl _) _
      · have hw : Tk.isLow l[0] = false := by simpa using hw
        have HW := Lib.hid hw
        obtain ⟨hsl, hs2⟩ := symLen_le l
        have HR : Hid (tokRes (Tk.readTok l) = if Tk.symLen l = 0 then ({}, 0, 6) else ({ kind := 4, text := l.take (Tk.symLen l) }, (Tk.symLen l : Int), 0)) := by
          show _ = _
          unfold Tk.readTok
          rw [hd, hh, hg, hw]
          simp only [Bool.false_eq_true, if_false]
          by_cases h : Tk.symLen l = 0
          · rw [if_pos h, if_pos h]; rfl
          · rw [if_neg h, if_neg h]; rfl
        clear hd hh hg hw
        by_cases hz : Tk.symLen l = 0
        · have HX : Hid (tokRes (Tk.readTok l) = ({}, 0, 6)) := by show _ = _; rw [HR.out, if_pos hz]
          have HZ := Lib.hid hz
          clear HR hz
          go_enter Tryd.func20, Tryd.ntmps20
          go_wp2_with fail
          refine (isDate_any _ _ HM.out).mono ?_
          rintro e w' ⟨rfl, rfl⟩
          rw [HD.out]
          go_wp2_with fail
          refine (isDigit_any _ _).mono ?_
          rintro e w' ⟨rfl, rfl⟩
          rw [HG.out]
          go_wp2_with fail
          refine (isLower_any _ _).mono ?_
          rintro e w' ⟨rfl, rfl⟩
          rw [HW.out]
          go_wp2_with fail
          refine (symbolLength_any _ _ HM.out).mono ?_
          rintro e w' ⟨rfl, rfl⟩
          rw [HZ.out]
          go_wp2_with fail
          refine bodyPost_ret (v := .tuple #[.agg #[.int .i64 0, .string ⟨#[]⟩, .int .i64 0, .int .i64 0, .int .i64 0, .int .i64 0], .int .i64 0, .int .i64 6]) (by simp [results, Tryd.results20, go_sem]) rfl ⟨by rw [HX.out]; rfl, ?_⟩
          exact (Below.refl _ _).alloc (Nat.le_refl _) _
        · have HX : Hid (tokRes (Tk.readTok l) = ({ kind := 4, text := l.take (Tk.symLen l) }, (Tk.symLen l : Int), 0)) := by show _ = _; rw [HR.out, if_neg hz]
          have gz : ((Tk.symLen l : Int) == 0) = false := by simpa using hz
          clear HR hz
          go_enter Tryd.func20, Tryd.ntmps20
          go_wp2_with fail
          refine (isDate_any _ _ HM.out).mono ?_
          rintro e w' ⟨rfl, rfl⟩
          rw [HD.out]
          go_wp2_with fail
          refine (isDigit_any _ _).mono ?_
          rintro e w' ⟨rfl, rfl⟩
          rw [HG.out]
          go_wp2_with fail
          refine (isLower_any _ _).mono ?_
          rintro e w' ⟨rfl, rfl⟩
          rw [HW.out]
          go_wp2_with fail
          refine (symbolLength_any _ _ HM.out).mono ?_
          rintro e w' ⟨rfl, rfl⟩
          go_wp2_with fail
          refine bodyPost_ret (v := .tuple #[.agg #[.int .i64 4, .string ⟨(l.take (Tk.symLen l)).toArray⟩, .int .i64 0, .int .i64 0, .int .i64 0, .int .i64 0], .int .i64 (Tk.symLen l), .int .i64 0]) (by simp [results, Tryd.results20, go_sem]) rfl ⟨by rw [HX.out]; rfl, ?_⟩
          exact (Below.refl _ _).alloc (Nat.le_refl _) _
end Go.Proofs.YtpdbkbadjgellaaDoor

/-
  Two tokens held against each other.
  The walk of package token's Valid.
  A slice of tokens that reads as a list.
  The shelf's contracts of two methods of strings.Builder, laid over this program by hand.
  The walk of package token's Text.
  The walk of the statements' sane and same.
-/
import Derived.Test.YtpdbkbadjgellaaGreatDoorZ03
import Derived.Test.YtpdbkbadjgellaaGreatDoorZ04
import Derived.Shelf.Strings.BuilderK
import Derived.Test.YtpdbkbadjgellaaGreatDoorProg
import Derived.Test.YtpdbkbadjgellaaGreatDoorShelf
import Derived.Lib.OthersKept
import Derived.Deep.DeepCutAuto
import Derived.KernelRfl
namespace Go.Proofs.YtpdbkbadjgellaaGreatDoor
open Go.RowKit

/-- Are two tokens the same? -/
def tokEq (t u : Tk.Tok) : Bool := t.kind == u.kind && (t.text == u.text && ((t.num == u.num && t.den == u.den) && (t.day == u.day && t.place == u.place)))
theorem tokEq_iff (t u : Tk.Tok) : tokEq t u = true ↔ t = u := by
  obtain ⟨k, x, n, d, y, p⟩ := t
  obtain ⟨k', x', n', d', y', p'⟩ := u
  simp [tokEq, and_assoc]

set_option maxRecDepth 100000 in
theorem run_eql_tok (w : World) (k n d y p k' n' d' y' p' : Int) (x x' : List UInt8) :
    (binOp .eql 43 (.agg #[.int .i64 k, .string ⟨x.toArray⟩, .int .i64 n, .int .i64 d, .int .i64 y, .int .i64 p]) (.agg #[.int .i64 k', .string ⟨x'.toArray⟩, .int .i64 n', .int .i64 d', .int .i64 y', .int .i64 p'])).run Tryz.prog w =
      .ok (.bool (k == k' && (x == x' && ((n == n' && d == d') && (y == y' && p == p'))))) w := by
  simp [go_sem]
  repeat' split
  all_goals simp_all

set_option maxRecDepth 100000 in
theorem run_neq_tok (w : World) (k n d y p k' n' d' y' p' : Int) (x x' : List UInt8) :
    (binOp .neq 43 (.agg #[.int .i64 k, .string ⟨x.toArray⟩, .int .i64 n, .int .i64 d, .int .i64 y, .int .i64 p]) (.agg #[.int .i64 k', .string ⟨x'.toArray⟩, .int .i64 n', .int .i64 d', .int .i64 y', .int .i64 p'])).run Tryz.prog w =
      .ok (.bool (!(k == k' && (x == x' && ((n == n' && d == d') && (y == y' && p == p')))))) w := by
  simp [go_sem]
  repeat' split
  all_goals simp_all
end Go.Proofs.YtpdbkbadjgellaaGreatDoor

namespace Go.Proofs.YtpdbkbadjgellaaGreatDoor
open Go.RowKit
attribute [local go_sem] ba_get ba_extract take_rest ba_append
attribute [local go_sem ↓] run_eql_tok run_neq_tok

/-- Is a token valid? -/
def validTok (t : Tk.Tok) : Bool :=
  decide (0 ≤ t.place ∧ t.place ≤ 16384) &&
  (if t.kind = 1 then (Tk.isName t.text || Tk.isKey t.text) && decide (t.num = 0 ∧ t.den = 0 ∧ t.day = 0)
   else if t.kind = 2 then isDec t.num t.den && decide (t.text = [] ∧ t.day = 0)
   else if t.kind = 3 then inDays t.day && decide (t.text = [] ∧ t.num = 0 ∧ t.den = 0)
   else if t.kind = 4 then (decide (t.text ≠ []) && decide (Tk.symLen t.text = t.text.length)) && decide (t.num = 0 ∧ t.den = 0 ∧ t.day = 0)
   else false)

set_option maxHeartbeats 1000000 in
set_option maxRecDepth 100000 in
theorem valid_any (t : Tk.Tok) (w : World) (hs : t.text.length ≤ maxLen) :
    Calls Tryz.prog 22 #[tokV t] w fun e w' => e = .returned (.bool (validTok t)) ∧ Below w.heap.size w w' := by
  obtain ⟨k, x, n, d, y, p⟩ := t
  simp only at hs
  have HM := Lib.hid hs
  clear hs
  unfold tokV
  simp only
  by_cases hp : 0 ≤ p ∧ p ≤ 16384
  · obtain ⟨hp1, hp2⟩ := hp
    by_cases k1 : k = 1
    · subst k1
      have HX : Hid (validTok ⟨1, x, n, d, y, p⟩ = ((Tk.isName x || Tk.isKey x) && (n == 0 && d == 0 && y == 0))) := by
        show _ = _
        simp only [validTok]
        rw [Bool.eq_iff_iff]
        simp [hp1, hp2, and_assoc]
      cases hn : Tk.isName x
      · have HN := Lib.hid hn
        cases hk : Tk.isKey x
        · have HK := Lib.hid hk
          have HX2 : Hid (validTok ⟨1, x, n, d, y, p⟩ = false) := by show _ = _; rw [HX.out, hn, hk]; rfl
          clear hn hk
          go_enter Tryz.func22, Tryz.ntmps22
          go_wp2_with fail
          refine (isName_any x _ HM.out).mono ?_
          rintro e w' ⟨rfl, rfl⟩
          rw [HN.out]
          go_wp2_with fail
          refine (isKeyword_any x _).mono ?_
          rintro e w' ⟨rfl, rfl⟩
          rw [HK.out]
          go_wp2_with fail
          go_ret
          exact ⟨ret_bool HX2.out.symm, (Below.refl _ _).alloc (Nat.le_refl _) _⟩
        · have HK := Lib.hid hk
          have HX2 : Hid (validTok ⟨1, x, n, d, y, p⟩ = (n == 0 && d == 0 && y == 0)) := by show _ = _; rw [HX.out, hn, hk]; rfl
          clear hn hk
          go_enter Tryz.func22, Tryz.ntmps22
          go_wp2_with fail
          refine (isName_any x _ HM.out).mono ?_
          rintro e w' ⟨rfl, rfl⟩
          rw [HN.out]
          go_wp2_with fail
          refine (isKeyword_any x _).mono ?_
          rintro e w' ⟨rfl, rfl⟩
          rw [HK.out]
          go_wp2_with fail
          go_ret
          exact ⟨ret_bool HX2.out.symm, (Below.refl _ _).alloc (Nat.le_refl _) _⟩
      · have HN := Lib.hid hn
        have HX2 : Hid (validTok ⟨1, x, n, d, y, p⟩ = (n == 0 && d == 0 && y == 0)) := by show _ = _; rw [HX.out, hn]; rfl
        clear hn
        go_enter Tryz.func22, Tryz.ntmps22
        go_wp2_with fail
        refine (isName_any x _ HM.out).mono ?_
        rintro e w' ⟨rfl, rfl⟩
        rw [HN.out]
        go_wp2_with fail
        go_ret
        exact ⟨ret_bool HX2.out.symm, (Below.refl _ _).alloc (Nat.le_refl _) _⟩
    have g1 : (k == 1) = false := by simpa using k1
    by_cases k2 : k = 2
    · subst k2
      have HX : Hid (validTok ⟨2, x, n, d, y, p⟩ = (isDec n d && (x.isEmpty && y == 0))) := by
        show _ = _
        simp only [validTok]
        rw [Bool.eq_iff_iff]
        simp [hp1, hp2]
      clear g1 k1
      cases hv : isDec n d
      · have HV := Lib.hid hv
        have HX2 : Hid (validTok ⟨2, x, n, d, y, p⟩ = false) := by show _ = _; rw [HX.out, hv]; rfl
        clear hv
        go_enter Tryz.func22, Tryz.ntmps22
        go_wp2_with fail
        refine (isDecimal_any n d _).mono ?_
        rintro e w1 ⟨rfl, hb⟩
        rw [HV.out]
        have hB0 : Below w.heap.size w w1 := ((Below.refl _ _).alloc (Nat.le_refl _) _).trans (hb.mono (by simp))
        go_wp2_with fail
        go_ret
        exact ⟨ret_bool HX2.out.symm, hB0⟩
      · have HV := Lib.hid hv
        have HX2 : Hid (validTok ⟨2, x, n, d, y, p⟩ = (x.isEmpty && y == 0)) := by show _ = _; rw [HX.out, hv]; rfl
        clear hv
        go_enter Tryz.func22, Tryz.ntmps22
        go_wp2_with fail
        refine (isDecimal_any n d _).mono ?_
        rintro e w1 ⟨rfl, hb⟩
        rw [HV.out]
        have hB0 : Below w.heap.size w w1 := ((Below.refl _ _).alloc (Nat.le_refl _) _).trans (hb.mono (by simp))
        have hbl := (hb.block w.heap.size (by simp)).trans (heap_alloc_new w _)
        have c0 := Lib.cell_of_heap hbl 0
        have c1 := Lib.cell_of_heap hbl 1
        have c2 := Lib.cell_of_heap hbl 2
        have c3 := Lib.cell_of_heap hbl 3
        have c4 := Lib.cell_of_heap hbl 4
        have c5 := Lib.cell_of_heap hbl 5
        simp only [List.getElem?_toArray, List.getElem?_cons_zero, List.getElem?_cons_succ] at c0 c1 c2 c3 c4 c5
        clear hbl
        go_wp2_with fail
        go_ret
        exact ⟨ret_bool HX2.out.symm, hB0⟩
    have g2 : (k == 2) = false := by simpa using k2
    by_cases k3 : k = 3
    · subst k3
      have HX : Hid (validTok ⟨3, x, n, d, y, p⟩ = (inDays y && (x.isEmpty && (n == 0 && d == 0)))) := by
        show _ = _
        simp only [validTok]
        rw [Bool.eq_iff_iff]
        simp [hp1, hp2]
      clear g1 k1 g2 k2
      by_cases hv : 0 ≤ y ∧ y ≤ 84005
      · have HX2 : Hid (validTok ⟨3, x, n, d, y, p⟩ = (x.isEmpty && (n == 0 && d == 0))) := by show _ = _; rw [HX.out, inDays, decide_eq_true hv]; rfl
        obtain ⟨v1, v2⟩ := hv
        go_enter Tryz.func22, Tryz.ntmps22
        go_wp2_with fail
        go_ret
        exact ⟨ret_bool HX2.out.symm, (Below.refl _ _).alloc (Nat.le_refl _) _⟩
      · have HX2 : Hid (validTok ⟨3, x, n, d, y, p⟩ = false) := by show _ = _; rw [HX.out, inDays, decide_eq_false hv]; rfl
        have hv' : y < 0 ∨ (0 ≤ y ∧ 84005 < y) := by omega
        clear hv
        rcases hv' with v | ⟨v1, v2⟩
        all_goals
          go_enter Tryz.func22, Tryz.ntmps22
          go_wp2_with fail
          go_ret
          exact ⟨ret_bool HX2.out.symm, (Below.refl _ _).alloc (Nat.le_refl _) _⟩
    have g3 : (k == 3) = false := by simpa using k3
    by_cases k4 : k = 4
    · subst k4
      have HX : Hid (validTok ⟨4, x, n, d, y, p⟩ = ((!x.isEmpty && ((Tk.symLen x : Int) == x.length)) && (n == 0 && d == 0 && y == 0))) := by
        show _ = _
        simp only [validTok]
        rw [Bool.eq_iff_iff]
        simp [hp1, hp2, and_assoc]
        omega
      clear g1 k1 g2 k2 g3 k3
      rcases x with _ | ⟨c, r⟩
      · have HX2 : Hid (validTok ⟨4, [], n, d, y, p⟩ = false) := by show _ = _; rw [HX.out]; rfl
        clear HX
        go_enter Tryz.func22, Tryz.ntmps22
        go_wp2_with fail
        go_quiet (fail)
        go_wp2_with fail
        go_ret
        exact ⟨ret_bool HX2.out.symm, belowN ((Below.refl _ _).alloc (Nat.le_refl _) _) _⟩
      · by_cases hq : Tk.symLen (c :: r) = (c :: r).length
        · have HQ : ((Tk.symLen (c :: r) : Int) == ((r.length : Int) + 1)) = true := by simp only [List.length_cons] at hq; simp; omega
          have HX2 : Hid (validTok ⟨4, c :: r, n, d, y, p⟩ = (n == 0 && d == 0 && y == 0)) := by show _ = _; rw [HX.out, hq]; simp
          clear HX hq
          go_enter Tryz.func22, Tryz.ntmps22
          go_wp2_with fail
          go_quiet ((go_at_call 46; exact quiet_left (symbolLength_any _ _ HM.out)))
          go_wp2_with fail
          go_ret
          exact ⟨ret_bool HX2.out.symm, belowN ((Below.refl _ _).alloc (Nat.le_refl _) _) _⟩
        · have HQ : ((Tk.symLen (c :: r) : Int) == ((r.length : Int) + 1)) = false := by simp only [List.length_cons] at hq; simp; omega
          have HX2 : Hid (validTok ⟨4, c :: r, n, d, y, p⟩ = false) := by
            show _ = _
            rw [HX.out]
            have : ((Tk.symLen (c :: r) : Int) == ((c :: r).length : Int)) = false := by simp only [List.length_cons] at hq ⊢; simp; omega
            rw [this]; simp
          clear HX hq
          go_enter Tryz.func22, Tryz.ntmps22
          go_wp2_with fail
          go_quiet ((go_at_call 46; exact quiet_left (symbolLength_any _ _ HM.out)))
          go_wp2_with fail
          go_ret
          exact ⟨ret_bool HX2.out.symm, belowN ((Below.refl _ _).alloc (Nat.le_refl _) _) _⟩
    · have g4 : (k == 4) = false := by simpa using k4
      have HX2 : Hid (validTok ⟨k, x, n, d, y, p⟩ = false) := by
        show _ = _
        simp [validTok, k1, k2, k3, k4]
      clear k1 k2 k3 k4
      go_enter Tryz.func22, Tryz.ntmps22
      go_wp2_with fail
      go_ret
      exact ⟨ret_bool HX2.out.symm, (Below.refl _ _).alloc (Nat.le_refl _) _⟩
  · have HX2 : Hid (validTok ⟨k, x, n, d, y, p⟩ = false) := by
      show _ = _
      simp only [validTok]
      rw [decide_eq_false hp]
      rfl
    have hp' : p < 0 ∨ (0 ≤ p ∧ 16384 < p) := by omega
    clear hp
    rcases hp' with v | ⟨v1, v2⟩
    all_goals
      go_enter Tryz.func22, Tryz.ntmps22
      go_wp2_with fail
      go_ret
      exact ⟨ret_bool HX2.out.symm, (Below.refl _ _).alloc (Nat.le_refl _) _⟩
end Go.Proofs.YtpdbkbadjgellaaGreatDoor

namespace Go.Proofs.YtpdbkbadjgellaaGreatDoor
open Go.RowKit

/-- A slice value that holds a list of tokens. -/
def TokRow (w : World) (v : Value) (ts : List Tk.Tok) : Prop :=
  ∃ A c, v = .slice A ts.length c ∧ (0 < ts.length → ∃ g off, A = some ⟨g, off, none⟩ ∧ ∀ i (h : i < ts.length) j u, (tokCells ts[i])[j]? = some u → w.cell? ⟨g, off + i * 6 + j, none⟩ = some u)

theorem TokRow.below {w w' : World} {v : Value} {ts : List Tk.Tok} (h : TokRow w v ts) (hb : Below w.heap.size w w') : TokRow w' v ts := by
  obtain ⟨A, c, rfl, hc⟩ := h
  refine ⟨A, c, rfl, fun hn => ?_⟩
  obtain ⟨g, off, rfl, hg⟩ := hc hn
  refine ⟨g, off, rfl, fun i hi j u hu => ?_⟩
  have := hg i hi j u hu
  rw [hb.cell (World.block_lt_of_cell? w _ this)]
  exact this

theorem toksCells_get (ts : List Tk.Tok) (i j : Nat) (h : i < ts.length) (hj : j < 6) : (toksCells ts)[i * 6 + j]? = (tokCells ts[i])[j]? := by
  induction ts generalizing i with
  | nil => simp at h
  | cons t ts ih =>
    have hl : (tokCells t).length = 6 := rfl
    cases i with
    | zero => simp only [toksCells, List.flatMap_cons]; rw [List.getElem?_append_left (by omega)]; simp
    | succ i =>
      have := ih i (by simpa using h)
      simp only [toksCells, List.flatMap_cons] at this ⊢
      rw [List.getElem?_append_right (by omega), hl, show (i + 1) * 6 + j - 6 = i * 6 + j by omega, this]
      simp

theorem TokRow.of_own {w : World} {base : Nat} {v : Value} {ts : List Tk.Tok} (h : w.ownsRow base 43 6 v ts.length (toksCells ts)) : TokRow w v ts := by
  rcases h.2 with ⟨rfl, h0⟩ | ⟨g, cap, cur, rfl, _⟩
  · refine ⟨none, 0, ?_, ?_⟩
    · rw [h0]
    · intro hn; omega
  · refine ⟨_, cap, rfl, fun hn => ⟨g, 0, rfl, fun i hi j u hu => ?_⟩⟩
    have hj : j < 6 := by
      rcases Nat.lt_or_ge j 6 with h' | h'
      · exact h'
      · rw [List.getElem?_eq_none (by simp [tokCells]; omega)] at hu; cases hu
    rw [show 0 + i * 6 + j = i * 6 + j by omega, h.cellAt (i * 6 + j) (by omega), toksCells_get ts i j hi hj]
    exact hu
end Go.Proofs.YtpdbkbadjgellaaGreatDoor

namespace Go.Proofs
open Go.Shelf
def Tryz.bld_ren : Go.Shelf.Ren := ⟨fun | 166 => 49 | 167 => 48 | 240 => 79 | 276 => 103 | n => n, fun | 0 => 0 | 3 => 3 | 4 => 4 | 5 => 5 | 9 => 9 | 20 => 20 | 37 => 73 | 70 => 72 | 72 => 75 | 75 => 77 | 164 => 131 | 80 => 29 | n => n, fun | n => n⟩
theorem Tryz.bld166 : Go.Proofs.Lays.n166 Tryz.prog Tryz.bld_ren := {
  mixed := by kernel_rfl
  f166 := Tryz.func49.trans (congrArg some (by kernel_rfl))
  f240 := Tryz.func79.trans (congrArg some (by kernel_rfl))
  f276 := Tryz.func103.trans (congrArg some (by kernel_rfl))
  t0 := Tryz.underlying0
  a0 := Tryz.isAgg0
  z0 := Tryz.sizeOf0
  v0 := Tryz.zeroValue0
  t3 := Tryz.underlying3
  a3 := Tryz.isAgg3
  z3 := Tryz.sizeOf3
  v3 := Tryz.zeroValue3
  t4 := Tryz.underlying4
  a4 := Tryz.isAgg4
  z4 := Tryz.sizeOf4
  v4 := Tryz.zeroValue4
  t9 := Tryz.underlying9
  a9 := Tryz.isAgg9
  z9 := Tryz.sizeOf9
  v9 := Tryz.zeroValue9
  t20 := Tryz.underlying20
  a20 := Tryz.isAgg20
  z20 := Tryz.sizeOf20
  v20 := Tryz.zeroValue20
  t37 := Tryz.underlying73
  a37 := Tryz.isAgg73
  z37 := Tryz.sizeOf73
  v37 := Tryz.zeroValue73
  t70 := Tryz.underlying72
  a70 := Tryz.isAgg72
  z70 := Tryz.sizeOf72
  v70 := Tryz.zeroValue72
  t72 := Tryz.underlying75
  a72 := Tryz.isAgg75
  z72 := Tryz.sizeOf75
  v72 := Tryz.zeroValue75
  t75 := Tryz.underlying77
  a75 := Tryz.isAgg77
  z75 := Tryz.sizeOf77
  v75 := Tryz.zeroValue77
  t164 := Tryz.underlying131
  a164 := Tryz.isAgg131
  z164 := Tryz.sizeOf131
  v164 := Tryz.zeroValue131 }
theorem Tryz.bld167 : Go.Proofs.Lays.n167 Tryz.prog Tryz.bld_ren := {
  mixed := by kernel_rfl
  f167 := Tryz.func48.trans (congrArg some (by kernel_rfl))
  f240 := Tryz.func79.trans (congrArg some (by kernel_rfl))
  f276 := Tryz.func103.trans (congrArg some (by kernel_rfl))
  t0 := Tryz.underlying0
  a0 := Tryz.isAgg0
  z0 := Tryz.sizeOf0
  v0 := Tryz.zeroValue0
  t4 := Tryz.underlying4
  a4 := Tryz.isAgg4
  z4 := Tryz.sizeOf4
  v4 := Tryz.zeroValue4
  t5 := Tryz.underlying5
  a5 := Tryz.isAgg5
  z5 := Tryz.sizeOf5
  v5 := Tryz.zeroValue5
  t9 := Tryz.underlying9
  a9 := Tryz.isAgg9
  z9 := Tryz.sizeOf9
  v9 := Tryz.zeroValue9
  t20 := Tryz.underlying20
  a20 := Tryz.isAgg20
  z20 := Tryz.sizeOf20
  v20 := Tryz.zeroValue20
  t37 := Tryz.underlying73
  a37 := Tryz.isAgg73
  z37 := Tryz.sizeOf73
  v37 := Tryz.zeroValue73
  t70 := Tryz.underlying72
  a70 := Tryz.isAgg72
  z70 := Tryz.sizeOf72
  v70 := Tryz.zeroValue72
  t72 := Tryz.underlying75
  a72 := Tryz.isAgg75
  z72 := Tryz.sizeOf75
  v72 := Tryz.zeroValue75
  t75 := Tryz.underlying77
  a75 := Tryz.isAgg77
  z75 := Tryz.sizeOf77
  v75 := Tryz.zeroValue77
  t164 := Tryz.underlying131
  a164 := Tryz.isAgg131
  z164 := Tryz.sizeOf131
  v164 := Tryz.zeroValue131 }
theorem Tryz.bldX : Builder.Extra Tryz.prog Tryz.bld_ren := {
  sizeBuilder := by kernel_rfl
  liesBuilder := by kernel_rfl
  t5 := Tryz.underlying5
  a5 := Tryz.isAgg5
  z5 := Tryz.sizeOf5
  v5 := Tryz.zeroValue5
  infoByte := by kernel_rfl
  cellsByte := by kernel_rfl
  sizeByte := by kernel_rfl
  neB5 := by decide }
open Go.RowKit in
theorem Tryz.bldByte (B b : Nat) (bs : List Value) (c : Int) (w : World) (h : Lib.IsBuilderF 75 5 B b bs w) (hlen : bs.length + 1 ≤ 140737488355328) (hBw : B ≤ w.heap.size) :
    Calls Tryz.prog 48 #[.pointer (some ⟨b, 0, none⟩), .int .u8 c] w fun e w' => e = .returned .nilIface ∧ (Lib.BuilderAtF 75 5 B b (.pointer (some ⟨b, 0, none⟩)) (bs ++ [.int .u8 c]) w' ∧ Below B w w' ∧ Lib.OthersKept 5 (some b) w w') := Any.Builder_WriteByte_k Tryz.bld167 Tryz.bldX B b bs c w h hlen hBw
open Go.RowKit in
theorem Tryz.bldString (B b : Nat) (bs : List Value) (s : ByteArray) (w : World) (h : Lib.IsBuilderF 75 5 B b bs w) (hlen : bs.length + s.size ≤ 140737488355328) (hBw : B ≤ w.heap.size) :
    Calls Tryz.prog 49 #[.pointer (some ⟨b, 0, none⟩), .string s] w fun e w' => e = .returned (.tuple #[.int .i64 s.size, .nilIface]) ∧ (Lib.BuilderAtF 75 5 B b (.pointer (some ⟨b, 0, none⟩)) (bs ++ Lib.strCells s) w' ∧ Below B w w' ∧ Lib.OthersKept 5 (some b) w w') := Any.Builder_WriteString_k Tryz.bld166 Tryz.bldX B b bs s w h hlen hBw
end Go.Proofs

namespace Go.Proofs.YtpdbkbadjgellaaGreatDoor
open Go.RowKit
attribute [local go_sem] ba_get ba_extract take_rest ba_append

/-- The text of a token. -/
def textOf (t : Tk.Tok) : List UInt8 := if t.kind = 2 then numText t.num t.den else if t.kind = 3 then Tk.dateText t.day else t.text
/-- The texts of tokens, separated by single spaces. -/
def joinT : List Tk.Tok → List UInt8
  | [] => []
  | t :: ts => textOf t ++ ts.flatMap fun u => 32 :: textOf u
def textAll (ts : List Tk.Tok) : List UInt8 := if ts.all validTok = true then joinT ts else []

theorem joinT_snoc (ts : List Tk.Tok) (t : Tk.Tok) (h : 0 < ts.length) : joinT (ts ++ [t]) = (joinT ts ++ [32]) ++ textOf t := by
  cases ts with
  | nil => simp at h
  | cons u us => simp [joinT]
theorem builder_below {T e : TypeId} {B b : Nat} {bs : List Value} {w w' : World} (h : Lib.IsBuilderF T e B b bs w) (hb : Below w.heap.size w w') : Lib.IsBuilderF T e B b bs w' := by
  have key : ∀ p, Lib.BuilderAtF T e B b p bs w → Lib.BuilderAtF T e B b p bs w' := by
    intro p hp
    have hlt := hp.lt
    obtain ⟨h1, v, h2, h3, h4⟩ := hp
    refine ⟨h1, v, (hb.block b hlt).trans h2, ?_, h4⟩
    refine h3.kept (row := none) ⟨hb.os, hb.tape, hb.output, hb.size, fun k hk _ => hb.block k hk⟩ ?_
    cases hv : v.ownBlock with
    | none => exact .inl rfl
    | some g => exact .inr (by simp)
  rcases h with h | h
  · exact .inl (key _ h)
  · exact .inr (key _ h)

theorem strCells_list (l : List UInt8) : Lib.strCells ⟨l.toArray⟩ = Lib.byteCells l := rfl
theorem byteCells_append (a b : List UInt8) : Lib.byteCells a ++ Lib.byteCells b = Lib.byteCells (a ++ b) := by simp [Lib.byteCells]
theorem byteCells_length (a : List UInt8) : (Lib.byteCells a).length = a.length := by simp [Lib.byteCells]

theorem key_len (x : List UInt8) (h : Tk.isKey x = true) : x.length ≤ 9 := by
  have hm : x ∈ Tk.keywords := List.contains_iff_mem.1 h
  simp only [Tk.keywords, List.mem_cons, List.not_mem_nil, or_false] at hm
  rcases hm with rfl | rfl | rfl | rfl | rfl | rfl | rfl | rfl | rfl | rfl | rfl | rfl | rfl | rfl | rfl | rfl | rfl | rfl | rfl | rfl | rfl | rfl | rfl | rfl | rfl | rfl | rfl | rfl | rfl | rfl | rfl | rfl | rfl | rfl <;> decide
theorem numText_len (n d : Int) : (numText n d).length ≤ 50 := by
  unfold numText
  split
  · rename_i h
    obtain ⟨d1, d2, n1, n2, dm, _⟩ := isDec_parts h
    obtain ⟨m1, m2⟩ := mills_bd h
    have hq1 : 0 ≤ n / d := Int.ediv_nonneg n1 (by omega)
    have hq2 : n / d ≤ n := Int.ediv_le_self _ n1
    have l1 := Lib.itoa_length_le (n / d) (by omega) (by omega)
    have l2 := Lib.itoa_length_le (1000000 + mills n d) (by omega) (by omega)
    have l3 := trim_len ((Lib.itoa (1000000 + mills n d)).drop 1)
    rw [List.length_drop] at l3
    split
    · omega
    · simp only [List.length_append, List.length_cons, List.length_nil]; omega
  · simp
theorem dateText_len (d : Int) : (Tk.dateText d).length ≤ 70 := by
  unfold Tk.dateText
  split
  · rename_i h
    have hs := of_decide_eq_true (Tk.date_spec d h.1 h.2).1
    have := (mlen_bd (Tk.yOf d) (Tk.mOf d)).2
    have l1 := Lib.itoa_length_le (Tk.yOf d) (by omega) (by omega)
    have l2 := two_len (Tk.mOf d) (by omega) (by omega)
    have l3 := two_len (Tk.dOf d) (by omega) (by omega)
    simp only [List.length_append, List.length_cons, List.length_nil]
    omega
  · simp
theorem textOf_len (t : Tk.Tok) (h : validTok t = true) : (textOf t).length ≤ 70 := by
  unfold textOf
  split
  · exact Nat.le_trans (numText_len _ _) (by omega)
  · split
    · exact dateText_len _
    · rename_i k2 k3
      unfold validTok at h
      rw [Bool.and_eq_true, if_neg k2, if_neg k3] at h
      have h := h.2
      split at h
      · rw [Bool.and_eq_true, Bool.or_eq_true] at h
        rcases h.1 with h | h
        · unfold Tk.isName at h
          rw [Bool.and_eq_true, Bool.and_eq_true, Bool.and_eq_true] at h
          have := of_decide_eq_true h.1.1.2
          omega
        · have := key_len _ h
          omega
      · split at h
        · rw [Bool.and_eq_true, Bool.and_eq_true] at h
          have h1 := of_decide_eq_true h.1.2
          have := (symLen_le t.text).2
          omega
        · cases h
theorem joinT_len (ts : List Tk.Tok) (h : ts.all validTok = true) : (joinT ts).length ≤ 71 * ts.length := by
  cases ts with
  | nil => simp [joinT]
  | cons t us =>
    rw [List.all_cons, Bool.and_eq_true] at h
    have h1 := textOf_len t h.1
    have key : ∀ us : List Tk.Tok, us.all validTok = true → (us.flatMap fun u => 32 :: textOf u).length ≤ 71 * us.length := by
      intro us
      induction us with
      | nil => simp
      | cons u us ih =>
        intro h
        rw [List.all_cons, Bool.and_eq_true] at h
        have := ih h.2
        have := textOf_len u h.1
        simp only [List.flatMap_cons, List.length_append, List.length_cons] at *
        omega
    have := key us h.2
    simp only [joinT, List.length_append, List.length_cons]
    omega

/-- What stands ahead of the k-th text. -/
def sepT (ts : List Tk.Tok) (k : Nat) : List UInt8 := if k = 0 then [] else joinT (ts.take k) ++ [32]
theorem sepT_next (ts : List Tk.Tok) (k : Nat) (h : k < ts.length) : sepT ts k ++ textOf ts[k] = joinT (ts.take (k + 1)) := by
  unfold sepT
  rw [List.take_succ_eq_append_getElem h]
  split
  · rename_i h0
    subst h0
    simp [joinT]
  · rw [joinT_snoc _ _ (by simp; omega)]

set_option maxHeartbeats 2000000 in
set_option maxRecDepth 100000 in
theorem text_any (v : Value) (ts : List Tk.Tok) (w : World) (hr : TokRow w v ts) (hn : ts.length ≤ 100000) (hx : ∀ t ∈ ts, t.text.length ≤ maxLen) (hl : Lens w) (hp : Pow w) :
    Calls Tryz.prog 24 #[v] w fun e w' => e = .returned (.string ⟨(textAll ts).toArray⟩) ∧ Below w.heap.size w w' := by
  have HR := Lib.hid hr
  obtain ⟨A, c, rfl, hA⟩ := hr
  have HX := Lib.hid hx
  have HL := Lib.hid hl
  have HP := Lib.hid hp
  clear hx hl hp hA
  go_enter Tryz.func24, Tryz.ntmps24
  go_wp2_with fail
  go_loopw [8] (fun i wr => ∃ k : Nat, k ≤ ts.length ∧ i = .int .i64 k ∧ Hid ((ts.take k).all validTok = true) ∧ Lib.IsBuilderF 75 5 w.heap.size w.heap.size (Lib.byteCells (joinT (ts.take k))) wr ∧ Below w.heap.size w wr ∧ w.heap.size < wr.heap.size) (fun i _ => ts.length - (intOf i).toNat)
  case atStart => exact ⟨0, Nat.zero_le _, rfl, rfl, Lib.IsBuilderF.of (Lib.fresh_isBuilder _ _ _), (Below.refl _ _).alloc (Nat.le_refl _) _, by simp⟩
  case round =>
    obtain ⟨k, hk, rfl, HV, hbu, hbl, hsz⟩ := hrel
    have hjl := joinT_len _ HV.out
    rw [List.length_take] at hjl
    by_cases hlt : k < ts.length
    · obtain ⟨A', c', e', hA⟩ := HR.out.below hbl
      obtain ⟨g, off, hAe, hc⟩ := hA (by omega)
      simp only [Value.slice.injEq] at e'
      obtain ⟨rfl, _, rfl⟩ := e'
      subst hAe
      have hc := hc k hlt
      obtain ⟨t1, t2, t3, t4, t5, t6, ht⟩ : ∃ t1 t2 t3 t4 t5 t6, ts[k] = ⟨t1, t2, t3, t4, t5, t6⟩ := ⟨_, _, _, _, _, _, rfl⟩
      have hx2 : t2.length ≤ maxLen := by have := HX.out ts[k] (List.getElem_mem hlt); rw [ht] at this; exact this
      have HX2 := Lib.hid hx2
      clear hx2
      rw [ht] at hc
      have c0 := hc 0 _ rfl
      have c1 := hc 1 _ rfl
      have c2 := hc 2 _ rfl
      have c3 := hc 3 _ rfl
      have c4 := hc 4 _ rfl
      have c5 := hc 5 _ rfl
      simp only [Nat.add_zero] at c0
      clear hc
      have HT := Lib.hid ht
      clear ht
      go_wp2_with fail
      refine (valid_any ⟨t1, t2, t3, t4, t5, t6⟩ _ HX2.out).mono ?_
      rintro e w1 ⟨rfl, hb1⟩
      clear c0 c1 c2 c3 c4 c5
      have hB1 : Below w.heap.size w w1 := (hbl.alloc (by omega) _).trans (hb1.mono (by simp; omega))
      have hbu1 := builder_below (hbu.alloc _) hb1
      have hblk := (hb1.block wr.heap.size (by simp)).trans (heap_alloc_new wr _)
      have hz1 := hb1.size
      simp only [World.size_alloc] at hz1
      clear hb1 hbu hbl
      cases hv : validTok ⟨t1, t2, t3, t4, t5, t6⟩
      · have HF : Hid (textAll ts = []) := by
          show _ = _
          unfold textAll
          rw [if_neg]
          intro hall
          have := List.all_eq_true.1 hall ts[k] (List.getElem_mem hlt)
          rw [HT.out, hv] at this
          cases this
        clear hv
        go_wp2_with fail
        go_ret
        exact ⟨ret_str HF.out.symm, hB1⟩
      · have hlen := textOf_len _ hv
        have HV2 : Hid ((ts.take (k + 1)).all validTok = true) := by
          show _ = _
          rw [List.take_succ_eq_append_getElem hlt, List.all_append, HV.out, HT.out]
          simp [hv]
        have HN := Lib.hid (sepT_next ts k hlt)
        clear hv
        go_upto_if 17 with fail
        go_cut [] (fun wx => Lib.IsBuilderF 75 5 w.heap.size w.heap.size (Lib.byteCells (sepT ts k)) wx ∧ wx.heap[wr.heap.size]? = some (.cells #[.int .i64 t1, .string ⟨t2.toArray⟩, .int .i64 t3, .int .i64 t4, .int .i64 t5, .int .i64 t6] 43 (0, 0)) ∧ Below w.heap.size w wx ∧ wr.heap.size < wx.heap.size)
        case first =>
          by_cases hk0 : k = 0
          · have HS : Hid (sepT ts k = joinT (ts.take k)) := by show _ = _; unfold sepT; rw [if_pos hk0, hk0]; rfl
            have gk : ¬ (0 : Int) < k := by omega
            clear hk0
            go_wp2_with fail
            go_meet
            case rel => exact ⟨by rw [HS.out]; exact hbu1, hblk, hB1, by omega⟩
          · have HS : Hid (sepT ts k = joinT (ts.take k) ++ [32]) := by show _ = _; unfold sepT; rw [if_neg hk0]
            have gk : (0 : Int) < k := by omega
            clear hk0
            go_wp2_with fail
            refine (Tryz.bldByte w.heap.size w.heap.size _ 32 _ hbu1 (by rw [byteCells_length]; omega) (by omega)).mono ?_
            rintro e w2 ⟨rfl, hbu2, hb2, hok2⟩
            have hblk2 := hok2 _ _ hblk (by simp; omega) (by simp)
            have hz2 := hb2.size
            go_wp2_with fail
            go_meet
            case rel => exact ⟨by rw [HS.out, ← byteCells_append]; exact .inr hbu2, hblk2, hB1.trans hb2, by omega⟩
        case rest =>
          obtain ⟨hbu2, hblk2, hB2, hz2⟩ := hcut
          clear hbu1 hblk hB1 hz1
          have c0 := Lib.cell_of_heap hblk2 0
          have c1 := Lib.cell_of_heap hblk2 1
          have c2 := Lib.cell_of_heap hblk2 2
          have c3 := Lib.cell_of_heap hblk2 3
          have c4 := Lib.cell_of_heap hblk2 4
          have c5 := Lib.cell_of_heap hblk2 5
          simp only [List.getElem?_toArray, List.getElem?_cons_zero, List.getElem?_cons_succ] at c0 c1 c2 c3 c4 c5
          have hsl : (sepT ts k).length ≤ 7200000 := by unfold sepT; split <;> simp <;> omega
          have HP2 : Hid (Pow wc) := HP.out.below hB2
          have HL2 : Hid (Lens wc) := HL.out.below hB2
          by_cases k2 : t1 = 2
          · have HO : Hid (textOf ts[k] = numText t3 t4) := by show _ = _; rw [HT.out]; simp [textOf, k2]
            subst k2
            go_wp2_with fail
            refine (number_text t3 t4 _ HP2.out).mono ?_
            rintro e w3 ⟨rfl, hb3⟩
            have hbu3 := builder_below hbu2 hb3
            have hz3 := hb3.size
            have hB3 : Below w.heap.size w w3 := hB2.trans (hb3.mono (by omega))
            have hlim : (sepT ts k).length + (numText t3 t4).length ≤ 140737488355328 := by have := numText_len t3 t4; omega
            clear c0 c1 c2 c3 c4 c5 hbu2 hb3
            go_wp2_with fail
            refine (Tryz.bldString w.heap.size w.heap.size _ _ _ hbu3 (by rw [byteCells_length]; exact hlim) (by omega)).mono ?_
            rintro e w4 ⟨rfl, hbu4, hb4, _⟩
            rw [strCells_list, byteCells_append, ← HO.out, HN.out] at hbu4
            have hz4 := hb4.size
            go_wp2_with fail
            go_roundw
            case rel => exact ⟨k + 1, by omega, by go_num, HV2, .inr hbu4, hB3.trans hb4, by omega⟩
            case measure => simp [intOf]; omega
          · have g2 : (t1 == 2) = false := by simpa using k2
            by_cases k3 : t1 = 3
            · have HO : Hid (textOf ts[k] = Tk.dateText t5) := by show _ = _; rw [HT.out]; simp [textOf, k3]
              subst k3
              clear g2 k2
              go_wp2_with fail
              refine (calFormat_any t5 _ HL2.out HP2.out).mono ?_
              rintro e w3 ⟨rfl, hb3⟩
              have hbu3 := builder_below hbu2 hb3
              have hz3 := hb3.size
              have hB3 : Below w.heap.size w w3 := hB2.trans (hb3.mono (by omega))
              have hlim : (sepT ts k).length + (Tk.dateText t5).length ≤ 140737488355328 := by have := dateText_len t5; omega
              clear c0 c1 c2 c3 c4 c5 hbu2 hb3
              go_wp2_with fail
              refine (Tryz.bldString w.heap.size w.heap.size _ _ _ hbu3 (by rw [byteCells_length]; exact hlim) (by omega)).mono ?_
              rintro e w4 ⟨rfl, hbu4, hb4, _⟩
              rw [strCells_list, byteCells_append, ← HO.out, HN.out] at hbu4
              have hz4 := hb4.size
              go_wp2_with fail
              go_roundw
              case rel => exact ⟨k + 1, by omega, by go_num, HV2, .inr hbu4, hB3.trans hb4, by omega⟩
              case measure => simp [intOf]; omega
            · have HO : Hid (textOf ts[k] = t2) := by show _ = _; rw [HT.out]; simp [textOf, k2, k3]
              have g3 : (t1 == 3) = false := by simpa using k3
              have hlim : (sepT ts k).length + t2.length ≤ 140737488355328 := by
                have : textOf ⟨t1, t2, t3, t4, t5, t6⟩ = t2 := by simp [textOf, k2, k3]
                rw [this] at hlen
                omega
              clear k2 k3
              have hbu3 := hbu2
              have hB3 := hB2
              go_wp2_with fail
              refine (Tryz.bldString w.heap.size w.heap.size _ _ _ hbu3 (by rw [byteCells_length]; exact hlim) (by omega)).mono ?_
              rintro e w4 ⟨rfl, hbu4, hb4, _⟩
              rw [strCells_list, byteCells_append, ← HO.out, HN.out] at hbu4
              have hz4 := hb4.size
              go_wp2_with fail
              go_roundw
              case rel => exact ⟨k + 1, by omega, by go_num, HV2, .inr hbu4, hB3.trans hb4, by omega⟩
              case measure => simp [intOf]; omega
    · have HF : Hid (textAll ts = joinT (ts.take k)) := by
        show _ = _
        have hv := HV.out
        have e : ts.take k = ts := List.take_of_length_le (by omega)
        rw [e] at hv ⊢
        unfold textAll
        rw [if_pos hv]
      go_wp2_with fail
      refine (Tryz.Builder_String_any_f w.heap.size w.heap.size _ _ hbu (by omega)).mono ?_
      rintro e w3 ⟨rfl, _, hb3⟩
      go_wp2_with fail
      go_ret
      exact ⟨ret_str HF.out.symm, hbl.trans hb3⟩
end Go.Proofs.YtpdbkbadjgellaaGreatDoor

namespace Go.Proofs.YtpdbkbadjgellaaGreatDoor
open Go.RowKit
attribute [local go_sem] ba_get ba_extract take_rest ba_append
attribute [local go_sem ↓] run_eql_tok run_neq_tok

def saneText : List UInt8 := [97, 60, 61, 50, 53, 37, 32, 50, 48, 50, 54, 45, 48, 49, 45, 48, 49, 32, 35, 32, 120]
def saneToks : List Tk.Tok := [{ kind := 1, text := [97], place := 0 }, { kind := 4, text := [60, 61], place := 1 }, { kind := 2, num := 1, den := 4, place := 3 }, { kind := 3, day := 20454, place := 7 }]
theorem sane1 : Tk.scan saneText = .ok saneToks := by kernel_rfl
theorem sane2 : Tk.scan [50, 48, 50, 54, 32, 45, 32, 48, 49] = .error (7, 6) := by kernel_rfl
theorem sane3 : Tk.isName [97, 95, 49] = true := by kernel_rfl
theorem sane4 : Tk.isName [105, 102] = false := by kernel_rfl
theorem sane5 : Tk.isKey [105, 102] = true := by kernel_rfl
theorem sane6 : validTok ⟨1, [97], 0, 0, 0, 0⟩ = true := by kernel_rfl
theorem sane7 : textAll saneToks = [97, 32, 60, 61, 32, 48, 46, 50, 53, 32, 50, 48, 50, 54, 45, 48, 49, 45, 48, 49] := by kernel_rfl

/-- Two lists of tokens can be held against each other. -/
instance : DecidableEq Tk.Tok := fun t u => decidable_of_iff _ (tokEq_iff t u)
/-- A slice of tokens, one cell of one token. -/
theorem TokRow.at_ {w : World} {v : Value} {ts : List Tk.Tok} (h : TokRow w v ts) (hn : 0 < ts.length) :
    ∃ g off c, v = .slice (some ⟨g, off, none⟩) ts.length c ∧ ∀ i (h : i < ts.length) j u, (tokCells ts[i])[j]? = some u → w.cell? ⟨g, off + i * 6 + j, none⟩ = some u := by
  obtain ⟨A, c, rfl, hA⟩ := h
  obtain ⟨g, off, rfl, hc⟩ := hA hn
  exact ⟨g, off, c, rfl, hc⟩

set_option maxHeartbeats 2000000 in
set_option maxRecDepth 100000 in
theorem sane_any (w : World) (hl : Lens w) (hp : Pow w) :
    Calls Tryz.prog 10 #[] w fun e w' => e = .returned (.bool true) ∧ Below w.heap.size w w' := by
  have HL := Lib.hid hl
  have HP := Lib.hid hp
  clear hl hp
  go_enter Tryz.func10, Tryz.ntmps10
  go_wp2_with fail
  refine (scan_any saneText _ (by decide) HL.out).mono ?_
  rintro e w1 ⟨hb1, h1⟩
  rw [sane1] at h1
  obtain ⟨v, rfl, hown⟩ := h1
  have hrow := TokRow.of_own hown
  clear hown
  have hz1 := hb1.size
  go_wp2_with fail
  refine (scan_any [50, 48, 50, 54, 32, 45, 32, 48, 49] _ (by decide) (HL.out.below hb1)).mono ?_
  rintro e w2 ⟨hb2, h2⟩
  rw [sane2] at h2
  obtain rfl := h2
  have hB2 : Below w.heap.size w w2 := hb1.trans (hb2.mono hz1)
  have hz2 := hB2.size
  have hrow2 := hrow.below hb2
  have HR := Lib.hid hrow2
  obtain ⟨g, off, c, rfl, hc⟩ := hrow2.at_ (by decide)
  have c00 := hc 0 (by decide) 0 _ rfl
  have c01 := hc 0 (by decide) 1 _ rfl
  have c02 := hc 0 (by decide) 2 _ rfl
  have c03 := hc 0 (by decide) 3 _ rfl
  have c04 := hc 0 (by decide) 4 _ rfl
  have c05 := hc 0 (by decide) 5 _ rfl
  have c11 := hc 1 (by decide) 1 _ rfl
  have c22 := hc 2 (by decide) 2 _ rfl
  have c23 := hc 2 (by decide) 3 _ rfl
  have c34 := hc 3 (by decide) 4 _ rfl
  simp only [Nat.zero_mul, Nat.add_zero, Nat.one_mul, saneToks, List.getElem_cons_zero, List.getElem_cons_succ] at c00 c01 c02 c03 c04 c05 c11 c22 c23 c34
  have HR2 : Hid (TokRow w2 (.slice (some ⟨g, off, none⟩) 4 c) saneToks) := HR.out
  rw [show saneToks.length = 4 from rfl]
  clear hc hrow hrow2 HR
  go_wp2_with fail
  refine (isName_any [97, 95, 49] _ (by decide)).mono ?_
  rintro e w' ⟨rfl, rfl⟩
  rw [sane3]
  go_wp2_with fail
  refine (isName_any [105, 102] _ (by decide)).mono ?_
  rintro e w' ⟨rfl, rfl⟩
  rw [sane4]
  go_wp2_with fail
  refine (isKeyword_any [105, 102] _).mono ?_
  rintro e w' ⟨rfl, rfl⟩
  rw [sane5]
  go_wp2_with fail
  refine (text_any _ saneToks _ HR2.out (by decide) (by decide) (HL.out.below hB2) (HP.out.below hB2)).mono ?_
  rintro e w3 ⟨rfl, hb3⟩
  rw [sane7]
  have hB3 : Below w.heap.size w w3 := hB2.trans (hb3.mono hz2)
  obtain ⟨g', off', c', e', hc⟩ := (HR2.out.below hb3).at_ (by decide)
  simp only [Value.slice.injEq, Option.some.injEq, Addr.mk.injEq, and_true] at e'
  obtain ⟨⟨rfl, rfl⟩, h4, rfl⟩ := e'
  clear h4
  have d00 := hc 0 (by decide) 0 _ rfl
  have d01 := hc 0 (by decide) 1 _ rfl
  have d02 := hc 0 (by decide) 2 _ rfl
  have d03 := hc 0 (by decide) 3 _ rfl
  have d04 := hc 0 (by decide) 4 _ rfl
  have d05 := hc 0 (by decide) 5 _ rfl
  simp only [Nat.zero_mul, Nat.add_zero, saneToks, List.getElem_cons_zero] at d00 d01 d02 d03 d04 d05
  clear hc c00 c01 c02 c03 c04 c05 c11 c22 c23 c34
  go_wp2_with fail
  refine (valid_any ⟨1, [97], 0, 0, 0, 0⟩ _ (by decide)).mono ?_
  rintro e w4 ⟨rfl, hb4⟩
  rw [sane6]
  have hB4 : Below w.heap.size w w4 := hB3.trans (hb4.mono hB3.size)
  go_wp2_with fail
  go_ret
  exact ⟨rfl, hB4⟩

end Go.Proofs.YtpdbkbadjgellaaGreatDoor

/-
  A region that draws its order: reads first, then a forced tail; walked by the cheap quiet step. No program in sight.
  The walks of the reference's Day and Parse (payrollref3), Parse on ten bytes in a date's form.
-/
import Derived.StillTailTactics
import Derived.BigQuiet
import Derived.Below
import Derived.Test.YtpdbkbadjgellaaGreatDoorZ31
import Derived.Test.YtpdbkbadjgellaaGreatDoorZ01
import Derived.Test.YtpdbkbadjgellaaGreatDoorZ10
import Derived.BigRegion
namespace Go.Proofs.YtpdbkbadjgellaaGreatDoor
open Go.RowKit

theorem still_of_quiet {P : Program} {w : World} {o : Oper} {a : Act} {next : Act → Prop} (h : o.quiet P a (fun x => x = w) next) : o.still P a w next := by
  obtain ⟨v, h1, h2⟩ := h
  have h3 := h1 w rfl
  unfold Oper.quietAt at h3
  unfold Oper.still
  generalize (execOp a.eval o).run P w = r at *
  cases r with
  | ok x w' =>
    cases x with
    | value u => obtain ⟨rfl, rfl⟩ := h3; exact ⟨rfl, h2⟩
    | skip => obtain ⟨rfl, rfl⟩ := h3; exact ⟨rfl, h2⟩
    | enter f args => obtain ⟨rfl, h4⟩ := h3; exact ⟨rfl, v, h4, h2⟩
    | _ => exact h3.elim
  | _ => exact h3.elim
theorem wpStill_of_quiet {P : Program} {ops : Array Oper} {w : World} {Q : Act → Prop} : ∀ (l : List Oper) (a : Act), wpQuiet P ops (fun x => x = w) Q l a → wpStill P ops w Q l a
  | [], _, h => h
  | o :: l, a, h => by
    unfold wpQuiet at h
    unfold wpStill
    split
    · rename_i hw
      rw [if_pos hw] at h
      exact still_of_quiet (Oper.quiet_mono (fun a' h' => wpStill_of_quiet l a' h') h)
    · rename_i hw
      rw [if_neg hw] at h
      exact wpStill_of_quiet l _ h
theorem region_quiet_tail {P : Program} {id : Nat} {Q : Exit → Act → World → Prop} {a : Act} {w : World} {l : List Oper} (n : Nat) (hm : P.follows .mixedOrders = true) (hB : Region.lexTailB .any l.toArray n = true)
    (h : wpQuiet P l.toArray (fun x => x = w.drew) (fun a' => wpList P l.toArray Q (l.drop n) a' w.drew) (l.take n) a) : (Code.region id l.toArray true).wp P Q a w :=
  wp_region_still_tail n hm hB (wpStill_of_quiet _ _ h)

/-- A world that has grown: all old blocks are as they were. -/
structure Grw (w : World) where
  v : World
  h : Below w.heap.size w v
instance (w : World) : Nonempty (Grw w) := ⟨⟨w, Below.refl _ _⟩⟩
theorem Grw.call {P : Program} {f : FuncId} {args : Array Value} {v : Value} {w : World} (x : Grw w) (h : Calls P f args x.v fun e w' => e = .returned v ∧ Below x.v.heap.size x.v w') :
    Calls P f args x.v fun e w'' => e = .returned v ∧ ∃ y : Grw w, w'' = y.v :=
  h.mono fun _ w' ⟨he, hb⟩ => ⟨he, ⟨w', x.h.trans (hb.mono x.h.size)⟩, rfl⟩
theorem Grw.cell {w : World} {p : Addr} {u : Value} (h : w.cell? p = some u) (x : Grw w) : x.v.cell? p = some u := by
  rw [x.h.cell (World.block_lt_of_cell? w _ h)]
  exact h
end Go.Proofs.YtpdbkbadjgellaaGreatDoor

namespace Go.Proofs.YtpdbkbadjgellaaGreatDoor
open Go.RowKit
attribute [local go_sem] ba_get ba_extract take_rest

set_option maxHeartbeats 1000000 in
theorem rday_any (y m d : Int) (w : World) (hy : 0 ≤ y) (hy2 : y ≤ 9999) (hm : 0 ≤ m) (hm2 : m ≤ 99) (hd : 0 ≤ d) (hd2 : d ≤ 99) :
    Calls Tryz.prog 77 #[.int .i64 y, .int .i64 m, .int .i64 d] w fun e w' => e = .returned (.tuple #[.int .i64 (if Tk.dayOK y m d = true then Tk.dayNo y m d else 0), .bool (Tk.dayOK y m d)]) ∧ w = w' := by
  cases hok : Tk.dayOK y m d
  · have hno := of_decide_eq_false hok
    clear hok
    by_cases h1 : 1970 ≤ y ∧ y ≤ 2199
    · have g1 : decide (1970 ≤ y ∧ y ≤ 2199) = true := decide_eq_true h1
      have G1 := Lib.hid g1
      clear g1
      obtain ⟨hy3, hy4⟩ := h1
      by_cases h2 : m < 1
      · go_enter Tryz.func77, Tryz.ntmps77
        go_wp2_with fail
        refine (rinYears_any _ _).mono ?_
        rintro e w' ⟨rfl, rfl⟩
        rw [G1.out]
        go_wp2_with fail
        go_ret2
        exact ⟨rfl, rfl⟩
      · by_cases h3 : 12 < m
        · go_enter Tryz.func77, Tryz.ntmps77
          go_wp2_with fail
          refine (rinYears_any _ _).mono ?_
          rintro e w' ⟨rfl, rfl⟩
          rw [G1.out]
          go_wp2_with fail
          go_ret2
          exact ⟨rfl, rfl⟩
        · by_cases h4 : d < 1
          · go_enter Tryz.func77, Tryz.ntmps77
            go_wp2_with fail
            refine (rinYears_any _ _).mono ?_
            rintro e w' ⟨rfl, rfl⟩
            rw [G1.out]
            go_wp2_with fail
            go_ret2
            exact ⟨rfl, rfl⟩
          · have h5 : Tk.mlen y m < d := by omega
            clear hno
            go_enter Tryz.func77, Tryz.ntmps77
            go_wp2_with fail
            refine (rinYears_any _ _).mono ?_
            rintro e w' ⟨rfl, rfl⟩
            rw [G1.out]
            go_wp2_with fail
            refine (rlengths_any _ _ _ (by omega) (by omega) (by omega) (by omega)).mono ?_
            rintro e w' ⟨rfl, rfl⟩
            go_wp2_with fail
            go_ret2
            exact ⟨rfl, rfl⟩
    · have g1 : decide (1970 ≤ y ∧ y ≤ 2199) = false := decide_eq_false h1
      have G1 := Lib.hid g1
      clear g1 h1 hno
      go_enter Tryz.func77, Tryz.ntmps77
      go_wp2_with fail
      refine (rinYears_any _ _).mono ?_
      rintro e w' ⟨rfl, rfl⟩
      rw [G1.out]
      go_wp2_with fail
      go_ret2
      exact ⟨rfl, rfl⟩
  · obtain ⟨h1, h2, h3, h4, h5, h6⟩ := of_decide_eq_true hok
    have g1 : decide (1970 ≤ y ∧ y ≤ 2199) = true := decide_eq_true ⟨h1, h2⟩
    have G1 := Lib.hid g1
    have hml := Tk.mlen_lo y m
    clear g1 hok
    go_enter Tryz.func77, Tryz.ntmps77
    go_wp2_with fail
    refine (rinYears_any _ _).mono ?_
    rintro e w' ⟨rfl, rfl⟩
    rw [G1.out]
    go_wp2_with fail
    refine (rlengths_any _ _ _ (by omega) (by omega) (by omega) (by omega)).mono ?_
    rintro e w' ⟨rfl, rfl⟩
    go_wp2_with fail
    refine (rraw_any _ _ _ _ (by omega) (by omega) (by omega) (by omega) (by omega) (by omega)).mono ?_
    rintro e w' ⟨rfl, rfl⟩
    go_wp2_with fail
    go_ret2
    exact ⟨rfl, rfl⟩

/-- The three numbers of a date, as far as they are read. -/
def accs (ps : List (List UInt8)) (k j : Nat) : List Value := (List.range 3).map fun i => .int .i64 ((if i < k then Tk.val (ps.getD i []) else if i = k then Tk.val ((ps.getD k []).take j) else 0 : Nat) : Int)
theorem accs_get (ps : List (List UInt8)) (k j i : Nat) (h : i < 3) : (accs ps k j)[i]? = some (.int .i64 ((if i < k then Tk.val (ps.getD i []) else if i = k then Tk.val ((ps.getD k []).take j) else 0 : Nat) : Int)) := by
  simp [accs, h]
theorem accs_set (ps : List (List UInt8)) (k j : Nat) (_hk : k < 3) (hj : j < (ps.getD k []).length) (v : Int) (hv : v = (Tk.val ((ps.getD k []).take j) * 10 + ((ps.getD k [])[j].toNat - 48) : Nat)) :
    (accs ps k j).set k (.int .i64 v) = accs ps k (j + 1) := by
  apply List.ext_getElem?
  intro i
  rcases Nat.lt_or_ge i 3 with hi | hi
  · rw [accs_get ps k (j + 1) i hi, List.getElem?_set]
    by_cases e : k = i
    · subst e
      rw [if_pos rfl, if_pos (by simp [accs]; omega), hv, if_neg (by omega), if_pos rfl, List.take_succ_eq_append_getElem hj, val_snoc]
    · rw [if_neg e, accs_get ps k j i hi]
      by_cases e2 : i < k
      · rw [if_pos e2, if_pos e2]
      · rw [if_neg e2, if_neg e2, if_neg (fun h => e h.symm), if_neg (fun h => e h.symm)]
  · rw [List.getElem?_eq_none (by simp [accs]; omega), List.getElem?_eq_none (by simp [accs]; omega)]
theorem accs_next (ps : List (List UInt8)) (k : Nat) : accs ps k (ps.getD k []).length = accs ps (k + 1) 0 := by
  unfold accs
  apply List.map_congr_left
  intro i _
  by_cases e : i < k
  · rw [if_pos e, if_pos (by omega)]
  · rw [if_neg e]
    by_cases e2 : i = k
    · subst e2; rw [if_pos rfl, if_pos (by omega), List.take_length]
    · rw [if_neg e2, if_neg (by omega)]
      split
      · simp [Tk.val]
      · rfl

def dparts (l : List UInt8) : List (List UInt8) := [l.take 4, (l.drop 5).take 2, l.drop 8]
theorem dparts_dig (l : List UInt8) (hl : l.length = 10) (h : Tk.dateForm l = true) (k j : Nat) (hk : k < 3) (hj : j < ((dparts l).getD k []).length) : Tk.isDig (((dparts l).getD k [])[j]) = true := by
  have hf := ((dateForm_iff l).1 h).2
  have key : ∀ i (hi : i < l.length), i ≠ 4 → i ≠ 7 → Tk.isDig l[i] = true := by
    intro i hi h4 h7
    have := hf i (by omega)
    unfold dateAt at this
    rw [if_neg (by omega), getD_eq l i hi] at this
    exact this
  have : k = 0 ∨ k = 1 ∨ k = 2 := by omega
  rcases this with rfl | rfl | rfl
  · have e : (dparts l).getD 0 [] = l.take 4 := rfl
    simp only [e] at hj ⊢
    rw [List.getElem_take]
    simp at hj
    exact key j (by omega) (by omega) (by omega)
  · have e : (dparts l).getD 1 [] = (l.drop 5).take 2 := rfl
    simp only [e] at hj ⊢
    rw [List.getElem_take, List.getElem_drop]
    simp at hj
    exact key _ (by omega) (by omega) (by omega)
  · have e : (dparts l).getD 2 [] = l.drop 8 := rfl
    simp only [e] at hj ⊢
    rw [List.getElem_drop]
    simp at hj
    exact key _ (by omega) (by omega) (by omega)
theorem dparts_len (l : List UInt8) (hl : l.length = 10) (k : Nat) : ((dparts l).getD k []).length ≤ 4 := by
  match k with
  | 0 => simp [dparts, hl]
  | 1 => simp [dparts, hl]
  | 2 => simp [dparts, hl]
  | k + 3 => simp [dparts]
theorem dval_bd (l : List UInt8) (hl : l.length = 10) (h : Tk.dateForm l = true) (k j : Nat) (hk : k < 3) : Tk.val (((dparts l).getD k []).take j) ≤ 9999 := by
  have h1 := val_bd (((dparts l).getD k []).take j) (by
    rw [List.all_eq_true]
    intro c hc
    obtain ⟨i, hi, rfl⟩ := List.getElem_of_mem hc
    rw [List.getElem_take]
    exact dparts_dig l hl h k i hk (by rw [List.length_take] at hi; omega))
  have h2 := dparts_len l hl k
  have : (((dparts l).getD k []).take j).length ≤ 4 := by rw [List.length_take]; omega
  have : 10 ^ (((dparts l).getD k []).take j).length ≤ 10 ^ 4 := Nat.pow_le_pow_right (by omega) this
  omega

theorem dval_two (l : List UInt8) (hl : l.length = 10) (h : Tk.dateForm l = true) (k : Nat) (hk : k < 3) (hk1 : 1 ≤ k) : Tk.val ((dparts l).getD k []) < 100 := by
  have h1 := val_bd ((dparts l).getD k []) (by
    rw [List.all_eq_true]
    intro c hc
    obtain ⟨i, hi, rfl⟩ := List.getElem_of_mem hc
    exact dparts_dig l hl h k i hk hi)
  have : ((dparts l).getD k []).length = 2 := by
    have : k = 1 ∨ k = 2 := by omega
    rcases this with rfl | rfl <;> simp [dparts, hl]
  rw [this] at h1
  exact h1
theorem dparts_at (l : List UInt8) (k : Nat) (h : k < 3) : (dparts l)[k]? = some ((dparts l).getD k []) := by
  have : k = 0 ∨ k = 1 ∨ k = 2 := by omega
  rcases this with rfl | rfl | rfl <;> rfl
/-- What stands in memory while a date is read. -/
def DR (l : List UInt8) (k j : Nat) (w wr : World) : Prop :=
  wr.heap[w.heap.size]? = some (.cells (accs (dparts l) k j).toArray 113 (0, 0)) ∧ wr.heap[w.heap.size + 1]? = some (.cells ((dparts l).map fun x => Value.string ⟨x.toArray⟩).toArray 9 (0, 0)) ∧ Below w.heap.size w wr
theorem dr_start (l : List UInt8) (w : World) : DR l 0 0 w (((w.alloc (.cells #[.int .i64 0, .int .i64 0, .int .i64 0] 113)).alloc (.cells #[.string ⟨(l.take 4).toArray⟩, .string ⟨((l.drop 5).take 2).toArray⟩, .string ⟨(l.drop 8).toArray⟩] 9)).drew) := by
  refine ⟨?_, ?_, (((Below.refl _ _).alloc (Nat.le_refl _) _).alloc (by simp) _).drew⟩
  · refine (Below.heap_alloc (w.alloc _) _ _ (by simp)).trans (heap_alloc_new w _)
  · have := heap_alloc_new (w.alloc (.cells #[.int .i64 0, .int .i64 0, .int .i64 0] 113)) (.cells #[.string ⟨(l.take 4).toArray⟩, .string ⟨((l.drop 5).take 2).toArray⟩, .string ⟨(l.drop 8).toArray⟩] 9)
    rw [World.size_alloc] at this
    exact this

set_option maxHeartbeats 2000000 in
set_option maxRecDepth 100000 in
theorem rparse_any (l : List UInt8) (w : World) (hl : l.length = 10) (h : Tk.dateForm l = true) :
    Calls Tryz.prog 41 #[.string ⟨l.toArray⟩] w fun e w' => e = .returned (.tuple #[.int .i64 ((Tk.dayOf l).getD 0), .bool (Tk.dayOf l).isSome]) ∧ Below w.heap.size w w' := by
  have HD := Lib.hid (dparts_dig l hl h)
  have HV := Lib.hid (dval_bd l hl h)
  have HN := Lib.hid (dparts_len l hl)
  have HF := Lib.hid h
  have g10 : ((l.length : Int) != 10) = false := by simp; omega
  have hl1 : 10 ≤ l.length := by omega
  have hl2 : l.length ≤ 10 := by omega
  have HL := Lib.hid hl
  clear hl h
  go_enter Tryz.func41, Tryz.ntmps41
  go_wp2_with fail
  go_region
  go_wp2_with fail
  have hr0 : DR l 0 0 w (((w.alloc (.cells #[.int .i64 0, .int .i64 0, .int .i64 0] 113)).alloc (.cells #[.string ⟨(l.take 4).toArray⟩, .string ⟨((l.drop 5).take 2).toArray⟩, .string ⟨(l.drop 8).toArray⟩] 9)).drew) := dr_start l w
  generalize (((w.alloc (.cells #[.int .i64 0, .int .i64 0, .int .i64 0] 113)).alloc (.cells #[.string ⟨(l.take 4).toArray⟩, .string ⟨((l.drop 5).take 2).toArray⟩, .string ⟨(l.drop 8).toArray⟩] 9)).drew) = w0 at *
  have HR0 := Lib.hid hr0
  clear hr0 g10
  go_loopw [22] (fun i wr => ∃ k : Nat, k ≤ 3 ∧ i = .int .i64 k ∧ Hid (DR l k 0 w wr)) (fun i _ => 3 - (intOf i).toNat)
  case atStart => exact ⟨0, by omega, rfl, HR0⟩
  case round =>
    obtain ⟨k, hk, rfl, HR⟩ := hrel
    by_cases hlt : k < 3
    · obtain ⟨r1, r2, r3⟩ := HR.out
      have hcs := Lib.cell_of_heap r2 k
      rw [List.getElem?_toArray, List.getElem?_map, dparts_at l k hlt] at hcs
      simp only [Option.map_some] at hcs
      have HPd := Lib.hid (fun j => HD.out k j hlt)
      have HPv := Lib.hid (fun j => HV.out k j hlt)
      have hPn := HN.out k
      have HNx := Lib.hid (accs_next (dparts l) k)
      clear r1 r2 r3
      generalize hP : (dparts l).getD k [] = P at *
      have HP := Lib.hid hP
      clear hP
      obtain ⟨wo, rfl⟩ : ∃ wo : World, wo = wr := ⟨_, rfl⟩
      have gk : decide ((k : Int) < 3) = true := by simp; omega
      go_wp2_with fail
      clear gk
      go_loopw [7] (fun i wr => ∃ j : Nat, j ≤ P.length ∧ i = .int .i64 j ∧ Hid (DR l k j w wr)) (fun i _ => P.length - (intOf i).toNat)
      case atStart => exact ⟨0, by omega, rfl, HR⟩
      case round =>
        obtain ⟨j, hj, rfl, HRj⟩ := hrel
        by_cases hlj : j < P.length
        · obtain ⟨r1, r2, r3⟩ := HRj.out
          have hcn := Lib.cell_of_heap r1 k
          rw [List.getElem?_toArray, accs_get _ _ _ _ hlt, if_neg (by omega), if_pos rfl, HP.out] at hcn
          have hfz := Lib.frozen_of_heap r1 k
          have hsz := heap_lt r1
          have hv9 := HPv.out j
          have hdg := of_decide_eq_true (HPd.out j hlj)
          have HS : Hid (∀ v : Int, v = (Tk.val (P.take j) * 10 + (P[j].toNat - 48) : Nat) → (accs (dparts l) k j).set k (.int .i64 v) = accs (dparts l) k (j + 1)) := by
            show ∀ _, _ → _
            intro v hv
            refine accs_set (dparts l) k j hlt (by rw [HP.out]; exact hlj) v ?_
            simp only [HP.out]
            exact hv
          have HRr := Lib.hid (And.intro r1 (And.intro r2 r3))
          clear r1 r2 r3 hcs
          obtain ⟨c, hc⟩ : ∃ c, P[j] = c := ⟨_, rfl⟩
          rw [hc] at hdg
          have HC := Lib.hid hc
          obtain ⟨V, hV⟩ : ∃ V, Tk.val (P.take j) = V := ⟨_, rfl⟩
          rw [hV] at hcn hv9
          have HVv := Lib.hid hV
          obtain ⟨hd1, hd2⟩ := hdg
          clear hV
          go_wp2_with fail
          refine region_quiet_tail 12 (by kernel_rfl) (by kernel_rfl) ?_
          simp only [List.take_succ_cons, List.take_zero, List.drop_succ_cons, List.drop_zero]
          repeat (go_big_quiet_step (fail))
          refine wpQuiet_nil ?_
          go_wp2_with fail
          go_roundw
          case rel =>
            refine ⟨j + 1, by omega, by go_num, ?_⟩
            obtain ⟨r1, r2, r3⟩ := HRr.out
            refine ⟨(setCell_at (w := wr) (i := k) r1 _).trans ?_, (Below.heap_setCell wr _ _ _ (by simp)).trans r2, r3.trans ⟨rfl, rfl, rfl, by simp [World.setCell], fun i hi => Below.heap_setCell wr _ _ _ (by simp; omega)⟩⟩
            rw [List.setIfInBounds_toArray, HS.out _ (by rw [HVv.out, hc]; omega)]
          case measure => simp [intOf]; omega
        · have HR2 : Hid (DR l (k + 1) 0 w wr) := by
            obtain ⟨r1, r2, r3⟩ := HRj.out
            have e : j = P.length := by omega
            rw [e, HNx.out] at r1
            exact ⟨r1, r2, r3⟩
          go_wp2_with fail
          go_roundw
          case rel => exact ⟨k + 1, by omega, by go_num, HR2⟩
          case measure => simp [intOf]; omega
    · have hk3 : k = 3 := by omega
      subst hk3
      obtain ⟨r1, r2, r3⟩ := HR.out
      have hB3 := r3
      have v0 := HV.out 0 4 (by omega)
      have v1 := HV.out 1 2 (by omega)
      have v2 := HV.out 2 2 (by omega)
      have hy4 : l[4].toNat = 45 := by
        have := ((dateForm_iff l).1 HF.out).2 4 (by omega)
        unfold dateAt at this
        rw [if_pos (by omega), getD_eq l 4 (by omega)] at this
        exact of_decide_eq_true this
      have hy7 : l[7].toNat = 45 := by
        have := ((dateForm_iff l).1 HF.out).2 7 (by omega)
        unfold dateAt at this
        rw [if_pos (by omega), getD_eq l 7 (by omega)] at this
        exact of_decide_eq_true this
      have g4 : ((l[4].toNat : Int) != 45) = false := by simp; omega
      have g7 : ((l[7].toNat : Int) != 45) = false := by simp; omega
      have c0 := Lib.cell_of_heap r1 0
      have c1 := Lib.cell_of_heap r1 1
      have c2 := Lib.cell_of_heap r1 2
      rw [List.getElem?_toArray, accs_get _ _ _ _ (by omega), if_pos (by omega)] at c0 c1 c2
      have e0 : Tk.val ((dparts l).getD 0 []) = Tk.dateY l := rfl
      have e1 : Tk.val ((dparts l).getD 1 []) = Tk.dateM l := rfl
      have e2 : Tk.val ((dparts l).getD 2 []) = Tk.dateD l := by
        show Tk.val (l.drop 8) = Tk.val ((l.drop 8).take 2)
        rw [List.take_of_length_le (by simp; omega)]
      rw [e0] at c0
      rw [e1] at c1
      rw [e2] at c2
      have b0 : Tk.dateY l ≤ 9999 := by
        have h : Tk.val ((l.take 4).take 4) ≤ 9999 := v0
        rw [List.take_take, Nat.min_self] at h
        exact h
      have b1 : Tk.dateM l < 100 := dval_two l HL.out HF.out 1 (by omega) (by omega)
      have b2 : Tk.dateD l < 100 := by rw [← e2]; exact dval_two l HL.out HF.out 2 (by omega) (by omega)
      have HO : Hid (Tk.dayOf l = if Tk.dayOK (Tk.dateY l) (Tk.dateM l) (Tk.dateD l) = true then some (Tk.dayNo (Tk.dateY l) (Tk.dateM l) (Tk.dateD l)) else none) := rfl
      clear r1 r2 r3 e0 e1 e2 v0 v1 v2 hy4 hy7
      generalize Tk.dateY l = Y at *
      generalize Tk.dateM l = M at *
      generalize Tk.dateD l = D at *
      go_wp2_with fail
      refine (rday_any _ _ _ _ (by omega) (by omega) (by omega) (by omega) (by omega) (by omega)).mono ?_
      rintro e w' ⟨rfl, rfl⟩
      clear c0 c1 c2
      cases hok : Tk.dayOK Y M D
      · have HO2 : Hid (Tk.dayOf l = none) := by show _ = _; rw [HO.out, hok]; rfl
        clear hok HO
        simp only [Bool.false_eq_true, if_false]
        go_wp2_with fail
        go_ret2
        exact ⟨by rw [HO2.out]; rfl, hB3⟩
      · have HO2 : Hid (Tk.dayOf l = some (Tk.dayNo Y M D)) := by show _ = _; rw [HO.out, hok]; rfl
        clear hok HO
        simp only [if_true]
        generalize Tk.dayNo Y M D = N at *
        go_wp2_with fail
        go_ret2
        exact ⟨by rw [HO2.out]; rfl, hB3⟩
end Go.Proofs.YtpdbkbadjgellaaGreatDoor

/-
  The walk of the statements' sane and same.
  What the rows' listed variables give, and a world for a witness.
  The walk of payrollgen.Mod.
  The tape of choices: what it is in memory, and the walks of payrollgen's New and Next.
  A slice of ints among the arguments.
-/
import Derived.Test.YtpdbkbadjgellaaGreatDoorZ06
import Derived.KernelRfl
import Derived.Test.YtpdbkbadjgellaaGreatDoorCards
import Derived.Test.YtpdbkbadjgellaaGreatDoorTie
import Derived.WalkKit
import Derived.ProofKit
import Derived.OpenShut
import Derived.Deep.DeepHandedRow
import Derived.Lib.LaidTab
import Derived.Stop.LaidErr
import Derived.Test.YtpdbkbadjgellaaGreatDoorZ00
namespace Go.Proofs.YtpdbkbadjgellaaGreatDoor
open Go.RowKit
attribute [local go_sem] ba_get ba_extract take_rest ba_append
attribute [local go_sem ↓] run_eql_tok run_neq_tok

def saneText : List UInt8 := [97, 60, 61, 50, 53, 37, 32, 50, 48, 50, 54, 45, 48, 49, 45, 48, 49, 32, 35, 32, 120]
def saneToks : List Tk.Tok := [{ kind := 1, text := [97], place := 0 }, { kind := 4, text := [60, 61], place := 1 }, { kind := 2, num := 1, den := 4, place := 3 }, { kind := 3, day := 20454, place := 7 }]
theorem sane1 : Tk.scan saneText = .ok saneToks := by kernel_rfl
theorem sane2 : Tk.scan [50, 48, 50, 54, 32, 45, 32, 48, 49] = .error (7, 6) := by kernel_rfl
theorem sane3 : Tk.isName [97, 95, 49] = true := by kernel_rfl
theorem sane4 : Tk.isName [105, 102] = false := by kernel_rfl
theorem sane5 : Tk.isKey [105, 102] = true := by kernel_rfl
theorem sane6 : validTok ⟨1, [97], 0, 0, 0, 0⟩ = true := by kernel_rfl
theorem sane7 : textAll saneToks = [97, 32, 60, 61, 32, 48, 46, 50, 53, 32, 50, 48, 50, 54, 45, 48, 49, 45, 48, 49] := by kernel_rfl

/-- Two lists of tokens can be held against each other. -/
instance : DecidableEq Tk.Tok := fun t u => decidable_of_iff _ (tokEq_iff t u)
/-- A slice of tokens, one cell of one token. -/
theorem TokRow.at_ {w : World} {v : Value} {ts : List Tk.Tok} (h : TokRow w v ts) (hn : 0 < ts.length) :
    ∃ g off c, v = .slice (some ⟨g, off, none⟩) ts.length c ∧ ∀ i (h : i < ts.length) j u, (tokCells ts[i])[j]? = some u → w.cell? ⟨g, off + i * 6 + j, none⟩ = some u := by
  obtain ⟨A, c, rfl, hA⟩ := h
  obtain ⟨g, off, rfl, hc⟩ := hA hn
  exact ⟨g, off, c, rfl, hc⟩

set_option maxHeartbeats 2000000 in
set_option maxRecDepth 100000 in
theorem sane_any (w : World) (hl : Lens w) (hp : Pow w) :
    Calls Tryz.prog 10 #[] w fun e w' => e = .returned (.bool true) ∧ Below w.heap.size w w' := by
  have HL := Lib.hid hl
  have HP := Lib.hid hp
  clear hl hp
  go_enter Tryz.func10, Tryz.ntmps10
  go_wp2_with fail
  refine (scan_any saneText _ (by decide) HL.out).mono ?_
  rintro e w1 ⟨hb1, h1⟩
  rw [sane1] at h1
  obtain ⟨v, rfl, hown⟩ := h1
  have hrow := TokRow.of_own hown
  clear hown
  have hz1 := hb1.size
  go_wp2_with fail
  refine (scan_any [50, 48, 50, 54, 32, 45, 32, 48, 49] _ (by decide) (HL.out.below hb1)).mono ?_
  rintro e w2 ⟨hb2, h2⟩
  rw [sane2] at h2
  obtain rfl := h2
  have hB2 : Below w.heap.size w w2 := hb1.trans (hb2.mono hz1)
  have hz2 := hB2.size
  have hrow2 := hrow.below hb2
  have HR := Lib.hid hrow2
  obtain ⟨g, off, c, rfl, hc⟩ := hrow2.at_ (by decide)
  have c00 := hc 0 (by decide) 0 _ rfl
  have c01 := hc 0 (by decide) 1 _ rfl
  have c02 := hc 0 (by decide) 2 _ rfl
  have c03 := hc 0 (by decide) 3 _ rfl
  have c04 := hc 0 (by decide) 4 _ rfl
  have c05 := hc 0 (by decide) 5 _ rfl
  have c11 := hc 1 (by decide) 1 _ rfl
  have c22 := hc 2 (by decide) 2 _ rfl
  have c23 := hc 2 (by decide) 3 _ rfl
  have c34 := hc 3 (by decide) 4 _ rfl
  simp only [Nat.zero_mul, Nat.add_zero, Nat.one_mul, saneToks, List.getElem_cons_zero, List.getElem_cons_succ] at c00 c01 c02 c03 c04 c05 c11 c22 c23 c34
  have HR2 : Hid (TokRow w2 (.slice (some ⟨g, off, none⟩) 4 c) saneToks) := HR.out
  rw [show saneToks.length = 4 from rfl]
  clear hc hrow hrow2 HR
  go_wp2_with fail
  refine (isName_any [97, 95, 49] _ (by decide)).mono ?_
  rintro e w' ⟨rfl, rfl⟩
  rw [sane3]
  go_wp2_with fail
  refine (isName_any [105, 102] _ (by decide)).mono ?_
  rintro e w' ⟨rfl, rfl⟩
  rw [sane4]
  go_wp2_with fail
  refine (isKeyword_any [105, 102] _).mono ?_
  rintro e w' ⟨rfl, rfl⟩
  rw [sane5]
  go_wp2_with fail
  refine (text_any _ saneToks _ HR2.out (by decide) (by decide) (HL.out.below hB2) (HP.out.below hB2)).mono ?_
  rintro e w3 ⟨rfl, hb3⟩
  rw [sane7]
  have hB3 : Below w.heap.size w w3 := hB2.trans (hb3.mono hz2)
  obtain ⟨g', off', c', e', hc⟩ := (HR2.out.below hb3).at_ (by decide)
  simp only [Value.slice.injEq, Option.some.injEq, Addr.mk.injEq, and_true] at e'
  obtain ⟨⟨rfl, rfl⟩, h4, rfl⟩ := e'
  clear h4
  have d00 := hc 0 (by decide) 0 _ rfl
  have d01 := hc 0 (by decide) 1 _ rfl
  have d02 := hc 0 (by decide) 2 _ rfl
  have d03 := hc 0 (by decide) 3 _ rfl
  have d04 := hc 0 (by decide) 4 _ rfl
  have d05 := hc 0 (by decide) 5 _ rfl
  simp only [Nat.zero_mul, Nat.add_zero, saneToks, List.getElem_cons_zero] at d00 d01 d02 d03 d04 d05
  clear hc c00 c01 c02 c03 c04 c05 c11 c22 c23 c34
  go_wp2_with fail
  refine (valid_any ⟨1, [97], 0, 0, 0, 0⟩ _ (by decide)).mono ?_
  rintro e w4 ⟨rfl, hb4⟩
  rw [sane6]
  have hB4 : Below w.heap.size w w4 := hB3.trans (hb4.mono hB3.size)
  go_wp2_with fail
  go_ret
  exact ⟨rfl, hB4⟩

set_option maxHeartbeats 1000000 in
set_option maxRecDepth 100000 in
theorem same_any (v u : Value) (ts us : List Tk.Tok) (w : World) (hv : TokRow w v ts) (hu : TokRow w u us) (hn : ts.length ≤ 100000) (hm : us.length ≤ 100000) :
    Calls Tryz.prog 28 #[v, u] w fun e w' => e = .returned (.bool (decide (ts = us))) ∧ ∃ n, w' = w.drewN n := by
  have HV := Lib.hid hv
  have HU := Lib.hid hu
  obtain ⟨A, c, rfl, _⟩ := hv
  obtain ⟨B, d, rfl, _⟩ := hu
  by_cases hl : ts.length = us.length
  · have g : ((ts.length : Int) != us.length) = false := by simp; omega
    have HE := Lib.hid hl
    clear hl
    go_enter Tryz.func28, Tryz.ntmps28
    go_wp2_with fail
    clear g
    go_loopw [5] (fun i wr => ∃ k n : Nat, k ≤ ts.length ∧ i = .int .i64 k ∧ Hid (ts.take k = us.take k) ∧ wr = w.drewN n) (fun i _ => ts.length - (intOf i).toNat)
    case atStart => exact ⟨0, 0, Nat.zero_le _, rfl, rfl, rfl⟩
    case round =>
      obtain ⟨k, n, hk, rfl, HT, rfl⟩ := hrel
      by_cases hlt : k < ts.length
      · have hlu : k < us.length := by have := HE.out; omega
        obtain ⟨g1, o1, c1, e1, h1⟩ := HV.out.at_ (by omega)
        obtain ⟨g2, o2, c2, e2, h2⟩ := HU.out.at_ (by omega)
        simp only [Value.slice.injEq] at e1 e2
        obtain ⟨rfl, h3, rfl⟩ := e1
        obtain ⟨rfl, h4, rfl⟩ := e2
        clear h3 h4
        have h1 := h1 k hlt
        have h2 := h2 k hlu
        obtain ⟨t1, t2, t3, t4, t5, t6, ht⟩ : ∃ t1 t2 t3 t4 t5 t6, ts[k] = ⟨t1, t2, t3, t4, t5, t6⟩ := ⟨_, _, _, _, _, _, rfl⟩
        obtain ⟨s1, s2, s3, s4, s5, s6, hs⟩ : ∃ s1 s2 s3 s4 s5 s6, us[k] = ⟨s1, s2, s3, s4, s5, s6⟩ := ⟨_, _, _, _, _, _, rfl⟩
        rw [ht] at h1
        rw [hs] at h2
        have a0 := h1 0 _ rfl
        have a1 := h1 1 _ rfl
        have a2 := h1 2 _ rfl
        have a3 := h1 3 _ rfl
        have a4 := h1 4 _ rfl
        have a5 := h1 5 _ rfl
        have b0 := h2 0 _ rfl
        have b1 := h2 1 _ rfl
        have b2 := h2 2 _ rfl
        have b3 := h2 3 _ rfl
        have b4 := h2 4 _ rfl
        have b5 := h2 5 _ rfl
        simp only [Nat.add_zero] at a0 b0
        clear h1 h2
        by_cases heq : ts[k] = us[k]
        · have HT2 : Hid (ts.take (k + 1) = us.take (k + 1)) := by
            show _ = _
            rw [List.take_succ_eq_append_getElem hlt, List.take_succ_eq_append_getElem hlu, HT.out, heq]
          rw [ht, hs] at heq
          injection heq with q1 q2 q3 q4 q5 q6
          subst q1 q2 q3 q4 q5 q6
          clear ht hs
          go_wp2_with fail
          go_quiet (fail)
          go_wp2_with fail
          go_roundw
          case rel => exact ⟨k + 1, _, by omega, by go_num, HT2, rfl⟩
          case measure => simp [intOf]; omega
        · have HF : Hid (decide (ts = us) = false) := by
            show _ = _
            rw [decide_eq_false_iff_not]
            rintro rfl
            exact heq rfl
          have gq : (t1 == s1 && (t2 == s2 && ((t3 == s3 && t4 == s4) && (t5 == s5 && t6 == s6)))) = false := by
            have h : tokEq ts[k] us[k] = false := by rw [Bool.eq_false_iff]; exact fun h => heq ((tokEq_iff _ _).1 h)
            rw [ht, hs] at h
            exact h
          clear ht hs heq
          go_wp2_with fail
          go_quiet (fail)
          go_wp2_with fail
          go_ret
          exact ⟨ret_bool HF.out.symm, _, World.drewN_drewN _ _ _⟩
      · have HF : Hid (decide (ts = us) = true) := by
          show _ = _
          rw [decide_eq_true_iff]
          have := HT.out
          have he := HE.out
          rwa [List.take_of_length_le (by omega), List.take_of_length_le (by omega)] at this
        go_wp2_with fail
        go_ret
        exact ⟨ret_bool HF.out.symm, _, rfl⟩
  · have g : ((ts.length : Int) != us.length) = true := by simp; omega
    have HF : Hid (decide (ts = us) = false) := by
      show _ = _
      rw [decide_eq_false_iff_not]
      rintro rfl
      exact hl rfl
    clear hl
    go_enter Tryz.func28, Tryz.ntmps28
    go_wp2_with fail
    go_ret
    exact ⟨ret_bool HF.out.symm, 0, rfl⟩
end Go.Proofs.YtpdbkbadjgellaaGreatDoor

namespace Go.Proofs.YtpdbkbadjgellaaGreatDoor
open Go.ChangeShapes Go.WideShapes Go.ChangeAt Go.RowKit

theorem ownKnobNone : ownKnob Tryz.prog.godebug = none := by kernel_rfl

/-- The cells of a datum of numbers, at most three deep. -/
def litCells : DataW Unit → List Value
  | .lit (.int k n) => [.int k n]
  | .agg xs => xs.flatMap fun
    | .lit (.int k n) => [.int k n]
    | .agg ys => ys.flatMap fun
      | .lit (.int k n) => [.int k n]
      | _ => []
    | _ => []
  | _ => []
def setRow (cs : Array Value) : Obj → Obj
  | .cells _ t frozen => .cells cs t frozen
  | o => o

section
variable {H : Type} {enc : TypeId × Value → H} {P : Program}
/-- The row's last step where all old memory is as it was. -/
theorem post_of_below {f : Func} {s : ChangeSpec} {apart fresh handsOn again : Bool} {W W' : World} {args : Array Value} {v : Value} {ds gs : List (DataW H)} {before pa pv : List MemPlace}
    (hW : DataW.Whole enc P f.params.toList s.vars apart W args.toList ds gs before)
    (hres : ∀ (b : Nat) (sp : Nat → Bool) (hd : Bool), DataW.TrodAll enc P W' b sp hd f.resultTypes.toList (v.resultList f.resultTypes.size) (s.fn H (ds ++ gs)).results [])
    (hargs : ∀ sp : Nat → Bool, (∀ p ∈ before, sp p.block = true) → DataW.TrodAll enc P W' 0 sp true f.params.toList args.toList (s.fn H (ds ++ gs)).args pa)
    (hvars : ∀ sp : Nat → Bool, (∀ p ∈ before, sp p.block = true) → DataW.TrodVars enc P W' sp s.vars (s.fn H (ds ++ gs)).vars pv)
    (hps : before = pa ++ pv) (hb : Below W.heap.size W W')
    (hok : ∀ (j : Nat) (t : TypeId) (r : Value), f.resultTypes[j]? = some t → (v.resultList f.resultTypes.size)[j]? = some r → Value.okWide P W' .any 0 t r) :
    s.post enc P f apart fresh handsOn again W args v W' := by
  have hlt : ∀ p ∈ before, p.block < W.heap.size := fun p hp => hW.lt p hp
  have hold : ∀ p ∈ before, (fun b => decide (b < W.heap.size)) p.block = true := fun p hp => by simpa using hlt p hp
  refine ⟨ds, gs, before, [], pa, pv, hW, hres _ _ _, hargs _ hold, hvars _ hold, World.keptBut_mono (fun p hp => ⟨hp, ?_⟩) (hb.frame (· ∈ before)), fun _ => ?_⟩
  · rw [hps, List.mem_append] at hp
    exact Or.inr hp
  · obtain ⟨_, _, _, _, _, hz, hn⟩ := hW
    refine ⟨hok, _, _, ([] ++ pa) ++ pv, ⟨[] ++ pa, pv, trodAll_append (hargs _ (fun _ _ => rfl)) (hres _ _ _), hvars _ (fun _ _ => rfl), rfl, ?_, ?_⟩, ?_⟩
    · intro b off hp
      have hin : MemPlace.cell b off ∈ before := by rw [hps]; simpa using hp
      rw [hb.frozen (hlt _ hin)]
      exact hz b off hin
    · intro ha
      have := hn ha
      rw [hps] at this
      simpa using this
    · intro p hp _
      rw [hps]
      simpa using hp
end

/-- One listed variable laid into a heap. -/
noncomputable def layOne (h : Array Obj) (x : String × DataW Unit) : Array Obj :=
  match Tryz.prog.globalNamed x.1 with
  | some g => h.modify g (setRow (litCells x.2).toArray)
  | none => h
theorem gLen : Tryz.prog.globalNamed "payroll/calendar.lengths" = some 0 := by kernel_rfl
theorem gLenType : (Tryz.prog.globals[0]?).map (·.type) = some 144 := by kernel_rfl
theorem gPowType : (Tryz.prog.globals[1]?).map (·.type) = some 148 := by kernel_rfl
theorem cellsLen : Tryz.prog.cellsOf 144 = 12 := by kernel_rfl
theorem cellsPow : Tryz.prog.cellsOf 148 = 20 := by kernel_rfl
theorem cellsInt : Tryz.prog.cellsOf 3 = 1 := by kernel_rfl
theorem cellsU64 : Tryz.prog.cellsOf 123 = 1 := by kernel_rfl

theorem pow_of {W : World} {rest : List (String × DataW Unit)} (h : laidMet Tryz.prog (("internal/strconv.uint64pow10", Rows.laid_internal_strconv_uint64pow10) :: rest) W) : Pow W :=
  Lib.tabIs_of_head (rest := rest) gPow gPowType Tryz.underlying148 Tryz.underlying123 cellsU64 cellsPow h
theorem lens_of {W : World} {rest : List (String × DataW Unit)} (h : laidMet Tryz.prog (("payroll/calendar.lengths", Rows.laid_payroll_calendar_lengths) :: rest) W) : Lens W := by
  have ht : Lib.TabIs Tryz.prog W "payroll/calendar.lengths" .i64 [31, 28, 31, 30, 31, 30, 31, 31, 30, 31, 30, 31] :=
    Lib.tabIs_of_head (rest := rest) gLen gLenType Tryz.underlying144 Tryz.underlying3 cellsInt cellsLen h
  intro m h1 h2
  have hc := ht.cell gLen (m - 1) (by simp; omega)
  rw [hc]
  have : m = 1 ∨ m = 2 ∨ m = 3 ∨ m = 4 ∨ m = 5 ∨ m = 6 ∨ m = 7 ∨ m = 8 ∨ m = 9 ∨ m = 10 ∨ m = 11 ∨ m = 12 := by omega
  rcases this with rfl | rfl | rfl | rfl | rfl | rfl | rfl | rfl | rfl | rfl | rfl | rfl <;> rfl
end Go.Proofs.YtpdbkbadjgellaaGreatDoor

namespace Go.Proofs.YtpdbkbadjgellaaGreatDoor
open Go.RowKit

set_option maxHeartbeats 1000000 in
theorem mod_any (v n : Int) (w : World) (h0 : -9223372036854775808 ≤ v) (h1 : v ≤ 9223372036854775807) (hn : 1 ≤ n) (hn2 : n ≤ 2000000000000) :
    Calls Tryz.prog 26 #[.int .i64 v, .int .i64 n] w fun e w' => e = .returned (.int .i64 (v % n)) ∧ w = w' := by
  have hm0 := Int.emod_nonneg v (show n ≠ 0 by omega)
  have hm1 := Int.emod_lt_of_pos v (show 0 < n by omega)
  have gn : (n == 0) = false := by simp; omega
  by_cases hv : 0 ≤ v
  · go_enter Tryz.func26, Tryz.ntmps26
    go_wp2_with fail
    go_ret
    exact ⟨rfl, rfl⟩
  · by_cases hd : n ∣ v
    · have ht : v.tmod n = 0 := Int.tmod_eq_zero_of_dvd hd
      have HR : Hid (v % n = 0) := Int.emod_eq_zero_of_dvd hd
      clear hd
      go_enter Tryz.func26, Tryz.ntmps26
      go_wp2_with fail
      go_ret
      exact ⟨ret_int HR.out.symm, rfl⟩
    · obtain ⟨r, hr⟩ : ∃ r, v % n = r := ⟨_, rfl⟩
      have ht : v.tmod n = r - n := by
        rw [Int.tmod_eq_emod, if_neg (by omega), hr]
        omega
      rw [hr] at hm0 hm1
      have HR := Lib.hid hr
      clear hd hr
      go_enter Tryz.func26, Tryz.ntmps26
      go_wp2_with fail
      go_ret
      exact ⟨ret_int (by rw [HR.out]), rfl⟩
end Go.Proofs.YtpdbkbadjgellaaGreatDoor

namespace Go.Proofs.YtpdbkbadjgellaaGreatDoor
open Go.RowKit

/-- All old blocks but one are as they were. -/
structure But (b : Nat) (w w' : World) : Prop where
  os : w'.os = w.os
  tape : w'.tape = w.tape
  output : w'.output = w.output
  size : w.heap.size ≤ w'.heap.size
  block : ∀ k, k < w.heap.size → k ≠ b → w'.heap[k]? = w.heap[k]?
theorem But.refl (b : Nat) (w : World) : But b w w := ⟨rfl, rfl, rfl, Nat.le_refl _, fun _ _ _ => rfl⟩
theorem But.trans {b : Nat} {u v w : World} (h : But b u v) (k : But b v w) : But b u w :=
  ⟨k.os.trans h.os, k.tape.trans h.tape, k.output.trans h.output, Nat.le_trans h.size k.size, fun i hi hb => (k.block i (Nat.lt_of_lt_of_le hi h.size) hb).trans (h.block i hi hb)⟩
theorem But.of_below {b : Nat} {w w' : World} (h : Below w.heap.size w w') : But b w w' := ⟨h.os, h.tape, h.output, h.size, fun k hk _ => h.block k hk⟩
theorem But.alloc {b : Nat} {u w : World} (h : But b u w) (o : Obj) : But b u (w.alloc o) :=
  h.trans (.of_below ((Below.refl _ _).alloc (Nat.le_refl _) _))
theorem But.drew {b : Nat} {u w : World} (h : But b u w) : But b u w.drew := h.trans (.of_below (Below.refl _ _).drew)
theorem But.drewN {b : Nat} {u w : World} (h : But b u w) (n : Nat) : But b u (w.drewN n) := ⟨h.os, h.tape, h.output, h.size, h.block⟩
theorem But.setCell {b : Nat} {u w : World} (h : But b u w) {p : Addr} (hp : p.block = b) (x : Value) : But b u (w.setCell p x) :=
  h.trans ⟨rfl, rfl, rfl, by simp [World.setCell], fun k _ hk => Below.heap_setCell _ _ _ _ (by rw [hp]; exact hk)⟩
theorem But.below {b B : Nat} {w w' : World} (h : But b w w') (hB : B ≤ b) (hs : B ≤ w.heap.size) : Below B w w' :=
  ⟨h.os, h.tape, h.output, h.size, fun k hk => h.block k (by omega) (by omega)⟩
theorem But.cell {b : Nat} {w w' : World} (h : But b w w') {p : Addr} (hp : p.block < w.heap.size) (hb : p.block ≠ b) : w'.cell? p = w.cell? p :=
  World.cell?_of_block (w := w) (h.block p.block hp hb)

/-- A slice of ints that lies below a block. -/
def IntsAt (w : World) (b : Nat) (v : Value) (ns : List Int) : Prop :=
  ∃ A c, v = .slice A ns.length c ∧ ns.length ≤ maxLen ∧ (∀ x ∈ ns, -9223372036854775808 ≤ x ∧ x ≤ 9223372036854775807) ∧
    (0 < ns.length → ∃ g off, A = some ⟨g, off, none⟩ ∧ g < b ∧ ∀ i (h : i < ns.length), w.cell? ⟨g, off + i, none⟩ = some (.int .i64 ns[i]))
/-- A tape in memory, somewhere in its list. -/
def TapeOk (b : Nat) (ns : List Int) (w : World) : Prop :=
  ∃ (v : Value) (k : Nat), k ≤ ns.length ∧ w.heap[b]? = some (.cells #[v, .int .i64 k] 48 (0, 0)) ∧ IntsAt w b v ns

theorem heap_lt {w : World} {b : Nat} {o : Obj} (h : w.heap[b]? = some o) : b < w.heap.size := by
  rcases Nat.lt_or_ge b w.heap.size with h' | h'
  · exact h'
  · rw [Array.getElem?_eq_none h'] at h; cases h
theorem TapeOk.lt {b : Nat} {ns : List Int} {w : World} (h : TapeOk b ns w) : b < w.heap.size := by
  obtain ⟨v, k, _, hb, _⟩ := h
  exact heap_lt hb
theorem IntsAt.keep {w w' : World} {b : Nat} {v : Value} {ns : List Int} (h : IntsAt w b v ns) (hk : ∀ g, g < b → w'.heap[g]? = w.heap[g]?) : IntsAt w' b v ns := by
  obtain ⟨A, c, rfl, h1, h2, h3⟩ := h
  refine ⟨A, c, rfl, h1, h2, fun hn => ?_⟩
  obtain ⟨g, off, rfl, hg, hc⟩ := h3 hn
  exact ⟨g, off, rfl, hg, fun i hi => by rw [World.cell?_of_block (w := w) (hk g hg)]; exact hc i hi⟩
theorem TapeOk.below {b : Nat} {ns : List Int} {w w' : World} (h : TapeOk b ns w) (hb : Below w.heap.size w w') : TapeOk b ns w' := by
  have hlt := h.lt
  obtain ⟨v, k, hk, hc, hi⟩ := h
  exact ⟨v, k, hk, (hb.block b hlt).trans hc, hi.keep (fun g hg => hb.block g (by omega))⟩

/-- What Next leaves. -/
def NextPost (b : Nat) (ns : List Int) (n : Int) (w : World) (e : Ending) (w' : World) : Prop :=
  ∃ k : Nat, (k = 0 ∨ (k : Int) < n) ∧ e = .returned (.int .i64 k) ∧ TapeOk b ns w' ∧ But b w w'
end Go.Proofs.YtpdbkbadjgellaaGreatDoor

namespace Go.Proofs.YtpdbkbadjgellaaGreatDoor
open Go.ChangeShapes Go.WideShapes Go.ChangeAt Go.RowKit

theorem laidOut : laidOutB Tryz.prog = true := by kernel_rfl
set_option maxRecDepth 100000 in
theorem ints_of {H : Type} {enc : TypeId × Value → H} {W : World} {r : Reach} {b0 : Nat} {v : Value} {d : DataW H} {ps : List MemPlace} (hval : Value.okWide Tryz.prog W r b0 22 v)
    (h : DataW.Trod enc Tryz.prog W 0 (fun _ => true) true 22 v d ps) : ∃ ns, IntsAt W W.heap.size v ns := by
  obtain ⟨a0, len, cap, rfl⟩ := okWide_slice Tryz.underlying22 hval
  obtain ⟨fuel, hf⟩ := h
  rcases open_ints Tryz.underlying22 Tryz.underlying3 cellsInt hf with ⟨hcs, _⟩ | ⟨a, len', cap', zs, hcs, _, hl, hm, hz, _, hcell, hwz⟩
  · simp [Value.cells] at hcs
    obtain ⟨rfl, rfl, rfl⟩ := hcs
    exact ⟨[], none, 0, rfl, Nat.zero_le _, fun x hx => (by cases hx), fun h => (by cases h)⟩
  · simp [Value.cells] at hcs
    obtain ⟨rfl, rfl, rfl⟩ := hcs
    rw [if_pos rfl] at hz
    have hlen : (zs.take len).length = len := by simp; omega
    refine ⟨zs.take len, some a, cap, by rw [hlen], by omega, fun x hx => bounds_i64 (hwz x (List.mem_of_mem_take hx)), fun h => ?_⟩
    obtain ⟨b, off, rfl, hc⟩ := Go.ints_at hcell (by omega)
    refine ⟨b, off, rfl, World.block_lt_of_cell? W _ (hc 0 (by omega)), fun i hi => ?_⟩
    rw [hc i (by omega), List.getElem_take, List.getD_eq_getElem?_getD, List.getElem?_eq_getElem (by omega)]
    rfl
end Go.Proofs.YtpdbkbadjgellaaGreatDoor

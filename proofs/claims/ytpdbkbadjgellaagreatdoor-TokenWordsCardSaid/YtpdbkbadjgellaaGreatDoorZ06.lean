/-
  What the rows' listed variables give, and a world for a witness.
  The walk of payrollgen.Mod.
  The tape of choices: what it is in memory, and the walks of payrollgen's New and Next.
  A slice of ints among the arguments.
  A fraction and a slice of tokens among the arguments.
-/
import Derived.Test.YtpdbkbadjgellaaGreatDoorCards
import Derived.Test.YtpdbkbadjgellaaGreatDoorTie
import Derived.Test.YtpdbkbadjgellaaGreatDoorZ05
import Derived.WalkKit
import Derived.ProofKit
import Derived.OpenShut
import Derived.Deep.DeepHandedRow
import Derived.Lib.LaidTab
import Derived.Stop.LaidErr
import Derived.Test.YtpdbkbadjgellaaGreatDoorZ00
import Derived.Lib.SmallJoins
namespace Go.Proofs.YtpdbkbadjgellaaGreatDoor
open Go.ChangeShapes Go.WideShapes Go.ChangeAt Go.RowKit

theorem ownKnobNone : ownKnob Tryz.prog.godebug = none := by kernel_rfl

/-- The cells of a datum of numbers, at most three deep. -/
def litCells : DataW Unit → List Value
  | .lit (.int k n) => [.int k n]
  | .agg xs => xs.flatMap fun
    | .lit (.int k n) => [.int k n]
    | .agg ys => ys.flatMap fun
      | .lit (.int k n) => [.int k n]
      | _ => []
    | _ => []
  | _ => []
def setRow (cs : Array Value) : Obj → Obj
  | .cells _ t frozen => .cells cs t frozen
  | o => o

section
variable {H : Type} {enc : TypeId × Value → H} {P : Program}
/-- The row's last step where all old memory is as it was. -/
theorem post_of_below {f : Func} {s : ChangeSpec} {apart fresh handsOn again : Bool} {W W' : World} {args : Array Value} {v : Value} {ds gs : List (DataW H)} {before pa pv : List MemPlace}
    (hW : DataW.Whole enc P f.params.toList s.vars apart W args.toList ds gs before)
    (hres : ∀ (b : Nat) (sp : Nat → Bool) (hd : Bool), DataW.TrodAll enc P W' b sp hd f.resultTypes.toList (v.resultList f.resultTypes.size) (s.fn H (ds ++ gs)).results [])
    (hargs : ∀ sp : Nat → Bool, (∀ p ∈ before, sp p.block = true) → DataW.TrodAll enc P W' 0 sp true f.params.toList args.toList (s.fn H (ds ++ gs)).args pa)
    (hvars : ∀ sp : Nat → Bool, (∀ p ∈ before, sp p.block = true) → DataW.TrodVars enc P W' sp s.vars (s.fn H (ds ++ gs)).vars pv)
    (hps : before = pa ++ pv) (hb : Below W.heap.size W W')
    (hok : ∀ (j : Nat) (t : TypeId) (r : Value), f.resultTypes[j]? = some t → (v.resultList f.resultTypes.size)[j]? = some r → Value.okWide P W' .any 0 t r) :
    s.post enc P f apart fresh handsOn again W args v W' := by
  have hlt : ∀ p ∈ before, p.block < W.heap.size := fun p hp => hW.lt p hp
  have hold : ∀ p ∈ before, (fun b => decide (b < W.heap.size)) p.block = true := fun p hp => by simpa using hlt p hp
  refine ⟨ds, gs, before, [], pa, pv, hW, hres _ _ _, hargs _ hold, hvars _ hold, World.keptBut_mono (fun p hp => ⟨hp, ?_⟩) (hb.frame (· ∈ before)), fun _ => ?_⟩
  · rw [hps, List.mem_append] at hp
    exact Or.inr hp
  · obtain ⟨_, _, _, _, _, hz, hn⟩ := hW
    refine ⟨hok, _, _, ([] ++ pa) ++ pv, ⟨[] ++ pa, pv, trodAll_append (hargs _ (fun _ _ => rfl)) (hres _ _ _), hvars _ (fun _ _ => rfl), rfl, ?_, ?_⟩, ?_⟩
    · intro b off hp
      have hin : MemPlace.cell b off ∈ before := by rw [hps]; simpa using hp
      rw [hb.frozen (hlt _ hin)]
      exact hz b off hin
    · intro ha
      have := hn ha
      rw [hps] at this
      simpa using this
    · intro p hp _
      rw [hps]
      simpa using hp
end

/-- One listed variable laid into a heap. -/
noncomputable def layOne (h : Array Obj) (x : String × DataW Unit) : Array Obj :=
  match Tryz.prog.globalNamed x.1 with
  | some g => h.modify g (setRow (litCells x.2).toArray)
  | none => h
theorem gLen : Tryz.prog.globalNamed "payroll/calendar.lengths" = some 0 := by kernel_rfl
theorem gLenType : (Tryz.prog.globals[0]?).map (·.type) = some 144 := by kernel_rfl
theorem gPowType : (Tryz.prog.globals[1]?).map (·.type) = some 148 := by kernel_rfl
theorem cellsLen : Tryz.prog.cellsOf 144 = 12 := by kernel_rfl
theorem cellsPow : Tryz.prog.cellsOf 148 = 20 := by kernel_rfl
theorem cellsInt : Tryz.prog.cellsOf 3 = 1 := by kernel_rfl
theorem cellsU64 : Tryz.prog.cellsOf 123 = 1 := by kernel_rfl

theorem pow_of {W : World} {rest : List (String × DataW Unit)} (h : laidMet Tryz.prog (("internal/strconv.uint64pow10", Rows.laid_internal_strconv_uint64pow10) :: rest) W) : Pow W :=
  Lib.tabIs_of_head (rest := rest) gPow gPowType Tryz.underlying148 Tryz.underlying123 cellsU64 cellsPow h
theorem lens_of {W : World} {rest : List (String × DataW Unit)} (h : laidMet Tryz.prog (("payroll/calendar.lengths", Rows.laid_payroll_calendar_lengths) :: rest) W) : Lens W := by
  have ht : Lib.TabIs Tryz.prog W "payroll/calendar.lengths" .i64 [31, 28, 31, 30, 31, 30, 31, 31, 30, 31, 30, 31] :=
    Lib.tabIs_of_head (rest := rest) gLen gLenType Tryz.underlying144 Tryz.underlying3 cellsInt cellsLen h
  intro m h1 h2
  have hc := ht.cell gLen (m - 1) (by simp; omega)
  rw [hc]
  have : m = 1 ∨ m = 2 ∨ m = 3 ∨ m = 4 ∨ m = 5 ∨ m = 6 ∨ m = 7 ∨ m = 8 ∨ m = 9 ∨ m = 10 ∨ m = 11 ∨ m = 12 := by omega
  rcases this with rfl | rfl | rfl | rfl | rfl | rfl | rfl | rfl | rfl | rfl | rfl | rfl <;> rfl
end Go.Proofs.YtpdbkbadjgellaaGreatDoor

namespace Go.Proofs.YtpdbkbadjgellaaGreatDoor
open Go.RowKit

set_option maxHeartbeats 1000000 in
theorem mod_any (v n : Int) (w : World) (h0 : -9223372036854775808 ≤ v) (h1 : v ≤ 9223372036854775807) (hn : 1 ≤ n) (hn2 : n ≤ 2000000000000) :
    Calls Tryz.prog 26 #[.int .i64 v, .int .i64 n] w fun e w' => e = .returned (.int .i64 (v % n)) ∧ w = w' := by
  have hm0 := Int.emod_nonneg v (show n ≠ 0 by omega)
  have hm1 := Int.emod_lt_of_pos v (show 0 < n by omega)
  have gn : (n == 0) = false := by simp; omega
  by_cases hv : 0 ≤ v
  · go_enter Tryz.func26, Tryz.ntmps26
    go_wp2_with fail
    go_ret
    exact ⟨rfl, rfl⟩
  · by_cases hd : n ∣ v
    · have ht : v.tmod n = 0 := Int.tmod_eq_zero_of_dvd hd
      have HR : Hid (v % n = 0) := Int.emod_eq_zero_of_dvd hd
      clear hd
      go_enter Tryz.func26, Tryz.ntmps26
      go_wp2_with fail
      go_ret
      exact ⟨ret_int HR.out.symm, rfl⟩
    · obtain ⟨r, hr⟩ : ∃ r, v % n = r := ⟨_, rfl⟩
      have ht : v.tmod n = r - n := by
        rw [Int.tmod_eq_emod, if_neg (by omega), hr]
        omega
      rw [hr] at hm0 hm1
      have HR := Lib.hid hr
      clear hd hr
      go_enter Tryz.func26, Tryz.ntmps26
      go_wp2_with fail
      go_ret
      exact ⟨ret_int (by rw [HR.out]), rfl⟩
end Go.Proofs.YtpdbkbadjgellaaGreatDoor

namespace Go.Proofs.YtpdbkbadjgellaaGreatDoor
open Go.RowKit

/-- All old blocks but one are as they were. -/
structure But (b : Nat) (w w' : World) : Prop where
  os : w'.os = w.os
  tape : w'.tape = w.tape
  output : w'.output = w.output
  size : w.heap.size ≤ w'.heap.size
  block : ∀ k, k < w.heap.size → k ≠ b → w'.heap[k]? = w.heap[k]?
theorem But.refl (b : Nat) (w : World) : But b w w := ⟨rfl, rfl, rfl, Nat.le_refl _, fun _ _ _ => rfl⟩
theorem But.trans {b : Nat} {u v w : World} (h : But b u v) (k : But b v w) : But b u w :=
  ⟨k.os.trans h.os, k.tape.trans h.tape, k.output.trans h.output, Nat.le_trans h.size k.size, fun i hi hb => (k.block i (Nat.lt_of_lt_of_le hi h.size) hb).trans (h.block i hi hb)⟩
theorem But.of_below {b : Nat} {w w' : World} (h : Below w.heap.size w w') : But b w w' := ⟨h.os, h.tape, h.output, h.size, fun k hk _ => h.block k hk⟩
theorem But.alloc {b : Nat} {u w : World} (h : But b u w) (o : Obj) : But b u (w.alloc o) :=
  h.trans (.of_below ((Below.refl _ _).alloc (Nat.le_refl _) _))
theorem But.drew {b : Nat} {u w : World} (h : But b u w) : But b u w.drew := h.trans (.of_below (Below.refl _ _).drew)
theorem But.drewN {b : Nat} {u w : World} (h : But b u w) (n : Nat) : But b u (w.drewN n) := ⟨h.os, h.tape, h.output, h.size, h.block⟩
theorem But.setCell {b : Nat} {u w : World} (h : But b u w) {p : Addr} (hp : p.block = b) (x : Value) : But b u (w.setCell p x) :=
  h.trans ⟨rfl, rfl, rfl, by simp [World.setCell], fun k _ hk => Below.heap_setCell _ _ _ _ (by rw [hp]; exact hk)⟩
theorem But.below {b B : Nat} {w w' : World} (h : But b w w') (hB : B ≤ b) (hs : B ≤ w.heap.size) : Below B w w' :=
  ⟨h.os, h.tape, h.output, h.size, fun k hk => h.block k (by omega) (by omega)⟩
theorem But.cell {b : Nat} {w w' : World} (h : But b w w') {p : Addr} (hp : p.block < w.heap.size) (hb : p.block ≠ b) : w'.cell? p = w.cell? p :=
  World.cell?_of_block (w := w) (h.block p.block hp hb)

/-- A slice of ints that lies below a block. -/
def IntsAt (w : World) (b : Nat) (v : Value) (ns : List Int) : Prop :=
  ∃ A c, v = .slice A ns.length c ∧ ns.length ≤ maxLen ∧ (∀ x ∈ ns, -9223372036854775808 ≤ x ∧ x ≤ 9223372036854775807) ∧
    (0 < ns.length → ∃ g off, A = some ⟨g, off, none⟩ ∧ g < b ∧ ∀ i (h : i < ns.length), w.cell? ⟨g, off + i, none⟩ = some (.int .i64 ns[i]))
/-- A tape in memory, somewhere in its list. -/
def TapeOk (b : Nat) (ns : List Int) (w : World) : Prop :=
  ∃ (v : Value) (k : Nat), k ≤ ns.length ∧ w.heap[b]? = some (.cells #[v, .int .i64 k] 48 (0, 0)) ∧ IntsAt w b v ns

theorem heap_lt {w : World} {b : Nat} {o : Obj} (h : w.heap[b]? = some o) : b < w.heap.size := by
  rcases Nat.lt_or_ge b w.heap.size with h' | h'
  · exact h'
  · rw [Array.getElem?_eq_none h'] at h; cases h
theorem TapeOk.lt {b : Nat} {ns : List Int} {w : World} (h : TapeOk b ns w) : b < w.heap.size := by
  obtain ⟨v, k, _, hb, _⟩ := h
  exact heap_lt hb
theorem IntsAt.keep {w w' : World} {b : Nat} {v : Value} {ns : List Int} (h : IntsAt w b v ns) (hk : ∀ g, g < b → w'.heap[g]? = w.heap[g]?) : IntsAt w' b v ns := by
  obtain ⟨A, c, rfl, h1, h2, h3⟩ := h
  refine ⟨A, c, rfl, h1, h2, fun hn => ?_⟩
  obtain ⟨g, off, rfl, hg, hc⟩ := h3 hn
  exact ⟨g, off, rfl, hg, fun i hi => by rw [World.cell?_of_block (w := w) (hk g hg)]; exact hc i hi⟩
theorem TapeOk.below {b : Nat} {ns : List Int} {w w' : World} (h : TapeOk b ns w) (hb : Below w.heap.size w w') : TapeOk b ns w' := by
  have hlt := h.lt
  obtain ⟨v, k, hk, hc, hi⟩ := h
  exact ⟨v, k, hk, (hb.block b hlt).trans hc, hi.keep (fun g hg => hb.block g (by omega))⟩

/-- What Next leaves. -/
def NextPost (b : Nat) (ns : List Int) (n : Int) (w : World) (e : Ending) (w' : World) : Prop :=
  ∃ k : Nat, (k = 0 ∨ (k : Int) < n) ∧ e = .returned (.int .i64 k) ∧ TapeOk b ns w' ∧ But b w w'
end Go.Proofs.YtpdbkbadjgellaaGreatDoor

namespace Go.Proofs.YtpdbkbadjgellaaGreatDoor
open Go.ChangeShapes Go.WideShapes Go.ChangeAt Go.RowKit

theorem laidOut : laidOutB Tryz.prog = true := by kernel_rfl
set_option maxRecDepth 100000 in
theorem ints_of {H : Type} {enc : TypeId × Value → H} {W : World} {r : Reach} {b0 : Nat} {v : Value} {d : DataW H} {ps : List MemPlace} (hval : Value.okWide Tryz.prog W r b0 22 v)
    (h : DataW.Trod enc Tryz.prog W 0 (fun _ => true) true 22 v d ps) : ∃ ns, IntsAt W W.heap.size v ns := by
  obtain ⟨a0, len, cap, rfl⟩ := okWide_slice Tryz.underlying22 hval
  obtain ⟨fuel, hf⟩ := h
  rcases open_ints Tryz.underlying22 Tryz.underlying3 cellsInt hf with ⟨hcs, _⟩ | ⟨a, len', cap', zs, hcs, _, hl, hm, hz, _, hcell, hwz⟩
  · simp [Value.cells] at hcs
    obtain ⟨rfl, rfl, rfl⟩ := hcs
    exact ⟨[], none, 0, rfl, Nat.zero_le _, fun x hx => (by cases hx), fun h => (by cases h)⟩
  · simp [Value.cells] at hcs
    obtain ⟨rfl, rfl, rfl⟩ := hcs
    rw [if_pos rfl] at hz
    have hlen : (zs.take len).length = len := by simp; omega
    refine ⟨zs.take len, some a, cap, by rw [hlen], by omega, fun x hx => bounds_i64 (hwz x (List.mem_of_mem_take hx)), fun h => ?_⟩
    obtain ⟨b, off, rfl, hc⟩ := Go.ints_at hcell (by omega)
    refine ⟨b, off, rfl, World.block_lt_of_cell? W _ (hc 0 (by omega)), fun i hi => ?_⟩
    rw [hc i (by omega), List.getElem_take, List.getD_eq_getElem?_getD, List.getElem?_eq_getElem (by omega)]
    rfl
end Go.Proofs.YtpdbkbadjgellaaGreatDoor

namespace Go.Proofs.YtpdbkbadjgellaaGreatDoor
open Go.ChangeShapes Go.WideShapes Go.ChangeAt Go.RowKit

section
variable {H : Type} {enc : TypeId × Value → H} {P : Program} {w : World} {base : Nat} {spare : Nat → Bool} {held : Bool}
theorem trod_struct5 {t : TypeId} {f0 f1 f2 f3 f4 : Field} {fuel : Nat} {cs : List Value} {x : DataW H × List MemPlace} (ht : P.underlying t = some (.struct #[f0, f1, f2, f3, f4])) (h : DataW.trod enc P w base spare held fuel t cs = some x) :
    ∃ y0 y1 y2 y3 y4 n, cs.length = P.cellsOf t ∧ DataW.trod enc P w base spare held n f0.type ((cs.drop f0.offset).take (P.cellsOf f0.type)) = some y0 ∧
      DataW.trod enc P w base spare held n f1.type ((cs.drop f1.offset).take (P.cellsOf f1.type)) = some y1 ∧ DataW.trod enc P w base spare held n f2.type ((cs.drop f2.offset).take (P.cellsOf f2.type)) = some y2 ∧
      DataW.trod enc P w base spare held n f3.type ((cs.drop f3.offset).take (P.cellsOf f3.type)) = some y3 ∧ DataW.trod enc P w base spare held n f4.type ((cs.drop f4.offset).take (P.cellsOf f4.type)) = some y4 := by
  obtain ⟨xs, n, _, _, hl, hlen, hf⟩ := DataW.trod_struct ht h
  match xs, hlen with
  | [y0, y1, y2, y3, y4], _ => exact ⟨y0, y1, y2, y3, y4, n, hl, by simpa using hf 0 f0 rfl, by simpa using hf 1 f1 rfl, by simpa using hf 2 f2 rfl, by simpa using hf 3 f3 rfl, by simpa using hf 4 f4 rfl⟩
theorem list6 {cs : List Value} (h : cs.length = 6) : ∃ c0 c1 c2 c3 c4 c5, cs = [c0, c1, c2, c3, c4, c5] := by
  match cs, h with
  | [c0, c1, c2, c3, c4, c5], _ => exact ⟨c0, c1, c2, c3, c4, c5, rfl⟩
end
theorem cells_Tok : Tryz.prog.cellsOf 43 = 6 := by kernel_rfl
theorem cells_Rat : Tryz.prog.cellsOf 33 = 2 := by kernel_rfl
theorem cells_Str : Tryz.prog.cellsOf 9 = 1 := by kernel_rfl

set_option maxRecDepth 100000 in
theorem rat_of {H : Type} {enc : TypeId × Value → H} {W : World} {r : Reach} {b0 : Nat} {v : Value} {d : DataW H} {ps : List MemPlace} (hval : Value.okWide Tryz.prog W r b0 33 v)
    (h : DataW.Trod enc Tryz.prog W 0 (fun _ => true) true 33 v d ps) : ∃ n m : Int, v = .agg #[.int .i64 n, .int .i64 m] := by
  obtain ⟨v0, v1, y0, y1, n, rfl, _, _, t0, t1⟩ := Joins.open_agg2 Tryz.underlying33 (by kernel_rfl) cells_Rat hval h
  obtain ⟨a, e0, _, _⟩ := DataW.trod_int Tryz.underlying3 t0
  obtain ⟨b, e1, _, _⟩ := DataW.trod_int Tryz.underlying3 t1
  simp only [List.cons.injEq, and_true] at e0 e1
  subst e0 e1
  exact ⟨a, b, rfl⟩

set_option maxRecDepth 100000 in
theorem toks_of {H : Type} {enc : TypeId × Value → H} {W : World} {r : Reach} {b0 : Nat} {v : Value} {d : DataW H} {ps : List MemPlace} (hval : Value.okWide Tryz.prog W r b0 34 v)
    (h : DataW.Trod enc Tryz.prog W 0 (fun _ => true) true 34 v d ps) : ∃ ts, TokRow W v ts ∧ ∀ t ∈ ts, t.text.length ≤ maxLen := by
  obtain ⟨a0, len, cap, rfl⟩ := okWide_slice Tryz.underlying34 hval
  obtain ⟨fuel, hf⟩ := h
  rcases Deep.open_slice Tryz.underlying34 hf with ⟨hcs, _⟩ | ⟨a, len', cap', m, n, D, Pl, hcs, _, hl, hm, hmm, _, hx⟩
  · simp [Value.cells] at hcs
    obtain ⟨rfl, rfl, rfl⟩ := hcs
    exact ⟨[], ⟨none, 0, rfl, fun h => (by cases h)⟩, fun x hx => (by cases hx)⟩
  · simp [Value.cells] at hcs
    obtain ⟨rfl, rfl, rfl⟩ := hcs
    rw [if_pos rfl] at hmm
    have each : ∀ i, ∃ t : Tk.Tok, i < len → t.text.length ≤ maxLen ∧ ∀ j u, (tokCells t)[j]? = some u → W.cell? (a.add (i * 6 + j)) = some u := by
      intro i
      by_cases hi : i < len
      · obtain ⟨cs', h1, h2⟩ := hx i (by omega)
        rw [cells_Tok] at h1
        obtain ⟨_, hlen, hcell⟩ := World.cells?_some h1
        obtain ⟨c0, c1, c2, c3, c4, c5, rfl⟩ := list6 hlen
        obtain ⟨y0, y1, y2, y3, y4, k, _, u0, u1, u2, u3, u4⟩ := trod_struct5 Tryz.underlying43 h2
        simp only [cells_Str, cells_Rat, cellsInt, List.drop, List.take] at u0 u1 u2 u3 u4
        obtain ⟨z0, z1, k', _, _, q0, q1⟩ := trod_struct2 Tryz.underlying33 u2
        simp only [cellsInt, List.drop, List.take] at q0 q1
        obtain ⟨x0, e0, _, _⟩ := DataW.trod_int Tryz.underlying3 u0
        obtain ⟨⟨⟨x1⟩⟩, e1, _, hs⟩ := DataW.trod_string Tryz.underlying9 u1
        obtain ⟨x2, e2, _, _⟩ := DataW.trod_int Tryz.underlying3 q0
        obtain ⟨x3, e3, _, _⟩ := DataW.trod_int Tryz.underlying3 q1
        obtain ⟨x4, e4, _, _⟩ := DataW.trod_int Tryz.underlying3 u3
        obtain ⟨x5, e5, _, _⟩ := DataW.trod_int Tryz.underlying3 u4
        simp only [List.cons.injEq, and_true] at e0 e1 e2 e3 e4 e5
        subst e0 e1 e2 e3 e4 e5
        refine ⟨⟨x0, x1, x2, x3, x4, x5⟩, fun _ => ⟨hs, fun j u hu => ?_⟩⟩
        have hj : j < 6 := by
          rcases Nat.lt_or_ge j 6 with h' | h'
          · exact h'
          · rw [List.getElem?_eq_none (by simp [tokCells]; omega)] at hu; cases hu
        have := hcell j hj
        rw [show (a.add (i * 6)).add j = a.add (i * 6 + j) from ?_] at this
        · rw [this]; exact hu
        · unfold Addr.add
          by_cases e : i * 6 = 0 <;> by_cases e' : j = 0 <;> simp [e, e', Nat.add_assoc]
      · exact ⟨{}, fun h => absurd h hi⟩
    obtain ⟨T, hT⟩ := Classical.axiomOfChoice each
    have hl0 : ((List.range len).map T).length = len := by simp
    refine ⟨(List.range len).map T, ⟨some a, cap, by rw [hl0], fun hn => ?_⟩, fun t ht => ?_⟩
    · obtain ⟨b, off, spot⟩ := a
      rw [hl0] at hn
      have hsp := World.cell?_spot ((hT 0 hn).2 0 _ rfl)
      simp [Addr.add] at hsp
      subst hsp
      refine ⟨b, off, rfl, fun i hi j u hu => ?_⟩
      rw [hl0] at hi
      simp only [List.getElem_map, List.getElem_range] at hu
      have := (hT i hi).2 j u hu
      rw [Go.WideShapes.add_plain] at this
      rw [Nat.add_assoc]
      exact this
    · simp only [List.mem_map, List.mem_range] at ht
      obtain ⟨i, hi, rfl⟩ := ht
      exact (hT i hi).1
end Go.Proofs.YtpdbkbadjgellaaGreatDoor

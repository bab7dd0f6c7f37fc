/-
  payrollgen's Text and Source: short texts (printed by gen_src.py).
  Plain laws: what stands ahead of a text or behind it. No program in sight.
  Plain laws on the scan of a text, blank by blank and comment by comment. No program in sight.
  Plain laws on the numbers in texts, as the reference reads them. No program in sight.
-/
import Derived.Test.YtpdbkbadjgellaaGreatDoorZ33
import Derived.Test.YtpdbkbadjgellaaGreatDoorZ04
namespace Go.Proofs.YtpdbkbadjgellaaGreatDoor
open Go.RowKit
section
set_option maxRecDepth 100000
theorem exec_cutHi {P : Program} {o : Oper} {ρ : Operand → Value} {w : World} {t : TypeId} {x h : Operand} {s : ByteArray} {a : Nat} (hop : o.op = .slice t x none (some h) none) (hu : P.underlying t = some .string) (hx : ρ x = .string s) (hh : ρ h = .int .i64 (a : Nat)) (ha : a ≤ s.size) : (execOp ρ o).run P w = .ok (.value (.string (s.extract 0 a))) w := by
  have h1 : ¬ (s.size : Int) < (a : Int) := by omega
  simp [execOp, hop, hx, hh, Instr.sliceAt, Instr.slice, run_underlying hu, Instr.sliceBounds, Instr.sliceBound, asIntOf, ha]
theorem exec_cutLo {P : Program} {o : Oper} {ρ : Operand → Value} {w : World} {t : TypeId} {x h : Operand} {s : ByteArray} {a : Nat} (hop : o.op = .slice t x (some h) none none) (hu : P.underlying t = some .string) (hx : ρ x = .string s) (hh : ρ h = .int .i64 (a : Nat)) (ha : a ≤ s.size) : (execOp ρ o).run P w = .ok (.value (.string (s.extract a s.size))) w := by
  have h1 : ¬ (s.size : Int) < (a : Int) := by omega
  simp [execOp, hop, hx, hh, Instr.sliceAt, Instr.slice, run_underlying hu, Instr.sliceBounds, Instr.sliceBound, asIntOf, ha]
section
variable {P : Program} {ops : Array Oper} {n : Nat} {E : Nat → Value} {W : Wr} {L : List Loc} {C : World → Prop} {Ext : World → World → Prop}
theorem part_addC (hrf : ∀ w : World, Ext w w) {i k a b : Nat} {B : List Nat} (x y : Operand) (hop : addOf (ops.getD i default).op = some (x, y)) (hx : StrOf n E W L B x a) (hy : StrOf n E W L B y b) (hk : a + b ≤ k) (hm : a + b ≤ 4000000000000000000) : PartE P ops n E W C Ext L (strL i B k) := by
  refine ⟨fun _ _ _ _ _ h => h, fun vals u hC hb => ?_⟩
  obtain ⟨s, h1, h2⟩ := hx vals u hb
  obtain ⟨t, h3, h4⟩ := hy vals u hb
  unfold addOf at hop
  split at hop
  · rename_i T x' y' T' ho
    simp only [Option.some.injEq, Prod.mk.injEq] at hop
    obtain ⟨rfl, rfl⟩ := hop
    refine OpOk.value (v := .string (s ++ t)) (w' := u) (exec_add ho h1 h3 (by rw [show IntKind.i64.max = 9223372036854775807 by decide]; omega)) ⟨hC, hrf u, s ++ t, ?_, ?_⟩
    · simp [upv, strL]
    · rw [ByteArray.size_append]; omega
  · cases hop
theorem part_moveC (hrf : ∀ w : World, Ext w w) {i k : Nat} {B : List Nat} (x : Operand) (hop : moveOf (ops.getD i default).op = some x) (hx : StrOf n E W L B x k) : PartE P ops n E W C Ext L (strL i B k) := by
  refine ⟨fun _ _ _ _ _ h => h, fun vals u hC hb => ?_⟩
  obtain ⟨s, h1, h2⟩ := hx vals u hb
  exact OpOk.value (v := .string s) (w' := u) ((exec_move hop u).trans (by rw [h1])) ⟨hC, hrf u, s, by simp [upv, strL], h2⟩
end
def wordL : List (List UInt8) := [[], [40], [41], [59], [32, 105, 102, 32], [49], [37], [42], [47, 32, 104, 111, 117, 114, 115], [32, 50, 48, 50, 54, 45, 48, 50, 45, 51, 48, 32], [35], [65], [46], [48], [44], [60], [120], [32, 110, 111, 116, 32], [49, 50, 49], [48, 46, 48, 48, 49], [109, 111, 110, 101, 121], [45], [10], [91], [0]]
def wordV : List Value := wordL.map fun l => .string ⟨l.toArray⟩
theorem word_at {k : Nat} (h : k < 25) : ∃ s : ByteArray, wordV[k]? = some (.string s) ∧ s.size ≤ 12 := by
  have hl : wordL.length = 25 := by decide
  have hk : wordL[k]? = some (wordL[k]'(by omega)) := List.getElem?_eq_getElem _
  refine ⟨⟨(wordL[k]'(by omega)).toArray⟩, by unfold wordV; rw [List.getElem?_map, hk]; rfl, ?_⟩
  have : ∀ x ∈ wordL, x.length ≤ 12 := by decide
  exact this _ (List.getElem_mem _)
noncomputable def codeTg : Code := Tryz.f31.body.getD .skip
noncomputable def tG0' : List Item := advG [.code codeTg]
noncomputable def tG1' : List Item := advG (popOp tG0')
noncomputable def tG2' : List Item := advA 4 (popOp tG1')
noncomputable def opsTg : Array Oper := (curReg tG2').getD #[]
def WTg : Wr := [(22, 0), (23, 1), (24, 2), (25, 3), (26, 4), (27, 5), (28, 6), (29, 7), (30, 8), (31, 9), (32, 10), (33, 11), (34, 12), (35, 13), (36, 14), (4, 15)]
def slW (z : Nat) : Value := .slice (some ⟨z, 0, none⟩) 25 25
def numL (i : Nat) (B : List Nat) (m : Nat) : Loc := ⟨i, B, [i], fun vs _ => ∃ k : Nat, k < m ∧ vs = [.int .i64 k]⟩
def ptrL (i : Nat) (B : List Nat) (z m : Nat) : Loc := ⟨i, B, [i], fun vs _ => ∃ k : Nat, k < m ∧ vs = [pt z k]⟩
def LTg (b z a e : Nat) (s : ByteArray) : List Loc := [pureL 0 [] (.string s), pureL 1 [] (.int .i64 a), pureL 2 [0, 1] (.string (s.extract 0 a)), pureL 3 [] (slW z), pureL 4 [] (pt b 0), pureL 5 [] (slW z), pureL 6 [5] (.int .i64 25), numL 7 [4, 5, 6] 25, ptrL 8 [3, 4, 5, 6, 7] z 25, strL 9 [3, 4, 5, 6, 7, 8] 12, strL 10 [0, 1, 2, 3, 4, 5, 6, 7, 8, 9] (s.size + 12), pureL 11 [] (.string s), pureL 12 [] (.int .i64 e), pureL 13 [11, 12] (.string (s.extract e s.size)), strL 14 [0, 1, 2, 3, 4, 5, 6, 7, 8, 9, 10, 11, 12, 13] (2 * s.size + 12), strL 15 [0, 1, 2, 3, 4, 5, 6, 7, 8, 9, 10, 11, 12, 13, 14] (2 * s.size + 12)]
def envTg (b z a e : Nat) (s : ByteArray) : List (Nat × Value) := [(0, pt b 0), (1, .string s), (5, .int .i64 a), (6, .int .i64 e), (7, slW z)]
def CTg (b : Nat) (ns : List Int) (w3 : World) (u : World) : Prop := But b w3 u ∧ TapeOk b ns u
theorem partsTg {b z a e : Nat} {ns : List Int} {s : ByteArray} {w3 : World} {E : Nat → Value} (ha : a ≤ s.size) (he : e ≤ s.size) (hS : s.size ≤ 1000000000) (hz : z ≠ b) (hzl : z < w3.heap.size) (hw : w3.rangeAt z 0 wordV) :
    PartsE Tryz.prog opsTg 37 (updL E (envTg b z a e s)) WTg (CTg b ns w3) (But b) (LTg b z a e s) (LTg b z a e s) := by
  refine ⟨part_pureE (But.refl b) (fun _ _ _ _ => by kernel_rfl), part_pureE (But.refl b) (fun _ _ _ _ => by kernel_rfl), ?_, part_pureE (But.refl b) (fun _ _ _ _ => by kernel_rfl), part_pureE (But.refl b) (fun _ _ _ _ => by kernel_rfl), part_pureE (But.refl b) (fun _ _ _ _ => by kernel_rfl), ?_, ?_, ?_, ?_, ?_, part_pureE (But.refl b) (fun _ _ _ _ => by kernel_rfl), part_pureE (But.refl b) (fun _ _ _ _ => by kernel_rfl), ?_, ?_, ?_, trivial⟩
  · refine ⟨fun _ _ _ _ _ h => h, fun vals u hC hb => ?_⟩
    exact OpOk.value (v := .string (s.extract 0 a)) (w' := u) (exec_cutHi (t := 9) (x := .tmp 22) (h := .tmp 23) (by kernel_rfl) (by kernel_rfl) ((show evalVE 37 _ WTg vals (.tmp 22) = vals 0 from rfl).trans (val_of hb 0 rfl rfl)) ((show evalVE 37 _ WTg vals (.tmp 23) = vals 1 from rfl).trans (val_of hb 1 rfl rfl)) ha) ⟨hC, But.refl b u, by simp [upv, pureL]⟩
  · refine ⟨fun _ _ _ _ _ h => h, fun vals u hC hb => ?_⟩
    exact OpOk.knownE [(27, 5, slW z)] (by kernel_rfl) ⟨val_of hb 5 rfl rfl, trivial⟩ (OpOk.value (v := .int .i64 25) (w' := u) (by kernel_rfl) ⟨hC, But.refl b u, by simp [upv, pureL]⟩)
  · refine ⟨fun _ _ _ _ _ h => h, fun vals u hC hb => ?_⟩
    refine OpOk.call (f := 6) [.tmp 26, .tmp 28] (args := [pt b 0, .int .i64 25]) (ats := #[23, 3]) (by kernel_rfl) rfl ?_ (run_callable (by kernel_rfl) _ _) ((next_any b ns 25 u hC.2 (by omega) (by omega)).mono ?_)
    · simp only [List.map_cons, List.map_nil]
      rw [show evalVE 37 _ WTg vals (.tmp 26) = vals 4 from rfl, val_of hb 4 rfl rfl, show evalVE 37 _ WTg vals (.tmp 28) = vals 6 from rfl, val_of hb 6 rfl rfl]
    · rintro en u' ⟨k, hk, rfl, hT, hB⟩
      exact ⟨_, rfl, ⟨hC.1.trans hB, hT⟩, hB, k, by omega, by simp [upv, numL]⟩
  · refine ⟨fun _ _ _ _ _ h => h, fun vals u hC hb => ?_⟩
    obtain ⟨k, hk, h7⟩ := held_mem hb (List.mem_of_getElem? (i := 7) (show (LTg b z a e s)[7]? = some (numL 7 [4, 5, 6] 25) from rfl)) rfl
    have := exec_index (P := Tryz.prog) (o := opsTg.getD 8 default) (ρ := evalVE 37 (updL E (envTg b z a e s)) WTg vals) (w := u) 27 (.tmp 25) (.tmp 29) (by kernel_rfl) (g := z) (off := 0) (len := 25) (cap := 25) (k := k) (sz := 1) (e := 9) ((show evalVE 37 _ WTg vals (.tmp 25) = vals 3 from rfl).trans (val_of hb 3 rfl rfl)) ((show evalVE 37 _ WTg vals (.tmp 29) = vals 7 from rfl).trans (List.cons.inj h7).1) hk (by kernel_rfl) (by kernel_rfl)
    rw [Nat.mul_one, Nat.zero_add] at this
    exact OpOk.value (v := pt z k) (w' := u) this ⟨hC, But.refl b u, k, hk, by simp [upv, ptrL]⟩
  · refine ⟨fun _ _ _ _ _ h => h, fun vals u hC hb => ?_⟩
    obtain ⟨k, hk, h8⟩ := held_mem hb (List.mem_of_getElem? (i := 8) (show (LTg b z a e s)[8]? = some (ptrL 8 [3, 4, 5, 6, 7] z 25) from rfl)) rfl
    obtain ⟨s1, hs1, hs2⟩ := word_at hk
    have hcell : u.cell? ⟨z, k, none⟩ = some (.string s1) := by
      rw [World.cell?_of_block (w := w3) (hC.1.block z hzl hz)]
      have := hw k _ hs1
      rwa [Nat.zero_add] at this
    exact OpOk.loadOne 9 (.tmp 30) (by kernel_rfl) ((show evalVE 37 _ WTg vals (.tmp 30) = vals 8 from rfl).trans (List.cons.inj h8).1) hcell (Tryz.isAgg9 u) ⟨hC, But.refl b u, s1, by simp [upv, strL], hs2⟩
  · exact part_addC (But.refl b) (a := s.size) (b := 12) (.tmp 24) (.tmp 31) (by kernel_rfl) (.exact 2 rfl rfl rfl (by rw [ByteArray.size_extract]; omega)) (.tmp 9 rfl rfl rfl) (by omega) (by omega)
  · refine ⟨fun _ _ _ _ _ h => h, fun vals u hC hb => ?_⟩
    exact OpOk.value (v := .string (s.extract e s.size)) (w' := u) (exec_cutLo (t := 9) (x := .tmp 33) (h := .tmp 34) (by kernel_rfl) (by kernel_rfl) ((show evalVE 37 _ WTg vals (.tmp 33) = vals 11 from rfl).trans (val_of hb 11 rfl rfl)) ((show evalVE 37 _ WTg vals (.tmp 34) = vals 12 from rfl).trans (val_of hb 12 rfl rfl)) he) ⟨hC, But.refl b u, by simp [upv, pureL]⟩
  · exact part_addC (But.refl b) (a := s.size + 12) (b := s.size) (.tmp 32) (.tmp 35) (by kernel_rfl) (.tmp 10 rfl rfl rfl) (.exact 13 rfl rfl rfl (by rw [ByteArray.size_extract]; omega)) (by omega) (by omega)
  · exact part_moveC (But.refl b) (.tmp 36) (by kernel_rfl) (.tmp 14 rfl rfl rfl)
/-- What Text and Source leave. -/
def StrPost (b : Nat) (ns : List Int) (k : Nat) (w : World) (e : Ending) (w' : World) : Prop := (∃ s : ByteArray, e = .returned (.string s) ∧ s.size ≤ k) ∧ TapeOk b ns w' ∧ But b w w'
theorem genText_any {b : Nat} {ns : List Int} {w : World} {s : ByteArray} (hT : TapeOk b ns w) (hS : s.size ≤ 1000000000) : Calls Tryz.prog 31 #[pt b 0, .string s] w (StrPost b ns (2 * s.size + 12) w) := by
  refine calls_at (args := [pt b 0, .string s]) (fn := Tryz.f31) (c := codeTg) (n := 37) (by kernel_rfl) (by kernel_rfl) (by kernel_rfl) (by kernel_rfl) ?_
  refine at_run (cntG 90 [.code codeTg]) [.code codeTg] w.heap.size [] [] tG0' [(0, pt b 0), (1, .string s), (8, pt b 0), (11, .int .i64 (IntKind.i64.wrap ((s.size : Int) + 1)))] w.heap.size [] (lies_nil w) (by kernel_rfl) fun w1 E1 _ K => ?_
  have hw1 : IntKind.i64.wrap ((s.size : Int) + 1) = (s.size : Int) + 1 := IntWalk.i64_in _ (by omega)
  rw [hw1]
  have B1 : But b w w1 := .of_below (below_kept K)
  have T1 := hT.below (below_kept K)
  clear K hw1
  refine at_call 6 [.tmp 8, .tmp 11] (some 12) [pt b 0, .int .i64 ((s.size : Int) + 1)] (by kernel_rfl) (by kernel_rfl) (by kernel_rfl) ((next_any b ns _ w1 T1 (by omega) (by omega)).mono ?_)
  rintro en w2 ⟨a, ha, rfl, T2, hB2⟩
  refine ⟨_, rfl, ?_⟩
  have ha' : a ≤ s.size := by omega
  have B2 := B1.trans hB2
  clear B1 T1 hB2
  refine at_run (cntG 90 (popOp tG0')) (popOp tG0') w2.heap.size [] [] tG1' [(0, pt b 0), (1, .string s), (5, .int .i64 a), (13, .int .i64 a), (14, pt b 0), (15, .slice (some ⟨w2.heap.size, 0, none⟩) 4 4)] (w2.heap.size + 1) [⟨w2.heap.size, 0, [.int .i64 0, .int .i64 1, .int .i64 2, .int .i64 5], 3, true⟩] (lies_nil w2) (by kernel_rfl) fun w3 E3 L3 K => ?_
  have g3 := L3.sat.good ⟨w2.heap.size, 0, [.int .i64 0, .int .i64 1, .int .i64 2, .int .i64 5], 3, true⟩ (by simp)
  have B3 := B2.trans (.of_below (below_kept K))
  have T3 := T2.below (below_kept K)
  have hb2 := T2.lt
  clear K L3
  refine at_call 21 [.tmp 14, .tmp 15] (some 16) [pt b 0, .slice (some ⟨w2.heap.size, 0, none⟩) 4 4] (by kernel_rfl) (by kernel_rfl) (by kernel_rfl) ((pick_any b w2.heap.size 4 ns [0, 1, 2, 5] w3 T3 (by omega) (by simp) (by simp) (fun i x hx => ?_)).mono ?_)
  · have h2 := g3.2
    rw [if_pos rfl] at h2
    have hr : w3.rangeAt w2.heap.size 0 [.int .i64 0, .int .i64 1, .int .i64 2, .int .i64 5] := rangeAt_all h2.1
    have := hr i (.int .i64 x) (by
      have : ([.int .i64 0, .int .i64 1, .int .i64 2, .int .i64 5] : List Value) = ([0, 1, 2, 5] : List Int).map (Value.int .i64) := rfl
      rw [this, List.getElem?_map, hx]; rfl)
    rwa [Nat.zero_add] at this
  rintro en w4 ⟨x, hx, rfl, T4, hB4⟩
  refine ⟨_, rfl, ?_⟩
  have hx5 : 0 ≤ x ∧ x ≤ 5 := by
    simp only [List.mem_cons, List.not_mem_nil, or_false] at hx
    omega
  have B4 := B3.trans hB4
  clear B3 T3 hB4 g3 B2 T2
  refine at_run (cntA 4 90 (popOp tG1')) (popOp tG1') w4.heap.size [] [] tG2' [(0, pt b 0), (1, .string s), (5, .int .i64 a), (6, .int .i64 (if (s.size : Int) < IntKind.i64.wrap ((a : Int) + x) then (s.size : Int) else IntKind.i64.wrap ((a : Int) + x))), (7, slW w4.heap.size)] (w4.heap.size + 1) [⟨w4.heap.size, 0, wordV, 9, true⟩] (lies_nil w4) (by kernel_rfl) fun w5 E5 L5 K => ?_
  have g5 := L5.sat.good ⟨w4.heap.size, 0, wordV, 9, true⟩ (by simp)
  have B5 := B4.trans (.of_below (below_kept K))
  have T5 := T4.below (below_kept K)
  have hb4 := T4.lt
  clear K L5 B4 T4
  have hw5 : IntKind.i64.wrap ((a : Int) + x) = (a : Int) + x := IntWalk.i64_in _ (by omega)
  rw [hw5]
  obtain ⟨e, he, he'⟩ : ∃ e : Nat, (if (s.size : Int) < (a : Int) + x then (s.size : Int) else (a : Int) + x) = (e : Int) ∧ e ≤ s.size := by
    split
    · exact ⟨s.size, rfl, Nat.le_refl _⟩
    · exact ⟨((a : Int) + x).toNat, by omega, by omega⟩
  rw [he]
  clear hw5 he
  have hw : w5.rangeAt w4.heap.size 0 wordV := by
    have h2 := g5.2
    rw [if_pos rfl] at h2
    exact rangeAt_all h2.1
  have hzl := g5.1
  refine at_draw opsTg (by kernel_rfl) (by kernel_rfl) 16 (by kernel_rfl) ?_
  refine any_partsE (fuel := 0) (W := WTg) (L := LTg b w4.heap.size a e s) (C := CTg b ns w5) (Ext := But b) (by kernel_rfl) ⟨(But.refl _ _).drew, T5.below (Below.refl _ _).drew⟩ (But.refl b) (fun _ _ _ => But.trans) (partsTg ha' he' hS (by omega) hzl hw) rfl fun vals u hC _ hall => ?_
  obtain ⟨r, h1, h2⟩ := all_mem hall (List.mem_of_getElem? (i := 15) (show (LTg b w4.heap.size a e s)[15]? = some (strL 15 [0, 1, 2, 3, 4, 5, 6, 7, 8, 9, 10, 11, 12, 13, 14] (2 * s.size + 12)) from rfl))
  refine ⟨by kernel_rfl, rfl, At.mid ?_⟩
  refine at_known [(4, .string r)] ?_ fun E' => ?_
  · simp only [List.map_cons, List.map_nil]
    rw [show finE opsTg vals ((LTg b w4.heap.size a e s).map (·.idx)) (updL E5 (envTg b w4.heap.size a e s)) 4 = vals 15 by kernel_rfl]
    exact h1
  · refine at_end [] (.string r) (fn := Tryz.f31) (by kernel_rfl) (lies_nil u) (by kernel_rfl) fun w9 hK => ⟨⟨r, rfl, h2⟩, hC.2.below (below_kept hK), (B5.trans hC.1).trans (.of_below (below_kept hK))⟩
noncomputable def codeSo : Code := Tryz.f9.body.getD .skip
noncomputable def tS0' : List Item := advG [.code codeSo]
noncomputable def tS1' : List Item := advG (popOp tS0')
noncomputable def tS2' : List Item := advG (popOp tS1')
noncomputable def tS3' : List Item := advG (popOp tS2')
noncomputable def tS4' : List Item := advG (bodyT tS3')
noncomputable def tS5' : List Item := advG (thenT tS4')
theorem source_any {b : Nat} {ns : List Int} {w : World} (hT : TapeOk b ns w) : Calls Tryz.prog 9 #[pt b 0] w (StrPost b ns 1000000000 w) := by
  refine calls_at (args := [pt b 0]) (fn := Tryz.f9) (c := codeSo) (n := 18) (by kernel_rfl) (by kernel_rfl) (by kernel_rfl) (by kernel_rfl) ?_
  refine at_run (cntG 90 [.code codeSo]) [.code codeSo] w.heap.size [] [] tS0' [(0, pt b 0), (5, pt b 0)] w.heap.size [] (lies_nil w) (by kernel_rfl) fun w1 E1 _ K => ?_
  have B1 : But b w w1 := .of_below (below_kept K)
  have T1 := hT.below (below_kept K)
  clear K
  refine at_call 30 [.tmp 5, .const (.int .i64 3), .const (.bool true)] (some 6) [pt b 0, .int .i64 3, .bool true] (by kernel_rfl) (by kernel_rfl) (by kernel_rfl) ((agreement_any 3 (by omega) (by omega) T1).mono ?_)
  rintro en w2 ⟨v, rs, rfl, hown, hok, hlen, T2, hB2⟩
  refine ⟨_, rfl, ?_⟩
  have B2 := B1.trans hB2
  clear B1 T1 hB2
  obtain ⟨A, c, rfl, hrows⟩ := rows_own hown hok.len (by decide)
  refine at_run (cntG 90 (popOp tS0')) (popOp tS0') w2.heap.size [] [] tS1' [(0, pt b 0), (6, .agg #[metal, .slice A rs.length c])] w2.heap.size [] (lies_nil w2) (by kernel_rfl) fun w3 E3 _ K => ?_
  have Bk := below_kept K
  have B3 := B2.trans (.of_below Bk)
  have T3 := T2.below Bk
  have hrows3 : rowsS (fun _ => True) w3 21 A rs := (rowsS.of hrows (fun r hr => by rw [hok.len r hr]; decide) (S := fun _ => True) (fun _ _ _ => trivial)).keep Bk.size (fun g' _ hg' => ⟨trivial, Bk.block g' hg'⟩)
  have hok3 : RowsOk (okDef 3) (fun _ => True) w3 rs := hok.keep Bk.size (fun g' _ hg' => ⟨trivial, Bk.block g' hg'⟩)
  clear K Bk B2 T2 hrows hok hown
  refine at_call 29 [.tmp 6] (some 7) [.agg #[metal, .slice A rs.length c]] (by kernel_rfl) (by kernel_rfl) (by kernel_rfl) ((rfmt_any (by omega) hrows3 hok3).mono ?_)
  rintro en w4 ⟨⟨s4, rfl, hs4⟩, Bk⟩
  refine ⟨_, rfl, ?_⟩
  have B4 := B3.trans (.of_below Bk)
  have T4 := T3.below Bk
  clear Bk B3 T3 hrows3 hok3
  refine at_run (cntG 90 (popOp tS1')) (popOp tS1') w4.heap.size [] [] tS2' [(0, pt b 0), (3, .string s4), (8, pt b 0)] w4.heap.size [] (lies_nil w4) (by kernel_rfl) fun w5 E5 _ K => ?_
  have B5 := B4.trans (.of_below (below_kept K))
  have T5 := T4.below (below_kept K)
  clear K B4 T4
  refine at_call 6 [.tmp 8, .const (.int .i64 3)] (some 9) [pt b 0, .int .i64 3] (by kernel_rfl) (by kernel_rfl) (by kernel_rfl) ((next_any b ns 3 w5 T5 (by omega) (by omega)).mono ?_)
  rintro en w6 ⟨k, hk, rfl, T6, hB6⟩
  refine ⟨_, rfl, ?_⟩
  have B6 := B5.trans hB6
  clear hB6 B5 T5
  refine at_run (cntG 90 (popOp tS2')) (popOp tS2') w6.heap.size [] [] tS3' [(0, pt b 0), (3, .string s4), (4, .int .i64 (k : Nat))] w6.heap.size [] (lies_nil w6) (by kernel_rfl) fun w7 E7 _ K => ?_
  have B7 := B6.trans (.of_below (below_kept K))
  have T7 := T6.below (below_kept K)
  clear K B6 T6
  refine at_loop (by kernel_rfl) (fun E u => ∃ E' i s, E = updL E' [(0, pt b 0), (3, .string s), (4, .int .i64 (i : Nat))] ∧ i ≤ 2 ∧ s.size + 1000 ≤ 31000000 * (2 ^ (2 - i)) ∧ s.size ≤ 400000000 ∧ But b w u ∧ TapeOk b ns u) (fun E _ => (iv (E 4)).toNat) ⟨E7, k, s4, rfl, by omega, ?_, by omega, B7, T7⟩ ?_
  · rcases (show k = 0 ∨ k = 1 ∨ k = 2 by omega) with rfl | rfl | rfl <;> simp <;> omega
  clear B7 T7 hs4
  rintro E u ⟨E', i, s, rfl, hi, hs, hs', hB, hTu⟩ again
  refine at_run (cntG 90 (bodyT tS3')) (bodyT tS3') u.heap.size [] [] tS4' [(0, pt b 0), (3, .string s), (4, .int .i64 (i : Nat)), (11, .bool (decide ((0 : Int) < (i : Int))))] u.heap.size [] (lies_nil u) (by kernel_rfl) fun u1 F1 _ K => ?_
  replace hB := hB.trans (.of_below (below_kept K))
  replace hTu := hTu.below (below_kept K)
  clear K
  refine at_cond (decide ((0 : Int) < (i : Int))) (by kernel_rfl) (fun hlt => ?_) (fun hlt => ?_)
  · have hi0 : 0 < i := by simpa using hlt
    refine at_run (cntG 90 (thenT tS4')) (thenT tS4') u1.heap.size [] [] tS5' [(0, pt b 0), (4, .int .i64 (i : Nat)), (14, pt b 0), (15, .string s)] u1.heap.size [] (lies_nil u1) (by kernel_rfl) fun u2 F2 _ K => ?_
    replace hB := hB.trans (.of_below (below_kept K))
    replace hTu := hTu.below (below_kept K)
    clear K
    refine at_call 31 [.tmp 14, .tmp 15] (some 16) [pt b 0, .string s] (by kernel_rfl) (by kernel_rfl) (by kernel_rfl) ((genText_any hTu (by omega)).mono ?_)
    rintro en u3 ⟨⟨s3, rfl, hs3⟩, T3, hB3⟩
    refine ⟨_, rfl, ?_⟩
    replace hB := hB.trans hB3
    refine at_run (cntG 90 (popOp tS5')) (popOp tS5') u3.heap.size [] [] (againT tS3') [(0, pt b 0), (3, .string s3), (4, .int .i64 (IntKind.i64.wrap ((i : Int) - 1)))] u3.heap.size [] (lies_nil u3) (by kernel_rfl) fun u4 F4 _ K => ?_
    have hw4 : IntKind.i64.wrap ((i : Int) - 1) = ((i - 1 : Nat) : Int) := by rw [IntWalk.i64_in _ (by omega)]; omega
    rw [hw4]
    refine again _ _ ⟨F4, i - 1, s3, rfl, by omega, ?_, ?_, hB.trans (.of_below (below_kept K)), T3.below (below_kept K)⟩ ?_
    · rcases (show i = 1 ∨ i = 2 by omega) with rfl | rfl <;> simp at hs ⊢ <;> omega
    · rcases (show i = 1 ∨ i = 2 by omega) with rfl | rfl <;> simp at hs <;> omega
    · show ((i - 1 : Nat) : Int).toNat < ((i : Nat) : Int).toNat
      omega
  · refine at_end [] (.string s) (fn := Tryz.f9) (by kernel_rfl) (lies_nil u1) (by kernel_rfl) fun w9 hK => ⟨⟨s, rfl, by omega⟩, hTu.below (below_kept hK), hB.trans (.of_below (below_kept hK))⟩
end
end Go.Proofs.YtpdbkbadjgellaaGreatDoor

namespace Go.Proofs.YtpdbkbadjgellaaGreatDoor
namespace Tk

theorem wordLen_in (l : List UInt8) : wordLen l ≤ l.length := by
  cases l with
  | nil => simp [wordLen]
  | cons c r =>
    have := lead_le isWord r
    simp only [wordLen, List.length_cons]
    split <;> omega
theorem symLen_in (l : List UInt8) : symLen l ≤ l.length := by
  cases l with
  | nil => simp [symLen]
  | cons c r =>
    simp only [symLen, List.length_cons]
    split
    · rename_i h
      cases r with
      | nil => simp [pair] at h
      | cons d r => simp
    · split <;> omega
end Tk
end Go.Proofs.YtpdbkbadjgellaaGreatDoor

namespace Go.Proofs.YtpdbkbadjgellaaGreatDoor
namespace Tk

def ne10 (c : UInt8) : Bool := decide (c.toNat ≠ 10)
theorem scanAt_blank (p : Nat) (c : UInt8) (r : List UInt8) (h : isBlank c = true) : scanAt p (c :: r) = scanAt (p + 1) r := by
  have hs : skipN false (c :: r) = skipN false r + 1 := by rw [skipN, if_pos h]
  rw [scanAt_skip p (c :: r), hs, List.drop_succ_cons, scanAt_skip (p + 1) r]
  congr 1
  omega
theorem skip_comment (r : List UInt8) : skipN true r = lead ne10 r + skipN false (r.drop (lead ne10 r)) := by
  induction r with
  | nil => rfl
  | cons c r ih =>
    by_cases h : c.toNat = 10
    · have : ne10 c = false := by simp [ne10, h]
      have hb : isBlank c = true := by simp [isBlank, h]
      simp only [lead, this, skipN, h, if_true, Bool.false_eq_true, if_false, List.drop_zero, hb]
      omega
    · have : ne10 c = true := by simp [ne10, h]
      simp only [lead, this, skipN, h, if_true, if_false, List.drop_succ_cons, ih]
      omega
theorem scanAt_comment (p : Nat) (c : UInt8) (r : List UInt8) (h : c.toNat = 35) : scanAt p (c :: r) = scanAt (p + lead ne10 (c :: r)) ((c :: r).drop (lead ne10 (c :: r))) := by
  have hb : isBlank c = false := by simp [isBlank, h]
  have hn : ne10 c = true := by simp [ne10, h]
  have hl : lead ne10 (c :: r) = lead ne10 r + 1 := by simp [lead, hn]
  have hs : skipN false (c :: r) = skipN true r + 1 := by rw [skipN, if_neg (by simp [hb]), if_pos h]
  rw [hl, List.drop_succ_cons, scanAt_skip p (c :: r), hs, List.drop_succ_cons, skip_comment, scanAt_skip (p + (lead ne10 r + 1)) (r.drop (lead ne10 r)), List.drop_drop]
  congr 1
  omega
theorem skip_none (c : UInt8) (r : List UInt8) (h : isBlank c = false) (h2 : c.toNat ≠ 35) : skipN false (c :: r) = 0 := by
  rw [skipN, if_neg (by simp [h]), if_neg h2]
theorem lead_pos (p : UInt8 → Bool) (c : UInt8) (r : List UInt8) (h : p c = true) : 1 ≤ lead p (c :: r) := by simp [lead, h]
end Tk
end Go.Proofs.YtpdbkbadjgellaaGreatDoor

namespace Go.Proofs.YtpdbkbadjgellaaGreatDoor
namespace Tk

theorem newR_none (N D : Nat) (hD : 1 ≤ D) (h : 1000000000000 * D < N) : newR N D = none := by
  unfold newR
  rw [if_pos]
  refine .inl ?_
  have hg : 0 < Nat.gcd N D := Nat.gcd_pos_of_pos_right _ hD
  have e1 : N / Nat.gcd N D * Nat.gcd N D = N := Nat.div_mul_cancel (Nat.gcd_dvd_left _ _)
  have hgD : Nat.gcd N D ≤ D := Nat.gcd_le_right _ hD
  rcases Nat.lt_or_ge 1000000000000 (N / Nat.gcd N D) with h1 | h1
  · exact h1
  · exfalso
    have : N / Nat.gcd N D * Nat.gcd N D ≤ 1000000000000 * D := Nat.mul_le_mul h1 hgD
    omega
theorem frac_len' (y : List UInt8) : ((y.drop (digs y + 1)).take (frac y)).length = frac y := by
  rw [List.length_take, Nat.min_eq_left]
  unfold frac
  split
  · exact lead_le _ _
  · omega
theorem numN_split (y : List UInt8) : numN y = val (y.take (digs y)) * 10 ^ frac y + val ((y.drop (digs y + 1)).take (frac y)) := by
  unfold numN
  rw [val_append, frac_len']
/-- A whole part that is too great. -/
theorem read_over (y : List UInt8) (hb : badNum y = false) (h : 1000000000000 * den0 y < val (y.take (digs y))) : readNum y = .error 4 := by
  unfold readNum
  rw [if_neg (by rw [hb]; simp), newR_none _ _ (numD_pos y)]
  rw [numN_split]
  unfold numD
  have hp : 0 < 10 ^ frac y := Nat.pow_pos (by omega)
  have := Nat.mul_lt_mul_of_pos_right h hp
  rw [Nat.mul_assoc] at this
  omega
/-- A whole part of more than fifteen digits. -/
theorem read_many (y : List UInt8) (hb : badNum y = false) (h : 15 < digs y) : readNum y = .error 4 := by
  refine read_over y hb ?_
  have hd0 : den0 y ≤ 100 := by unfold den0; split <;> omega
  have hl : digs y ≤ y.length := lead_le _ _
  cases y with
  | nil => simp at hl; omega
  | cons c r =>
    have hdig : isDig c = true := lead_all isDig (c :: r) 0 (by unfold digs at h; omega) (by simp)
    have hc : c.toNat ≠ 48 := by
      intro e
      unfold badNum at hb
      rw [Bool.or_eq_false_iff, Bool.or_eq_false_iff, Bool.and_eq_false_iff] at hb
      rcases hb.1.1 with h1 | h1
      · have := of_decide_eq_false h1; omega
      · have := of_decide_eq_false h1; exact this e
    have hd := of_decide_eq_true hdig
    obtain ⟨m, hm⟩ : ∃ m, digs (c :: r) = m + 1 := ⟨digs (c :: r) - 1, by omega⟩
    rw [hm, List.take_succ_cons]
    have e : c :: r.take m = [c] ++ r.take m := rfl
    rw [e, val_append]
    have hlm : (r.take m).length = m := by simp at hl ⊢; omega
    have h1 : 1 ≤ val [c] := by simp [val]; omega
    rw [hlm]
    have h2 : 10 ^ 15 ≤ 10 ^ m := Nat.pow_le_pow_right (by omega) (by omega)
    have h3 : 1 * 10 ^ m ≤ val [c] * 10 ^ m := Nat.mul_le_mul_right _ h1
    omega
theorem val_lt (l : List UInt8) (h : ∀ c ∈ l, isDig c = true) : val l < 10 ^ l.length := by
  have key : ∀ l : List UInt8, (∀ c ∈ l, isDig c = true) → val l < 10 ^ l.length := by
    intro l
    induction l with
    | nil => intro _; simp [val]
    | cons c r ih =>
      intro h
      have h1 := ih (fun d hd => h d (by simp [hd]))
      have h2 := of_decide_eq_true (h c (by simp))
      have e : c :: r = [c] ++ r := rfl
      rw [e, val_append, List.length_append, List.length_cons, List.length_nil, show 0 + 1 + r.length = r.length + 1 by omega, Nat.pow_succ]
      have h3 : val [c] ≤ 9 := by simp [val]; omega
      have h4 : val [c] * 10 ^ r.length ≤ 9 * 10 ^ r.length := Nat.mul_le_mul_right _ h3
      omega
  exact key l h
theorem whole_dig (y : List UInt8) : ∀ c ∈ y.take (digs y), isDig c = true := by
  intro c hc
  obtain ⟨i, hi, rfl⟩ := List.getElem_of_mem hc
  rw [List.getElem_take]
  have hl : digs y ≤ y.length := lead_le _ _
  simp at hi
  exact lead_all isDig y i (by unfold digs at hi; omega) (by omega)
theorem part_dig (y : List UInt8) : ∀ c ∈ (y.drop (digs y + 1)).take (frac y), isDig c = true := by
  intro c hc
  obtain ⟨i, hi, rfl⟩ := List.getElem_of_mem hc
  rw [List.getElem_take]
  rw [frac_len'] at hi
  have hf : hasFrac y = true := by
    rcases Bool.eq_false_or_eq_true (hasFrac y) with h | h
    · exact h
    · unfold frac at hi; rw [h] at hi; simp at hi
  have e : frac y = lead isDig (y.drop (digs y + 1)) := by unfold frac; rw [if_pos hf]; rfl
  exact lead_all isDig _ i (by omega) _
/-- The numerator stays small while the part behind the point is read. -/
theorem part_small (y : List UInt8) (hb : badNum y = false) (h : val (y.take (digs y)) ≤ 1000000000000 * den0 y) (k : Nat) (hk : k ≤ frac y) :
    val (y.take (digs y) ++ ((y.drop (digs y + 1)).take (frac y)).take k) ≤ 1000000000002000000 := by
  have hl : (((y.drop (digs y + 1)).take (frac y)).take k).length = k := by rw [List.length_take, frac_len', Nat.min_eq_left hk]
  have h1 := val_lt (((y.drop (digs y + 1)).take (frac y)).take k) (fun c hc => part_dig y c (List.mem_of_mem_take hc))
  have h2 := pow_le6 y k hk (not_bad y hb)
  rw [val_append, hl]
  rw [hl] at h1
  have h3 : val (y.take (digs y)) * 10 ^ k ≤ 1000000000000 * den0 y * 10 ^ k := Nat.mul_le_mul_right _ h
  rw [Nat.mul_assoc] at h3
  have h4 : 1000000000000 * (den0 y * 10 ^ k) ≤ 1000000000000 * 1000000 := Nat.mul_le_mul_left _ h2
  have h5 : 10 ^ k ≤ den0 y * 10 ^ k := Nat.le_mul_of_pos_left _ (by unfold den0; split <;> omega)
  omega
end Tk
end Go.Proofs.YtpdbkbadjgellaaGreatDoor

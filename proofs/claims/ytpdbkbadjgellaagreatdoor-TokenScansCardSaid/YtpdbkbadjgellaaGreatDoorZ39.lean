/-
  payrollgen's Text and Source: short texts (printed by gen_src.py).
-/
import Derived.Test.YtpdbkbadjgellaaGreatDoorZ38
namespace Go.Proofs.YtpdbkbadjgellaaGreatDoor
open Go.RowKit
section
set_option maxRecDepth 100000
theorem exec_cutHi {P : Program} {o : Oper} {ρ : Operand → Value} {w : World} {t : TypeId} {x h : Operand} {s : ByteArray} {a : Nat} (hop : o.op = .slice t x none (some h) none) (hu : P.underlying t = some .string) (hx : ρ x = .string s) (hh : ρ h = .int .i64 (a : Nat)) (ha : a ≤ s.size) : (execOp ρ o).run P w = .ok (.value (.string (s.extract 0 a))) w := by
  have h1 : ¬ (s.size : Int) < (a : Int) := by omega
  simp [execOp, hop, hx, hh, Instr.sliceAt, Instr.slice, run_underlying hu, Instr.sliceBounds, Instr.sliceBound, asIntOf, ha]
theorem exec_cutLo {P : Program} {o : Oper} {ρ : Operand → Value} {w : World} {t : TypeId} {x h : Operand} {s : ByteArray} {a : Nat} (hop : o.op = .slice t x (some h) none none) (hu : P.underlying t = some .string) (hx : ρ x = .string s) (hh : ρ h = .int .i64 (a : Nat)) (ha : a ≤ s.size) : (execOp ρ o).run P w = .ok (.value (.string (s.extract a s.size))) w := by
  have h1 : ¬ (s.size : Int) < (a : Int) := by omega
  simp [execOp, hop, hx, hh, Instr.sliceAt, Instr.slice, run_underlying hu, Instr.sliceBounds, Instr.sliceBound, asIntOf, ha]
section
variable {P : Program} {ops : Array Oper} {n : Nat} {E : Nat → Value} {W : Wr} {L : List Loc} {C : World → Prop} {Ext : World → World → Prop}
theorem part_addC (hrf : ∀ w : World, Ext w w) {i k a b : Nat} {B : List Nat} (x y : Operand) (hop : addOf (ops.getD i default).op = some (x, y)) (hx : StrOf n E W L B x a) (hy : StrOf n E W L B y b) (hk : a + b ≤ k) (hm : a + b ≤ 4000000000000000000) : PartE P ops n E W C Ext L (strL i B k) := by
  refine ⟨fun _ _ _ _ _ h => h, fun vals u hC hb => ?_⟩
  obtain ⟨s, h1, h2⟩ := hx vals u hb
  obtain ⟨t, h3, h4⟩ := hy vals u hb
  unfold addOf at hop
  split at hop
  · rename_i T x' y' T' ho
    simp only [Option.some.injEq, Prod.mk.injEq] at hop
    obtain ⟨rfl, rfl⟩ := hop
    refine OpOk.value (v := .string (s ++ t)) (w' := u) (exec_add ho h1 h3 (by rw [show IntKind.i64.max = 9223372036854775807 by decide]; omega)) ⟨hC, hrf u, s ++ t, ?_, ?_⟩
    · simp [upv, strL]
    · rw [ByteArray.size_append]; omega
  · cases hop
theorem part_moveC (hrf : ∀ w : World, Ext w w) {i k : Nat} {B : List Nat} (x : Operand) (hop : moveOf (ops.getD i default).op = some x) (hx : StrOf n E W L B x k) : PartE P ops n E W C Ext L (strL i B k) := by
  refine ⟨fun _ _ _ _ _ h => h, fun vals u hC hb => ?_⟩
  obtain ⟨s, h1, h2⟩ := hx vals u hb
  exact OpOk.value (v := .string s) (w' := u) ((exec_move hop u).trans (by rw [h1])) ⟨hC, hrf u, s, by simp [upv, strL], h2⟩
end
def wordL : List (List UInt8) := [[], [40], [41], [59], [32, 105, 102, 32], [49], [37], [42], [47, 32, 104, 111, 117, 114, 115], [32, 50, 48, 50, 54, 45, 48, 50, 45, 51, 48, 32], [35], [65], [46], [48], [44], [60], [120], [32, 110, 111, 116, 32], [49, 50, 49], [48, 46, 48, 48, 49], [109, 111, 110, 101, 121], [45], [10], [91], [0]]
def wordV : List Value := wordL.map fun l => .string ⟨l.toArray⟩
theorem word_at {k : Nat} (h : k < 25) : ∃ s : ByteArray, wordV[k]? = some (.string s) ∧ s.size ≤ 12 := by
  have hl : wordL.length = 25 := by decide
  have hk : wordL[k]? = some (wordL[k]'(by omega)) := List.getElem?_eq_getElem _
  refine ⟨⟨(wordL[k]'(by omega)).toArray⟩, by unfold wordV; rw [List.getElem?_map, hk]; rfl, ?_⟩
  have : ∀ x ∈ wordL, x.length ≤ 12 := by decide
  exact this _ (List.getElem_mem _)
noncomputable def codeTg : Code := Tryz.f31.body.getD .skip
noncomputable def tG0' : List Item := advG [.code codeTg]
noncomputable def tG1' : List Item := advG (popOp tG0')
noncomputable def tG2' : List Item := advA 4 (popOp tG1')
noncomputable def opsTg : Array Oper := (curReg tG2').getD #[]
def WTg : Wr := [(22, 0), (23, 1), (24, 2), (25, 3), (26, 4), (27, 5), (28, 6), (29, 7), (30, 8), (31, 9), (32, 10), (33, 11), (34, 12), (35, 13), (36, 14), (4, 15)]
def slW (z : Nat) : Value := .slice (some ⟨z, 0, none⟩) 25 25
def numL (i : Nat) (B : List Nat) (m : Nat) : Loc := ⟨i, B, [i], fun vs _ => ∃ k : Nat, k < m ∧ vs = [.int .i64 k]⟩
def ptrL (i : Nat) (B : List Nat) (z m : Nat) : Loc := ⟨i, B, [i], fun vs _ => ∃ k : Nat, k < m ∧ vs = [pt z k]⟩
def LTg (b z a e : Nat) (s : ByteArray) : List Loc := [pureL 0 [] (.string s), pureL 1 [] (.int .i64 a), pureL 2 [0, 1] (.string (s.extract 0 a)), pureL 3 [] (slW z), pureL 4 [] (pt b 0), pureL 5 [] (slW z), pureL 6 [5] (.int .i64 25), numL 7 [4, 5, 6] 25, ptrL 8 [3, 4, 5, 6, 7] z 25, strL 9 [3, 4, 5, 6, 7, 8] 12, strL 10 [0, 1, 2, 3, 4, 5, 6, 7, 8, 9] (s.size + 12), pureL 11 [] (.string s), pureL 12 [] (.int .i64 e), pureL 13 [11, 12] (.string (s.extract e s.size)), strL 14 [0, 1, 2, 3, 4, 5, 6, 7, 8, 9, 10, 11, 12, 13] (2 * s.size + 12), strL 15 [0, 1, 2, 3, 4, 5, 6, 7, 8, 9, 10, 11, 12, 13, 14] (2 * s.size + 12)]
def envTg (b z a e : Nat) (s : ByteArray) : List (Nat × Value) := [(0, pt b 0), (1, .string s), (5, .int .i64 a), (6, .int .i64 e), (7, slW z)]
def CTg (b : Nat) (ns : List Int) (w3 : World) (u : World) : Prop := But b w3 u ∧ TapeOk b ns u
theorem partsTg {b z a e : Nat} {ns : List Int} {s : ByteArray} {w3 : World} {E : Nat → Value} (ha : a ≤ s.size) (he : e ≤ s.size) (hS : s.size ≤ 1000000000) (hz : z ≠ b) (hzl : z < w3.heap.size) (hw : w3.rangeAt z 0 wordV) :
    PartsE Tryz.prog opsTg 37 (updL E (envTg b z a e s)) WTg (CTg b ns w3) (But b) (LTg b z a e s) (LTg b z a e s) := by
  refine ⟨part_pureE (But.refl b) (fun _ _ _ _ => by kernel_rfl), part_pureE (But.refl b) (fun _ _ _ _ => by kernel_rfl), ?_, part_pureE (But.refl b) (fun _ _ _ _ => by kernel_rfl), part_pureE (But.refl b) (fun _ _ _ _ => by kernel_rfl), part_pureE (But.refl b) (fun _ _ _ _ => by kernel_rfl), ?_, ?_, ?_, ?_, ?_, part_pureE (But.refl b) (fun _ _ _ _ => by kernel_rfl), part_pureE (But.refl b) (fun _ _ _ _ => by kernel_rfl), ?_, ?_, ?_, trivial⟩
  · refine ⟨fun _ _ _ _ _ h => h, fun vals u hC hb => ?_⟩
    exact OpOk.value (v := .string (s.extract 0 a)) (w' := u) (exec_cutHi (t := 9) (x := .tmp 22) (h := .tmp 23) (by kernel_rfl) (by kernel_rfl) ((show evalVE 37 _ WTg vals (.tmp 22) = vals 0 from rfl).trans (val_of hb 0 rfl rfl)) ((show evalVE 37 _ WTg vals (.tmp 23) = vals 1 from rfl).trans (val_of hb 1 rfl rfl)) ha) ⟨hC, But.refl b u, by simp [upv, pureL]⟩
  · refine ⟨fun _ _ _ _ _ h => h, fun vals u hC hb => ?_⟩
    exact OpOk.knownE [(27, 5, slW z)] (by kernel_rfl) ⟨val_of hb 5 rfl rfl, trivial⟩ (OpOk.value (v := .int .i64 25) (w' := u) (by kernel_rfl) ⟨hC, But.refl b u, by simp [upv, pureL]⟩)
  · refine ⟨fun _ _ _ _ _ h => h, fun vals u hC hb => ?_⟩
    refine OpOk.call (f := 6) [.tmp 26, .tmp 28] (args := [pt b 0, .int .i64 25]) (ats := #[23, 3]) (by kernel_rfl) rfl ?_ (run_callable (by kernel_rfl) _ _) ((next_any b ns 25 u hC.2 (by omega) (by omega)).mono ?_)
    · simp only [List.map_cons, List.map_nil]
      rw [show evalVE 37 _ WTg vals (.tmp 26) = vals 4 from rfl, val_of hb 4 rfl rfl, show evalVE 37 _ WTg vals (.tmp 28) = vals 6 from rfl, val_of hb 6 rfl rfl]
    · rintro en u' ⟨k, hk, rfl, hT, hB⟩
      exact ⟨_, rfl, ⟨hC.1.trans hB, hT⟩, hB, k, by omega, by simp [upv, numL]⟩
  · refine ⟨fun _ _ _ _ _ h => h, fun vals u hC hb => ?_⟩
    obtain ⟨k, hk, h7⟩ := held_mem hb (List.mem_of_getElem? (i := 7) (show (LTg b z a e s)[7]? = some (numL 7 [4, 5, 6] 25) from rfl)) rfl
    have := exec_index (P := Tryz.prog) (o := opsTg.getD 8 default) (ρ := evalVE 37 (updL E (envTg b z a e s)) WTg vals) (w := u) 27 (.tmp 25) (.tmp 29) (by kernel_rfl) (g := z) (off := 0) (len := 25) (cap := 25) (k := k) (sz := 1) (e := 9) ((show evalVE 37 _ WTg vals (.tmp 25) = vals 3 from rfl).trans (val_of hb 3 rfl rfl)) ((show evalVE 37 _ WTg vals (.tmp 29) = vals 7 from rfl).trans (List.cons.inj h7).1) hk (by kernel_rfl) (by kernel_rfl)
    rw [Nat.mul_one, Nat.zero_add] at this
    exact OpOk.value (v := pt z k) (w' := u) this ⟨hC, But.refl b u, k, hk, by simp [upv, ptrL]⟩
  · refine ⟨fun _ _ _ _ _ h => h, fun vals u hC hb => ?_⟩
    obtain ⟨k, hk, h8⟩ := held_mem hb (List.mem_of_getElem? (i := 8) (show (LTg b z a e s)[8]? = some (ptrL 8 [3, 4, 5, 6, 7] z 25) from rfl)) rfl
    obtain ⟨s1, hs1, hs2⟩ := word_at hk
    have hcell : u.cell? ⟨z, k, none⟩ = some (.string s1) := by
      rw [World.cell?_of_block (w := w3) (hC.1.block z hzl hz)]
      have := hw k _ hs1
      rwa [Nat.zero_add] at this
    exact OpOk.loadOne 9 (.tmp 30) (by kernel_rfl) ((show evalVE 37 _ WTg vals (.tmp 30) = vals 8 from rfl).trans (List.cons.inj h8).1) hcell (Tryz.isAgg9 u) ⟨hC, But.refl b u, s1, by simp [upv, strL], hs2⟩
  · exact part_addC (But.refl b) (a := s.size) (b := 12) (.tmp 24) (.tmp 31) (by kernel_rfl) (.exact 2 rfl rfl rfl (by rw [ByteArray.size_extract]; omega)) (.tmp 9 rfl rfl rfl) (by omega) (by omega)
  · refine ⟨fun _ _ _ _ _ h => h, fun vals u hC hb => ?_⟩
    exact OpOk.value (v := .string (s.extract e s.size)) (w' := u) (exec_cutLo (t := 9) (x := .tmp 33) (h := .tmp 34) (by kernel_rfl) (by kernel_rfl) ((show evalVE 37 _ WTg vals (.tmp 33) = vals 11 from rfl).trans (val_of hb 11 rfl rfl)) ((show evalVE 37 _ WTg vals (.tmp 34) = vals 12 from rfl).trans (val_of hb 12 rfl rfl)) he) ⟨hC, But.refl b u, by simp [upv, pureL]⟩
  · exact part_addC (But.refl b) (a := s.size + 12) (b := s.size) (.tmp 32) (.tmp 35) (by kernel_rfl) (.tmp 10 rfl rfl rfl) (.exact 13 rfl rfl rfl (by rw [ByteArray.size_extract]; omega)) (by omega) (by omega)
  · exact part_moveC (But.refl b) (.tmp 36) (by kernel_rfl) (.tmp 14 rfl rfl rfl)
/-- What Text and Source leave. -/
def StrPost (b : Nat) (ns : List Int) (k : Nat) (w : World) (e : Ending) (w' : World) : Prop := (∃ s : ByteArray, e = .returned (.string s) ∧ s.size ≤ k) ∧ TapeOk b ns w' ∧ But b w w'
theorem genText_any {b : Nat} {ns : List Int} {w : World} {s : ByteArray} (hT : TapeOk b ns w) (hS : s.size ≤ 1000000000) : Calls Tryz.prog 31 #[pt b 0, .string s] w (StrPost b ns (2 * s.size + 12) w) := by
  refine calls_at (args := [pt b 0, .string s]) (fn := Tryz.f31) (c := codeTg) (n := 37) (by kernel_rfl) (by kernel_rfl) (by kernel_rfl) (by kernel_rfl) ?_
  refine at_run (cntG 90 [.code codeTg]) [.code codeTg] w.heap.size [] [] tG0' [(0, pt b 0), (1, .string s), (8, pt b 0), (11, .int .i64 (IntKind.i64.wrap ((s.size : Int) + 1)))] w.heap.size [] (lies_nil w) (by kernel_rfl) fun w1 E1 _ K => ?_
  have hw1 : IntKind.i64.wrap ((s.size : Int) + 1) = (s.size : Int) + 1 := IntWalk.i64_in _ (by omega)
  rw [hw1]
  have B1 : But b w w1 := .of_below (below_kept K)
  have T1 := hT.below (below_kept K)
  clear K hw1
  refine at_call 6 [.tmp 8, .tmp 11] (some 12) [pt b 0, .int .i64 ((s.size : Int) + 1)] (by kernel_rfl) (by kernel_rfl) (by kernel_rfl) ((next_any b ns _ w1 T1 (by omega) (by omega)).mono ?_)
  rintro en w2 ⟨a, ha, rfl, T2, hB2⟩
  refine ⟨_, rfl, ?_⟩
  have ha' : a ≤ s.size := by omega
  have B2 := B1.trans hB2
  clear B1 T1 hB2
  refine at_run (cntG 90 (popOp tG0')) (popOp tG0') w2.heap.size [] [] tG1' [(0, pt b 0), (1, .string s), (5, .int .i64 a), (13, .int .i64 a), (14, pt b 0), (15, .slice (some ⟨w2.heap.size, 0, none⟩) 4 4)] (w2.heap.size + 1) [⟨w2.heap.size, 0, [.int .i64 0, .int .i64 1, .int .i64 2, .int .i64 5], 3, true⟩] (lies_nil w2) (by kernel_rfl) fun w3 E3 L3 K => ?_
  have g3 := L3.sat.good ⟨w2.heap.size, 0, [.int .i64 0, .int .i64 1, .int .i64 2, .int .i64 5], 3, true⟩ (by simp)
  have B3 := B2.trans (.of_below (below_kept K))
  have T3 := T2.below (below_kept K)
  have hb2 := T2.lt
  clear K L3
  refine at_call 21 [.tmp 14, .tmp 15] (some 16) [pt b 0, .slice (some ⟨w2.heap.size, 0, none⟩) 4 4] (by kernel_rfl) (by kernel_rfl) (by kernel_rfl) ((pick_any b w2.heap.size 4 ns [0, 1, 2, 5] w3 T3 (by omega) (by simp) (by simp) (fun i x hx => ?_)).mono ?_)
  · have h2 := g3.2
    rw [if_pos rfl] at h2
    have hr : w3.rangeAt w2.heap.size 0 [.int .i64 0, .int .i64 1, .int .i64 2, .int .i64 5] := rangeAt_all h2.1
    have := hr i (.int .i64 x) (by
      have : ([.int .i64 0, .int .i64 1, .int .i64 2, .int .i64 5] : List Value) = ([0, 1, 2, 5] : List Int).map (Value.int .i64) := rfl
      rw [this, List.getElem?_map, hx]; rfl)
    rwa [Nat.zero_add] at this
  rintro en w4 ⟨x, hx, rfl, T4, hB4⟩
  refine ⟨_, rfl, ?_⟩
  have hx5 : 0 ≤ x ∧ x ≤ 5 := by
    simp only [List.mem_cons, List.not_mem_nil, or_false] at hx
    omega
  have B4 := B3.trans hB4
  clear B3 T3 hB4 g3 B2 T2
  refine at_run (cntA 4 90 (popOp tG1')) (popOp tG1') w4.heap.size [] [] tG2' [(0, pt b 0), (1, .string s), (5, .int .i64 a), (6, .int .i64 (if (s.size : Int) < IntKind.i64.wrap ((a : Int) + x) then (s.size : Int) else IntKind.i64.wrap ((a : Int) + x))), (7, slW w4.heap.size)] (w4.heap.size + 1) [⟨w4.heap.size, 0, wordV, 9, true⟩] (lies_nil w4) (by kernel_rfl) fun w5 E5 L5 K => ?_
  have g5 := L5.sat.good ⟨w4.heap.size, 0, wordV, 9, true⟩ (by simp)
  have B5 := B4.trans (.of_below (below_kept K))
  have T5 := T4.below (below_kept K)
  have hb4 := T4.lt
  clear K L5 B4 T4
  have hw5 : IntKind.i64.wrap ((a : Int) + x) = (a : Int) + x := IntWalk.i64_in _ (by omega)
  rw [hw5]
  obtain ⟨e, he, he'⟩ : ∃ e : Nat, (if (s.size : Int) < (a : Int) + x then (s.size : Int) else (a : Int) + x) = (e : Int) ∧ e ≤ s.size := by
    split
    · exact ⟨s.size, rfl, Nat.le_refl _⟩
    · exact ⟨((a : Int) + x).toNat, by omega, by omega⟩
  rw [he]
  clear hw5 he
  have hw : w5.rangeAt w4.heap.size 0 wordV := by
    have h2 := g5.2
    rw [if_pos rfl] at h2
    exact rangeAt_all h2.1
  have hzl := g5.1
  refine at_draw opsTg (by kernel_rfl) (by kernel_rfl) 16 (by kernel_rfl) ?_
  refine any_partsE (fuel := 0) (W := WTg) (L := LTg b w4.heap.size a e s) (C := CTg b ns w5) (Ext := But b) (by kernel_rfl) ⟨(But.refl _ _).drew, T5.below (Below.refl _ _).drew⟩ (But.refl b) (fun _ _ _ => But.trans) (partsTg ha' he' hS (by omega) hzl hw) rfl fun vals u hC _ hall => ?_
  obtain ⟨r, h1, h2⟩ := all_mem hall (List.mem_of_getElem? (i := 15) (show (LTg b w4.heap.size a e s)[15]? = some (strL 15 [0, 1, 2, 3, 4, 5, 6, 7, 8, 9, 10, 11, 12, 13, 14] (2 * s.size + 12)) from rfl))
  refine ⟨by kernel_rfl, rfl, At.mid ?_⟩
  refine at_known [(4, .string r)] ?_ fun E' => ?_
  · simp only [List.map_cons, List.map_nil]
    rw [show finE opsTg vals ((LTg b w4.heap.size a e s).map (·.idx)) (updL E5 (envTg b w4.heap.size a e s)) 4 = vals 15 by kernel_rfl]
    exact h1
  · refine at_end [] (.string r) (fn := Tryz.f31) (by kernel_rfl) (lies_nil u) (by kernel_rfl) fun w9 hK => ⟨⟨r, rfl, h2⟩, hC.2.below (below_kept hK), (B5.trans hC.1).trans (.of_below (below_kept hK))⟩
noncomputable def codeSo : Code := Tryz.f9.body.getD .skip
noncomputable def tS0' : List Item := advG [.code codeSo]
noncomputable def tS1' : List Item := advG (popOp tS0')
noncomputable def tS2' : List Item := advG (popOp tS1')
noncomputable def tS3' : List Item := advG (popOp tS2')
noncomputable def tS4' : List Item := advG (bodyT tS3')
noncomputable def tS5' : List Item := advG (thenT tS4')
theorem source_any {b : Nat} {ns : List Int} {w : World} (hT : TapeOk b ns w) : Calls Tryz.prog 9 #[pt b 0] w (StrPost b ns 1000000000 w) := by
  refine calls_at (args := [pt b 0]) (fn := Tryz.f9) (c := codeSo) (n := 18) (by kernel_rfl) (by kernel_rfl) (by kernel_rfl) (by kernel_rfl) ?_
  refine at_run (cntG 90 [.code codeSo]) [.code codeSo] w.heap.size [] [] tS0' [(0, pt b 0), (5, pt b 0)] w.heap.size [] (lies_nil w) (by kernel_rfl) fun w1 E1 _ K => ?_
  have B1 : But b w w1 := .of_below (below_kept K)
  have T1 := hT.below (below_kept K)
  clear K
  refine at_call 30 [.tmp 5, .const (.int .i64 3), .const (.bool true)] (some 6) [pt b 0, .int .i64 3, .bool true] (by kernel_rfl) (by kernel_rfl) (by kernel_rfl) ((agreement_any 3 (by omega) (by omega) T1).mono ?_)
  rintro en w2 ⟨v, rs, rfl, hown, hok, hlen, T2, hB2⟩
  refine ⟨_, rfl, ?_⟩
  have B2 := B1.trans hB2
  clear B1 T1 hB2
  obtain ⟨A, c, rfl, hrows⟩ := rows_own hown hok.len (by decide)
  refine at_run (cntG 90 (popOp tS0')) (popOp tS0') w2.heap.size [] [] tS1' [(0, pt b 0), (6, .agg #[metal, .slice A rs.length c])] w2.heap.size [] (lies_nil w2) (by kernel_rfl) fun w3 E3 _ K => ?_
  have Bk := below_kept K
  have B3 := B2.trans (.of_below Bk)
  have T3 := T2.below Bk
  have hrows3 : rowsS (fun _ => True) w3 21 A rs := (rowsS.of hrows (fun r hr => by rw [hok.len r hr]; decide) (S := fun _ => True) (fun _ _ _ => trivial)).keep Bk.size (fun g' _ hg' => ⟨trivial, Bk.block g' hg'⟩)
  have hok3 : RowsOk (okDef 3) (fun _ => True) w3 rs := hok.keep Bk.size (fun g' _ hg' => ⟨trivial, Bk.block g' hg'⟩)
  clear K Bk B2 T2 hrows hok hown
  refine at_call 29 [.tmp 6] (some 7) [.agg #[metal, .slice A rs.length c]] (by kernel_rfl) (by kernel_rfl) (by kernel_rfl) ((rfmt_any (by omega) hrows3 hok3).mono ?_)
  rintro en w4 ⟨⟨s4, rfl, hs4⟩, Bk⟩
  refine ⟨_, rfl, ?_⟩
  have B4 := B3.trans (.of_below Bk)
  have T4 := T3.below Bk
  clear Bk B3 T3 hrows3 hok3
  refine at_run (cntG 90 (popOp tS1')) (popOp tS1') w4.heap.size [] [] tS2' [(0, pt b 0), (3, .string s4), (8, pt b 0)] w4.heap.size [] (lies_nil w4) (by kernel_rfl) fun w5 E5 _ K => ?_
  have B5 := B4.trans (.of_below (below_kept K))
  have T5 := T4.below (below_kept K)
  clear K B4 T4
  refine at_call 6 [.tmp 8, .const (.int .i64 3)] (some 9) [pt b 0, .int .i64 3] (by kernel_rfl) (by kernel_rfl) (by kernel_rfl) ((next_any b ns 3 w5 T5 (by omega) (by omega)).mono ?_)
  rintro en w6 ⟨k, hk, rfl, T6, hB6⟩
  refine ⟨_, rfl, ?_⟩
  have B6 := B5.trans hB6
  clear hB6 B5 T5
  refine at_run (cntG 90 (popOp tS2')) (popOp tS2') w6.heap.size [] [] tS3' [(0, pt b 0), (3, .string s4), (4, .int .i64 (k : Nat))] w6.heap.size [] (lies_nil w6) (by kernel_rfl) fun w7 E7 _ K => ?_
  have B7 := B6.trans (.of_below (below_kept K))
  have T7 := T6.below (below_kept K)
  clear K B6 T6
  refine at_loop (by kernel_rfl) (fun E u => ∃ E' i s, E = updL E' [(0, pt b 0), (3, .string s), (4, .int .i64 (i : Nat))] ∧ i ≤ 2 ∧ s.size + 1000 ≤ 31000000 * (2 ^ (2 - i)) ∧ s.size ≤ 400000000 ∧ But b w u ∧ TapeOk b ns u) (fun E _ => (iv (E 4)).toNat) ⟨E7, k, s4, rfl, by omega, ?_, by omega, B7, T7⟩ ?_
  · rcases (show k = 0 ∨ k = 1 ∨ k = 2 by omega) with rfl | rfl | rfl <;> simp <;> omega
  clear B7 T7 hs4
  rintro E u ⟨E', i, s, rfl, hi, hs, hs', hB, hTu⟩ again
  refine at_run (cntG 90 (bodyT tS3')) (bodyT tS3') u.heap.size [] [] tS4' [(0, pt b 0), (3, .string s), (4, .int .i64 (i : Nat)), (11, .bool (decide ((0 : Int) < (i : Int))))] u.heap.size [] (lies_nil u) (by kernel_rfl) fun u1 F1 _ K => ?_
  replace hB := hB.trans (.of_below (below_kept K))
  replace hTu := hTu.below (below_kept K)
  clear K
  refine at_cond (decide ((0 : Int) < (i : Int))) (by kernel_rfl) (fun hlt => ?_) (fun hlt => ?_)
  · have hi0 : 0 < i := by simpa using hlt
    refine at_run (cntG 90 (thenT tS4')) (thenT tS4') u1.heap.size [] [] tS5' [(0, pt b 0), (4, .int .i64 (i : Nat)), (14, pt b 0), (15, .string s)] u1.heap.size [] (lies_nil u1) (by kernel_rfl) fun u2 F2 _ K => ?_
    replace hB := hB.trans (.of_below (below_kept K))
    replace hTu := hTu.below (below_kept K)
    clear K
    refine at_call 31 [.tmp 14, .tmp 15] (some 16) [pt b 0, .string s] (by kernel_rfl) (by kernel_rfl) (by kernel_rfl) ((genText_any hTu (by omega)).mono ?_)
    rintro en u3 ⟨⟨s3, rfl, hs3⟩, T3, hB3⟩
    refine ⟨_, rfl, ?_⟩
    replace hB := hB.trans hB3
    refine at_run (cntG 90 (popOp tS5')) (popOp tS5') u3.heap.size [] [] (againT tS3') [(0, pt b 0), (3, .string s3), (4, .int .i64 (IntKind.i64.wrap ((i : Int) - 1)))] u3.heap.size [] (lies_nil u3) (by kernel_rfl) fun u4 F4 _ K => ?_
    have hw4 : IntKind.i64.wrap ((i : Int) - 1) = ((i - 1 : Nat) : Int) := by rw [IntWalk.i64_in _ (by omega)]; omega
    rw [hw4]
    refine again _ _ ⟨F4, i - 1, s3, rfl, by omega, ?_, ?_, hB.trans (.of_below (below_kept K)), T3.below (below_kept K)⟩ ?_
    · rcases (show i = 1 ∨ i = 2 by omega) with rfl | rfl <;> simp at hs ⊢ <;> omega
    · rcases (show i = 1 ∨ i = 2 by omega) with rfl | rfl <;> simp at hs <;> omega
    · show ((i - 1 : Nat) : Int).toNat < ((i : Nat) : Int).toNat
      omega
  · refine at_end [] (.string s) (fn := Tryz.f9) (by kernel_rfl) (lies_nil u1) (by kernel_rfl) fun w9 hK => ⟨⟨s, rfl, by omega⟩, hTu.below (below_kept hK), hB.trans (.of_below (below_kept hK))⟩
end
end Go.Proofs.YtpdbkbadjgellaaGreatDoor

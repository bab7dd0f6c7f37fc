/-
  Format: its contract.
  The reference of the console: word, fits, get.
  The reference's fact, but for agreements.
-/
import Derived.Test.YtdcbnkimjhefkaaGreatDoorY25
import Derived.Test.YtdcbnkimjhefkaaGreatDoorY20
namespace Go.Proofs.YtdcbnkimjhefkaaGreatDoor
open Go.RowKit
set_option maxRecDepth 100000
section
variable {P : Program} {f : FuncId} {R : Ending → World → Prop}
def curIA (n : Nat) (E : Nat → Value) (todo : List Item) : Option (TypeId × Value × Value × Option Tmp) := match curOp n E todo with
  | some o => match o.op with
    | .indexAddr t x i => some (t, evE n E x, evE n E i, o.dst)
    | _ => none
  | none => none
theorem exec_index {P : Program} {o : Oper} {ρ : Operand → Value} {w : World} (T : TypeId) (x i : Operand) (hop : o.op = .indexAddr T x i) {g off len cap k sz : Nat} {e : TypeId} (hx : ρ x = .slice (some ⟨g, off, none⟩) len cap) (hi : ρ i = .int .i64 k) (hk : k < len)
    (hT : P.underlying T = some (.slice e)) (hs : (P.info? e).map (·.size) = some sz) : (execOp ρ o).run P w = .ok (.value (.pointer (some ⟨g, off + k * sz, none⟩))) w := by
  unfold execOp
  cases hq : P.info? e with
  | none => rw [hq] at hs; cases hs
  | some inf =>
    have hsz : inf.size = sz := by rw [hq] at hs; exact Option.some.inj hs
    simp [hop, hx, hi, Instr.indexAt, asIntOf, run_underlying hT, hk, sizeOf, typeInfo, hq, hsz, Addr.add]
    try (intro h0; simp [h0])
theorem at_elem {n : Nat} {todo : List Item} {E : Nat → Value} {w : World} {g off len cap k sz : Nat} {T e : TypeId} (dst : Option Tmp) (hc : curIA n E todo = some (T, .slice (some ⟨g, off, none⟩) len cap, .int .i64 k, dst)) (hk : k < len)
    (hT : P.underlying T = some (.slice e)) (hs : (P.info? e).map (·.size) = some sz) (h : At P f R (popOp todo) (Fr n (updO E dst (.pointer (some ⟨g, off + k * sz, none⟩)))) w) : At P f R todo (Fr n E) w := by
  unfold curIA at hc
  split at hc
  · rename_i o hcur
    split at hc
    · rename_i t x i ho
      simp only [Option.some.injEq, Prod.mk.injEq] at hc
      obtain ⟨rfl, hx, hi, rfl⟩ := hc
      exact at_op o hcur (v := .pointer (some ⟨g, off + k * sz, none⟩)) (w' := w) (exec_index t x i ho hx hi hk hT hs) h
    · cases hc
  · cases hc
end
/-- Commands in a slice. -/
def CmdsAt (w : World) (lim : Nat) (v : Value) (l : List Cmd) : Prop :=
  ∃ a cap, v = .slice a l.length cap ∧ (l ≠ [] → ∃ g off, a = some ⟨g, off, none⟩ ∧ g < lim ∧ ∀ (i : Nat) (h : i < l.length), w.rangeAt g (off + i * 13) (l[i]).cells)
def fmtS : List UInt8 → List Cmd → Option (List UInt8)
  | acc, [] => some acc
  | acc, c :: l => if okC c = true ∧ (acc ++ textC c).length ≤ 65536 then fmtS (acc ++ textC c) l else none
def fmtV : Option (List UInt8) → Value
  | some t => .tuple #[.string ⟨⟨t⟩⟩, .int .i64 0]
  | none => .tuple #[.string ⟨⟨[]⟩⟩, .int .i64 1]
noncomputable def codeFo : Code := Tryz.f21.body.getD .skip
noncomputable def tH0 : List Item := advT 60 [.code codeFo]
noncomputable def tH1 : List Item := advT 60 (bodyT tH0)
noncomputable def tH2 : List Item := advT 5 (thenT tH1)
noncomputable def tH3 : List Item := advT 60 (popOp (popOp tH2))
noncomputable def tH4 : List Item := advT 60 (popOp tH3)
noncomputable def tH5 : List Item := advT 60 (popOp tH4)
noncomputable def tH6 : List Item := advT 60 (elseT tH1)
theorem format_any (l : List Cmd) (v : Value) (w : World) (hl : ∀ c ∈ l, c.Wf) (hv : CmdsAt w w.heap.size v l) (hC : Con w) (hg : Tryz.prog.globals.size ≤ w.heap.size) (hn : l.length ≤ 9223372036854775806) :
    Calls Tryz.prog 21 #[v] w fun e w' => e = .returned (fmtV (fmtS [] l)) ∧ Below w.heap.size w w' := by
  obtain ⟨a, cap, rfl, hcells⟩ := hv
  refine calls_at (args := [.slice a l.length cap]) (fn := Tryz.f21) (c := codeFo) (n := 22) (by kernel_rfl) (by kernel_rfl) (by kernel_rfl) (by kernel_rfl) ?_
  refine at_run 60 [.code codeFo] w.heap.size [] [] tH0 [(4, pt w.heap.size), (7, .slice a l.length cap), (8, .int .i64 l.length), (9, .int .i64 0)] (w.heap.size + 1) [⟨w.heap.size, 0, [.pointer none, .slice none 0 0], 89, true⟩] (lies_nil w) (by kernel_rfl) fun w1 E1 hL1 hK1 => ?_
  have hb1 := own_good (hL1.sat.good ⟨w.heap.size, 0, [.pointer none, .slice none 0 0], 89, true⟩ (by simp))
  have B1 : Below w.heap.size w w1 := hK1.below (Nat.le_refl _) (fun k hk => by cases hk)
  have hs1 : w.heap.size < w1.heap.size := (Array.getElem?_eq_some_iff.1 hb1).1
  have S1 : WS w1 w.heap.size w.heap.size (Lib.byteCells []) [] w1 := ⟨.inl ⟨Nat.le_refl _, .slice none 0 0, hb1, ⟨rfl, .inl ⟨rfl, rfl⟩⟩, by simp [Value.ownBlock]⟩, Below.refl _ _, Lib.OthersKept.refl _ _ _, fun p hp => (by cases hp), fun p hp => (by cases hp), hs1, Nat.le_refl _⟩
  have C1 : Con w1 := hC.below hg B1
  generalize hB : w.heap.size = B at *
  refine at_loop (by kernel_rfl) (fun E wx => ∃ (i : Nat) (acc : List UInt8) (E0 : Nat → Value), i ≤ l.length ∧ E = updL E0 [(4, pt B), (7, .slice a l.length cap), (8, .int .i64 l.length), (9, .int .i64 (i : Int))] ∧ acc.length ≤ 65536 ∧ fmtS [] l = fmtS acc (l.drop i) ∧ WS w1 B B (Lib.byteCells acc) [] wx)
    (fun E _ => l.length - idxOf (E 9)) ⟨0, [], E1, Nat.zero_le _, rfl, Nat.zero_le _, rfl, S1⟩ ?_
  rintro E wx ⟨i, acc, E0, hi, rfl, hal, hfm, S⟩ hagain
  have CC : ∀ w', WS w1 B B (Lib.byteCells acc) [] w' → Con w' := fun w' S' => C1.below hg S'.bel
  refine at_run 60 (bodyT tH0) wx.heap.size [] [] tH1 [(4, pt B), (7, .slice a l.length cap), (8, .int .i64 l.length), (9, .int .i64 (i : Int)), (10, .bool (decide ((i : Int) < (l.length : Int))))] wx.heap.size [] (lies_nil wx) (by kernel_rfl) fun w2 E2 hL2 hK2 => ?_
  have S2 := S.below (hK2.below (Nat.le_refl _) (fun k hk => by cases hk))
  refine at_cond (decide ((i : Int) < (l.length : Int))) (by kernel_rfl) (fun ht => ?_) (fun hf => ?_)
  · have hlt : i < l.length := by have := of_decide_eq_true ht; omega
    have hne : l ≠ [] := fun e => by rw [e] at hlt; exact absurd hlt (Nat.not_lt_zero _)
    obtain ⟨g, off, rfl, hgl, hcell⟩ := hcells hne
    have hci := hcell i hlt
    have hwf := hl l[i] (List.getElem_mem hlt)
    have hdrop : l.drop i = l[i] :: l.drop (i + 1) := (List.getElem_cons_drop hlt).symm
    generalize l[i] = c at hci hwf hdrop
    rw [hdrop] at hfm
    refine at_run 5 (thenT tH1) w2.heap.size [] [] tH2 [(4, pt B), (7, .slice (some ⟨g, off, none⟩) l.length cap), (8, .int .i64 l.length), (9, .int .i64 (i : Int))] w2.heap.size [] (lies_nil w2) (by kernel_rfl) fun w3 E3 hL3 hK3 => ?_
    have S3 := S2.below (hK3.below (Nat.le_refl _) (fun k hk => by cases hk))
    refine at_elem (g := g) (off := off) (cap := cap) (sz := 13) (k := i) (some 11) (by kernel_rfl) hlt Tryz.underlying50 (by kernel_rfl) ?_
    have hr3 : w3.rangeAt g (off + i * 13) c.cells := fun j x hj => (World.cell?_of_block ((B1.trans S3.bel).block _ hgl)).trans (hci j x hj)
    refine at_load 64 g (off + i * 13) c.cells (some 12) (by kernel_rfl) (by kernel_rfl) (by kernel_rfl) hr3 ?_
    refine at_run 60 (popOp (popOp tH2)) w3.heap.size [] [(0, 0), (0, 0)] tH3 [(4, pt B), (7, .slice (some ⟨g, off, none⟩) l.length cap), (8, .int .i64 l.length), (9, .int .i64 (i : Int)), (13, .agg ⟨c.cells⟩)] (w3.heap.size + 1) [⟨w3.heap.size, 0, c.cells, 64, true⟩] (lies_nil w3) (by kernel_rfl) fun w4 E4 hL4 hK4 => ?_
    have S4 := S3.below (hK4.below (Nat.le_refl _) (fun k hk => by cases hk))
    refine at_call 43 [.tmp 4, .tmp 13] (some 14) [pt B, .agg ⟨c.cells⟩] (by kernel_rfl) (by kernel_rfl) (by kernel_rfl) ((write_any c w4 hwf (CC w4 S4) S4.bld (Nat.lt_of_lt_of_le S4.lo S4.size) (Nat.le_refl _) hg (by omega)).mono fun e w5 hh => ?_)
    obtain ⟨rfl, hb5, hB5, ho5⟩ := hh
    refine ⟨_, rfl, ?_⟩
    have S5 : WS w1 B B (Lib.byteCells (acc ++ textC c)) [] w5 := S4.wrote hb5 hB5 ho5
    have bad : fmtS [] l = none → ∀ (E : Nat → Value) (wy : World), WS w1 B B (Lib.byteCells (acc ++ textC c)) [] wy → At Tryz.prog 21 (fun e w' => e = .returned (fmtV (fmtS [] l)) ∧ Below B w w') tH5 (Fr 22 (updL E [(19, .bool true)])) wy := by
      intro hnone E wy Sy
      refine at_cond true (by kernel_rfl) (fun _ => ?_) (fun h => nomatch h)
      refine at_endT (fn := Tryz.f21) 60 (fmtV none) (by kernel_rfl) (by kernel_rfl) fun w7 B7 => ?_
      rw [hnone]
      exact ⟨rfl, B1.trans (Sy.below B7).bel⟩
    cases hok : okC c with
    | false =>
      have hnone : fmtS [] l = none := by rw [hfm]; simp [fmtS, hok]
      refine at_run 60 (popOp tH3) w5.heap.size [] [] tH5 [(19, .bool true)] w5.heap.size [] (lies_nil w5) (by kernel_rfl) fun w6 E6 hL6 hK6 => ?_
      exact bad hnone E6 w6 (S5.below (hK6.below (Nat.le_refl _) (fun k hk => by cases hk)))
    | true =>
      refine at_run 60 (popOp tH3) w5.heap.size [] [] tH4 [(4, pt B), (7, .slice (some ⟨g, off, none⟩) l.length cap), (8, .int .i64 l.length), (9, .int .i64 (i : Int)), (16, .bool false)] w5.heap.size [] (lies_nil w5) (by kernel_rfl) fun w6 E6 hL6 hK6 => ?_
      have S6 := S5.below (hK6.below (Nat.le_refl _) (fun k hk => by cases hk))
      refine at_call 44 [.tmp 4] (some 17) [pt B] (by kernel_rfl) (by kernel_rfl) (by kernel_rfl) ((Tryz.Builder_Len_f B B _ w6 S6.bld).mono fun e w7 hh => ?_)
      obtain ⟨rfl, rfl⟩ := hh
      refine ⟨_, rfl, ?_⟩
      rw [Lib.byteCells_length]
      generalize htx : acc ++ textC c = tx at *
      refine at_run 60 (popOp tH4) w7.heap.size [] [] tH5 [(4, pt B), (7, .slice (some ⟨g, off, none⟩) l.length cap), (8, .int .i64 l.length), (9, .int .i64 (i : Int)), (19, .bool (decide ((65536 : Int) < (tx.length : Int))))] w7.heap.size [] (lies_nil w7) (by kernel_rfl) fun w8 E8 hL8 hK8 => ?_
      have S8 := S6.below (hK8.below (Nat.le_refl _) (fun k hk => by cases hk))
      by_cases hlen : tx.length ≤ 65536
      · have hd : decide ((65536 : Int) < (tx.length : Int)) = false := decide_eq_false (by omega)
        rw [hd]
        have hfm' : fmtS [] l = fmtS tx (l.drop (i + 1)) := by rw [hfm, ← htx]; simp only [fmtS]; rw [htx, if_pos ⟨hok, hlen⟩]
        refine at_cond false (by kernel_rfl) (fun h => nomatch h) fun _ => ?_
        refine at_run 60 (elseT tH5) w8.heap.size [] [] (againT tH0) [(4, pt B), (7, .slice (some ⟨g, off, none⟩) l.length cap), (8, .int .i64 l.length), (9, .int .i64 (IntKind.i64.wrap ((i : Int) + 1)))] w8.heap.size [] (lies_nil w8) (by kernel_rfl) fun w9 E9 hL9 hK9 => ?_
        have hw : IntKind.i64.wrap ((i : Int) + 1) = ((i + 1 : Nat) : Int) := by
          rw [IntWalk.i64_in _ (by omega)]
          omega
        rw [hw]
        refine hagain _ _ ⟨i + 1, tx, E9, hlt, rfl, hlen, hfm', S8.below (hK9.below (Nat.le_refl _) (fun k hk => by cases hk))⟩ ?_
        show l.length - idxOf (.int .i64 ((i + 1 : Nat) : Int)) < l.length - idxOf (.int .i64 (i : Int))
        simp only [idxOf, Int.toNat_natCast]
        omega
      · have hd : decide ((65536 : Int) < (tx.length : Int)) = true := decide_eq_true (by omega)
        rw [hd]
        have hnone : fmtS [] l = none := by rw [hfm]; simp only [fmtS]; rw [htx, if_neg (fun h => hlen h.2)]
        exact at_known [(19, .bool true)] (by kernel_rfl) fun E' => bad hnone E' w8 S8
  · have hil : i = l.length := by have := of_decide_eq_false hf; omega
    have hres : fmtS [] l = some acc := by rw [hfm, hil, List.drop_length]; rfl
    refine at_run 60 (elseT tH1) w2.heap.size [] [] tH6 [(4, pt B)] w2.heap.size [] (lies_nil w2) (by kernel_rfl) fun w3 E3 hL3 hK3 => ?_
    have S3 := S2.below (hK3.below (Nat.le_refl _) (fun k hk => by cases hk))
    refine at_call 38 [.tmp 4] (some 21) [pt B] (by kernel_rfl) (by kernel_rfl) (by kernel_rfl) ((Tryz.Builder_String_any_k B B acc w3 S3.bld (by have := S3.size; have := S3.lo; omega)).mono fun e w4 hh => ?_)
    obtain ⟨rfl, hb4, hB4, ho4⟩ := hh
    refine ⟨_, rfl, ?_⟩
    refine at_endT (fn := Tryz.f21) 60 (fmtV (some acc)) (by kernel_rfl) (by kernel_rfl) fun w5 B5 => ?_
    rw [hres]
    exact ⟨rfl, B1.trans (S3.bel.trans (hB4.trans (B5.mono (by have := hB4.size; have := S3.size; have := S3.lo; omega))))⟩
end Go.Proofs.YtdcbnkimjhefkaaGreatDoor

namespace Go.Proofs.YtdcbnkimjhefkaaGreatDoor
open Go.RowKit
/-- The first word and the fields' letters of a fact's line. -/
def wordP (k : Int) : List UInt8 × List UInt8 :=
  if k = 1 then ([104, 105, 114, 101], [101, 100]) else if k = 2 then ([108, 101, 97, 118, 101], [101, 100]) else if k = 3 then ([105, 110, 112, 117, 116], [101, 110, 100, 118]) else if k = 4 then ([104, 111, 117, 114, 115], [101, 110, 100, 118])
  else if k = 6 then ([114, 117, 108, 101, 115], [100, 118]) else if k = 7 then ([100, 101, 112, 101, 110, 100, 101, 110, 116, 115], [101, 100, 118]) else if k = 8 then ([111, 114, 100, 101, 114], [101, 110, 100, 118, 120, 114]) else if k = 9 then ([100, 101, 100, 117, 99, 116, 105, 111, 110], [101, 110, 100, 118, 120, 114]) else ([], [])
set_option maxHeartbeats 2000000 in
theorem rword46_any (k : Int) (w : World) : Calls Tryz.prog 69 #[.int .i64 k] w fun e w' => e = .returned (.tuple #[.string ⟨(wordP k).1.toArray⟩, .string ⟨(wordP k).2.toArray⟩]) ∧ w' = w := by
  by_cases h1 : k = 1
  · subst h1; go_enter Tryz.func69, Tryz.ntmps69; go_wp2_with fail; go_ret2; exact ⟨rfl, rfl⟩
  by_cases h2 : k = 2
  · subst h2; go_enter Tryz.func69, Tryz.ntmps69; go_wp2_with fail; go_ret2; exact ⟨rfl, rfl⟩
  by_cases h3 : k = 3
  · subst h3; go_enter Tryz.func69, Tryz.ntmps69; go_wp2_with fail; go_ret2; exact ⟨rfl, rfl⟩
  by_cases h4 : k = 4
  · subst h4; go_enter Tryz.func69, Tryz.ntmps69; go_wp2_with fail; go_ret2; exact ⟨rfl, rfl⟩
  by_cases h6 : k = 6
  · subst h6; go_enter Tryz.func69, Tryz.ntmps69; go_wp2_with fail; go_ret2; exact ⟨rfl, rfl⟩
  by_cases h7 : k = 7
  · subst h7; go_enter Tryz.func69, Tryz.ntmps69; go_wp2_with fail; go_ret2; exact ⟨rfl, rfl⟩
  by_cases h8 : k = 8
  · subst h8; go_enter Tryz.func69, Tryz.ntmps69; go_wp2_with fail; go_ret2; exact ⟨rfl, rfl⟩
  by_cases h9 : k = 9
  · subst h9; go_enter Tryz.func69, Tryz.ntmps69; go_wp2_with fail; go_ret2; exact ⟨rfl, rfl⟩
  have e : wordP k = ([], []) := by simp [wordP, h1, h2, h3, h4, h6, h7, h8, h9]
  rw [e]
  have g1 : (k == 1) = false := by simpa using h1
  have g2 : (k == 2) = false := by simpa using h2
  have g3 : (k == 3) = false := by simpa using h3
  have g4 : (k == 4) = false := by simpa using h4
  have g6 : (k == 6) = false := by simpa using h6
  have g7 : (k == 7) = false := by simpa using h7
  have g8 : (k == 8) = false := by simpa using h8
  have g9 : (k == 9) = false := by simpa using h9
  go_enter Tryz.func69, Tryz.ntmps69
  go_wp2_with fail
  go_ret2
  exact ⟨rfl, rfl⟩
noncomputable def codeFi : Code := Tryz.f56.body.getD .skip
noncomputable def tFi0 : List Item := advG [.code codeFi]
noncomputable def tFi1 : List Item := tailT tFi0
set_option maxRecDepth 100000 in
theorem rfits_any (n : Int) (w : World) : Calls Tryz.prog 56 [.int .i64 n].toArray w fun e w' => e = .returned (.bool (fitsP n)) ∧ Below w.heap.size w w' := by
  refine calls_at (args := [.int .i64 n]) (fn := Tryz.f56) (c := codeFi) (n := 9) (by kernel_rfl) (by kernel_rfl) (by kernel_rfl) (by kernel_rfl) ?_
  refine at_run (cntG 90 [.code codeFi]) [.code codeFi] w.heap.size [] [] tFi0 [(0, .int .i64 n)] w.heap.size [] (lies_nil w) (by kernel_rfl) fun w1 E1 hL1 hK1 => ?_
  have B1 : Below w.heap.size w w1 := hK1.below (Nat.le_refl _) (fun k hk => by cases hk)
  refine at_ghost ((curReg tFi0).getD #[]) ⟨[], [], []⟩ [(2, .bool (fitsP n))] (by kernel_rfl) (by kernel_rfl) (by kernel_rfl) (fun e he => (by cases he)) (fun sp hsp => (by cases hsp)) (fun X => by kernel_rfl) (by kernel_rfl) fun w2 E2 B2 => ?_
  exact at_endT (fn := Tryz.f56) 60 (.bool (fitsP n)) (by kernel_rfl) (by kernel_rfl) fun w3 B3 => ⟨rfl, B1.trans ((B2.mono B1.size).trans (B3.mono (Nat.le_trans B1.size B2.size)))⟩
/-- A fact's cells. -/
def Cmd.fact (c : Cmd) : List Value := [.int .i64 c.emp, .int .i64 c.fk, .int .i64 c.fr, .string ⟨⟨c.nm⟩⟩, .int .i64 c.val, .int .i64 c.ext, .int .i64 c.rnk, .string ⟨⟨c.txt⟩⟩]
/-- The number for which a letter of the reference stands. -/
def upLetter (a : Nat) : Nat := if a = 101 then 69 else if a = 100 then 68 else if a = 118 then 86 else if a = 120 then 88 else 82
section
variable {P : Program} {f : FuncId} {R : Ending → World → Prop}
/-- Run to the return through tests on literal Bools, over memory. -/
theorem at_endM {n : Nat} {fn : Func} {E : Nat → Value} {w : World} {todo : List Item} (m : Nat) (H : List (Tmp × Nat)) (mem mem' : List Ent) (z' : Nat) (v : Value) (hf : P.funcs[f]? = some fn) (hL : Lies (mem.map (·.id)) w.heap.size w ⟨w.heap.size, mem, (0, 0), []⟩)
    (he : (fun a : St => (isRet a.todo, a.ms.mem, a.ms.sz, a.ms.eqs.map Prod.fst, (lrun P (resultsE fn n a.env) ⟨0, [], (0, 0), []⟩).map (fun r => (r.1, r.2.eqs)))) (advC P H n m ⟨todo, E, ⟨w.heap.size, mem, (0, 0), []⟩, []⟩) = (true, mem', z', (advC P H n m ⟨todo, E, ⟨w.heap.size, mem, (0, 0), []⟩, []⟩).ms.eqs.map Prod.snd, some (v, [])))
    (hk : ∀ w', Lies (mem.map (·.id)) w.heap.size w' ⟨z', mem', (0, 0), []⟩ → Kept (mem.map (·.id)) w.heap.size w w' → R (.returned v) w') : At P f R todo (Fr n E) w := by
  simp only [Prod.mk.injEq] at he
  obtain ⟨h1, h2, h3, h4, h5⟩ := he
  refine advC_sound (H := H) m ⟨todo, E, ⟨w.heap.size, mem, (0, 0), []⟩, []⟩ w hL (fun p hp => ?_) fun w' hL' hK => ?_
  · obtain ⟨i, hi⟩ := List.mem_iff_getElem?.1 hp
    have g1 : ((advC P H n m ⟨todo, E, ⟨w.heap.size, mem, (0, 0), []⟩, []⟩).ms.eqs.map Prod.fst)[i]? = some p.1 := by rw [List.getElem?_map, hi]; rfl
    have g2 : ((advC P H n m ⟨todo, E, ⟨w.heap.size, mem, (0, 0), []⟩, []⟩).ms.eqs.map Prod.snd)[i]? = some p.2 := by rw [List.getElem?_map, hi]; rfl
    rw [h4, g2] at g1
    exact (Option.some.inj g1).symm
  · have h6 : (lrun P (resultsE fn n (advC P H n m ⟨todo, E, ⟨w.heap.size, mem, (0, 0), []⟩, []⟩).env) ⟨0, [], (0, 0), []⟩).map (·.1) = some v := by
      cases hl : lrun P (resultsE fn n (advC P H n m ⟨todo, E, ⟨w.heap.size, mem, (0, 0), []⟩, []⟩).env) ⟨0, [], (0, 0), []⟩ with
      | none => rw [hl] at h5; cases h5
      | some r => rw [hl] at h5; simp at h5; simp [h5.1]
    refine at_ret (fn := fn) h1 hf ⟨0, [], (0, 0), []⟩ (fun e he => (by cases he)) v h6 ?_ (hk w' (lies_lit hL' z' mem' h3 h2) hK)
    cases hl : lrun P (resultsE fn n (advC P H n m ⟨todo, E, ⟨w.heap.size, mem, (0, 0), []⟩, []⟩).env) ⟨0, [], (0, 0), []⟩ with
    | none => rfl
    | some r =>
      rw [hl] at h5
      simp at h5
      simp [h5.2]
end
noncomputable def codeGe : Code := Tryz.f108.body.getD .skip
set_option maxRecDepth 100000 in
theorem rget_any (c : Cmd) (a : Nat) (ha : a = 101 ∨ a = 100 ∨ a = 118 ∨ a = 120 ∨ a = 114) (w : World) : Calls Tryz.prog 108 [.agg ⟨c.fact⟩, .int .u8 (a : Int)].toArray w fun e w' => e = .returned (.int .i64 (numP (upLetter a) c)) ∧ Below w.heap.size w w' := by
  refine calls_at (args := [.agg ⟨c.fact⟩, .int .u8 (a : Int)]) (fn := Tryz.f108) (c := codeGe) (n := 24) (by kernel_rfl) (by kernel_rfl) (by kernel_rfl) (by kernel_rfl) ?_
  rcases ha with rfl | rfl | rfl | rfl | rfl
  · exact at_endM (fn := Tryz.f108) 200 [] [] [⟨w.heap.size, 0, c.fact, 61, true⟩] (w.heap.size + 1) (.int .i64 (numP (upLetter 101) c)) (by kernel_rfl) (lies_nil w) (by kernel_rfl) fun w' _ hK => ⟨rfl, hK.below (Nat.le_refl _) (fun k hk => by cases hk)⟩
  · exact at_endM (fn := Tryz.f108) 200 [] [] [⟨w.heap.size, 0, c.fact, 61, true⟩] (w.heap.size + 1) (.int .i64 (numP (upLetter 100) c)) (by kernel_rfl) (lies_nil w) (by kernel_rfl) fun w' _ hK => ⟨rfl, hK.below (Nat.le_refl _) (fun k hk => by cases hk)⟩
  · exact at_endM (fn := Tryz.f108) 200 [] [] [⟨w.heap.size, 0, c.fact, 61, true⟩] (w.heap.size + 1) (.int .i64 (numP (upLetter 118) c)) (by kernel_rfl) (lies_nil w) (by kernel_rfl) fun w' _ hK => ⟨rfl, hK.below (Nat.le_refl _) (fun k hk => by cases hk)⟩
  · exact at_endM (fn := Tryz.f108) 200 [] [] [⟨w.heap.size, 0, c.fact, 61, true⟩] (w.heap.size + 1) (.int .i64 (numP (upLetter 120) c)) (by kernel_rfl) (lies_nil w) (by kernel_rfl) fun w' _ hK => ⟨rfl, hK.below (Nat.le_refl _) (fun k hk => by cases hk)⟩
  · exact at_endM (fn := Tryz.f108) 200 [] [] [⟨w.heap.size, 0, c.fact, 61, true⟩] (w.heap.size + 1) (.int .i64 (numP (upLetter 114) c)) (by kernel_rfl) (lies_nil w) (by kernel_rfl) fun w' _ hK => ⟨rfl, hK.below (Nat.le_refl _) (fun k hk => by cases hk)⟩
def setN (a : Nat) (v : Int) (c : Cmd) : Cmd := if a = 69 then { c with emp := v } else if a = 68 then { c with fr := v } else if a = 86 then { c with val := v } else if a = 88 then { c with ext := v } else { c with rnk := v }
noncomputable def codeSe : Code := Tryz.f72.body.getD .skip
set_option maxRecDepth 100000 in
theorem rset_any (k : Nat) (x : Cmd) (a : Nat) (v : Int) (ha : a = 101 ∨ a = 100 ∨ a = 118 ∨ a = 120 ∨ a = 114) (w : World) (hx : w.heap[k]? = some (.cells x.fact.toArray 61 (0, 0))) :
    Calls Tryz.prog 72 [pt k, .int .u8 (a : Int), .int .i64 v].toArray w fun e w' => e = .returned (.tuple #[]) ∧ w'.heap[k]? = some (.cells (setN (upLetter a) v x).fact.toArray 61 (0, 0)) ∧ Kept [k] w.heap.size w w' := by
  refine calls_at (args := [pt k, .int .u8 (a : Int), .int .i64 v]) (fn := Tryz.f72) (c := codeSe) (n := 35) (by kernel_rfl) (by kernel_rfl) (by kernel_rfl) (by kernel_rfl) ?_
  rcases ha with rfl | rfl | rfl | rfl | rfl
  · exact at_endM (fn := Tryz.f72) 200 [] [⟨k, 0, x.fact, 61, true⟩] [⟨k, 0, (setN (upLetter 101) v x).fact, 61, true⟩] w.heap.size (.tuple #[]) (by kernel_rfl) (lies_one hx) (by kernel_rfl) fun w' hL hK => ⟨rfl, own_good (hL.sat.good _ (List.mem_singleton.2 rfl)), hK⟩
  · exact at_endM (fn := Tryz.f72) 200 [] [⟨k, 0, x.fact, 61, true⟩] [⟨k, 0, (setN (upLetter 100) v x).fact, 61, true⟩] w.heap.size (.tuple #[]) (by kernel_rfl) (lies_one hx) (by kernel_rfl) fun w' hL hK => ⟨rfl, own_good (hL.sat.good _ (List.mem_singleton.2 rfl)), hK⟩
  · exact at_endM (fn := Tryz.f72) 200 [] [⟨k, 0, x.fact, 61, true⟩] [⟨k, 0, (setN (upLetter 118) v x).fact, 61, true⟩] w.heap.size (.tuple #[]) (by kernel_rfl) (lies_one hx) (by kernel_rfl) fun w' hL hK => ⟨rfl, own_good (hL.sat.good _ (List.mem_singleton.2 rfl)), hK⟩
  · exact at_endM (fn := Tryz.f72) 200 [] [⟨k, 0, x.fact, 61, true⟩] [⟨k, 0, (setN (upLetter 120) v x).fact, 61, true⟩] w.heap.size (.tuple #[]) (by kernel_rfl) (lies_one hx) (by kernel_rfl) fun w' hL hK => ⟨rfl, own_good (hL.sat.good _ (List.mem_singleton.2 rfl)), hK⟩
  · exact at_endM (fn := Tryz.f72) 200 [] [⟨k, 0, x.fact, 61, true⟩] [⟨k, 0, (setN (upLetter 114) v x).fact, 61, true⟩] w.heap.size (.tuple #[]) (by kernel_rfl) (lies_one hx) (by kernel_rfl) fun w' hL hK => ⟨rfl, own_good (hL.sat.good _ (List.mem_singleton.2 rfl)), hK⟩
end Go.Proofs.YtdcbnkimjhefkaaGreatDoor

namespace Go.Proofs.YtdcbnkimjhefkaaGreatDoor
open Go.RowKit
set_option maxRecDepth 100000
def isAdd : List Item → Bool
  | .inRegion ops (i :: _) :: _ => match ops[i]? with
    | some o => match o.op with
      | .binOp .add _ _ _ _ => true
      | _ => false
    | none => false
  | _ => false
/-- The code's way alone, up to an addition. -/
def cntP : Nat → List Item → Nat
  | 0, _ => 0
  | m + 1, t => match isAdd t with
    | true => 0
    | false => match stepT t with
      | some t' => cntP m t' + 1
      | none => 0
noncomputable def advP (t : List Item) : List Item := advT (cntP 90 t) t
noncomputable def codeFa : Code := Tryz.f54.body.getD .skip
noncomputable def tA0 : List Item := advT 60 [.code codeFa]
noncomputable def tA1 : List Item := advT 60 (elseT tA0)
noncomputable def tA2 : List Item := advT 60 (popOp tA1)
noncomputable def tA3 : List Item := advT 60 (elseT tA2)
noncomputable def tA4 : List Item := advT 60 (bodyT tA3)
noncomputable def tA5 : List Item := advT 60 (thenT tA4)
noncomputable def tA6 : List Item := advT 60 (popOp tA5)
noncomputable def tA7 : List Item := advT 60 (thenT tA6)
noncomputable def tA8 : List Item := advT 60 (popOp tA7)
noncomputable def tA9 : List Item := advP (elseT tA8)
noncomputable def tAd0 : List Item := advT 60 (elseT tA6)
noncomputable def tAd1 : List Item := advT 60 (tailT tAd0)
noncomputable def tAd2 : List Item := advT 60 (popOp tAd1)
noncomputable def tAd3 : List Item := advT 60 (elseT tAd2)
noncomputable def tAd4 : List Item := advT 60 (popOp tAd3)
noncomputable def tAd5 : List Item := advT 60 (popOp tAd4)
noncomputable def tAx : List Item := advT 60 (elseT tA4)
theorem idx_str (w : World) (s : List UInt8) (i : Nat) (h : i < s.length) : (Instr.index 9 (.string ⟨⟨s⟩⟩) (.int .i64 (i : Int))).run Tryz.prog w = .ok (.int .u8 ((s[i]).toNat : Int)) w := by
  have hs : (⟨⟨s⟩⟩ : ByteArray).size = s.length := rfl
  rw [run_index_string w _ _ _ _ Tryz.underlying9, dif_pos ⟨by omega, by rw [hs]; omega⟩]
  simp only [Int.toNat_natCast]
  rfl
def upL (a : UInt8) : Nat := if a.toNat = 110 then 78 else upLetter a.toNat
def copyN (a : Nat) (c x : Cmd) : Cmd := if a = 78 then { x with nm := c.nm } else setN a (numP a c) x
def itemsR (c : Cmd) (l : List UInt8) : List UInt8 := l.flatMap fun a => 32 :: itemP (upL a) c
def copyR (c : Cmd) (l : List UInt8) : Cmd := l.foldl (fun x a => copyN (upL a) c x) ⟨0, 0, c.fk, 0, [], 0, 0, 0, [], 0, 0, 0, 0⟩
def okR (c : Cmd) (l : List UInt8) : Bool := l.all fun a => okP (upL a) c
def Cmd.factOnly (c : Cmd) : Cmd := { c with kind := 0, per := 0, wh := 0, torn := 0, stop := 0 }
def fieldsOk (l : List UInt8) : Bool := l.all (fun x => x.toNat == 110 || x.toNat == 101 || x.toNat == 100 || x.toNat == 118 || x.toNat == 120 || x.toNat == 114) && Nat.ble l.length 6
structure FS (w0 : World) (k1 k9 : Nat) (c x : Cmd) (w : World) : Prop where
  bel : Below w0.heap.size w0 w
  h1 : w.heap[k1]? = some (.cells c.fact.toArray 61 (0, 0))
  h9 : w.heap[k9]? = some (.cells x.fact.toArray 61 (0, 0))
  l1 : w0.heap.size ≤ k1
  l9 : k1 < k9
theorem FS.kept {w0 w w' : World} {k1 k9 : Nat} {c x : Cmd} (h : FS w0 k1 k9 c x w) (hb : Below w.heap.size w w') : FS w0 k1 k9 c x w' :=
  ⟨h.bel.trans (hb.mono h.bel.size), (hb.block _ (Array.getElem?_eq_some_iff.1 h.h1).1).trans h.h1, (hb.block _ (Array.getElem?_eq_some_iff.1 h.h9).1).trans h.h9, h.l1, h.l9⟩
theorem FS.set {w0 w w' : World} {k1 k9 : Nat} {c x x' : Cmd} (h : FS w0 k1 k9 c x w) (hK : Kept [k9] w.heap.size w w') (hx : w'.heap[k9]? = some (.cells x'.fact.toArray 61 (0, 0))) : FS w0 k1 k9 c x' w' := by
  have := h.l1
  have := h.l9
  refine ⟨h.bel.trans (hK.below h.bel.size (fun k hk => by rw [List.mem_singleton.1 hk]; omega)), (hK.block _ (Array.getElem?_eq_some_iff.1 h.h1).1 (fun hk => by have := List.mem_singleton.1 hk; omega)).trans h.h1, hx, h.l1, h.l9⟩
theorem FS.ran1 {w0 w w' : World} {k1 k9 : Nat} {c x : Cmd} {z : Nat} (h : FS w0 k1 k9 c x w) (hL : Lies [k1] w.heap.size w' ⟨z, [⟨k1, 0, c.fact, 61, true⟩], (0, 0), []⟩) (hK : Kept [k1] w.heap.size w w') : FS w0 k1 k9 c x w' := by
  have := h.l1
  have := h.l9
  refine ⟨h.bel.trans (hK.below h.bel.size (fun k hk => by rw [List.mem_singleton.1 hk]; omega)), own_good (hL.sat.good _ (List.mem_singleton.2 rfl)), (hK.block _ (Array.getElem?_eq_some_iff.1 h.h9).1 (fun hk => by have := List.mem_singleton.1 hk; omega)).trans h.h9, h.l1, h.l9⟩
theorem fact_litsC (c : Cmd) (h : c.Wf) : Tryz.prog.keyLits 3 61 c.fact = some ((c.lits.drop 1).take 8) := by
  simp [Program.keyLits, Tryz.underlying61, Tryz.underlying3, Tryz.underlying9, cz_fact, cz_int, cz_str, Cmd.fact, Cmd.lits, wf_int _ h.fk, wf_int _ h.emp, wf_int _ h.fr, wf_int _ h.val, wf_int _ h.ext, wf_int _ h.rnk, sz_str _ h.nm, sz_str c.txt (by have := h.txt; omega)]
theorem run_fact_eq (x y : Cmd) (hx : x.Wf) (hy : y.Wf) (w : World) : (Op.equal 61 (.agg ⟨x.fact⟩) (.agg ⟨y.fact⟩)).run Tryz.prog w = .ok (decide (x.factOnly = y.factOnly)) w := by
  obtain ⟨r, hr, hiff⟩ := run_equalIn_deep 9998 2 61 (by kernel_rfl) w 3 3 (.agg ⟨x.fact⟩) (.agg ⟨y.fact⟩) _ _ (by kernel_rfl) (by kernel_rfl) (fact_litsC x hx) (fact_litsC y hy)
  have e : r = decide (x.factOnly = y.factOnly) := by
    have hiff2 : (x.lits.drop 1).take 8 = (y.lits.drop 1).take 8 ↔ x.factOnly = y.factOnly := by
      simp [Cmd.lits, Cmd.factOnly]
    rw [hiff2] at hiff
    by_cases hxy : x.factOnly = y.factOnly
    · rw [decide_eq_true hxy]; exact hiff.2 hxy
    · rw [decide_eq_false hxy]; cases r with
      | false => rfl
      | true => exact absurd (hiff.1 rfl) hxy
  rw [← e]
  exact hr
end Go.Proofs.YtdcbnkimjhefkaaGreatDoor

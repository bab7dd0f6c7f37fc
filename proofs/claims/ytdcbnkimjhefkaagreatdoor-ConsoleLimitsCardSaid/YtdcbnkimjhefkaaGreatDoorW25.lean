/-
  Format: its contract.
  The reference of the console: word, fits, get.
  The reference's fact, but for agreements.
  The reference's fact: a letter's item.
  The reference's fact: the loop over the fields; the whole, but for agreements.
  The reference's fact, but for agreements.
  The reference's fact: agreements.
  The reference's command.
  The reference's Format, given command's contract.
  paygen's deck of numbers: what it is in memory; New, Left, Next, Pick.
  paygen: one of some numbers, the agreements' texts, a day, the command that learns a fact.
  paygen: the facts that the deck draws are printable.
  Regions that draw their order, part by part, where what holds of the world may depend on how many operations are still to come (a counter that each call moves on).
  paygen's Fact: its ordered branches.
  The console's text of a command is the reference's.
  The reference's command: crash.
-/
import Derived.Test.YtdcbnkimjhefkaaGreatDoorW24
import Derived.Test.YtdcbnkimjhefkaaGreatDoorW18
import Derived.Laws.StructEq
import Derived.Test.YtdcbnkimjhefkaaGreatDoorW19
namespace Go.Proofs.YtdcbnkimjhefkaaGreatDoor
open Go.RowKit
set_option maxRecDepth 100000
section
variable {P : Program} {f : FuncId} {R : Ending → World → Prop}
def curIA (n : Nat) (E : Nat → Value) (todo : List Item) : Option (TypeId × Value × Value × Option Tmp) := match curOp n E todo with
  | some o => match o.op with
    | .indexAddr t x i => some (t, evE n E x, evE n E i, o.dst)
    | _ => none
  | none => none
theorem exec_index {P : Program} {o : Oper} {ρ : Operand → Value} {w : World} (T : TypeId) (x i : Operand) (hop : o.op = .indexAddr T x i) {g off len cap k sz : Nat} {e : TypeId} (hx : ρ x = .slice (some ⟨g, off, none⟩) len cap) (hi : ρ i = .int .i64 k) (hk : k < len)
    (hT : P.underlying T = some (.slice e)) (hs : (P.info? e).map (·.size) = some sz) : (execOp ρ o).run P w = .ok (.value (.pointer (some ⟨g, off + k * sz, none⟩))) w := by
  unfold execOp
  cases hq : P.info? e with
  | none => rw [hq] at hs; cases hs
  | some inf =>
    have hsz : inf.size = sz := by rw [hq] at hs; exact Option.some.inj hs
    simp [hop, hx, hi, Instr.indexAt, asIntOf, run_underlying hT, hk, sizeOf, typeInfo, hq, hsz, Addr.add]
    try (intro h0; simp [h0])
theorem at_elem {n : Nat} {todo : List Item} {E : Nat → Value} {w : World} {g off len cap k sz : Nat} {T e : TypeId} (dst : Option Tmp) (hc : curIA n E todo = some (T, .slice (some ⟨g, off, none⟩) len cap, .int .i64 k, dst)) (hk : k < len)
    (hT : P.underlying T = some (.slice e)) (hs : (P.info? e).map (·.size) = some sz) (h : At P f R (popOp todo) (Fr n (updO E dst (.pointer (some ⟨g, off + k * sz, none⟩)))) w) : At P f R todo (Fr n E) w := by
  unfold curIA at hc
  split at hc
  · rename_i o hcur
    split at hc
    · rename_i t x i ho
      simp only [Option.some.injEq, Prod.mk.injEq] at hc
      obtain ⟨rfl, hx, hi, rfl⟩ := hc
      exact at_op o hcur (v := .pointer (some ⟨g, off + k * sz, none⟩)) (w' := w) (exec_index t x i ho hx hi hk hT hs) h
    · cases hc
  · cases hc
end
/-- Commands in a slice. -/
def CmdsAt (w : World) (lim : Nat) (v : Value) (l : List Cmd) : Prop :=
  ∃ a cap, v = .slice a l.length cap ∧ (l ≠ [] → ∃ g off, a = some ⟨g, off, none⟩ ∧ g < lim ∧ ∀ (i : Nat) (h : i < l.length), w.rangeAt g (off + i * 13) (l[i]).cells)
def fmtS : List UInt8 → List Cmd → Option (List UInt8)
  | acc, [] => some acc
  | acc, c :: l => if okC c = true ∧ (acc ++ textC c).length ≤ 65536 then fmtS (acc ++ textC c) l else none
def fmtV : Option (List UInt8) → Value
  | some t => .tuple #[.string ⟨⟨t⟩⟩, .int .i64 0]
  | none => .tuple #[.string ⟨⟨[]⟩⟩, .int .i64 1]
noncomputable def codeFo : Code := Tryz.f21.body.getD .skip
noncomputable def tH0 : List Item := advT 60 [.code codeFo]
noncomputable def tH1 : List Item := advT 60 (bodyT tH0)
noncomputable def tH2 : List Item := advT 5 (thenT tH1)
noncomputable def tH3 : List Item := advT 60 (popOp (popOp tH2))
noncomputable def tH4 : List Item := advT 60 (popOp tH3)
noncomputable def tH5 : List Item := advT 60 (popOp tH4)
noncomputable def tH6 : List Item := advT 60 (elseT tH1)
theorem format_any (l : List Cmd) (v : Value) (w : World) (hl : ∀ c ∈ l, c.Wf) (hv : CmdsAt w w.heap.size v l) (hC : Con w) (hg : Tryz.prog.globals.size ≤ w.heap.size) (hn : l.length ≤ 9223372036854775806) :
    Calls Tryz.prog 21 #[v] w fun e w' => e = .returned (fmtV (fmtS [] l)) ∧ Below w.heap.size w w' := by
  obtain ⟨a, cap, rfl, hcells⟩ := hv
  refine calls_at (args := [.slice a l.length cap]) (fn := Tryz.f21) (c := codeFo) (n := 22) (by kernel_rfl) (by kernel_rfl) (by kernel_rfl) (by kernel_rfl) ?_
  refine at_run 60 [.code codeFo] w.heap.size [] [] tH0 [(4, pt w.heap.size), (7, .slice a l.length cap), (8, .int .i64 l.length), (9, .int .i64 0)] (w.heap.size + 1) [⟨w.heap.size, 0, [.pointer none, .slice none 0 0], 89, true⟩] (lies_nil w) (by kernel_rfl) fun w1 E1 hL1 hK1 => ?_
  have hb1 := own_good (hL1.sat.good ⟨w.heap.size, 0, [.pointer none, .slice none 0 0], 89, true⟩ (by simp))
  have B1 : Below w.heap.size w w1 := hK1.below (Nat.le_refl _) (fun k hk => by cases hk)
  have hs1 : w.heap.size < w1.heap.size := (Array.getElem?_eq_some_iff.1 hb1).1
  have S1 : WS w1 w.heap.size w.heap.size (Lib.byteCells []) [] w1 := ⟨.inl ⟨Nat.le_refl _, .slice none 0 0, hb1, ⟨rfl, .inl ⟨rfl, rfl⟩⟩, by simp [Value.ownBlock]⟩, Below.refl _ _, Lib.OthersKept.refl _ _ _, fun p hp => (by cases hp), fun p hp => (by cases hp), hs1, Nat.le_refl _⟩
  have C1 : Con w1 := hC.below hg B1
  generalize hB : w.heap.size = B at *
  refine at_loop (by kernel_rfl) (fun E wx => ∃ (i : Nat) (acc : List UInt8) (E0 : Nat → Value), i ≤ l.length ∧ E = updL E0 [(4, pt B), (7, .slice a l.length cap), (8, .int .i64 l.length), (9, .int .i64 (i : Int))] ∧ acc.length ≤ 65536 ∧ fmtS [] l = fmtS acc (l.drop i) ∧ WS w1 B B (Lib.byteCells acc) [] wx)
    (fun E _ => l.length - idxOf (E 9)) ⟨0, [], E1, Nat.zero_le _, rfl, Nat.zero_le _, rfl, S1⟩ ?_
  rintro E wx ⟨i, acc, E0, hi, rfl, hal, hfm, S⟩ hagain
  have CC : ∀ w', WS w1 B B (Lib.byteCells acc) [] w' → Con w' := fun w' S' => C1.below hg S'.bel
  refine at_run 60 (bodyT tH0) wx.heap.size [] [] tH1 [(4, pt B), (7, .slice a l.length cap), (8, .int .i64 l.length), (9, .int .i64 (i : Int)), (10, .bool (decide ((i : Int) < (l.length : Int))))] wx.heap.size [] (lies_nil wx) (by kernel_rfl) fun w2 E2 hL2 hK2 => ?_
  have S2 := S.below (hK2.below (Nat.le_refl _) (fun k hk => by cases hk))
  refine at_cond (decide ((i : Int) < (l.length : Int))) (by kernel_rfl) (fun ht => ?_) (fun hf => ?_)
  · have hlt : i < l.length := by have := of_decide_eq_true ht; omega
    have hne : l ≠ [] := fun e => by rw [e] at hlt; exact absurd hlt (Nat.not_lt_zero _)
    obtain ⟨g, off, rfl, hgl, hcell⟩ := hcells hne
    have hci := hcell i hlt
    have hwf := hl l[i] (List.getElem_mem hlt)
    have hdrop : l.drop i = l[i] :: l.drop (i + 1) := (List.getElem_cons_drop hlt).symm
    generalize l[i] = c at hci hwf hdrop
    rw [hdrop] at hfm
    refine at_run 5 (thenT tH1) w2.heap.size [] [] tH2 [(4, pt B), (7, .slice (some ⟨g, off, none⟩) l.length cap), (8, .int .i64 l.length), (9, .int .i64 (i : Int))] w2.heap.size [] (lies_nil w2) (by kernel_rfl) fun w3 E3 hL3 hK3 => ?_
    have S3 := S2.below (hK3.below (Nat.le_refl _) (fun k hk => by cases hk))
    refine at_elem (g := g) (off := off) (cap := cap) (sz := 13) (k := i) (some 11) (by kernel_rfl) hlt Tryz.underlying50 (by kernel_rfl) ?_
    have hr3 : w3.rangeAt g (off + i * 13) c.cells := fun j x hj => (World.cell?_of_block ((B1.trans S3.bel).block _ hgl)).trans (hci j x hj)
    refine at_load 64 g (off + i * 13) c.cells (some 12) (by kernel_rfl) (by kernel_rfl) (by kernel_rfl) hr3 ?_
    refine at_run 60 (popOp (popOp tH2)) w3.heap.size [] [(0, 0), (0, 0)] tH3 [(4, pt B), (7, .slice (some ⟨g, off, none⟩) l.length cap), (8, .int .i64 l.length), (9, .int .i64 (i : Int)), (13, .agg ⟨c.cells⟩)] (w3.heap.size + 1) [⟨w3.heap.size, 0, c.cells, 64, true⟩] (lies_nil w3) (by kernel_rfl) fun w4 E4 hL4 hK4 => ?_
    have S4 := S3.below (hK4.below (Nat.le_refl _) (fun k hk => by cases hk))
    refine at_call 43 [.tmp 4, .tmp 13] (some 14) [pt B, .agg ⟨c.cells⟩] (by kernel_rfl) (by kernel_rfl) (by kernel_rfl) ((write_any c w4 hwf (CC w4 S4) S4.bld (Nat.lt_of_lt_of_le S4.lo S4.size) (Nat.le_refl _) hg (by omega)).mono fun e w5 hh => ?_)
    obtain ⟨rfl, hb5, hB5, ho5⟩ := hh
    refine ⟨_, rfl, ?_⟩
    have S5 : WS w1 B B (Lib.byteCells (acc ++ textC c)) [] w5 := S4.wrote hb5 hB5 ho5
    have bad : fmtS [] l = none → ∀ (E : Nat → Value) (wy : World), WS w1 B B (Lib.byteCells (acc ++ textC c)) [] wy → At Tryz.prog 21 (fun e w' => e = .returned (fmtV (fmtS [] l)) ∧ Below B w w') tH5 (Fr 22 (updL E [(19, .bool true)])) wy := by
      intro hnone E wy Sy
      refine at_cond true (by kernel_rfl) (fun _ => ?_) (fun h => nomatch h)
      refine at_endT (fn := Tryz.f21) 60 (fmtV none) (by kernel_rfl) (by kernel_rfl) fun w7 B7 => ?_
      rw [hnone]
      exact ⟨rfl, B1.trans (Sy.below B7).bel⟩
    cases hok : okC c with
    | false =>
      have hnone : fmtS [] l = none := by rw [hfm]; simp [fmtS, hok]
      refine at_run 60 (popOp tH3) w5.heap.size [] [] tH5 [(19, .bool true)] w5.heap.size [] (lies_nil w5) (by kernel_rfl) fun w6 E6 hL6 hK6 => ?_
      exact bad hnone E6 w6 (S5.below (hK6.below (Nat.le_refl _) (fun k hk => by cases hk)))
    | true =>
      refine at_run 60 (popOp tH3) w5.heap.size [] [] tH4 [(4, pt B), (7, .slice (some ⟨g, off, none⟩) l.length cap), (8, .int .i64 l.length), (9, .int .i64 (i : Int)), (16, .bool false)] w5.heap.size [] (lies_nil w5) (by kernel_rfl) fun w6 E6 hL6 hK6 => ?_
      have S6 := S5.below (hK6.below (Nat.le_refl _) (fun k hk => by cases hk))
      refine at_call 44 [.tmp 4] (some 17) [pt B] (by kernel_rfl) (by kernel_rfl) (by kernel_rfl) ((Tryz.Builder_Len_f B B _ w6 S6.bld).mono fun e w7 hh => ?_)
      obtain ⟨rfl, rfl⟩ := hh
      refine ⟨_, rfl, ?_⟩
      rw [Lib.byteCells_length]
      generalize htx : acc ++ textC c = tx at *
      refine at_run 60 (popOp tH4) w7.heap.size [] [] tH5 [(4, pt B), (7, .slice (some ⟨g, off, none⟩) l.length cap), (8, .int .i64 l.length), (9, .int .i64 (i : Int)), (19, .bool (decide ((65536 : Int) < (tx.length : Int))))] w7.heap.size [] (lies_nil w7) (by kernel_rfl) fun w8 E8 hL8 hK8 => ?_
      have S8 := S6.below (hK8.below (Nat.le_refl _) (fun k hk => by cases hk))
      by_cases hlen : tx.length ≤ 65536
      · have hd : decide ((65536 : Int) < (tx.length : Int)) = false := decide_eq_false (by omega)
        rw [hd]
        have hfm' : fmtS [] l = fmtS tx (l.drop (i + 1)) := by rw [hfm, ← htx]; simp only [fmtS]; rw [htx, if_pos ⟨hok, hlen⟩]
        refine at_cond false (by kernel_rfl) (fun h => nomatch h) fun _ => ?_
        refine at_run 60 (elseT tH5) w8.heap.size [] [] (againT tH0) [(4, pt B), (7, .slice (some ⟨g, off, none⟩) l.length cap), (8, .int .i64 l.length), (9, .int .i64 (IntKind.i64.wrap ((i : Int) + 1)))] w8.heap.size [] (lies_nil w8) (by kernel_rfl) fun w9 E9 hL9 hK9 => ?_
        have hw : IntKind.i64.wrap ((i : Int) + 1) = ((i + 1 : Nat) : Int) := by
          rw [IntWalk.i64_in _ (by omega)]
          omega
        rw [hw]
        refine hagain _ _ ⟨i + 1, tx, E9, hlt, rfl, hlen, hfm', S8.below (hK9.below (Nat.le_refl _) (fun k hk => by cases hk))⟩ ?_
        show l.length - idxOf (.int .i64 ((i + 1 : Nat) : Int)) < l.length - idxOf (.int .i64 (i : Int))
        simp only [idxOf, Int.toNat_natCast]
        omega
      · have hd : decide ((65536 : Int) < (tx.length : Int)) = true := decide_eq_true (by omega)
        rw [hd]
        have hnone : fmtS [] l = none := by rw [hfm]; simp only [fmtS]; rw [htx, if_neg (fun h => hlen h.2)]
        exact at_known [(19, .bool true)] (by kernel_rfl) fun E' => bad hnone E' w8 S8
  · have hil : i = l.length := by have := of_decide_eq_false hf; omega
    have hres : fmtS [] l = some acc := by rw [hfm, hil, List.drop_length]; rfl
    refine at_run 60 (elseT tH1) w2.heap.size [] [] tH6 [(4, pt B)] w2.heap.size [] (lies_nil w2) (by kernel_rfl) fun w3 E3 hL3 hK3 => ?_
    have S3 := S2.below (hK3.below (Nat.le_refl _) (fun k hk => by cases hk))
    refine at_call 38 [.tmp 4] (some 21) [pt B] (by kernel_rfl) (by kernel_rfl) (by kernel_rfl) ((Tryz.Builder_String_any_k B B acc w3 S3.bld (by have := S3.size; have := S3.lo; omega)).mono fun e w4 hh => ?_)
    obtain ⟨rfl, hb4, hB4, ho4⟩ := hh
    refine ⟨_, rfl, ?_⟩
    refine at_endT (fn := Tryz.f21) 60 (fmtV (some acc)) (by kernel_rfl) (by kernel_rfl) fun w5 B5 => ?_
    rw [hres]
    exact ⟨rfl, B1.trans (S3.bel.trans (hB4.trans (B5.mono (by have := hB4.size; have := S3.size; have := S3.lo; omega))))⟩
end Go.Proofs.YtdcbnkimjhefkaaGreatDoor

namespace Go.Proofs.YtdcbnkimjhefkaaGreatDoor
open Go.RowKit
/-- A fact's cells. -/
def Cmd.fact (c : Cmd) : List Value := [.int .i64 c.emp, .int .i64 c.fk, .int .i64 c.fr, .string ⟨⟨c.nm⟩⟩, .int .i64 c.val, .int .i64 c.ext, .int .i64 c.rnk, .string ⟨⟨c.txt⟩⟩]
section
variable {P : Program} {f : FuncId} {R : Ending → World → Prop}
end
end Go.Proofs.YtdcbnkimjhefkaaGreatDoor

namespace Go.Proofs.YtdcbnkimjhefkaaGreatDoor
open Go.RowKit
set_option maxRecDepth 100000
structure FS (w0 : World) (k1 k9 : Nat) (c x : Cmd) (w : World) : Prop where
  bel : Below w0.heap.size w0 w
  h1 : w.heap[k1]? = some (.cells c.fact.toArray 61 (0, 0))
  h9 : w.heap[k9]? = some (.cells x.fact.toArray 61 (0, 0))
  l1 : w0.heap.size ≤ k1
  l9 : k1 < k9
theorem FS.kept {w0 w w' : World} {k1 k9 : Nat} {c x : Cmd} (h : FS w0 k1 k9 c x w) (hb : Below w.heap.size w w') : FS w0 k1 k9 c x w' :=
  ⟨h.bel.trans (hb.mono h.bel.size), (hb.block _ (Array.getElem?_eq_some_iff.1 h.h1).1).trans h.h1, (hb.block _ (Array.getElem?_eq_some_iff.1 h.h9).1).trans h.h9, h.l1, h.l9⟩
theorem FS.set {w0 w w' : World} {k1 k9 : Nat} {c x x' : Cmd} (h : FS w0 k1 k9 c x w) (hK : Kept [k9] w.heap.size w w') (hx : w'.heap[k9]? = some (.cells x'.fact.toArray 61 (0, 0))) : FS w0 k1 k9 c x' w' := by
  have := h.l1
  have := h.l9
  refine ⟨h.bel.trans (hK.below h.bel.size (fun k hk => by rw [List.mem_singleton.1 hk]; omega)), (hK.block _ (Array.getElem?_eq_some_iff.1 h.h1).1 (fun hk => by have := List.mem_singleton.1 hk; omega)).trans h.h1, hx, h.l1, h.l9⟩
theorem FS.ran1 {w0 w w' : World} {k1 k9 : Nat} {c x : Cmd} {z : Nat} (h : FS w0 k1 k9 c x w) (hL : Lies [k1] w.heap.size w' ⟨z, [⟨k1, 0, c.fact, 61, true⟩], (0, 0), []⟩) (hK : Kept [k1] w.heap.size w w') : FS w0 k1 k9 c x w' := by
  have := h.l1
  have := h.l9
  refine ⟨h.bel.trans (hK.below h.bel.size (fun k hk => by rw [List.mem_singleton.1 hk]; omega)), own_good (hL.sat.good _ (List.mem_singleton.2 rfl)), (hK.block _ (Array.getElem?_eq_some_iff.1 h.h9).1 (fun hk => by have := List.mem_singleton.1 hk; omega)).trans h.h9, h.l1, h.l9⟩
end Go.Proofs.YtdcbnkimjhefkaaGreatDoor

namespace Go.Proofs.YtdcbnkimjhefkaaGreatDoor
open Go.RowKit
set_option maxRecDepth 100000
section
variable {P : Program} {f : FuncId} {R : Ending → World → Prop}
theorem at_addL {n : Nat} {todo : List Item} {E : Nat → Value} {w : World} (a b : List UInt8) (dst : Option Tmp) (hc : curAdd n E todo = some (⟨⟨a⟩⟩, ⟨⟨b⟩⟩, dst)) (hs : a.length + b.length ≤ 9223372036854775807) (h : At P f R (popOp todo) (Fr n (updO E dst (.string ⟨⟨a ++ b⟩⟩))) w) : At P f R todo (Fr n E) w := by
  refine at_add ⟨⟨a⟩⟩ ⟨⟨b⟩⟩ dst hc ?_ ?_
  · have e1 : (⟨⟨a⟩⟩ : ByteArray).size = a.length := rfl
    have e2 : (⟨⟨b⟩⟩ : ByteArray).size = b.length := rfl
    have h3 : IntKind.i64.max = 9223372036854775807 := by decide
    rw [e1, e2, h3]
    omega
  · have e9 : (⟨⟨a⟩⟩ : ByteArray) ++ ⟨⟨b⟩⟩ = ⟨⟨a ++ b⟩⟩ := by
      apply ByteArray.ext
      simp
    rw [e9]
    exact h
end
abbrev envA (k1 k9 : Nat) (t fs : List UInt8) (i : Int) : List (Nat × Value) := [(1, pt k1), (7, .string ⟨⟨t⟩⟩), (8, .string ⟨⟨fs⟩⟩), (9, pt k9), (10, .int .i64 i)]
theorem lies_two {w : World} {k k' : Nat} {cs cs' : List Value} {ty ty' : TypeId} (h : w.heap[k]? = some (.cells cs.toArray ty (0, 0))) (h' : w.heap[k']? = some (.cells cs'.toArray ty' (0, 0))) (hne : k ≠ k') : Lies ([(⟨k, 0, cs, ty, true⟩ : Ent), ⟨k', 0, cs', ty', true⟩].map (·.id)) w.heap.size w ⟨w.heap.size, [⟨k, 0, cs, ty, true⟩, ⟨k', 0, cs', ty', true⟩], (0, 0), []⟩ :=
  lies_mk w _ (fun e he => by
    simp only [List.mem_cons, List.not_mem_nil, or_false] at he
    rcases he with rfl | rfl
    · exact good_own h
    · exact good_own h') (by simp; exact hne)
variable {w0 : World} {k1 k9 : Nat} {c x : Cmd} {t fs : List UInt8} {i : Nat} {R : Ending → World → Prop}
end Go.Proofs.YtdcbnkimjhefkaaGreatDoor

namespace Go.Proofs.YtdcbnkimjhefkaaGreatDoor
open Go.RowKit
set_option maxRecDepth 100000
variable {w0 : World} {k1 k9 : Nat} {c : Cmd} {t0 fs : List UInt8} {R : Ending → World → Prop}
end Go.Proofs.YtdcbnkimjhefkaaGreatDoor

namespace Go.Proofs.YtdcbnkimjhefkaaGreatDoor
open Go.RowKit
set_option maxRecDepth 100000
section
variable {P : Program} {f : FuncId} {R : Ending → World → Prop}
def curEqS (n : Nat) (E : Nat → Value) (todo : List Item) : Option (ByteArray × ByteArray × Option Tmp) := match curOp n E todo with
  | some o => match o.op with
    | .binOp .eql _ x y _ => match evE n E x, evE n E y with
      | .string a, .string b => some (a, b, o.dst)
      | _, _ => none
    | _ => none
  | none => none
theorem at_eqs {n : Nat} {todo : List Item} {E : Nat → Value} {w : World} (a b : List UInt8) (dst : Option Tmp) (hc : curEqS n E todo = some (⟨⟨a⟩⟩, ⟨⟨b⟩⟩, dst)) (h : At P f R (popOp todo) (Fr n (updO E dst (.bool (decide (a = b))))) w) : At P f R todo (Fr n E) w := by
  unfold curEqS at hc
  split at hc
  · rename_i o hcur
    split at hc
    · rename_i T x y T' ho
      split at hc
      · rename_i a' b' hx hy
        simp only [Option.some.injEq, Prod.mk.injEq] at hc
        obtain ⟨rfl, rfl, rfl⟩ := hc
        refine at_op o hcur (v := .bool (decide (a = b))) (w' := w) ?_ h
        have e : ((⟨⟨a⟩⟩ : ByteArray) == ⟨⟨b⟩⟩) = decide (a = b) := by
          show ((⟨a⟩ : Array UInt8) == ⟨b⟩) = decide (a = b)
          by_cases hab : a = b
          · subst hab; simp
          · rw [decide_eq_false hab, beq_eq_false_iff_ne]
            intro h2
            exact hab (by injection h2)
        unfold execOp
        simp only [ho, hx, hy]
        unfold binOp Op.stringOp
        rw [beq_toListBytes] at e
        simp only [eqGuard, e]
        rfl
      · cases hc
    · cases hc
  · cases hc
end
variable {w0 : World} {k1 k9 : Nat} {c x : Cmd} {t fs : List UInt8} {R : Ending → World → Prop}
end Go.Proofs.YtdcbnkimjhefkaaGreatDoor

namespace Go.Proofs.YtdcbnkimjhefkaaGreatDoor
open Go.RowKit
set_option maxRecDepth 100000
def isIA : List Item → Bool
  | .inRegion ops (i :: _) :: _ => match ops[i]? with
    | some o => match o.op with
      | .indexAddr _ _ _ => true
      | _ => false
    | none => false
  | _ => false
def cntX : Nat → List Item → Nat
  | 0, _ => 0
  | m + 1, t => match isIA t with
    | true => 0
    | false => match stepT t with
      | some t' => cntX m t' + 1
      | none => 0
noncomputable def advX (t : List Item) : List Item := advT (cntX 90 t) t
def endW : List UInt8 := [101, 110, 100]
variable {w0 : World} {c : Cmd} {R : Ending → World → Prop}
end Go.Proofs.YtdcbnkimjhefkaaGreatDoor

namespace Go.Proofs.YtdcbnkimjhefkaaGreatDoor
open Go.RowKit
set_option maxRecDepth 100000
variable {w0 : World} {k1 k4 : Nat} {c x : Cmd} {s : List UInt8} {R : Ending → World → Prop}
structure CS (w0 : World) (k1 k4 : Nat) (c x : Cmd) (w : World) : Prop where
  bel : Below w0.heap.size w0 w
  h1 : w.heap[k1]? = some (.cells c.cells.toArray 64 (0, 0))
  h4 : w.heap[k4]? = some (.cells x.cells.toArray 64 (0, 0))
  l1 : w0.heap.size ≤ k1
  l4 : k1 < k4
theorem CS.kept {w w' : World} (h : CS w0 k1 k4 c x w) (hb : Below w.heap.size w w') : CS w0 k1 k4 c x w' :=
  ⟨h.bel.trans (hb.mono h.bel.size), (hb.block _ (Array.getElem?_eq_some_iff.1 h.h1).1).trans h.h1, (hb.block _ (Array.getElem?_eq_some_iff.1 h.h4).1).trans h.h4, h.l1, h.l4⟩
theorem CS.ran {w w' : World} {x' : Cmd} {z : Nat} (h : CS w0 k1 k4 c x w) (hL : Lies [k1, k4] w.heap.size w' ⟨z, [⟨k1, 0, c.cells, 64, true⟩, ⟨k4, 0, x'.cells, 64, true⟩], (0, 0), []⟩) (hK : Kept [k1, k4] w.heap.size w w') : CS w0 k1 k4 c x' w' := by
  have := h.l1
  have := h.l4
  exact ⟨h.bel.trans (hK.below h.bel.size (fun k hk => by simp at hk; omega)), own_good (hL.sat.good ⟨k1, 0, c.cells, 64, true⟩ (by simp)), own_good (hL.sat.good ⟨k4, 0, x'.cells, 64, true⟩ (by simp)), h.l1, h.l4⟩
def learnC (c : Cmd) : Cmd := { c with per := 0, wh := 0, torn := 0, stop := 0 }
end Go.Proofs.YtdcbnkimjhefkaaGreatDoor

namespace Go.Proofs.YtdcbnkimjhefkaaGreatDoor
open Go.RowKit
set_option maxRecDepth 100000
end Go.Proofs.YtdcbnkimjhefkaaGreatDoor

namespace Go.Proofs.YtdcbnkimjhefkaaGreatDoor
open Go.RowKit
set_option maxRecDepth 100000
/-- All old blocks but one are as they were. -/
structure But (b : Nat) (w w' : World) : Prop where
  os : w'.os = w.os
  tape : w'.tape = w.tape
  output : w'.output = w.output
  size : w.heap.size ≤ w'.heap.size
  block : ∀ k, k < w.heap.size → k ≠ b → w'.heap[k]? = w.heap[k]?
theorem But.refl (b : Nat) (w : World) : But b w w := ⟨rfl, rfl, rfl, Nat.le_refl _, fun _ _ _ => rfl⟩
theorem But.trans {b : Nat} {u v w : World} (h : But b u v) (k : But b v w) : But b u w :=
  ⟨k.os.trans h.os, k.tape.trans h.tape, k.output.trans h.output, Nat.le_trans h.size k.size, fun i hi hb => (k.block i (Nat.lt_of_lt_of_le hi h.size) hb).trans (h.block i hi hb)⟩
theorem But.of_below {b : Nat} {w w' : World} (h : Below w.heap.size w w') : But b w w' := ⟨h.os, h.tape, h.output, h.size, fun k hk _ => h.block k hk⟩
theorem But.below {b B : Nat} {w w' : World} (h : But b w w') (hB : B ≤ b) (hs : B ≤ w.heap.size) : Below B w w' :=
  ⟨h.os, h.tape, h.output, h.size, fun k hk => h.block k (by omega) (by omega)⟩
theorem But.kept {b : Nat} {u w w' : World} {O : List Nat} (h : But b u w) (hO : ∀ k ∈ O, k = b ∨ u.heap.size ≤ k) (hk : Kept O w.heap.size w w') : But b u w' :=
  ⟨hk.os.trans h.os, hk.tape.trans h.tape, hk.output.trans h.output, Nat.le_trans h.size hk.size, fun k hk1 hb => (hk.block k (Nat.lt_of_lt_of_le hk1 h.size) (fun hm => by have := hO k hm; omega)).trans (h.block k hk1 hb)⟩
/-- A slice of ints that lies below a block. -/
def IntsAt (w : World) (b : Nat) (v : Value) (ns : List Int) : Prop :=
  ∃ A c, v = .slice A ns.length c ∧ ns.length ≤ maxLen ∧ (∀ x ∈ ns, -9223372036854775808 ≤ x ∧ x ≤ 9223372036854775807) ∧
    (0 < ns.length → ∃ g off, A = some ⟨g, off, none⟩ ∧ g < b ∧ ∀ i (h : i < ns.length), w.cell? ⟨g, off + i, none⟩ = some (.int .i64 ns[i]))
theorem heap_lt {w : World} {b : Nat} {o : Obj} (h : w.heap[b]? = some o) : b < w.heap.size := (Array.getElem?_eq_some_iff.1 h).1
theorem IntsAt.keep {w w' : World} {b : Nat} {v : Value} {ns : List Int} (h : IntsAt w b v ns) (hk : ∀ g, g < b → w'.heap[g]? = w.heap[g]?) : IntsAt w' b v ns := by
  obtain ⟨A, c, rfl, h1, h2, h3⟩ := h
  refine ⟨A, c, rfl, h1, h2, fun hn => ?_⟩
  obtain ⟨g, off, rfl, hg, hc⟩ := h3 hn
  exact ⟨g, off, rfl, hg, fun i hi => by rw [World.cell?_of_block (w := w) (hk g hg)]; exact hc i hi⟩
/-- A deck in memory, at most lim numbers behind its beginning. -/
def DeckOk (b : Nat) (ns : List Int) (lim : Nat) (w : World) : Prop :=
  ∃ (v : Value) (k : Nat), k ≤ lim ∧ w.heap[b]? = some (.cells [v, .int .i64 k].toArray 77 (0, 0)) ∧ IntsAt w b v ns
theorem DeckOk.lt {b : Nat} {ns : List Int} {lim : Nat} {w : World} (h : DeckOk b ns lim w) : b < w.heap.size := by
  obtain ⟨v, k, _, hb, _⟩ := h
  exact heap_lt hb
theorem DeckOk.more {b : Nat} {ns : List Int} {lim lim' : Nat} {w : World} (h : DeckOk b ns lim w) (hl : lim ≤ lim') : DeckOk b ns lim' w := by
  obtain ⟨v, k, hk, hb, hi⟩ := h
  exact ⟨v, k, by omega, hb, hi⟩
theorem DeckOk.block {b : Nat} {ns : List Int} {lim : Nat} {w w' : World} (h : DeckOk b ns lim w) (hk : ∀ g, g ≤ b → w'.heap[g]? = w.heap[g]?) : DeckOk b ns lim w' := by
  obtain ⟨v, k, h1, hb, hi⟩ := h
  exact ⟨v, k, h1, (hk b (Nat.le_refl _)).trans hb, hi.keep fun g hg => hk g (by omega)⟩
theorem DeckOk.below {b : Nat} {ns : List Int} {lim : Nat} {w w' : World} (h : DeckOk b ns lim w) (hb : Below w.heap.size w w') : DeckOk b ns lim w' :=
  h.block fun g hg => hb.block g (Nat.lt_of_le_of_lt hg h.lt)
theorem DeckOk.kept {b : Nat} {ns : List Int} {lim : Nat} {w w' : World} {O : List Nat} (h : DeckOk b ns lim w) (hO : ∀ k ∈ O, b < k) (hk : Kept O w.heap.size w w') : DeckOk b ns lim w' :=
  h.block fun g hg => hk.block g (Nat.lt_of_le_of_lt hg h.lt) (fun hm => by have := hO g hm; omega)
/-- What a step of the deck leaves. -/
structure DK (b : Nat) (ns : List Int) (lim : Nat) (w w' : World) : Prop where
  deck : DeckOk b ns lim w'
  but : But b w w'
section
variable {P : Program} {f : FuncId} {R : Ending → World → Prop}
end
abbrev deckE (b : Nat) (A : Option Addr) (len c : Nat) (k : Int) : Ent := ⟨b, 0, [.slice A len c, .int .i64 k], 77, true⟩
end Go.Proofs.YtdcbnkimjhefkaaGreatDoor

namespace Go.Proofs.YtdcbnkimjhefkaaGreatDoor
open Go.RowKit
set_option maxRecDepth 100000
theorem DK.refl {b : Nat} {ns : List Int} {lim : Nat} {w : World} (h : DeckOk b ns lim w) : DK b ns lim w w := ⟨h, .refl _ _⟩
theorem DK.below {b : Nat} {ns : List Int} {lim : Nat} {u w w' : World} (h : DK b ns lim u w) (hb : Below w.heap.size w w') : DK b ns lim u w' := ⟨h.deck.below hb, h.but.trans (.of_below hb)⟩
theorem DK.next {b : Nat} {ns : List Int} {lim lim' : Nat} {u w w' : World} (h : DK b ns lim u w) (k : DK b ns lim' w w') : DK b ns lim' u w' := ⟨k.deck, h.but.trans k.but⟩
theorem DK.lt {b : Nat} {ns : List Int} {lim : Nat} {u w : World} (h : DK b ns lim u w) : b < w.heap.size := h.deck.lt
end Go.Proofs.YtdcbnkimjhefkaaGreatDoor

namespace Go.Proofs.YtdcbnkimjhefkaaGreatDoor
set_option maxRecDepth 100000
/-- A fact's command. -/
def fc (e k d : Int) (nm : List UInt8) (v x r : Int) (t : List UInt8) : Cmd := ⟨1, e, k, d, nm, v, x, r, t, 0, 0, 0, 0⟩
/-- What the deck's commands are. -/
structure GenC (c : Cmd) : Prop where
  wf : c.Wf
  ok : okC c = true
  len : (textC c).length ≤ 1000
  nm : c.nm.length ≤ 60
  txt : c.txt.length ≤ 400
structure GenF (c : Cmd) : Prop where
  gen : GenC c
  kind : c.kind = 1
  learn : learnC c = c
theorem lit_in (n : Int) (h : decide (-9223372036854775808 ≤ n ∧ n ≤ 9223372036854775807) = true) : inR n := by
  have h2 : -9223372036854775808 ≤ n ∧ n ≤ 9223372036854775807 := of_decide_eq_true h
  exact h2
abbrev mid (n : Int) : Prop := -1000000000000000000 ≤ n ∧ n ≤ 1000000000000000000
end Go.Proofs.YtdcbnkimjhefkaaGreatDoor

namespace Go.Proofs.YtdcbnkimjhefkaaGreatDoor
section
variable {P : Program} {ops : Array Oper} {Q : Exit → Act → World → Prop} {md : Region.Mode} {W : Wr} {listed0 : Array Bool} {a0 : Act} {C : Nat → World → Prop} {Ext : World → World → Prop} {L : List Loc} {w0 : World}
end
section
variable {P : Program} {ops : Array Oper} {Q : Exit → Act → World → Prop} {md : Region.Mode} {W : Wr} {listed0 : Array Bool} {n : Nat} {E : Nat → Value} {C : Nat → World → Prop} {Ext : World → World → Prop} {L : List Loc} {w0 : World}
def PartN (P : Program) (ops : Array Oper) (n : Nat) (E : Nat → Value) (W : Wr) (C : Nat → World → Prop) (Ext : World → World → Prop) (L : List Loc) (l : Loc) : Prop :=
  (∀ vs w w', Ext w w' → l.says vs w → l.says vs w') ∧
    ∀ (m : Nat) (vals : Nat → Value) (w : World), C (m + 1) w → heldBy l.before vals w L → OpOk P (ops.getD l.idx default) (evalVE n E W vals) w (fun v w' => C m w' ∧ Ext w w' ∧ l.says (l.deps.map (upv vals l.idx v)) w')
def PartsN (P : Program) (ops : Array Oper) (n : Nat) (E : Nat → Value) (W : Wr) (C : Nat → World → Prop) (Ext : World → World → Prop) (L : List Loc) : List Loc → Prop
  | [] => True
  | l :: r => PartN P ops n E W C Ext L l ∧ PartsN P ops n E W C Ext L r
theorem PartsN.all : ∀ {r : List Loc}, PartsN P ops n E W C Ext L r → ∀ l ∈ r, PartN P ops n E W C Ext L l
  | [], _, l, hl => by cases hl
  | m :: r, h, l, hl => by
    rcases List.mem_cons.1 hl with rfl | hl2
    · exact h.1
    · exact PartsN.all h.2 l hl2
end
end Go.Proofs.YtdcbnkimjhefkaaGreatDoor

namespace Go.Proofs.YtdcbnkimjhefkaaGreatDoor
open Go.RowKit
set_option maxRecDepth 100000
def zeroF : List Value := [.int .i64 0, .int .i64 0, .int .i64 0, .string ⟨⟨[]⟩⟩, .int .i64 0, .int .i64 0, .int .i64 0, .string ⟨⟨[]⟩⟩]
structure FaS (b : Nat) (ns : List Int) (lim : Nat) (w0 : World) (k2 k3 : Nat) (c : Cmd) (w : World) : Prop where
  dk : DK b ns lim w0 w
  h2 : w.heap[k2]? = some (.cells zeroF.toArray 61 (0, 0))
  h3 : w.heap[k3]? = some (.cells c.fact.toArray 61 (0, 0))
  l2 : w0.heap.size ≤ k2
  l3 : k2 < k3
  lb : b < w0.heap.size
variable {b : Nat} {ns : List Int} {lim lim' : Nat} {w0 : World} {k2 k3 : Nat} {c c' : Cmd} {w w' : World} {R : Ending → World → Prop} {E : Nat → Value}
theorem FaS.call (h : FaS b ns lim w0 k2 k3 c w) (D : DK b ns lim' w w') : FaS b ns lim' w0 k2 k3 c w' := by
  have := h.l2
  have := h.l3
  have := h.lb
  exact ⟨h.dk.next D, (D.but.block _ (heap_lt h.h2) (by omega)).trans h.h2, (D.but.block _ (heap_lt h.h3) (by omega)).trans h.h3, h.l2, h.l3, h.lb⟩
theorem FaS.below (h : FaS b ns lim w0 k2 k3 c w) (hb : Below w.heap.size w w') : FaS b ns lim w0 k2 k3 c w' := h.call ⟨h.dk.deck.below hb, .of_below hb⟩
theorem FaS.more (h : FaS b ns lim w0 k2 k3 c w) (hl : lim ≤ lim') : FaS b ns lim' w0 k2 k3 c w := ⟨⟨h.dk.deck.more hl, h.dk.but⟩, h.h2, h.h3, h.l2, h.l3, h.lb⟩
abbrev pb (k : Nat) : Value := .pointer (some ⟨k, 0, none⟩)
abbrev entF (k : Nat) (c : Cmd) : Ent := ⟨k, 0, c.fact, 61, true⟩
abbrev entZ (k : Nat) : Ent := ⟨k, 0, zeroF, 61, true⟩
/-- What Fact leaves. -/
def FactPost (b : Nat) (ns : List Int) (lim : Nat) (w0 : World) (e : Ending) (w : World) : Prop := ∃ c, GenF c ∧ e = .returned (.agg ⟨c.fact⟩) ∧ DK b ns lim w0 w
abbrev envF (b k2 k3 : Nat) : List (Nat × Value) := [(0, pb b), (2, pb k2), (3, pb k3)]
variable {w2 : World}
end Go.Proofs.YtdcbnkimjhefkaaGreatDoor

namespace Go.Proofs.YtdcbnkimjhefkaaGreatDoor
end Go.Proofs.YtdcbnkimjhefkaaGreatDoor

namespace Go.Proofs.YtdcbnkimjhefkaaGreatDoor
open Go.RowKit
set_option maxRecDepth 100000
/-- An operation that stores, by evaluation. -/
theorem OpOk.runs {P : Program} {o : Oper} {ρ : Operand → Value} {w : World} {K : Value → World → Prop} {O : List Nat} {B : Nat} (ms ms' : MS) (r : Next) (v : Value) (hm : mrun P (execOp ρ o) ms = some (r, ms')) (hv : r = .value v ∨ (r = .skip ∧ v = undef)) (hL : Lies O B w ms)
    (he : ms'.eqs.map Prod.fst = ms'.eqs.map Prod.snd) (hk : ∀ w', Lies O B w' ms' → Kept O B w w' → K v w') : OpOk P o ρ w K := by
  have he' : ∀ p ∈ ms'.eqs, p.1 = p.2 := fun p hp => by
    obtain ⟨i, hi⟩ := List.mem_iff_getElem?.1 hp
    have h1 : (ms'.eqs.map Prod.fst)[i]? = some p.1 := by rw [List.getElem?_map, hi]; rfl
    have h2 : (ms'.eqs.map Prod.snd)[i]? = some p.2 := by rw [List.getElem?_map, hi]; rfl
    rw [he, h2] at h1
    exact (Option.some.inj h1).symm
  obtain ⟨w', h1, h2, h3, h4⟩ := mrun_sound _ _ _ _ w hm hL.sat hL.le hL.own he'
  have hk' := hk w' ⟨h2, Nat.le_trans hL.le h3.size, h4⟩ h3
  unfold OpOk
  rw [h1]
  rcases hv with rfl | ⟨rfl, rfl⟩
  · exact hk'
  · exact hk'
def tgC (c : Cmd) (j : Nat) : Value := if j = 0 then .int .u64 c.wh else if j = 1 then .int .i64 c.torn else .int .i64 c.stop
def saysC (c : Cmd) (k4 j : Nat) (w : World) : Prop := w.cell? ⟨k4, 10 + j, none⟩ = some (tgC c j)
def Ext21 (c : Cmd) (k4 : Nat) (w w' : World) : Prop := ∀ j, j < 3 → saysC c k4 j w → saysC c k4 j w'
theorem Ext21.refl (c : Cmd) (k4 : Nat) (w : World) : Ext21 c k4 w w := fun _ _ h => h
variable {w0 : World} {k1 k4 : Nat} {c : Cmd} {R : Ending → World → Prop} {E : Nat → Value}
end Go.Proofs.YtdcbnkimjhefkaaGreatDoor

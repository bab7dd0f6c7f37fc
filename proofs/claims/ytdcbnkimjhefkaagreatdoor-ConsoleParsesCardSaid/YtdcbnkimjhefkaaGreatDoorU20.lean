/-
 The reference's Format, given command's contract.
 paygen's deck of numbers: what it is in memory; New, Left, Next, Pick.
 paygen: one of some numbers, the agreements' texts, a day, the command that learns a fact.
 paygen: the facts that the deck draws are printable.
-/
import Derived.Test.YtdcbnkimjhefkaaGreatDoorU19
namespace Go.Proofs.YtdcbnkimjhefkaaGreatDoor
open Go.RowKit
set_option maxRecDepth 100000
noncomputable def codeRf : Code := Tryz.f14.body.getD .skip
noncomputable def tR0 : List Item := advT 60 [.code codeRf]
noncomputable def tR1 : List Item := advT 60 (bodyT tR0)
noncomputable def tR2 : List Item := advX (thenT tR1)
noncomputable def tR3 : List Item := advG (popOp (popOp (popOp tR2)))
noncomputable def tR4 : List Item := advT 60 (tailT tR3)
noncomputable def tR5 : List Item := advP (elseT tR4)
def fmtR (f : Cmd → List UInt8 × Bool) : List UInt8 → List Cmd → Option (List UInt8)
 | acc, [] => some acc
 | acc, c :: l => if (f c).2 = true ∧ acc.length + (f c).1.length ≤ 65536 then fmtR f (acc ++ (f c).1) l else none
theorem rformat_any (f : Cmd → List UInt8 × Bool) (hf : ∀ c : Cmd, c.Wf → (f c).1.length ≤ 1125899906842624 ∧ ∀ w, Calls Tryz.prog 29 #[.agg ⟨c.cells⟩] w fun e w' => e = .returned (.tuple #[.string ⟨⟨(f c).1⟩⟩, .bool (f c).2]) ∧ Below w.heap.size w w')
  (l : List Cmd) (v : Value) (w : World) (hl : ∀ c ∈ l, c.Wf) (hv : CmdsAt w w.heap.size v l) (hn : l.length ≤ 9223372036854775806) :
  Calls Tryz.prog 14 #[v] w fun e w' => e = .returned (fmtV (fmtR f [] l)) ∧ Below w.heap.size w w' := by
 obtain ⟨a, cap, rfl, hcells⟩ := hv
 refine calls_at (args := [.slice a l.length cap]) (fn := Tryz.f14) (c := codeRf) (n := 36) (by kernel_rfl) (by kernel_rfl) (by kernel_rfl) (by kernel_rfl) ?_
 refine at_run 60 [.code codeRf] w.heap.size [] [] tR0 [(0, .slice a l.length cap), (4, .string ⟨⟨[]⟩⟩), (5, .int .i64 0)] w.heap.size [] (lies_nil w) (by kernel_rfl) fun w1 E1 hL1 hK1 => ?_
 have B1 : Below w.heap.size w w1 := hK1.below (Nat.le_refl _) (fun k hk => by cases hk)
 refine at_loop (by kernel_rfl) (fun E wx => ∃ (i : Nat) (acc : List UInt8) (E0 : Nat → Value), i ≤ l.length ∧ E = updL E0 [(0, .slice a l.length cap), (4, .string ⟨⟨acc⟩⟩), (5, .int .i64 (i : Int))] ∧ acc.length ≤ 65536 ∧ fmtR f [] l = fmtR f acc (l.drop i) ∧ Below w.heap.size w wx)
  (fun E _ => l.length - idxOf (E 5)) ⟨0, [], E1, Nat.zero_le _, rfl, Nat.zero_le _, rfl, B1⟩ ?_
 rintro E wx ⟨i, acc, E0, hi, rfl, hal, hfm, B⟩ hagain
 refine at_run 60 (bodyT tR0) wx.heap.size [] [] tR1 [(0, .slice a l.length cap), (4, .string ⟨⟨acc⟩⟩), (5, .int .i64 (i : Int)), (11, .bool (decide ((i : Int) < (l.length : Int))))] wx.heap.size [] (lies_nil wx) (by kernel_rfl) fun w2 E2 hL2 hK2 => ?_
 have B2 := B.trans ((hK2.below (Nat.le_refl _) (fun k hk => by cases hk) : Below wx.heap.size wx w2).mono B.size)
 refine at_cond (decide ((i : Int) < (l.length : Int))) (by kernel_rfl) (fun ht => ?_) (fun hff => ?_)
 ·have hlt : i < l.length := by have := of_decide_eq_true ht; omega
  have hne : l ≠ [] := fun e => by rw [e] at hlt; exact absurd hlt (Nat.not_lt_zero _)
  obtain ⟨g, off, rfl, hgl, hcell⟩ := hcells hne
  have hci := hcell i hlt
  have hwf := hl l[i] (List.getElem_mem hlt)
  have hdrop : l.drop i = l[i] :: l.drop (i + 1) := (List.getElem_cons_drop hlt).symm
  generalize l[i] = c at hci hwf hdrop
  rw [hdrop] at hfm
  obtain ⟨hsz, hcmd⟩ := hf c hwf
  refine at_run (cntX 90 (thenT tR1)) (thenT tR1) w2.heap.size [] [] tR2 [(0, .slice (some ⟨g, off, none⟩) l.length cap), (4, .string ⟨⟨acc⟩⟩), (5, .int .i64 (i : Int)), (15, .slice (some ⟨g, off, none⟩) l.length cap), (16, .int .i64 (i : Int))] w2.heap.size [] (lies_nil w2) (by kernel_rfl) fun w3 E3 hL3 hK3 => ?_
  have B3 := B2.trans ((hK3.below (Nat.le_refl _) (fun k hk => by cases hk) : Below w2.heap.size w2 w3).mono B2.size)
  refine at_elem (g := g) (off := off) (cap := cap) (sz := 13) (k := i) (some 17) (by kernel_rfl) hlt Tryz.underlying50 (by kernel_rfl) ?_
  have hr3 : w3.rangeAt g (off + i * 13) c.cells := fun j x hj => (World.cell?_of_block (B3.block _ hgl)).trans (hci j x hj)
  refine at_load 64 g (off + i * 13) c.cells (some 18) (by kernel_rfl) (by kernel_rfl) (by kernel_rfl) hr3 ?_
  refine at_call 29 [.tmp 18] (some 19) [.agg ⟨c.cells⟩] (by kernel_rfl) (by kernel_rfl) (by kernel_rfl) ((hcmd w3).mono fun e w4 hh => ?_)
  obtain ⟨rfl, b4⟩ := hh
  refine ⟨_, rfl, ?_⟩
  have B4 := B3.trans (b4.mono B3.size)
  simp only [fmtR] at hfm
  generalize (f c).1 = s at *
  generalize (f c).2 = ok at *
  refine at_run (cntG 90 (popOp (popOp (popOp tR2)))) (popOp (popOp (popOp tR2))) w4.heap.size [] [] tR3 [(0, .slice (some ⟨g, off, none⟩) l.length cap), (4, .string ⟨⟨acc⟩⟩), (5, .int .i64 (i : Int)), (6, .string ⟨⟨s⟩⟩), (7, .bool ok)] w4.heap.size [] (lies_nil w4) (by kernel_rfl) fun w5 E5 hL5 hK5 => ?_
  have B5 := B4.trans ((hK5.below (Nat.le_refl _) (fun k hk => by cases hk) : Below w4.heap.size w4 w5).mono B4.size)
  have hw5 : w.heap.size ≤ w5.heap.size := B5.size
  refine at_ghost ((curReg tR3).getD #[]) ⟨[], [], []⟩ [(0, .slice (some ⟨g, off, none⟩) l.length cap), (4, .string ⟨⟨acc⟩⟩), (5, .int .i64 (i : Int)), (6, .string ⟨⟨s⟩⟩), (31, .bool (cond (!ok) true (decide ((65536 : Int) < IntKind.i64.wrap ((acc.length : Int) + (s.length : Int))))))] (by kernel_rfl) (by kernel_rfl) (by kernel_rfl) (fun e he => (by cases he)) (fun sp hsp => (by cases hsp)) (fun X => by kernel_rfl) (by kernel_rfl) fun w6 E6 b6 => ?_
  have hwr : IntKind.i64.wrap ((acc.length : Int) + (s.length : Int)) = ((acc.length + s.length : Nat) : Int) := by
   rw [IntWalk.i64_in _ (by omega)]
   omega
  rw [hwr]
  have B6 := B5.trans (b6.mono B5.size)
  refine at_run 60 (tailT tR3) w6.heap.size [] [] tR4 [(0, .slice (some ⟨g, off, none⟩) l.length cap), (4, .string ⟨⟨acc⟩⟩), (5, .int .i64 (i : Int)), (6, .string ⟨⟨s⟩⟩), (31, .bool (cond (!ok) true (decide ((65536 : Int) < ((acc.length + s.length : Nat) : Int)))))] w6.heap.size [] (lies_nil w6) (by kernel_rfl) fun w7 E7 hL7 hK7 => ?_
  have B7 := B6.trans ((hK7.below (Nat.le_refl _) (fun k hk => by cases hk) : Below w6.heap.size w6 w7).mono B6.size)
  by_cases hgood : ok = true ∧ acc.length + s.length ≤ 65536
  ·have hc : cond (!ok) true (decide ((65536 : Int) < ((acc.length + s.length : Nat) : Int))) = false := by
    rw [hgood.1, decide_eq_false (by omega)]
    rfl
   rw [hc]
   rw [if_pos hgood] at hfm
   refine at_cond false (by kernel_rfl) (fun h => nomatch h) fun _ => ?_
   refine at_run (cntP 90 (elseT tR4)) (elseT tR4) w7.heap.size [] [] tR5 [(0, .slice (some ⟨g, off, none⟩) l.length cap), (5, .int .i64 (i : Int)), (32, .string ⟨⟨acc⟩⟩), (33, .string ⟨⟨s⟩⟩)] w7.heap.size [] (lies_nil w7) (by kernel_rfl) fun w8 E8 hL8 hK8 => ?_
   have B8 := B7.trans ((hK8.below (Nat.le_refl _) (fun k hk => by cases hk) : Below w7.heap.size w7 w8).mono B7.size)
   refine at_addL acc s (some 34) (by kernel_rfl) (by omega) ?_
   refine at_run 60 (popOp tR5) w8.heap.size [] [] (againT tR0) [(0, .slice (some ⟨g, off, none⟩) l.length cap), (4, .string ⟨⟨acc ++ s⟩⟩), (5, .int .i64 (IntKind.i64.wrap ((i : Int) + 1)))] w8.heap.size [] (lies_nil w8) (by kernel_rfl) fun w9 E9 hL9 hK9 => ?_
   have hw : IntKind.i64.wrap ((i : Int) + 1) = ((i + 1 : Nat) : Int) := by
    rw [IntWalk.i64_in _ (by omega)]
    omega
   rw [hw]
   refine hagain _ _ ⟨i + 1, acc ++ s, E9, hlt, rfl, by rw [List.length_append]; exact hgood.2, hfm, B8.trans ((hK9.below (Nat.le_refl _) (fun k hk => by cases hk) : Below w8.heap.size w8 w9).mono B8.size)⟩ ?_
   show l.length - idxOf (.int .i64 ((i + 1 : Nat) : Int)) < l.length - idxOf (.int .i64 (i : Int))
   simp only [idxOf, Int.toNat_natCast]
   omega
  ·have hc : cond (!ok) true (decide ((65536 : Int) < ((acc.length + s.length : Nat) : Int))) = true := by
    cases ok with
    | false => rfl
    | true =>
     show decide ((65536 : Int) < ((acc.length + s.length : Nat) : Int)) = true
     refine decide_eq_true ?_
     have : ¬ acc.length + s.length ≤ 65536 := fun h => hgood ⟨rfl, h⟩
     omega
   rw [hc]
   rw [if_neg hgood] at hfm
   refine at_cond true (by kernel_rfl) (fun _ => ?_) (fun h => nomatch h)
   refine at_endT (fn := Tryz.f14) 60 (fmtV none) (by kernel_rfl) (by kernel_rfl) fun w8 B8 => ?_
   rw [hfm]
   exact ⟨rfl, B7.trans (B8.mono B7.size)⟩
 ·have hil : i = l.length := by have := of_decide_eq_false hff; omega
  have hres : fmtR f [] l = some acc := by rw [hfm, hil, List.drop_length]; rfl
  refine at_endT (fn := Tryz.f14) 60 (fmtV (some acc)) (by kernel_rfl) (by kernel_rfl) fun w5 B5 => ?_
  rw [hres]
  exact ⟨rfl, B2.trans (B5.mono B2.size)⟩
end Go.Proofs.YtdcbnkimjhefkaaGreatDoor

namespace Go.Proofs.YtdcbnkimjhefkaaGreatDoor
open Go.RowKit
set_option maxRecDepth 100000
structure But (b : Nat) (w w' : World) : Prop where
 os : w'.os = w.os
 tape : w'.tape = w.tape
 output : w'.output = w.output
 size : w.heap.size ≤ w'.heap.size
 block : ∀ k, k < w.heap.size → k ≠ b → w'.heap[k]? = w.heap[k]?
theorem But.refl (b : Nat) (w : World) : But b w w := ⟨rfl, rfl, rfl, Nat.le_refl _, fun _ _ _ => rfl⟩
theorem But.trans {b : Nat} {u v w : World} (h : But b u v) (k : But b v w) : But b u w :=
 ⟨k.os.trans h.os, k.tape.trans h.tape, k.output.trans h.output, Nat.le_trans h.size k.size, fun i hi hb => (k.block i (Nat.lt_of_lt_of_le hi h.size) hb).trans (h.block i hi hb)⟩
theorem But.of_below {b : Nat} {w w' : World} (h : Below w.heap.size w w') : But b w w' := ⟨h.os, h.tape, h.output, h.size, fun k hk _ => h.block k hk⟩
theorem But.below {b B : Nat} {w w' : World} (h : But b w w') (hB : B ≤ b) (hs : B ≤ w.heap.size) : Below B w w' :=
 ⟨h.os, h.tape, h.output, h.size, fun k hk => h.block k (by omega) (by omega)⟩
theorem But.kept {b : Nat} {u w w' : World} {O : List Nat} (h : But b u w) (hO : ∀ k ∈ O, k = b ∨ u.heap.size ≤ k) (hk : Kept O w.heap.size w w') : But b u w' :=
 ⟨hk.os.trans h.os, hk.tape.trans h.tape, hk.output.trans h.output, Nat.le_trans h.size hk.size, fun k hk1 hb => (hk.block k (Nat.lt_of_lt_of_le hk1 h.size) (fun hm => by have := hO k hm; omega)).trans (h.block k hk1 hb)⟩
def IntsAt (w : World) (b : Nat) (v : Value) (ns : List Int) : Prop :=
 ∃ A c, v = .slice A ns.length c ∧ ns.length ≤ maxLen ∧ (∀ x ∈ ns, -9223372036854775808 ≤ x ∧ x ≤ 9223372036854775807) ∧
  (0 < ns.length → ∃ g off, A = some ⟨g, off, none⟩ ∧ g < b ∧ ∀ i (h : i < ns.length), w.cell? ⟨g, off + i, none⟩ = some (.int .i64 ns[i]))
theorem heap_lt {w : World} {b : Nat} {o : Obj} (h : w.heap[b]? = some o) : b < w.heap.size := (Array.getElem?_eq_some_iff.1 h).1
theorem IntsAt.keep {w w' : World} {b : Nat} {v : Value} {ns : List Int} (h : IntsAt w b v ns) (hk : ∀ g, g < b → w'.heap[g]? = w.heap[g]?) : IntsAt w' b v ns := by
 obtain ⟨A, c, rfl, h1, h2, h3⟩ := h
 refine ⟨A, c, rfl, h1, h2, fun hn => ?_⟩
 obtain ⟨g, off, rfl, hg, hc⟩ := h3 hn
 exact ⟨g, off, rfl, hg, fun i hi => by rw [World.cell?_of_block (w := w) (hk g hg)]; exact hc i hi⟩
def DeckOk (b : Nat) (ns : List Int) (lim : Nat) (w : World) : Prop :=
 ∃ (v : Value) (k : Nat), k ≤ lim ∧ w.heap[b]? = some (.cells [v, .int .i64 k].toArray 77 (0, 0)) ∧ IntsAt w b v ns
theorem DeckOk.lt {b : Nat} {ns : List Int} {lim : Nat} {w : World} (h : DeckOk b ns lim w) : b < w.heap.size := by
 obtain ⟨v, k, _, hb, _⟩ := h
 exact heap_lt hb
theorem DeckOk.more {b : Nat} {ns : List Int} {lim lim' : Nat} {w : World} (h : DeckOk b ns lim w) (hl : lim ≤ lim') : DeckOk b ns lim' w := by
 obtain ⟨v, k, hk, hb, hi⟩ := h
 exact ⟨v, k, by omega, hb, hi⟩
theorem DeckOk.block {b : Nat} {ns : List Int} {lim : Nat} {w w' : World} (h : DeckOk b ns lim w) (hk : ∀ g, g ≤ b → w'.heap[g]? = w.heap[g]?) : DeckOk b ns lim w' := by
 obtain ⟨v, k, h1, hb, hi⟩ := h
 exact ⟨v, k, h1, (hk b (Nat.le_refl _)).trans hb, hi.keep fun g hg => hk g (by omega)⟩
theorem DeckOk.below {b : Nat} {ns : List Int} {lim : Nat} {w w' : World} (h : DeckOk b ns lim w) (hb : Below w.heap.size w w') : DeckOk b ns lim w' :=
 h.block fun g hg => hb.block g (Nat.lt_of_le_of_lt hg h.lt)
theorem DeckOk.kept {b : Nat} {ns : List Int} {lim : Nat} {w w' : World} {O : List Nat} (h : DeckOk b ns lim w) (hO : ∀ k ∈ O, b < k) (hk : Kept O w.heap.size w w') : DeckOk b ns lim w' :=
 h.block fun g hg => hk.block g (Nat.lt_of_le_of_lt hg h.lt) (fun hm => by have := hO g hm; omega)
structure DK (b : Nat) (ns : List Int) (lim : Nat) (w w' : World) : Prop where
 deck : DeckOk b ns lim w'
 but : But b w w'
theorem exec_rem {P : Program} {o : Oper} {ρ : Operand → Value} {w : World} {T T' : TypeId} {x y : Operand} {a b : Int} (hop : o.op = .binOp .rem T x y T') (hx : ρ x = .int .i64 a) (hy : ρ y = .int .i64 b) (hb : b ≠ 0) : (execOp ρ o).run P w = .ok (.value (.int .i64 (a.tmod b))) w := by
 unfold execOp
 simp [hop, hx, hy, binOp, Op.intDiv, hb, eqGuard]
section
variable {P : Program} {f : FuncId} {R : Ending → World → Prop}
def curRem (n : Nat) (E : Nat → Value) (todo : List Item) : Option (Value × Value × Option Tmp) := match curOp n E todo with
 | some o => match o.op with
  | .binOp .rem _ x y _ => some (evE n E x, evE n E y, o.dst)
  | _ => none
 | none => none
theorem at_rem {n : Nat} {todo : List Item} {E : Nat → Value} {w : World} (a b : Int) (dst : Option Tmp) (hc : curRem n E todo = some (.int .i64 a, .int .i64 b, dst)) (hb : b ≠ 0) (h : At P f R (popOp todo) (Fr n (updO E dst (.int .i64 (a.tmod b)))) w) : At P f R todo (Fr n E) w := by
 unfold curRem at hc
 split at hc
 ·rename_i o hcur
  split at hc
  ·rename_i T x y T' ho
   simp only [Option.some.injEq, Prod.mk.injEq] at hc
   obtain ⟨hx, hy, rfl⟩ := hc
   exact at_op o hcur (exec_rem ho hx hy hb) h
  ·cases hc
 ·cases hc
end
noncomputable def codeNx : Code := Tryz.f32.body.getD .skip
noncomputable def tN0 : List Item := advT 60 [.code codeNx]
noncomputable def tN1 : List Item := advT 60 (tailT tN0)
noncomputable def tN2 : List Item := advT 60 (thenT tN1)
noncomputable def tN3 : List Item := advT 16 (elseT tN1)
noncomputable def tN4 : List Item := advT 60 (popOp tN3)
abbrev deckE (b : Nat) (A : Option Addr) (len c : Nat) (k : Int) : Ent := ⟨b, 0, [.slice A len c, .int .i64 k], 77, true⟩
theorem dnext_tail {R : Ending → World → Prop} {b : Nat} {w : World} {E : Nat → Value} (n v : Int) (hn : 1 ≤ n) (hn2 : n ≤ 4611686018427387904)
  (hk : ∀ (k : Nat) (w' : World), (k : Int) < n → Below w.heap.size w w' → R (.returned (.int .i64 k)) w') :
  At Tryz.prog 32 R tN3 (Fr 48 (updL E [(0, .pointer (some ⟨b, 0, none⟩)), (1, .int .i64 n), (39, .int .i64 v), (40, .int .i64 n)])) w := by
 refine at_rem v n (some 41) (by kernel_rfl) (by omega) ?_
 have hm1 : v.tmod n < n := Int.tmod_lt_of_pos v (by omega)
 have hm0 : -n < v.tmod n := by have := Int.lt_tmod_of_pos v (show 0 < n by omega); exact this
 generalize v.tmod n = r at *
 refine at_run 60 (popOp tN3) w.heap.size [] [] tN4 [(1, .int .i64 n), (5, .int .i64 r), (43, .bool (decide (r < 0)))] w.heap.size [] (lies_nil w) (by kernel_rfl) fun w1 E1 hL1 hK1 => ?_
 have B1 : Below w.heap.size w w1 := hK1.below (Nat.le_refl _) (fun k hk => by cases hk)
 refine at_cond (decide (r < 0)) (by kernel_rfl) (fun hr => ?_) (fun hr => ?_)
 ·have hr' : r < 0 := of_decide_eq_true hr
  obtain ⟨k, hke⟩ := Int.eq_ofNat_of_zero_le (show 0 ≤ r + n by omega)
  have hw : IntKind.i64.wrap (r + n) = (k : Int) := by rw [hke]; exact IntWalk.i64_in _ (by omega)
  refine at_endT (fn := Tryz.f32) 60 (.int .i64 (IntKind.i64.wrap (r + n))) (by kernel_rfl) (by kernel_rfl) fun w2 B2 => ?_
  rw [hw]
  exact hk k w2 (by omega) (B1.trans (B2.mono B1.size))
 ·have hr' : ¬ r < 0 := of_decide_eq_false hr
  obtain ⟨k, hke⟩ := Int.eq_ofNat_of_zero_le (show 0 ≤ r by omega)
  refine at_endT (fn := Tryz.f32) 60 (.int .i64 r) (by kernel_rfl) (by kernel_rfl) fun w2 B2 => ?_
  rw [hke]
  exact hk k w2 (by omega) (B1.trans (B2.mono B1.size))
theorem dnext_any (b : Nat) (ns : List Int) (lim : Nat) (n : Int) (w : World) (h : DeckOk b ns lim w) (hlim : lim ≤ 4611686018427387904) (hn : 1 ≤ n) (hn2 : n ≤ 4611686018427387904) :
  Calls Tryz.prog 32 #[.pointer (some ⟨b, 0, none⟩), .int .i64 n] w fun e w' => ∃ k : Nat, (k : Int) < n ∧ e = .returned (.int .i64 k) ∧ DK b ns (lim + 1) w w' := by
 have hlt := h.lt
 obtain ⟨v, k, hk, hb, A, c, rfl, hm, hx, hc⟩ := h
 have hI : IntsAt w b (.slice A ns.length c) ns := ⟨A, c, rfl, hm, hx, hc⟩
 refine calls_at (args := [.pointer (some ⟨b, 0, none⟩), .int .i64 n]) (fn := Tryz.f32) (c := codeNx) (n := 48) (by kernel_rfl) (by kernel_rfl) (by kernel_rfl) (by kernel_rfl) ?_
 refine at_run 60 [.code codeNx] w.heap.size [deckE b A ns.length c k] [(0, 1)] tN0 [(0, .pointer (some ⟨b, 0, none⟩)), (1, .int .i64 n), (5, .int .i64 (IntKind.i64.wrap (IntKind.i64.wrap (5 * (k : Int)) + 2)))] w.heap.size [deckE b A ns.length c k] (lies_one hb) (by kernel_rfl) fun w1 E1 hL1 hK1 => ?_
 have hb1 := own_good (hL1.sat.good _ (List.mem_singleton.2 rfl))
 have U1 : But b w w1 := (But.refl b w).kept (fun k hk => .inl (List.mem_singleton.1 hk)) hK1
 generalize IntKind.i64.wrap (IntKind.i64.wrap (5 * (k : Int)) + 2) = v0
 refine at_ghost ((curReg tN0).getD #[]) ⟨[deckE b A ns.length c k], [(3, 0, 1), (7, 0, 0)], []⟩ [(0, .pointer (some ⟨b, 0, none⟩)), (1, .int .i64 n), (5, .int .i64 v0), (21, .bool (decide ((k : Int) < (ns.length : Int))))] (by kernel_rfl) (by kernel_rfl) (by kernel_rfl)
  (fun e he => by rw [List.mem_singleton.1 he]; exact good_own hb1) (fun sp hsp => by cases hsp) (fun X => by kernel_rfl) (by kernel_rfl) fun w2 E2 b2 => ?_
 have U2 := U1.trans (.of_below b2)
 have hb2 := (b2.block _ (heap_lt hb1)).trans hb1
 refine at_run 60 (tailT tN0) w2.heap.size [] [] tN1 [(0, .pointer (some ⟨b, 0, none⟩)), (1, .int .i64 n), (5, .int .i64 v0), (21, .bool (decide ((k : Int) < (ns.length : Int))))] w2.heap.size [] (lies_nil w2) (by kernel_rfl) fun w3 E3 hL3 hK3 => ?_
 have b3 : Below w2.heap.size w2 w3 := hK3.below (Nat.le_refl _) (fun k hk => by cases hk)
 have U3 := U2.trans (.of_below b3)
 have hb3 := (b3.block _ (heap_lt hb2)).trans hb2
 have hw1 : IntKind.i64.wrap ((k : Int) + 1) = ((k + 1 : Nat) : Int) := by rw [IntWalk.i64_in _ (by omega)]; omega
 have last : ∀ (v1 : Int) (E : Nat → Value) (wx : World), But b w wx → wx.heap[b]? = some (.cells [.slice A ns.length c, .int .i64 ((k + 1 : Nat) : Int)].toArray 77 (0, 0)) →
   At Tryz.prog 32 (fun e w' => ∃ k : Nat, (k : Int) < n ∧ e = .returned (.int .i64 k) ∧ DK b ns (lim + 1) w w') tN3 (Fr 48 (updL E [(0, .pointer (some ⟨b, 0, none⟩)), (1, .int .i64 n), (39, .int .i64 v1), (40, .int .i64 n)])) wx := by
  intro v1 E wx U hbx
  refine dnext_tail n v1 hn hn2 fun k' w' hk' B' => ⟨k', hk', rfl, ?_, U.trans (.of_below B')⟩
  refine ⟨_, k + 1, by omega, (B'.block _ (heap_lt hbx)).trans hbx, hI.keep fun g hg => ?_⟩
  exact (U.trans (.of_below B')).block g (by omega) (by omega)
 refine at_cond (decide ((k : Int) < (ns.length : Int))) (by kernel_rfl) (fun ht => ?_) (fun _ => ?_)
 ·have hlk : k < ns.length := by have := of_decide_eq_true ht; omega
  obtain ⟨g, off, rfl, hg, hcell⟩ := hc (by omega)
  have hck := hcell k hlk
  generalize ns[k] = x at hck
  refine at_run 60 (thenT tN1) w3.heap.size [] [] tN2 [(0, .pointer (some ⟨b, 0, none⟩)), (1, .int .i64 n)] w3.heap.size [] (lies_nil w3) (by kernel_rfl) fun w4 E4 hL4 hK4 => ?_
  have b4 : Below w3.heap.size w3 w4 := hK4.below (Nat.le_refl _) (fun k hk => by cases hk)
  have U4 := U3.trans (.of_below b4)
  have hb4 := (b4.block _ (heap_lt hb3)).trans hb3
  have hck4 : w4.cell? ⟨g, off + k * 1, none⟩ = some (.int .i64 x) := by rw [Nat.mul_one, World.cell?_of_block (w := w) (U4.block g (by omega) (by omega))]; exact hck
  have hg4 : g < w4.heap.size := Nat.lt_of_lt_of_le (by omega) U4.size
  refine at_ghost ((curReg tN2).getD #[]) ⟨[deckE b (some ⟨g, off, none⟩) ns.length c k, ⟨g, off + k * 1, [.int .i64 x], 0, false⟩], [(3, 0, 0), (7, 0, 1), (9, 1, 0)], [⟨8, [(25, .slice (some ⟨g, off, none⟩) ns.length c), (29, .int .i64 k)], .pointer (some ⟨g, off + k * 1, none⟩), true⟩]⟩ [(0, .pointer (some ⟨b, 0, none⟩)), (1, .int .i64 n), (5, .int .i64 x)] (by kernel_rfl) (by kernel_rfl) (by kernel_rfl)
   (fun e he => ?_) (fun sp hsp => ?_) (fun X => by kernel_rfl) (by kernel_rfl) fun w5 E5 b5 => ?_
  ·simp only [List.mem_cons, List.not_mem_nil, or_false] at he
   rcases he with rfl | rfl
   ·exact good_own hb4
   ·refine ⟨hg4, fun j v hj => ?_⟩
    cases j with
    | zero => cases hj; exact hck4
    | succ j => cases hj
  ·rw [List.mem_singleton.1 hsp]
   refine spec_op fun _ E w _ => ?_
   exact exec_index (sz := 1) (cap := c) 44 (.tmp 25) (.tmp 29) (by kernel_rfl) (by kernel_rfl) (by kernel_rfl) hlk Tryz.underlying44 (by kernel_rfl)
  have U5 := U4.trans (.of_below b5)
  have hb5 := (b5.block _ (heap_lt hb4)).trans hb4
  refine at_run 15 (tailT tN2) w5.heap.size [deckE b (some ⟨g, off, none⟩) ns.length c k] [(0, 1), (0, 1)] tN3 [(0, .pointer (some ⟨b, 0, none⟩)), (1, .int .i64 n), (39, .int .i64 x), (40, .int .i64 n)] w5.heap.size [deckE b (some ⟨g, off, none⟩) ns.length c (IntKind.i64.wrap ((k : Int) + 1))] (lies_one hb5) (by kernel_rfl) fun w6 E6 hL6 hK6 => ?_
  have hb6 := own_good (hL6.sat.good _ (List.mem_singleton.2 rfl))
  rw [hw1] at hb6
  exact last x E6 w6 (U5.kept (fun k hk => .inl (List.mem_singleton.1 hk)) hK6) hb6
 ·refine at_run 16 (elseT tN1) w3.heap.size [deckE b A ns.length c k] [(0, 1), (0, 1)] tN3 [(0, .pointer (some ⟨b, 0, none⟩)), (1, .int .i64 n), (39, .int .i64 v0), (40, .int .i64 n)] w3.heap.size [deckE b A ns.length c (IntKind.i64.wrap ((k : Int) + 1))] (lies_one hb3) (by kernel_rfl) fun w6 E6 hL6 hK6 => ?_
  have hb6 := own_good (hL6.sat.good _ (List.mem_singleton.2 rfl))
  rw [hw1] at hb6
  exact last v0 E6 w6 (U3.kept (fun k hk => .inl (List.mem_singleton.1 hk)) hK6) hb6
noncomputable def codeNw : Code := Tryz.f13.body.getD .skip
theorem dnew_any (v : Value) (ns : List Int) (w : World) (h : IntsAt w w.heap.size v ns) :
  Calls Tryz.prog 13 #[v] w fun e w' => e = .returned (.pointer (some ⟨w.heap.size, 0, none⟩)) ∧ DeckOk w.heap.size ns 0 w' ∧ Below w.heap.size w w' := by
 have hI := h
 obtain ⟨A, c, rfl, hm, hx, hc⟩ := h
 refine calls_at (args := [.slice A ns.length c]) (fn := Tryz.f13) (c := codeNw) (n := 6) (by kernel_rfl) (by kernel_rfl) (by kernel_rfl) (by kernel_rfl) ?_
 refine at_run 60 [.code codeNw] w.heap.size [] [] (advT 60 [.code codeNw]) [(2, .pointer (some ⟨w.heap.size, 0, none⟩))] (w.heap.size + 1) [deckE w.heap.size A ns.length c 0] (lies_nil w) (by kernel_rfl) fun w1 E1 hL1 hK1 => ?_
 have hb1 := own_good (hL1.sat.good _ (List.mem_singleton.2 rfl))
 have B1 : Below w.heap.size w w1 := hK1.below (Nat.le_refl _) (fun k hk => by cases hk)
 refine at_endT (fn := Tryz.f13) 10 (.pointer (some ⟨w.heap.size, 0, none⟩)) (by kernel_rfl) (by kernel_rfl) fun w2 B2 => ⟨rfl, ⟨_, 0, Nat.le_refl _, (B2.block _ (heap_lt hb1)).trans hb1, hI.keep fun g hg => ?_⟩, B1.trans (B2.mono B1.size)⟩
 exact (B1.trans (B2.mono B1.size)).block g hg
noncomputable def codeLe : Code := Tryz.f31.body.getD .skip
noncomputable def tLe0 : List Item := advT 60 [.code codeLe]
end Go.Proofs.YtdcbnkimjhefkaaGreatDoor

namespace Go.Proofs.YtdcbnkimjhefkaaGreatDoor
open Go.RowKit
set_option maxRecDepth 100000
theorem DK.refl {b : Nat} {ns : List Int} {lim : Nat} {w : World} (h : DeckOk b ns lim w) : DK b ns lim w w := ⟨h, .refl _ _⟩
theorem DK.below {b : Nat} {ns : List Int} {lim : Nat} {u w w' : World} (h : DK b ns lim u w) (hb : Below w.heap.size w w') : DK b ns lim u w' := ⟨h.deck.below hb, h.but.trans (.of_below hb)⟩
theorem DK.next {b : Nat} {ns : List Int} {lim lim' : Nat} {u w w' : World} (h : DK b ns lim u w) (k : DK b ns lim' w w') : DK b ns lim' u w' := ⟨k.deck, h.but.trans k.but⟩
theorem DK.lt {b : Nat} {ns : List Int} {lim : Nat} {u w : World} (h : DK b ns lim u w) : b < w.heap.size := h.deck.lt
noncomputable def codePk : Code := Tryz.f59.body.getD .skip
noncomputable def tPk0 : List Item := advT 60 [.code codePk]
theorem dpick_any (b : Nat) (ns : List Int) (lim : Nat) (w : World) (h : DeckOk b ns lim w) (hlim : lim ≤ 4611686018427387904) (g cap : Nat) (xs : List Int) (hx : xs ≠ []) (hxl : xs.length ≤ 100) (hg : g ≠ b) (hgl : g < w.heap.size) (hr : w.rangeAt g 0 (xs.map (.int .i64))) :
  Calls Tryz.prog 59 #[.pointer (some ⟨b, 0, none⟩), .slice (some ⟨g, 0, none⟩) xs.length cap] w fun e w' => ∃ x, x ∈ xs ∧ e = .returned (.int .i64 x) ∧ DK b ns (lim + 1) w w' := by
 have hpos : 1 ≤ xs.length := List.length_pos_iff.2 hx
 have hlt := h.lt
 refine calls_at (args := [.pointer (some ⟨b, 0, none⟩), .slice (some ⟨g, 0, none⟩) xs.length cap]) (fn := Tryz.f59) (c := codePk) (n := 12) (by kernel_rfl) (by kernel_rfl) (by kernel_rfl) (by kernel_rfl) ?_
 refine at_run 60 [.code codePk] w.heap.size [] [] tPk0 [(5, .slice (some ⟨g, 0, none⟩) xs.length cap), (6, .pointer (some ⟨b, 0, none⟩)), (8, .int .i64 xs.length)] w.heap.size [] (lies_nil w) (by kernel_rfl) fun w1 E1 hL1 hK1 => ?_
 have b1 : Below w.heap.size w w1 := hK1.below (Nat.le_refl _) (fun k hk => by cases hk)
 have D1 := (DK.refl h).below b1
 refine at_call 32 [.tmp 6, .tmp 8] (some 9) [.pointer (some ⟨b, 0, none⟩), .int .i64 xs.length] (by kernel_rfl) (by kernel_rfl) (by kernel_rfl) ((dnext_any b ns lim xs.length w1 D1.deck hlim (by omega) (by omega)).mono fun e w2 hh => ?_)
 obtain ⟨k, hk, rfl, D2⟩ := hh
 refine ⟨_, rfl, ?_⟩
 have D2 := D1.next D2
 have hkl : k < xs.length := by omega
 refine at_elem (g := g) (off := 0) (cap := cap) (sz := 1) (k := k) (some 10) (by kernel_rfl) hkl Tryz.underlying44 (by kernel_rfl) ?_
 have hc : w2.cell? ⟨g, 0 + k * 1, none⟩ = some (.int .i64 xs[k]) := by
  rw [Nat.mul_one, World.cell?_of_block (w := w) (D2.but.block g hgl hg)]
  exact hr k _ (by simp [hkl])
 generalize hxk : xs[k] = x at hc
 refine at_load1 3 g (0 + k * 1) (.int .i64 x) (some 11) (by kernel_rfl) (by kernel_rfl) hc ?_
 exact at_endT (fn := Tryz.f59) 60 (.int .i64 x) (by kernel_rfl) (by kernel_rfl) fun w3 B3 => ⟨x, hxk ▸ List.getElem_mem hkl, rfl, D2.below B3⟩
def textsL : List (List UInt8) := [[97, 103, 114, 101, 101, 109, 101, 110, 116, 32, 97, 59, 10, 105, 110, 112, 117, 116, 32, 114, 97, 116, 101, 58, 32, 109, 111, 110, 101, 121, 59, 10, 112, 97, 121, 32, 115, 97, 108, 97, 114, 121, 32, 102, 114, 111, 109, 32, 49, 57, 55, 48, 45, 48, 49, 45, 48, 49, 32, 61, 32, 114, 97, 116, 101, 32, 114, 111, 117, 110, 100, 101, 100, 32, 100, 111, 119, 110, 32, 116, 111, 32, 48, 46, 48, 49, 59, 10], [97, 103, 114, 101, 101, 109, 101, 110, 116, 32, 98, 59, 10, 105, 110, 112, 117, 116, 32, 114, 97, 116, 101, 58, 32, 109, 111, 110, 101, 121, 59, 10, 105, 110, 112, 117, 116, 32, 115, 104, 105, 102, 116, 115, 58, 32, 104, 111, 117, 114, 115, 59, 10, 112, 97, 121, 32, 115, 97, 108, 97, 114, 121, 32, 102, 114, 111, 109, 32, 49, 57, 55, 48, 45, 48, 49, 45, 48, 49, 32, 61, 32, 114, 97, 116, 101, 32, 114, 111, 117, 110, 100, 101, 100, 32, 104, 97, 108, 102, 95, 117, 112, 32, 116, 111, 32, 48, 46, 48, 49, 59, 10, 112, 97, 121, 32, 115, 97, 108, 97, 114, 121, 32, 102, 114, 111, 109, 32, 49, 57, 55, 48, 45, 48, 51, 45, 48, 49, 32, 61, 32, 114, 97, 116, 101, 32, 42, 32, 49, 46, 48, 53, 32, 114, 111, 117, 110, 100, 101, 100, 32, 104, 97, 108, 102, 95, 117, 112, 32, 116, 111, 32, 48, 46, 48, 49, 59, 10, 112, 97, 121, 32, 110, 105, 103, 104, 116, 32, 102, 114, 111, 109, 32, 49, 57, 55, 48, 45, 48, 49, 45, 48, 49, 32, 61, 32, 115, 104, 105, 102, 116, 115, 32, 42, 32, 50, 48, 32, 109, 111, 110, 101, 121, 47, 104, 111, 117, 114, 115, 32, 114, 111, 117, 110, 100, 101, 100, 32, 100, 111, 119, 110, 32, 116, 111, 32, 48, 46, 48, 49, 59, 10, 112, 97, 121, 32, 99, 97, 114, 32, 102, 114, 111, 109, 32, 49, 57, 55, 48, 45, 48, 49, 45, 48, 49, 32, 61, 32, 50, 48, 48, 32, 109, 111, 110, 101, 121, 32, 114, 111, 117, 110, 100, 101, 100, 32, 100, 111, 119, 110, 32, 116, 111, 32, 49, 59, 10], [97, 103, 114, 101, 101, 109, 101, 110, 116, 32, 99, 59, 10, 105, 110, 112, 117, 116, 32, 114, 97, 116, 101, 58, 32, 109, 111, 110, 101, 121, 59, 10, 112, 97, 115, 116, 32, 115, 97, 108, 97, 114, 121, 58, 32, 109, 111, 110, 101, 121, 59, 10, 112, 97, 121, 32, 115, 97, 108, 97, 114, 121, 32, 102, 114, 111, 109, 32, 49, 57, 55, 48, 45, 48, 49, 45, 48, 49, 32, 61, 32, 114, 97, 116, 101, 32, 114, 111, 117, 110, 100, 101, 100, 32, 100, 111, 119, 110, 32, 116, 111, 32, 48, 46, 48, 49, 59, 10, 112, 97, 121, 32, 98, 111, 110, 117, 115, 32, 102, 114, 111, 109, 32, 49, 57, 55, 48, 45, 48, 51, 45, 48, 49, 32, 61, 32, 97, 118, 101, 114, 97, 103, 101, 40, 115, 97, 108, 97, 114, 121, 44, 32, 50, 41, 32, 47, 32, 49, 48, 32, 114, 111, 117, 110, 100, 101, 100, 32, 100, 111, 119, 110, 32, 116, 111, 32, 48, 46, 48, 49, 59, 10], [97, 103, 114, 101, 101, 109, 101, 110, 116, 32, 100, 59, 10, 105, 110, 112, 117, 116, 32, 114, 97, 116, 101, 58, 32, 109, 111, 110, 101, 121, 59, 10, 114, 117, 108, 101, 32, 116, 119, 105, 99, 101, 58, 32, 109, 111, 110, 101, 121, 32, 102, 114, 111, 109, 32, 49, 57, 55, 48, 45, 48, 50, 45, 49, 53, 32, 61, 32, 114, 97, 116, 101, 32, 42, 32, 50, 59, 10, 112, 97, 121, 32, 115, 97, 108, 97, 114, 121, 32, 102, 114, 111, 109, 32, 49, 57, 55, 48, 45, 48, 49, 45, 50, 48, 32, 61, 32, 105, 102, 32, 114, 97, 116, 101, 32, 60, 32, 50, 48, 48, 48, 32, 109, 111, 110, 101, 121, 32, 116, 104, 101, 110, 32, 50, 48, 48, 48, 32, 109, 111, 110, 101, 121, 32, 101, 108, 115, 101, 32, 114, 97, 116, 101, 32, 114, 111, 117, 110, 100, 101, 100, 32, 117, 112, 32, 116, 111, 32, 48, 46, 48, 53, 59, 10, 112, 97, 121, 32, 111, 116, 104, 101, 114, 32, 102, 114, 111, 109, 32, 49, 57, 55, 48, 45, 48, 49, 45, 48, 49, 32, 61, 32, 49, 32, 109, 111, 110, 101, 121, 32, 114, 111, 117, 110, 100, 101, 100, 32, 100, 111, 119, 110, 32, 116, 111, 32, 49, 59, 10]]
noncomputable def codeTx : Code := Tryz.f58.body.getD .skip
theorem dtexts_any (w : World) : Calls Tryz.prog 58 #[] w fun e w' => e = .returned (.slice (some ⟨w.heap.size, 0, none⟩) 4 4) ∧ w'.rangeAt w.heap.size 0 (textsL.map fun l => .string ⟨⟨l⟩⟩) ∧ w.heap.size < w'.heap.size ∧ Below w.heap.size w w' := by
 refine calls_at (args := []) (fn := Tryz.f58) (c := codeTx) (n := 2) (by kernel_rfl) (by kernel_rfl) (by kernel_rfl) (by kernel_rfl) ?_
 refine at_run 60 [.code codeTx] w.heap.size [] [] (advT 60 [.code codeTx]) [(0, .slice (some ⟨w.heap.size, 0, none⟩) 4 4)] (w.heap.size + 1) [⟨w.heap.size, 0, textsL.map fun l => .string ⟨⟨l⟩⟩, 9, true⟩] (lies_nil w) (by kernel_rfl) fun w1 E1 hL1 hK1 => ?_
 have hb1 := own_good (hL1.sat.good _ (List.mem_singleton.2 rfl))
 have B1 : Below w.heap.size w w1 := hK1.below (Nat.le_refl _) (fun k hk => by cases hk)
 have hlt := heap_lt hb1
 refine at_endT (fn := Tryz.f58) 10 (.slice (some ⟨w.heap.size, 0, none⟩) 4 4) (by kernel_rfl) (by kernel_rfl) fun w2 B2 => ⟨rfl, ?_, Nat.lt_of_lt_of_le hlt B2.size, B1.trans (B2.mono B1.size)⟩
 intro j v hj
 rw [World.cell?_of_block (B2.block _ hlt)]
 unfold World.cell?
 simp only [hb1, Nat.zero_add]
 rw [List.getElem?_toArray]
 exact hj
noncomputable def codeLn : Code := Tryz.f57.body.getD .skip
noncomputable def tLn0 : List Item := advT 60 [.code codeLn]
theorem dlearn_any (c : Cmd) (hc : learnC c = c) (h1 : c.kind = 1) (w : World) : Calls Tryz.prog 57 #[.agg ⟨c.fact⟩] w fun e w' => e = .returned (.agg ⟨c.cells⟩) ∧ Below w.heap.size w w' := by
 have e1 : c.cells = [.int .i64 1, .int .i64 c.emp, .int .i64 c.fk, .int .i64 c.fr, .string ⟨⟨c.nm⟩⟩, .int .i64 c.val, .int .i64 c.ext, .int .i64 c.rnk, .string ⟨⟨c.txt⟩⟩, .int .i64 0, .int .u64 0, .int .i64 0, .int .i64 0] := by
  have e2 : c.per = 0 ∧ c.wh = 0 ∧ c.torn = 0 ∧ c.stop = 0 := by rw [← hc]; exact ⟨rfl, rfl, rfl, rfl⟩
  simp [Cmd.cells, h1, e2.1, e2.2.1, e2.2.2.1, e2.2.2.2]
 refine calls_at (args := [.agg ⟨c.fact⟩]) (fn := Tryz.f57) (c := codeLn) (n := 5) (by kernel_rfl) (by kernel_rfl) (by kernel_rfl) (by kernel_rfl) ?_
 refine at_run 60 [.code codeLn] w.heap.size [] [(0, 0), (1, 0)] tLn0 [(2, .pointer (some ⟨w.heap.size + 1, 0, none⟩))] (w.heap.size + 1 + 1) [⟨w.heap.size, 0, c.fact, 61, true⟩, ⟨w.heap.size + 1, 0, [.int .i64 1, .int .i64 c.emp, .int .i64 c.fk, .int .i64 c.fr, .string ⟨⟨c.nm⟩⟩, .int .i64 c.val, .int .i64 c.ext, .int .i64 c.rnk, .string ⟨⟨c.txt⟩⟩, .int .i64 0, .int .u64 0, .int .i64 0, .int .i64 0], 64, true⟩] (lies_nil w) (by kernel_rfl) fun w1 E1 hL1 hK1 => ?_
 have B1 : Below w.heap.size w w1 := hK1.below (Nat.le_refl _) (fun k hk => by cases hk)
 have h2 := hL1.sat.good ⟨w.heap.size + 1, 0, _, 64, true⟩ (by simp; rfl)
 rw [← e1] at h2
 exact at_ret (fn := Tryz.f57) (by kernel_rfl) (by kernel_rfl) ⟨0, [⟨w.heap.size + 1, 0, c.cells, 64, true⟩], (0, 0), []⟩ (fun e he => by rw [List.mem_singleton.1 he]; exact h2) (.agg ⟨c.cells⟩) (by kernel_rfl) (by kernel_rfl) ⟨rfl, B1⟩
noncomputable def codeDy : Code := Tryz.f110.body.getD .skip
noncomputable def tDy0 : List Item := advT 60 [.code codeDy]
noncomputable def tDy1 : List Item := advT 60 (popOp tDy0)
theorem dday_any (b : Nat) (ns : List Int) (lim : Nat) (w : World) (h : DeckOk b ns lim w) (hlim : lim ≤ 4611686018427387000) :
  Calls Tryz.prog 110 #[.pointer (some ⟨b, 0, none⟩)] w fun e w' => ∃ x : Int, (0 ≤ x ∧ x ≤ 150) ∧ e = .returned (.int .i64 x) ∧ DK b ns (lim + 2) w w' := by
 refine calls_at (args := [.pointer (some ⟨b, 0, none⟩)]) (fn := Tryz.f110) (c := codeDy) (n := 8) (by kernel_rfl) (by kernel_rfl) (by kernel_rfl) (by kernel_rfl) ?_
 refine at_run 60 [.code codeDy] w.heap.size [] [] tDy0 [(3, .pointer (some ⟨b, 0, none⟩)), (4, .pointer (some ⟨b, 0, none⟩))] w.heap.size [] (lies_nil w) (by kernel_rfl) fun w1 E1 hL1 hK1 => ?_
 have D1 := (DK.refl h).below (hK1.below (Nat.le_refl _) (fun k hk => by cases hk))
 refine at_call 32 [.tmp 4, .const (.int .i64 151)] (some 5) [.pointer (some ⟨b, 0, none⟩), .int .i64 151] (by kernel_rfl) (by kernel_rfl) (by kernel_rfl) ((dnext_any b ns lim 151 w1 D1.deck (by omega) (by omega) (by omega)).mono fun e w2 hh => ?_)
 obtain ⟨k, hk, rfl, D2⟩ := hh
 refine ⟨_, rfl, ?_⟩
 have D2 := D1.next D2
 refine at_run 60 (popOp tDy0) w2.heap.size [] [] tDy1 [(3, .pointer (some ⟨b, 0, none⟩)), (6, .slice (some ⟨w2.heap.size, 0, none⟩) 8 8)] (w2.heap.size + 1) [⟨w2.heap.size, 0, ([0, 31, 59, 90, 30, 58, 120, (k : Int)] : List Int).map (.int .i64), 3, true⟩] (lies_nil w2) (by kernel_rfl) fun w3 E3 hL3 hK3 => ?_
 have D3 := D2.below (hK3.below (Nat.le_refl _) (fun k hk => by cases hk))
 have hb3 := own_good (hL3.sat.good _ (List.mem_singleton.2 rfl))
 have hbl := D2.lt
 refine at_call 59 [.tmp 3, .tmp 6] (some 7) [.pointer (some ⟨b, 0, none⟩), .slice (some ⟨w2.heap.size, 0, none⟩) 8 8] (by kernel_rfl) (by kernel_rfl) (by kernel_rfl) ((dpick_any b ns (lim + 1) w3 D3.deck (by omega) w2.heap.size 8 [0, 31, 59, 90, 30, 58, 120, (k : Int)] (by simp) (by simp) (by omega) (heap_lt hb3) (rangeAt_lit hb3 0 _ rfl)).mono fun e w4 hh => ?_)
 obtain ⟨x, hx, rfl, D4⟩ := hh
 refine ⟨_, rfl, ?_⟩
 have D4 := D3.next D4
 have hx' : 0 ≤ x ∧ x ≤ 150 := by
  simp only [List.mem_cons, List.not_mem_nil, or_false] at hx
  rcases hx with rfl | rfl | rfl | rfl | rfl | rfl | rfl | rfl <;> omega
 exact at_endT (fn := Tryz.f110) 60 (.int .i64 x) (by kernel_rfl) (by kernel_rfl) fun w5 B5 => ⟨x, hx', rfl, D4.below B5⟩
end Go.Proofs.YtdcbnkimjhefkaaGreatDoor

namespace Go.Proofs.YtdcbnkimjhefkaaGreatDoor
set_option maxRecDepth 100000
def fc (e k d : Int) (nm : List UInt8) (v x r : Int) (t : List UInt8) : Cmd := ⟨1, e, k, d, nm, v, x, r, t, 0, 0, 0, 0⟩
structure GenC (c : Cmd) : Prop where
 wf : c.Wf
 ok : okC c = true
 len : (textC c).length ≤ 1000
 nm : c.nm.length ≤ 60
 txt : c.txt.length ≤ 400
structure GenF (c : Cmd) : Prop where
 gen : GenC c
 kind : c.kind = 1
 learn : learnC c = c
theorem gen_of (c : Cmd) (F : Form) (hF : formOf c = some F) (hok : okF c F = true) (wf : c.Wf) (len : (linesP c F).length ≤ 1000) (nm : c.nm.length ≤ 60) (txt : c.txt.length ≤ 400) : GenC c :=
 ⟨wf, by simp only [okC, hF, hok], by simp only [textC, hF]; exact len, nm, txt⟩
theorem fits_of {n : Int} (h : -1000000000000000000 ≤ n ∧ n ≤ 1000000000000000000) : fitsP n = true := by simp [fitsP, h.1, h.2]
theorem in_of {n : Int} (h : -1000000000000000000 ≤ n ∧ n ≤ 1000000000000000000) : inR n := ⟨by omega, by omega⟩
theorem len_of {n : Int} (h : -1000000000000000000 ≤ n ∧ n ≤ 1000000000000000000) : (Lib.itoa n).length ≤ 21 := by have := itoa_len n (by omega) (by omega); omega
theorem lit_in (n : Int) (h : decide (-9223372036854775808 ≤ n ∧ n ≤ 9223372036854775807) = true) : inR n := by
 have h2 : -9223372036854775808 ≤ n ∧ n ≤ 9223372036854775807 := of_decide_eq_true h
 exact h2
abbrev mid (n : Int) : Prop := -1000000000000000000 ≤ n ∧ n ≤ 1000000000000000000
theorem gen1 (e d : Int) (he : mid e) (hd : mid d) : GenF (fc e 1 d [] 0 0 0 []) :=
 ⟨gen_of _ ⟨[104, 105, 114, 101], 1, 1, [69, 68]⟩ (by kernel_rfl) (by
  simp [okF, okL, okP, numP, leftP, restP, zeroP, zeroN, Cmd.of, fc, fits_of he, fits_of hd]) ⟨lit_in 1 rfl, in_of he, lit_in 1 rfl, in_of hd, lit_in 0 rfl, lit_in 0 rfl, lit_in 0 rfl, lit_in 0 rfl, lit_in 0 rfl, lit_in 0 rfl, (by decide : (0 : Nat) < 18446744073709551616), by simp [fc], Nat.zero_le _⟩ (by
  have le := len_of he
  have ld := len_of hd
  simp [linesP, itemsP, itemP, numP, fc]
  omega) (by simp [fc]) (by simp [fc]), rfl, rfl⟩
theorem gen2 (e d : Int) (he : mid e) (hd : mid d) : GenF (fc e 2 d [] 0 0 0 []) :=
 ⟨gen_of _ ⟨[108, 101, 97, 118, 101], 1, 2, [69, 68]⟩ (by kernel_rfl) (by
  simp [okF, okL, okP, numP, leftP, restP, zeroP, zeroN, Cmd.of, fc, fits_of he, fits_of hd]) ⟨lit_in 1 rfl, in_of he, lit_in 2 rfl, in_of hd, lit_in 0 rfl, lit_in 0 rfl, lit_in 0 rfl, lit_in 0 rfl, lit_in 0 rfl, lit_in 0 rfl, (by decide : (0 : Nat) < 18446744073709551616), by simp [fc], Nat.zero_le _⟩ (by
  have le := len_of he
  have ld := len_of hd
  simp [linesP, itemsP, itemP, numP, fc]
  omega) (by simp [fc]) (by simp [fc]), rfl, rfl⟩
theorem gen3rate (e d v : Int) (he : mid e) (hd : mid d) (hv : mid v) : GenF (fc e 3 d [114, 97, 116, 101] v 0 0 []) :=
 ⟨gen_of _ ⟨[105, 110, 112, 117, 116], 1, 3, [69, 78, 68, 86]⟩ (by kernel_rfl) (by
  have hn : Tk.isName [114, 97, 116, 101] = true := by kernel_rfl
  simp [okF, okL, okP, numP, leftP, restP, zeroP, zeroN, Cmd.of, fc, fits_of he, fits_of hd, fits_of hv, hn]) ⟨lit_in 1 rfl, in_of he, lit_in 3 rfl, in_of hd, in_of hv, lit_in 0 rfl, lit_in 0 rfl, lit_in 0 rfl, lit_in 0 rfl, lit_in 0 rfl, (by decide : (0 : Nat) < 18446744073709551616), by simp [fc], Nat.zero_le _⟩ (by
  have le := len_of he
  have ld := len_of hd
  have lv := len_of hv
  simp [linesP, itemsP, itemP, numP, fc]
  omega) (by simp [fc]) (by simp [fc]), rfl, rfl⟩
theorem gen4shifts (e d v : Int) (he : mid e) (hd : mid d) (hv : mid v) : GenF (fc e 4 d [115, 104, 105, 102, 116, 115] v 0 0 []) :=
 ⟨gen_of _ ⟨[104, 111, 117, 114, 115], 1, 4, [69, 78, 68, 86]⟩ (by kernel_rfl) (by
  have hn : Tk.isName [115, 104, 105, 102, 116, 115] = true := by kernel_rfl
  simp [okF, okL, okP, numP, leftP, restP, zeroP, zeroN, Cmd.of, fc, fits_of he, fits_of hd, fits_of hv, hn]) ⟨lit_in 1 rfl, in_of he, lit_in 4 rfl, in_of hd, in_of hv, lit_in 0 rfl, lit_in 0 rfl, lit_in 0 rfl, lit_in 0 rfl, lit_in 0 rfl, (by decide : (0 : Nat) < 18446744073709551616), by simp [fc], Nat.zero_le _⟩ (by
  have le := len_of he
  have ld := len_of hd
  have lv := len_of hv
  simp [linesP, itemsP, itemP, numP, fc]
  omega) (by simp [fc]) (by simp [fc]), rfl, rfl⟩
theorem gen6 (d v : Int) (hd : mid d) (hv : mid v) : GenF (fc 0 6 d [] v 0 0 []) :=
 ⟨gen_of _ ⟨[114, 117, 108, 101, 115], 1, 6, [68, 86]⟩ (by kernel_rfl) (by
  simp [okF, okL, okP, numP, leftP, restP, zeroP, zeroN, Cmd.of, fc, fits_of hd, fits_of hv]) ⟨lit_in 1 rfl, lit_in 0 rfl, lit_in 6 rfl, in_of hd, in_of hv, lit_in 0 rfl, lit_in 0 rfl, lit_in 0 rfl, lit_in 0 rfl, lit_in 0 rfl, (by decide : (0 : Nat) < 18446744073709551616), by simp [fc], Nat.zero_le _⟩ (by
  have ld := len_of hd
  have lv := len_of hv
  simp [linesP, itemsP, itemP, numP, fc]
  omega) (by simp [fc]) (by simp [fc]), rfl, rfl⟩
theorem gen7 (e d v : Int) (he : mid e) (hd : mid d) (hv : mid v) : GenF (fc e 7 d [] v 0 0 []) :=
 ⟨gen_of _ ⟨[100, 101, 112, 101, 110, 100, 101, 110, 116, 115], 1, 7, [69, 68, 86]⟩ (by kernel_rfl) (by
  simp [okF, okL, okP, numP, leftP, restP, zeroP, zeroN, Cmd.of, fc, fits_of he, fits_of hd, fits_of hv]) ⟨lit_in 1 rfl, in_of he, lit_in 7 rfl, in_of hd, in_of hv, lit_in 0 rfl, lit_in 0 rfl, lit_in 0 rfl, lit_in 0 rfl, lit_in 0 rfl, (by decide : (0 : Nat) < 18446744073709551616), by simp [fc], Nat.zero_le _⟩ (by
  have le := len_of he
  have ld := len_of hd
  have lv := len_of hv
  simp [linesP, itemsP, itemP, numP, fc]
  omega) (by simp [fc]) (by simp [fc]), rfl, rfl⟩
theorem gen8city (e d v x r : Int) (he : mid e) (hd : mid d) (hv : mid v) (hx : mid x) (hr : mid r) : GenF (fc e 8 d [99, 105, 116, 121] v x r []) :=
 ⟨gen_of _ ⟨[111, 114, 100, 101, 114], 1, 8, [69, 78, 68, 86, 88, 82]⟩ (by kernel_rfl) (by
  have hn : Tk.isName [99, 105, 116, 121] = true := by kernel_rfl
  simp [okF, okL, okP, numP, leftP, restP, zeroP, zeroN, Cmd.of, fc, fits_of he, fits_of hd, fits_of hv, fits_of hx, fits_of hr, hn]) ⟨lit_in 1 rfl, in_of he, lit_in 8 rfl, in_of hd, in_of hv, in_of hx, in_of hr, lit_in 0 rfl, lit_in 0 rfl, lit_in 0 rfl, (by decide : (0 : Nat) < 18446744073709551616), by simp [fc], Nat.zero_le _⟩ (by
  have le := len_of he
  have ld := len_of hd
  have lv := len_of hv
  have lx := len_of hx
  have lr := len_of hr
  simp [linesP, itemsP, itemP, numP, fc]
  omega) (by simp [fc]) (by simp [fc]), rfl, rfl⟩
theorem gen8court (e d v x r : Int) (he : mid e) (hd : mid d) (hv : mid v) (hx : mid x) (hr : mid r) : GenF (fc e 8 d [99, 111, 117, 114, 116] v x r []) :=
 ⟨gen_of _ ⟨[111, 114, 100, 101, 114], 1, 8, [69, 78, 68, 86, 88, 82]⟩ (by kernel_rfl) (by
  have hn : Tk.isName [99, 111, 117, 114, 116] = true := by kernel_rfl
  simp [okF, okL, okP, numP, leftP, restP, zeroP, zeroN, Cmd.of, fc, fits_of he, fits_of hd, fits_of hv, fits_of hx, fits_of hr, hn]) ⟨lit_in 1 rfl, in_of he, lit_in 8 rfl, in_of hd, in_of hv, in_of hx, in_of hr, lit_in 0 rfl, lit_in 0 rfl, lit_in 0 rfl, (by decide : (0 : Nat) < 18446744073709551616), by simp [fc], Nat.zero_le _⟩ (by
  have le := len_of he
  have ld := len_of hd
  have lv := len_of hv
  have lx := len_of hx
  have lr := len_of hr
  simp [linesP, itemsP, itemP, numP, fc]
  omega) (by simp [fc]) (by simp [fc]), rfl, rfl⟩
theorem gen9club (e d v x r : Int) (he : mid e) (hd : mid d) (hv : mid v) (hx : mid x) (hr : mid r) : GenF (fc e 9 d [99, 108, 117, 98] v x r []) :=
 ⟨gen_of _ ⟨[100, 101, 100, 117, 99, 116, 105, 111, 110], 1, 9, [69, 78, 68, 86, 88, 82]⟩ (by kernel_rfl) (by
  have hn : Tk.isName [99, 108, 117, 98] = true := by kernel_rfl
  simp [okF, okL, okP, numP, leftP, restP, zeroP, zeroN, Cmd.of, fc, fits_of he, fits_of hd, fits_of hv, fits_of hx, fits_of hr, hn]) ⟨lit_in 1 rfl, in_of he, lit_in 9 rfl, in_of hd, in_of hv, in_of hx, in_of hr, lit_in 0 rfl, lit_in 0 rfl, lit_in 0 rfl, (by decide : (0 : Nat) < 18446744073709551616), by simp [fc], Nat.zero_le _⟩ (by
  have le := len_of he
  have ld := len_of hd
  have lv := len_of hv
  have lx := len_of hx
  have lr := len_of hr
  simp [linesP, itemsP, itemP, numP, fc]
  omega) (by simp [fc]) (by simp [fc]), rfl, rfl⟩
theorem gen9loan (e d v x r : Int) (he : mid e) (hd : mid d) (hv : mid v) (hx : mid x) (hr : mid r) : GenF (fc e 9 d [108, 111, 97, 110] v x r []) :=
 ⟨gen_of _ ⟨[100, 101, 100, 117, 99, 116, 105, 111, 110], 1, 9, [69, 78, 68, 86, 88, 82]⟩ (by kernel_rfl) (by
  have hn : Tk.isName [108, 111, 97, 110] = true := by kernel_rfl
  simp [okF, okL, okP, numP, leftP, restP, zeroP, zeroN, Cmd.of, fc, fits_of he, fits_of hd, fits_of hv, fits_of hx, fits_of hr, hn]) ⟨lit_in 1 rfl, in_of he, lit_in 9 rfl, in_of hd, in_of hv, in_of hx, in_of hr, lit_in 0 rfl, lit_in 0 rfl, lit_in 0 rfl, (by decide : (0 : Nat) < 18446744073709551616), by simp [fc], Nat.zero_le _⟩ (by
  have le := len_of he
  have ld := len_of hd
  have lv := len_of hv
  have lx := len_of hx
  have lr := len_of hr
  simp [linesP, itemsP, itemP, numP, fc]
  omega) (by simp [fc]) (by simp [fc]), rfl, rfl⟩
theorem texts_lined : ∀ t ∈ textsL, linedP t = true := by
 intro t ht
 simp only [textsL, List.mem_cons, List.not_mem_nil, or_false] at ht
 rcases ht with rfl | rfl | rfl | rfl <;> kernel_rfl
theorem texts_len : ∀ t ∈ textsL, t.length ≤ 400 := by
 intro t ht
 simp only [textsL, List.mem_cons, List.not_mem_nil, or_false] at ht
 rcases ht with rfl | rfl | rfl | rfl <;> exact Nat.le_of_ble_eq_true (by kernel_rfl)
theorem gen5 (d : Int) (t : List UInt8) (hd : mid d) (ht : t ∈ textsL) : GenF (fc 0 5 d [] 0 0 0 t) :=
 have hl := texts_len t ht
 ⟨gen_of _ ⟨[97, 103, 114, 101, 101, 109, 101, 110, 116], 1, 5, [68]⟩ (by kernel_rfl) (by
  simp [okF, okL, okP, numP, leftP, restP, zeroP, zeroN, Cmd.of, fc, fits_of hd, texts_lined t ht]) ⟨lit_in 1 rfl, lit_in 0 rfl, lit_in 5 rfl, in_of hd, lit_in 0 rfl, lit_in 0 rfl, lit_in 0 rfl, lit_in 0 rfl, lit_in 0 rfl, lit_in 0 rfl, (by decide : (0 : Nat) < 18446744073709551616), Nat.zero_le _, by simp only [fc]; omega⟩ (by
  have ld := len_of hd
  simp [linesP, itemsP, itemP, numP, fc]
  omega) (by simp [fc]) (by simp only [fc]; omega), rfl, rfl⟩
end Go.Proofs.YtdcbnkimjhefkaaGreatDoor

/-
  One operation by its own law; calls of closures; ranges over strings.
  find: the form for which a closure says yes.
  The closures of write and read; field.
  lined; the facts about the listed variables.
-/
import Derived.Test.YtdcbnkimjhefkaaGreatDoorW20
import Derived.Test.YtdcbnkimjhefkaaGreatDoorW06
import Derived.Below
import Derived.Test.YtdcbnkimjhefkaaGreatDoorW18
import Derived.Test.YtdcbnkimjhefkaaGreatDoorW17
import Derived.Test.YtdcbnkimjhefkaaGreatDoorProg
import Derived.Test.YtdcbnkimjhefkaaGreatDoorShelf
namespace Go.Proofs.YtdcbnkimjhefkaaGreatDoor
section
variable {P : Program} {f : FuncId} {R : Ending → World → Prop}
theorem Kept.below {O : List Nat} {B : Nat} {w w' : World} (h : Kept O B w w') {B' : Nat} (hB : B' ≤ B) (hO : ∀ k ∈ O, B' ≤ k) : Go.RowKit.Below B' w w' :=
  ⟨h.os, h.tape, h.output, h.size, fun k hk => h.block k (by omega) fun hm => by have := hO k hm; omega⟩
theorem lies_mk (w : World) (mem : List Ent) (hg : ∀ e ∈ mem, e.good w) (hn : (mem.map (·.id)).Nodup) : Lies (mem.map (·.id)) w.heap.size w ⟨w.heap.size, mem, (0, 0), []⟩ := by
  refine ⟨⟨rfl, hg, fun i j e e' hi hj _ hne he => ?_⟩, Nat.le_refl _, fun e he _ => .inl (List.mem_map.2 ⟨e, he, rfl⟩)⟩
  have h1 : (mem.map (·.id))[i]? = some e.id := by rw [List.getElem?_map, hi]; rfl
  have h2 : (mem.map (·.id))[j]? = some e.id := by rw [List.getElem?_map, hj]; exact congrArg some he.symm
  exact hne ((List.getElem?_inj (List.getElem?_eq_some_iff.1 h1).1 hn).1 (h1.trans h2.symm))
theorem good_own {w : World} {b : Nat} {cs : List Value} {t : TypeId} (h : w.heap[b]? = some (.cells cs.toArray t (0, 0))) : Ent.good w ⟨b, 0, cs, t, true⟩ := by
  refine ⟨(Array.getElem?_eq_some_iff.1 h).1, ?_⟩
  rw [if_pos rfl]
  exact ⟨h, rfl⟩
/-- The operation that stands next. -/
def curOp (n : Nat) (E : Nat → Value) : List Item → Option Oper
  | .inRegion ops (i :: _) :: _ => match ops[i]? with
    | some o => match Region.wanted o (yieldE n ops E) with
      | true => some o
      | false => none
    | none => none
  | _ => none
theorem at_op {n : Nat} {todo : List Item} {E : Nat → Value} {w w' : World} {v : Value} (o : Oper) (hc : curOp n E todo = some o) (hx : (execOp (evE n E) o).run P w = .ok (.value v) w') (h : At P f R (popOp todo) (Fr n (updO E o.dst v)) w') : At P f R todo (Fr n E) w := by
  unfold curOp at hc
  split at hc
  · rename_i ops i r k
    split at hc
    · rename_i o' ho
      split at hc
      · rename_i hw
        obtain rfl := Option.some.inj hc
        refine wpOps_some ho (by rw [yielded_Fr]; exact hw) ?_
        unfold Oper.wp
        rw [eval_Fr, hx]
        show wpOps P ops _ r ((Fr n E).put o'.dst v) w'
        rw [Fr_put]
        exact h
      · cases hc
    · cases hc
  · cases hc
/-- The call of a closure that stands next. -/
def curCallV (n : Nat) (E : Nat → Value) (todo : List Item) : Option (FuncId × List Value × Option Tmp) := match curOp n E todo with
  | some o => match o.op with
    | .call ⟨.value x, xs, _⟩ => match evE n E x with
      | .func (.func g) ⟨first⟩ ⟨captured⟩ => some (g, first ++ (xs.toList.map (evE n E) ++ captured), o.dst)
      | _ => none
    | _ => none
  | none => none
def curIdx (n : Nat) (E : Nat → Value) (todo : List Item) : Option (TypeId × Value × Value × Option Tmp) := match curOp n E todo with
  | some o => match o.op with
    | .index t x i => some (t, evE n E x, evE n E i, o.dst)
    | _ => none
  | none => none
def curRange (n : Nat) (E : Nat → Value) (todo : List Item) : Option (TypeId × Value × Option Tmp) := match curOp n E todo with
  | some o => match o.op with
    | .range t x => some (t, evE n E x, o.dst)
    | _ => none
  | none => none
def curNext (n : Nat) (E : Nat → Value) (todo : List Item) : Option (Value × Bool × Option Tmp) := match curOp n E todo with
  | some o => match o.op with
    | .next x b => some (evE n E x, b, o.dst)
    | _ => none
  | none => none
theorem at_callv {n : Nat} {todo : List Item} {E : Nat → Value} {w : World} (g : FuncId) (args : List Value) (dst : Option Tmp) (hc : curCallV n E todo = some (g, args, dst)) (hg : callable P g = true)
    (h : Calls P g args.toArray w fun e w' => ∃ v, e = .returned v ∧ At P f R (popOp todo) (Fr n (updO E dst v)) w') : At P f R todo (Fr n E) w := by
  unfold curCallV at hc
  split at hc
  · rename_i o hcur
    split at hc
    · rename_i x xs ats ho
      split at hc
      · rename_i g' first captured hx
        simp only [Option.some.injEq, Prod.mk.injEq] at hc
        obtain ⟨rfl, ha, rfl⟩ := hc
        unfold curOp at hcur
        split at hcur
        · rename_i ops i r k
          split at hcur
          · rename_i o' ho'
            split at hcur
            · rename_i hw
              obtain rfl := Option.some.inj hcur
              refine wpOps_some ho' (by rw [yielded_Fr]; exact hw) ?_
              unfold Oper.wp
              rw [eval_Fr]
              have e : (execOp (evE n E) o').run P w = .ok (.enter g' args.toArray) w := by
                rw [← run_callable hg args.toArray w, ← ha]
                have e1 : ((⟨first⟩ : Array Value) ++ xs.map (evE n E)) ++ (⟨captured⟩ : Array Value) = (first ++ (xs.toList.map (evE n E) ++ captured)).toArray := by
                  apply Array.ext'
                  simp
                rw [← e1]
                simp only [execOp, ho, resolve, hx]
                rfl
              rw [e]
              refine h.mono fun en w' hh => ?_
              obtain ⟨v, rfl, hat⟩ := hh
              show wpOps P ops _ r ((Fr n E).put o'.dst v) w'
              rw [Fr_put]
              exact hat
            · cases hcur
          · cases hcur
        · cases hcur
      · cases hc
    · cases hc
  · cases hc
theorem run_val {s : Sem Value} {v : Value} {w w' : World} (h : s.run P w = .ok v w') : (do pure (Next.value (← s)) : Sem Next).run P w = .ok (.value v) w' := by
  show (s.bind fun v => Sem.pure (Next.value v)).run P w = _
  rw [Sem.run_bind', h]
  rfl
theorem at_index {n : Nat} {todo : List Item} {E : Nat → Value} {w : World} (t : TypeId) (a i : Value) (dst : Option Tmp) (v : Value) (hc : curIdx n E todo = some (t, a, i, dst)) (hx : (Instr.index t a i).run P w = .ok v w) (h : At P f R (popOp todo) (Fr n (updO E dst v)) w) : At P f R todo (Fr n E) w := by
  unfold curIdx at hc
  split at hc
  · rename_i o hcur
    split at hc
    · rename_i t' x y ho
      simp only [Option.some.injEq, Prod.mk.injEq] at hc
      obtain ⟨rfl, rfl, rfl, rfl⟩ := hc
      refine at_op o hcur (v := v) (w' := w) ?_ h
      simp only [execOp, ho]
      exact run_val hx
    · cases hc
  · cases hc
/-- A range over a string begins. -/
theorem at_range {n : Nat} {todo : List Item} {E : Nat → Value} {w : World} (t : TypeId) (s : ByteArray) (dst : Option Tmp) (hc : curRange n E todo = some (t, .string s, dst)) (ht : P.underlying t = some .string)
    (h : At P f R (popOp todo) (Fr n (updO E dst (.pointer (some ⟨w.heap.size, 0, none⟩)))) (w.alloc (.stringIter s 0))) : At P f R todo (Fr n E) w := by
  unfold curRange at hc
  split at hc
  · rename_i o hcur
    split at hc
    · rename_i t' x ho
      simp only [Option.some.injEq, Prod.mk.injEq] at hc
      obtain ⟨rfl, hx, rfl⟩ := hc
      refine at_op o hcur (v := .pointer (some ⟨w.heap.size, 0, none⟩)) (w' := w.alloc (.stringIter s 0)) ?_ h
      simp only [execOp, ho, hx]
      refine run_val ?_
      simp only [Instr.range, Sem.run_bind, run_underlying ht, Result.andThen]
      rfl
    · cases hc
  · cases hc
/-- A string's iterator steps: an ASCII byte. -/
theorem at_next {n : Nat} {todo : List Item} {E : Nat → Value} {w : World} (k : Nat) (s : ByteArray) (pos c : Nat) (dst : Option Tmp) (hc : curNext n E todo = some (.pointer (some ⟨k, 0, none⟩), true, dst)) (hk : w.heap[k]? = some (.stringIter s pos)) (hlt : pos < s.size) (hdec : Utf8.decode s pos = (c, 1))
    (h : At P f R (popOp todo) (Fr n (updO E dst (.tuple #[.bool true, .int .i64 pos, .int .i32 c]))) { w with heap := w.heap.setIfInBounds k (.stringIter s (pos + 1)) }) : At P f R todo (Fr n E) w := by
  unfold curNext at hc
  split at hc
  · rename_i o hcur
    split at hc
    · rename_i x b ho
      simp only [Option.some.injEq, Prod.mk.injEq] at hc
      obtain ⟨hx, rfl, rfl⟩ := hc
      refine at_op o hcur (v := .tuple #[.bool true, .int .i64 pos, .int .i32 c]) (w' := { w with heap := w.heap.setIfInBounds k (.stringIter s (pos + 1)) }) ?_ h
      simp only [execOp, ho, hx]
      refine run_val ?_
      have e1 : (getObj k).run P w = .ok (.stringIter s pos) w := by simp [getObj, Sem.run, hk]
      have e2 : (setObj k (.stringIter s (pos + 1))).run P w = .ok () { w with heap := w.heap.setIfInBounds k (.stringIter s (pos + 1)) } := by simp [setObj, Sem.run, hk]
      simp only [Instr.next, Sem.run_bind, e1, Result.andThen, hlt, if_true, hdec, e2]
      rfl
    · cases hc
  · cases hc
/-- A string's iterator is at its end. -/
theorem at_over {n : Nat} {todo : List Item} {E : Nat → Value} {w : World} (k : Nat) (s : ByteArray) (pos : Nat) (dst : Option Tmp) (hc : curNext n E todo = some (.pointer (some ⟨k, 0, none⟩), true, dst)) (hk : w.heap[k]? = some (.stringIter s pos)) (hlt : ¬ pos < s.size)
    (h : At P f R (popOp todo) (Fr n (updO E dst (.tuple #[.bool false]))) w) : At P f R todo (Fr n E) w := by
  unfold curNext at hc
  split at hc
  · rename_i o hcur
    split at hc
    · rename_i x b ho
      simp only [Option.some.injEq, Prod.mk.injEq] at hc
      obtain ⟨hx, rfl, rfl⟩ := hc
      refine at_op o hcur (v := .tuple #[.bool false]) (w' := w) ?_ h
      simp only [execOp, ho, hx]
      refine run_val ?_
      have e1 : (getObj k).run P w = .ok (.stringIter s pos) w := by simp [getObj, Sem.run, hk]
      simp only [Instr.next, Sem.run_bind, e1, Result.andThen, hlt, if_false]
      rfl
    · cases hc
  · cases hc
/-- Old memory is read. -/
def curLoad (n : Nat) (E : Nat → Value) (todo : List Item) : Option (TypeId × Value × Option Tmp) := match curOp n E todo with
  | some o => match o.op with
    | .load t x => some (t, evE n E x, o.dst)
    | _ => none
  | none => none
theorem at_load {n : Nat} {todo : List Item} {E : Nat → Value} {w : World} (t : TypeId) (b o : Nat) (cs : List Value) (dst : Option Tmp) (hc : curLoad n E todo = some (t, .pointer (some ⟨b, o, none⟩), dst)) (h1 : isAggB P t = some true) (h2 : sizeB P t = some cs.length) (hw : w.rangeAt b o cs)
    (h : At P f R (popOp todo) (Fr n (updO E dst (.agg ⟨cs⟩))) w) : At P f R todo (Fr n E) w := by
  unfold curLoad at hc
  split at hc
  · rename_i op hcur
    split at hc
    · rename_i t' x ho
      simp only [Option.some.injEq, Prod.mk.injEq] at hc
      obtain ⟨rfl, hx, rfl⟩ := hc
      refine at_op op hcur (v := .agg ⟨cs⟩) (w' := w) ?_ h
      have hl := run_loadCells_list (P := P) w ⟨b, o, none⟩ cs fun j v hj => by
        rw [add_addr _ _ rfl]
        exact hw j v hj
      simp [execOp, ho, hx, Instr.loadAt, Instr.sureAddr, loadVar, run_isAgg h1, run_size h2, hl]
    · cases hc
  · cases hc
theorem at_load1 {n : Nat} {todo : List Item} {E : Nat → Value} {w : World} (t : TypeId) (b o : Nat) (v : Value) (dst : Option Tmp) (hc : curLoad n E todo = some (t, .pointer (some ⟨b, o, none⟩), dst)) (h1 : isAggB P t = some false) (hw : w.cell? ⟨b, o, none⟩ = some v)
    (h : At P f R (popOp todo) (Fr n (updO E dst v)) w) : At P f R todo (Fr n E) w := by
  unfold curLoad at hc
  split at hc
  · rename_i op hcur
    split at hc
    · rename_i t' x ho
      simp only [Option.some.injEq, Prod.mk.injEq] at hc
      obtain ⟨rfl, hx, rfl⟩ := hc
      refine at_op op hcur (v := v) (w' := w) ?_ h
      simp [execOp, ho, hx, Instr.loadAt, Instr.sureAddr, loadVar, run_isAgg h1, load, Sem.run, hw]
    · cases hc
  · cases hc
/-- The code's way alone, up to a region with guards. -/
def guardedR (ops : Array Oper) : Bool := ops.toList.any (fun o => o.guard.isSome)
def stepG : List Item → Option (List Item)
  | .code (.region i ops false) :: k => match guardedR ops with
    | true => none
    | false => stepT (.code (.region i ops false) :: k)
  | t => stepT t
def cntG : Nat → List Item → Nat
  | 0, _ => 0
  | m + 1, t => match stepG t with
    | some t' => cntG m t' + 1
    | none => 0
noncomputable def advG (t : List Item) : List Item := advT (cntG 90 t) t
/-- Run to the return, the results in slots. -/
theorem at_endT {n : Nat} {fn : Func} {E : Nat → Value} {w : World} {todo : List Item} (m : Nat) (v : Value) (hf : P.funcs[f]? = some fn)
    (he : (fun a : St => (isRet a.todo, a.ms.mem, a.ms.sz, a.ms.eqs, (lrun P (resultsE fn n a.env) ⟨0, [], (0, 0), []⟩).map (fun r => (r.1, r.2.eqs)))) (adv P n m ⟨todo, E, ⟨w.heap.size, [], (0, 0), []⟩, []⟩) = (true, [], w.heap.size, [], some (v, [])))
    (hk : ∀ w', Go.RowKit.Below w.heap.size w w' → R (.returned v) w') : At P f R todo (Fr n E) w := by
  simp only [Prod.mk.injEq] at he
  obtain ⟨h1, h2, h3, h4, h5⟩ := he
  refine at_adv (O := []) (B := w.heap.size) m ⟨todo, E, ⟨w.heap.size, [], (0, 0), []⟩, []⟩ (lies_nil w) (by rw [h4]; rfl) fun w' hL' hK => ?_
  have h6 : (lrun P (resultsE fn n (adv P n m ⟨todo, E, ⟨w.heap.size, [], (0, 0), []⟩, []⟩).env) ⟨0, [], (0, 0), []⟩).map (·.1) = some v := by
    cases hl : lrun P (resultsE fn n (adv P n m ⟨todo, E, ⟨w.heap.size, [], (0, 0), []⟩, []⟩).env) ⟨0, [], (0, 0), []⟩ with
    | none => rw [hl] at h5; cases h5
    | some r => rw [hl] at h5; simp at h5; simp [h5.1]
  refine at_ret (fn := fn) h1 hf ⟨0, [], (0, 0), []⟩ (fun e he => (by cases he)) v h6 ?_ (hk w' (hK.below (Nat.le_refl _) (fun k hk => by cases hk)))
  cases hl : lrun P (resultsE fn n (adv P n m ⟨todo, E, ⟨w.heap.size, [], (0, 0), []⟩, []⟩).env) ⟨0, [], (0, 0), []⟩ with
  | none => rfl
  | some r =>
    rw [hl] at h5
    simp at h5
    simp [h5.2]
/-- Run to the return through tests on literal Bools, the results in slots. -/
theorem at_endC {n : Nat} {fn : Func} {E : Nat → Value} {w : World} {todo : List Item} (m : Nat) (v : Value) (hf : P.funcs[f]? = some fn)
    (he : (fun a : St => (isRet a.todo, a.ms.mem, a.ms.sz, a.ms.eqs, (lrun P (resultsE fn n a.env) ⟨0, [], (0, 0), []⟩).map (fun r => (r.1, r.2.eqs)))) (advC P [] n m ⟨todo, E, ⟨w.heap.size, [], (0, 0), []⟩, []⟩) = (true, [], w.heap.size, [], some (v, [])))
    (hk : ∀ w', Go.RowKit.Below w.heap.size w w' → R (.returned v) w') : At P f R todo (Fr n E) w := by
  simp only [Prod.mk.injEq] at he
  obtain ⟨h1, h2, h3, h4, h5⟩ := he
  refine advC_sound (O := []) (B := w.heap.size) (H := []) m ⟨todo, E, ⟨w.heap.size, [], (0, 0), []⟩, []⟩ w (lies_nil w) (by rw [h4]; intro p hp; cases hp) fun w' hL' hK => ?_
  have h6 : (lrun P (resultsE fn n (advC P [] n m ⟨todo, E, ⟨w.heap.size, [], (0, 0), []⟩, []⟩).env) ⟨0, [], (0, 0), []⟩).map (·.1) = some v := by
    cases hl : lrun P (resultsE fn n (advC P [] n m ⟨todo, E, ⟨w.heap.size, [], (0, 0), []⟩, []⟩).env) ⟨0, [], (0, 0), []⟩ with
    | none => rw [hl] at h5; cases h5
    | some r => rw [hl] at h5; simp at h5; simp [h5.1]
  refine at_ret (fn := fn) h1 hf ⟨0, [], (0, 0), []⟩ (fun e he => (by cases he)) v h6 ?_ (hk w' (hK.below (Nat.le_refl _) (fun k hk => by cases hk)))
  cases hl : lrun P (resultsE fn n (advC P [] n m ⟨todo, E, ⟨w.heap.size, [], (0, 0), []⟩, []⟩).env) ⟨0, [], (0, 0), []⟩ with
  | none => rfl
  | some r =>
    rw [hl] at h5
    simp at h5
    simp [h5.2]
end
end Go.Proofs.YtdcbnkimjhefkaaGreatDoor

namespace Go.Proofs.YtdcbnkimjhefkaaGreatDoor
open Go.RowKit
noncomputable def codeF : Code := Tryz.f63.body.getD .skip
noncomputable def tFa : List Item := advT 8 [.code codeF]
noncomputable def tF0 : List Item := advT 60 (popOp tFa)
noncomputable def tF1 : List Item := advT 60 (bodyT tF0)
noncomputable def tF2 : List Item := advT 60 (thenT tF1)
noncomputable def tF3 : List Item := advT 60 (popOp tF2)
noncomputable def tF4 : List Item := advT 60 (popOp tF3)
noncomputable def tF5 : List Item := advT 60 (thenT tF4)
noncomputable def tF6 : List Item := advT 60 (elseT tF4)
noncomputable def tF7 : List Item := advT 60 (elseT tF1)
def FormsAt (w : World) : Prop := w.rangeAt 0 0 formsL ∧ 0 < w.heap.size
theorem FormsAt.below {w w' : World} (h : FormsAt w) (hb : Below w.heap.size w w') : FormsAt w' :=
  ⟨fun j v hv => (World.cell?_of_block (hb.block _ h.2)).trans (h.1 j v hv), Nat.lt_of_lt_of_le h.2 hb.size⟩
theorem index_forms (w : World) : ∀ (i : Nat) (hi : i < forms.length), (Instr.index 194 (.agg ⟨formsL⟩) (.int .i64 (i : Int))).run Tryz.prog w = .ok (.agg ⟨(forms[i]).cells⟩) w
  | 0, _ => by kernel_rfl
  | 1, _ => by kernel_rfl
  | 2, _ => by kernel_rfl
  | 3, _ => by kernel_rfl
  | 4, _ => by kernel_rfl
  | 5, _ => by kernel_rfl
  | 6, _ => by kernel_rfl
  | 7, _ => by kernel_rfl
  | 8, _ => by kernel_rfl
  | 9, _ => by kernel_rfl
  | 10, _ => by kernel_rfl
  | 11, _ => by kernel_rfl
  | 12, _ => by kernel_rfl
  | 13, _ => by kernel_rfl
  | n + 14, h => by rw [forms_len] at h; omega
def idxOf (v : Value) : Nat := match v with
  | .int _ n => n.toNat
  | _ => 0
set_option maxRecDepth 100000 in
theorem find_any (g : FuncId) (cap : List Value) (p : Form → Bool) (w : World) (hF : FormsAt w) (hg : callable Tryz.prog g = true)
    (hp : ∀ F ∈ forms, ∀ w', Below w.heap.size w w' → Calls Tryz.prog g (.agg ⟨F.cells⟩ :: cap).toArray w' fun e w'' => e = .returned (.bool (p F)) ∧ Below w'.heap.size w' w'') :
    Calls Tryz.prog 63 #[.func (.func g) #[] ⟨cap⟩] w fun e w' => e = .returned (.tuple #[.agg ⟨((forms.find? p).getD .zero).cells⟩, .bool (forms.find? p).isSome]) ∧ Below w.heap.size w w' := by
  refine calls_at (args := [.func (.func g) #[] ⟨cap⟩]) (fn := Tryz.f63) (c := codeF) (n := 16) (by kernel_rfl) (by kernel_rfl) (by kernel_rfl) (by kernel_rfl) ?_
  refine at_run 8 [.code codeF] w.heap.size [] [] tFa [(0, .func (.func g) #[] ⟨cap⟩), (2, .pointer (some ⟨w.heap.size, 0, none⟩))] (w.heap.size + 1) [⟨w.heap.size, 0, Form.zero.cells, 121, true⟩] (lies_nil w) (by kernel_rfl) fun w1 E1 hL1 hK1 => ?_
  have B1 : Below w.heap.size w w1 := hK1.below (Nat.le_refl _) (fun k hk => by cases hk)
  have hz1 := (hL1.sat.good ⟨w.heap.size, 0, Form.zero.cells, 121, true⟩ (by simp)).2
  rw [if_pos rfl] at hz1
  have hs1 : w1.heap.size = w.heap.size + 1 := hL1.sat.size
  refine at_load 194 0 0 formsL (some 6) (by kernel_rfl) (by kernel_rfl) (by kernel_rfl) (hF.below B1).1 ?_
  refine at_run 60 (popOp tFa) w1.heap.size [] [] tF0 [(0, .func (.func g) #[] ⟨cap⟩), (2, .pointer (some ⟨w.heap.size, 0, none⟩)), (6, .agg ⟨formsL⟩), (7, .int .i64 0)] w1.heap.size [] (lies_nil w1) (by kernel_rfl) fun w2 E2 hL2 hK2 => ?_
  have B2 : Below w1.heap.size w1 w2 := hK2.below (Nat.le_refl _) (fun k hk => by cases hk)
  refine at_loop (by kernel_rfl) (fun E wx => ∃ (i : Nat) (E0 : Nat → Value), i ≤ 14 ∧ E = updL E0 [(0, .func (.func g) #[] ⟨cap⟩), (2, .pointer (some ⟨w.heap.size, 0, none⟩)), (6, .agg ⟨formsL⟩), (7, .int .i64 (i : Int))] ∧ (∀ F ∈ forms.take i, p F = false) ∧ Below w.heap.size w wx ∧ w.heap.size < wx.heap.size ∧ wx.heap[w.heap.size]? = some (.cells Form.zero.cells.toArray 121 (0, 0)))
    (fun E _ => 14 - idxOf (E 7)) ?_ ?_
  · refine ⟨0, E2, by omega, rfl, by simp, B1.trans (B2.mono (by omega)), by have := B2.size; omega, ?_⟩
    rw [B2.block _ (by omega)]
    exact hz1.1
  rintro E wx ⟨i, E0, hi, rfl, hno, hB, hlt, hz⟩ hagain
  refine at_run 60 (bodyT tF0) wx.heap.size [] [] tF1 [(0, .func (.func g) #[] ⟨cap⟩), (2, .pointer (some ⟨w.heap.size, 0, none⟩)), (6, .agg ⟨formsL⟩), (7, .int .i64 (i : Int)), (8, .bool (decide ((i : Int) < 14)))] wx.heap.size [] (lies_nil wx) (by kernel_rfl) fun w3 E3 hL3 hK3 => ?_
  have B3 : Below wx.heap.size wx w3 := hK3.below (Nat.le_refl _) (fun k hk => by cases hk)
  have hz3 : w3.heap[w.heap.size]? = some (.cells Form.zero.cells.toArray 121 (0, 0)) := by rw [B3.block _ hlt]; exact hz
  have BB3 : Below w.heap.size w w3 := hB.trans (B3.mono (by have := hB.size; omega))
  have hlt3 : w.heap.size < w3.heap.size := by have := B3.size; omega
  refine at_cond (decide ((i : Int) < 14)) (by kernel_rfl) (fun ht => ?_) (fun hf => ?_)
  · have hi14 : i < forms.length := by rw [forms_len]; have := of_decide_eq_true ht; omega
    have hmem : forms[i] ∈ forms := List.getElem_mem hi14
    generalize hFi : forms[i] = F at hmem
    have hix := index_forms
    refine at_run 60 (thenT tF1) w3.heap.size [] [] tF2 [(0, .func (.func g) #[] ⟨cap⟩), (2, .pointer (some ⟨w.heap.size, 0, none⟩)), (6, .agg ⟨formsL⟩), (7, .int .i64 (i : Int))] w3.heap.size [] (lies_nil w3) (by kernel_rfl) fun w4 E4 hL4 hK4 => ?_
    have B4 : Below w3.heap.size w3 w4 := hK4.below (Nat.le_refl _) (fun k hk => by cases hk)
    refine at_index 194 (.agg ⟨formsL⟩) (.int .i64 (i : Int)) (some 9) (.agg ⟨F.cells⟩) (by kernel_rfl) (by rw [← hFi]; exact index_forms w4 i hi14) ?_
    refine at_run 60 (popOp tF2) w4.heap.size [] [(0, 0), (0, 0)] tF3 [(0, .func (.func g) #[] ⟨cap⟩), (2, .pointer (some ⟨w.heap.size, 0, none⟩)), (5, .pointer (some ⟨w4.heap.size, 0, none⟩)), (6, .agg ⟨formsL⟩), (7, .int .i64 (i : Int)), (10, .func (.func g) #[] ⟨cap⟩), (11, .agg ⟨F.cells⟩)] (w4.heap.size + 1) [⟨w4.heap.size, 0, F.cells, 121, true⟩] (lies_nil w4) (by kernel_rfl) fun w5 E5 hL5 hK5 => ?_
    have B5 : Below w4.heap.size w4 w5 := hK5.below (Nat.le_refl _) (fun k hk => by cases hk)
    have hf5 := (hL5.sat.good ⟨w4.heap.size, 0, F.cells, 121, true⟩ (by simp)).2
    rw [if_pos rfl] at hf5
    have hs5 : w5.heap.size = w4.heap.size + 1 := hL5.sat.size
    have hs4 := B4.size
    have BB5 : Below w.heap.size w w5 := BB3.trans ((B4.mono (by have := hB.size; omega)).trans (B5.mono (by omega)))
    refine at_callv g (.agg ⟨F.cells⟩ :: cap) (some 12) (by kernel_rfl) hg ((hp F hmem w5 BB5).mono fun e w6 hh => ?_)
    obtain ⟨rfl, B6⟩ := hh
    refine ⟨_, rfl, ?_⟩
    have hs6 := B6.size
    have hz6 : w6.heap[w.heap.size]? = some (.cells Form.zero.cells.toArray 121 (0, 0)) := by rw [B6.block _ (by omega), B5.block _ (by omega), B4.block _ hlt3]; exact hz3
    have hf6 : w6.heap[w4.heap.size]? = some (.cells F.cells.toArray 121 (0, 0)) := by rw [B6.block _ (by omega)]; exact hf5.1
    refine at_run 60 (popOp tF3) w6.heap.size [] [] tF4 [(0, .func (.func g) #[] ⟨cap⟩), (2, .pointer (some ⟨w.heap.size, 0, none⟩)), (5, .pointer (some ⟨w4.heap.size, 0, none⟩)), (6, .agg ⟨formsL⟩), (7, .int .i64 (i : Int)), (12, .bool (p F))] w6.heap.size [] (lies_nil w6) (by kernel_rfl) fun w7 E7 hL7 hK7 => ?_
    have B7 : Below w6.heap.size w6 w7 := hK7.below (Nat.le_refl _) (fun k hk => by cases hk)
    have hz7 : w7.heap[w.heap.size]? = some (.cells Form.zero.cells.toArray 121 (0, 0)) := by rw [B7.block _ (by omega)]; exact hz6
    have hf7 : w7.heap[w4.heap.size]? = some (.cells F.cells.toArray 121 (0, 0)) := by rw [B7.block _ (by omega)]; exact hf6
    have BB7 : Below w.heap.size w w7 := BB5.trans ((B6.mono (by omega)).trans (B7.mono (by omega)))
    have hs7 := B7.size
    have hfind : forms = forms.take i ++ F :: forms.drop (i + 1) := by
      rw [← hFi, List.getElem_cons_drop, List.take_append_drop]
    refine at_cond (p F) (by kernel_rfl) (fun hpt => ?_) (fun hpf => ?_)
    · have hres : forms.find? p = some F := by
        rw [hfind, List.find?_append, List.find?_eq_none.2 (fun x hx => by rw [hno x hx]; simp), Option.none_or, List.find?_cons, hpt]
      refine at_run 60 (thenT tF4) w7.heap.size [⟨w.heap.size, 0, Form.zero.cells, 121, true⟩, ⟨w4.heap.size, 0, F.cells, 121, true⟩] [(1, 0), (0, 0)] tF5 [(2, .pointer (some ⟨w.heap.size, 0, none⟩)), (3, .bool true)] w7.heap.size [⟨w.heap.size, 0, F.cells, 121, true⟩, ⟨w4.heap.size, 0, F.cells, 121, true⟩]
        (lies_mk w7 [⟨w.heap.size, 0, Form.zero.cells, 121, true⟩, ⟨w4.heap.size, 0, F.cells, 121, true⟩] (fun e he => by
          simp only [List.mem_cons, List.not_mem_nil, or_false] at he
          rcases he with rfl | rfl
          · exact good_own hz7
          · exact good_own hf7) (by simp; omega)) (by kernel_rfl) fun w8 E8 hL8 hK8 => ?_
      have B8 : Below w.heap.size w7 w8 := hK8.below (by omega) (fun k hk => by simp at hk; omega)
      refine at_ret (fn := Tryz.f63) (by kernel_rfl) (by kernel_rfl) ⟨0, [⟨w.heap.size, 0, F.cells, 121, true⟩, ⟨w4.heap.size, 0, F.cells, 121, true⟩], (0, 0), []⟩ hL8.sat.good (.tuple #[.agg ⟨F.cells⟩, .bool true]) (by kernel_rfl) (by kernel_rfl) ?_
      rw [hres]
      exact ⟨rfl, BB7.trans B8⟩
    · refine at_run 60 (elseT tF4) w7.heap.size [] [] tF6 [(0, .func (.func g) #[] ⟨cap⟩), (2, .pointer (some ⟨w.heap.size, 0, none⟩)), (6, .agg ⟨formsL⟩), (7, .int .i64 (IntKind.i64.wrap ((i : Int) + 1)))] w7.heap.size [] (lies_nil w7) (by kernel_rfl) fun w8 E8 hL8 hK8 => ?_
      have B8 : Below w7.heap.size w7 w8 := hK8.below (Nat.le_refl _) (fun k hk => by cases hk)
      have hw : IntKind.i64.wrap ((i : Int) + 1) = ((i + 1 : Nat) : Int) := by
        rw [IntWalk.i64_in _ (by have := of_decide_eq_true ht; omega)]
        omega
      rw [hw]
      refine hagain _ _ ⟨i + 1, E8, by rw [forms_len] at hi14; omega, rfl, fun G hG => ?_, BB7.trans (B8.mono (by omega)), by have := B8.size; omega, by rw [B8.block _ (by omega)]; exact hz7⟩ ?_
      · rw [List.take_add_one, List.getElem?_eq_getElem hi14, hFi] at hG
        simp only [Option.toList_some, List.mem_append, List.mem_singleton] at hG
        rcases hG with hG | rfl
        · exact hno G hG
        · exact hpf
      · show 14 - idxOf (.int .i64 ((i + 1 : Nat) : Int)) < 14 - idxOf (.int .i64 (i : Int))
        simp only [idxOf, Int.toNat_natCast]
        rw [forms_len] at hi14
        omega
  · have hi14 : i = 14 := by have := of_decide_eq_false hf; omega
    have hres : forms.find? p = none := by
      rw [List.find?_eq_none]
      intro x hx
      rw [hno x (by rw [hi14]; exact hx)]
      simp
    refine at_run 60 (elseT tF1) w3.heap.size [⟨w.heap.size, 0, Form.zero.cells, 121, true⟩] [(0, 0)] tF7 [(2, .pointer (some ⟨w.heap.size, 0, none⟩)), (3, .bool false)] w3.heap.size [⟨w.heap.size, 0, Form.zero.cells, 121, true⟩]
      (lies_mk w3 [⟨w.heap.size, 0, Form.zero.cells, 121, true⟩] (fun e he => by
        obtain rfl := List.mem_singleton.1 he
        exact good_own hz3) (by simp)) (by kernel_rfl) fun w4 E4 hL4 hK4 => ?_
    have B4 : Below w.heap.size w3 w4 := hK4.below (by omega) (fun k hk => by simp at hk; omega)
    refine at_ret (fn := Tryz.f63) (by kernel_rfl) (by kernel_rfl) ⟨0, [⟨w.heap.size, 0, Form.zero.cells, 121, true⟩], (0, 0), []⟩ hL4.sat.good (.tuple #[.agg ⟨Form.zero.cells⟩, .bool false]) (by kernel_rfl) (by kernel_rfl) ?_
    rw [hres]
    exact ⟨rfl, BB3.trans B4⟩
end Go.Proofs.YtdcbnkimjhefkaaGreatDoor

namespace Go.Proofs.YtdcbnkimjhefkaaGreatDoor
open Go.RowKit
set_option maxRecDepth 100000
noncomputable def codeW1 : Code := Tryz.f73.body.getD .skip
noncomputable def tW10 : List Item := advG [.code codeW1]
theorem wr1_any (F : Form) (b : Nat) (c : Cmd) (w : World) (hc : w.rangeAt b 0 c.cells) (hb : b < w.heap.size) :
    Calls Tryz.prog 73 (.agg ⟨F.cells⟩ :: [.pointer (some ⟨b, 0, none⟩)]).toArray w fun e w' => e = .returned (.bool (F.kind == c.kind && F.fact == c.fk)) ∧ Below w.heap.size w w' := by
  refine calls_at (args := [.agg ⟨F.cells⟩, .pointer (some ⟨b, 0, none⟩)]) (fn := Tryz.f73) (c := codeW1) (n := 17) (by kernel_rfl) (by kernel_rfl) (by kernel_rfl) (by kernel_rfl) ?_
  refine at_run (cntG 90 [.code codeW1]) [.code codeW1] w.heap.size [] [] tW10 [(1, .pointer (some ⟨b, 0, none⟩)), (2, .pointer (some ⟨w.heap.size, 0, none⟩))] (w.heap.size + 1) [⟨w.heap.size, 0, F.cells, 121, true⟩] (lies_nil w) (by kernel_rfl) fun w1 E1 hL1 hK1 => ?_
  have B1 : Below w.heap.size w w1 := hK1.below (Nat.le_refl _) (fun k hk => by cases hk)
  have g1 := hL1.sat.good ⟨w.heap.size, 0, F.cells, 121, true⟩ (by simp)
  have g2 : Ent.good w1 ⟨b, 0, c.cells, 64, false⟩ := ⟨Nat.lt_of_lt_of_le hb B1.size, fun j v hv => (World.cell?_of_block (B1.block _ hb)).trans (hc j v hv)⟩
  refine at_ghost ((curReg tW10).getD #[]) ⟨[⟨w.heap.size, 0, F.cells, 121, true⟩, ⟨b, 0, c.cells, 64, false⟩], [(1, 0, 1), (3, 1, 0), (7, 0, 2), (10, 1, 2)], []⟩ [(3, .bool (F.kind == c.kind && F.fact == c.fk))] (by kernel_rfl) (by kernel_rfl) (by kernel_rfl)
    (fun e he => by
      simp only [List.mem_cons, List.not_mem_nil, or_false] at he
      rcases he with rfl | rfl
      · exact g1
      · exact g2) (fun e he => (by cases he)) (fun X => by kernel_rfl) (by kernel_rfl) fun w2 E2 B2 => ?_
  exact at_endT (fn := Tryz.f73) 60 (.bool (F.kind == c.kind && F.fact == c.fk)) (by kernel_rfl) (by kernel_rfl) fun w3 B3 => ⟨rfl, B1.trans ((B2.mono B1.size).trans (B3.mono (Nat.le_trans B1.size B2.size)))⟩
noncomputable def codeFd : Code := Tryz.f67.body.getD .skip
/-- The cell of a command for which a letter stands. -/
def fieldOff (a : Nat) : Nat := if a = 69 then 1 else if a = 68 then 3 else if a = 86 then 5 else if a = 88 then 6 else if a = 82 then 7 else if a = 80 then 9 else if a = 84 then 11 else 12
theorem field_any (b : Nat) (a : Nat) (ha : a = 69 ∨ a = 68 ∨ a = 86 ∨ a = 88 ∨ a = 82 ∨ a = 80 ∨ a = 84 ∨ a = 83) (w : World) :
    Calls Tryz.prog 67 [.pointer (some ⟨b, 0, none⟩), .int .i32 (a : Int)].toArray w fun e w' => e = .returned (.pointer (some ⟨b, fieldOff a, none⟩)) ∧ Below w.heap.size w w' := by
  refine calls_at (args := [.pointer (some ⟨b, 0, none⟩), .int .i32 (a : Int)]) (fn := Tryz.f67) (c := codeFd) (n := 49) (by kernel_rfl) (by kernel_rfl) (by kernel_rfl) (by kernel_rfl) ?_
  rcases ha with rfl | rfl | rfl | rfl | rfl | rfl | rfl | rfl
  · exact at_endC (fn := Tryz.f67) 200 (.pointer (some ⟨b, 1, none⟩)) (by kernel_rfl) (by kernel_rfl) fun w3 B3 => ⟨rfl, B3⟩
  · exact at_endC (fn := Tryz.f67) 200 (.pointer (some ⟨b, 3, none⟩)) (by kernel_rfl) (by kernel_rfl) fun w3 B3 => ⟨rfl, B3⟩
  · exact at_endC (fn := Tryz.f67) 200 (.pointer (some ⟨b, 5, none⟩)) (by kernel_rfl) (by kernel_rfl) fun w3 B3 => ⟨rfl, B3⟩
  · exact at_endC (fn := Tryz.f67) 200 (.pointer (some ⟨b, 6, none⟩)) (by kernel_rfl) (by kernel_rfl) fun w3 B3 => ⟨rfl, B3⟩
  · exact at_endC (fn := Tryz.f67) 200 (.pointer (some ⟨b, 7, none⟩)) (by kernel_rfl) (by kernel_rfl) fun w3 B3 => ⟨rfl, B3⟩
  · exact at_endC (fn := Tryz.f67) 200 (.pointer (some ⟨b, 9, none⟩)) (by kernel_rfl) (by kernel_rfl) fun w3 B3 => ⟨rfl, B3⟩
  · exact at_endC (fn := Tryz.f67) 200 (.pointer (some ⟨b, 11, none⟩)) (by kernel_rfl) (by kernel_rfl) fun w3 B3 => ⟨rfl, B3⟩
  · exact at_endC (fn := Tryz.f67) 200 (.pointer (some ⟨b, 12, none⟩)) (by kernel_rfl) (by kernel_rfl) fun w3 B3 => ⟨rfl, B3⟩
end Go.Proofs.YtdcbnkimjhefkaaGreatDoor

namespace Go.Proofs.YtdcbnkimjhefkaaGreatDoor
open Go.RowKit
set_option maxRecDepth 100000
/-- The cell of internal/bytealg.MaxLen. -/
def LenAt (w : World) : Prop := (∃ m, w.cell? ⟨1, 0, none⟩ = some (.int .i64 m)) ∧ 1 < w.heap.size
theorem LenAt.below {w w' : World} (h : LenAt w) (hb : Below w.heap.size w w') : LenAt w' := by
  obtain ⟨⟨m, hm⟩, hl⟩ := h
  exact ⟨⟨m, (World.cell?_of_block (hb.block _ hl)).trans hm⟩, Nat.lt_of_lt_of_le hl hb.size⟩
def linedP (s : List UInt8) : Bool := s.isEmpty || (Lib.hasSuffix s [10] && !(Lib.hasPrefix s [101, 110, 100, 10]) && !(Lib.contains s [10, 101, 110, 100, 10]))
set_option maxHeartbeats 1000000 in
theorem lined_any (s : List UInt8) (m : Int) (w : World) (hl : s.length < 4294967281) (hm : w.cell? ⟨1, 0, none⟩ = some (.int .i64 m)) :
    Calls Tryz.prog 76 #[.string ⟨s.toArray⟩] w fun e w' => e = .returned (.bool (linedP s)) ∧ w' = w := by
  have hsz : (⟨s.toArray⟩ : ByteArray).size = s.length := rfl
  have c1 := fun b (hb : Lib.hasSuffix s [10] = b) => (show Calls Tryz.prog 119 #[.string ⟨s.toArray⟩, .string ⟨#[10]⟩] w fun e w' => e = .returned (.bool b) ∧ w' = w from hb ▸ Tryz.strings_HasSuffix ⟨s.toArray⟩ ⟨#[10]⟩ w (by rw [hsz]; omega))
  have c2 := fun b (hb : Lib.hasPrefix s [101, 110, 100, 10] = b) => (show Calls Tryz.prog 120 #[.string ⟨s.toArray⟩, .string ⟨#[101, 110, 100, 10]⟩] w fun e w' => e = .returned (.bool b) ∧ w' = w from hb ▸ Tryz.strings_HasPrefix ⟨s.toArray⟩ ⟨#[101, 110, 100, 10]⟩ w)
  have c3 := fun b (hb : Lib.contains s [10, 101, 110, 100, 10] = b) => (show Calls Tryz.prog 121 #[.string ⟨s.toArray⟩, .string ⟨#[10, 101, 110, 100, 10]⟩] w fun e w' => e = .returned (.bool b) ∧ w' = w from hb ▸ Tryz.strings_Contains ⟨s.toArray⟩ ⟨#[10, 101, 110, 100, 10]⟩ m w (by rw [hsz]; exact hl) hm)
  by_cases h0 : s = []
  · subst h0
    clear c1 c2 c3
    go_enter Tryz.func76, Tryz.ntmps76
    go_wp2_with fail
    go_ret
    exact ⟨rfl, rfl⟩
  have h0' : s.isEmpty = false := by cases s with
    | nil => exact absurd rfl h0
    | cons => rfl
  have hq : (s == []) = false := by cases s with
    | nil => exact absurd rfl h0
    | cons => rfl
  rcases h1 : Lib.hasSuffix s [10] with _ | _
  · have e : linedP s = false := by simp [linedP, h0', h1]
    rw [e]
    have k1 := c1 _ h1
    clear c1 c2 c3 e h1
    go_enter Tryz.func76, Tryz.ntmps76
    go_wp2_with ((go_at_call 119; refine k1.mono ?_; rintro e w' ⟨rfl, rfl⟩))
    go_ret
    exact ⟨rfl, rfl⟩
  rcases h2 : Lib.hasPrefix s [101, 110, 100, 10] with _ | _
  · rcases h3 : Lib.contains s [10, 101, 110, 100, 10] with _ | _
    · have e : linedP s = true := by simp [linedP, h1, h2, h3]
      rw [e]
      have k1 := c1 _ h1
      have k2 := c2 _ h2
      have k3 := c3 _ h3
      clear c1 c2 c3 e h1 h2 h3
      go_enter Tryz.func76, Tryz.ntmps76
      go_wp2_with (first | (go_at_call 119; refine k1.mono ?_; rintro e w' ⟨rfl, rfl⟩) | (go_at_call 120; refine k2.mono ?_; rintro e w' ⟨rfl, rfl⟩) | (go_at_call 121; refine k3.mono ?_; rintro e w' ⟨rfl, rfl⟩))
      go_ret
      exact ⟨rfl, rfl⟩
    · have e : linedP s = false := by simp [linedP, h0', h3]
      rw [e]
      have k1 := c1 _ h1
      have k2 := c2 _ h2
      have k3 := c3 _ h3
      clear c1 c2 c3 e h1 h2 h3
      go_enter Tryz.func76, Tryz.ntmps76
      go_wp2_with (first | (go_at_call 119; refine k1.mono ?_; rintro e w' ⟨rfl, rfl⟩) | (go_at_call 120; refine k2.mono ?_; rintro e w' ⟨rfl, rfl⟩) | (go_at_call 121; refine k3.mono ?_; rintro e w' ⟨rfl, rfl⟩))
      go_ret
      exact ⟨rfl, rfl⟩
  · have e : linedP s = false := by simp [linedP, h0', h2]
    rw [e]
    have k1 := c1 _ h1
    have k2 := c2 _ h2
    clear c1 c2 c3 e h1 h2
    go_enter Tryz.func76, Tryz.ntmps76
    go_wp2_with (first | (go_at_call 119; refine k1.mono ?_; rintro e w' ⟨rfl, rfl⟩) | (go_at_call 120; refine k2.mono ?_; rintro e w' ⟨rfl, rfl⟩))
    go_ret
    exact ⟨rfl, rfl⟩
end Go.Proofs.YtdcbnkimjhefkaaGreatDoor

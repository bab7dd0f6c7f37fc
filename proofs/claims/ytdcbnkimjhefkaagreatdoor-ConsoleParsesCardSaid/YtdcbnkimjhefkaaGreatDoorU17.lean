/-
 One operation by its own law; calls of closures; ranges over strings.
 find: the form for which a closure says yes.
 The closures of write and read; field.
 lined; the facts about the listed variables.
 strconv.FormatUint at base 10.
 The shelf's contracts of two methods of strings.Builder, laid over this program by hand.
 The state of a function that writes to a builder: what stays.
 write: the lines of a command.
 write: a letter's item.
 write: the loop over a form's letters.
-/
import Derived.Test.YtdcbnkimjhefkaaGreatDoorU16
import Derived.Test.YtdcbnkimjhefkaaGreatDoorU06
import Derived.Below
import Derived.Test.YtdcbnkimjhefkaaGreatDoorU15
import Derived.Test.YtdcbnkimjhefkaaGreatDoorU14
import Derived.Test.YtdcbnkimjhefkaaGreatDoorProg
import Derived.Test.YtdcbnkimjhefkaaGreatDoorUSh
import Derived.Lib.AppendIntMem
import Derived.Shelf.Strconv.Itoa3
import Derived.Shelf.Strings.BuilderK
import Derived.Lib.ItoaLen
namespace Go.Proofs.YtdcbnkimjhefkaaGreatDoor
section
variable {P : Program} {f : FuncId} {R : Ending → World → Prop}
theorem Kept.below {O : List Nat} {B : Nat} {w w' : World} (h : Kept O B w w') {B' : Nat} (hB : B' ≤ B) (hO : ∀ k ∈ O, B' ≤ k) : Go.RowKit.Below B' w w' :=
 ⟨h.os, h.tape, h.output, h.size, fun k hk => h.block k (by omega) fun hm => by have := hO k hm; omega⟩
theorem lies_mk (w : World) (mem : List Ent) (hg : ∀ e ∈ mem, e.good w) (hn : (mem.map (·.id)).Nodup) : Lies (mem.map (·.id)) w.heap.size w ⟨w.heap.size, mem, (0, 0), []⟩ := by
 refine ⟨⟨rfl, hg, fun i j e e' hi hj _ hne he => ?_⟩, Nat.le_refl _, fun e he _ => .inl (List.mem_map.2 ⟨e, he, rfl⟩)⟩
 have h1 : (mem.map (·.id))[i]? = some e.id := by rw [List.getElem?_map, hi]; rfl
 have h2 : (mem.map (·.id))[j]? = some e.id := by rw [List.getElem?_map, hj]; exact congrArg some he.symm
 exact hne ((List.getElem?_inj (List.getElem?_eq_some_iff.1 h1).1 hn).1 (h1.trans h2.symm))
theorem good_own {w : World} {b : Nat} {cs : List Value} {t : TypeId} (h : w.heap[b]? = some (.cells cs.toArray t (0, 0))) : Ent.good w ⟨b, 0, cs, t, true⟩ := by
 refine ⟨(Array.getElem?_eq_some_iff.1 h).1, ?_⟩
 rw [if_pos rfl]
 exact ⟨h, rfl⟩
def curOp (n : Nat) (E : Nat → Value) : List Item → Option Oper
 | .inRegion ops (i :: _) :: _ => match ops[i]? with
  | some o => match Region.wanted o (yieldE n ops E) with
   | true => some o
   | false => none
  | none => none
 | _ => none
theorem at_op {n : Nat} {todo : List Item} {E : Nat → Value} {w w' : World} {v : Value} (o : Oper) (hc : curOp n E todo = some o) (hx : (execOp (evE n E) o).run P w = .ok (.value v) w') (h : At P f R (popOp todo) (Fr n (updO E o.dst v)) w') : At P f R todo (Fr n E) w := by
 unfold curOp at hc
 split at hc
 ·rename_i ops i r k
  split at hc
  ·rename_i o' ho
   split at hc
   ·rename_i hw
    obtain rfl := Option.some.inj hc
    refine wpOps_some ho (by rw [yielded_Fr]; exact hw) ?_
    unfold Oper.wp
    rw [eval_Fr, hx]
    show wpOps P ops _ r ((Fr n E).put o'.dst v) w'
    rw [Fr_put]
    exact h
   ·cases hc
  ·cases hc
 ·cases hc
def curCallV (n : Nat) (E : Nat → Value) (todo : List Item) : Option (FuncId × List Value × Option Tmp) := match curOp n E todo with
 | some o => match o.op with
  | .call ⟨.value x, xs, _⟩ => match evE n E x with
   | .func (.func g) ⟨first⟩ ⟨captured⟩ => some (g, first ++ (xs.toList.map (evE n E) ++ captured), o.dst)
   | _ => none
  | _ => none
 | none => none
def curIdx (n : Nat) (E : Nat → Value) (todo : List Item) : Option (TypeId × Value × Value × Option Tmp) := match curOp n E todo with
 | some o => match o.op with
  | .index t x i => some (t, evE n E x, evE n E i, o.dst)
  | _ => none
 | none => none
def curRange (n : Nat) (E : Nat → Value) (todo : List Item) : Option (TypeId × Value × Option Tmp) := match curOp n E todo with
 | some o => match o.op with
  | .range t x => some (t, evE n E x, o.dst)
  | _ => none
 | none => none
def curNext (n : Nat) (E : Nat → Value) (todo : List Item) : Option (Value × Bool × Option Tmp) := match curOp n E todo with
 | some o => match o.op with
  | .next x b => some (evE n E x, b, o.dst)
  | _ => none
 | none => none
theorem at_callv {n : Nat} {todo : List Item} {E : Nat → Value} {w : World} (g : FuncId) (args : List Value) (dst : Option Tmp) (hc : curCallV n E todo = some (g, args, dst)) (hg : callable P g = true)
  (h : Calls P g args.toArray w fun e w' => ∃ v, e = .returned v ∧ At P f R (popOp todo) (Fr n (updO E dst v)) w') : At P f R todo (Fr n E) w := by
 unfold curCallV at hc
 split at hc
 ·rename_i o hcur
  split at hc
  ·rename_i x xs ats ho
   split at hc
   ·rename_i g' first captured hx
    simp only [Option.some.injEq, Prod.mk.injEq] at hc
    obtain ⟨rfl, ha, rfl⟩ := hc
    unfold curOp at hcur
    split at hcur
    ·rename_i ops i r k
     split at hcur
     ·rename_i o' ho'
      split at hcur
      ·rename_i hw
       obtain rfl := Option.some.inj hcur
       refine wpOps_some ho' (by rw [yielded_Fr]; exact hw) ?_
       unfold Oper.wp
       rw [eval_Fr]
       have e : (execOp (evE n E) o').run P w = .ok (.enter g' args.toArray) w := by
        rw [← run_callable hg args.toArray w, ← ha]
        have e1 : ((⟨first⟩ : Array Value) ++ xs.map (evE n E)) ++ (⟨captured⟩ : Array Value) = (first ++ (xs.toList.map (evE n E) ++ captured)).toArray := by
         apply Array.ext'
         simp
        rw [← e1]
        simp only [execOp, ho, resolve, hx]
        rfl
       rw [e]
       refine h.mono fun en w' hh => ?_
       obtain ⟨v, rfl, hat⟩ := hh
       show wpOps P ops _ r ((Fr n E).put o'.dst v) w'
       rw [Fr_put]
       exact hat
      ·cases hcur
     ·cases hcur
    ·cases hcur
   ·cases hc
  ·cases hc
 ·cases hc
theorem run_val {s : Sem Value} {v : Value} {w w' : World} (h : s.run P w = .ok v w') : (do pure (Next.value (← s)) : Sem Next).run P w = .ok (.value v) w' := by
 show (s.bind fun v => Sem.pure (Next.value v)).run P w = _
 rw [Sem.run_bind', h]
 rfl
theorem at_index {n : Nat} {todo : List Item} {E : Nat → Value} {w : World} (t : TypeId) (a i : Value) (dst : Option Tmp) (v : Value) (hc : curIdx n E todo = some (t, a, i, dst)) (hx : (Instr.index t a i).run P w = .ok v w) (h : At P f R (popOp todo) (Fr n (updO E dst v)) w) : At P f R todo (Fr n E) w := by
 unfold curIdx at hc
 split at hc
 ·rename_i o hcur
  split at hc
  ·rename_i t' x y ho
   simp only [Option.some.injEq, Prod.mk.injEq] at hc
   obtain ⟨rfl, rfl, rfl, rfl⟩ := hc
   refine at_op o hcur (v := v) (w' := w) ?_ h
   simp only [execOp, ho]
   exact run_val hx
  ·cases hc
 ·cases hc
theorem at_range {n : Nat} {todo : List Item} {E : Nat → Value} {w : World} (t : TypeId) (s : ByteArray) (dst : Option Tmp) (hc : curRange n E todo = some (t, .string s, dst)) (ht : P.underlying t = some .string)
  (h : At P f R (popOp todo) (Fr n (updO E dst (.pointer (some ⟨w.heap.size, 0, none⟩)))) (w.alloc (.stringIter s 0))) : At P f R todo (Fr n E) w := by
 unfold curRange at hc
 split at hc
 ·rename_i o hcur
  split at hc
  ·rename_i t' x ho
   simp only [Option.some.injEq, Prod.mk.injEq] at hc
   obtain ⟨rfl, hx, rfl⟩ := hc
   refine at_op o hcur (v := .pointer (some ⟨w.heap.size, 0, none⟩)) (w' := w.alloc (.stringIter s 0)) ?_ h
   simp only [execOp, ho, hx]
   refine run_val ?_
   simp only [Instr.range, Sem.run_bind, run_underlying ht, Result.andThen]
   rfl
  ·cases hc
 ·cases hc
theorem at_next {n : Nat} {todo : List Item} {E : Nat → Value} {w : World} (k : Nat) (s : ByteArray) (pos c : Nat) (dst : Option Tmp) (hc : curNext n E todo = some (.pointer (some ⟨k, 0, none⟩), true, dst)) (hk : w.heap[k]? = some (.stringIter s pos)) (hlt : pos < s.size) (hdec : Utf8.decode s pos = (c, 1))
  (h : At P f R (popOp todo) (Fr n (updO E dst (.tuple #[.bool true, .int .i64 pos, .int .i32 c]))) { w with heap := w.heap.setIfInBounds k (.stringIter s (pos + 1)) }) : At P f R todo (Fr n E) w := by
 unfold curNext at hc
 split at hc
 ·rename_i o hcur
  split at hc
  ·rename_i x b ho
   simp only [Option.some.injEq, Prod.mk.injEq] at hc
   obtain ⟨hx, rfl, rfl⟩ := hc
   refine at_op o hcur (v := .tuple #[.bool true, .int .i64 pos, .int .i32 c]) (w' := { w with heap := w.heap.setIfInBounds k (.stringIter s (pos + 1)) }) ?_ h
   simp only [execOp, ho, hx]
   refine run_val ?_
   have e1 : (getObj k).run P w = .ok (.stringIter s pos) w := by simp [getObj, Sem.run, hk]
   have e2 : (setObj k (.stringIter s (pos + 1))).run P w = .ok () { w with heap := w.heap.setIfInBounds k (.stringIter s (pos + 1)) } := by simp [setObj, Sem.run, hk]
   simp only [Instr.next, Sem.run_bind, e1, Result.andThen, hlt, if_true, hdec, e2]
   rfl
  ·cases hc
 ·cases hc
theorem at_over {n : Nat} {todo : List Item} {E : Nat → Value} {w : World} (k : Nat) (s : ByteArray) (pos : Nat) (dst : Option Tmp) (hc : curNext n E todo = some (.pointer (some ⟨k, 0, none⟩), true, dst)) (hk : w.heap[k]? = some (.stringIter s pos)) (hlt : ¬ pos < s.size)
  (h : At P f R (popOp todo) (Fr n (updO E dst (.tuple #[.bool false]))) w) : At P f R todo (Fr n E) w := by
 unfold curNext at hc
 split at hc
 ·rename_i o hcur
  split at hc
  ·rename_i x b ho
   simp only [Option.some.injEq, Prod.mk.injEq] at hc
   obtain ⟨hx, rfl, rfl⟩ := hc
   refine at_op o hcur (v := .tuple #[.bool false]) (w' := w) ?_ h
   simp only [execOp, ho, hx]
   refine run_val ?_
   have e1 : (getObj k).run P w = .ok (.stringIter s pos) w := by simp [getObj, Sem.run, hk]
   simp only [Instr.next, Sem.run_bind, e1, Result.andThen, hlt, if_false]
   rfl
  ·cases hc
 ·cases hc
def curLoad (n : Nat) (E : Nat → Value) (todo : List Item) : Option (TypeId × Value × Option Tmp) := match curOp n E todo with
 | some o => match o.op with
  | .load t x => some (t, evE n E x, o.dst)
  | _ => none
 | none => none
theorem at_load {n : Nat} {todo : List Item} {E : Nat → Value} {w : World} (t : TypeId) (b o : Nat) (cs : List Value) (dst : Option Tmp) (hc : curLoad n E todo = some (t, .pointer (some ⟨b, o, none⟩), dst)) (h1 : isAggB P t = some true) (h2 : sizeB P t = some cs.length) (hw : w.rangeAt b o cs)
  (h : At P f R (popOp todo) (Fr n (updO E dst (.agg ⟨cs⟩))) w) : At P f R todo (Fr n E) w := by
 unfold curLoad at hc
 split at hc
 ·rename_i op hcur
  split at hc
  ·rename_i t' x ho
   simp only [Option.some.injEq, Prod.mk.injEq] at hc
   obtain ⟨rfl, hx, rfl⟩ := hc
   refine at_op op hcur (v := .agg ⟨cs⟩) (w' := w) ?_ h
   have hl := run_loadCells_list (P := P) w ⟨b, o, none⟩ cs fun j v hj => by
    rw [add_addr _ _ rfl]
    exact hw j v hj
   simp [execOp, ho, hx, Instr.loadAt, Instr.sureAddr, loadVar, run_isAgg h1, run_size h2, hl]
  ·cases hc
 ·cases hc
theorem at_load1 {n : Nat} {todo : List Item} {E : Nat → Value} {w : World} (t : TypeId) (b o : Nat) (v : Value) (dst : Option Tmp) (hc : curLoad n E todo = some (t, .pointer (some ⟨b, o, none⟩), dst)) (h1 : isAggB P t = some false) (hw : w.cell? ⟨b, o, none⟩ = some v)
  (h : At P f R (popOp todo) (Fr n (updO E dst v)) w) : At P f R todo (Fr n E) w := by
 unfold curLoad at hc
 split at hc
 ·rename_i op hcur
  split at hc
  ·rename_i t' x ho
   simp only [Option.some.injEq, Prod.mk.injEq] at hc
   obtain ⟨rfl, hx, rfl⟩ := hc
   refine at_op op hcur (v := v) (w' := w) ?_ h
   simp [execOp, ho, hx, Instr.loadAt, Instr.sureAddr, loadVar, run_isAgg h1, load, Sem.run, hw]
  ·cases hc
 ·cases hc
def guardedR (ops : Array Oper) : Bool := ops.toList.any (fun o => o.guard.isSome)
def stepG : List Item → Option (List Item)
 | .code (.region i ops false) :: k => match guardedR ops with
  | true => none
  | false => stepT (.code (.region i ops false) :: k)
 | t => stepT t
def cntG : Nat → List Item → Nat
 | 0, _ => 0
 | m + 1, t => match stepG t with
  | some t' => cntG m t' + 1
  | none => 0
noncomputable def advG (t : List Item) : List Item := advT (cntG 90 t) t
theorem at_endT {n : Nat} {fn : Func} {E : Nat → Value} {w : World} {todo : List Item} (m : Nat) (v : Value) (hf : P.funcs[f]? = some fn)
  (he : (fun a : St => (isRet a.todo, a.ms.mem, a.ms.sz, a.ms.eqs, (lrun P (resultsE fn n a.env) ⟨0, [], (0, 0), []⟩).map (fun r => (r.1, r.2.eqs)))) (adv P n m ⟨todo, E, ⟨w.heap.size, [], (0, 0), []⟩, []⟩) = (true, [], w.heap.size, [], some (v, [])))
  (hk : ∀ w', Go.RowKit.Below w.heap.size w w' → R (.returned v) w') : At P f R todo (Fr n E) w := by
 simp only [Prod.mk.injEq] at he
 obtain ⟨h1, h2, h3, h4, h5⟩ := he
 refine at_adv (O := []) (B := w.heap.size) m ⟨todo, E, ⟨w.heap.size, [], (0, 0), []⟩, []⟩ (lies_nil w) (by rw [h4]; rfl) fun w' hL' hK => ?_
 have h6 : (lrun P (resultsE fn n (adv P n m ⟨todo, E, ⟨w.heap.size, [], (0, 0), []⟩, []⟩).env) ⟨0, [], (0, 0), []⟩).map (·.1) = some v := by
  cases hl : lrun P (resultsE fn n (adv P n m ⟨todo, E, ⟨w.heap.size, [], (0, 0), []⟩, []⟩).env) ⟨0, [], (0, 0), []⟩ with
  | none => rw [hl] at h5; cases h5
  | some r => rw [hl] at h5; simp at h5; simp [h5.1]
 refine at_ret (fn := fn) h1 hf ⟨0, [], (0, 0), []⟩ (fun e he => (by cases he)) v h6 ?_ (hk w' (hK.below (Nat.le_refl _) (fun k hk => by cases hk)))
 cases hl : lrun P (resultsE fn n (adv P n m ⟨todo, E, ⟨w.heap.size, [], (0, 0), []⟩, []⟩).env) ⟨0, [], (0, 0), []⟩ with
 | none => rfl
 | some r =>
  rw [hl] at h5
  simp at h5
  simp [h5.2]
theorem at_endC {n : Nat} {fn : Func} {E : Nat → Value} {w : World} {todo : List Item} (m : Nat) (v : Value) (hf : P.funcs[f]? = some fn)
  (he : (fun a : St => (isRet a.todo, a.ms.mem, a.ms.sz, a.ms.eqs, (lrun P (resultsE fn n a.env) ⟨0, [], (0, 0), []⟩).map (fun r => (r.1, r.2.eqs)))) (advC P [] n m ⟨todo, E, ⟨w.heap.size, [], (0, 0), []⟩, []⟩) = (true, [], w.heap.size, [], some (v, [])))
  (hk : ∀ w', Go.RowKit.Below w.heap.size w w' → R (.returned v) w') : At P f R todo (Fr n E) w := by
 simp only [Prod.mk.injEq] at he
 obtain ⟨h1, h2, h3, h4, h5⟩ := he
 refine advC_sound (O := []) (B := w.heap.size) (H := []) m ⟨todo, E, ⟨w.heap.size, [], (0, 0), []⟩, []⟩ w (lies_nil w) (by rw [h4]; intro p hp; cases hp) fun w' hL' hK => ?_
 have h6 : (lrun P (resultsE fn n (advC P [] n m ⟨todo, E, ⟨w.heap.size, [], (0, 0), []⟩, []⟩).env) ⟨0, [], (0, 0), []⟩).map (·.1) = some v := by
  cases hl : lrun P (resultsE fn n (advC P [] n m ⟨todo, E, ⟨w.heap.size, [], (0, 0), []⟩, []⟩).env) ⟨0, [], (0, 0), []⟩ with
  | none => rw [hl] at h5; cases h5
  | some r => rw [hl] at h5; simp at h5; simp [h5.1]
 refine at_ret (fn := fn) h1 hf ⟨0, [], (0, 0), []⟩ (fun e he => (by cases he)) v h6 ?_ (hk w' (hK.below (Nat.le_refl _) (fun k hk => by cases hk)))
 cases hl : lrun P (resultsE fn n (advC P [] n m ⟨todo, E, ⟨w.heap.size, [], (0, 0), []⟩, []⟩).env) ⟨0, [], (0, 0), []⟩ with
 | none => rfl
 | some r =>
  rw [hl] at h5
  simp at h5
  simp [h5.2]
end
end Go.Proofs.YtdcbnkimjhefkaaGreatDoor

namespace Go.Proofs.YtdcbnkimjhefkaaGreatDoor
open Go.RowKit
noncomputable def codeF : Code := Tryz.f63.body.getD .skip
noncomputable def tFa : List Item := advT 8 [.code codeF]
noncomputable def tF0 : List Item := advT 60 (popOp tFa)
noncomputable def tF1 : List Item := advT 60 (bodyT tF0)
noncomputable def tF2 : List Item := advT 60 (thenT tF1)
noncomputable def tF3 : List Item := advT 60 (popOp tF2)
noncomputable def tF4 : List Item := advT 60 (popOp tF3)
noncomputable def tF5 : List Item := advT 60 (thenT tF4)
noncomputable def tF6 : List Item := advT 60 (elseT tF4)
noncomputable def tF7 : List Item := advT 60 (elseT tF1)
def FormsAt (w : World) : Prop := w.rangeAt 0 0 formsL ∧ 0 < w.heap.size
theorem FormsAt.below {w w' : World} (h : FormsAt w) (hb : Below w.heap.size w w') : FormsAt w' :=
 ⟨fun j v hv => (World.cell?_of_block (hb.block _ h.2)).trans (h.1 j v hv), Nat.lt_of_lt_of_le h.2 hb.size⟩
theorem index_forms (w : World) : ∀ (i : Nat) (hi : i < forms.length), (Instr.index 194 (.agg ⟨formsL⟩) (.int .i64 (i : Int))).run Tryz.prog w = .ok (.agg ⟨(forms[i]).cells⟩) w
 | 0, _ => by kernel_rfl
 | 1, _ => by kernel_rfl
 | 2, _ => by kernel_rfl
 | 3, _ => by kernel_rfl
 | 4, _ => by kernel_rfl
 | 5, _ => by kernel_rfl
 | 6, _ => by kernel_rfl
 | 7, _ => by kernel_rfl
 | 8, _ => by kernel_rfl
 | 9, _ => by kernel_rfl
 | 10, _ => by kernel_rfl
 | 11, _ => by kernel_rfl
 | 12, _ => by kernel_rfl
 | 13, _ => by kernel_rfl
 | n + 14, h => by rw [forms_len] at h; omega
def idxOf (v : Value) : Nat := match v with
 | .int _ n => n.toNat
 | _ => 0
set_option maxRecDepth 100000 in
theorem find_any (g : FuncId) (cap : List Value) (p : Form → Bool) (w : World) (hF : FormsAt w) (hg : callable Tryz.prog g = true)
  (hp : ∀ F ∈ forms, ∀ w', Below w.heap.size w w' → Calls Tryz.prog g (.agg ⟨F.cells⟩ :: cap).toArray w' fun e w'' => e = .returned (.bool (p F)) ∧ Below w'.heap.size w' w'') :
  Calls Tryz.prog 63 #[.func (.func g) #[] ⟨cap⟩] w fun e w' => e = .returned (.tuple #[.agg ⟨((forms.find? p).getD .zero).cells⟩, .bool (forms.find? p).isSome]) ∧ Below w.heap.size w w' := by
 refine calls_at (args := [.func (.func g) #[] ⟨cap⟩]) (fn := Tryz.f63) (c := codeF) (n := 16) (by kernel_rfl) (by kernel_rfl) (by kernel_rfl) (by kernel_rfl) ?_
 refine at_run 8 [.code codeF] w.heap.size [] [] tFa [(0, .func (.func g) #[] ⟨cap⟩), (2, .pointer (some ⟨w.heap.size, 0, none⟩))] (w.heap.size + 1) [⟨w.heap.size, 0, Form.zero.cells, 121, true⟩] (lies_nil w) (by kernel_rfl) fun w1 E1 hL1 hK1 => ?_
 have B1 : Below w.heap.size w w1 := hK1.below (Nat.le_refl _) (fun k hk => by cases hk)
 have hz1 := (hL1.sat.good ⟨w.heap.size, 0, Form.zero.cells, 121, true⟩ (by simp)).2
 rw [if_pos rfl] at hz1
 have hs1 : w1.heap.size = w.heap.size + 1 := hL1.sat.size
 refine at_load 194 0 0 formsL (some 6) (by kernel_rfl) (by kernel_rfl) (by kernel_rfl) (hF.below B1).1 ?_
 refine at_run 60 (popOp tFa) w1.heap.size [] [] tF0 [(0, .func (.func g) #[] ⟨cap⟩), (2, .pointer (some ⟨w.heap.size, 0, none⟩)), (6, .agg ⟨formsL⟩), (7, .int .i64 0)] w1.heap.size [] (lies_nil w1) (by kernel_rfl) fun w2 E2 hL2 hK2 => ?_
 have B2 : Below w1.heap.size w1 w2 := hK2.below (Nat.le_refl _) (fun k hk => by cases hk)
 refine at_loop (by kernel_rfl) (fun E wx => ∃ (i : Nat) (E0 : Nat → Value), i ≤ 14 ∧ E = updL E0 [(0, .func (.func g) #[] ⟨cap⟩), (2, .pointer (some ⟨w.heap.size, 0, none⟩)), (6, .agg ⟨formsL⟩), (7, .int .i64 (i : Int))] ∧ (∀ F ∈ forms.take i, p F = false) ∧ Below w.heap.size w wx ∧ w.heap.size < wx.heap.size ∧ wx.heap[w.heap.size]? = some (.cells Form.zero.cells.toArray 121 (0, 0)))
  (fun E _ => 14 - idxOf (E 7)) ?_ ?_
 ·refine ⟨0, E2, by omega, rfl, by simp, B1.trans (B2.mono (by omega)), by have := B2.size; omega, ?_⟩
  rw [B2.block _ (by omega)]
  exact hz1.1
 rintro E wx ⟨i, E0, hi, rfl, hno, hB, hlt, hz⟩ hagain
 refine at_run 60 (bodyT tF0) wx.heap.size [] [] tF1 [(0, .func (.func g) #[] ⟨cap⟩), (2, .pointer (some ⟨w.heap.size, 0, none⟩)), (6, .agg ⟨formsL⟩), (7, .int .i64 (i : Int)), (8, .bool (decide ((i : Int) < 14)))] wx.heap.size [] (lies_nil wx) (by kernel_rfl) fun w3 E3 hL3 hK3 => ?_
 have B3 : Below wx.heap.size wx w3 := hK3.below (Nat.le_refl _) (fun k hk => by cases hk)
 have hz3 : w3.heap[w.heap.size]? = some (.cells Form.zero.cells.toArray 121 (0, 0)) := by rw [B3.block _ hlt]; exact hz
 have BB3 : Below w.heap.size w w3 := hB.trans (B3.mono (by have := hB.size; omega))
 have hlt3 : w.heap.size < w3.heap.size := by have := B3.size; omega
 refine at_cond (decide ((i : Int) < 14)) (by kernel_rfl) (fun ht => ?_) (fun hf => ?_)
 ·have hi14 : i < forms.length := by rw [forms_len]; have := of_decide_eq_true ht; omega
  have hmem : forms[i] ∈ forms := List.getElem_mem hi14
  generalize hFi : forms[i] = F at hmem
  have hix := index_forms
  refine at_run 60 (thenT tF1) w3.heap.size [] [] tF2 [(0, .func (.func g) #[] ⟨cap⟩), (2, .pointer (some ⟨w.heap.size, 0, none⟩)), (6, .agg ⟨formsL⟩), (7, .int .i64 (i : Int))] w3.heap.size [] (lies_nil w3) (by kernel_rfl) fun w4 E4 hL4 hK4 => ?_
  have B4 : Below w3.heap.size w3 w4 := hK4.below (Nat.le_refl _) (fun k hk => by cases hk)
  refine at_index 194 (.agg ⟨formsL⟩) (.int .i64 (i : Int)) (some 9) (.agg ⟨F.cells⟩) (by kernel_rfl) (by rw [← hFi]; exact index_forms w4 i hi14) ?_
  refine at_run 60 (popOp tF2) w4.heap.size [] [(0, 0), (0, 0)] tF3 [(0, .func (.func g) #[] ⟨cap⟩), (2, .pointer (some ⟨w.heap.size, 0, none⟩)), (5, .pointer (some ⟨w4.heap.size, 0, none⟩)), (6, .agg ⟨formsL⟩), (7, .int .i64 (i : Int)), (10, .func (.func g) #[] ⟨cap⟩), (11, .agg ⟨F.cells⟩)] (w4.heap.size + 1) [⟨w4.heap.size, 0, F.cells, 121, true⟩] (lies_nil w4) (by kernel_rfl) fun w5 E5 hL5 hK5 => ?_
  have B5 : Below w4.heap.size w4 w5 := hK5.below (Nat.le_refl _) (fun k hk => by cases hk)
  have hf5 := (hL5.sat.good ⟨w4.heap.size, 0, F.cells, 121, true⟩ (by simp)).2
  rw [if_pos rfl] at hf5
  have hs5 : w5.heap.size = w4.heap.size + 1 := hL5.sat.size
  have hs4 := B4.size
  have BB5 : Below w.heap.size w w5 := BB3.trans ((B4.mono (by have := hB.size; omega)).trans (B5.mono (by omega)))
  refine at_callv g (.agg ⟨F.cells⟩ :: cap) (some 12) (by kernel_rfl) hg ((hp F hmem w5 BB5).mono fun e w6 hh => ?_)
  obtain ⟨rfl, B6⟩ := hh
  refine ⟨_, rfl, ?_⟩
  have hs6 := B6.size
  have hz6 : w6.heap[w.heap.size]? = some (.cells Form.zero.cells.toArray 121 (0, 0)) := by rw [B6.block _ (by omega), B5.block _ (by omega), B4.block _ hlt3]; exact hz3
  have hf6 : w6.heap[w4.heap.size]? = some (.cells F.cells.toArray 121 (0, 0)) := by rw [B6.block _ (by omega)]; exact hf5.1
  refine at_run 60 (popOp tF3) w6.heap.size [] [] tF4 [(0, .func (.func g) #[] ⟨cap⟩), (2, .pointer (some ⟨w.heap.size, 0, none⟩)), (5, .pointer (some ⟨w4.heap.size, 0, none⟩)), (6, .agg ⟨formsL⟩), (7, .int .i64 (i : Int)), (12, .bool (p F))] w6.heap.size [] (lies_nil w6) (by kernel_rfl) fun w7 E7 hL7 hK7 => ?_
  have B7 : Below w6.heap.size w6 w7 := hK7.below (Nat.le_refl _) (fun k hk => by cases hk)
  have hz7 : w7.heap[w.heap.size]? = some (.cells Form.zero.cells.toArray 121 (0, 0)) := by rw [B7.block _ (by omega)]; exact hz6
  have hf7 : w7.heap[w4.heap.size]? = some (.cells F.cells.toArray 121 (0, 0)) := by rw [B7.block _ (by omega)]; exact hf6
  have BB7 : Below w.heap.size w w7 := BB5.trans ((B6.mono (by omega)).trans (B7.mono (by omega)))
  have hs7 := B7.size
  have hfind : forms = forms.take i ++ F :: forms.drop (i + 1) := by
   rw [← hFi, List.getElem_cons_drop, List.take_append_drop]
  refine at_cond (p F) (by kernel_rfl) (fun hpt => ?_) (fun hpf => ?_)
  ·have hres : forms.find? p = some F := by
    rw [hfind, List.find?_append, List.find?_eq_none.2 (fun x hx => by rw [hno x hx]; simp), Option.none_or, List.find?_cons, hpt]
   refine at_run 60 (thenT tF4) w7.heap.size [⟨w.heap.size, 0, Form.zero.cells, 121, true⟩, ⟨w4.heap.size, 0, F.cells, 121, true⟩] [(1, 0), (0, 0)] tF5 [(2, .pointer (some ⟨w.heap.size, 0, none⟩)), (3, .bool true)] w7.heap.size [⟨w.heap.size, 0, F.cells, 121, true⟩, ⟨w4.heap.size, 0, F.cells, 121, true⟩]
    (lies_mk w7 [⟨w.heap.size, 0, Form.zero.cells, 121, true⟩, ⟨w4.heap.size, 0, F.cells, 121, true⟩] (fun e he => by
     simp only [List.mem_cons, List.not_mem_nil, or_false] at he
     rcases he with rfl | rfl
     ·exact good_own hz7
     ·exact good_own hf7) (by simp; omega)) (by kernel_rfl) fun w8 E8 hL8 hK8 => ?_
   have B8 : Below w.heap.size w7 w8 := hK8.below (by omega) (fun k hk => by simp at hk; omega)
   refine at_ret (fn := Tryz.f63) (by kernel_rfl) (by kernel_rfl) ⟨0, [⟨w.heap.size, 0, F.cells, 121, true⟩, ⟨w4.heap.size, 0, F.cells, 121, true⟩], (0, 0), []⟩ hL8.sat.good (.tuple #[.agg ⟨F.cells⟩, .bool true]) (by kernel_rfl) (by kernel_rfl) ?_
   rw [hres]
   exact ⟨rfl, BB7.trans B8⟩
  ·refine at_run 60 (elseT tF4) w7.heap.size [] [] tF6 [(0, .func (.func g) #[] ⟨cap⟩), (2, .pointer (some ⟨w.heap.size, 0, none⟩)), (6, .agg ⟨formsL⟩), (7, .int .i64 (IntKind.i64.wrap ((i : Int) + 1)))] w7.heap.size [] (lies_nil w7) (by kernel_rfl) fun w8 E8 hL8 hK8 => ?_
   have B8 : Below w7.heap.size w7 w8 := hK8.below (Nat.le_refl _) (fun k hk => by cases hk)
   have hw : IntKind.i64.wrap ((i : Int) + 1) = ((i + 1 : Nat) : Int) := by
    rw [IntWalk.i64_in _ (by have := of_decide_eq_true ht; omega)]
    omega
   rw [hw]
   refine hagain _ _ ⟨i + 1, E8, by rw [forms_len] at hi14; omega, rfl, fun G hG => ?_, BB7.trans (B8.mono (by omega)), by have := B8.size; omega, by rw [B8.block _ (by omega)]; exact hz7⟩ ?_
   ·rw [List.take_add_one, List.getElem?_eq_getElem hi14, hFi] at hG
    simp only [Option.toList_some, List.mem_append, List.mem_singleton] at hG
    rcases hG with hG | rfl
    ·exact hno G hG
    ·exact hpf
   ·show 14 - idxOf (.int .i64 ((i + 1 : Nat) : Int)) < 14 - idxOf (.int .i64 (i : Int))
    simp only [idxOf, Int.toNat_natCast]
    rw [forms_len] at hi14
    omega
 ·have hi14 : i = 14 := by have := of_decide_eq_false hf; omega
  have hres : forms.find? p = none := by
   rw [List.find?_eq_none]
   intro x hx
   rw [hno x (by rw [hi14]; exact hx)]
   simp
  refine at_run 60 (elseT tF1) w3.heap.size [⟨w.heap.size, 0, Form.zero.cells, 121, true⟩] [(0, 0)] tF7 [(2, .pointer (some ⟨w.heap.size, 0, none⟩)), (3, .bool false)] w3.heap.size [⟨w.heap.size, 0, Form.zero.cells, 121, true⟩]
   (lies_mk w3 [⟨w.heap.size, 0, Form.zero.cells, 121, true⟩] (fun e he => by
    obtain rfl := List.mem_singleton.1 he
    exact good_own hz3) (by simp)) (by kernel_rfl) fun w4 E4 hL4 hK4 => ?_
  have B4 : Below w.heap.size w3 w4 := hK4.below (by omega) (fun k hk => by simp at hk; omega)
  refine at_ret (fn := Tryz.f63) (by kernel_rfl) (by kernel_rfl) ⟨0, [⟨w.heap.size, 0, Form.zero.cells, 121, true⟩], (0, 0), []⟩ hL4.sat.good (.tuple #[.agg ⟨Form.zero.cells⟩, .bool false]) (by kernel_rfl) (by kernel_rfl) ?_
  rw [hres]
  exact ⟨rfl, BB3.trans B4⟩
end Go.Proofs.YtdcbnkimjhefkaaGreatDoor

namespace Go.Proofs.YtdcbnkimjhefkaaGreatDoor
open Go.RowKit
set_option maxRecDepth 100000
noncomputable def codeFd : Code := Tryz.f67.body.getD .skip
def fieldOff (a : Nat) : Nat := if a = 69 then 1 else if a = 68 then 3 else if a = 86 then 5 else if a = 88 then 6 else if a = 82 then 7 else if a = 80 then 9 else if a = 84 then 11 else 12
theorem field_any (b : Nat) (a : Nat) (ha : a = 69 ∨ a = 68 ∨ a = 86 ∨ a = 88 ∨ a = 82 ∨ a = 80 ∨ a = 84 ∨ a = 83) (w : World) :
  Calls Tryz.prog 67 [.pointer (some ⟨b, 0, none⟩), .int .i32 (a : Int)].toArray w fun e w' => e = .returned (.pointer (some ⟨b, fieldOff a, none⟩)) ∧ Below w.heap.size w w' := by
 refine calls_at (args := [.pointer (some ⟨b, 0, none⟩), .int .i32 (a : Int)]) (fn := Tryz.f67) (c := codeFd) (n := 49) (by kernel_rfl) (by kernel_rfl) (by kernel_rfl) (by kernel_rfl) ?_
 rcases ha with rfl | rfl | rfl | rfl | rfl | rfl | rfl | rfl
 ·exact at_endC (fn := Tryz.f67) 200 (.pointer (some ⟨b, 1, none⟩)) (by kernel_rfl) (by kernel_rfl) fun w3 B3 => ⟨rfl, B3⟩
 ·exact at_endC (fn := Tryz.f67) 200 (.pointer (some ⟨b, 3, none⟩)) (by kernel_rfl) (by kernel_rfl) fun w3 B3 => ⟨rfl, B3⟩
 ·exact at_endC (fn := Tryz.f67) 200 (.pointer (some ⟨b, 5, none⟩)) (by kernel_rfl) (by kernel_rfl) fun w3 B3 => ⟨rfl, B3⟩
 ·exact at_endC (fn := Tryz.f67) 200 (.pointer (some ⟨b, 6, none⟩)) (by kernel_rfl) (by kernel_rfl) fun w3 B3 => ⟨rfl, B3⟩
 ·exact at_endC (fn := Tryz.f67) 200 (.pointer (some ⟨b, 7, none⟩)) (by kernel_rfl) (by kernel_rfl) fun w3 B3 => ⟨rfl, B3⟩
 ·exact at_endC (fn := Tryz.f67) 200 (.pointer (some ⟨b, 9, none⟩)) (by kernel_rfl) (by kernel_rfl) fun w3 B3 => ⟨rfl, B3⟩
 ·exact at_endC (fn := Tryz.f67) 200 (.pointer (some ⟨b, 11, none⟩)) (by kernel_rfl) (by kernel_rfl) fun w3 B3 => ⟨rfl, B3⟩
 ·exact at_endC (fn := Tryz.f67) 200 (.pointer (some ⟨b, 12, none⟩)) (by kernel_rfl) (by kernel_rfl) fun w3 B3 => ⟨rfl, B3⟩
end Go.Proofs.YtdcbnkimjhefkaaGreatDoor

namespace Go.Proofs.YtdcbnkimjhefkaaGreatDoor
open Go.RowKit
set_option maxRecDepth 100000
def LenAt (w : World) : Prop := (∃ m, w.cell? ⟨1, 0, none⟩ = some (.int .i64 m)) ∧ 1 < w.heap.size
theorem LenAt.below {w w' : World} (h : LenAt w) (hb : Below w.heap.size w w') : LenAt w' := by
 obtain ⟨⟨m, hm⟩, hl⟩ := h
 exact ⟨⟨m, (World.cell?_of_block (hb.block _ hl)).trans hm⟩, Nat.lt_of_lt_of_le hl hb.size⟩
def linedP (s : List UInt8) : Bool := s.isEmpty || (Lib.hasSuffix s [10] && !(Lib.hasPrefix s [101, 110, 100, 10]) && !(Lib.contains s [10, 101, 110, 100, 10]))
end Go.Proofs.YtdcbnkimjhefkaaGreatDoor

namespace Go.Proofs.YtdcbnkimjhefkaaGreatDoor
open Go.RowKit Go.Shelf Go.Sort Go.Lib
theorem below_growU (w : World) (n : Nat) (os : Array Obj) : Below w.heap.size w (Sort.grow (w.drewN n) os) :=
 ⟨rfl, rfl, rfl, by simp [Sort.grow], fun k hk => by show (w.heap ++ os)[k]? = _; rw [Array.getElem?_append_left hk]⟩
end Go.Proofs.YtdcbnkimjhefkaaGreatDoor

namespace Go.Proofs
open Go.Shelf
def Tryz.bld_ren : Go.Shelf.Ren := ⟨fun | 166 => 37 | 167 => 74 | 240 => 68 | 276 => 115 | n => n, fun | 0 => 0 | 3 => 3 | 4 => 4 | 5 => 5 | 9 => 9 | 20 => 20 | 37 => 68 | 70 => 87 | 72 => 89 | 75 => 91 | 164 => 196 | 80 => 94 | n => n, fun | n => n⟩
theorem Tryz.bld166 : Go.Proofs.Lays.n166 Tryz.prog Tryz.bld_ren := {
 mixed := by kernel_rfl
 f166 := Tryz.func37.trans (congrArg some (by kernel_rfl))
 f240 := Tryz.func68.trans (congrArg some (by kernel_rfl))
 f276 := Tryz.func115.trans (congrArg some (by kernel_rfl))
 t0 := Tryz.underlying0
 a0 := Tryz.isAgg0
 z0 := Tryz.sizeOf0
 v0 := Tryz.zeroValue0
 t3 := Tryz.underlying3
 a3 := Tryz.isAgg3
 z3 := Tryz.sizeOf3
 v3 := Tryz.zeroValue3
 t4 := Tryz.underlying4
 a4 := Tryz.isAgg4
 z4 := Tryz.sizeOf4
 v4 := Tryz.zeroValue4
 t9 := Tryz.underlying9
 a9 := Tryz.isAgg9
 z9 := Tryz.sizeOf9
 v9 := Tryz.zeroValue9
 t20 := Tryz.underlying20
 a20 := Tryz.isAgg20
 z20 := Tryz.sizeOf20
 v20 := Tryz.zeroValue20
 t37 := Tryz.underlying68
 a37 := Tryz.isAgg68
 z37 := Tryz.sizeOf68
 v37 := Tryz.zeroValue68
 t70 := Tryz.underlying87
 a70 := Tryz.isAgg87
 z70 := Tryz.sizeOf87
 v70 := Tryz.zeroValue87
 t72 := Tryz.underlying89
 a72 := Tryz.isAgg89
 z72 := Tryz.sizeOf89
 v72 := Tryz.zeroValue89
 t75 := Tryz.underlying91
 a75 := Tryz.isAgg91
 z75 := Tryz.sizeOf91
 v75 := Tryz.zeroValue91
 t164 := Tryz.underlying196
 a164 := Tryz.isAgg196
 z164 := Tryz.sizeOf196
 v164 := Tryz.zeroValue196 }
theorem Tryz.bld167 : Go.Proofs.Lays.n167 Tryz.prog Tryz.bld_ren := {
 mixed := by kernel_rfl
 f167 := Tryz.func74.trans (congrArg some (by kernel_rfl))
 f240 := Tryz.func68.trans (congrArg some (by kernel_rfl))
 f276 := Tryz.func115.trans (congrArg some (by kernel_rfl))
 t0 := Tryz.underlying0
 a0 := Tryz.isAgg0
 z0 := Tryz.sizeOf0
 v0 := Tryz.zeroValue0
 t4 := Tryz.underlying4
 a4 := Tryz.isAgg4
 z4 := Tryz.sizeOf4
 v4 := Tryz.zeroValue4
 t5 := Tryz.underlying5
 a5 := Tryz.isAgg5
 z5 := Tryz.sizeOf5
 v5 := Tryz.zeroValue5
 t9 := Tryz.underlying9
 a9 := Tryz.isAgg9
 z9 := Tryz.sizeOf9
 v9 := Tryz.zeroValue9
 t20 := Tryz.underlying20
 a20 := Tryz.isAgg20
 z20 := Tryz.sizeOf20
 v20 := Tryz.zeroValue20
 t37 := Tryz.underlying68
 a37 := Tryz.isAgg68
 z37 := Tryz.sizeOf68
 v37 := Tryz.zeroValue68
 t70 := Tryz.underlying87
 a70 := Tryz.isAgg87
 z70 := Tryz.sizeOf87
 v70 := Tryz.zeroValue87
 t72 := Tryz.underlying89
 a72 := Tryz.isAgg89
 z72 := Tryz.sizeOf89
 v72 := Tryz.zeroValue89
 t75 := Tryz.underlying91
 a75 := Tryz.isAgg91
 z75 := Tryz.sizeOf91
 v75 := Tryz.zeroValue91
 t164 := Tryz.underlying196
 a164 := Tryz.isAgg196
 z164 := Tryz.sizeOf196
 v164 := Tryz.zeroValue196 }
theorem Tryz.bldX : Builder.Extra Tryz.prog Tryz.bld_ren := {
 sizeBuilder := by kernel_rfl
 liesBuilder := by kernel_rfl
 t5 := Tryz.underlying5
 a5 := Tryz.isAgg5
 z5 := Tryz.sizeOf5
 v5 := Tryz.zeroValue5
 infoByte := by kernel_rfl
 cellsByte := by kernel_rfl
 sizeByte := by kernel_rfl
 neB5 := by decide }
open Go.RowKit in
theorem Tryz.bldByte (B b : Nat) (bs : List Value) (c : Int) (w : World) (h : Lib.IsBuilderF 89 5 B b bs w) (hlen : bs.length + 1 ≤ 140737488355328) (hBw : B ≤ w.heap.size) :
  Calls Tryz.prog 74 #[.pointer (some ⟨b, 0, none⟩), .int .u8 c] w fun e w' => e = .returned .nilIface ∧ (Lib.BuilderAtF 89 5 B b (.pointer (some ⟨b, 0, none⟩)) (bs ++ [.int .u8 c]) w' ∧ Below B w w' ∧ Lib.OthersKept 5 (some b) w w') := Any.Builder_WriteByte_k Tryz.bld167 Tryz.bldX B b bs c w h hlen hBw
open Go.RowKit in
theorem Tryz.bldString (B b : Nat) (bs : List Value) (s : ByteArray) (w : World) (h : Lib.IsBuilderF 89 5 B b bs w) (hlen : bs.length + s.size ≤ 140737488355328) (hBw : B ≤ w.heap.size) :
  Calls Tryz.prog 37 #[.pointer (some ⟨b, 0, none⟩), .string s] w fun e w' => e = .returned (.tuple #[.int .i64 s.size, .nilIface]) ∧ (Lib.BuilderAtF 89 5 B b (.pointer (some ⟨b, 0, none⟩)) (bs ++ Lib.strCells s) w' ∧ Below B w w' ∧ Lib.OthersKept 5 (some b) w w') := Any.Builder_WriteString_k Tryz.bld166 Tryz.bldX B b bs s w h hlen hBw
end Go.Proofs

namespace Go.Proofs.YtdcbnkimjhefkaaGreatDoor
open Go.RowKit
def notB (o : Obj) : Prop := ∀ c fz, o ≠ .cells c 5 fz
abbrev Bld (B b : Nat) (bs : List Value) (w : World) : Prop := Lib.IsBuilderF 89 5 B b bs w
theorem bldAt_kept {B b : Nat} {p : Value} {bs : List Value} {w w' : World} (h : Lib.BuilderAtF 89 5 B b p bs w) (hk : ∀ k o, w.heap[k]? = some o → (k = b ∨ ∃ c fz, o = .cells c 5 fz) → w'.heap[k]? = some o) :
  Lib.BuilderAtF 89 5 B b p bs w' := by
 obtain ⟨hB, v, hb, hown, hne⟩ := h
 refine ⟨hB, v, hk _ _ hb (.inl rfl), ⟨hown.1, ?_⟩, hne⟩
 rcases hown.2 with hn | ⟨g, cap, cur, fz, hv, hbg, hg, rest⟩
 ·exact .inl hn
 ·exact .inr ⟨g, cap, cur, fz, hv, hbg, hk _ _ hg (.inr ⟨_, _, rfl⟩), rest⟩
structure WS (w0 : World) (B b : Nat) (bs : List Value) (ms : List (Nat × Obj)) (w : World) : Prop where
 bld : Bld B b bs w
 bel : Below B w0 w
 oth : Lib.OthersKept 5 (some b) w0 w
 mem : ∀ p ∈ ms, w.heap[p.1]? = some p.2
 ok : ∀ p ∈ ms, w0.heap.size ≤ p.1 ∧ notB p.2
 lo : b < w0.heap.size
 Bb : B ≤ b
theorem WS.size {w0 w : World} {B b : Nat} {bs : List Value} {ms : List (Nat × Obj)} (h : WS w0 B b bs ms w) : w0.heap.size ≤ w.heap.size := h.bel.size
theorem WS.lt {w0 w : World} {B b : Nat} {bs : List Value} {ms : List (Nat × Obj)} (h : WS w0 B b bs ms w) {p : Nat × Obj} (hp : p ∈ ms) : p.1 < w.heap.size := (Array.getElem?_eq_some_iff.1 (h.mem p hp)).1
theorem WS.kept {w0 w w' : World} {B b : Nat} {bs : List Value} {ms ms' : List (Nat × Obj)} {O : List Nat} (h : WS w0 B b bs ms w) (hK : Kept O w.heap.size w w') (hO : ∀ k ∈ O, ∃ o, (k, o) ∈ ms)
  (hm : ∀ p ∈ ms', w'.heap[p.1]? = some p.2) (hok : ∀ p ∈ ms', w0.heap.size ≤ p.1 ∧ notB p.2) : WS w0 B b bs ms' w' := by
 have hlt : ∀ k o, w.heap[k]? = some o → k < w.heap.size := fun k o hk => (Array.getElem?_eq_some_iff.1 hk).1
 have hkp : ∀ k o, w.heap[k]? = some o → (k = b ∨ ∃ c fz, o = .cells c 5 fz) → w'.heap[k]? = some o := by
  intro k o hk hc
  refine (hK.block k (hlt k o hk) fun hin => ?_).trans hk
  obtain ⟨o', ho'⟩ := hO k hin
  have h1 := h.mem _ ho'
  have h2 := h.ok _ ho'
  simp only at h1 h2
  rw [hk] at h1
  obtain rfl := Option.some.inj h1
  rcases hc with rfl | ⟨c, fz, rfl⟩
  ·have := h.lo; omega
  ·exact h2.2 c fz rfl
 refine ⟨h.bld.elim (fun x => .inl (bldAt_kept x hkp)) (fun x => .inr (bldAt_kept x hkp)), h.bel.trans (hK.below (by have := h.size; have := h.lo; have := h.Bb; omega) fun k hk => ?_), fun k o hk hb ho => ?_, hm, hok, h.lo, h.Bb⟩
 ·obtain ⟨o, ho⟩ := hO k hk
  have := (h.ok _ ho).1
  have := h.lo
  have := h.Bb
  simp only at *
  omega
 ·have h1 := h.oth k o hk hb ho
  refine (hK.block k (hlt k o h1) fun hin => ?_).trans h1
  obtain ⟨o', ho'⟩ := hO k hin
  have h2 := (h.ok _ ho').1
  have h3 : k < w0.heap.size := (Array.getElem?_eq_some_iff.1 hk).1
  simp only at h2
  omega
theorem kept_below {w w' : World} (h : Below w.heap.size w w') : Kept [] w.heap.size w w' := ⟨h.os, h.tape, h.output, h.size, fun k hk _ => h.block k hk⟩
theorem WS.below {w0 w w' : World} {B b : Nat} {bs : List Value} {ms : List (Nat × Obj)} (h : WS w0 B b bs ms w) (hb : Below w.heap.size w w') : WS w0 B b bs ms w' :=
 h.kept (kept_below hb) (fun k hk => by cases hk) (fun p hp => (hb.block _ (h.lt hp)).trans (h.mem p hp)) h.ok
theorem WS.wrote {w0 w w' : World} {B b : Nat} {bs bs' : List Value} {ms : List (Nat × Obj)} (h : WS w0 B b bs ms w) (h1 : Bld B b bs' w') (h2 : Below B w w') (h3 : Lib.OthersKept 5 (some b) w w') : WS w0 B b bs' ms w' :=
 ⟨h1, h.bel.trans h2, h.oth.trans h3, fun p hp => h3 _ _ (h.mem p hp) (fun e => by have := (h.ok p hp).1; have := h.lo; have := Option.some.inj e; omega) (h.ok p hp).2, h.ok, h.lo, h.Bb⟩
theorem WS.more {w0 w : World} {B b : Nat} {bs : List Value} {ms : List (Nat × Obj)} (h : WS w0 B b bs ms w) (k : Nat) (o : Obj) (hk : w.heap[k]? = some o) (hlo : w0.heap.size ≤ k) (ho : notB o) : WS w0 B b bs ((k, o) :: ms) w :=
 ⟨h.bld, h.bel, h.oth, fun p hp => by
  rcases List.mem_cons.1 hp with rfl | hp
  ·exact hk
  ·exact h.mem p hp, fun p hp => by
  rcases List.mem_cons.1 hp with rfl | hp
  ·exact ⟨hlo, ho⟩
  ·exact h.ok p hp, h.lo, h.Bb⟩
structure Con (w : World) : Prop where
 forms : FormsAt w
 pow : Lib.TabIs Tryz.prog w "internal/strconv.uint64pow10" .u64 Lib.pow10Tab
 len : LenAt w
theorem gPowC : Tryz.prog.globalNamed "internal/strconv.uint64pow10" = some 4 := by kernel_rfl
theorem con_pow {w w' : World} {B : Nat} (h : Lib.TabIs Tryz.prog w "internal/strconv.uint64pow10" .u64 Lib.pow10Tab) (hB : Tryz.prog.globals.size ≤ B) (hb : Below B w w') : Lib.TabIs Tryz.prog w' "internal/strconv.uint64pow10" .u64 Lib.pow10Tab := by
 have hg : 4 < B := Nat.lt_of_lt_of_le (show 4 < Tryz.prog.globals.size from of_decide_eq_true (by kernel_rfl)) hB
 unfold Lib.TabIs World.var? at h ⊢
 rw [gPowC] at h ⊢
 simp only [Option.bind_some] at h ⊢
 rw [hb.block _ hg]
 exact h
theorem Con.below {w w' : World} {B : Nat} (h : Con w) (hB : Tryz.prog.globals.size ≤ B) (hb : Below B w w') : Con w' := by
 have h1 : 0 < B := Nat.lt_of_lt_of_le (show 0 < Tryz.prog.globals.size from of_decide_eq_true (by kernel_rfl)) hB
 have h2 : 1 < B := Nat.lt_of_lt_of_le (show 1 < Tryz.prog.globals.size from of_decide_eq_true (by kernel_rfl)) hB
 obtain ⟨f1, f2⟩ := h.forms
 obtain ⟨⟨m, hm⟩, l2⟩ := h.len
 exact ⟨⟨fun j v hv => (World.cell?_of_block (hb.block _ h1)).trans (f1 j v hv), Nat.lt_of_lt_of_le f2 hb.size⟩, con_pow h.pow hB hb, ⟨⟨m, (World.cell?_of_block (hb.block _ h2)).trans hm⟩, Nat.lt_of_lt_of_le l2 hb.size⟩⟩
end Go.Proofs.YtdcbnkimjhefkaaGreatDoor

namespace Go.Proofs.YtdcbnkimjhefkaaGreatDoor
open Go.RowKit
set_option maxRecDepth 100000
abbrev pt (k : Nat) : Value := .pointer (some ⟨k, 0, none⟩)
def Cmd.obj (c : Cmd) : Obj := .cells c.cells.toArray 64 (0, 0)
def Form.obj (F : Form) : Obj := .cells F.cells.toArray 121 (0, 0)
theorem Cmd.notB (c : Cmd) : notB c.obj := fun _ _ h => by cases h
theorem Form.notB (F : Form) : notB F.obj := fun _ _ h => by cases h
theorem own_good {w : World} {k : Nat} {cs : List Value} {ty : TypeId} (h : Ent.good w ⟨k, 0, cs, ty, true⟩) : w.heap[k]? = some (.cells cs.toArray ty (0, 0)) := by
 have := h.2
 rw [if_pos rfl] at this
 exact this.1
def formIs (c : Cmd) (F : Form) : Bool := F.kind == c.kind && F.fact == c.fk
def formOf (c : Cmd) : Option Form := forms.find? (formIs c)
end Go.Proofs.YtdcbnkimjhefkaaGreatDoor

namespace Go.Proofs.YtdcbnkimjhefkaaGreatDoor
open Go.RowKit
set_option maxRecDepth 100000
def numP (a : Nat) (c : Cmd) : Int := if a = 69 then c.emp else if a = 68 then c.fr else if a = 86 then c.val else if a = 88 then c.ext else if a = 82 then c.rnk else if a = 80 then c.per else if a = 84 then c.torn else c.stop
def zeroN (a : Nat) (c : Cmd) : Cmd := if a = 69 then { c with emp := 0 } else if a = 68 then { c with fr := 0 } else if a = 86 then { c with val := 0 } else if a = 88 then { c with ext := 0 } else if a = 82 then { c with rnk := 0 } else if a = 80 then { c with per := 0 } else if a = 84 then { c with torn := 0 } else { c with stop := 0 }
def zeroP (a : Nat) (c : Cmd) : Cmd := if a = 78 then { c with nm := [] } else if a = 87 then { c with wh := 0 } else zeroN a c
def itemP (a : Nat) (c : Cmd) : List UInt8 := if a = 78 then c.nm else if a = 87 then Lib.decDigits c.wh else Lib.itoa (numP a c)
def fitsP (n : Int) : Bool := decide (-1000000000000000000 ≤ n) && decide (n ≤ 1000000000000000000)
def okP (a : Nat) (c : Cmd) : Bool := if a = 78 then Tk.isName c.nm else if a = 87 then decide ((c.wh : Int) ≤ 1000000000000000000) else fitsP (numP a c)
structure CmdOk (c : Cmd) : Prop where
 num : ∀ a, -9223372036854775808 ≤ numP a c ∧ numP a c ≤ 9223372036854775807
 wh : c.wh < 18446744073709551616
 nm : c.nm.length ≤ 4294967295
 txt : c.txt.length ≤ 4294967200
section
variable {w0 : World} {B b kc kf kr ki : Nat} {bs : List UInt8} {c rest : Cmd} {F : Form} {i : Nat} {R : Ending → World → Prop}
abbrev envG (b kc kf kr ki : Nat) (ok : Bool) : List (Nat × Value) := [(0, pt b), (3, pt kc), (5, pt kf), (7, pt kr), (8, .bool ok), (26, pt ki)]
abbrev memG (kc kf kr ki : Nat) (c rest : Cmd) (F : Form) (i : Nat) : List (Nat × Obj) := [(kc, c.obj), (kf, F.obj), (kr, rest.obj), (ki, .stringIter ⟨⟨F.letters⟩⟩ i)]
theorem WS.ran {bs : List Value} {ms ms' : List (Nat × Obj)} {w w' : World} {mem mem' : List Ent} {z : Nat} (h : WS w0 B b bs ms w) (hL : Lies (mem.map (·.id)) w.heap.size w' ⟨z, mem', (0, 0), []⟩) (hK : Kept (mem.map (·.id)) w.heap.size w w')
  (hin : ∀ e ∈ mem, ∃ o, (e.id, o) ∈ ms) (hms : ∀ p ∈ ms', (p ∈ ms ∧ ∀ e ∈ mem, e.id ≠ p.1) ∨ ∃ cs ty, p.2 = .cells cs.toArray ty (0, 0) ∧ ty ≠ 5 ∧ w0.heap.size ≤ p.1 ∧ (⟨p.1, 0, cs, ty, true⟩ : Ent) ∈ mem') : WS w0 B b bs ms' w' := by
 refine h.kept hK (fun k hk => ?_) (fun p hp => ?_) (fun p hp => ?_)
 ·obtain ⟨e, he, rfl⟩ := List.mem_map.1 hk
  exact hin e he
 ·rcases hms p hp with ⟨h1, h2⟩ | ⟨cs, ty, e1, _, _, hm⟩
  ·refine (hK.block _ (h.lt h1) fun hk => ?_).trans (h.mem p h1)
   obtain ⟨e, he, e2⟩ := List.mem_map.1 hk
   exact h2 e he e2
  ·rw [e1]
   exact own_good (hL.sat.good _ hm)
 ·rcases hms p hp with ⟨h1, _⟩ | ⟨cs, ty, e1, h2, h3, _⟩
  ·exact h.ok p h1
  ·refine ⟨h3, fun c fz e => h2 ?_⟩
   rw [e1] at e
   injection e
section
variable (h1 : kc < kf) (h2 : kf < kr) (h3 : kr < ki)
include h1 h2 h3
end
theorem lies_one {w : World} {k : Nat} {cs : List Value} {ty : TypeId} (h : w.heap[k]? = some (.cells cs.toArray ty (0, 0))) : Lies ([(⟨k, 0, cs, ty, true⟩ : Ent)].map (·.id)) w.heap.size w ⟨w.heap.size, [⟨k, 0, cs, ty, true⟩], (0, 0), []⟩ :=
 lies_mk w _ (fun e he => by rw [List.mem_singleton.1 he]; exact good_own h) (by simp)
theorem WS.form {bs : List Value} {w : World} (h : WS w0 B b bs (memG kc kf kr ki c rest F i) w) : w.heap[kf]? = some (.cells F.cells.toArray 121 (0, 0)) := h.mem (kf, F.obj) (by simp)
theorem WS.str {ms : List (Nat × Obj)} {w : World} (h : WS w0 B b (Lib.byteCells bs) ms w) (s : List UInt8) (hl : bs.length + s.length ≤ 140737488355328) : Calls Tryz.prog 37 #[pt b, .string ⟨⟨s⟩⟩] w fun e w' => e = .returned (.tuple #[.int .i64 (s.length : Int), .nilIface]) ∧ WS w0 B b (Lib.byteCells (bs ++ s)) ms w' := by
 refine (Tryz.bldString B b (Lib.byteCells bs) ⟨⟨s⟩⟩ w h.bld (by rw [Lib.byteCells_length]; exact hl) (by have := h.lo; have := h.Bb; have := h.size; omega)).mono fun e w' hh => ?_
 obtain ⟨h1, h2, h3, h4⟩ := hh
 refine ⟨h1, h.wrote (.inr ?_) h3 h4⟩
 rw [Lib.byteCells_append]
 exact h2
theorem WS.byte {ms : List (Nat × Obj)} {w : World} (h : WS w0 B b (Lib.byteCells bs) ms w) (x : UInt8) (hl : bs.length + 1 ≤ 140737488355328) : Calls Tryz.prog 74 #[pt b, .int .u8 (x.toNat : Int)] w fun e w' => e = .returned .nilIface ∧ WS w0 B b (Lib.byteCells (bs ++ [x])) ms w' := by
 refine (Tryz.bldByte B b (Lib.byteCells bs) (x.toNat : Int) w h.bld (by rw [Lib.byteCells_length]; exact hl) (by have := h.lo; have := h.Bb; have := h.size; omega)).mono fun e w' hh => ?_
 obtain ⟨h1, h2, h3, h4⟩ := hh
 refine ⟨h1, h.wrote (.inr ?_) h3 h4⟩
 rw [Lib.byteCells_append]
 exact h2
theorem itoa_len (n : Int) (h0 : -9223372036854775808 ≤ n) (h1 : n ≤ 9223372036854775807) : (Lib.itoa n).length ≤ 21 := by
 unfold Lib.itoa
 have := Lib.nDigits_le20 n.natAbs (by omega)
 have := Lib.nDigits_le20 n.toNat (by omega)
 have := Lib.nDigits_le20 (-n).toNat (by omega)
 split <;> simp [Lib.decDigits_length] <;> omega
end
end Go.Proofs.YtdcbnkimjhefkaaGreatDoor

namespace Go.Proofs.YtdcbnkimjhefkaaGreatDoor
open Go.RowKit
set_option maxRecDepth 100000
def eight (a : Nat) : Prop := a = 69 ∨ a = 68 ∨ a = 86 ∨ a = 88 ∨ a = 82 ∨ a = 80 ∨ a = 84 ∨ a = 83
def goodF (F : Form) : Bool := F.letters.all (fun x => x.toNat == 78 || x.toNat == 87 || x.toNat == 69 || x.toNat == 68 || x.toNat == 86 || x.toNat == 88 || x.toNat == 82 || x.toNat == 80 || x.toNat == 84 || x.toNat == 83) && (Nat.ble F.letters.length 6 && Nat.ble F.word.length 10)
theorem forms_good : forms.all goodF = true := by kernel_rfl
theorem goodF_len {F : Form} (h : goodF F = true) : F.letters.length ≤ 6 ∧ F.word.length ≤ 10 := by
 unfold goodF at h
 simp only [Bool.and_eq_true] at h
 exact ⟨Nat.le_of_ble_eq_true h.2.1, Nat.le_of_ble_eq_true h.2.2⟩
theorem goodF_letter {F : Form} (h : goodF F = true) {x : UInt8} (hx : x ∈ F.letters) : x.toNat = 78 ∨ x.toNat = 87 ∨ eight x.toNat := by
 unfold goodF at h
 simp only [Bool.and_eq_true] at h
 have := List.all_eq_true.1 h.1 x hx
 simp only [Bool.or_eq_true, beq_iff_eq] at this
 unfold eight
 omega
def itemsP (c : Cmd) (l : List UInt8) : List UInt8 := l.flatMap fun x => 32 :: itemP x.toNat c
def restP (c : Cmd) (l : List UInt8) : Cmd := l.foldl (fun r x => zeroP x.toNat r) c
def okL (c : Cmd) (l : List UInt8) : Bool := l.all fun x => okP x.toNat c
theorem item_len {c : Cmd} (hc : CmdOk c) (a : Nat) : (itemP a c).length ≤ 4294967295 := by
 unfold itemP
 split
 ·exact hc.nm
 ·split
  ·rw [Lib.decDigits_length]; have := Lib.nDigits_le20 _ hc.wh; omega
  ·have := itoa_len _ (hc.num a).1 (hc.num a).2; omega
def posOf : Option Obj → Nat
 | some (.stringIter _ p) => p
 | _ => 0
variable {w0 : World} {B b kc kf kr : Nat} {bs : List UInt8} {c : Cmd} {F : Form} {R : Ending → World → Prop}
end Go.Proofs.YtdcbnkimjhefkaaGreatDoor

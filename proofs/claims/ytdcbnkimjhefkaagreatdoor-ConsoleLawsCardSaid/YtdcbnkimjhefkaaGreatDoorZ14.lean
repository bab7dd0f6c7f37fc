/-
  Straight code run by evaluation: the frame as a function, the memory that is known as a list of blocks.
-/
import Derived.Test.YtdcbnkimjhefkaaGreatDoorZ13
import Derived.Laws.Cells
import Derived.Laws.AppendOwn
namespace Go.Proofs.YtdcbnkimjhefkaaGreatDoor

/-! ### Frames -/
def Fr (n : Nat) (E : Nat → Value) : Act := ⟨((List.range n).map E).toArray, []⟩
def upd (E : Nat → Value) (d : Nat) (v : Value) : Nat → Value := fun t => if t = d then v else E t
def updO (E : Nat → Value) : Option Tmp → Value → Nat → Value
  | some d, v => upd E d v
  | none, _ => E
theorem range_get (n t : Nat) : (List.range n)[t]? = if t < n then some t else none := by
  by_cases h : t < n
  · rw [if_pos h, List.getElem?_range h]
  · rw [if_neg h, List.getElem?_eq_none (by simpa using h)]
theorem Fr_get (n : Nat) (E : Nat → Value) (t : Nat) : (Fr n E).tmps[t]? = if t < n then some (E t) else none := by
  unfold Fr
  rw [List.getElem?_toArray, List.getElem?_map, range_get]
  split <;> rfl
theorem Fr_size (n : Nat) (E : Nat → Value) : (Fr n E).tmps.size = n := by simp [Fr]
theorem act_ext {a a' : Act} (h : ∀ t : Nat, a.tmps[t]? = a'.tmps[t]?) (hd : a.defers = a'.defers) : a = a' := by
  cases a; cases a'
  simp only at hd
  subst hd
  congr
  exact Array.ext_getElem? h
theorem Fr_put (n : Nat) (E : Nat → Value) (d : Option Tmp) (v : Value) : (Fr n E).put d v = Fr n (updO E d v) := by
  refine act_ext (fun t => ?_) (by rw [put_def]; rfl)
  rw [put_get, Fr_get, Fr_size, Fr_get]
  cases d with
  | none => simp [updO]
  | some d =>
    by_cases h : d = t
    · subst h
      by_cases hl : d < n <;> simp [updO, upd, hl]
    · have : ¬ t = d := fun e => h e.symm
      simp [updO, upd, h, this]
def evE (n : Nat) (E : Nat → Value) : Operand → Value
  | .tmp t => match decide (t < n) with
    | true => E t
    | false => undef
  | .const v => v
  | .global g => .pointer (some ⟨g, 0, none⟩)
  | .func f => .func (.func f) #[] #[]
theorem eval_Fr (n : Nat) (E : Nat → Value) : (Fr n E).eval = evE n E := by
  funext x
  cases x with
  | tmp t =>
    show (Fr n E).tmps.getD t undef = _
    rw [Array.getD_eq_getD_getElem?, Fr_get]
    unfold evE
    by_cases h : t < n <;> simp [h]
  | const v => rfl
  | global g => rfl
  | func f => rfl
def yieldE (n : Nat) (ops : Array Oper) (E : Nat → Value) (j : Nat) : Option Bool :=
  match (ops[j]?).bind (·.dst) with
  | some t => match evE n E (.tmp t) with
    | .bool b => some b
    | _ => none
  | none => none
theorem yielded_Fr (n : Nat) (ops : Array Oper) (E : Nat → Value) : yielded ops (Fr n E).tmps = yieldE n ops E := by
  funext j
  unfold yielded yieldE
  cases (ops[j]?).bind (·.dst) with
  | none => rfl
  | some t =>
    simp only [Option.bind_some, Fr_get]
    unfold evE
    by_cases h : t < n
    · simp only [h, if_true, decide_true]
      cases E t <;> rfl
    · simp [h, undef]

/-! ### Memory -/
structure Ent where
  id : Nat
  off : Nat
  cells : List Value
  ty : TypeId
  own : Bool
structure MS where
  sz : Nat
  mem : List Ent
  hint : Nat × Nat
  eqs : List (Nat × Nat)
def one : Value → Bool
  | .agg _ | .tuple _ => false
  | _ => true
/-- An operation's meaning, run over the memory that is known. -/
def mrun {α : Type} (P : Program) : Sem α → MS → Option (α × MS)
  | .pure a, s => some (a, s)
  | .load _ a k, s => match s.mem[s.hint.1]? with
    | some e => match e.cells[s.hint.2]?, a.spot with
      | some v, none => mrun P (k v) { s with hint := (s.hint.1, s.hint.2 + 1), eqs := (a.block, e.id) :: (a.off, e.off + s.hint.2) :: s.eqs }
      | _, _ => none
    | none => none
  | .store _ a v k, s => match one v with
    | false => none
    | true => match s.mem[s.hint.1]? with
      | some e => match e.own, a.spot, decide (s.hint.2 < e.cells.length) with
        | true, none, true => mrun P k { s with mem := s.mem.set s.hint.1 { e with cells := e.cells.set s.hint.2 v }, hint := (s.hint.1, s.hint.2 + 1), eqs := (a.block, e.id) :: (a.off, e.off + s.hint.2) :: s.eqs }
        | _, _, _ => none
      | none => none
  | .new o k, s => match o with
    | .cells c t (0, 0) => mrun P (k s.sz) { s with sz := s.sz + 1, mem := s.mem ++ [⟨s.sz, 0, c.toList, t, true⟩] }
    | _ => none
  | .program k, s => mrun P (k P) s
  | .mark _ k, s => mrun P k s
  | _, _ => none

def Ent.good (w : World) (e : Ent) : Prop :=
  e.id < w.heap.size ∧ (if e.own then w.heap[e.id]? = some (.cells e.cells.toArray e.ty (0, 0)) ∧ e.off = 0 else w.rangeAt e.id e.off e.cells)
structure Sat (w : World) (sz : Nat) (mem : List Ent) : Prop where
  size : w.heap.size = sz
  good : ∀ e ∈ mem, e.good w
  apart : ∀ (i j : Nat) (e e' : Ent), mem[i]? = some e → mem[j]? = some e' → e.own = true → i ≠ j → e.id ≠ e'.id
/-- What stood below B and is none of O is as it was. -/
structure Kept (O : List Nat) (B : Nat) (w w' : World) : Prop where
  os : w'.os = w.os
  tape : w'.tape = w.tape
  output : w'.output = w.output
  size : w.heap.size ≤ w'.heap.size
  block : ∀ k, k < B → k ∉ O → w'.heap[k]? = w.heap[k]?
theorem Kept.refl (O : List Nat) (B : Nat) (w : World) : Kept O B w w := ⟨rfl, rfl, rfl, Nat.le_refl _, fun _ _ _ => rfl⟩
theorem Kept.trans {O : List Nat} {B : Nat} {u v w : World} (h : Kept O B u v) (k : Kept O B v w) : Kept O B u w :=
  ⟨k.os.trans h.os, k.tape.trans h.tape, k.output.trans h.output, Nat.le_trans h.size k.size, fun i hi ho => (k.block i hi ho).trans (h.block i hi ho)⟩

theorem heap_setCell_other' (w : World) (a : Addr) (u : Value) (k : Nat) (h : k ≠ a.block) : (w.setCell a u).heap[k]? = w.heap[k]? := heap_setCell_other w a k u h
theorem heap_alloc_old (w : World) (o : Obj) (k : Nat) (h : k < w.heap.size) : (w.alloc o).heap[k]? = w.heap[k]? := Array.getElem?_push_lt h |>.trans (Array.getElem?_eq_getElem h).symm
theorem cell_of_good {w : World} {e : Ent} {a : Addr} {j : Nat} {v : Value} (h : e.good w) (hv : e.cells[j]? = some v) (h1 : a.block = e.id) (h2 : a.off = e.off + j) (h3 : a.spot = none) : w.cell? a = some v := by
  obtain ⟨blk, off, spot⟩ := a
  simp only at h1 h2 h3
  subst h1 h2 h3
  obtain ⟨_, hg⟩ := h
  split at hg
  · obtain ⟨hb, h0⟩ := hg
    unfold World.cell?
    simp only [hb, h0]
    simpa using hv
  · exact hg j v hv
theorem frozen_of_good {w : World} {e : Ent} {a : Addr} (h : e.good w) (ho : e.own = true) (h1 : a.block = e.id) : w.frozen? a = false := by
  obtain ⟨_, hg⟩ := h
  rw [if_pos ho] at hg
  unfold World.frozen?
  rw [h1, hg.1]
  simp
theorem heap_set_same {w : World} {a : Addr} {v : Value} {C : List Value} {T : TypeId} (h : w.heap[a.block]? = some (.cells C.toArray T (0, 0))) (hs : a.spot = none) : (w.setCell a v).heap[a.block]? = some (.cells (C.set a.off v).toArray T (0, 0)) := by
  unfold World.setCell
  simp [Array.getElem?_modify, h, hs]
theorem good_set {w : World} {e : Ent} {a : Addr} {v : Value} (h : e.good w) (hne : e.id ≠ a.block) : e.good (w.setCell a v) := by
  have hb : (w.setCell a v).heap[e.id]? = w.heap[e.id]? := heap_setCell_other' _ _ _ _ hne
  obtain ⟨h0, hg⟩ := h
  refine ⟨by simpa [World.setCell] using h0, ?_⟩
  split at hg
  · rename_i ho; rw [if_pos ho, hb]; exact hg
  · rename_i ho
    rw [if_neg ho]
    intro j x hx
    rw [World.cell?_of_block (w := w) hb]
    exact hg j x hx
theorem good_alloc {w : World} {e : Ent} (h : e.good w) (o : Obj) : e.good (w.alloc o) := by
  have hb : (w.alloc o).heap[e.id]? = w.heap[e.id]? := heap_alloc_old _ _ _ h.1
  obtain ⟨h0, hg⟩ := h
  refine ⟨by simp; omega, ?_⟩
  split at hg
  · rename_i ho; rw [if_pos ho, hb]; exact hg
  · rename_i ho
    rw [if_neg ho]
    intro j x hx
    rw [World.cell?_of_block (w := w) hb]
    exact hg j x hx

theorem good_new (w : World) (c : List Value) (t : TypeId) : (⟨w.heap.size, 0, c, t, true⟩ : Ent).good (w.alloc (.cells c.toArray t (0, 0))) := by
  refine ⟨by simp, ?_⟩
  rw [if_pos rfl]
  exact ⟨heap_alloc_new _ _, rfl⟩
theorem mrun_eqs {α : Type} {P : Program} : ∀ (s : Sem α) (m m' : MS) (a : α), mrun P s m = some (a, m') → ∀ p ∈ m.eqs, p ∈ m'.eqs := by
  intro s
  induction s with
  | pure a => intro m m' x h p hp; simp only [mrun, Option.some.injEq, Prod.mk.injEq] at h; rw [← h.2]; exact hp
  | load md a k ih =>
    intro m m' x h p hp
    unfold mrun at h
    split at h
    · split at h
      · exact ih _ _ _ _ h p (by simp [hp])
      · cases h
    · cases h
  | store md a v k ih =>
    intro m m' x h p hp
    unfold mrun at h
    split at h
    · cases h
    · split at h
      · split at h
        · exact ih _ _ _ h p (by simp [hp])
        · cases h
      · cases h
  | new o k ih =>
    intro m m' x h p hp
    unfold mrun at h
    split at h
    · exact ih _ _ _ _ h p hp
    · cases h
  | program k ih => intro m m' x h p hp; unfold mrun at h; exact ih _ _ _ _ h p hp
  | mark mk k ih => intro m m' x h p hp; unfold mrun at h; exact ih _ _ _ h p hp
  | shape r k ih => intro m m' x h; unfold mrun at h; cases h
  | freeze a n k ih => intro m m' x h; unfold mrun at h; cases h
  | frozen a k ih => intro m m' x h; unfold mrun at h; cases h
  | getObj r k ih => intro m m' x h; unfold mrun at h; cases h
  | setObj r o k ih => intro m m' x h; unfold mrun at h; cases h
  | choose q k ih => intro m m' x h; unfold mrun at h; cases h
  | sys c k ih => intro m m' x h; unfold mrun at h; cases h
  | halt hh => intro m m' x h; unfold mrun at h; cases h

theorem Sat.set {w : World} {sz : Nat} {mem : List Ent} (h : Sat w sz mem) {i j : Nat} {e : Ent} (hi : mem[i]? = some e) (ho : e.own = true) {a : Addr} {v : Value} (h1 : a.block = e.id) (h2 : a.off = e.off + j) (h3 : a.spot = none) :
    Sat (w.setCell a v) sz (mem.set i { e with cells := e.cells.set j v }) := by
  have hil : i < mem.length := (List.getElem?_eq_some_iff.1 hi).1
  have hg := h.good e (List.mem_of_getElem? hi)
  have hg2 := hg.2
  rw [if_pos ho] at hg2
  refine ⟨by simpa [World.setCell] using h.size, ?_, ?_⟩
  · intro e' he'
    obtain ⟨k, hk⟩ := List.mem_iff_getElem?.1 he'
    rw [List.getElem?_set] at hk
    by_cases hik : i = k
    · subst hik
      rw [if_pos rfl, if_pos hil] at hk
      · obtain rfl := Option.some.inj hk
        refine ⟨by simpa [World.setCell] using hg.1, ?_⟩
        rw [if_pos (show ({ e with cells := e.cells.set j v } : Ent).own = true from ho)]
        refine ⟨?_, hg2.2⟩
        have := heap_set_same (v := v) (a := a) (by rw [h1]; exact hg2.1) h3
        rw [h1] at this
        rw [h2, hg2.2, Nat.zero_add] at this
        exact this
    · have hne := hik
      rw [if_neg hik] at hk
      refine good_set (h.good e' (List.mem_of_getElem? hk)) ?_
      rw [h1]
      exact fun e0 => h.apart i k e e' hi hk ho hne e0.symm
  · intro p q x y hp hq hx hne
    have hid : ∀ (k : Nat) (z : Ent), (mem.set i { e with cells := e.cells.set j v })[k]? = some z → ∃ z', mem[k]? = some z' ∧ z'.id = z.id ∧ z'.own = z.own := by
      intro k z hz
      rw [List.getElem?_set] at hz
      by_cases hik : i = k
      · subst hik
        rw [if_pos rfl, if_pos hil] at hz
        obtain rfl := Option.some.inj hz
        exact ⟨e, hi, rfl, rfl⟩
      · rw [if_neg hik] at hz
        exact ⟨z, hz, rfl, rfl⟩
    obtain ⟨x', hx', ex, eo⟩ := hid p x hp
    obtain ⟨y', hy', ey, _⟩ := hid q y hq
    rw [← ex, ← ey]
    exact h.apart p q x' y' hx' hy' (eo.trans hx) hne
theorem Sat.new {w : World} {sz : Nat} {mem : List Ent} (h : Sat w sz mem) (c : List Value) (t : TypeId) : Sat (w.alloc (.cells c.toArray t (0, 0))) (sz + 1) (mem ++ [⟨sz, 0, c, t, true⟩]) := by
  have hz := h.size
  subst hz
  refine ⟨by simp, ?_, ?_⟩
  · intro e he
    rw [List.mem_append, List.mem_singleton] at he
    rcases he with he | rfl
    · exact good_alloc (h.good e he) _
    · exact good_new w c t
  · intro i j e e' hi hj ho hne
    have key : ∀ (k : Nat) (z : Ent), (mem ++ [(⟨w.heap.size, 0, c, t, true⟩ : Ent)])[k]? = some z → (mem[k]? = some z ∧ z.id < w.heap.size) ∨ (k = mem.length ∧ z.id = w.heap.size) := by
      intro k z hz
      rw [List.getElem?_append] at hz
      split at hz
      · exact .inl ⟨hz, (h.good z (List.mem_of_getElem? hz)).1⟩
      · rename_i hk
        cases hkk : k - mem.length with
        | zero =>
          rw [hkk] at hz
          simp at hz
          subst hz
          exact .inr ⟨by omega, rfl⟩
        | succ n => rw [hkk] at hz; simp at hz
    rcases key i e hi with ⟨a1, a2⟩ | ⟨a1, a2⟩ <;> rcases key j e' hj with ⟨b1, b2⟩ | ⟨b1, b2⟩
    · exact h.apart i j e e' a1 b1 ho hne
    · omega
    · omega
    · omega

theorem run_store {α : Type} {P : Program} {md : Mode} {a : Addr} {v u : Value} {k : Sem α} {w : World} (hv : one v = true) (hc : w.cell? a = some u) (hf : w.frozen? a = false) : (Sem.store md a v k).run P w = k.run P (w.setCell a v) := by
  cases v <;> first | (cases hv; done) | simp [Sem.run, hc, hf]
theorem mrun_sound {α : Type} {P : Program} {O : List Nat} {B : Nat} : ∀ (s : Sem α) (m m' : MS) (a : α) (w : World), mrun P s m = some (a, m') → Sat w m.sz m.mem → B ≤ w.heap.size → (∀ e ∈ m.mem, e.own = true → e.id ∈ O ∨ B ≤ e.id) → (∀ p ∈ m'.eqs, p.1 = p.2) →
    ∃ w', s.run P w = .ok a w' ∧ Sat w' m'.sz m'.mem ∧ Kept O B w w' ∧ (∀ e ∈ m'.mem, e.own = true → e.id ∈ O ∨ B ≤ e.id) := by
  intro s
  induction s with
  | pure a =>
    intro m m' x w h hS hB hO he
    simp only [mrun, Option.some.injEq, Prod.mk.injEq] at h
    obtain ⟨rfl, rfl⟩ := h
    exact ⟨w, rfl, hS, .refl _ _ _, hO⟩
  | load md a k ih =>
    intro m m' x w h hS hB hO he
    unfold mrun at h
    split at h
    · rename_i e hm
      split at h
      · rename_i v hv hsp
        have hq := mrun_eqs _ _ _ _ h
        have e1 := he _ (hq (a.block, e.id) (by simp))
        have e2 := he _ (hq (a.off, e.off + m.hint.2) (by simp))
        obtain ⟨w', h1, h2, h3, h4⟩ := ih v _ _ _ w h hS hB hO he
        refine ⟨w', ?_, h2, h3, h4⟩
        unfold Sem.run
        rw [cell_of_good (hS.good e (List.mem_of_getElem? hm)) hv e1 e2 hsp]
        exact h1
      · cases h
    · cases h
  | store md a v k ih =>
    intro m m' x w h hS hB hO he
    unfold mrun at h
    split at h
    · cases h
    · rename_i hone
      split at h
      · rename_i e hm
        split at h
        · rename_i ho hsp hlt
          have hq := mrun_eqs _ _ _ _ h
          have e1 := he _ (hq (a.block, e.id) (by simp))
          have e2 := he _ (hq (a.off, e.off + m.hint.2) (by simp))
          simp only at e1 e2
          have hl : m.hint.2 < e.cells.length := by simpa using hlt
          have hS' := hS.set hm ho (v := v) e1 e2 hsp
          have hg := hS.good e (List.mem_of_getElem? hm)
          have hc := cell_of_good hg (List.getElem?_eq_getElem hl) e1 e2 hsp
          have hf := frozen_of_good hg ho e1
          have hsz : (w.setCell a v).heap.size = w.heap.size := by simp [World.setCell]
          obtain ⟨w', h1, h2, h3, h4⟩ := ih _ _ _ (w.setCell a v) h hS' (by rw [hsz]; exact hB) (fun z hz hzo => by
            obtain ⟨k, hk⟩ := List.mem_iff_getElem?.1 hz
            rw [List.getElem?_set] at hk
            by_cases hik : m.hint.1 = k
            · rw [if_pos hik, if_pos (List.getElem?_eq_some_iff.1 hm).1] at hk
              obtain rfl := Option.some.inj hk
              exact hO e (List.mem_of_getElem? hm) ho
            · rw [if_neg hik] at hk
              exact hO z (List.mem_of_getElem? hk) hzo) he
          refine ⟨w', ?_, h2, Kept.trans (v := w.setCell a v) ⟨rfl, rfl, rfl, Nat.le_of_eq hsz.symm, fun i hi hno => ?_⟩ h3, h4⟩
          · rw [run_store hone hc hf]; exact h1
          · refine heap_setCell_other' _ _ _ _ (fun hik => ?_)
            rw [e1] at hik
            rcases hO e (List.mem_of_getElem? hm) ho with h5 | h5
            · exact hno (hik ▸ h5)
            · omega
        · cases h
      · cases h
  | new o k ih =>
    intro m m' x w h hS hB hO he
    unfold mrun at h
    split at h
    · rename_i c t
      have hS' := hS.new c.toList t
      obtain ⟨w', h1, h2, h3, h4⟩ := ih _ _ _ _ (w.alloc (.cells c.toList.toArray t (0, 0))) h hS' (by simp; omega) (fun z hz hzo => by
        rw [List.mem_append, List.mem_singleton] at hz
        rcases hz with hz | rfl
        · exact hO z hz hzo
        · right; rw [← hS.size]; exact hB) he
      refine ⟨w', ?_, h2, Kept.trans (v := w.alloc (.cells c.toList.toArray t (0, 0))) ⟨rfl, rfl, rfl, by simp, fun i hi _ => heap_alloc_old _ _ _ (by omega)⟩ h3, h4⟩
      rw [← h1, ← hS.size]
      rfl
    · cases h
  | program k ih =>
    intro m m' x w h hS hB hO he
    unfold mrun at h
    obtain ⟨w', h1, h2⟩ := ih _ _ _ _ w h hS hB hO he
    exact ⟨w', h1, h2⟩
  | mark mk k ih =>
    intro m m' x w h hS hB hO he
    unfold mrun at h
    obtain ⟨w', h1, h2⟩ := ih _ _ _ w h hS hB hO he
    exact ⟨w', h1, h2⟩
  | shape r k ih => intro m m' x w h; unfold mrun at h; cases h
  | freeze a n k ih => intro m m' x w h; unfold mrun at h; cases h
  | frozen a k ih => intro m m' x w h; unfold mrun at h; cases h
  | getObj r k ih => intro m m' x w h; unfold mrun at h; cases h
  | setObj r o k ih => intro m m' x w h; unfold mrun at h; cases h
  | choose q k ih => intro m m' x w h; unfold mrun at h; cases h
  | sys c k ih => intro m m' x w h; unfold mrun at h; cases h
  | halt hh => intro m m' x w h; unfold mrun at h; cases h
end Go.Proofs.YtdcbnkimjhefkaaGreatDoor

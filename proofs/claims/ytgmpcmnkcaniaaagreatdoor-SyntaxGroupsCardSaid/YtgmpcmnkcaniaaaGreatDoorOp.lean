/-
  One operation at a time, over what its operands are known to be.
-/
import Derived.Test.YtgmpcmnkcaniaaaGreatDoorAl
import Derived.Deep.MidRow
namespace Go.Proofs.YtgmpcmnkcaniaaaGreatDoor

/-- Some slots, as they are known to read. -/
def ovr (l : List (Tmp × Value)) (ρ : Operand → Value) : Operand → Value
  | .tmp t => match l.find? (fun p => p.1 == t) with
    | some p => p.2
    | none => ρ (.tmp t)
  | x => ρ x
def Knows (ρ : Operand → Value) : List (Tmp × Value) → Prop
  | [] => True
  | p :: l => ρ (.tmp p.1) = p.2 ∧ Knows ρ l
theorem Knows.mem {ρ : Operand → Value} : ∀ {l : List (Tmp × Value)}, Knows ρ l → ∀ p ∈ l, ρ (.tmp p.1) = p.2
  | [], _, p, hp => by cases hp
  | q :: l, h, p, hp => by
    rcases List.mem_cons.1 hp with rfl | hp2
    · exact h.1
    · exact Knows.mem h.2 p hp2
theorem ovr_eq {ρ : Operand → Value} {l : List (Tmp × Value)} (h : Knows ρ l) : ovr l ρ = ρ := by
  funext x
  cases x with
  | tmp t =>
    unfold ovr
    cases hf : l.find? (fun p => p.1 == t) with
    | none => simp only [hf]
    | some p =>
      have hm := List.mem_of_find?_eq_some hf
      have ht : p.1 = t := by simpa using List.find?_some hf
      have := h.mem p hm
      rw [ht] at this
      simp only [hf]
      exact this.symm
  | const v => rfl
  | global g => rfl
  | func f => rfl
theorem OpOk.over {P : Program} {o : Oper} {ρ : Operand → Value} {w : World} {K : Value → World → Prop} (l : List (Tmp × Value)) (h : Knows ρ l) (hk : OpOk P o (ovr l ρ) w K) : OpOk P o ρ w K := by
  rw [ovr_eq h] at hk; exact hk
def KV (vals : Nat → Value) : List (Tmp × Nat × Value) → Prop
  | [] => True
  | p :: l => vals p.2.1 = p.2.2 ∧ KV vals l
def KA (a0 : Act) : List (Tmp × Value) → Prop
  | [] => True
  | p :: l => a0.eval (.tmp p.1) = p.2 ∧ KA a0 l
theorem knows_vals {a0 : Act} {W : Wr} {vals : Nat → Value} : ∀ {l : List (Tmp × Nat × Value)}, (∀ p ∈ l, W.of p.1 = some p.2.1) → KV vals l → ∀ {r : List (Tmp × Value)}, Knows (evalV a0 W vals) r → Knows (evalV a0 W vals) (l.map (fun p => (p.1, p.2.2)) ++ r)
  | [], _, _, _, h => h
  | p :: l, hw, hv, r, h => by
    refine ⟨?_, knows_vals (fun q hq => hw q (by simp [hq])) hv.2 h⟩
    have := hw p (by simp)
    unfold evalV
    simp only [this]
    exact hv.1
theorem knows_act {a0 : Act} {W : Wr} {vals : Nat → Value} : ∀ {l : List (Tmp × Value)}, (∀ p ∈ l, W.of p.1 = none) → KA a0 l → Knows (evalV a0 W vals) l
  | [], _, _ => trivial
  | p :: l, hw, hv => by
    refine ⟨?_, knows_act (fun q hq => hw q (by simp [hq])) hv.2⟩
    have := hw p (by simp)
    unfold evalV
    simp only [this]
    exact hv.1
/-- What the operands are known to be: out of operations of the region, out of the frame. -/
theorem OpOk.known {P : Program} {o : Oper} {a0 : Act} {W : Wr} {vals : Nat → Value} {w : World} {K : Value → World → Prop} (l : List (Tmp × Nat × Value)) (r : List (Tmp × Value))
    (hc : (l.all (fun p => W.of p.1 == some p.2.1) && r.all (fun p => W.of p.1 == none)) = true) (hv : KV vals l) (ha : KA a0 r)
    (hk : OpOk P o (ovr (l.map (fun p => (p.1, p.2.2)) ++ r) (evalV a0 W vals)) w K) : OpOk P o (evalV a0 W vals) w K := by
  simp only [Bool.and_eq_true, List.all_eq_true, beq_iff_eq] at hc
  exact OpOk.over _ (knows_vals hc.1 hv (knows_act hc.2 ha)) hk
theorem OpOk.loadMid {P : Program} {o : Oper} {ρ : Operand → Value} {w : World} {K : Value → World → Prop} (ty : TypeId) (x : Operand) (ho : o.op = .load ty x)
    {b off : Nat} (hx : ρ x = .pointer (some ⟨b, off, none⟩)) (cs : List Value) (hc : w.rangeAt b off cs) (hr : (P.underlying ty).map TypeDesc.isRow = some true) (hi : (P.info? ty).map (·.size) = some cs.length)
    (hk : K (.agg cs.toArray) w) : OpOk P o ρ w K := by
  cases hu : P.underlying ty with
  | none => rw [hu] at hr; cases hr
  | some d =>
    have hd : d.isRow = true := by rw [hu] at hr; exact Option.some.inj hr
    refine OpOk.value (v := .agg cs.toArray) (w' := w) ?_ hk
    unfold execOp
    simp only [ho, hx, Instr.loadAt, Instr.sureAddr, Sem.run_bind, Sem.run_pure, Result.andThen_ok, run_loadVar_mid w b off ty cs d hc hu hd hi]
theorem OpOk.loadOne {P : Program} {o : Oper} {ρ : Operand → Value} {w : World} {K : Value → World → Prop} (ty : TypeId) (x : Operand) (ho : o.op = .load ty x)
    {a : Addr} (hx : ρ x = .pointer (some a)) {v : Value} (hc : w.cell? a = some v) (hg : (isAgg ty).run P w = .ok false w)
    (hk : K v w) : OpOk P o ρ w K := by
  refine OpOk.value (v := v) (w' := w) ?_ hk
  unfold execOp
  have hl : (load a).run P w = .ok v w := by unfold load; simp [Sem.run, hc]
  simp only [ho, hx, Instr.loadAt, Instr.sureAddr, Sem.run_bind, Sem.run_pure, Result.andThen_ok, loadVar, hg, Bool.false_eq_true, if_false, hl]
theorem rangeAt_of_heap {w : World} {g : Nat} {C : Array Value} {T : TypeId} {fr : Nat × Nat} (h : w.heap[g]? = some (.cells C T fr)) (off : Nat) (cs : List Value) (hc : ∀ j v, cs[j]? = some v → C[off + j]? = some v) : w.rangeAt g off cs := by
  intro j v hv
  unfold World.cell?
  rw [h]
  exact hc j v hv
theorem rangeAt_all {w : World} {g : Nat} {cs : List Value} {T : TypeId} {fr : Nat × Nat} (h : w.heap[g]? = some (.cells cs.toArray T fr)) : w.rangeAt g 0 cs :=
  rangeAt_of_heap h 0 cs (fun j v hv => by rw [Nat.zero_add, List.getElem?_toArray]; exact hv)
/-- An operation that yields one value without a look at the world. -/
def pureL (i : Nat) (B : List Nat) (v : Value) : Loc := ⟨i, B, [i], fun vs _ => vs = [v]⟩
theorem part_pure {P : Program} {ops : Array Oper} {a0 : Act} {W : Wr} {C : World → Prop} {Ext : World → World → Prop} {L : List Loc} {i : Nat} {B : List Nat} {v : Value} (hrf : ∀ w : World, Ext w w)
    (h : ∀ (vals : Nat → Value) (w : World), C w → heldBy B vals w L → (execOp (evalV a0 W vals) (ops.getD i default)).run P w = .ok (.value v) w) : Part P ops a0 W C Ext L (pureL i B v) :=
  ⟨fun _ _ _ _ _ h => h, fun vals w hC hb => OpOk.value (h vals w hC hb) ⟨hC, hrf w, by simp [pureL, upv]⟩⟩
theorem rangeAt_lit {w : World} {g : Nat} {l : List Value} {T : TypeId} {fr : Nat × Nat} (h : w.heap[g]? = some (.cells l.toArray T fr)) (off : Nat) (cs : List Value) (hc : (l.drop off).take cs.length = cs) : w.rangeAt g off cs := by
  refine rangeAt_of_heap h off cs fun j v hv => ?_
  rw [List.getElem?_toArray]
  rw [← hc] at hv
  rw [List.getElem?_take] at hv
  split at hv
  · rw [List.getElem?_drop] at hv; exact hv
  · cases hv
theorem fin_other {ops : Array Oper} {vals : Nat → Value} {A : List Nat} {a : Act} (t : Nat) (h : (A.all fun i => dstOf ops i != some t) = true) : (fin ops vals A a).eval (.tmp t) = a.eval (.tmp t) := by
  show (fin ops vals A a).tmps.getD t undef = a.tmps.getD t undef
  rw [Array.getD_eq_getD_getElem?, Array.getD_eq_getD_getElem?, fin_not]
  intro i hi
  rw [List.all_eq_true] at h
  have := h i hi
  simpa using this
theorem fin_own {ops : Array Oper} {vals : Nat → Value} {A : List Nat} {a : Act} (t j : Nat) (h : ((A.all fun i => dstOf ops i != some t || i == j) && A.contains j && dstOf ops j == some t) = true) (ht : t < a.tmps.size) : (fin ops vals A a).eval (.tmp t) = vals j := by
  simp only [Bool.and_eq_true, List.all_eq_true, List.contains_iff_mem, beq_iff_eq, Bool.or_eq_true, bne_iff_ne] at h
  obtain ⟨⟨h1, h2⟩, h3⟩ := h
  show (fin ops vals A a).tmps.getD t undef = vals j
  rw [Array.getD_eq_getD_getElem?, fin_at ops vals t j A a (fun i hi hd => (h1 i hi).resolve_left (fun hn => hn hd)) h2 h3 ht]
  rfl
theorem there_of_heap {w : World} {g : Nat} {C : Array Value} {T : TypeId} (h : w.heap[g]? = some (.cells C T (0, 0))) (off n : Nat) (hn : off + n ≤ C.size) : w.there g off n := by
  intro j hj
  unfold World.cell? World.frozen?
  rw [h]
  constructor
  · have : off + j < C.size := by omega
    simp [this]
  · simp
/-- A result that lies in memory. -/
theorem results_cell {P : Program} {fn : Func} {a : Act} {w : World} {t : Tmp} {ty : TypeId} {b : Nat} (hr : fn.results = #[.cell t ty]) (hx : a.eval (.tmp t) = .pointer (some ⟨b, 0, none⟩)) (cs : List Value) (hc : w.rangeAt b 0 cs) (hrow : (P.underlying ty).map TypeDesc.isRow = some true) (hi : (P.info? ty).map (·.size) = some cs.length) :
    (results fn a.tmps).run P w = .ok (.agg cs.toArray) w := by
  cases hu : P.underlying ty with
  | none => rw [hu] at hrow; cases hrow
  | some d =>
    have hd : d.isRow = true := by rw [hu] at hrow; exact Option.some.inj hrow
    have hx' : a.tmps[t]?.getD undef = .pointer (some ⟨b, 0, none⟩) := (Array.getD_eq_getD_getElem?).symm.trans hx
    unfold results
    rw [hr]
    simp [hx', asAddr, run_loadVar_mid w b 0 ty cs d hc hu hd hi]
end Go.Proofs.YtgmpcmnkcaniaaaGreatDoor

/-
  Append: a row that grows, in its place or elsewhere.
  One operation at a time, over what its operands are known to be.
-/
import Derived.Test.YtdcbnkimjhefkaaGreatDoorZ12
import Derived.Test.YtdcbnkimjhefkaaGreatDoorZ06
import Derived.Deep.MidRow
namespace Go.Proofs.YtdcbnkimjhefkaaGreatDoor
section
variable {P : Program} {σ : Ren} {h : Hp} {w : World}
theorem Sim.kill (s : Sim P σ h w) {b : Nat} {i : Option (Nat × Nat)} (hro : ∀ e, i ≠ some (0, e)) {t : TypeId} {cs : List Value} (hb : h b = some ⟨i, .cells t cs⟩) : Sim P σ (h.set b ⟨i, .dead⟩) w ∧ Fwd σ h w σ (h.set b ⟨i, .dead⟩) w := by
  obtain ⟨C, T, fr, h1, h2⟩ := s.row b i t cs hb
  exact s.turn hro hb nofun h1 (fun _ _ => rfl) rfl rfl rfl rfl fun hn => (hn rfl).elim
/-- A row grows in its place. -/
theorem Sim.regrow (s : Sim P σ h w) {b id off l n sz : Nat} {e0 : Nat} {t T : TypeId} {cs old new new' : List Value} (hsz : sz ≠ 0) (hb : h b = some ⟨some (sz, e0), .cells t cs⟩) (hid : h id = none) (hg : P.globals.size ≤ id)
    (hoff : off = 0) (htT : t = T) (hold : old = (cs.drop off).take (l * sz)) (hol : l * sz = 0 ∨ off + l * sz ≤ cs.length) (hlen : (old ++ new).length = (l + n) * sz) (hv : VRs σ h.dom new new') (hnew : ones new = true) (hfit : off + (l + n) * sz ≤ σ.cap b) :
    ∃ w' σ', (storeCells ⟨σ.blk b, σ.sh b + (off + l * sz), none⟩ new').run P w = .ok () w' ∧ Sim P σ' ((h.set b ⟨some (sz, e0), .dead⟩).set id ⟨some (sz, (l + n) * sz), .cells T (old ++ new)⟩) w' ∧
      Fwd σ h w σ' ((h.set b ⟨some (sz, e0), .dead⟩).set id ⟨some (sz, (l + n) * sz), .cells T (old ++ new)⟩) w' ∧ σ'.blk id = σ.blk b ∧ σ'.sh id = σ.sh b + off ∧ σ'.cap id = σ.cap b - off := by
  obtain ⟨C, T0, fr, h1, h2⟩ := s.row b _ t cs hb
  obtain ⟨q1, q2, q3⟩ := h2.opn sz e0 rfl
  have hro : ∀ e, some (sz, e0) ≠ some (0, e) := fun e he => hsz (by simp only [Option.some.injEq, Prod.mk.injEq] at he; exact he.1)
  have hnl := hv.length
  have hold' : old.length = l * sz := by
    rw [hold]
    rcases hol with e | e
    · rw [e]; simp
    · simp; omega
  have hnewl : new.length = (l + n) * sz - l * sz := by rw [List.length_append] at hlen; omega
  have hroom : σ.sh b + (off + l * sz) + new'.length ≤ C.size := by rw [hnl]; omega
  obtain ⟨C', g1, g2, g3⟩ := setCells_heap (σ.blk b) T0 fr new' (σ.sh b + (off + l * sz)) w C h1 hroom
  obtain ⟨z1, z2, z3, z4⟩ := setCells_size (σ.blk b) new' (σ.sh b + (off + l * sz)) w
  have hrun : (storeCells ⟨σ.blk b, σ.sh b + (off + l * sz), none⟩ new').run P w = .ok () (w.setCells (σ.blk b) (σ.sh b + (off + l * sz)) new') := by
    have := run_storeCells_cells (P := P) (σ.blk b) (σ.sh b + (off + l * sz)) new' 0 w (fun j hj => by
        simp only [World.cell?, h1]
        simp
        omega) (fun j hj => by
        unfold World.frozen?
        simp only [h1]
        cases hh : (decide (fr.1 ≤ σ.sh b + (off + l * sz) + 0 + j) && decide (σ.sh b + (off + l * sz) + 0 + j < fr.2)) with
        | false => rfl
        | true =>
          simp at hh
          have := h2.free hro _ hh.1 hh.2
          omega) (ones_vr hv hnew)
    simpa using this
  have hbid : b ≠ id := fun e => by subst e; rw [hb] at hid; cases hid
  let σ' : Ren := ⟨fun c => if c = id then σ.blk b else σ.blk c, fun c => if c = id then σ.sh b + off else σ.sh c, fun c => if c = id then σ.cap b - off else σ.cap c⟩
  have hdk : (h.set b ⟨some (sz, e0), .dead⟩).dom = h.dom := Hp.dom_set hb rfl
  have hle : Ren.le σ h.dom σ' ((h.set b ⟨some (sz, e0), .dead⟩).set id ⟨some (sz, (l + n) * sz), .cells T (old ++ new)⟩).dom := by
    refine ⟨fun c x hc => ?_, fun c x hc => ?_⟩
    · have hne : c ≠ id := fun e => by subst e; simp [Hp.dom, hid] at hc
      rw [← hdk] at hc
      unfold Hp.dom at hc ⊢
      rw [Hp.set_other hne]; exact hc
    · have hne : c ≠ id := fun e => by subst e; simp [Hp.dom, hid] at hc
      simp [σ', hne]
  have hlive : ∀ c, ((h.set b ⟨some (sz, e0), .dead⟩).set id ⟨some (sz, (l + n) * sz), .cells T (old ++ new)⟩).live c → c ≠ id → c ≠ b ∧ h.live c := fun c hc hne => by
    obtain ⟨i', x', e3, hd3⟩ := hc
    rw [Hp.set_other hne] at e3
    by_cases e : c = b
    · subst e
      rw [Hp.set_same] at e3
      simp only [Option.some.injEq, Blk.mk.injEq] at e3
      exact (hd3 e3.2.symm).elim
    · rw [Hp.set_other e] at e3; exact ⟨e, i', x', e3, hd3⟩
  refine ⟨_, σ', hrun, ⟨?_, ?_, ?_⟩, ⟨hle, ?_, ?_, ?_, by rw [z1]; exact Nat.le_refl _, z2, z3, z4, fun c e t2 cs3 hc => ?_⟩, by simp [σ'], by simp [σ'], by simp [σ']⟩
  · intro c i' x' hc hd3
    by_cases e : c = id
    · subst e
      rw [Hp.set_same] at hc
      simp only [Option.some.injEq, Blk.mk.injEq] at hc
      obtain ⟨rfl, rfl⟩ := hc
      refine ⟨.cells C' T0 fr, by simp [σ']; exact g1, C', T0, fr, rfl, ⟨fun _ => by rw [g2]; exact h2.free hro, ?_, ?_, ?_, fun _ => (h2.elem hro).trans htT, by simp [σ', hoff, h2.sh0], nofun⟩⟩
      · simp only [σ', if_true]
        rw [g2, hlen]
        omega
      · intro j v hj
        simp only [σ', if_true]
        rw [g3]
        rw [List.getElem?_append] at hj
        split at hj
        · rename_i hjo
          rw [if_neg (by omega)]
          have hj2 : cs[off + j]? = some v := by
            rw [hold, List.getElem?_take] at hj
            split at hj
            · rw [List.getElem?_drop] at hj; exact hj
            · cases hj
          obtain ⟨v', r1, r2⟩ := h2.cell (off + j) v hj2
          exact ⟨v', by rw [show σ.sh b + off + j = σ.sh b + (off + j) by omega]; exact r1, r2.mono hle⟩
        · rename_i hjo
          obtain ⟨v', r1, r2⟩ := hv.get hj
          have hjl := (List.getElem?_eq_some_iff.1 hj).1
          rw [if_pos (by omega)]
          exact ⟨v', by rw [show σ.sh b + off + j - (σ.sh b + (off + l * sz)) = j - old.length by omega]; exact r1, r2.mono hle⟩
      · intro sz' e' hie
        simp only [Option.some.injEq, Prod.mk.injEq] at hie
        obtain ⟨rfl, rfl⟩ := hie
        simp only [σ', if_true]
        rw [g2]
        exact ⟨hlen, by omega, by omega⟩
    · have hcl := hlive c ⟨i', x', hc, hd3⟩ e
      rw [Hp.set_other e, Hp.set_other hcl.1] at hc
      obtain ⟨X2, h3, h4⟩ := s.body c i' x' hc hd3
      refine ⟨X2, ?_, h4.mono hle (Hp.dom_some hc)⟩
      simp only [σ', e, if_false]
      rw [setCells_other _ _ _ _ _ (s.apart c b hcl.2 (.row hb) hcl.1)]
      exact h3
  · intro c c' hc hc' hne
    by_cases e : c = id
    · subst e
      have e' : c' ≠ c := fun e' => hne e'.symm
      have hcl := hlive c' hc' e'
      simp only [σ', if_true, e', if_false]
      exact s.apart b c' (.row hb) hcl.2 (fun e2 => hcl.1 e2.symm)
    · have hcl := hlive c hc e
      by_cases e' : c' = id
      · subst e'
        simp only [σ', if_true, e, if_false]
        exact s.apart c b hcl.2 (.row hb) hcl.1
      · have hcl' := hlive c' hc' e'
        simp only [σ', e, e', if_false]
        exact s.apart c c' hcl.2 hcl'.2 hne
  · intro g hg' hn
    have e : g ≠ id := by omega
    rw [Hp.set_other e] at hn
    have := s.glob g hg' fun e1 => hn (by
      by_cases e2 : g = b
      · subst e2; rw [hb] at e1; cases e1
      · rw [Hp.set_other e2]; exact e1)
    simpa [σ', e] using this
  · intro k _ hk
    exact setCells_other _ _ _ _ _ (fun e => hk b (.row hb) e.symm)
  · intro c hc hl
    by_cases e : c = id
    · subst e
      refine .inr ⟨b, (.row hb), fun hlb => (hlive b hlb hbid).1 rfl, by simp [σ']⟩
    · exact ((hlive c hl e).2.not_none hc).elim
  · intro c hl hn
    by_cases e : c = id
    · subst e; exact (hn hid).elim
    · exact (hlive c hl e).2
  · have hne : c ≠ b := fun e2 => by
      subst e2
      rw [hb] at hc
      simp only [Option.some.injEq, Blk.mk.injEq, Prod.mk.injEq] at hc
      exact hsz hc.1.1
    have hne2 : c ≠ id := fun e2 => by subst e2; rw [hid] at hc; cases hc
    exact ⟨by rw [Hp.set_other hne2, Hp.set_other hne]; exact hc, setCells_other _ _ _ _ _ (s.apart c b (.row hc) (.row hb) hne)⟩
end
end Go.Proofs.YtdcbnkimjhefkaaGreatDoor

namespace Go.Proofs.YtdcbnkimjhefkaaGreatDoor

/-- Some slots, as they are known to read. -/
def ovr (l : List (Tmp × Value)) (ρ : Operand → Value) : Operand → Value
  | .tmp t => match l.find? (fun p => p.1 == t) with
    | some p => p.2
    | none => ρ (.tmp t)
  | x => ρ x
def Knows (ρ : Operand → Value) : List (Tmp × Value) → Prop
  | [] => True
  | p :: l => ρ (.tmp p.1) = p.2 ∧ Knows ρ l
theorem Knows.mem {ρ : Operand → Value} : ∀ {l : List (Tmp × Value)}, Knows ρ l → ∀ p ∈ l, ρ (.tmp p.1) = p.2
  | [], _, p, hp => by cases hp
  | q :: l, h, p, hp => by
    rcases List.mem_cons.1 hp with rfl | hp2
    · exact h.1
    · exact Knows.mem h.2 p hp2
theorem ovr_eq {ρ : Operand → Value} {l : List (Tmp × Value)} (h : Knows ρ l) : ovr l ρ = ρ := by
  funext x
  cases x with
  | tmp t =>
    unfold ovr
    cases hf : l.find? (fun p => p.1 == t) with
    | none => simp only [hf]
    | some p =>
      have hm := List.mem_of_find?_eq_some hf
      have ht : p.1 = t := by simpa using List.find?_some hf
      have := h.mem p hm
      rw [ht] at this
      simp only [hf]
      exact this.symm
  | const v => rfl
  | global g => rfl
  | func f => rfl
theorem OpOk.over {P : Program} {o : Oper} {ρ : Operand → Value} {w : World} {K : Value → World → Prop} (l : List (Tmp × Value)) (h : Knows ρ l) (hk : OpOk P o (ovr l ρ) w K) : OpOk P o ρ w K := by
  rw [ovr_eq h] at hk; exact hk
def KV (vals : Nat → Value) : List (Tmp × Nat × Value) → Prop
  | [] => True
  | p :: l => vals p.2.1 = p.2.2 ∧ KV vals l
def KA (a0 : Act) : List (Tmp × Value) → Prop
  | [] => True
  | p :: l => a0.eval (.tmp p.1) = p.2 ∧ KA a0 l
theorem knows_vals {a0 : Act} {W : Wr} {vals : Nat → Value} : ∀ {l : List (Tmp × Nat × Value)}, (∀ p ∈ l, W.of p.1 = some p.2.1) → KV vals l → ∀ {r : List (Tmp × Value)}, Knows (evalV a0 W vals) r → Knows (evalV a0 W vals) (l.map (fun p => (p.1, p.2.2)) ++ r)
  | [], _, _, _, h => h
  | p :: l, hw, hv, r, h => by
    refine ⟨?_, knows_vals (fun q hq => hw q (by simp [hq])) hv.2 h⟩
    have := hw p (by simp)
    unfold evalV
    simp only [this]
    exact hv.1
theorem knows_act {a0 : Act} {W : Wr} {vals : Nat → Value} : ∀ {l : List (Tmp × Value)}, (∀ p ∈ l, W.of p.1 = none) → KA a0 l → Knows (evalV a0 W vals) l
  | [], _, _ => trivial
  | p :: l, hw, hv => by
    refine ⟨?_, knows_act (fun q hq => hw q (by simp [hq])) hv.2⟩
    have := hw p (by simp)
    unfold evalV
    simp only [this]
    exact hv.1
/-- What the operands are known to be: out of operations of the region, out of the frame. -/
theorem OpOk.known {P : Program} {o : Oper} {a0 : Act} {W : Wr} {vals : Nat → Value} {w : World} {K : Value → World → Prop} (l : List (Tmp × Nat × Value)) (r : List (Tmp × Value))
    (hc : (l.all (fun p => W.of p.1 == some p.2.1) && r.all (fun p => W.of p.1 == none)) = true) (hv : KV vals l) (ha : KA a0 r)
    (hk : OpOk P o (ovr (l.map (fun p => (p.1, p.2.2)) ++ r) (evalV a0 W vals)) w K) : OpOk P o (evalV a0 W vals) w K := by
  simp only [Bool.and_eq_true, List.all_eq_true, beq_iff_eq] at hc
  exact OpOk.over _ (knows_vals hc.1 hv (knows_act hc.2 ha)) hk
theorem OpOk.loadMid {P : Program} {o : Oper} {ρ : Operand → Value} {w : World} {K : Value → World → Prop} (ty : TypeId) (x : Operand) (ho : o.op = .load ty x)
    {b off : Nat} (hx : ρ x = .pointer (some ⟨b, off, none⟩)) (cs : List Value) (hc : w.rangeAt b off cs) (hr : (P.underlying ty).map TypeDesc.isRow = some true) (hi : (P.info? ty).map (·.size) = some cs.length)
    (hk : K (.agg cs.toArray) w) : OpOk P o ρ w K := by
  cases hu : P.underlying ty with
  | none => rw [hu] at hr; cases hr
  | some d =>
    have hd : d.isRow = true := by rw [hu] at hr; exact Option.some.inj hr
    refine OpOk.value (v := .agg cs.toArray) (w' := w) ?_ hk
    unfold execOp
    simp only [ho, hx, Instr.loadAt, Instr.sureAddr, Sem.run_bind, Sem.run_pure, Result.andThen_ok, run_loadVar_mid w b off ty cs d hc hu hd hi]
theorem OpOk.loadOne {P : Program} {o : Oper} {ρ : Operand → Value} {w : World} {K : Value → World → Prop} (ty : TypeId) (x : Operand) (ho : o.op = .load ty x)
    {a : Addr} (hx : ρ x = .pointer (some a)) {v : Value} (hc : w.cell? a = some v) (hg : (isAgg ty).run P w = .ok false w)
    (hk : K v w) : OpOk P o ρ w K := by
  refine OpOk.value (v := v) (w' := w) ?_ hk
  unfold execOp
  have hl : (load a).run P w = .ok v w := by unfold load; simp [Sem.run, hc]
  simp only [ho, hx, Instr.loadAt, Instr.sureAddr, Sem.run_bind, Sem.run_pure, Result.andThen_ok, loadVar, hg, Bool.false_eq_true, if_false, hl]
theorem rangeAt_of_heap {w : World} {g : Nat} {C : Array Value} {T : TypeId} {fr : Nat × Nat} (h : w.heap[g]? = some (.cells C T fr)) (off : Nat) (cs : List Value) (hc : ∀ j v, cs[j]? = some v → C[off + j]? = some v) : w.rangeAt g off cs := by
  intro j v hv
  unfold World.cell?
  rw [h]
  exact hc j v hv
theorem rangeAt_all {w : World} {g : Nat} {cs : List Value} {T : TypeId} {fr : Nat × Nat} (h : w.heap[g]? = some (.cells cs.toArray T fr)) : w.rangeAt g 0 cs :=
  rangeAt_of_heap h 0 cs (fun j v hv => by rw [Nat.zero_add, List.getElem?_toArray]; exact hv)
/-- An operation that yields one value without a look at the world. -/
def pureL (i : Nat) (B : List Nat) (v : Value) : Loc := ⟨i, B, [i], fun vs _ => vs = [v]⟩
theorem part_pure {P : Program} {ops : Array Oper} {a0 : Act} {W : Wr} {C : World → Prop} {Ext : World → World → Prop} {L : List Loc} {i : Nat} {B : List Nat} {v : Value} (hrf : ∀ w : World, Ext w w)
    (h : ∀ (vals : Nat → Value) (w : World), C w → heldBy B vals w L → (execOp (evalV a0 W vals) (ops.getD i default)).run P w = .ok (.value v) w) : Part P ops a0 W C Ext L (pureL i B v) :=
  ⟨fun _ _ _ _ _ h => h, fun vals w hC hb => OpOk.value (h vals w hC hb) ⟨hC, hrf w, by simp [pureL, upv]⟩⟩
theorem rangeAt_lit {w : World} {g : Nat} {l : List Value} {T : TypeId} {fr : Nat × Nat} (h : w.heap[g]? = some (.cells l.toArray T fr)) (off : Nat) (cs : List Value) (hc : (l.drop off).take cs.length = cs) : w.rangeAt g off cs := by
  refine rangeAt_of_heap h off cs fun j v hv => ?_
  rw [List.getElem?_toArray]
  rw [← hc] at hv
  rw [List.getElem?_take] at hv
  split at hv
  · rw [List.getElem?_drop] at hv; exact hv
  · cases hv
theorem fin_other {ops : Array Oper} {vals : Nat → Value} {A : List Nat} {a : Act} (t : Nat) (h : (A.all fun i => dstOf ops i != some t) = true) : (fin ops vals A a).eval (.tmp t) = a.eval (.tmp t) := by
  show (fin ops vals A a).tmps.getD t undef = a.tmps.getD t undef
  rw [Array.getD_eq_getD_getElem?, Array.getD_eq_getD_getElem?, fin_not]
  intro i hi
  rw [List.all_eq_true] at h
  have := h i hi
  simpa using this
theorem fin_own {ops : Array Oper} {vals : Nat → Value} {A : List Nat} {a : Act} (t j : Nat) (h : ((A.all fun i => dstOf ops i != some t || i == j) && A.contains j && dstOf ops j == some t) = true) (ht : t < a.tmps.size) : (fin ops vals A a).eval (.tmp t) = vals j := by
  simp only [Bool.and_eq_true, List.all_eq_true, List.contains_iff_mem, beq_iff_eq, Bool.or_eq_true, bne_iff_ne] at h
  obtain ⟨⟨h1, h2⟩, h3⟩ := h
  show (fin ops vals A a).tmps.getD t undef = vals j
  rw [Array.getD_eq_getD_getElem?, fin_at ops vals t j A a (fun i hi hd => (h1 i hi).resolve_left (fun hn => hn hd)) h2 h3 ht]
  rfl
theorem there_of_heap {w : World} {g : Nat} {C : Array Value} {T : TypeId} (h : w.heap[g]? = some (.cells C T (0, 0))) (off n : Nat) (hn : off + n ≤ C.size) : w.there g off n := by
  intro j hj
  unfold World.cell? World.frozen?
  rw [h]
  constructor
  · have : off + j < C.size := by omega
    simp [this]
  · simp
/-- A result that lies in memory. -/
theorem results_cell {P : Program} {fn : Func} {a : Act} {w : World} {t : Tmp} {ty : TypeId} {b : Nat} (hr : fn.results = #[.cell t ty]) (hx : a.eval (.tmp t) = .pointer (some ⟨b, 0, none⟩)) (cs : List Value) (hc : w.rangeAt b 0 cs) (hrow : (P.underlying ty).map TypeDesc.isRow = some true) (hi : (P.info? ty).map (·.size) = some cs.length) :
    (results fn a.tmps).run P w = .ok (.agg cs.toArray) w := by
  cases hu : P.underlying ty with
  | none => rw [hu] at hrow; cases hrow
  | some d =>
    have hd : d.isRow = true := by rw [hu] at hrow; exact Option.some.inj hrow
    have hx' : a.tmps[t]?.getD undef = .pointer (some ⟨b, 0, none⟩) := (Array.getD_eq_getD_getElem?).symm.trans hx
    unfold results
    rw [hr]
    simp [hx', asAddr, run_loadVar_mid w b 0 ty cs d hc hu hd hi]
end Go.Proofs.YtdcbnkimjhefkaaGreatDoor

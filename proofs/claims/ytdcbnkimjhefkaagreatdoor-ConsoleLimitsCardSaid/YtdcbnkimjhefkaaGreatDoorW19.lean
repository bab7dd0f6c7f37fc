/-
  Regions that draw their order, over frames that are functions; appends.
-/
import Derived.Test.YtdcbnkimjhefkaaGreatDoorW10
namespace Go.Proofs.YtdcbnkimjhefkaaGreatDoor
section
variable {P : Program} {ops : Array Oper} {Q : Exit → Act → World → Prop} {md : Region.Mode} {W : Wr} {listed0 : Array Bool} {n : Nat} {E : Nat → Value} {C : World → Prop} {Ext : World → World → Prop} {L : List Loc} {w0 : World}

def evalVE (n : Nat) (E : Nat → Value) (W : Wr) (vals : Nat → Value) : Operand → Value
  | .tmp t => match W.of t with
    | some j => vals j
    | none => evE n E (.tmp t)
  | x => evE n E x
theorem evalV_Fr (vals : Nat → Value) : evalV (Fr n E) W vals = evalVE n E W vals := by
  funext x
  unfold evalV evalVE
  rw [eval_Fr]
  cases x <;> rfl
def PartE (P : Program) (ops : Array Oper) (n : Nat) (E : Nat → Value) (W : Wr) (C : World → Prop) (Ext : World → World → Prop) (L : List Loc) (l : Loc) : Prop :=
  (∀ vs w w', C w → Ext w w' → l.says vs w → l.says vs w') ∧
    ∀ (vals : Nat → Value) (w : World), C w → heldBy l.before vals w L → OpOk P (ops.getD l.idx default) (evalVE n E W vals) w (fun v w' => C w' ∧ Ext w w' ∧ l.says (l.deps.map (upv vals l.idx v)) w')
def PartsE (P : Program) (ops : Array Oper) (n : Nat) (E : Nat → Value) (W : Wr) (C : World → Prop) (Ext : World → World → Prop) (L : List Loc) : List Loc → Prop
  | [] => True
  | l :: r => PartE P ops n E W C Ext L l ∧ PartsE P ops n E W C Ext L r
theorem PartsE.parts : ∀ {r : List Loc}, PartsE P ops n E W C Ext L r → Parts P ops (Fr n E) W C Ext L r
  | [], _ => trivial
  | l :: r, h => by
    refine ⟨⟨h.1.1, fun vals w hC hb => ?_⟩, PartsE.parts h.2⟩
    rw [evalV_Fr]
    exact h.1.2 vals w hC hb
theorem any_partsE (hok : (locOk md ops W listed0 n L && bare ops L) = true) (hC : C w0) (hrf : ∀ w : World, Ext w w) (htr : ∀ a b c : World, Ext a b → Ext b c → Ext a c)
    (hp : PartsE P ops n E W C Ext L L) {fuel k : Nat} (hk : k = L.length + fuel)
    (H : ∀ vals w, C w → Ext w0 w → heldAll vals w L → wpAny P md ops Q fuel ((L.map (·.idx)).foldl (fun b i => b.setIfInBounds i true) listed0) (Fr n (finE ops vals (L.map (·.idx)) E)) w) :
    wpAny P md ops Q k listed0 (Fr n E) w0 := by
  subst hk
  refine any_parts (by rw [Fr_size]; exact hok) hC hrf htr hp.parts fun vals w h1 h2 h3 => ?_
  rw [fin_Fr]
  exact H vals w h1 h2 h3
theorem knows_valsE {vals : Nat → Value} : ∀ {l : List (Tmp × Nat × Value)}, (∀ p ∈ l, W.of p.1 = some p.2.1) → KV vals l → Knows (evalVE n E W vals) (l.map (fun p => (p.1, p.2.2)))
  | [], _, _ => trivial
  | p :: l, hw, hv => by
    refine ⟨?_, knows_valsE (fun q hq => hw q (by simp [hq])) hv.2⟩
    have := hw p (by simp)
    unfold evalVE
    simp only [this]
    exact hv.1
theorem OpOk.knownE {o : Oper} {vals : Nat → Value} {w : World} {K : Value → World → Prop} (l : List (Tmp × Nat × Value))
    (hc : (l.all (fun p => W.of p.1 == some p.2.1)) = true) (hv : KV vals l)
    (hk : OpOk P o (ovr (l.map (fun p => (p.1, p.2.2))) (evalVE n E W vals)) w K) : OpOk P o (evalVE n E W vals) w K := by
  simp only [List.all_eq_true, beq_iff_eq] at hc
  exact OpOk.over _ (knows_valsE hc hv) hk
theorem part_pureE {i : Nat} {B : List Nat} {v : Value} (hrf : ∀ w : World, Ext w w)
    (h : ∀ (vals : Nat → Value) (w : World), C w → heldBy B vals w L → (execOp (evalVE n E W vals) (ops.getD i default)).run P w = .ok (.value v) w) : PartE P ops n E W C Ext L (pureL i B v) :=
  ⟨fun _ _ _ _ _ h => h, fun vals w hC hb => OpOk.value (h vals w hC hb) ⟨hC, hrf w, by simp [pureL, upv]⟩⟩
/-- An operation that only reads what is known. -/
theorem OpOk.reads {o : Oper} {ρ : Operand → Value} {w : World} {K : Value → World → Prop} (m : MS) (hg : ∀ e ∈ m.mem, e.good w) (v : Value) (hv : (lrun P (execOp ρ o) m).map (·.1) = some (.value v))
    (he : ((lrun P (execOp ρ o) m).map (·.2.eqs.map Prod.fst)) = ((lrun P (execOp ρ o) m).map (·.2.eqs.map Prod.snd))) (hk : K v w) : OpOk P o ρ w K := by
  cases hl : lrun P (execOp ρ o) m with
  | none => rw [hl] at hv; cases hv
  | some p =>
    obtain ⟨v', m'⟩ := p
    rw [hl] at hv he
    have hv' : v' = .value v := Option.some.inj hv
    have he' : m'.eqs.map Prod.fst = m'.eqs.map Prod.snd := Option.some.inj he
    subst hv'
    refine OpOk.value (v := v) (w' := w) (lrun_sound _ _ _ _ hl hg fun p hp => ?_) hk
    obtain ⟨i, hi⟩ := List.mem_iff_getElem?.1 hp
    have h1 : (m'.eqs.map Prod.fst)[i]? = some p.1 := by rw [List.getElem?_map, hi]; rfl
    have h2 : (m'.eqs.map Prod.snd)[i]? = some p.2 := by rw [List.getElem?_map, hi]; rfl
    rw [he', h2] at h1
    exact (Option.some.inj h1).symm
theorem lies_lit {O : List Nat} {B : Nat} {w : World} {s : MS} (h : Lies O B w s) (z : Nat) (m : List Ent) (hz : s.sz = z) (hm : s.mem = m) : Lies O B w ⟨z, m, (0, 0), []⟩ := by
  subst hz hm
  exact ⟨h.sat, h.le, h.own⟩
/-- The code's way alone: on to the next stop. -/
def stepT : List Item → Option (List Item)
  | .code .skip :: k => some k
  | .code (.label _) :: k => some k
  | .inBlock _ :: k => some k
  | .code (.seq x y) :: k => some (.code x :: .code y :: k)
  | .code (.block id c) :: k => some (.code c :: .inBlock id :: k)
  | .code (.exit id) :: k => exitTo id k
  | .code (.region _ ops false) :: k => some (.inRegion ops (List.range ops.size) :: k)
  | .inRegion _ [] :: k => some k
  | .inRegion ops (i :: r) :: k => match ops[i]? with
    | some o => match heavy o.op with
      | true => none
      | false => some (.inRegion ops r :: k)
    | none => none
  | _ => none
def advT : Nat → List Item → List Item
  | 0, t => t
  | m + 1, t => match stepT t with
    | some t' => advT m t'
    | none => t
/-- On to the next stop; what is known there, written out. -/
theorem at_run {f : FuncId} {R : Ending → World → Prop} {w : World} (m : Nat) (todo : List Item) (z : Nat) (mem : List Ent) (hints : List (Nat × Nat)) (todo' : List Item) (l : List (Nat × Value)) (z' : Nat) (mem' : List Ent)
    (hL : Lies (mem.map (·.id)) w.heap.size w ⟨z, mem, (0, 0), []⟩)
    (he : (fun a : St => (a.todo, a.ms.mem, a.ms.sz, l.map (fun p => a.env p.1), a.ms.eqs.map Prod.fst)) (adv P n m ⟨todo, E, ⟨z, mem, (0, 0), []⟩, hints⟩) = (todo', mem', z', l.map (·.2), (adv P n m ⟨todo, E, ⟨z, mem, (0, 0), []⟩, hints⟩).ms.eqs.map Prod.snd))
    (hk : ∀ w' E', Lies (mem.map (·.id)) w.heap.size w' ⟨z', mem', (0, 0), []⟩ → Kept (mem.map (·.id)) w.heap.size w w' → At P f R todo' (Fr n (updL E' l)) w') : At P f R todo (Fr n E) w := by
  simp only [Prod.mk.injEq] at he
  obtain ⟨h1, h2, h3, h4, h5⟩ := he
  refine at_adv m ⟨todo, E, ⟨z, mem, (0, 0), []⟩, hints⟩ hL h5 fun w' hL' hK => ?_
  rw [h1]
  exact at_known l h4 fun E' => hk w' E' (lies_lit hL' z' mem' h3 h2) hK
theorem lies_nil (w : World) : Lies [] w.heap.size w ⟨w.heap.size, [], (0, 0), []⟩ :=
  ⟨⟨rfl, fun e he => (by cases he), fun i j e e' hi => (by simp at hi)⟩, Nat.le_refl _, fun e he => (by cases he)⟩
theorem owns_keep {w w' : World} {base : Nat} {e : TypeId} {size : Nat} {v : Value} {k : Nat} {xs : List Value} (h : w.ownsRow base e size v k xs) (hk : ∀ g, v.ownBlock = some g → w'.heap[g]? = w.heap[g]?) : w'.ownsRow base e size v k xs := by
  obtain ⟨h1, h2⟩ := h
  refine ⟨h1, ?_⟩
  rcases h2 with h2 | ⟨g, cap, cur, rfl, hg, hb, h3⟩
  · exact .inl h2
  · exact .inr ⟨g, cap, cur, rfl, hg, (hk g rfl).trans hb, h3⟩
/-- A function is entered. -/
theorem calls_at {f : FuncId} {R : Ending → World → Prop} {fn : Func} {c : Code} {args : List Value} {w : World} (hf : P.funcs[f]? = some fn) (hb : fn.body = some c) (hn : fn.ntmps = n) (hl : Nat.ble args.length n = true)
    (h : At P f R [.code c] (Fr n (fun t => args.getD t undef)) w) : Calls P f args.toArray w R := by
  subst hn
  exact calls_mid hf hb h.mid (Nat.le_of_ble_eq_true hl)
theorem any_end {listed : Array Bool} {fuel : Nat} {a : Act} {w : World} (hr : Region.ready md ops listed = []) (h : Q .normal a w) : wpAny P md ops Q fuel listed a w := wpAny_done hr h fuel
end
end Go.Proofs.YtdcbnkimjhefkaaGreatDoor

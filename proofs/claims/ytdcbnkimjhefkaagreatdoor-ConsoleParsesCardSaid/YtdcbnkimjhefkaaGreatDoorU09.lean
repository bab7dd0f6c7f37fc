/-
 From the middle of a function on: code run by evaluation up to the next call, test, loop or return.
 Where code that is run by evaluation stops: calls, tests, returns, loops, regions that draw their order.
 Append, calls; every operation.
-/
import Derived.Test.YtdcbnkimjhefkaaGreatDoorU08
namespace Go.Proofs.YtdcbnkimjhefkaaGreatDoor

def base (f : FuncId) : Frame := { (default : Frame) with fn := f, kind := .normal }
def Mid (P : Program) (f : FuncId) (R : Ending → World → Prop) (todo : List Item) (a : Act) (w : World) : Prop :=
 ∀ cs, ∃ e w' fr, R e w' ∧ Comes P (lone ((base f).at a todo) cs w) (lone fr cs w') e ∧ fr.fn = f ∧ fr.leaving P w' e
section
variable {P : Program} {f : FuncId} {R : Ending → World → Prop}
theorem Mid.steps {todo todo' : List Item} {a a' : Act} {w w' : World} (hs : ∀ cs, Steps P (lone ((base f).at a todo) cs w) (lone ((base f).at a' todo') cs w')) (h : Mid P f R todo' a' w') : Mid P f R todo a w :=
 fun cs => let ⟨e, u, fr, h1, h2, h3⟩ := h cs; ⟨e, u, fr, h1, Comes.of_steps (hs cs) h2, h3⟩
theorem mid_wp {c : Code} {k : List Item} {a : Act} {w : World} (h : c.wp P (fun e a' w' => e = .normal ∧ Mid P f R k a' w') a w) : Mid P f R (.code c :: k) a w := by
 intro cs
 obtain ⟨e, a', w', ⟨rfl, hm⟩, harr⟩ := h (base f) k cs
 obtain ⟨e, u, fr, h1, h2, h3⟩ := hm cs
 exact ⟨e, u, fr, h1, Comes.of_steps harr h2, h3⟩
theorem mid_ops {ops : Array Oper} {l : List Nat} {k : List Item} {a : Act} {w : World} (h : wpOps P ops (fun e a' w' => e = .normal ∧ Mid P f R k a' w') l a w) : Mid P f R (.inRegion ops l :: k) a w := by
 intro cs
 obtain ⟨e, a', w', ⟨rfl, hm⟩, harr⟩ := wp_ops l a w h (base f) k cs
 obtain ⟨e, u, fr, h1, h2, h3⟩ := hm cs
 exact ⟨e, u, fr, h1, Comes.of_steps harr h2, h3⟩
theorem calls_mid {fn : Func} {c : Code} {args : List Value} {w : World} (hf : P.funcs[f]? = some fn) (hb : fn.body = some c)
  (h : Mid P f R [.code c] (Fr fn.ntmps (fun t => args.getD t undef)) w) (hn : args.length ≤ fn.ntmps) : Calls P f args.toArray w R := by
 intro cs
 have henter : Frame.enter P f args.toArray .normal = (base f).at (Fr fn.ntmps (fun t => args.getD t undef)) [.code c] := by
  have e : (args.toArray ++ Array.replicate (fn.ntmps - args.toArray.size) undef) = (Fr fn.ntmps (fun t => args.getD t undef)).tmps := by
   refine Array.ext_getElem? fun t => ?_
   rw [Fr_get, Array.getElem?_append, Array.getElem?_replicate]
   simp only [List.size_toArray, List.getElem?_toArray]
   by_cases h1 : t < args.length
   ·have h2 : t < fn.ntmps := by omega
    simp [h1, h2, List.getD_eq_getElem?_getD]
   ·by_cases h2 : t < fn.ntmps
    ·have h3 : t - args.length < fn.ntmps - args.length := by omega
     simp [h1, h2, h3, List.getD_eq_getElem?_getD]
    ·have h3 : ¬ t - args.length < fn.ntmps - args.length := by omega
     simp [h1, h2, h3]
  simp [Frame.enter, Frame.at, hf, hb, base]
  exact ⟨by simpa using e, rfl⟩
 rw [henter]
 exact h cs
def At (P : Program) (f : FuncId) (R : Ending → World → Prop) : List Item → Act → World → Prop
 | .inRegion ops l :: k, a, w => wpOps P ops (fun e a w => e = .normal ∧ Mid P f R k a w) l a w
 | todo, a, w => Mid P f R todo a w
theorem At.mid {todo : List Item} {a : Act} {w : World} (h : At P f R todo a w) : Mid P f R todo a w := by
 cases todo with
 | nil => exact h
 | cons x k => cases x <;> first | exact mid_ops h | exact h
theorem at_of_mid {todo : List Item} {a : Act} {w : World} (h : Mid P f R todo a w) (hn : ∀ ops l k, todo ≠ .inRegion ops l :: k) : At P f R todo a w := by
 cases todo with
 | nil => exact h
 | cons x k => cases x <;> first | exact (hn _ _ _ rfl).elim | exact h

structure St where
 todo : List Item
 env : Nat → Value
 ms : MS
 hs : List (Nat × Nat)
def heavy : Op → Bool
 | .call ⟨.builtin .len, _, _⟩ | .call ⟨.builtin .cap, _, _⟩ | .call ⟨.builtin .min, _, _⟩ | .call ⟨.builtin .max, _, _⟩ => false
 | .call _ | .select .. | .go _ | .defer _ | .panic _ | .send .. | .recv .. | .range .. | .next .. | .entry _ | .mapUpdate .. | .lookup .. | .index .. => true
 | _ => false
def isMem : Op → Bool
 | .load .. | .store .. => true
 | _ => false
def runS (P : Program) (n : Nat) (o : Oper) (E : Nat → Value) (todo : List Item) (ms : MS) (hs : List (Nat × Nat)) : Option St :=
 match mrun P (execOp (evE n E) o) ms with
 | some (.value v, ms') => some ⟨todo, updO E o.dst v, ms', hs⟩
 | some (.skip, ms') => some ⟨todo, updO E o.dst undef, ms', hs⟩
 | _ => none
def opS (P : Program) (n : Nat) (ops : Array Oper) (i : Nat) (s : St) (todo : List Item) : Option St :=
 match ops[i]? with
 | none => none
 | some o => match Region.wanted o (yieldE n ops s.env) with
  | false => some { s with todo := todo, env := updO s.env o.dst undef }
  | true => match heavy o.op with
   | true => none
   | false => match isMem o.op with
    | true => match s.hs with
     | h :: hs => runS P n o s.env todo { s.ms with hint := h } hs
     | [] => none
    | false => runS P n o s.env todo s.ms s.hs
def stepS (P : Program) (n : Nat) (s : St) : Option St :=
 match s.todo with
 | .code .skip :: k => some { s with todo := k }
 | .code (.label _) :: k => some { s with todo := k }
 | .inBlock _ :: k => some { s with todo := k }
 | .code (.seq x y) :: k => some { s with todo := .code x :: .code y :: k }
 | .code (.block id c) :: k => some { s with todo := .code c :: .inBlock id :: k }
 | .code (.exit id) :: k => match exitTo id k with
  | some k' => some { s with todo := k' }
  | none => none
 | .code (.region _ ops false) :: k => some { s with todo := .inRegion ops (List.range ops.size) :: k }
 | .inRegion _ [] :: k => some { s with todo := k }
 | .inRegion ops (i :: r) :: k => opS P n ops i s (.inRegion ops r :: k)
 | _ => none
def adv (P : Program) (n : Nat) : Nat → St → St
 | 0, s => s
 | m + 1, s => match stepS P n s with
  | some s' => adv P n m s'
  | none => s

theorem runS_eqs {n : Nat} {o : Oper} {E : Nat → Value} {todo : List Item} {ms : MS} {hs : List (Nat × Nat)} {s' : St} (h : runS P n o E todo ms hs = some s') : ∀ p ∈ ms.eqs, p ∈ s'.ms.eqs := by
 unfold runS at h
 split at h
 ·rename_i v ms' hr; obtain rfl := Option.some.inj h; exact mrun_eqs _ _ _ _ hr
 ·rename_i ms' hr; obtain rfl := Option.some.inj h; exact mrun_eqs _ _ _ _ hr
 ·cases h
theorem opS_eqs {n : Nat} {ops : Array Oper} {i : Nat} {s s' : St} {todo : List Item} (h : opS P n ops i s todo = some s') : ∀ p ∈ s.ms.eqs, p ∈ s'.ms.eqs := by
 unfold opS at h
 split at h
 ·cases h
 ·split at h
  ·obtain rfl := Option.some.inj h; exact fun p hp => hp
  ·split at h
   ·cases h
   ·split at h
    ·split at h
     ·exact fun p hp => runS_eqs h p hp
     ·cases h
    ·exact runS_eqs h
theorem stepS_eqs {n : Nat} {s s' : St} (h : stepS P n s = some s') : ∀ p ∈ s.ms.eqs, p ∈ s'.ms.eqs := by
 unfold stepS at h
 split at h
 case h_9 => exact opS_eqs h
 case h_6 =>
  split at h
  ·obtain rfl := Option.some.inj h; exact fun p hp => hp
  ·cases h
 case h_10 => cases h
 all_goals (obtain rfl := Option.some.inj h; exact fun p hp => hp)
theorem adv_eqs {n : Nat} : ∀ (m : Nat) (s : St), ∀ p ∈ s.ms.eqs, p ∈ (adv P n m s).ms.eqs
 | 0, _, p, hp => hp
 | m + 1, s, p, hp => by
  unfold adv
  split
  ·rename_i s' hs; exact adv_eqs m s' p (stepS_eqs hs p hp)
  ·exact hp
structure Lies (O : List Nat) (B : Nat) (w : World) (s : MS) : Prop where
 sat : Sat w s.sz s.mem
 le : B ≤ w.heap.size
 own : ∀ e ∈ s.mem, e.own = true → e.id ∈ O ∨ B ≤ e.id

theorem wpOps_some {ops : Array Oper} {Q : Exit → Act → World → Prop} {i : Nat} {rest : List Nat} {a : Act} {w : World} {o : Oper} (ho : ops[i]? = some o) (hw : Region.wanted o (yielded ops a.tmps) = true) (h : o.wp P a w (wpOps P ops Q rest) Q) : wpOps P ops Q (i :: rest) a w := by
 unfold wpOps
 simp only [ho, hw, if_true]
 exact .inl h
theorem wpOps_not {ops : Array Oper} {Q : Exit → Act → World → Prop} {i : Nat} {rest : List Nat} {a : Act} {w : World} {o : Oper} (ho : ops[i]? = some o) (hw : Region.wanted o (yielded ops a.tmps) = false) (h : wpOps P ops Q rest (a.put o.dst undef) w) : wpOps P ops Q (i :: rest) a w := by
 unfold wpOps
 simp only [ho, hw, Bool.false_eq_true, if_false]
 exact h

theorem runS_sound {O : List Nat} {B n : Nat} {ops : Array Oper} {i : Nat} {r : List Nat} {k : List Item} {o : Oper} {E : Nat → Value} {ms : MS} {hs : List (Nat × Nat)} {s' : St} {w : World} (ho : ops[i]? = some o) (hw : Region.wanted o (yieldE n ops E) = true)
  (h : runS P n o E (.inRegion ops r :: k) ms hs = some s') (hL : Lies O B w ms) (he : ∀ p ∈ s'.ms.eqs, p.1 = p.2)
  (hk : ∀ w', Lies O B w' s'.ms → Kept O B w w' → At P f R s'.todo (Fr n s'.env) w') : At P f R (.inRegion ops (i :: r) :: k) (Fr n E) w := by
 refine wpOps_some ho (by rw [yielded_Fr]; exact hw) ?_
 unfold Oper.wp
 rw [eval_Fr]
 unfold runS at h
 split at h
 ·rename_i v ms' hr
  obtain rfl := Option.some.inj h
  obtain ⟨w', h1, h2, h3, h4⟩ := mrun_sound _ _ _ _ w hr hL.sat hL.le hL.own he
  rw [h1]
  show wpOps P ops _ r ((Fr n E).put o.dst v) w'
  rw [Fr_put]
  exact hk w' ⟨h2, Nat.le_trans hL.le h3.size, h4⟩ h3
 ·rename_i ms' hr
  obtain rfl := Option.some.inj h
  obtain ⟨w', h1, h2, h3, h4⟩ := mrun_sound _ _ _ _ w hr hL.sat hL.le hL.own he
  rw [h1]
  show wpOps P ops _ r ((Fr n E).put o.dst undef) w'
  rw [Fr_put]
  exact hk w' ⟨h2, Nat.le_trans hL.le h3.size, h4⟩ h3
 ·cases h
theorem opS_sound {O : List Nat} {B n : Nat} {ops : Array Oper} {i : Nat} {r : List Nat} {k : List Item} {s s' : St} {w : World}
  (h : opS P n ops i s (.inRegion ops r :: k) = some s') (hL : Lies O B w s.ms) (he : ∀ p ∈ s'.ms.eqs, p.1 = p.2)
  (hk : ∀ w', Lies O B w' s'.ms → Kept O B w w' → At P f R s'.todo (Fr n s'.env) w') : At P f R (.inRegion ops (i :: r) :: k) (Fr n s.env) w := by
 unfold opS at h
 split at h
 ·cases h
 ·rename_i o ho
  split at h
  ·rename_i hw
   obtain rfl := Option.some.inj h
   refine wpOps_not ho (by rw [yielded_Fr]; exact hw) ?_
   rw [Fr_put]
   exact hk w hL (.refl _ _ _)
  ·rename_i hw
   split at h
   ·cases h
   ·split at h
    ·split at h
     ·exact runS_sound ho hw h ⟨hL.sat, hL.le, hL.own⟩ he hk
     ·cases h
    ·exact runS_sound ho hw h hL he hk
theorem at_steps {todo todo' : List Item} {a : Act} {w : World} (hn : ∀ ops l k, todo ≠ .inRegion ops l :: k) (hs : ∀ cs, step P (lone ((base f).at a todo) cs w) = .next (lone ((base f).at a todo') cs w)) (h : At P f R todo' a w) : At P f R todo a w :=
 at_of_mid (Mid.steps (fun cs => .one (hs cs)) h.mid) hn
theorem stepS_sound {O : List Nat} {B n : Nat} {s s' : St} {w : World}
  (h : stepS P n s = some s') (hL : Lies O B w s.ms) (he : ∀ p ∈ s'.ms.eqs, p.1 = p.2)
  (hk : ∀ w', Lies O B w' s'.ms → Kept O B w w' → At P f R s'.todo (Fr n s'.env) w') : At P f R s.todo (Fr n s.env) w := by
 unfold stepS at h
 split at h
 case h_1 hc => obtain rfl := Option.some.inj h; rw [hc]; exact at_steps (by simp) (fun _ => step_skip) (hk w hL (.refl _ _ _))
 case h_2 hc => obtain rfl := Option.some.inj h; rw [hc]; exact at_steps (by simp) (fun _ => step_label) (hk w hL (.refl _ _ _))
 case h_3 hc => obtain rfl := Option.some.inj h; rw [hc]; exact at_steps (by simp) (fun _ => step_inBlock) (hk w hL (.refl _ _ _))
 case h_4 hc => obtain rfl := Option.some.inj h; rw [hc]; exact at_steps (by simp) (fun _ => step_seq) (hk w hL (.refl _ _ _))
 case h_5 hc => obtain rfl := Option.some.inj h; rw [hc]; exact at_steps (by simp) (fun _ => step_block) (hk w hL (.refl _ _ _))
 case h_6 hc =>
  split at h
  ·rename_i k' hx
   obtain rfl := Option.some.inj h; rw [hc]; exact at_steps (by simp) (fun _ => step_exit hx) (hk w hL (.refl _ _ _))
  ·cases h
 case h_7 hc => obtain rfl := Option.some.inj h; rw [hc]; exact at_steps (by simp) (fun _ => step_region) (hk w hL (.refl _ _ _))
 case h_8 hc =>
  obtain rfl := Option.some.inj h; rw [hc]
  exact ⟨rfl, (hk w hL (.refl _ _ _)).mid⟩
 case h_9 hc => rw [hc]; exact opS_sound h hL he hk
 case h_10 => cases h
theorem adv_sound' {O : List Nat} {B n : Nat} : ∀ (m : Nat) (s : St) (w : World), Lies O B w s.ms → (∀ p ∈ (adv P n m s).ms.eqs, p.1 = p.2) →
  (∀ w', Lies O B w' (adv P n m s).ms → Kept O B w w' → At P f R (adv P n m s).todo (Fr n (adv P n m s).env) w') → At P f R s.todo (Fr n s.env) w
 | 0, s, w, hL, _, hk => hk w hL (.refl _ _ _)
 | m + 1, s, w, hL, he, hk => by
  unfold adv at he hk
  split at he
  ·rename_i s' hs
   simp only [hs] at hk
   refine stepS_sound hs hL (fun p hp => he p (adv_eqs m s' p hp)) fun w' hL' hK => ?_
   exact adv_sound' m s' w' hL' he fun w'' hL'' hK' => hk w'' hL'' (hK.trans hK')
  ·rename_i hs
   simp only [hs] at hk
   exact hk w hL (.refl _ _ _)
end
end Go.Proofs.YtdcbnkimjhefkaaGreatDoor

namespace Go.Proofs.YtdcbnkimjhefkaaGreatDoor
section
variable {P : Program} {f : FuncId} {R : Ending → World → Prop}

theorem at_adv {O : List Nat} {B n : Nat} (m : Nat) (s : St) {w : World} (hL : Lies O B w s.ms) (he : (adv P n m s).ms.eqs.map Prod.fst = (adv P n m s).ms.eqs.map Prod.snd)
  (hk : ∀ w', Lies O B w' (adv P n m s).ms → Kept O B w w' → At P f R (adv P n m s).todo (Fr n (adv P n m s).env) w') : At P f R s.todo (Fr n s.env) w := by
 refine adv_sound' m s w hL (fun p hp => ?_) hk
 obtain ⟨i, hi⟩ := List.mem_iff_getElem?.1 hp
 have h1 : ((adv P n m s).ms.eqs.map Prod.fst)[i]? = some p.1 := by rw [List.getElem?_map, hi]; rfl
 have h2 : ((adv P n m s).ms.eqs.map Prod.snd)[i]? = some p.2 := by rw [List.getElem?_map, hi]; rfl
 rw [he, h2] at h1
 exact (Option.some.inj h1).symm
def updL (E : Nat → Value) : List (Nat × Value) → Nat → Value
 | [] => E
 | p :: l => upd (updL E l) p.1 p.2
theorem updL_same {E : Nat → Value} : ∀ {l : List (Nat × Value)}, l.map (fun p => E p.1) = l.map (·.2) → updL E l = E
 | [], _ => rfl
 | p :: l, h => by
  rw [List.map_cons, List.map_cons, List.cons.injEq] at h
  unfold updL
  rw [updL_same h.2]
  funext t
  unfold upd
  split
  ·rename_i ht; rw [ht]; exact h.1.symm
  ·rfl
theorem at_known {n : Nat} {todo : List Item} {E : Nat → Value} {w : World} (l : List (Nat × Value)) (h : l.map (fun p => E p.1) = l.map (·.2)) (hk : ∀ E', At P f R todo (Fr n (updL E' l)) w) : At P f R todo (Fr n E) w := by
 have := hk E
 rw [updL_same h] at this
 exact this
def popOp : List Item → List Item
 | .inRegion ops (_ :: r) :: k => .inRegion ops r :: k
 | t => t
def curCall (n : Nat) (E : Nat → Value) : List Item → Option (FuncId × List Operand × Option Tmp)
 | .inRegion ops (i :: _) :: _ => match ops[i]? with
  | some o => match Region.wanted o (yieldE n ops E) with
   | true => match o.op with
    | .call ⟨.value (.func g), xs, _⟩ => some (g, xs.toList, o.dst)
    | _ => none
   | false => none
  | none => none
 | _ => none
def callable (P : Program) (g : FuncId) : Bool := match P.funcs[g]? with
 | some fn => fn.body.isSome && !(fn.name == "runtime.NumGoroutine")
 | none => false
theorem run_callable {g : FuncId} (h : callable P g = true) (args : Array Value) (w : World) : (callFunc g args).run P w = .ok (.enter g args) w := by
 unfold callable at h
 split at h
 ·rename_i fn hf
  rw [Bool.and_eq_true] at h
  obtain ⟨h1, h2⟩ := h
  have h3 : (fn.name == "runtime.NumGoroutine") = false := by simpa using h2
  have h4 : fn.body.isNone = false := by cases hb : fn.body <;> simp [hb] at h1 ⊢
  have e : (callFunc g args).run P w = (if fn.name == "runtime.NumGoroutine" then (pure .numGoroutine : Sem Next) else if fn.body.isNone then (do
   mark (.extern g)
   if let some e := Extern.findNext fn then return ← e args
   match Extern.find fn with
   | some e => pure (.value (← e args))
   | none =>
    if fn.name.endsWith ".init" && !fn.name.startsWith "(" && !fn.name.startsWith "gosem." then pure (.value (.tuple #[]))
    else unsupported (.extern fn.name)) else pure (.enter g args)).run P w := by
   unfold callFunc
   rw [Sem.run_bind]
   simp only [program, Sem.run, Result.andThen_ok, hf]
   rfl
  rw [e, h3, h4]
  rfl
 ·cases h
theorem at_call {n : Nat} {todo : List Item} {E : Nat → Value} {w : World} (g : FuncId) (xs : List Operand) (dst : Option Tmp) (args : List Value) (hc : curCall n E todo = some (g, xs, dst)) (ha : xs.map (evE n E) = args) (hg : callable P g = true)
  (h : Calls P g args.toArray w fun e w' => ∃ v, e = .returned v ∧ At P f R (popOp todo) (Fr n (updO E dst v)) w') : At P f R todo (Fr n E) w := by
 unfold curCall at hc
 split at hc
 ·rename_i ops i r k
  split at hc
  ·rename_i o ho
   split at hc
   ·rename_i hw
    split at hc
    ·rename_i g' xs' ats hop
     simp only [Option.some.injEq, Prod.mk.injEq] at hc
     obtain ⟨rfl, rfl, rfl⟩ := hc
     refine wpOps_some ho (by rw [yielded_Fr]; exact hw) ?_
     unfold Oper.wp
     rw [eval_Fr]
     have e : (execOp (evE n E) o).run P w = .ok (.enter g' args.toArray) w := by
      rw [← run_callable hg args.toArray w, ← ha]
      obtain ⟨d, op, ty, pos, af, gd⟩ := o
      simp only at hop
      subst hop
      unfold execOp resolve
      have hxs : xs'.toList.map (evE n E) = (xs'.map (evE n E)).toList := by simp
      simp only [hxs, Array.toArray_toList]
      show ((Deferred.ofValue (.func (.func g') #[] #[]) (xs'.map (evE n E))).bind fun d => invoke d.target d.args).run P w = _
      unfold Deferred.ofValue
      simp [invoke, pure, Sem.bind]
     rw [e]
     refine h.mono fun en w' hh => ?_
     obtain ⟨v, rfl, hat⟩ := hh
     show wpOps P ops _ r ((Fr n E).put o.dst v) w'
     rw [Fr_put]
     exact hat
    ·cases hc
   ·cases hc
  ·cases hc
 ·cases hc
def curCond : List Item → Option Operand
 | .code (.cond c _ _) :: _ => some c
 | _ => none
def thenT : List Item → List Item
 | .code (.cond _ x _) :: k => .code x :: k
 | t => t
def elseT : List Item → List Item
 | .code (.cond _ _ y) :: k => .code y :: k
 | t => t
theorem at_cond {n : Nat} {todo : List Item} {E : Nat → Value} {w : World} (t : Bool) (hc : (curCond todo).map (evE n E) = some (.bool t)) (h1 : t = true → At P f R (thenT todo) (Fr n E) w) (h2 : t = false → At P f R (elseT todo) (Fr n E) w) : At P f R todo (Fr n E) w := by
 unfold curCond at hc
 split at hc
 ·rename_i c x y k
  have hv : (Fr n E).eval c = .bool t := by rw [eval_Fr]; simpa using hc
  cases t with
  | true => exact at_steps (by simp) (fun _ => step_cond hv) (h1 rfl)
  | false => exact at_steps (by simp) (fun _ => step_cond hv) (h2 rfl)
 ·cases hc
def isLoop : List Item → Bool
 | .code (.loop _) :: _ => true
 | _ => false
def bodyT : List Item → List Item
 | .code (.loop c) :: k => .code c :: .inLoop c :: k
 | t => t
def againT : List Item → List Item
 | .code (.loop c) :: k => .inLoop c :: k
 | t => t
theorem at_loop {n : Nat} {todo : List Item} {E : Nat → Value} {w : World} (hl : isLoop todo = true) (I : (Nat → Value) → World → Prop) (μ : (Nat → Value) → World → Nat) (h0 : I E w)
  (round : ∀ E w, I E w → (∀ E' w', I E' w' → μ E' w' < μ E w → At P f R (againT todo) (Fr n E') w') → At P f R (bodyT todo) (Fr n E) w) : At P f R todo (Fr n E) w := by
 unfold isLoop at hl
 split at hl
 ·rename_i c k
  have key : ∀ (m : Nat) (E : Nat → Value) (w : World), μ E w = m → I E w → At P f R (.code c :: .inLoop c :: k) (Fr n E) w := by
   intro m
   induction m using Nat.strongRecOn with
   | _ m ih =>
    intro E w hm hI
    refine round E w hI fun E' w' hI' hlt => ?_
    exact at_steps (by simp [againT]) (fun _ => step_inLoop) (ih _ (hm ▸ hlt) E' w' rfl hI')
  exact at_steps (by simp) (fun _ => step_loop) (key _ E w rfl h0)
 ·cases hl
def lrun {α : Type} (P : Program) : Sem α → MS → Option (α × MS)
 | .pure a, s => some (a, s)
 | .load _ a k, s => match s.mem[s.hint.1]? with
  | some e => match e.cells[s.hint.2]?, a.spot with
   | some v, none => lrun P (k v) { s with hint := (s.hint.1, s.hint.2 + 1), eqs := (a.block, e.id) :: (a.off, e.off + s.hint.2) :: s.eqs }
   | _, _ => none
  | none => none
 | .program k, s => lrun P (k P) s
 | .mark _ k, s => lrun P k s
 | _, _ => none
theorem lrun_eqs {α : Type} : ∀ (s : Sem α) (m m' : MS) (a : α), lrun P s m = some (a, m') → ∀ p ∈ m.eqs, p ∈ m'.eqs := by
 intro s
 induction s with
 | pure a => intro m m' x h p hp; simp only [lrun, Option.some.injEq, Prod.mk.injEq] at h; rw [← h.2]; exact hp
 | load md a k ih =>
  intro m m' x h p hp
  unfold lrun at h
  split at h
  ·split at h
   ·exact ih _ _ _ _ h p (by simp [hp])
   ·cases h
  ·cases h
 | program k ih => intro m m' x h p hp; unfold lrun at h; exact ih _ _ _ _ h p hp
 | mark mk k ih => intro m m' x h p hp; unfold lrun at h; exact ih _ _ _ h p hp
 | _ => intro m m' x h; unfold lrun at h; cases h
theorem lrun_sound {α : Type} {w : World} : ∀ (s : Sem α) (m m' : MS) (a : α), lrun P s m = some (a, m') → (∀ e ∈ m.mem, e.good w) → (∀ p ∈ m'.eqs, p.1 = p.2) → s.run P w = .ok a w := by
 intro s
 induction s with
 | pure a => intro m m' x h hS he; simp only [lrun, Option.some.injEq, Prod.mk.injEq] at h; rw [← h.1]; rfl
 | load md a k ih =>
  intro m m' x h hS he
  unfold lrun at h
  split at h
  ·rename_i e hm
   split at h
   ·rename_i v hv hsp
    have hq := lrun_eqs _ _ _ _ h
    have e1 := he _ (hq (a.block, e.id) (by simp))
    have e2 := he _ (hq (a.off, e.off + m.hint.2) (by simp))
    unfold Sem.run
    rw [cell_of_good (hS e (List.mem_of_getElem? hm)) hv e1 e2 hsp]
    exact ih v _ _ _ h hS he
   ·cases h
  ·cases h
 | program k ih => intro m m' x h hS he; unfold lrun at h; exact ih _ _ _ _ h hS he
 | mark mk k ih => intro m m' x h hS he; unfold lrun at h; exact ih _ _ _ h hS he
 | _ => intro m m' x h; unfold lrun at h; cases h
def resultsE (fn : Func) (n : Nat) (E : Nat → Value) : Sem Value := do
 let vs ← fn.results.mapM fun
  | .tmp t => pure (evE n E (.tmp t))
  | .cell a t => do loadVar t (← asAddr (evE n E (.tmp a)))
 pure (if h : vs.size = 1 then vs[0] else .tuple vs)
theorem results_Fr (fn : Func) (n : Nat) (E : Nat → Value) : results fn (Fr n E).tmps = resultsE fn n E := by
 unfold results resultsE
 have : ∀ t, (Fr n E).tmps.getD t undef = evE n E (.tmp t) := fun t => congrFun (eval_Fr n E) (.tmp t)
 simp only [this]
 rfl
def isRet : List Item → Bool
 | .code .ret :: _ | [] => true
 | _ => false
theorem at_ret {n : Nat} {todo : List Item} {E : Nat → Value} {w : World} {fn : Func} (hr : isRet todo = true) (hf : P.funcs[f]? = some fn) (m : MS) (hg : ∀ e ∈ m.mem, e.good w) (v : Value) (hv : (lrun P (resultsE fn n E) m).map (·.1) = some v)
  (he : ((lrun P (resultsE fn n E) m).map (·.2.eqs.map Prod.fst)) = ((lrun P (resultsE fn n E) m).map (·.2.eqs.map Prod.snd))) (hR : R (.returned v) w) : At P f R todo (Fr n E) w := by
 cases hl : lrun P (resultsE fn n E) m with
 | none => rw [hl] at hv; cases hv
 | some p =>
  obtain ⟨v', m'⟩ := p
  rw [hl] at hv he
  obtain rfl : v' = v := Option.some.inj hv
  have he' : m'.eqs.map Prod.fst = m'.eqs.map Prod.snd := Option.some.inj he
  have hrun : (results fn (Fr n E).tmps).run P w = .ok v' w := by
   rw [results_Fr]
   refine lrun_sound _ _ _ _ hl hg fun p hp => ?_
   obtain ⟨i, hi⟩ := List.mem_iff_getElem?.1 hp
   have h1 : (m'.eqs.map Prod.fst)[i]? = some p.1 := by rw [List.getElem?_map, hi]; rfl
   have h2 : (m'.eqs.map Prod.snd)[i]? = some p.2 := by rw [List.getElem?_map, hi]; rfl
   rw [he', h2] at h1
   exact (Option.some.inj h1).symm
  unfold isRet at hr
  split at hr
  ·intro cs
   exact ⟨.returned v', w, _, hR, .one step_ret, rfl, rfl, rfl, rfl, fn, hf, hrun⟩
  ·intro cs
   exact ⟨.returned v', w, _, hR, .one step_end, rfl, rfl, rfl, rfl, fn, hf, hrun⟩
  ·cases hr
def curDraw : List Item → Option (Array Oper)
 | .code (.region _ ops true) :: _ => some ops
 | _ => none
def tailT : List Item → List Item
 | _ :: k => k
 | [] => []
theorem at_draw {n : Nat} {todo : List Item} {E : Nat → Value} {w : World} (ops : Array Oper) (hd : curDraw todo = some ops) (hm : P.follows .mixedOrders = true) (m : Nat) (hs : ops.size = m)
  (h : wpAny P .any ops (fun e a w => e = .normal ∧ Mid P f R (tailT todo) a w) m (Array.replicate m false) (Fr n E) w.drew) : At P f R todo (Fr n E) w := by
 unfold curDraw at hd
 split at hd
 ·rename_i id ops' k
  obtain rfl := Option.some.inj hd
  subst hs
  exact mid_wp (wp_region_any hm h)
 ·cases hd
def finE (ops : Array Oper) (vals : Nat → Value) (A : List Nat) (E : Nat → Value) : Nat → Value := A.foldl (fun E i => updO E (dstOf ops i) (vals i)) E
theorem fin_Fr (ops : Array Oper) (vals : Nat → Value) (n : Nat) : ∀ (A : List Nat) (E : Nat → Value), fin ops vals A (Fr n E) = Fr n (finE ops vals A E)
 | [], _ => rfl
 | i :: A, E => by
  have := fin_Fr ops vals n A (updO E (dstOf ops i) (vals i))
  rw [← Fr_put] at this
  exact this
end
end Go.Proofs.YtdcbnkimjhefkaaGreatDoor

namespace Go.Proofs.YtdcbnkimjhefkaaGreatDoor
section
variable {P : Program} {env : Env} {H : AH} {β : Type} {o : Oper} {c : Value → AH → Option β} {r : β}
theorem lenK_run {σ : Ren} {D : Dom} {x x' : Value} {n : Nat} (h : lenK x = some n) (hv : VR σ D x x') (w : World) : (Builtin.lenOf x').run P w = .ok n w := by
 unfold lenK at h
 split at h
 ·obtain rfl := Option.some.inj h
  cases hv <;> rfl
 ·obtain rfl := Option.some.inj h
  cases hv; rfl
 ·cases h
theorem Sim.drew {σ : Ren} {h : Hp} {w : World} (s : Sim P σ h w) : Sim P σ h w.drew := ⟨s.body, s.apart, s.glob⟩
theorem Fwd.next {σ σ' σ'' : Ren} {h h' h'' : Hp} {w w' w'' : World} (hs : Sim P σ h w) (f : Fwd σ h w σ' h' w') (g : Fwd σ' h' w' σ'' h'' w'') : Fwd σ h w σ'' h'' w'' := Fwd.trans hs f g
theorem good_append (hok : AH.ok P H) {args : Array Operand} {ts : Array TypeId} (hop : o.op = .call ⟨.builtin .append, args, ts⟩) {s x : Value} (hvs : args.toList.map (ev1 P env H) = [s, x].map some) {t u : TypeId} (hts : ts.toList = [t, u]) (h : appendK P t u s x H c = some r) : ResC P env H o c r .w := by
 have ht0 : ts[0]? = some t := by rw [← Array.getElem?_toList, hts]; rfl
 have ht1 : ts[1]? = some u := by rw [← Array.getElem?_toList, hts]; rfl
 have hargs : ∀ σ ρ, Rels (ev1 P env H) σ (Hp.dom H.get) ρ → ∃ s' x', args.map ρ = #[s', x'] ∧ VR σ (Hp.dom H.get) s s' ∧ VR σ (Hp.dom H.get) x x' := by
  intro σ ρ hr
  have hv := evs_vr hr hvs
  generalize hm : args.toList.map ρ = m at hv
  cases hv with
  | cons _ s' _ l' h1 h2 =>
   cases h2 with
   | cons _ x' _ l'' h3 h4 =>
    cases h4
    refine ⟨s', x', ?_, h1, h3⟩
    apply Array.ext'
    rw [Array.toList_map, hm]
 unfold appendK at h
 split at h
 ·rename_i e hu hchk
  rw [hu, Bool.and_eq_true] at hchk
  obtain ⟨hsm, hpl⟩ := hchk
  unfold smallB elemOfB at hsm
  split at hsm
  ·rename_i nb z hb hz
   rw [Bool.and_eq_true] at hsm
   split at h
   ·rename_i sz n hs hn
    obtain ⟨i, hi, hiz⟩ : ∃ i, P.info? e = some i ∧ i.zero = some z := by
     unfold zeroB at hz
     rw [Option.bind_eq_some_iff] at hz
     exact hz
    have hisz : i.size = sz := by unfold sizeB at hs; rw [hi] at hs; exact Option.some.inj hs
    have hib : i.bytes ≤ 1048576 := by
     unfold bytesB at hb
     rw [hi] at hb
     rw [show i.bytes = nb from Option.some.inj hb]
     exact Nat.le_of_ble_eq_true hsm.1
    have hzs : z.cells.size = sz := by
     have := hsm.2
     rw [beq_iff_eq] at this
     rw [show sizeB P e = some sz from hs] at this
     rw [cellsL_eq]
     simp
     exact (Option.some.inj this).symm
    have T : AppT P ts t u e i z := ⟨ht0, ht1, hu, hpl, hi, hiz⟩
    subst hisz
    obtain ⟨new, h1, hnew⟩ := firstK_inv (P := P) h (.inl hn)
    have hexec : ∀ σ ρ w K, Rels (ev1 P env H) σ (Hp.dom H.get) ρ → (∀ s' x', VR σ (Hp.dom H.get) s s' → VR σ (Hp.dom H.get) x x' → ∃ v' w', (Builtin.append_ ts o.type #[s', x']).run P w = .ok v' w' ∧ K v' w') → OpOk P o ρ w K := by
     intro σ ρ w K hr hh
     obtain ⟨s', x', e1, e2, e3⟩ := hargs σ ρ hr
     obtain ⟨v', w', e4, e5⟩ := hh s' x' e2 e3
     refine OpOk.value (v := v') (w' := w') ?_ e5
     rw [exec_builtin hop, e1]
     show (do pure (.value (← Builtin.append_ ts o.type #[s', x'])) : Sem Next).run P w = _
     simp [e4]
    split at h1
    ·-- nil
     split at h1
     ·rename_i hn0
      refine ⟨_, H, h1, hok, Nat.le_refl _, fun σ w ρ hS hr => hexec σ ρ w _ hr fun s' x' hs' hx' => ?_⟩
      obtain ⟨row', g1, g2⟩ := hnew σ w x' hS hx'
      cases hs'
      refine ⟨.slice none 0 0, w, ?_, σ, hS, .refl _ _ _, .nilslice 0 0⟩
      have hl := lenK_run (P := P) hn hx' w
      have hplu := hpl
      unfold plainArg at hplu
      split at hplu
      ·rename_i e' hu'
       simp [Builtin.append_, ht0, ht1, run_underlying hu, run_underlying hu', sizeOf, typeInfo, hi, hl, g1]
      ·rename_i hu'
       simp [Builtin.append_, ht0, ht1, run_underlying hu, run_underlying hu', sizeOf, typeInfo, hi, hl, g1]
      ·cases hplu
     ·rename_i n
      split at h1
      ·rename_i hchk2
       rw [Bool.and_eq_true] at hchk2
       have hle := Nat.le_of_ble_eq_true hchk2.1
       have hlen := Nat.eq_of_beq_eq_true hchk2.2
       obtain ⟨H', h2, h3, h4⟩ := AH.newK_inv h1
       refine ⟨_, H', h2, AH.ok_new hok h3 h4, by omega, fun σ w ρ hS hr => hexec σ ρ w _ hr fun s' x' hs' hx' => ?_⟩
       obtain ⟨row', g1, g2⟩ := hnew σ w.drew x' hS.drew hx'
       cases hs'
       have hl := lenK_run (P := P) hn hx' w
       obtain ⟨cap, rest, q1, q2, q3⟩ := run_app_grow (ty := o.type) T (w := w) (a := none) (sLen := 0) (sCap := 0) hl (olds := []) rfl g1 (by omega) (by omega) hib
       obtain ⟨σ', r1, r2, r3, r4, r5⟩ := hS.new H.next (hok.2 _ (Nat.le_refl _)) hok.1 (some (i.size, (n + 1) * i.size)) e e new row' rest g2 (fun sz' e' he => by simp only [Option.some.injEq, Prod.mk.injEq] at he; rw [← he.2]; exact hlen) rfl nofun (Push.drew w (row' ++ rest) e)
       refine ⟨_, _, q3, σ', by rw [h4]; exact r1, by rw [h4]; exact r2, ?_⟩
       rw [h4]
       have hd : Hp.dom (Hp.set H.get H.next ⟨some (i.size, (n + 1) * i.size), .cells e new⟩) H.next = some (some (i.size, (n + 1) * i.size)) := by simp [Hp.dom, Hp.set_same]
       have := VR.sliceo (σ := σ') ⟨H.next, 0, none⟩ (n + 1) (n + 1) cap i.size ((n + 1) * i.size) hd rfl (by simp) (by
        show 0 + cap * i.size = σ'.cap H.next
        rw [r5, List.length_append, g2.length, hlen, q2]
        rw [hzs, Nat.zero_add, Nat.zero_add, ← Nat.add_mul]
        congr 1
        omega) (by omega)
       unfold Ren.addr at this
       simp only [r3, r4] at this
       simpa using this
      ·cases h1
    ·rename_i b off l m
     split at h1
     ·-- room
      rename_i hroom
      have hroom' := Nat.le_of_ble_eq_true hroom
      obtain ⟨H', ii, TT, cs, cs2, h2, h3, h4, h5, h6, h7, h8, h9, h10, hro⟩ := storeRow_inv hok h1
      rw [natK_eq] at h2
      refine ⟨_, H', h2, h3, by omega, fun σ w ρ hS hr => hexec σ ρ w _ hr fun s' x' hs' hx' => ?_⟩
      obtain ⟨row', g1, g2⟩ := hnew σ w x' hS hx'
      obtain ⟨y, m', q1, q2, q3, q4⟩ := hs'.slice_inv
      obtain ⟨w', g3, g4, g5⟩ := hS.write hro h5 h7 h8 h9 h10 g2
      subst q3
      have hst : (storeCells (Addr.add ⟨σ.blk b, σ.sh b + off, none⟩ (l * i.size)) row').run P w = .ok () w' := by
       rw [add_addr _ _ rfl]
       rw [Nat.add_assoc]
       exact g3
      refine ⟨_, w', run_app_room (ty := o.type) T (lenK_run (P := P) hn hx' w) g1 (Nat.le_trans hroom' q2) hst, σ, by rw [h6]; exact g4, by rw [h6]; exact g5, ?_⟩
      rw [h6, show Hp.dom (Hp.set H.get b ⟨ii, .cells TT cs2⟩) = Hp.dom H.get from Hp.dom_set h5 rfl]
      rcases q4 with rfl | ⟨szb, eb, rfl, q5, q6⟩
      ·exact .slice ⟨b, off, none⟩ _ _ y q1 rfl
      ·exact .sliceo ⟨b, off, none⟩ _ _ _ szb eb q1 rfl q5 q6 q2
     ·rename_i hroom
      have hroom' : ¬ l + n ≤ m := fun hh => by
       have := Nat.ble_eq_true_of_le hh
       rw [this] at hroom
       cases hroom
      split at h1
      ·cases h1
      ·rename_i hlim
       rw [Bool.and_eq_true] at hlim
       have hlim1 := Nat.le_of_ble_eq_true hlim.1
       have hlim2 := Nat.le_of_ble_eq_true hlim.2
       unfold firstK at h1
       simp only at h1
       split at h1
       ·rename_i i0 TT cs hb0
        obtain ⟨hol, h2⟩ := rowK_inv h1
        rw [catK_eq] at h2
        split at h2
        ·rename_i hall
         rw [Bool.and_eq_true] at hall
         have hlen := Nat.eq_of_beq_eq_true hall.1
         have hones := hall.2
         -- elsewhere
         have moved : ∀ (H1 H' : AH), AH.ok P H1 → H1.next = H.next → Hp.dom H1.get = Hp.dom H.get → (∀ σ w, Sim P σ H.get w → Sim P σ H1.get w ∧ Fwd σ H.get w σ H1.get w) → H'.get = Hp.set H1.get H1.next ⟨some (i.size, (l + n) * i.size), .cells e ((cs.drop off).take (l * i.size) ++ new)⟩ →
           ∀ σ w s' x' m', Sim P σ H.get w → VR σ (Hp.dom H.get) x x' → s' = .slice (some ⟨σ.blk b, σ.sh b + off, none⟩) l m' → ¬ l + n ≤ m' →
           ∃ v' w', (Builtin.append_ ts o.type #[s', x']).run P w = .ok v' w' ∧ ∃ σ', Sim P σ' H'.get w' ∧ Fwd σ H.get w σ' H'.get w' ∧ VR σ' (Hp.dom H'.get) (.slice (some ⟨H1.next, 0, none⟩) (l + n) (l + n)) v' := by
          intro H1 H' hok1 hnx hdom hk hg' σ w s' x' m' hS hx' hs' hno
          subst hs'
          obtain ⟨row', g1, g2⟩ := hnew σ w.drew x' hS.drew hx'
          obtain ⟨olds, g3, g4⟩ := hS.drew.cells hb0 hol
          obtain ⟨cap, rest, q1, q2, q3⟩ := run_app_grow (ty := o.type) T (w := w) (a := some ⟨σ.blk b, σ.sh b + off, none⟩) (sLen := l) (sCap := m') (lenK_run (P := P) hn hx' w) (olds := olds) (by simp only [Builtin.firstCells]; exact g3) g1 hno hlim1 hib
          obtain ⟨hS1, hF1⟩ := hk σ w hS
          have hvr : VRs σ (Hp.dom H1.get) ((cs.drop off).take (l * i.size) ++ new) (olds ++ row') := by rw [hdom]; exact g4.append g2
          obtain ⟨σ', r1, r2, r3, r4, r5⟩ := hS1.new H1.next (hok1.2 _ (Nat.le_refl _)) hok1.1 (some (i.size, (l + n) * i.size)) e e _ (olds ++ row') rest hvr (fun sz' e' he => by simp only [Option.some.injEq, Prod.mk.injEq] at he; rw [← he.2]; exact hlen) rfl nofun (Push.drew w (olds ++ row' ++ rest) e)
          refine ⟨_, _, q3, σ', by rw [hg']; exact r1, by rw [hg']; exact Fwd.trans hS hF1 r2, ?_⟩
          rw [hg']
          have hd : Hp.dom (Hp.set H1.get H1.next ⟨some (i.size, (l + n) * i.size), .cells e ((cs.drop off).take (l * i.size) ++ new)⟩) H1.next = some (some (i.size, (l + n) * i.size)) := by simp [Hp.dom, Hp.set_same]
          have := VR.sliceo (σ := σ') ⟨H1.next, 0, none⟩ (l + n) (l + n) cap i.size ((l + n) * i.size) hd rfl (by simp) (by
           show 0 + cap * i.size = σ'.cap H1.next
           rw [r5, List.length_append, hvr.length, hlen, q2, hzs, Nat.zero_add, ← Nat.add_mul]
           congr 1
           omega) q1
          unfold Ren.addr at this
          simp only [r3, r4] at this
          simpa using this
         unfold killK at h2
         split at h2
         ·rename_i sz' e0 t1 cs1 hb1
          rw [hb0] at hb1
          simp only [Option.some.injEq, Blk.mk.injEq, Body.cells.injEq] at hb1
          obtain ⟨rfl, rfl, rfl⟩ := hb1
          split at h2
          ·rename_i hsz hat
           rw [Bool.and_eq_true] at hsz
           have htT := Nat.eq_of_beq_eq_true hsz.2
           have hsz' := Nat.eq_of_beq_eq_true hsz.1
           subst hsz'
           split at h2
           ·cases h2
           rename_i hroB
           rw [Bool.or_eq_false_iff] at hroB
           have hoff : off = 0 := Nat.eq_of_beq_eq_true (by have := hroB.2; rw [Bool.not_eq_false'] at this; exact this)
           have hro := roB_false hroB.1
           have hsz0 : i.size ≠ 0 := fun e => hro e0 (by rw [e])
           obtain ⟨H1, h3, h4, h5⟩ := AH.setK_inv h2
           rw [natK_eq] at h3
           obtain ⟨H', h6, h7, h8⟩ := AH.newK_inv h3
           have hok1 : AH.ok P H1 := AH.ok_set hok hb0 h4 h5
           refine ⟨_, H', h6, AH.ok_new hok1 h7 h8, by omega, fun σ w ρ hS hr => hexec σ ρ w _ hr fun s' x' hs' hx' => ?_⟩
           obtain ⟨y, m', q1, q2, q3, q4⟩ := hs'.slice_inv
           have hy : y = some (i.size, e0) := by
            have := Hp.dom_some hb0
            rw [q1] at this
            exact Option.some.inj this
           by_cases hin : l + n ≤ m'
           ·rcases q4 with q4 | ⟨szb, eb, q5, q6, q7⟩
            ·omega
            ·rw [hy] at q5
             simp only [Option.some.injEq, Prod.mk.injEq] at q5
             obtain ⟨rfl, rfl⟩ := q5
             obtain ⟨row', g1, g2⟩ := hnew σ w x' hS hx'
             have hfit : off + (l + n) * i.size ≤ σ.cap b := by rw [← q7]; exact Nat.add_le_add_left (Nat.mul_le_mul_right _ hin) _
             obtain ⟨w', σ', r1, r2, r3, r4, r5, r6⟩ := hS.regrow (T := e) hsz0 hb0 (id := H.next) (hok.2 _ (Nat.le_refl _)) hok.1 hoff htT rfl hol hlen g2 hones hfit
             subst q3
             have hst : (storeCells (Addr.add ⟨σ.blk b, σ.sh b + off, none⟩ (l * i.size)) row').run P w = .ok () w' := by
              rw [add_addr _ _ rfl]
              rw [Nat.add_assoc]
              exact r1
             have hget : H'.get = (Hp.set H.get b ⟨some (i.size, e0), .dead⟩).set H.next ⟨some (i.size, (l + n) * i.size), .cells e ((cs.drop off).take (l * i.size) ++ new)⟩ := by rw [h8, h5, h4]
             refine ⟨_, w', run_app_room (ty := o.type) T (lenK_run (P := P) hn hx' w) g1 hin hst, σ', by rw [hget]; exact r2, by rw [hget]; exact r3, ?_⟩
             rw [hget, h4]
             have hd : Hp.dom ((Hp.set H.get b ⟨some (i.size, e0), .dead⟩).set H.next ⟨some (i.size, (l + n) * i.size), .cells e ((cs.drop off).take (l * i.size) ++ new)⟩) H.next = some (some (i.size, (l + n) * i.size)) := by simp [Hp.dom, Hp.set_same]
             have := VR.sliceo (σ := σ') ⟨H.next, 0, none⟩ (l + n) (l + n) m' i.size ((l + n) * i.size) hd rfl (by simp) (by
              show 0 + m' * i.size = σ'.cap H.next
              rw [r6]
              omega) hin
             unfold Ren.addr at this
             simp only [r4, r5] at this
             simpa using this
           ·exact moved H1 H' hok1 h4 (by rw [h5]; exact Hp.dom_set hb0 rfl) (fun σ w hS => by rw [h5]; exact hS.kill hro hb0) h8 σ w s' x' m' hS hx' q3 hin
          ·rename_i hsz hat
           rw [Bool.and_eq_true] at hsz
           have hsz' := Nat.eq_of_beq_eq_true hsz.1
           subst hsz'
           simp only [natK_eq] at h2
           obtain ⟨H', h6, h7, h8⟩ := AH.newK_inv h2
           refine ⟨_, H', h6, AH.ok_new hok h7 h8, by omega, fun σ w ρ hS hr => hexec σ ρ w _ hr fun s' x' hs' hx' => ?_⟩
           obtain ⟨y, m', q1, q2, q3, q4⟩ := hs'.slice_inv
           have hy : y = some (i.size, e0) := by
            have := Hp.dom_some hb0
            rw [q1] at this
            exact Option.some.inj this
           refine moved H H' hok rfl rfl (fun σ w hS => ⟨hS, .refl _ _ _⟩) h8 σ w s' x' m' hS hx' q3 ?_
           rcases q4 with q4 | ⟨szb, eb, q5, q6, q7⟩
           ·omega
           ·rw [hy] at q5
            simp only [Option.some.injEq, Prod.mk.injEq] at q5
            obtain ⟨rfl, rfl⟩ := q5
            rw [q6, Nat.beq_refl] at hat
            cases hat
          ·cases h2
         ·rename_i t1 cs1 hb1
          rw [hb0] at hb1
          simp only [Option.some.injEq, Blk.mk.injEq, Body.cells.injEq] at hb1
          obtain ⟨rfl, rfl, rfl⟩ := hb1
          simp only [natK_eq] at h2
          obtain ⟨H', h6, h7, h8⟩ := AH.newK_inv h2
          refine ⟨_, H', h6, AH.ok_new hok h7 h8, by omega, fun σ w ρ hS hr => hexec σ ρ w _ hr fun s' x' hs' hx' => ?_⟩
          obtain ⟨y, m', q1, q2, q3, q4⟩ := hs'.slice_inv
          have hy : y = none := by
           have := Hp.dom_some hb0
           rw [q1] at this
           exact Option.some.inj this
          refine moved H H' hok rfl rfl (fun σ w hS => ⟨hS, .refl _ _ _⟩) h8 σ w s' x' m' hS hx' q3 ?_
          rcases q4 with q4 | ⟨szb, eb, q5, q6, q7⟩
          ·omega
          ·rw [hy] at q5; cases q5
         ·cases h2
        ·cases h2
       ·cases h1
    ·cases h1
   ·cases h
  ·cases hsm
 ·cases h
end
end Go.Proofs.YtdcbnkimjhefkaaGreatDoor

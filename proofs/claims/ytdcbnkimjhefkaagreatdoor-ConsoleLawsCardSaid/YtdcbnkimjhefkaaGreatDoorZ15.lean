/-
  From the middle of a function on: code run by evaluation up to the next call, test, loop or return.
-/
import Derived.Test.YtdcbnkimjhefkaaGreatDoorZ14
namespace Go.Proofs.YtdcbnkimjhefkaaGreatDoor

def base (f : FuncId) : Frame := { (default : Frame) with fn := f, kind := .normal }
/-- What stands in 'todo' is carried out to the function's end, which R tells. -/
def Mid (P : Program) (f : FuncId) (R : Ending → World → Prop) (todo : List Item) (a : Act) (w : World) : Prop :=
  ∀ cs, ∃ e w' fr, R e w' ∧ Comes P (lone ((base f).at a todo) cs w) (lone fr cs w') e ∧ fr.fn = f ∧ fr.leaving P w' e
section
variable {P : Program} {f : FuncId} {R : Ending → World → Prop}
theorem Mid.steps {todo todo' : List Item} {a a' : Act} {w w' : World} (hs : ∀ cs, Steps P (lone ((base f).at a todo) cs w) (lone ((base f).at a' todo') cs w')) (h : Mid P f R todo' a' w') : Mid P f R todo a w :=
  fun cs => let ⟨e, u, fr, h1, h2, h3⟩ := h cs; ⟨e, u, fr, h1, Comes.of_steps (hs cs) h2, h3⟩
theorem mid_wp {c : Code} {k : List Item} {a : Act} {w : World} (h : c.wp P (fun e a' w' => e = .normal ∧ Mid P f R k a' w') a w) : Mid P f R (.code c :: k) a w := by
  intro cs
  obtain ⟨e, a', w', ⟨rfl, hm⟩, harr⟩ := h (base f) k cs
  obtain ⟨e, u, fr, h1, h2, h3⟩ := hm cs
  exact ⟨e, u, fr, h1, Comes.of_steps harr h2, h3⟩
theorem mid_ops {ops : Array Oper} {l : List Nat} {k : List Item} {a : Act} {w : World} (h : wpOps P ops (fun e a' w' => e = .normal ∧ Mid P f R k a' w') l a w) : Mid P f R (.inRegion ops l :: k) a w := by
  intro cs
  obtain ⟨e, a', w', ⟨rfl, hm⟩, harr⟩ := wp_ops l a w h (base f) k cs
  obtain ⟨e, u, fr, h1, h2, h3⟩ := hm cs
  exact ⟨e, u, fr, h1, Comes.of_steps harr h2, h3⟩
theorem calls_mid {fn : Func} {c : Code} {args : List Value} {w : World} (hf : P.funcs[f]? = some fn) (hb : fn.body = some c)
    (h : Mid P f R [.code c] (Fr fn.ntmps (fun t => args.getD t undef)) w) (hn : args.length ≤ fn.ntmps) : Calls P f args.toArray w R := by
  intro cs
  have henter : Frame.enter P f args.toArray .normal = (base f).at (Fr fn.ntmps (fun t => args.getD t undef)) [.code c] := by
    have e : (args.toArray ++ Array.replicate (fn.ntmps - args.toArray.size) undef) = (Fr fn.ntmps (fun t => args.getD t undef)).tmps := by
      refine Array.ext_getElem? fun t => ?_
      rw [Fr_get, Array.getElem?_append, Array.getElem?_replicate]
      simp only [List.size_toArray, List.getElem?_toArray]
      by_cases h1 : t < args.length
      · have h2 : t < fn.ntmps := by omega
        simp [h1, h2, List.getD_eq_getElem?_getD]
      · by_cases h2 : t < fn.ntmps
        · have h3 : t - args.length < fn.ntmps - args.length := by omega
          simp [h1, h2, h3, List.getD_eq_getElem?_getD]
        · have h3 : ¬ t - args.length < fn.ntmps - args.length := by omega
          simp [h1, h2, h3]
    simp [Frame.enter, Frame.at, hf, hb, base]
    exact ⟨by simpa using e, rfl⟩
  rw [henter]
  exact h cs
/-- Inside a region: what is left of it; else the function's rest. -/
def At (P : Program) (f : FuncId) (R : Ending → World → Prop) : List Item → Act → World → Prop
  | .inRegion ops l :: k, a, w => wpOps P ops (fun e a w => e = .normal ∧ Mid P f R k a w) l a w
  | todo, a, w => Mid P f R todo a w
theorem At.mid {todo : List Item} {a : Act} {w : World} (h : At P f R todo a w) : Mid P f R todo a w := by
  cases todo with
  | nil => exact h
  | cons x k => cases x <;> first | exact mid_ops h | exact h
theorem at_of_mid {todo : List Item} {a : Act} {w : World} (h : Mid P f R todo a w) (hn : ∀ ops l k, todo ≠ .inRegion ops l :: k) : At P f R todo a w := by
  cases todo with
  | nil => exact h
  | cons x k => cases x <;> first | exact (hn _ _ _ rfl).elim | exact h

structure St where
  todo : List Item
  env : Nat → Value
  ms : MS
  hs : List (Nat × Nat)
def heavy : Op → Bool
  | .call ⟨.builtin .len, _, _⟩ | .call ⟨.builtin .cap, _, _⟩ | .call ⟨.builtin .min, _, _⟩ | .call ⟨.builtin .max, _, _⟩ => false
  | .call _ | .select .. | .go _ | .defer _ | .panic _ | .send .. | .recv .. | .range .. | .next .. | .entry _ | .mapUpdate .. | .lookup .. | .index .. => true
  | _ => false
def isMem : Op → Bool
  | .load .. | .store .. => true
  | _ => false
def runS (P : Program) (n : Nat) (o : Oper) (E : Nat → Value) (todo : List Item) (ms : MS) (hs : List (Nat × Nat)) : Option St :=
  match mrun P (execOp (evE n E) o) ms with
  | some (.value v, ms') => some ⟨todo, updO E o.dst v, ms', hs⟩
  | some (.skip, ms') => some ⟨todo, updO E o.dst undef, ms', hs⟩
  | _ => none
def opS (P : Program) (n : Nat) (ops : Array Oper) (i : Nat) (s : St) (todo : List Item) : Option St :=
  match ops[i]? with
  | none => none
  | some o => match Region.wanted o (yieldE n ops s.env) with
    | false => some { s with todo := todo, env := updO s.env o.dst undef }
    | true => match heavy o.op with
      | true => none
      | false => match isMem o.op with
        | true => match s.hs with
          | h :: hs => runS P n o s.env todo { s.ms with hint := h } hs
          | [] => none
        | false => runS P n o s.env todo s.ms s.hs
def stepS (P : Program) (n : Nat) (s : St) : Option St :=
  match s.todo with
  | .code .skip :: k => some { s with todo := k }
  | .code (.label _) :: k => some { s with todo := k }
  | .inBlock _ :: k => some { s with todo := k }
  | .code (.seq x y) :: k => some { s with todo := .code x :: .code y :: k }
  | .code (.block id c) :: k => some { s with todo := .code c :: .inBlock id :: k }
  | .code (.exit id) :: k => match exitTo id k with
    | some k' => some { s with todo := k' }
    | none => none
  | .code (.region _ ops false) :: k => some { s with todo := .inRegion ops (List.range ops.size) :: k }
  | .inRegion _ [] :: k => some { s with todo := k }
  | .inRegion ops (i :: r) :: k => opS P n ops i s (.inRegion ops r :: k)
  | _ => none
def adv (P : Program) (n : Nat) : Nat → St → St
  | 0, s => s
  | m + 1, s => match stepS P n s with
    | some s' => adv P n m s'
    | none => s

theorem runS_eqs {n : Nat} {o : Oper} {E : Nat → Value} {todo : List Item} {ms : MS} {hs : List (Nat × Nat)} {s' : St} (h : runS P n o E todo ms hs = some s') : ∀ p ∈ ms.eqs, p ∈ s'.ms.eqs := by
  unfold runS at h
  split at h
  · rename_i v ms' hr; obtain rfl := Option.some.inj h; exact mrun_eqs _ _ _ _ hr
  · rename_i ms' hr; obtain rfl := Option.some.inj h; exact mrun_eqs _ _ _ _ hr
  · cases h
theorem opS_eqs {n : Nat} {ops : Array Oper} {i : Nat} {s s' : St} {todo : List Item} (h : opS P n ops i s todo = some s') : ∀ p ∈ s.ms.eqs, p ∈ s'.ms.eqs := by
  unfold opS at h
  split at h
  · cases h
  · split at h
    · obtain rfl := Option.some.inj h; exact fun p hp => hp
    · split at h
      · cases h
      · split at h
        · split at h
          · exact fun p hp => runS_eqs h p hp
          · cases h
        · exact runS_eqs h
theorem stepS_eqs {n : Nat} {s s' : St} (h : stepS P n s = some s') : ∀ p ∈ s.ms.eqs, p ∈ s'.ms.eqs := by
  unfold stepS at h
  split at h
  case h_9 => exact opS_eqs h
  case h_6 =>
    split at h
    · obtain rfl := Option.some.inj h; exact fun p hp => hp
    · cases h
  case h_10 => cases h
  all_goals (obtain rfl := Option.some.inj h; exact fun p hp => hp)
theorem adv_eqs {n : Nat} : ∀ (m : Nat) (s : St), ∀ p ∈ s.ms.eqs, p ∈ (adv P n m s).ms.eqs
  | 0, _, p, hp => hp
  | m + 1, s, p, hp => by
    unfold adv
    split
    · rename_i s' hs; exact adv_eqs m s' p (stepS_eqs hs p hp)
    · exact hp
/-- The memory of a state lies in a world. -/
structure Lies (O : List Nat) (B : Nat) (w : World) (s : MS) : Prop where
  sat : Sat w s.sz s.mem
  le : B ≤ w.heap.size
  own : ∀ e ∈ s.mem, e.own = true → e.id ∈ O ∨ B ≤ e.id

theorem wpOps_some {ops : Array Oper} {Q : Exit → Act → World → Prop} {i : Nat} {rest : List Nat} {a : Act} {w : World} {o : Oper} (ho : ops[i]? = some o) (hw : Region.wanted o (yielded ops a.tmps) = true) (h : o.wp P a w (wpOps P ops Q rest) Q) : wpOps P ops Q (i :: rest) a w := by
  unfold wpOps
  simp only [ho, hw, if_true]
  exact .inl h
theorem wpOps_not {ops : Array Oper} {Q : Exit → Act → World → Prop} {i : Nat} {rest : List Nat} {a : Act} {w : World} {o : Oper} (ho : ops[i]? = some o) (hw : Region.wanted o (yielded ops a.tmps) = false) (h : wpOps P ops Q rest (a.put o.dst undef) w) : wpOps P ops Q (i :: rest) a w := by
  unfold wpOps
  simp only [ho, hw, Bool.false_eq_true, if_false]
  exact h

theorem runS_sound {O : List Nat} {B n : Nat} {ops : Array Oper} {i : Nat} {r : List Nat} {k : List Item} {o : Oper} {E : Nat → Value} {ms : MS} {hs : List (Nat × Nat)} {s' : St} {w : World} (ho : ops[i]? = some o) (hw : Region.wanted o (yieldE n ops E) = true)
    (h : runS P n o E (.inRegion ops r :: k) ms hs = some s') (hL : Lies O B w ms) (he : ∀ p ∈ s'.ms.eqs, p.1 = p.2)
    (hk : ∀ w', Lies O B w' s'.ms → Kept O B w w' → At P f R s'.todo (Fr n s'.env) w') : At P f R (.inRegion ops (i :: r) :: k) (Fr n E) w := by
  refine wpOps_some ho (by rw [yielded_Fr]; exact hw) ?_
  unfold Oper.wp
  rw [eval_Fr]
  unfold runS at h
  split at h
  · rename_i v ms' hr
    obtain rfl := Option.some.inj h
    obtain ⟨w', h1, h2, h3, h4⟩ := mrun_sound _ _ _ _ w hr hL.sat hL.le hL.own he
    rw [h1]
    show wpOps P ops _ r ((Fr n E).put o.dst v) w'
    rw [Fr_put]
    exact hk w' ⟨h2, Nat.le_trans hL.le h3.size, h4⟩ h3
  · rename_i ms' hr
    obtain rfl := Option.some.inj h
    obtain ⟨w', h1, h2, h3, h4⟩ := mrun_sound _ _ _ _ w hr hL.sat hL.le hL.own he
    rw [h1]
    show wpOps P ops _ r ((Fr n E).put o.dst undef) w'
    rw [Fr_put]
    exact hk w' ⟨h2, Nat.le_trans hL.le h3.size, h4⟩ h3
  · cases h
theorem opS_sound {O : List Nat} {B n : Nat} {ops : Array Oper} {i : Nat} {r : List Nat} {k : List Item} {s s' : St} {w : World}
    (h : opS P n ops i s (.inRegion ops r :: k) = some s') (hL : Lies O B w s.ms) (he : ∀ p ∈ s'.ms.eqs, p.1 = p.2)
    (hk : ∀ w', Lies O B w' s'.ms → Kept O B w w' → At P f R s'.todo (Fr n s'.env) w') : At P f R (.inRegion ops (i :: r) :: k) (Fr n s.env) w := by
  unfold opS at h
  split at h
  · cases h
  · rename_i o ho
    split at h
    · rename_i hw
      obtain rfl := Option.some.inj h
      refine wpOps_not ho (by rw [yielded_Fr]; exact hw) ?_
      rw [Fr_put]
      exact hk w hL (.refl _ _ _)
    · rename_i hw
      split at h
      · cases h
      · split at h
        · split at h
          · exact runS_sound ho hw h ⟨hL.sat, hL.le, hL.own⟩ he hk
          · cases h
        · exact runS_sound ho hw h hL he hk
theorem at_steps {todo todo' : List Item} {a : Act} {w : World} (hn : ∀ ops l k, todo ≠ .inRegion ops l :: k) (hs : ∀ cs, step P (lone ((base f).at a todo) cs w) = .next (lone ((base f).at a todo') cs w)) (h : At P f R todo' a w) : At P f R todo a w :=
  at_of_mid (Mid.steps (fun cs => .one (hs cs)) h.mid) hn
theorem stepS_sound {O : List Nat} {B n : Nat} {s s' : St} {w : World}
    (h : stepS P n s = some s') (hL : Lies O B w s.ms) (he : ∀ p ∈ s'.ms.eqs, p.1 = p.2)
    (hk : ∀ w', Lies O B w' s'.ms → Kept O B w w' → At P f R s'.todo (Fr n s'.env) w') : At P f R s.todo (Fr n s.env) w := by
  unfold stepS at h
  split at h
  case h_1 hc => obtain rfl := Option.some.inj h; rw [hc]; exact at_steps (by simp) (fun _ => step_skip) (hk w hL (.refl _ _ _))
  case h_2 hc => obtain rfl := Option.some.inj h; rw [hc]; exact at_steps (by simp) (fun _ => step_label) (hk w hL (.refl _ _ _))
  case h_3 hc => obtain rfl := Option.some.inj h; rw [hc]; exact at_steps (by simp) (fun _ => step_inBlock) (hk w hL (.refl _ _ _))
  case h_4 hc => obtain rfl := Option.some.inj h; rw [hc]; exact at_steps (by simp) (fun _ => step_seq) (hk w hL (.refl _ _ _))
  case h_5 hc => obtain rfl := Option.some.inj h; rw [hc]; exact at_steps (by simp) (fun _ => step_block) (hk w hL (.refl _ _ _))
  case h_6 hc =>
    split at h
    · rename_i k' hx
      obtain rfl := Option.some.inj h; rw [hc]; exact at_steps (by simp) (fun _ => step_exit hx) (hk w hL (.refl _ _ _))
    · cases h
  case h_7 hc => obtain rfl := Option.some.inj h; rw [hc]; exact at_steps (by simp) (fun _ => step_region) (hk w hL (.refl _ _ _))
  case h_8 hc =>
    obtain rfl := Option.some.inj h; rw [hc]
    exact ⟨rfl, (hk w hL (.refl _ _ _)).mid⟩
  case h_9 hc => rw [hc]; exact opS_sound h hL he hk
  case h_10 => cases h
theorem adv_sound' {O : List Nat} {B n : Nat} : ∀ (m : Nat) (s : St) (w : World), Lies O B w s.ms → (∀ p ∈ (adv P n m s).ms.eqs, p.1 = p.2) →
    (∀ w', Lies O B w' (adv P n m s).ms → Kept O B w w' → At P f R (adv P n m s).todo (Fr n (adv P n m s).env) w') → At P f R s.todo (Fr n s.env) w
  | 0, s, w, hL, _, hk => hk w hL (.refl _ _ _)
  | m + 1, s, w, hL, he, hk => by
    unfold adv at he hk
    split at he
    · rename_i s' hs
      simp only [hs] at hk
      refine stepS_sound hs hL (fun p hp => he p (adv_eqs m s' p hp)) fun w' hL' hK => ?_
      exact adv_sound' m s' w' hL' he fun w'' hL'' hK' => hk w'' hL'' (hK.trans hK')
    · rename_i hs
      simp only [hs] at hk
      exact hk w hL (.refl _ _ _)
end
end Go.Proofs.YtdcbnkimjhefkaaGreatDoor

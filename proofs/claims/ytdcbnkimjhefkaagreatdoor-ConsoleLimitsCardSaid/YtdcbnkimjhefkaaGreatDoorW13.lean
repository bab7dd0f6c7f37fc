/-
  Regions in their order, frames, code: the machine is sound.
  Frames and code: what the machine works out is what a call leaves.
  Regions whose order is drawn: run in one order, with what shows that every other order does the same.
-/
import Derived.Test.YtdcbnkimjhefkaaGreatDoorW12
namespace Go.Proofs.YtdcbnkimjhefkaaGreatDoor
open Go.RowKit
section
variable {P : Program}
/-- A frame and what it stands for. -/
structure ActR (σ : Ren) (D : Dom) (env : Env) (n : Nat) (a : Act) : Prop where
  defers : a.defers = []
  size : a.tmps.size = n
  slot : ∀ t v, env.get t = some v → ∃ v', a.tmps[t]? = some v' ∧ VR σ D v v'
theorem ActR.mono {σ σ' : Ren} {D D' : Dom} {env : Env} {n : Nat} {a : Act} (h : ActR σ D env n a) (hle : Ren.le σ D σ' D') : ActR σ' D' env n a :=
  ⟨h.defers, h.size, fun t v hv => let ⟨v', h1, h2⟩ := h.slot t v hv; ⟨v', h1, h2.mono hle⟩⟩
theorem ActR.rels {σ : Ren} {env : Env} {H : AH} {w : World} {n : Nat} {a : Act} (hS : Sim P σ H.get w) (h : ActR σ (Hp.dom H.get) env n a) : Rels (ev1 P env H) σ (Hp.dom H.get) a.eval := by
  intro x u hx
  unfold ev1 at hx
  split at hx
  · rename_i t
    obtain ⟨v', h1, h2⟩ := h.slot t u hx
    show VR σ _ u (a.tmps.getD t undef)
    rw [Array.getD_eq_getD_getElem?, h1]
    exact h2
  · rename_i v
    split at hx
    · rename_i hat
      obtain rfl := Option.some.inj hx
      exact .of_atomV hat
    · cases hx
  · rename_i g
    split at hx
    · rename_i b hb hlt
      obtain rfl := Option.some.inj hx
      have hg := hS.glob g (Nat.le_of_ble_eq_true hlt) (by rw [hb]; simp)
      have := VR.ptr (σ := σ) (D := Hp.dom H.get) ⟨g, 0, none⟩ b.opn (Hp.dom_some hb) rfl
      unfold Ren.addr at this
      simp only [hg.1, hg.2] at this
      exact this
    · cases hx
  · obtain rfl := Option.some.inj hx
    exact .func _ _ _ _ _ .nil .nil
theorem OpOk.wp {o : Oper} {a : Act} {w : World} {K : Value → World → Prop} {next : Act → World → Prop} {Q : Exit → Act → World → Prop} (h : OpOk P o a.eval w K) (hn : ∀ v w', K v w' → next (a.put o.dst v) w') : o.wp P a w next Q := by
  unfold OpOk at h
  unfold Oper.wp
  generalize (execOp a.eval o).run P w = res at h ⊢
  cases res with
  | ok x w' =>
    cases x with
    | value v => exact hn v w' h
    | skip => exact hn undef w' h
    | enter f args =>
      refine Calls.mono h fun e w'' hh => ?_
      obtain ⟨v, rfl, hk⟩ := hh
      exact hn v w'' hk
    | _ => exact h.elim
  | halt hh w' => exact h.elim
theorem dec_run (orc : Orc) (o : Op) (ty : TypeId) (rec : Rec) (env : Env) (H : AH) (c : Value → AH → Option Ans) : (dec P orc o ty).run rec env H c = opK P orc rec o ty env H c := by
  cases o with
  | makeMap t res => cases res <;> rfl
  | _ => rfl
theorem dstK_inv {d : Option Tmp} {v : Value} {env : Env} {β : Type} {c : Env → Option β} {r : β} (h : dstK d v env c = some r) : ∃ env', c env' = some r ∧ ∀ t, env'.get t = if d = some t then some v else env.get t := by
  unfold dstK at h
  split at h
  · exact ⟨env, h, fun t => by simp⟩
  · rename_i t0
    obtain ⟨t', h1, h2⟩ := Tr.setK_inv h
    refine ⟨t', h1, fun t => ?_⟩
    rw [h2]
    by_cases e : t = t0
    · subst e; simp
    · rw [if_neg e, if_neg (fun e' => e (Option.some.inj e').symm)]
theorem ActR.put {σ : Ren} {D : Dom} {env env' : Env} {n : Nat} {a : Act} (h : ActR σ D env n a) {d : Option Tmp} {v v' : Value} (hd : decDst n d = true) (he : ∀ t, env'.get t = if d = some t then some v else env.get t) (hv : VR σ D v v') : ActR σ D env' n (a.put d v') := by
  refine ⟨by rw [put_def]; exact h.defers, by rw [put_size]; exact h.size, fun t u hu => ?_⟩
  rw [he] at hu
  rw [put_get]
  split at hu
  · rename_i hdt
    obtain rfl := Option.some.inj hu
    have hlt : t < a.tmps.size := by
      rw [h.size]
      rw [hdt] at hd
      exact Nat.le_of_ble_eq_true hd
    rw [if_pos ⟨hdt, hlt⟩]
    exact ⟨v', rfl, hv⟩
  · rename_i hdt
    rw [if_neg (fun e => hdt e.1)]
    exact h.slot t u hu
/-- Whether an operation is wanted. -/
theorem wantK_inv {σ : Ren} {D : Dom} {env : Env} {n : Nat} {a : Act} (h : ActR σ D env n a) {ops : Array Oper} {o : Oper} {g : Option (Tmp × Bool)} (hg : (o.guard = none ∧ g = none) ∨ ∃ j want t, o.guard = some (j, want) ∧ (ops[j]?).bind (·.dst) = some t ∧ g = some (t, want)) {b : Bool} (hw : wantK g env = some b) : Region.wanted o (yielded ops a.tmps) = b := by
  unfold Region.wanted
  rcases hg with ⟨h1, rfl⟩ | ⟨j, want, t, h1, h2, rfl⟩
  · simp only [h1]
    exact Option.some.inj hw
  · simp only [h1]
    unfold wantK at hw
    simp only at hw
    split at hw
    · rename_i b' hb
      obtain rfl := Option.some.inj hw
      obtain ⟨v', q1, q2⟩ := h.slot t _ hb
      cases q2
      simp [yielded, h2, q1]
    · rename_i l hb
      obtain rfl := Option.some.inj hw
      obtain ⟨v', q1, q2⟩ := h.slot t _ hb
      cases q2
      simp [yielded, h2, q1]
    · cases hw
theorem decO_inv {orc : Orc} {n : Nat} {ops : Array Oper} {o : Oper} {g : Option (Tmp × Bool)} {d : Option Tmp} {f : Dec} (h : decO P orc n ops o = .mk g d f) : decDst n o.dst = true ∧ d = o.dst ∧ f = dec P orc o.op o.type ∧ ((o.guard = none ∧ g = none) ∨ ∃ j want t, o.guard = some (j, want) ∧ (ops[j]?).bind (·.dst) = some t ∧ g = some (t, want)) := by
  unfold decO at h
  split at h
  · rename_i hd
    split at h
    · rename_i hg
      cases h
      exact ⟨hd, rfl, rfl, .inl ⟨hg, rfl⟩⟩
    · rename_i j want hg
      split at h
      · rename_i t ht
        cases h
        exact ⟨hd, rfl, rfl, .inr ⟨j, want, t, hg, ht, rfl⟩⟩
      · cases h
  · cases h
/-- One operation of a region. -/
theorem stepO_inv {orc : Orc} {rec : Rec} (ho : OrcGood P orc) (hrec : RecGood P rec) {n : Nat} {ops : Array Oper} {o : Oper} {env : Env} {H : AH} (hok : AH.ok P H) {c : Env → AH → Option Ans} {r : Ans} (h : stepO (decO P orc n ops o) rec env H c = some r) :
    ∃ (b : Bool) (v : Value) (env' : Env) (H' : AH), c env' H' = some r ∧ AH.ok P H' ∧ H.next ≤ H'.next ∧ decDst n o.dst = true ∧ (∀ t, env'.get t = if o.dst = some t then some v else env.get t) ∧
      (∀ σ D a, ActR σ D env n a → Region.wanted o (yielded ops a.tmps) = b) ∧ (b = false → v = undef ∧ H' = H) ∧ (b = true → OpGood P (ev1 P env H) H o v H') := by
  unfold stepO at h
  split at h
  · cases h
  · rename_i g d f hd
    obtain ⟨h1, rfl, rfl, h4⟩ := decO_inv hd
    split at h
    · rename_i hw
      rw [dec_run] at h
      obtain ⟨v, H', q1, q2, q3, q4⟩ := (opK_res hok ho hrec h).op hok
      obtain ⟨env', q5, q6⟩ := dstK_inv q1
      exact ⟨true, v, env', H', q5, q2, q3, h1, q6, fun σ D a ha => wantK_inv ha h4 hw, fun e => (by cases e), fun _ => q4⟩
    · rename_i hw
      obtain ⟨env', q5, q6⟩ := dstK_inv h
      exact ⟨false, undef, env', H, q5, hok, Nat.le_refl _, h1, q6, fun σ D a ha => wantK_inv ha h4 hw, fun _ => ⟨rfl, rfl⟩, fun e => (by cases e)⟩
    · cases h
theorem opsK_cons (rec : Rec) (o : DOp) (l : List DOp) (env : Env) (H : AH) (c : Env → AH → Option Ans) : opsK rec (o :: l) env H c = stepO o rec env H fun env H => opsK rec l env H c := rfl
theorem ops_sound {orc : Orc} {rec : Rec} (ho : OrcGood P orc) (hrec : RecGood P rec) {n : Nat} {ops : Array Oper} {c : Env → AH → Option Ans} {r : Ans} {Q : Exit → Act → World → Prop} : ∀ (l : List Oper) (k : Nat) (env : Env) (H : AH) (σ : Ren) (a : Act) (w : World), (∀ j : Nat, l[j]? = ops[k + j]?) → AH.ok P H → opsK rec (decL P orc n ops l) env H c = some r → Sim P σ H.get w → ActR σ (Hp.dom H.get) env n a →
    (∀ env' H' σ' a' w', c env' H' = some r → AH.ok P H' → H.next ≤ H'.next → Sim P σ' H'.get w' → Fwd σ H.get w σ' H'.get w' → ActR σ' (Hp.dom H'.get) env' n a' → Q .normal a' w') → wpOps P ops Q (List.range' k l.length) a w
  | [], k, env, H, σ, a, w, _, hok, h, hS, hA, hc => hc env H σ a w h hok (Nat.le_refl _) hS (.refl _ _ _) hA
  | o :: l, k, env, H, σ, a, w, hl, hok, h, hS, hA, hc => by
    have hk : ops[k]? = some o := by have := hl 0; simpa using this.symm
    have hl' : ∀ j : Nat, l[j]? = ops[k + 1 + j]? := fun j => by
      have := hl (j + 1)
      rw [List.getElem?_cons_succ] at this
      rw [this, show k + (j + 1) = k + 1 + j by omega]
    unfold decL at h
    rw [opsK_cons] at h
    obtain ⟨b, v, env', H', q1, q2, q3, q4, q5, q6, q7, q8⟩ := stepO_inv ho hrec hok h
    rw [List.length_cons, List.range'_succ]
    have hwt := q6 σ _ a hA
    cases b with
    | false =>
      obtain ⟨rfl, rfl⟩ := q7 rfl
      refine wpOps_not hk hwt ?_
      exact ops_sound ho hrec l (k + 1) env' H' σ _ w hl' hok q1 hS (hA.put q4 q5 (.tuple _ _ .nil)) hc
    | true =>
      refine wpOps_some hk hwt ?_
      refine OpOk.wp (q8 rfl σ w a.eval hS (hA.rels hS)) fun v' w' hh => ?_
      obtain ⟨σ', g1, g2, g3⟩ := hh
      refine ops_sound ho hrec l (k + 1) env' H' σ' _ w' hl' q2 q1 g1 ((hA.mono g2.le).put q4 q5 g3) fun env2 H2 σ2 a2 w2 e1 e2 en e3 e4 e5 => ?_
      exact hc env2 H2 σ2 a2 w2 e1 e2 (Nat.le_trans q3 en) e3 (Fwd.trans hS g2 e4) e5
end
end Go.Proofs.YtdcbnkimjhefkaaGreatDoor

namespace Go.Proofs.YtdcbnkimjhefkaaGreatDoor
open Go.RowKit
section
variable {P : Program}
/-- Regions whose order is drawn. -/
def DrawGood (P : Program) (dr : Drw) : Prop := ∀ rec, RecGood P rec → ∀ n ops env H c r, AH.ok P H → dr n ops rec env H c = some r → (∃ env' H', c env' H' = some r ∧ AH.ok P H' ∧ H.next ≤ H'.next) ∧ ∀ id σ a w (Q : Exit → Act → World → Prop), Sim P σ H.get w → ActR σ (Hp.dom H.get) env n a →
  (∀ env' H' σ' a' w', c env' H' = some r → AH.ok P H' → H.next ≤ H'.next → Sim P σ' H'.get w' → Fwd σ H.get w σ' H'.get w' → ActR σ' (Hp.dom H'.get) env' n a' → Q .normal a' w') → (Code.region id ops true).wp P Q a w
def resF (a : Act) : ResultVar → Sem Value
  | .tmp t => pure (a.tmps.getD t undef)
  | .cell b t => do loadVar t (← asAddr (a.tmps.getD b undef))
theorem results_resF (fn : Func) (a : Act) : results fn a.tmps = (do let vs ← fn.results.mapM (resF a); pure (if h : vs.size = 1 then vs[0] else .tuple vs)) := by
  unfold results
  congr 2
theorem mapM_two {x : ResultVar} {l : List ResultVar} {a : Act} {w : World} {v : Value} {vs : List Value} (h1 : (resF a x).run P w = .ok v w) (h2 : (l.mapM (resF a)).run P w = .ok vs w) : ((x :: l).mapM (resF a)).run P w = .ok (v :: vs) w := by
  rw [List.mapM_cons]
  simp only [Sem.run_bind, h1, Result.andThen_ok, h2]
  rfl
theorem resK_inv {fn : Func} {env : Env} {H : AH} {β : Type} {r : β} : ∀ {l : List ResultVar} {c : List Value → Option β}, resK P fn env H l c = some r → ∃ vs, c vs = some r ∧ ∀ σ w n a, Sim P σ H.get w → ActR σ (Hp.dom H.get) env n a → ∃ vs', (l.mapM (resF a)).run P w = .ok vs' w ∧ VRs σ (Hp.dom H.get) vs vs'
  | [], c, h => ⟨[], h, fun σ w n a hS hA => ⟨[], rfl, .nil⟩⟩
  | .tmp t :: l, c, h => by
    unfold resK at h
    split at h
    · rename_i v hv
      obtain ⟨vs, h1, h2⟩ := resK_inv h
      refine ⟨v :: vs, h1, fun σ w n a hS hA => ?_⟩
      obtain ⟨v', q1, q2⟩ := hA.slot t v hv
      obtain ⟨vs', q3, q4⟩ := h2 σ w n a hS hA
      refine ⟨v' :: vs', mapM_two ?_ q3, .cons _ _ _ _ q2 q4⟩
      show (pure (a.tmps.getD t undef) : Sem Value).run P w = _
      rw [Array.getD_eq_getD_getElem?, q1]
      rfl
    · cases h
  | .cell b t :: l, c, h => by
    unfold resK at h
    split at h
    · rename_i u hu
      have hload : ∃ v, (resK P fn env H l fun r => c (v :: r)) = some r ∧ ∀ σ w n a, Sim P σ H.get w → ActR σ (Hp.dom H.get) env n a → ∃ v', (do loadVar t (← asAddr (a.tmps.getD b undef)) : Sem Value).run P w = .ok v' w ∧ VR σ (Hp.dom H.get) v v' := by
        unfold loadK at h
        split at h
        · rename_i b0 off
          split at h
          · rename_i i T cs hb
            split at h
            · rename_i m h1 h2
              obtain ⟨h3, h4⟩ := rowK_inv h
              refine ⟨_, h4, fun σ w n a hS hA => ?_⟩
              obtain ⟨u', q1, q2⟩ := hA.slot b _ hu
              obtain ⟨_, rfl⟩ := q2.ptr_inv
              obtain ⟨row, g1, g2⟩ := hS.cells hb h3
              refine ⟨.agg ⟨row⟩, ?_, .agg _ _ g2⟩
              simp [Array.getD_eq_getD_getElem?, q1, asAddr, loadVar, run_isAgg h1, run_size h2, g1]
            · rename_i h1
              split at h
              · rename_i v hv
                rw [nth_eq] at hv
                refine ⟨v, h, fun σ w n a hS hA => ?_⟩
                obtain ⟨u', q1, q2⟩ := hA.slot b _ hu
                obtain ⟨_, rfl⟩ := q2.ptr_inv
                obtain ⟨v', g1, g2⟩ := hS.cell hb hv
                refine ⟨v', ?_, g2⟩
                simp [Array.getD_eq_getD_getElem?, q1, asAddr, loadVar, run_isAgg h1, load, Sem.run, g1]
              · cases h
            · cases h
          · cases h
        · cases h
      obtain ⟨v, h1, h2⟩ := hload
      obtain ⟨vs, h3, h4⟩ := resK_inv h1
      refine ⟨v :: vs, h3, fun σ w n a hS hA => ?_⟩
      obtain ⟨v', q1, q2⟩ := h2 σ w n a hS hA
      obtain ⟨vs', q3, q4⟩ := h4 σ w n a hS hA
      exact ⟨v' :: vs', mapM_two q1 q3, .cons _ _ _ _ q2 q4⟩
    · cases h
theorem retK_inv {fn : Func} {env : Env} {H H' : AH} {v : Value} (h : retK P fn env H = some (v, H')) : H' = H ∧ ∀ σ w n a, Sim P σ H.get w → ActR σ (Hp.dom H.get) env n a → ∃ v', (results fn a.tmps).run P w = .ok v' w ∧ VR σ (Hp.dom H.get) v v' := by
  unfold retK at h
  obtain ⟨vs, h1, h2⟩ := resK_inv h
  have key : ∀ σ w n a, Sim P σ H.get w → ActR σ (Hp.dom H.get) env n a → ∃ vs', (fn.results.mapM (resF a)).run P w = .ok vs'.toArray w ∧ VRs σ (Hp.dom H.get) vs vs' := fun σ w n a hS hA => by
    obtain ⟨vs', q1, q2⟩ := h2 σ w n a hS hA
    refine ⟨vs', ?_, q2⟩
    rw [Array.mapM_eq_mapM_toList]
    simp [q1]
  split at h1
  · rename_i v0
    simp only [Option.some.injEq, Prod.mk.injEq] at h1
    obtain ⟨rfl, rfl⟩ := h1
    refine ⟨rfl, fun σ w n a hS hA => ?_⟩
    obtain ⟨vs', q1, q2⟩ := key σ w n a hS hA
    cases q2 with
    | cons _ v' _ l' r1 r2 =>
      cases r2
      refine ⟨v', ?_, r1⟩
      rw [results_resF]
      simp [q1]
  · rename_i hno
    simp only [Option.some.injEq, Prod.mk.injEq] at h1
    obtain ⟨rfl, rfl⟩ := h1
    refine ⟨rfl, fun σ w n a hS hA => ?_⟩
    obtain ⟨vs', q1, q2⟩ := key σ w n a hS hA
    refine ⟨.tuple ⟨vs'⟩, ?_, .tuple _ _ q2⟩
    rw [results_resF]
    have hne : vs'.length ≠ 1 := fun e => by
      rw [q2.length] at e
      obtain ⟨x, rfl⟩ := List.length_eq_one_iff.1 e
      exact hno x rfl
    simp [q1, hne]
/-- The code of a frame. -/
theorem run_sound {orc : Orc} {dr : Drw} {rec : Rec} (ho : OrcGood P orc) (hd : DrawGood P dr) (hrec : RecGood P rec) {f : FuncId} {fn : Func} (hf : P.funcs[f]? = some fn) {v : Value} {H' : AH} {R : Ending → World → Prop} : ∀ (m : Nat) (todo : List Item) (env : Env) (H : AH) (σ : Ren) (a : Act) (w : World), AH.ok P H → runK P orc dr rec fn m todo env H = some (v, H') → Sim P σ H.get w → ActR σ (Hp.dom H.get) env fn.ntmps a →
    (∀ v' σ' w', AH.ok P H' → H.next ≤ H'.next → Sim P σ' H'.get w' → Fwd σ H.get w σ' H'.get w' → VR σ' (Hp.dom H'.get) v v' → R (.returned v') w') → Mid P f R todo a w
  | 0, _, _, _, _, _, _, _, h, _, _, _ => by cases h
  | m + 1, todo, env, H, σ, a, w, hok, h, hS, hA, hR => by
    have ih := run_sound ho hd hrec hf (v := v) (H' := H') (R := R) m
    have ret : ∀ todo, isRet todo = true → retK P fn env H = some (v, H') → Mid P f R todo a w := by
      intro todo hr h
      obtain ⟨rfl, h2⟩ := retK_inv h
      obtain ⟨v', q1, q2⟩ := h2 σ w _ a hS hA
      have hRv := hR v' σ w hok (Nat.le_refl _) hS (.refl _ _ _) q2
      have hdf := hA.defers
      intro cs
      unfold isRet at hr
      split at hr
      · exact ⟨.returned v', w, _, hRv, .one step_ret, rfl, rfl, hdf, rfl, fn, hf, q1⟩
      · exact ⟨.returned v', w, _, hRv, .one step_end, rfl, rfl, hdf, rfl, fn, hf, q1⟩
      · cases hr
    cases todo with
    | nil => exact ret [] rfl h
    | cons x k =>
      have h' : itemK P orc dr rec fn (runK P orc dr rec fn m) x k env H = some (v, H') := h
      unfold itemK at h'
      split at h'
      · rename_i cd
        unfold codeK at h'
        split at h'
        · exact Mid.steps (fun cs => .one step_skip) (ih k env H σ a w hok h' hS hA hR)
        · rename_i id ops d
          unfold regK at h'
          split at h'
          · refine Mid.steps (fun cs => .one step_region) (mid_ops ?_)
            rw [List.range_eq_range']
            have hlen : ops.size = ops.toList.length := by simp
            rw [hlen]
            refine ops_sound ho hrec ops.toList 0 env H σ a w (fun j => by simp) hok h' hS hA fun env2 H2 σ2 a2 w2 e1 e2 en e3 e4 e5 => ⟨rfl, ?_⟩
            exact ih k env2 H2 σ2 a2 w2 e2 e1 e3 e5 fun v' σ' w' g1 g2 g3 g4 g5 => hR v' σ' w' g1 (Nat.le_trans en g2) g3 (Fwd.trans hS e4 g4) g5
          · refine mid_wp ((hd rec hrec fn.ntmps ops env H _ _ hok h').2 id σ a w _ hS hA fun env2 H2 σ2 a2 w2 e1 e2 en e3 e4 e5 => ⟨rfl, ?_⟩)
            exact ih k env2 H2 σ2 a2 w2 e2 e1 e3 e5 fun v' σ' w' g1 g2 g3 g4 g5 => hR v' σ' w' g1 (Nat.le_trans en g2) g3 (Fwd.trans hS e4 g4) g5
        · exact Mid.steps (fun cs => .one step_seq) (ih _ env H σ a w hok h' hS hA hR)
        · rename_i c x y
          split at h'
          · rename_i hc
            have hv : a.eval c = .bool true := by
              have := (hA.rels hS) c _ hc
              generalize a.eval c = u at this
              cases this; rfl
            exact Mid.steps (fun cs => .one (step_cond hv)) (ih _ env H σ a w hok h' hS hA hR)
          · rename_i hc
            have hv : a.eval c = .bool false := by
              have := (hA.rels hS) c _ hc
              generalize a.eval c = u at this
              cases this; rfl
            exact Mid.steps (fun cs => .one (step_cond hv)) (ih _ env H σ a w hok h' hS hA hR)
          · cases h'
        · exact Mid.steps (fun cs => .one step_block) (ih _ env H σ a w hok h' hS hA hR)
        · exact Mid.steps (fun cs => .one step_loop) (ih _ env H σ a w hok h' hS hA hR)
        · rename_i id
          split at h'
          · rename_i k' hx
            exact Mid.steps (fun cs => .one (step_exit hx)) (ih _ env H σ a w hok h' hS hA hR)
          · cases h'
        · exact Mid.steps (fun cs => .one step_label) (ih _ env H σ a w hok h' hS hA hR)
        · exact ret _ rfl h'
        · cases h'
      · exact Mid.steps (fun cs => .one step_inBlock) (ih k env H σ a w hok h' hS hA hR)
      · exact Mid.steps (fun cs => .one step_inLoop) (ih _ env H σ a w hok h' hS hA hR)
      · cases h'
theorem ops_ok {orc : Orc} {rec : Rec} (ho : OrcGood P orc) (hrec : RecGood P rec) {n : Nat} {ops : Array Oper} {c : Env → AH → Option Ans} {r : Ans} : ∀ (l : List Oper) (env : Env) (H : AH), AH.ok P H → opsK rec (decL P orc n ops l) env H c = some r → ∃ env' H', c env' H' = some r ∧ AH.ok P H' ∧ H.next ≤ H'.next
  | [], env, H, hok, h => ⟨env, H, h, hok, Nat.le_refl _⟩
  | o :: l, env, H, hok, h => by
    unfold decL at h
    rw [opsK_cons] at h
    obtain ⟨b, v, env', H', q1, q2, q3, q4, q5, q6, q7, q8⟩ := stepO_inv ho hrec hok h
    obtain ⟨env2, H2, r1, r2, r3⟩ := ops_ok ho hrec l env' H' q2 q1
    exact ⟨env2, H2, r1, r2, Nat.le_trans q3 r3⟩
theorem run_ok {orc : Orc} {dr : Drw} {rec : Rec} (ho : OrcGood P orc) (hd : DrawGood P dr) (hrec : RecGood P rec) {fn : Func} {v : Value} {H' : AH} : ∀ (m : Nat) (todo : List Item) (env : Env) (H : AH), AH.ok P H → runK P orc dr rec fn m todo env H = some (v, H') → AH.ok P H' ∧ H.next ≤ H'.next
  | 0, _, _, _, _, h => by cases h
  | m + 1, todo, env, H, hok, h => by
    have ih := run_ok ho hd hrec (fn := fn) (v := v) (H' := H') m
    have ret : retK P fn env H = some (v, H') → AH.ok P H' ∧ H.next ≤ H'.next := by
      intro h
      obtain ⟨rfl, _⟩ := retK_inv h
      exact ⟨hok, Nat.le_refl _⟩
    cases todo with
    | nil => exact ret h
    | cons x k =>
      have h' : itemK P orc dr rec fn (runK P orc dr rec fn m) x k env H = some (v, H') := h
      unfold itemK at h'
      split at h'
      · rename_i cd
        unfold codeK at h'
        split at h'
        · exact ih _ _ _ hok h'
        · rename_i id ops d
          unfold regK at h'
          split at h'
          · obtain ⟨env2, H2, r1, r2, r3⟩ := ops_ok ho hrec _ env H hok h'
            obtain ⟨q1, q2⟩ := ih _ _ _ r2 r1
            exact ⟨q1, Nat.le_trans r3 q2⟩
          · obtain ⟨env2, H2, r1, r2, r3⟩ := (hd rec hrec fn.ntmps ops env H _ _ hok h').1
            obtain ⟨q1, q2⟩ := ih _ _ _ r2 r1
            exact ⟨q1, Nat.le_trans r3 q2⟩
        · exact ih _ _ _ hok h'
        · split at h'
          · exact ih _ _ _ hok h'
          · exact ih _ _ _ hok h'
          · cases h'
        · exact ih _ _ _ hok h'
        · exact ih _ _ _ hok h'
        · split at h'
          · exact ih _ _ _ hok h'
          · cases h'
        · exact ih _ _ _ hok h'
        · exact ret h'
        · cases h'
      · exact ih _ _ _ hok h'
      · exact ih _ _ _ hok h'
      · cases h'
theorem argsK_inv {β : Type} {r : β} : ∀ {l : List Value} {k : Nat} {env : Env} {c : Env → Option β}, argsK k l env c = some r → ∃ env', c env' = some r ∧ ∀ t v, env'.get t = some v → (k ≤ t ∧ l[t - k]? = some v) ∨ env.get t = some v
  | [], k, env, c, h => ⟨env, h, fun t v hv => .inr hv⟩
  | x :: l, k, env, c, h => by
    unfold argsK at h
    obtain ⟨env1, h1, h2⟩ := Tr.setK_inv h
    obtain ⟨env2, h3, h4⟩ := argsK_inv h1
    refine ⟨env2, h3, fun t v hv => ?_⟩
    rcases h4 t v hv with ⟨q1, q2⟩ | q
    · left
      refine ⟨by omega, ?_⟩
      rw [show t - k = (t - Nat.succ k) + 1 by omega]
      simpa using q2
    · rw [h2] at q
      split at q
      · rename_i e
        subst e
        left
        exact ⟨Nat.le_refl _, by simpa using q⟩
      · exact .inr q
/-- **The machine is sound.** -/
theorem eval_sound {orc : Orc} {dr : Drw} (ho : OrcGood P orc) (hd : DrawGood P dr) : ∀ d, RecGood P (evalK P orc dr d)
  | 0 => fun f args H v H' _ h => by cases h
  | d + 1 => by
    intro f args H v H' hok h
    have hrec := eval_sound ho hd d
    unfold evalK at h
    split at h
    · rename_i fn hf
      split at h
      · rename_i cd hb
        split at h
        · cases h
        · rename_i hl
          obtain ⟨env, h1, h2⟩ := argsK_inv h
          have main : ∀ σ w args' (R : Ending → World → Prop), Sim P σ H.get w → VRs σ (Hp.dom H.get) args args' → (∀ v' σ' w', AH.ok P H' → H.next ≤ H'.next → Sim P σ' H'.get w' → Fwd σ H.get w σ' H'.get w' → VR σ' (Hp.dom H'.get) v v' → R (.returned v') w') → Calls P f args'.toArray w R := by
            intro σ w args' R hS hv hR
            refine calls_mid hf hb ?_ (by rw [hv.length]; exact Nat.le_of_ble_eq_true hl)
            refine run_sound ho hd hrec hf 1000000 [.code cd] env H σ _ w hok h1 hS ⟨rfl, Fr_size .., fun t u hu => ?_⟩ hR
            rcases h2 t u hu with ⟨q1, q2⟩ | q
            · obtain ⟨u', r1, r2⟩ := hv.get q2
              rw [Nat.sub_zero] at r1 q2
              refine ⟨u', ?_, r2⟩
              rw [Fr_get]
              have hlt : t < fn.ntmps := by
                have := (List.getElem?_eq_some_iff.1 q2).1
                have := Nat.le_of_ble_eq_true hl
                omega
              simp [hlt, List.getD_eq_getElem?_getD, r1]
            · cases q
          have hfacts : AH.ok P H' ∧ H.next ≤ H'.next := run_ok ho hd hrec _ _ _ _ hok h1
          exact ⟨hfacts.1, hfacts.2, fun σ w args' hS hv => main σ w args' _ hS hv fun v' σ' w' _ _ g3 g4 g5 => ⟨v', rfl, σ', g3, g4, g5⟩⟩
      · cases h
    · cases h
end
end Go.Proofs.YtdcbnkimjhefkaaGreatDoor

namespace Go.Proofs.YtdcbnkimjhefkaaGreatDoor
section
variable (P : Program)
/-! ### The order and what is asked of it -/
noncomputable def ancOf (acc : List Nat) : List Edge → Nat
  | [] => 0
  | e :: l => match Region.binds .any e with
    | true => Nat.lor (Nat.lor (ancOf acc l) (2 ^ e.on)) ((nth acc e.on).getD 0)
    | false => ancOf acc l
noncomputable def ancL : List Oper → List Nat → List Nat
  | [], acc => acc
  | o :: l, acc => ancL l (acc ++ [ancOf acc o.after.toList])
def hasBit (m i : Nat) : Bool := Nat.beq (Nat.mod (Nat.div m (2 ^ i)) 2) 1
noncomputable def isW (o : Oper) : Bool := match clsO P o.op with
  | .w => true
  | _ => false
def memN : Nat → List Nat → Bool
  | _, [] => false
  | i, j :: l => match Nat.beq i j with
    | true => true
    | false => memN i l
noncomputable def lazyGo (n : Nat) (A : List Nat) : List Nat → List Nat → List Nat
  | [], done => done ++ (List.range n).filter (fun i => !(memN i done))
  | c :: ws, done => lazyGo n A ws (done ++ ((List.range n).filter (fun i => hasBit ((nth A c).getD 0) i && !(memN i done)) ++ [c]))
noncomputable def writersOf : List Oper → Nat → List Nat
  | [], _ => []
  | o :: l, i => match isW P o with
    | true => i :: writersOf l (i + 1)
    | false => writersOf l (i + 1)
/-- Claimed ancestors are ancestors. -/
noncomputable def ancOk (ops : Array Oper) (A : List Nat) : Bool := (List.range ops.size).all fun i => match ops[i]? with
  | some o => (List.range ops.size).all fun j => !(hasBit ((nth A i).getD 0) j) || o.after.toList.any fun e => Region.binds .any e && (Nat.blt e.on i && (Nat.beq e.on j || hasBit ((nth A e.on).getD 0) j))
  | none => false
noncomputable def edgesOk (ops : Array Oper) : Bool := (List.range ops.size).all fun i => match ops[i]? with
  | some o => o.after.toList.all fun e => !(Region.binds .any e) || Nat.blt e.on i
  | none => false
/-- One operation against those ahead of it in the order. -/
noncomputable def ordOk1 (ops : Array Oper) (A : List Nat) (i : Nat) (o : Oper) (j : Nat) : Bool := match ops[j]? with
  | some q => (!(isW P o) || hasBit ((nth A i).getD 0) j) &&
    (match q.dst with
      | some t => (!((o.looksAt ops).contains t) || hasBit ((nth A i).getD 0) j) && !(o.dst == some t)
      | none => true) &&
    (match o.dst with
      | some t => !((q.looksAt ops).contains t) || hasBit ((nth A i).getD 0) j
      | none => true)
  | none => false
noncomputable def ordOk (ops : Array Oper) (A : List Nat) : List Nat → List Nat → Bool
  | _, [] => true
  | pre, i :: l => match ops[i]? with
    | some o => pre.all (ordOk1 P ops A i o) && (!(memN i pre) && ordOk ops A (i :: pre) l)
    | none => false
structure Plan where
  ord : List Nat
  anc : List Nat
noncomputable def planOf (ops : Array Oper) : Option Plan :=
  let A := ancL ops.toList []
  let ord := lazyGo ops.size A (writersOf P ops.toList 0) []
  match (Region.noSelect ops && edgesOk ops) && (Nat.beq ord.length ops.size && (ancOk ops A && ordOk P ops A [] ord)) with
  | true => some ⟨ord, A⟩
  | false => none
/-! ### The run -/
noncomputable def veq0 : Value → Value → Bool
  | .bool a, .bool b => a == b
  | .int k a, .int k' b => decide (k = k') && ieq a b
  | .string a, .string b => beqL a.data.toList b.data.toList
  | .pointer none, .pointer none => true
  | .pointer (some ⟨b, o, none⟩), .pointer (some ⟨b', o', none⟩) => Nat.beq b b' && Nat.beq o o'
  | .slice none n m, .slice none n' m' => Nat.beq n n' && Nat.beq m m'
  | .slice (some ⟨b, o, none⟩) n m, .slice (some ⟨b', o', none⟩) n' m' => (Nat.beq b b' && Nat.beq o o') && (Nat.beq n n' && Nat.beq m m')
  | .nilFunc, .nilFunc => true
  | .nilIface, .nilIface => true
  | .map none, .map none => true
  | _, _ => false
noncomputable def veqs : List Value → List Value → Bool
  | [], [] => true
  | a :: l, b :: r => veq0 a b && veqs l r
  | _, _ => false
noncomputable def veq : Value → Value → Bool
  | .agg ⟨l⟩, .agg ⟨r⟩ => veqs l r
  | a, b => veq0 a b
/-- The slots that an operation looks at. -/
noncomputable def restrK {β : Type} (env : Env) : List Tmp → Env → (Env → Option β) → Option β
  | [], acc, c => c acc
  | t :: l, acc, c => match env.get t with
    | some v => Tr.setK 20 acc t v fun acc => restrK env l acc c
    | none => restrK env l acc c
noncomputable def stepR (o : DOp) (rec : Rec) (envr env : Env) (H : AH) (c : Env → AH → Option Ans) : Option Ans := match o with
  | .bad => none
  | .mk g d f => match wantK g envr with
    | some true => f.run rec envr H fun v H => dstK d v env fun env => c env H
    | some false => dstK d undef env fun env => c env H
    | none => none
/-- What an operation would yield at another memory. -/
noncomputable def sameAt (f : Dec) (rec : Rec) (env : Env) (v : Value) (anc : Nat) : List (Nat × AH) → Bool
  | [] => true
  | p :: l => match hasBit anc p.1 with
    | true => sameAt f rec env v anc l
    | false => match f.run rec env p.2 fun v' H' => some (v', H') with
      | some (v', _) => match veq v v' with
        | true => sameAt f rec env v anc l
        | false => false
      | none => false
noncomputable def stepL (o : DOp) (rec : Rec) (anc : Nat) (hist : List (Nat × AH)) (envr env : Env) (H : AH) (c : Env → AH → Option Ans) : Option Ans := match o with
  | .bad => none
  | .mk g d f => match wantK g envr with
    | some true => f.run rec envr H fun v H => match sameAt f rec envr v anc hist with
      | true => dstK d v env fun env => c env H
      | false => none
    | some false => dstK d undef env fun env => c env H
    | none => none
noncomputable def planK (orc : Orc) (n : Nat) (ops : Array Oper) (A : List Nat) (rec : Rec) : List Nat → List (Nat × AH) → Env → AH → (Env → AH → Option Ans) → Option Ans
  | [], _, env, H, c => c env H
  | i :: l, hist, env, H, c => match ops[i]? with
    | none => none
    | some o => restrK env (o.looksAt ops) .lf fun envr => match clsO P o.op with
      | .w => stepR (decO P orc n ops o) rec envr env H fun env' H' => planK orc n ops A rec l ((i, H) :: hist) env' H' c
      | .l => stepL (decO P orc n ops o) rec ((nth A i).getD 0) hist envr env H fun env' H' => planK orc n ops A rec l hist env' H' c
      | _ => stepR (decO P orc n ops o) rec envr env H fun env' H' => planK orc n ops A rec l hist env' H' c
noncomputable def drawK (orc : Orc) : Drw := fun n ops rec env H c => match planOf P ops with
  | some p => planK P orc n ops p.anc rec p.ord [] env H c
  | none => none
end
end Go.Proofs.YtdcbnkimjhefkaaGreatDoor

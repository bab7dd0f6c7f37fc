/-
  Frames and code: what the machine works out is what a call leaves.
-/
import Derived.Test.YtdcbnkimjhefkaaGreatDoorZ19
namespace Go.Proofs.YtdcbnkimjhefkaaGreatDoor
open Go.RowKit
section
variable {P : Program}
/-- Regions whose order is drawn. -/
def DrawGood (P : Program) (dr : Drw) : Prop := ∀ rec, RecGood P rec → ∀ n ops env H c r, AH.ok P H → dr n ops rec env H c = some r → (∃ env' H', c env' H' = some r ∧ AH.ok P H' ∧ H.next ≤ H'.next) ∧ ∀ id σ a w (Q : Exit → Act → World → Prop), Sim P σ H.get w → ActR σ (Hp.dom H.get) env n a →
  (∀ env' H' σ' a' w', c env' H' = some r → AH.ok P H' → H.next ≤ H'.next → Sim P σ' H'.get w' → Fwd σ H.get w σ' H'.get w' → ActR σ' (Hp.dom H'.get) env' n a' → Q .normal a' w') → (Code.region id ops true).wp P Q a w
def resF (a : Act) : ResultVar → Sem Value
  | .tmp t => pure (a.tmps.getD t undef)
  | .cell b t => do loadVar t (← asAddr (a.tmps.getD b undef))
theorem results_resF (fn : Func) (a : Act) : results fn a.tmps = (do let vs ← fn.results.mapM (resF a); pure (if h : vs.size = 1 then vs[0] else .tuple vs)) := by
  unfold results
  congr 2
theorem mapM_two {x : ResultVar} {l : List ResultVar} {a : Act} {w : World} {v : Value} {vs : List Value} (h1 : (resF a x).run P w = .ok v w) (h2 : (l.mapM (resF a)).run P w = .ok vs w) : ((x :: l).mapM (resF a)).run P w = .ok (v :: vs) w := by
  rw [List.mapM_cons]
  simp only [Sem.run_bind, h1, Result.andThen_ok, h2]
  rfl
theorem resK_inv {fn : Func} {env : Env} {H : AH} {β : Type} {r : β} : ∀ {l : List ResultVar} {c : List Value → Option β}, resK P fn env H l c = some r → ∃ vs, c vs = some r ∧ ∀ σ w n a, Sim P σ H.get w → ActR σ (Hp.dom H.get) env n a → ∃ vs', (l.mapM (resF a)).run P w = .ok vs' w ∧ VRs σ (Hp.dom H.get) vs vs'
  | [], c, h => ⟨[], h, fun σ w n a hS hA => ⟨[], rfl, .nil⟩⟩
  | .tmp t :: l, c, h => by
    unfold resK at h
    split at h
    · rename_i v hv
      obtain ⟨vs, h1, h2⟩ := resK_inv h
      refine ⟨v :: vs, h1, fun σ w n a hS hA => ?_⟩
      obtain ⟨v', q1, q2⟩ := hA.slot t v hv
      obtain ⟨vs', q3, q4⟩ := h2 σ w n a hS hA
      refine ⟨v' :: vs', mapM_two ?_ q3, .cons _ _ _ _ q2 q4⟩
      show (pure (a.tmps.getD t undef) : Sem Value).run P w = _
      rw [Array.getD_eq_getD_getElem?, q1]
      rfl
    · cases h
  | .cell b t :: l, c, h => by
    unfold resK at h
    split at h
    · rename_i u hu
      have hload : ∃ v, (resK P fn env H l fun r => c (v :: r)) = some r ∧ ∀ σ w n a, Sim P σ H.get w → ActR σ (Hp.dom H.get) env n a → ∃ v', (do loadVar t (← asAddr (a.tmps.getD b undef)) : Sem Value).run P w = .ok v' w ∧ VR σ (Hp.dom H.get) v v' := by
        unfold loadK at h
        split at h
        · rename_i b0 off
          split at h
          · rename_i i T cs hb
            split at h
            · rename_i m h1 h2
              obtain ⟨h3, h4⟩ := rowK_inv h
              refine ⟨_, h4, fun σ w n a hS hA => ?_⟩
              obtain ⟨u', q1, q2⟩ := hA.slot b _ hu
              obtain ⟨_, rfl⟩ := q2.ptr_inv
              obtain ⟨row, g1, g2⟩ := hS.cells hb h3
              refine ⟨.agg ⟨row⟩, ?_, .agg _ _ g2⟩
              simp [Array.getD_eq_getD_getElem?, q1, asAddr, loadVar, run_isAgg h1, run_size h2, g1]
            · rename_i h1
              split at h
              · rename_i v hv
                rw [nth_eq] at hv
                refine ⟨v, h, fun σ w n a hS hA => ?_⟩
                obtain ⟨u', q1, q2⟩ := hA.slot b _ hu
                obtain ⟨_, rfl⟩ := q2.ptr_inv
                obtain ⟨v', g1, g2⟩ := hS.cell hb hv
                refine ⟨v', ?_, g2⟩
                simp [Array.getD_eq_getD_getElem?, q1, asAddr, loadVar, run_isAgg h1, load, Sem.run, g1]
              · cases h
            · cases h
          · cases h
        · cases h
      obtain ⟨v, h1, h2⟩ := hload
      obtain ⟨vs, h3, h4⟩ := resK_inv h1
      refine ⟨v :: vs, h3, fun σ w n a hS hA => ?_⟩
      obtain ⟨v', q1, q2⟩ := h2 σ w n a hS hA
      obtain ⟨vs', q3, q4⟩ := h4 σ w n a hS hA
      exact ⟨v' :: vs', mapM_two q1 q3, .cons _ _ _ _ q2 q4⟩
    · cases h
theorem retK_inv {fn : Func} {env : Env} {H H' : AH} {v : Value} (h : retK P fn env H = some (v, H')) : H' = H ∧ ∀ σ w n a, Sim P σ H.get w → ActR σ (Hp.dom H.get) env n a → ∃ v', (results fn a.tmps).run P w = .ok v' w ∧ VR σ (Hp.dom H.get) v v' := by
  unfold retK at h
  obtain ⟨vs, h1, h2⟩ := resK_inv h
  have key : ∀ σ w n a, Sim P σ H.get w → ActR σ (Hp.dom H.get) env n a → ∃ vs', (fn.results.mapM (resF a)).run P w = .ok vs'.toArray w ∧ VRs σ (Hp.dom H.get) vs vs' := fun σ w n a hS hA => by
    obtain ⟨vs', q1, q2⟩ := h2 σ w n a hS hA
    refine ⟨vs', ?_, q2⟩
    rw [Array.mapM_eq_mapM_toList]
    simp [q1]
  split at h1
  · rename_i v0
    simp only [Option.some.injEq, Prod.mk.injEq] at h1
    obtain ⟨rfl, rfl⟩ := h1
    refine ⟨rfl, fun σ w n a hS hA => ?_⟩
    obtain ⟨vs', q1, q2⟩ := key σ w n a hS hA
    cases q2 with
    | cons _ v' _ l' r1 r2 =>
      cases r2
      refine ⟨v', ?_, r1⟩
      rw [results_resF]
      simp [q1]
  · rename_i hno
    simp only [Option.some.injEq, Prod.mk.injEq] at h1
    obtain ⟨rfl, rfl⟩ := h1
    refine ⟨rfl, fun σ w n a hS hA => ?_⟩
    obtain ⟨vs', q1, q2⟩ := key σ w n a hS hA
    refine ⟨.tuple ⟨vs'⟩, ?_, .tuple _ _ q2⟩
    rw [results_resF]
    have hne : vs'.length ≠ 1 := fun e => by
      rw [q2.length] at e
      obtain ⟨x, rfl⟩ := List.length_eq_one_iff.1 e
      exact hno x rfl
    simp [q1, hne]
/-- The code of a frame. -/
theorem run_sound {orc : Orc} {dr : Drw} {rec : Rec} (ho : OrcGood P orc) (hd : DrawGood P dr) (hrec : RecGood P rec) {f : FuncId} {fn : Func} (hf : P.funcs[f]? = some fn) {v : Value} {H' : AH} {R : Ending → World → Prop} : ∀ (m : Nat) (todo : List Item) (env : Env) (H : AH) (σ : Ren) (a : Act) (w : World), AH.ok P H → runK P orc dr rec fn m todo env H = some (v, H') → Sim P σ H.get w → ActR σ (Hp.dom H.get) env fn.ntmps a →
    (∀ v' σ' w', AH.ok P H' → H.next ≤ H'.next → Sim P σ' H'.get w' → Fwd σ H.get w σ' H'.get w' → VR σ' (Hp.dom H'.get) v v' → R (.returned v') w') → Mid P f R todo a w
  | 0, _, _, _, _, _, _, _, h, _, _, _ => by cases h
  | m + 1, todo, env, H, σ, a, w, hok, h, hS, hA, hR => by
    have ih := run_sound ho hd hrec hf (v := v) (H' := H') (R := R) m
    have ret : ∀ todo, isRet todo = true → retK P fn env H = some (v, H') → Mid P f R todo a w := by
      intro todo hr h
      obtain ⟨rfl, h2⟩ := retK_inv h
      obtain ⟨v', q1, q2⟩ := h2 σ w _ a hS hA
      have hRv := hR v' σ w hok (Nat.le_refl _) hS (.refl _ _ _) q2
      have hdf := hA.defers
      intro cs
      unfold isRet at hr
      split at hr
      · exact ⟨.returned v', w, _, hRv, .one step_ret, rfl, rfl, hdf, rfl, fn, hf, q1⟩
      · exact ⟨.returned v', w, _, hRv, .one step_end, rfl, rfl, hdf, rfl, fn, hf, q1⟩
      · cases hr
    cases todo with
    | nil => exact ret [] rfl h
    | cons x k =>
      have h' : itemK P orc dr rec fn (runK P orc dr rec fn m) x k env H = some (v, H') := h
      unfold itemK at h'
      split at h'
      · rename_i cd
        unfold codeK at h'
        split at h'
        · exact Mid.steps (fun cs => .one step_skip) (ih k env H σ a w hok h' hS hA hR)
        · rename_i id ops d
          unfold regK at h'
          split at h'
          · refine Mid.steps (fun cs => .one step_region) (mid_ops ?_)
            rw [List.range_eq_range']
            have hlen : ops.size = ops.toList.length := by simp
            rw [hlen]
            refine ops_sound ho hrec ops.toList 0 env H σ a w (fun j => by simp) hok h' hS hA fun env2 H2 σ2 a2 w2 e1 e2 en e3 e4 e5 => ⟨rfl, ?_⟩
            exact ih k env2 H2 σ2 a2 w2 e2 e1 e3 e5 fun v' σ' w' g1 g2 g3 g4 g5 => hR v' σ' w' g1 (Nat.le_trans en g2) g3 (Fwd.trans hS e4 g4) g5
          · refine mid_wp ((hd rec hrec fn.ntmps ops env H _ _ hok h').2 id σ a w _ hS hA fun env2 H2 σ2 a2 w2 e1 e2 en e3 e4 e5 => ⟨rfl, ?_⟩)
            exact ih k env2 H2 σ2 a2 w2 e2 e1 e3 e5 fun v' σ' w' g1 g2 g3 g4 g5 => hR v' σ' w' g1 (Nat.le_trans en g2) g3 (Fwd.trans hS e4 g4) g5
        · exact Mid.steps (fun cs => .one step_seq) (ih _ env H σ a w hok h' hS hA hR)
        · rename_i c x y
          split at h'
          · rename_i hc
            have hv : a.eval c = .bool true := by
              have := (hA.rels hS) c _ hc
              generalize a.eval c = u at this
              cases this; rfl
            exact Mid.steps (fun cs => .one (step_cond hv)) (ih _ env H σ a w hok h' hS hA hR)
          · rename_i hc
            have hv : a.eval c = .bool false := by
              have := (hA.rels hS) c _ hc
              generalize a.eval c = u at this
              cases this; rfl
            exact Mid.steps (fun cs => .one (step_cond hv)) (ih _ env H σ a w hok h' hS hA hR)
          · cases h'
        · exact Mid.steps (fun cs => .one step_block) (ih _ env H σ a w hok h' hS hA hR)
        · exact Mid.steps (fun cs => .one step_loop) (ih _ env H σ a w hok h' hS hA hR)
        · rename_i id
          split at h'
          · rename_i k' hx
            exact Mid.steps (fun cs => .one (step_exit hx)) (ih _ env H σ a w hok h' hS hA hR)
          · cases h'
        · exact Mid.steps (fun cs => .one step_label) (ih _ env H σ a w hok h' hS hA hR)
        · exact ret _ rfl h'
        · cases h'
      · exact Mid.steps (fun cs => .one step_inBlock) (ih k env H σ a w hok h' hS hA hR)
      · exact Mid.steps (fun cs => .one step_inLoop) (ih _ env H σ a w hok h' hS hA hR)
      · cases h'
theorem ops_ok {orc : Orc} {rec : Rec} (ho : OrcGood P orc) (hrec : RecGood P rec) {n : Nat} {ops : Array Oper} {c : Env → AH → Option Ans} {r : Ans} : ∀ (l : List Oper) (env : Env) (H : AH), AH.ok P H → opsK rec (decL P orc n ops l) env H c = some r → ∃ env' H', c env' H' = some r ∧ AH.ok P H' ∧ H.next ≤ H'.next
  | [], env, H, hok, h => ⟨env, H, h, hok, Nat.le_refl _⟩
  | o :: l, env, H, hok, h => by
    unfold decL at h
    rw [opsK_cons] at h
    obtain ⟨b, v, env', H', q1, q2, q3, q4, q5, q6, q7, q8⟩ := stepO_inv ho hrec hok h
    obtain ⟨env2, H2, r1, r2, r3⟩ := ops_ok ho hrec l env' H' q2 q1
    exact ⟨env2, H2, r1, r2, Nat.le_trans q3 r3⟩
theorem run_ok {orc : Orc} {dr : Drw} {rec : Rec} (ho : OrcGood P orc) (hd : DrawGood P dr) (hrec : RecGood P rec) {fn : Func} {v : Value} {H' : AH} : ∀ (m : Nat) (todo : List Item) (env : Env) (H : AH), AH.ok P H → runK P orc dr rec fn m todo env H = some (v, H') → AH.ok P H' ∧ H.next ≤ H'.next
  | 0, _, _, _, _, h => by cases h
  | m + 1, todo, env, H, hok, h => by
    have ih := run_ok ho hd hrec (fn := fn) (v := v) (H' := H') m
    have ret : retK P fn env H = some (v, H') → AH.ok P H' ∧ H.next ≤ H'.next := by
      intro h
      obtain ⟨rfl, _⟩ := retK_inv h
      exact ⟨hok, Nat.le_refl _⟩
    cases todo with
    | nil => exact ret h
    | cons x k =>
      have h' : itemK P orc dr rec fn (runK P orc dr rec fn m) x k env H = some (v, H') := h
      unfold itemK at h'
      split at h'
      · rename_i cd
        unfold codeK at h'
        split at h'
        · exact ih _ _ _ hok h'
        · rename_i id ops d
          unfold regK at h'
          split at h'
          · obtain ⟨env2, H2, r1, r2, r3⟩ := ops_ok ho hrec _ env H hok h'
            obtain ⟨q1, q2⟩ := ih _ _ _ r2 r1
            exact ⟨q1, Nat.le_trans r3 q2⟩
          · obtain ⟨env2, H2, r1, r2, r3⟩ := (hd rec hrec fn.ntmps ops env H _ _ hok h').1
            obtain ⟨q1, q2⟩ := ih _ _ _ r2 r1
            exact ⟨q1, Nat.le_trans r3 q2⟩
        · exact ih _ _ _ hok h'
        · split at h'
          · exact ih _ _ _ hok h'
          · exact ih _ _ _ hok h'
          · cases h'
        · exact ih _ _ _ hok h'
        · exact ih _ _ _ hok h'
        · split at h'
          · exact ih _ _ _ hok h'
          · cases h'
        · exact ih _ _ _ hok h'
        · exact ret h'
        · cases h'
      · exact ih _ _ _ hok h'
      · exact ih _ _ _ hok h'
      · cases h'
theorem argsK_inv {β : Type} {r : β} : ∀ {l : List Value} {k : Nat} {env : Env} {c : Env → Option β}, argsK k l env c = some r → ∃ env', c env' = some r ∧ ∀ t v, env'.get t = some v → (k ≤ t ∧ l[t - k]? = some v) ∨ env.get t = some v
  | [], k, env, c, h => ⟨env, h, fun t v hv => .inr hv⟩
  | x :: l, k, env, c, h => by
    unfold argsK at h
    obtain ⟨env1, h1, h2⟩ := Tr.setK_inv h
    obtain ⟨env2, h3, h4⟩ := argsK_inv h1
    refine ⟨env2, h3, fun t v hv => ?_⟩
    rcases h4 t v hv with ⟨q1, q2⟩ | q
    · left
      refine ⟨by omega, ?_⟩
      rw [show t - k = (t - Nat.succ k) + 1 by omega]
      simpa using q2
    · rw [h2] at q
      split at q
      · rename_i e
        subst e
        left
        exact ⟨Nat.le_refl _, by simpa using q⟩
      · exact .inr q
/-- **The machine is sound.** -/
theorem eval_sound {orc : Orc} {dr : Drw} (ho : OrcGood P orc) (hd : DrawGood P dr) : ∀ d, RecGood P (evalK P orc dr d)
  | 0 => fun f args H v H' _ h => by cases h
  | d + 1 => by
    intro f args H v H' hok h
    have hrec := eval_sound ho hd d
    unfold evalK at h
    split at h
    · rename_i fn hf
      split at h
      · rename_i cd hb
        split at h
        · cases h
        · rename_i hl
          obtain ⟨env, h1, h2⟩ := argsK_inv h
          have main : ∀ σ w args' (R : Ending → World → Prop), Sim P σ H.get w → VRs σ (Hp.dom H.get) args args' → (∀ v' σ' w', AH.ok P H' → H.next ≤ H'.next → Sim P σ' H'.get w' → Fwd σ H.get w σ' H'.get w' → VR σ' (Hp.dom H'.get) v v' → R (.returned v') w') → Calls P f args'.toArray w R := by
            intro σ w args' R hS hv hR
            refine calls_mid hf hb ?_ (by rw [hv.length]; exact Nat.le_of_ble_eq_true hl)
            refine run_sound ho hd hrec hf 1000000 [.code cd] env H σ _ w hok h1 hS ⟨rfl, Fr_size .., fun t u hu => ?_⟩ hR
            rcases h2 t u hu with ⟨q1, q2⟩ | q
            · obtain ⟨u', r1, r2⟩ := hv.get q2
              rw [Nat.sub_zero] at r1 q2
              refine ⟨u', ?_, r2⟩
              rw [Fr_get]
              have hlt : t < fn.ntmps := by
                have := (List.getElem?_eq_some_iff.1 q2).1
                have := Nat.le_of_ble_eq_true hl
                omega
              simp [hlt, List.getD_eq_getElem?_getD, r1]
            · cases q
          have hfacts : AH.ok P H' ∧ H.next ≤ H'.next := run_ok ho hd hrec _ _ _ _ hok h1
          exact ⟨hfacts.1, hfacts.2, fun σ w args' hS hv => main σ w args' _ hS hv fun v' σ' w' _ _ g3 g4 g5 => ⟨v', rfl, σ', g3, g4, g5⟩⟩
      · cases h
    · cases h
end
end Go.Proofs.YtdcbnkimjhefkaaGreatDoor

/-
  Calls; every operation.
  Regions in their order, frames, code: the machine is sound.
-/
import Derived.Test.YtdcbnkimjhefkaaGreatDoorZ18
import Derived.Below
namespace Go.Proofs.YtdcbnkimjhefkaaGreatDoor
open Go.RowKit
section
variable {P : Program} {env : Env} {H : AH} {β : Type} {o : Oper} {c : Value → AH → Option β} {r : β}
/-- What a call leaves. -/
def Left (P : Program) (σ : Ren) (H : AH) (w : World) (v : Value) (H' : AH) (e : Ending) (w' : World) : Prop := ∃ v', e = .returned v' ∧ ∃ σ', Sim P σ' H'.get w' ∧ Fwd σ H.get w σ' H'.get w' ∧ VR σ' (Hp.dom H'.get) v v'
def RecGood (P : Program) (rec : Rec) : Prop := ∀ f args H v H', AH.ok P H → rec f args H = some (v, H') → AH.ok P H' ∧ H.next ≤ H'.next ∧ ∀ σ w args', Sim P σ H.get w → VRs σ (Hp.dom H.get) args args' → Calls P f args'.toArray w (Left P σ H w v H')
/-- What is shown of a function that is told by a contract. -/
def OrcGood (P : Program) (orc : Orc) : Prop := ∀ g F, orc g = some F → ∀ args H v H', AH.ok P H → F args H = some (v, H') → AH.ok P H' ∧ H.next ≤ H'.next ∧ ∀ σ w args', Sim P σ H.get w → VRs σ (Hp.dom H.get) args args' → Calls P g args'.toArray w (Left P σ H w v H')
theorem Sim.below {σ : Ren} {h : Hp} {w w' : World} (s : Sim P σ h w) (hb : Below w.heap.size w w') : Sim P σ h w' ∧ Fwd σ h w σ h w' := by
  refine ⟨⟨fun b i x e hd => ?_, s.apart, s.glob⟩, ⟨.refl _ _, fun k hk _ => hb.block k hk, fun b e hl => (hl.not_none e).elim, fun _ h _ => h, hb.size, hb.os, hb.tape, hb.output, fun b e t cs h1 => ⟨h1, hb.block _ (s.lt (.row h1))⟩⟩⟩
  obtain ⟨X, h1, h2⟩ := s.body b i x e hd
  exact ⟨X, by rw [hb.block _ (s.lt ⟨_, _, e, hd⟩)]; exact h1, h2⟩
theorem exec_callv {f : Operand} {args : Array Operand} {ts : Array TypeId} (hop : o.op = .call ⟨.value f, args, ts⟩) {ρ : Operand → Value} {g : FuncId} {first captured : List Value} (hf : ρ f = .func (.func g) ⟨first⟩ ⟨captured⟩) (w : World) : (execOp ρ o).run P w = (callFunc g ⟨first ++ (args.toList.map ρ ++ captured)⟩).run P w := by
  have e : ((⟨first⟩ : Array Value) ++ args.map ρ) ++ (⟨captured⟩ : Array Value) = ⟨first ++ (args.toList.map ρ ++ captured)⟩ := by
    apply Array.ext'
    simp
  rw [← e]
  simp only [execOp, hop, resolve, hf]
  rfl
theorem hasBody_callable {g : FuncId} (h : hasBody P g = some true) : callable P g = true := by
  unfold hasBody at h
  unfold callable
  split at h
  · rename_i fn hfn
    simp only [hfn]
    split at h
    · cases h
    · rename_i hn
      have := Option.some.inj h
      simp [hn, this]
  · cases h
theorem good_call (hok : AH.ok P H) {orc : Orc} {rec : Rec} (ho : OrcGood P orc) (hrec : RecGood P rec) {f : Operand} {args : Array Operand} {ts : Array TypeId} (hop : o.op = .call ⟨.value f, args, ts⟩) {fv : Value} (hf : ev1 P env H f = some fv) {vs : List Value} (hvs : args.toList.map (ev1 P env H) = vs.map some) (h : callK P orc rec fv vs H c = some r) : ResC P env H o c r .w := by
  unfold callK at h
  split at h
  · rename_i g first captured
    have hρ : ∀ σ ρ, Rels (ev1 P env H) σ (Hp.dom H.get) ρ → ∃ first' captured', ρ f = .func (.func g) ⟨first'⟩ ⟨captured'⟩ ∧ VRs σ (Hp.dom H.get) (first ++ (vs ++ captured)) (first' ++ (args.toList.map ρ ++ captured')) := by
      intro σ ρ hr
      have hv := hr f _ hf
      generalize ρ f = u at hv
      cases hv with
      | func fn f1 f2 c1 c2 h1 h2 => exact ⟨f2, c2, rfl, h1.append ((evs_vr hr hvs).append h2)⟩
    split at h
    · rename_i hb
      have hcal := hasBody_callable hb
      split at h
      · rename_i F hF
        split at h
        · rename_i v H' hv
          obtain ⟨h1, h2, h3⟩ := ho g F hF _ H v H' hok hv
          refine ⟨v, H', h, h1, h2, fun σ w ρ hS hr => ?_⟩
          obtain ⟨first', captured', e1, e2⟩ := hρ σ ρ hr
          refine OpOk.enter (by rw [exec_callv hop e1, run_callable hcal]) ?_
          refine (h3 σ w _ hS e2).mono fun e w' hh => ?_
          obtain ⟨v', rfl, hh⟩ := hh
          exact ⟨v', rfl, hh⟩
        · cases h
      · split at h
        · rename_i v H' hv
          obtain ⟨h1, h2, h3⟩ := hrec _ _ _ _ _ hok hv
          refine ⟨v, H', h, h1, h2, fun σ w ρ hS hr => ?_⟩
          obtain ⟨first', captured', e1, e2⟩ := hρ σ ρ hr
          refine OpOk.enter (by rw [exec_callv hop e1, run_callable hcal]) ?_
          refine (h3 σ w _ hS e2).mono fun e w' hh => ?_
          obtain ⟨v', rfl, hh⟩ := hh
          exact ⟨v', rfl, hh⟩
        · cases h
    · unfold externK at h
      split at h
      · rename_i hat
        split at h
        · rename_i v hv
          split at h
          · rename_i hav
            rw [val1K_eq] at h
            refine ⟨v, H, h, hok, Nat.le_refl _, fun σ w ρ hS hr => ?_⟩
            obtain ⟨first', captured', e1, e2⟩ := hρ σ ρ hr
            refine OpOk.value (v := v) (w' := w) ?_ ⟨σ, hS, .refl _ _ _, .of_atomV hav⟩
            rw [exec_callv hop e1, e2.atoms0 hat]
            exact prun_sound hv
          · cases h
        · cases h
      · cases h
    · cases h
  · cases h
/-- Every operation. -/
theorem opK_res (hok : AH.ok P H) {orc : Orc} {rec : Rec} (ho : OrcGood P orc) (hrec : RecGood P rec) (h : opK P orc rec o.op o.type env H c = some r) : ResC P env H o c r (clsO P o.op) := by
  unfold opK at h
  split at h
  case h_1 x hop => rw [hop]; exact good_move (.inl hop) h
  case h_2 x hop => rw [hop]; exact good_move (.inr hop) h
  case h_3 b x y hop => rw [hop]; exact good_pick hop h
  case h_4 t hop => rw [hop]; exact gd_alloc hop h
  case h_5 t x hop => rw [hop]; exact good_box hop h
  case h_6 t parts hop => rw [hop]; exact good_build hop h
  case h_7 t n parts hop => rw [hop]; exact good_buildSlice hop h
  case h_8 t a hop => rw [hop]; exact good_load hop h
  case h_9 t a x hop => rw [hop]; exact good_store hok hop h
  case h_10 x hop => rw [hop]; exact good_nilCheck hop h
  case h_11 op t x y u hop => rw [hop]; exact good_bin hop h
  case h_12 op t x hop => rw [hop]; exact good_un hop h
  case h_13 s d x hop => rw [hop]; exact good_conv hop h
  case h_14 fn first captured hop => rw [hop]; exact good_makeFunc hop h
  case h_15 t x lo hi mx hop =>
    rw [hop]
    unfold sl1K at h
    split at h
    · rename_i v l hh m hx hl hhi hm
      unfold sliceK at h
      show ResC P env H o c r (clsSl (P.underlying t))
      split at h
      · rename_i e hu
        split at h
        · rename_i sz hs
          rw [hu]
          exact good_sliceS hop hu hs hx hl hhi hm h
        · cases h
      · rename_i n e hu
        split at h
        · rename_i sz hs
          rw [hu]
          exact good_sliceA hop hu hs hx hl hhi hm h
        · cases h
      · rename_i hu
        rw [hu]
        exact good_sliceT hop hu hx hl hhi hm h
      · cases h
    · cases h
  case h_16 t x f hop => rw [hop]; exact good_fieldAddr hop h
  case h_17 t x f hop => rw [hop]; exact good_field hop h
  case h_18 t x i hop => rw [hop]; exact good_indexAddr hop h
  case h_19 t x i hop => rw [hop]; exact good_index hop h
  case h_20 x i hop => rw [hop]; exact good_extract hop h
  case h_21 k args ts hop =>
    rw [hop]
    show ResC P env H o c r (clsC2 P k ts)
    unfold call1K at h
    split at h
    · rename_i f
      split at h
      · rename_i fv hfv
        obtain ⟨vs, h1, h2⟩ := evsK_inv h
        exact good_call hok ho hrec hop hfv h2 h1
      · cases h
    · rename_i b
      obtain ⟨vs, h1, h2⟩ := evsK_inv h
      unfold builtK at h1
      split at h1
      · show ResC P env H o c r (match lenMap P ts.toList with | true => .w | false => .p)
        cases hl : lenMap P ts.toList with
        | true => rw [hl] at h1; exact good_lenM hok hop h2 hl h1
        | false => rw [hl] at h1; exact good_len hop h2 h1
      · unfold two1K at h1
        split at h1
        · rename_i s x t u hts
          exact good_append hok hop h2 hts h1
        · cases h1
      · unfold two1K at h1
        split at h1
        · rename_i s x t u hts
          exact good_copy hok hop h2 hts h1
        · cases h1
      · exact good_min (s := fun as => Builtin.min_ ts o.type as) hop (fun as => rfl) h2 h1
      · exact good_min (s := fun as => Builtin.max_ ts o.type as) hop (fun as => rfl) h2 h1
      · cases h1
    · cases h
  case h_22 t hop => rw [hop]; exact good_makeMap hok hop h
  case h_23 t m k x hop => rw [hop]; exact good_mapUpd hok hop h
  case h_24 t x hop => rw [hop]; exact good_range hok hop h
  case h_25 x b hop => rw [hop]; exact good_next hok hop h
  case h_26 t x y hop => rw [hop]; exact good_makeSlice hok hop h
  case h_27 => cases h
end
end Go.Proofs.YtdcbnkimjhefkaaGreatDoor

namespace Go.Proofs.YtdcbnkimjhefkaaGreatDoor
open Go.RowKit
section
variable {P : Program}
/-- A frame and what it stands for. -/
structure ActR (σ : Ren) (D : Dom) (env : Env) (n : Nat) (a : Act) : Prop where
  defers : a.defers = []
  size : a.tmps.size = n
  slot : ∀ t v, env.get t = some v → ∃ v', a.tmps[t]? = some v' ∧ VR σ D v v'
theorem ActR.mono {σ σ' : Ren} {D D' : Dom} {env : Env} {n : Nat} {a : Act} (h : ActR σ D env n a) (hle : Ren.le σ D σ' D') : ActR σ' D' env n a :=
  ⟨h.defers, h.size, fun t v hv => let ⟨v', h1, h2⟩ := h.slot t v hv; ⟨v', h1, h2.mono hle⟩⟩
theorem ActR.rels {σ : Ren} {env : Env} {H : AH} {w : World} {n : Nat} {a : Act} (hS : Sim P σ H.get w) (h : ActR σ (Hp.dom H.get) env n a) : Rels (ev1 P env H) σ (Hp.dom H.get) a.eval := by
  intro x u hx
  unfold ev1 at hx
  split at hx
  · rename_i t
    obtain ⟨v', h1, h2⟩ := h.slot t u hx
    show VR σ _ u (a.tmps.getD t undef)
    rw [Array.getD_eq_getD_getElem?, h1]
    exact h2
  · rename_i v
    split at hx
    · rename_i hat
      obtain rfl := Option.some.inj hx
      exact .of_atomV hat
    · cases hx
  · rename_i g
    split at hx
    · rename_i b hb hlt
      obtain rfl := Option.some.inj hx
      have hg := hS.glob g (Nat.le_of_ble_eq_true hlt) (by rw [hb]; simp)
      have := VR.ptr (σ := σ) (D := Hp.dom H.get) ⟨g, 0, none⟩ b.opn (Hp.dom_some hb) rfl
      unfold Ren.addr at this
      simp only [hg.1, hg.2] at this
      exact this
    · cases hx
  · obtain rfl := Option.some.inj hx
    exact .func _ _ _ _ _ .nil .nil
theorem OpOk.wp {o : Oper} {a : Act} {w : World} {K : Value → World → Prop} {next : Act → World → Prop} {Q : Exit → Act → World → Prop} (h : OpOk P o a.eval w K) (hn : ∀ v w', K v w' → next (a.put o.dst v) w') : o.wp P a w next Q := by
  unfold OpOk at h
  unfold Oper.wp
  generalize (execOp a.eval o).run P w = res at h ⊢
  cases res with
  | ok x w' =>
    cases x with
    | value v => exact hn v w' h
    | skip => exact hn undef w' h
    | enter f args =>
      refine Calls.mono h fun e w'' hh => ?_
      obtain ⟨v, rfl, hk⟩ := hh
      exact hn v w'' hk
    | _ => exact h.elim
  | halt hh w' => exact h.elim
theorem dec_run (orc : Orc) (o : Op) (ty : TypeId) (rec : Rec) (env : Env) (H : AH) (c : Value → AH → Option Ans) : (dec P orc o ty).run rec env H c = opK P orc rec o ty env H c := by
  cases o with
  | makeMap t res => cases res <;> rfl
  | _ => rfl
theorem dstK_inv {d : Option Tmp} {v : Value} {env : Env} {β : Type} {c : Env → Option β} {r : β} (h : dstK d v env c = some r) : ∃ env', c env' = some r ∧ ∀ t, env'.get t = if d = some t then some v else env.get t := by
  unfold dstK at h
  split at h
  · exact ⟨env, h, fun t => by simp⟩
  · rename_i t0
    obtain ⟨t', h1, h2⟩ := Tr.setK_inv h
    refine ⟨t', h1, fun t => ?_⟩
    rw [h2]
    by_cases e : t = t0
    · subst e; simp
    · rw [if_neg e, if_neg (fun e' => e (Option.some.inj e').symm)]
theorem ActR.put {σ : Ren} {D : Dom} {env env' : Env} {n : Nat} {a : Act} (h : ActR σ D env n a) {d : Option Tmp} {v v' : Value} (hd : decDst n d = true) (he : ∀ t, env'.get t = if d = some t then some v else env.get t) (hv : VR σ D v v') : ActR σ D env' n (a.put d v') := by
  refine ⟨by rw [put_def]; exact h.defers, by rw [put_size]; exact h.size, fun t u hu => ?_⟩
  rw [he] at hu
  rw [put_get]
  split at hu
  · rename_i hdt
    obtain rfl := Option.some.inj hu
    have hlt : t < a.tmps.size := by
      rw [h.size]
      rw [hdt] at hd
      exact Nat.le_of_ble_eq_true hd
    rw [if_pos ⟨hdt, hlt⟩]
    exact ⟨v', rfl, hv⟩
  · rename_i hdt
    rw [if_neg (fun e => hdt e.1)]
    exact h.slot t u hu
/-- Whether an operation is wanted. -/
theorem wantK_inv {σ : Ren} {D : Dom} {env : Env} {n : Nat} {a : Act} (h : ActR σ D env n a) {ops : Array Oper} {o : Oper} {g : Option (Tmp × Bool)} (hg : (o.guard = none ∧ g = none) ∨ ∃ j want t, o.guard = some (j, want) ∧ (ops[j]?).bind (·.dst) = some t ∧ g = some (t, want)) {b : Bool} (hw : wantK g env = some b) : Region.wanted o (yielded ops a.tmps) = b := by
  unfold Region.wanted
  rcases hg with ⟨h1, rfl⟩ | ⟨j, want, t, h1, h2, rfl⟩
  · simp only [h1]
    exact Option.some.inj hw
  · simp only [h1]
    unfold wantK at hw
    simp only at hw
    split at hw
    · rename_i b' hb
      obtain rfl := Option.some.inj hw
      obtain ⟨v', q1, q2⟩ := h.slot t _ hb
      cases q2
      simp [yielded, h2, q1]
    · rename_i l hb
      obtain rfl := Option.some.inj hw
      obtain ⟨v', q1, q2⟩ := h.slot t _ hb
      cases q2
      simp [yielded, h2, q1]
    · cases hw
theorem decO_inv {orc : Orc} {n : Nat} {ops : Array Oper} {o : Oper} {g : Option (Tmp × Bool)} {d : Option Tmp} {f : Dec} (h : decO P orc n ops o = .mk g d f) : decDst n o.dst = true ∧ d = o.dst ∧ f = dec P orc o.op o.type ∧ ((o.guard = none ∧ g = none) ∨ ∃ j want t, o.guard = some (j, want) ∧ (ops[j]?).bind (·.dst) = some t ∧ g = some (t, want)) := by
  unfold decO at h
  split at h
  · rename_i hd
    split at h
    · rename_i hg
      cases h
      exact ⟨hd, rfl, rfl, .inl ⟨hg, rfl⟩⟩
    · rename_i j want hg
      split at h
      · rename_i t ht
        cases h
        exact ⟨hd, rfl, rfl, .inr ⟨j, want, t, hg, ht, rfl⟩⟩
      · cases h
  · cases h
/-- One operation of a region. -/
theorem stepO_inv {orc : Orc} {rec : Rec} (ho : OrcGood P orc) (hrec : RecGood P rec) {n : Nat} {ops : Array Oper} {o : Oper} {env : Env} {H : AH} (hok : AH.ok P H) {c : Env → AH → Option Ans} {r : Ans} (h : stepO (decO P orc n ops o) rec env H c = some r) :
    ∃ (b : Bool) (v : Value) (env' : Env) (H' : AH), c env' H' = some r ∧ AH.ok P H' ∧ H.next ≤ H'.next ∧ decDst n o.dst = true ∧ (∀ t, env'.get t = if o.dst = some t then some v else env.get t) ∧
      (∀ σ D a, ActR σ D env n a → Region.wanted o (yielded ops a.tmps) = b) ∧ (b = false → v = undef ∧ H' = H) ∧ (b = true → OpGood P (ev1 P env H) H o v H') := by
  unfold stepO at h
  split at h
  · cases h
  · rename_i g d f hd
    obtain ⟨h1, rfl, rfl, h4⟩ := decO_inv hd
    split at h
    · rename_i hw
      rw [dec_run] at h
      obtain ⟨v, H', q1, q2, q3, q4⟩ := (opK_res hok ho hrec h).op hok
      obtain ⟨env', q5, q6⟩ := dstK_inv q1
      exact ⟨true, v, env', H', q5, q2, q3, h1, q6, fun σ D a ha => wantK_inv ha h4 hw, fun e => (by cases e), fun _ => q4⟩
    · rename_i hw
      obtain ⟨env', q5, q6⟩ := dstK_inv h
      exact ⟨false, undef, env', H, q5, hok, Nat.le_refl _, h1, q6, fun σ D a ha => wantK_inv ha h4 hw, fun _ => ⟨rfl, rfl⟩, fun e => (by cases e)⟩
    · cases h
theorem opsK_cons (rec : Rec) (o : DOp) (l : List DOp) (env : Env) (H : AH) (c : Env → AH → Option Ans) : opsK rec (o :: l) env H c = stepO o rec env H fun env H => opsK rec l env H c := rfl
theorem ops_sound {orc : Orc} {rec : Rec} (ho : OrcGood P orc) (hrec : RecGood P rec) {n : Nat} {ops : Array Oper} {c : Env → AH → Option Ans} {r : Ans} {Q : Exit → Act → World → Prop} : ∀ (l : List Oper) (k : Nat) (env : Env) (H : AH) (σ : Ren) (a : Act) (w : World), (∀ j : Nat, l[j]? = ops[k + j]?) → AH.ok P H → opsK rec (decL P orc n ops l) env H c = some r → Sim P σ H.get w → ActR σ (Hp.dom H.get) env n a →
    (∀ env' H' σ' a' w', c env' H' = some r → AH.ok P H' → H.next ≤ H'.next → Sim P σ' H'.get w' → Fwd σ H.get w σ' H'.get w' → ActR σ' (Hp.dom H'.get) env' n a' → Q .normal a' w') → wpOps P ops Q (List.range' k l.length) a w
  | [], k, env, H, σ, a, w, _, hok, h, hS, hA, hc => hc env H σ a w h hok (Nat.le_refl _) hS (.refl _ _ _) hA
  | o :: l, k, env, H, σ, a, w, hl, hok, h, hS, hA, hc => by
    have hk : ops[k]? = some o := by have := hl 0; simpa using this.symm
    have hl' : ∀ j : Nat, l[j]? = ops[k + 1 + j]? := fun j => by
      have := hl (j + 1)
      rw [List.getElem?_cons_succ] at this
      rw [this, show k + (j + 1) = k + 1 + j by omega]
    unfold decL at h
    rw [opsK_cons] at h
    obtain ⟨b, v, env', H', q1, q2, q3, q4, q5, q6, q7, q8⟩ := stepO_inv ho hrec hok h
    rw [List.length_cons, List.range'_succ]
    have hwt := q6 σ _ a hA
    cases b with
    | false =>
      obtain ⟨rfl, rfl⟩ := q7 rfl
      refine wpOps_not hk hwt ?_
      exact ops_sound ho hrec l (k + 1) env' H' σ _ w hl' hok q1 hS (hA.put q4 q5 (.tuple _ _ .nil)) hc
    | true =>
      refine wpOps_some hk hwt ?_
      refine OpOk.wp (q8 rfl σ w a.eval hS (hA.rels hS)) fun v' w' hh => ?_
      obtain ⟨σ', g1, g2, g3⟩ := hh
      refine ops_sound ho hrec l (k + 1) env' H' σ' _ w' hl' q2 q1 g1 ((hA.mono g2.le).put q4 q5 g3) fun env2 H2 σ2 a2 w2 e1 e2 en e3 e4 e5 => ?_
      exact hc env2 H2 σ2 a2 w2 e1 e2 (Nat.le_trans q3 en) e3 (Fwd.trans hS g2 e4) e5
end
end Go.Proofs.YtdcbnkimjhefkaaGreatDoor

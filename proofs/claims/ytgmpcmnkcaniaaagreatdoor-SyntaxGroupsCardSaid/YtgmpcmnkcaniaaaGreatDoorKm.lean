/-
  Calls; every operation.
-/
import Derived.Test.YtgmpcmnkcaniaaaGreatDoorKl
import Derived.Below
namespace Go.Proofs.YtgmpcmnkcaniaaaGreatDoor
open Go.RowKit
section
variable {P : Program} {env : Env} {H : AH} {β : Type} {o : Oper} {c : Value → AH → Option β} {r : β}
/-- What a call leaves. -/
def Left (P : Program) (σ : Ren) (H : AH) (w : World) (v : Value) (H' : AH) (e : Ending) (w' : World) : Prop := ∃ v', e = .returned v' ∧ ∃ σ', Sim P σ' H'.get w' ∧ Fwd σ H.get w σ' H'.get w' ∧ VR σ' (Hp.dom H'.get) v v'
def RecGood (P : Program) (rec : Rec) : Prop := ∀ f args H v H', AH.ok P H → rec f args H = some (v, H') → AH.ok P H' ∧ H.next ≤ H'.next ∧ ∀ σ w args', Sim P σ H.get w → VRs σ (Hp.dom H.get) args args' → Calls P f args'.toArray w (Left P σ H w v H')
def OrcGood (P : Program) (orc : Orc) : Prop := ∀ g F, orc g = some F → ∀ args H v, F args H = some v → ∀ σ w args', Sim P σ H.get w → VRs σ (Hp.dom H.get) args args' → Calls P g args'.toArray w fun e w' => e = .returned v ∧ Below w.heap.size w w'
theorem Sim.below {σ : Ren} {h : Hp} {w w' : World} (s : Sim P σ h w) (hb : Below w.heap.size w w') : Sim P σ h w' ∧ Fwd σ h w σ h w' := by
  refine ⟨⟨fun b i t cs e => ?_, s.apart, s.glob⟩, ⟨.refl _ _, fun k hk _ => hb.block k hk, fun b e hl => ?_, fun _ h _ => h, hb.size, hb.os, hb.tape, hb.output⟩⟩
  · obtain ⟨C, T, fr, h1, h2⟩ := s.row b i t cs e
    exact ⟨C, T, fr, by rw [hb.block _ (s.lt ⟨_, _, _, e⟩)]; exact h1, h2⟩
  · obtain ⟨i, t, cs, e2⟩ := hl
    rw [e] at e2; cases e2
theorem exec_callv {f : Operand} {args : Array Operand} {ts : Array TypeId} (hop : o.op = .call ⟨.value f, args, ts⟩) {ρ : Operand → Value} {g : FuncId} {first captured : List Value} (hf : ρ f = .func (.func g) ⟨first⟩ ⟨captured⟩) (w : World) : (execOp ρ o).run P w = (callFunc g ⟨first ++ (args.toList.map ρ ++ captured)⟩).run P w := by
  have e : ((⟨first⟩ : Array Value) ++ args.map ρ) ++ (⟨captured⟩ : Array Value) = ⟨first ++ (args.toList.map ρ ++ captured)⟩ := by
    apply Array.ext'
    simp
  rw [← e]
  simp only [execOp, hop, resolve, hf]
  rfl
theorem hasBody_callable {g : FuncId} (h : hasBody P g = some true) : callable P g = true := by
  unfold hasBody at h
  unfold callable
  split at h
  · rename_i fn hfn
    simp only [hfn]
    split at h
    · cases h
    · rename_i hn
      have := Option.some.inj h
      simp [hn, this]
  · cases h
theorem good_call (hok : AH.ok P H) {orc : Orc} {rec : Rec} (ho : OrcGood P orc) (hrec : RecGood P rec) {f : Operand} {args : Array Operand} {ts : Array TypeId} (hop : o.op = .call ⟨.value f, args, ts⟩) {fv : Value} (hf : ev1 P env H f = some fv) {vs : List Value} (hvs : args.toList.map (ev1 P env H) = vs.map some) (h : callK P orc rec fv vs H c = some r) : ResC P env H o c r .w := by
  unfold callK at h
  split at h
  · rename_i g first captured
    have hρ : ∀ σ ρ, Rels (ev1 P env H) σ (Hp.dom H.get) ρ → ∃ first' captured', ρ f = .func (.func g) ⟨first'⟩ ⟨captured'⟩ ∧ VRs σ (Hp.dom H.get) (first ++ (vs ++ captured)) (first' ++ (args.toList.map ρ ++ captured')) := by
      intro σ ρ hr
      have hv := hr f _ hf
      generalize ρ f = u at hv
      cases hv with
      | func fn f1 f2 c1 c2 h1 h2 => exact ⟨f2, c2, rfl, h1.append ((evs_vr hr hvs).append h2)⟩
    split at h
    · rename_i hb
      have hcal := hasBody_callable hb
      split at h
      · rename_i F hF
        split at h
        · rename_i v hv
          split at h
          · rename_i hat
            rw [val1K_eq] at h
            refine ⟨v, H, h, hok, Nat.le_refl _, fun σ w ρ hS hr => ?_⟩
            obtain ⟨first', captured', e1, e2⟩ := hρ σ ρ hr
            refine OpOk.enter (by rw [exec_callv hop e1, run_callable hcal]) ?_
            refine (ho g F hF _ H v hv σ w _ hS e2).mono fun e w' hh => ?_
            obtain ⟨rfl, hB⟩ := hh
            obtain ⟨q1, q2⟩ := hS.below hB
            exact ⟨v, rfl, σ, q1, q2, .of_atomV hat⟩
          · cases h
        · cases h
      · split at h
        · rename_i v H' hv
          obtain ⟨h1, h2, h3⟩ := hrec _ _ _ _ _ hok hv
          refine ⟨v, H', h, h1, h2, fun σ w ρ hS hr => ?_⟩
          obtain ⟨first', captured', e1, e2⟩ := hρ σ ρ hr
          refine OpOk.enter (by rw [exec_callv hop e1, run_callable hcal]) ?_
          refine (h3 σ w _ hS e2).mono fun e w' hh => ?_
          obtain ⟨v', rfl, hh⟩ := hh
          exact ⟨v', rfl, hh⟩
        · cases h
    · unfold externK at h
      split at h
      · rename_i hat
        split at h
        · rename_i v hv
          split at h
          · rename_i hav
            rw [val1K_eq] at h
            refine ⟨v, H, h, hok, Nat.le_refl _, fun σ w ρ hS hr => ?_⟩
            obtain ⟨first', captured', e1, e2⟩ := hρ σ ρ hr
            refine OpOk.value (v := v) (w' := w) ?_ ⟨σ, hS, .refl _ _ _, .of_atomV hav⟩
            rw [exec_callv hop e1, e2.atoms0 hat]
            exact prun_sound hv
          · cases h
        · cases h
      · cases h
    · cases h
  · cases h
/-- Every operation. -/
theorem opK_res (hok : AH.ok P H) {orc : Orc} {rec : Rec} (ho : OrcGood P orc) (hrec : RecGood P rec) (h : opK P orc rec o.op o.type env H c = some r) : ResC P env H o c r (clsO P o.op) := by
  unfold opK at h
  split at h
  case h_1 x hop => rw [hop]; exact good_move (.inl hop) h
  case h_2 x hop => rw [hop]; exact good_move (.inr hop) h
  case h_3 b x y hop => rw [hop]; exact good_pick hop h
  case h_4 t hop => rw [hop]; exact gd_alloc hop h
  case h_5 t x hop => rw [hop]; exact good_box hop h
  case h_6 t parts hop => rw [hop]; exact good_build hop h
  case h_7 t n parts hop => rw [hop]; exact good_buildSlice hop h
  case h_8 t a hop => rw [hop]; exact good_load hop h
  case h_9 t a x hop => rw [hop]; exact good_store hok hop h
  case h_10 x hop => rw [hop]; exact good_nilCheck hop h
  case h_11 op t x y u hop => rw [hop]; exact good_bin hop h
  case h_12 op t x hop => rw [hop]; exact good_un hop h
  case h_13 s d x hop => rw [hop]; exact good_conv hop h
  case h_14 fn first captured hop => rw [hop]; exact good_makeFunc hop h
  case h_15 t x lo hi mx hop =>
    rw [hop]
    unfold sl1K at h
    split at h
    · rename_i v l hh m hx hl hhi hm
      unfold sliceK at h
      show ResC P env H o c r (clsSl (P.underlying t))
      split at h
      · rename_i e hu
        split at h
        · rename_i sz hs
          rw [hu]
          exact good_sliceS hop hu hs hx hl hhi hm h
        · cases h
      · rename_i n e hu
        split at h
        · rename_i sz hs
          rw [hu]
          exact good_sliceA hop hu hs hx hl hhi hm h
        · cases h
      · rename_i hu
        rw [hu]
        exact good_sliceT hop hu hx hl hhi hm h
      · cases h
    · cases h
  case h_16 t x f hop => rw [hop]; exact good_fieldAddr hop h
  case h_17 t x f hop => rw [hop]; exact good_field hop h
  case h_18 t x i hop => rw [hop]; exact good_indexAddr hop h
  case h_19 t x i hop => rw [hop]; exact good_index hop h
  case h_20 x i hop => rw [hop]; exact good_extract hop h
  case h_21 k args ts hop =>
    rw [hop]
    show ResC P env H o c r (clsC k)
    unfold call1K at h
    split at h
    · rename_i f
      split at h
      · rename_i fv hfv
        obtain ⟨vs, h1, h2⟩ := evsK_inv h
        exact good_call hok ho hrec hop hfv h2 h1
      · cases h
    · rename_i b
      obtain ⟨vs, h1, h2⟩ := evsK_inv h
      unfold builtK at h1
      split at h1
      · exact good_len hop h2 h1
      · unfold two1K at h1
        split at h1
        · rename_i s x t u hts
          exact good_append hok hop h2 hts h1
        · cases h1
      · exact good_min (s := fun as => Builtin.min_ ts o.type as) hop (fun as => rfl) h2 h1
      · exact good_min (s := fun as => Builtin.max_ ts o.type as) hop (fun as => rfl) h2 h1
      · cases h1
    · cases h
  case h_22 => cases h
end
end Go.Proofs.YtgmpcmnkcaniaaaGreatDoor

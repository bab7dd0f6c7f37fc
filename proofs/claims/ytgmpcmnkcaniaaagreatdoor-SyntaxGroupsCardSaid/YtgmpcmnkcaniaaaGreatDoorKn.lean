/-
  Regions in their order, frames, code: the machine is sound.
-/
import Derived.Test.YtgmpcmnkcaniaaaGreatDoorKm
namespace Go.Proofs.YtgmpcmnkcaniaaaGreatDoor
open Go.RowKit
section
variable {P : Program}
/-- A frame and what it stands for. -/
structure ActR (σ : Ren) (D : Dom) (env : Env) (n : Nat) (a : Act) : Prop where
  defers : a.defers = []
  size : a.tmps.size = n
  slot : ∀ t v, env.get t = some v → ∃ v', a.tmps[t]? = some v' ∧ VR σ D v v'
theorem ActR.mono {σ σ' : Ren} {D D' : Dom} {env : Env} {n : Nat} {a : Act} (h : ActR σ D env n a) (hle : Ren.le σ D σ' D') : ActR σ' D' env n a :=
  ⟨h.defers, h.size, fun t v hv => let ⟨v', h1, h2⟩ := h.slot t v hv; ⟨v', h1, h2.mono hle⟩⟩
theorem ActR.rels {σ : Ren} {env : Env} {H : AH} {w : World} {n : Nat} {a : Act} (hS : Sim P σ H.get w) (h : ActR σ (Hp.dom H.get) env n a) : Rels (ev1 P env H) σ (Hp.dom H.get) a.eval := by
  intro x u hx
  unfold ev1 at hx
  split at hx
  · rename_i t
    obtain ⟨v', h1, h2⟩ := h.slot t u hx
    show VR σ _ u (a.tmps.getD t undef)
    rw [Array.getD_eq_getD_getElem?, h1]
    exact h2
  · rename_i v
    split at hx
    · rename_i hat
      obtain rfl := Option.some.inj hx
      exact .of_atomV hat
    · cases hx
  · rename_i g
    split at hx
    · rename_i b hb hlt
      obtain rfl := Option.some.inj hx
      have hg := hS.glob g (Nat.le_of_ble_eq_true hlt) (by rw [hb]; simp)
      have := VR.ptr (σ := σ) (D := Hp.dom H.get) ⟨g, 0, none⟩ b.opn (Hp.dom_some hb) rfl
      unfold Ren.addr at this
      simp only [hg.1, hg.2] at this
      exact this
    · cases hx
  · obtain rfl := Option.some.inj hx
    exact .func _ _ _ _ _ .nil .nil
theorem OpOk.wp {o : Oper} {a : Act} {w : World} {K : Value → World → Prop} {next : Act → World → Prop} {Q : Exit → Act → World → Prop} (h : OpOk P o a.eval w K) (hn : ∀ v w', K v w' → next (a.put o.dst v) w') : o.wp P a w next Q := by
  unfold OpOk at h
  unfold Oper.wp
  generalize (execOp a.eval o).run P w = res at h ⊢
  cases res with
  | ok x w' =>
    cases x with
    | value v => exact hn v w' h
    | skip => exact hn undef w' h
    | enter f args =>
      refine Calls.mono h fun e w'' hh => ?_
      obtain ⟨v, rfl, hk⟩ := hh
      exact hn v w'' hk
    | _ => exact h.elim
  | halt hh w' => exact h.elim
theorem dec_run (orc : Orc) (o : Op) (ty : TypeId) (rec : Rec) (env : Env) (H : AH) (c : Value → AH → Option Ans) : (dec P orc o ty).run rec env H c = opK P orc rec o ty env H c := by
  cases o <;> rfl
theorem dstK_inv {d : Option Tmp} {v : Value} {env : Env} {β : Type} {c : Env → Option β} {r : β} (h : dstK d v env c = some r) : ∃ env', c env' = some r ∧ ∀ t, env'.get t = if d = some t then some v else env.get t := by
  unfold dstK at h
  split at h
  · exact ⟨env, h, fun t => by simp⟩
  · rename_i t0
    obtain ⟨t', h1, h2⟩ := Tr.setK_inv h
    refine ⟨t', h1, fun t => ?_⟩
    rw [h2]
    by_cases e : t = t0
    · subst e; simp
    · rw [if_neg e, if_neg (fun e' => e (Option.some.inj e').symm)]
theorem ActR.put {σ : Ren} {D : Dom} {env env' : Env} {n : Nat} {a : Act} (h : ActR σ D env n a) {d : Option Tmp} {v v' : Value} (hd : decDst n d = true) (he : ∀ t, env'.get t = if d = some t then some v else env.get t) (hv : VR σ D v v') : ActR σ D env' n (a.put d v') := by
  refine ⟨by rw [put_def]; exact h.defers, by rw [put_size]; exact h.size, fun t u hu => ?_⟩
  rw [he] at hu
  rw [put_get]
  split at hu
  · rename_i hdt
    obtain rfl := Option.some.inj hu
    have hlt : t < a.tmps.size := by
      rw [h.size]
      rw [hdt] at hd
      exact Nat.le_of_ble_eq_true hd
    rw [if_pos ⟨hdt, hlt⟩]
    exact ⟨v', rfl, hv⟩
  · rename_i hdt
    rw [if_neg (fun e => hdt e.1)]
    exact h.slot t u hu
/-- Whether an operation is wanted. -/
theorem wantK_inv {σ : Ren} {D : Dom} {env : Env} {n : Nat} {a : Act} (h : ActR σ D env n a) {ops : Array Oper} {o : Oper} {g : Option (Tmp × Bool)} (hg : (o.guard = none ∧ g = none) ∨ ∃ j want t, o.guard = some (j, want) ∧ (ops[j]?).bind (·.dst) = some t ∧ g = some (t, want)) {b : Bool} (hw : wantK g env = some b) : Region.wanted o (yielded ops a.tmps) = b := by
  unfold Region.wanted
  rcases hg with ⟨h1, rfl⟩ | ⟨j, want, t, h1, h2, rfl⟩
  · simp only [h1]
    exact Option.some.inj hw
  · simp only [h1]
    unfold wantK at hw
    simp only at hw
    split at hw
    · rename_i b' hb
      obtain rfl := Option.some.inj hw
      obtain ⟨v', q1, q2⟩ := h.slot t _ hb
      cases q2
      simp [yielded, h2, q1]
    · rename_i l hb
      obtain rfl := Option.some.inj hw
      obtain ⟨v', q1, q2⟩ := h.slot t _ hb
      cases q2
      simp [yielded, h2, q1]
    · cases hw
theorem decO_inv {orc : Orc} {n : Nat} {ops : Array Oper} {o : Oper} {g : Option (Tmp × Bool)} {d : Option Tmp} {f : Dec} (h : decO P orc n ops o = .mk g d f) : decDst n o.dst = true ∧ d = o.dst ∧ f = dec P orc o.op o.type ∧ ((o.guard = none ∧ g = none) ∨ ∃ j want t, o.guard = some (j, want) ∧ (ops[j]?).bind (·.dst) = some t ∧ g = some (t, want)) := by
  unfold decO at h
  split at h
  · rename_i hd
    split at h
    · rename_i hg
      cases h
      exact ⟨hd, rfl, rfl, .inl ⟨hg, rfl⟩⟩
    · rename_i j want hg
      split at h
      · rename_i t ht
        cases h
        exact ⟨hd, rfl, rfl, .inr ⟨j, want, t, hg, ht, rfl⟩⟩
      · cases h
  · cases h
/-- One operation of a region. -/
theorem stepO_inv {orc : Orc} {rec : Rec} (ho : OrcGood P orc) (hrec : RecGood P rec) {n : Nat} {ops : Array Oper} {o : Oper} {env : Env} {H : AH} (hok : AH.ok P H) {c : Env → AH → Option Ans} {r : Ans} (h : stepO (decO P orc n ops o) rec env H c = some r) :
    ∃ (b : Bool) (v : Value) (env' : Env) (H' : AH), c env' H' = some r ∧ AH.ok P H' ∧ H.next ≤ H'.next ∧ decDst n o.dst = true ∧ (∀ t, env'.get t = if o.dst = some t then some v else env.get t) ∧
      (∀ σ D a, ActR σ D env n a → Region.wanted o (yielded ops a.tmps) = b) ∧ (b = false → v = undef ∧ H' = H) ∧ (b = true → OpGood P (ev1 P env H) H o v H') := by
  unfold stepO at h
  split at h
  · cases h
  · rename_i g d f hd
    obtain ⟨h1, rfl, rfl, h4⟩ := decO_inv hd
    split at h
    · rename_i hw
      rw [dec_run] at h
      obtain ⟨v, H', q1, q2, q3, q4⟩ := (opK_res hok ho hrec h).op hok
      obtain ⟨env', q5, q6⟩ := dstK_inv q1
      exact ⟨true, v, env', H', q5, q2, q3, h1, q6, fun σ D a ha => wantK_inv ha h4 hw, fun e => (by cases e), fun _ => q4⟩
    · rename_i hw
      obtain ⟨env', q5, q6⟩ := dstK_inv h
      exact ⟨false, undef, env', H, q5, hok, Nat.le_refl _, h1, q6, fun σ D a ha => wantK_inv ha h4 hw, fun _ => ⟨rfl, rfl⟩, fun e => (by cases e)⟩
    · cases h
theorem opsK_cons (rec : Rec) (o : DOp) (l : List DOp) (env : Env) (H : AH) (c : Env → AH → Option Ans) : opsK rec (o :: l) env H c = stepO o rec env H fun env H => opsK rec l env H c := rfl
theorem ops_sound {orc : Orc} {rec : Rec} (ho : OrcGood P orc) (hrec : RecGood P rec) {n : Nat} {ops : Array Oper} {c : Env → AH → Option Ans} {r : Ans} {Q : Exit → Act → World → Prop} : ∀ (l : List Oper) (k : Nat) (env : Env) (H : AH) (σ : Ren) (a : Act) (w : World), (∀ j : Nat, l[j]? = ops[k + j]?) → AH.ok P H → opsK rec (decL P orc n ops l) env H c = some r → Sim P σ H.get w → ActR σ (Hp.dom H.get) env n a →
    (∀ env' H' σ' a' w', c env' H' = some r → AH.ok P H' → H.next ≤ H'.next → Sim P σ' H'.get w' → Fwd σ H.get w σ' H'.get w' → ActR σ' (Hp.dom H'.get) env' n a' → Q .normal a' w') → wpOps P ops Q (List.range' k l.length) a w
  | [], k, env, H, σ, a, w, _, hok, h, hS, hA, hc => hc env H σ a w h hok (Nat.le_refl _) hS (.refl _ _ _) hA
  | o :: l, k, env, H, σ, a, w, hl, hok, h, hS, hA, hc => by
    have hk : ops[k]? = some o := by have := hl 0; simpa using this.symm
    have hl' : ∀ j : Nat, l[j]? = ops[k + 1 + j]? := fun j => by
      have := hl (j + 1)
      rw [List.getElem?_cons_succ] at this
      rw [this, show k + (j + 1) = k + 1 + j by omega]
    unfold decL at h
    rw [opsK_cons] at h
    obtain ⟨b, v, env', H', q1, q2, q3, q4, q5, q6, q7, q8⟩ := stepO_inv ho hrec hok h
    rw [List.length_cons, List.range'_succ]
    have hwt := q6 σ _ a hA
    cases b with
    | false =>
      obtain ⟨rfl, rfl⟩ := q7 rfl
      refine wpOps_not hk hwt ?_
      exact ops_sound ho hrec l (k + 1) env' H' σ _ w hl' hok q1 hS (hA.put q4 q5 (.tuple _ _ .nil)) hc
    | true =>
      refine wpOps_some hk hwt ?_
      refine OpOk.wp (q8 rfl σ w a.eval hS (hA.rels hS)) fun v' w' hh => ?_
      obtain ⟨σ', g1, g2, g3⟩ := hh
      refine ops_sound ho hrec l (k + 1) env' H' σ' _ w' hl' q2 q1 g1 ((hA.mono g2.le).put q4 q5 g3) fun env2 H2 σ2 a2 w2 e1 e2 en e3 e4 e5 => ?_
      exact hc env2 H2 σ2 a2 w2 e1 e2 (Nat.le_trans q3 en) e3 (Fwd.trans hS g2 e4) e5
end
end Go.Proofs.YtgmpcmnkcaniaaaGreatDoor

/-
  Regions whose order is drawn: the steps of the invariant.
-/
import Derived.Test.YtgmpcmnkcaniaaaGreatDoorKr
namespace Go.Proofs.YtgmpcmnkcaniaaaGreatDoor
section
variable {P : Program} {n : Nat} {ops : Array Oper} {A : List Nat} {σ : Ren} {X : Nat → Bool} {a : Act} {w : World}
theorem RcOk.domle {r : Rc} (h : RcOk P n ops A r) (hw : isW P r.o = false) : ∀ b x, Hp.dom r.H.get b = some x → Hp.dom r.H'.get b = some x := by
  intro b x hb
  cases ha : r.al P with
  | false => rw [h.same ha hw]; exact hb
  | true =>
    obtain ⟨_, i, t, cs, hg, _⟩ := h.alloc ha
    have hne : b ≠ r.H.next := fun e => by
      unfold Hp.dom at hb
      rw [e, h.ok.2 _ (Nat.le_refl _)] at hb
      cases hb
    unfold Hp.dom at hb ⊢
    rw [hg, Hp.set_other hne]
    exact hb
/-- The head, done early, is passed. -/
theorem DInv.absorb {r : Rc} {l : List Rc} (I : DInv P n σ X (r :: l) r.env r.H a w) (h : RcOk P n ops A r) (hx : X r.i = true) (hnd : ∀ q ∈ l, q.i ≠ r.i) : DInv P n σ X l r.env' r.H' a w := by
  have hw := I.noW r (by simp) hx
  have hh := I.hold
  unfold Hold at hh
  obtain ⟨h1, h2⟩ := hh
  obtain ⟨hs, hr⟩ := h1 hx
  rw [if_pos hx] at h2
  rw [h.ext hw] at h2 hs hr
  have hle : Ren.le σ (Hp.dom r.H.get) σ (Hp.dom r.H'.get) := ⟨h.domle hw, fun _ _ _ => ⟨rfl, rfl, rfl⟩⟩
  refine ⟨?_, I.defers, I.size, fun t v hn hv => ?_, h2, fun q hq hqx hqa => ?_, fun q hq => I.noW q (by simp [hq])⟩
  · cases ha : r.al P with
    | false => rw [h.same ha hw]; exact I.sim
    | true =>
      obtain ⟨_, i, t, cs, hg, _⟩ := h.alloc ha
      obtain ⟨ap1, ap2⟩ := I.apart r (by simp) hx ha
      have hlive : ∀ b, Hp.live r.H'.get b → b ≠ r.H.next → Hp.live r.H.get b := fun b hb hne => by
        obtain ⟨i', t', cs', e⟩ := hb
        rw [hg, Hp.set_other hne] at e
        exact ⟨i', t', cs', e⟩
      refine ⟨fun b i' t' cs' hb => ?_, fun b b' hb hb' hne => ?_, fun g hg' hn => ?_⟩
      · by_cases e : b = r.H.next
        · subst e
          obtain ⟨C, T, fr, q1, q2⟩ := hr ha i' t' cs' hb
          exact ⟨C, T, fr, q1, q2⟩
        · have hb' := hb
          rw [hg, Hp.set_other e] at hb'
          obtain ⟨C, T, fr, q1, q2⟩ := I.sim.row b i' t' cs' hb'
          exact ⟨C, T, fr, q1, q2.mono hle rfl rfl⟩
      · by_cases e : b = r.H.next
        · subst e
          exact fun e2 => ap1 b' (hlive b' hb' (Ne.symm hne)) e2.symm
        · by_cases e' : b' = r.H.next
          · subst e'
            exact ap1 b (hlive b hb e)
          · exact I.sim.apart b b' (hlive b hb e) (hlive b' hb' e') hne
      · have e : g ≠ r.H.next := by have := h.ok.1; omega
        rw [hg, Hp.set_other e] at hn
        exact I.sim.glob g hg' hn
  · rw [h.env] at hv
    split at hv
    · rename_i e
      obtain rfl := Option.some.inj hv
      exact hs t e
    · rename_i e
      obtain ⟨v', q1, q2⟩ := I.slot t v (fun q hq hqx => by
        rcases List.mem_cons.1 hq with rfl | hq
        · exact e
        · exact hn q hq hqx) hv
      exact ⟨v', q1, q2.mono hle⟩
  · obtain ⟨ap1, ap2⟩ := I.apart q (by simp [hq]) hqx hqa
    refine ⟨fun b hb => ?_, fun q' hq' => ap2 q' (by simp [hq'])⟩
    cases ha : r.al P with
    | false => rw [h.same ha hw] at hb; exact ap1 b hb
    | true =>
      obtain ⟨_, i, t, cs, hg, _⟩ := h.alloc ha
      by_cases e : b = r.H.next
      · subst e
        exact ap2 r (by simp) hx ha (fun e => hnd q hq e.symm)
      · obtain ⟨i', t', cs', e2⟩ := hb
        rw [hg, Hp.set_other e] at e2
        exact ap1 b ⟨i', t', cs', e2⟩
/-- What is known at a place among the records. -/
theorem DX_le : ∀ {l : List Rc} {D : Dom}, (∀ r ∈ l, ∀ b, D b ≠ none → b < r.H.next) → (∀ l1 r l2, l = l1 ++ r :: l2 → ∀ q ∈ l2, r.H.next < q.H.next ∨ r.al P = false) → ∀ b x, D b = some x → DX P X l D b = some x
  | [], _, _, _, _, _, hb => hb
  | r :: l, D, hf, hi, b, x, hb => by
    unfold DX
    have hext : ∀ b x, D b = some x → (if X r.i = true then extD P r D else D) b = some x := by
      intro b x hb
      split
      · unfold extD
        split
        · simp only
          rw [if_neg]
          · exact hb
          · intro e
            have := hf r (by simp) b (by rw [hb]; simp)
            omega
        · exact hb
      · exact hb
    refine DX_le (l := l) (fun q hq b hb2 => ?_) (fun l1 q l2 e => hi (r :: l1) q l2 (by rw [e]; rfl)) b x (hext b x hb)
    have h0 : D b ≠ none ∨ (b = r.H.next ∧ r.al P = true) := by
      split at hb2
      · unfold extD at hb2
        split at hb2
        · rename_i ha
          simp only at hb2
          split at hb2
          · rename_i e; exact .inr ⟨e, ha⟩
          · exact .inl hb2
        · exact .inl hb2
      · exact .inl hb2
    rcases h0 with h0 | ⟨rfl, ha⟩
    · exact hf q (by simp [hq]) b h0
    · rcases hi [] r l rfl q hq with h3 | h3
      · exact h3
      · rw [ha] at h3; cases h3
end
end Go.Proofs.YtgmpcmnkcaniaaaGreatDoor

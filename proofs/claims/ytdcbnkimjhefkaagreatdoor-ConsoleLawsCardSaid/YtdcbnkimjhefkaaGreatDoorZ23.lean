/-
  Regions whose order is drawn: what holds while their operations are carried out in any order.
  Regions whose order is drawn: the steps of the invariant.
-/
import Derived.Test.YtdcbnkimjhefkaaGreatDoorZ22
namespace Go.Proofs.YtdcbnkimjhefkaaGreatDoor
section
variable {P : Program}
theorem Row.mono2 {σ σ' : Ren} {D D' : Dom} {b : Nat} {i : Option (Nat × Nat)} {t : TypeId} {cs : List Value} {C : Array Value} {T : TypeId} {fr : Nat × Nat} (h : Row σ D b i t cs C T fr) (hle : Ren.le σ D σ' D') (h2 : σ'.sh b = σ.sh b) (h3 : σ'.cap b = σ.cap b) : Row σ' D' b i t cs C T fr :=
  ⟨h.free, by rw [h2]; exact h.fits, fun j v hj => let ⟨v', q1, q2⟩ := h.cell j v hj; ⟨v', by rw [h2]; exact q1, q2.mono hle⟩, by rw [h2, h3]; exact h.opn, h.elem, h2.trans h.sh0, h.plain⟩
noncomputable def isA (P : Program) (o : Oper) : Bool := match clsO P o.op with
  | .a => true
  | _ => false
noncomputable def Rc.al (P : Program) (r : Rc) : Bool := r.b && isA P r.o
noncomputable def extD (P : Program) (r : Rc) (D : Dom) : Dom := if r.al P = true then fun b => if b = r.H.next then Hp.dom r.H'.get b else D b else D
noncomputable def DX (P : Program) (X : Nat → Bool) : List Rc → Dom → Dom
  | [], D => D
  | r :: l, D => DX P X l (if X r.i = true then extD P r D else D)
def RowAt (σ : Ren) (w : World) (D : Dom) (r : Rc) : Prop := ∀ i t cs, r.H'.get r.H.next = some ⟨i, .cells t cs⟩ → ∃ C T fr, w.heap[σ.blk r.H.next]? = some (.cells C T fr) ∧ Row σ D r.H.next i t cs C T fr
def SlotAt (σ : Ren) (a : Act) (D : Dom) (r : Rc) : Prop := ∀ t, r.o.dst = some t → ∃ v', a.tmps[t]? = some v' ∧ VR σ D r.v v'
def Hold (P : Program) (σ : Ren) (X : Nat → Bool) (a : Act) (w : World) : List Rc → Dom → Prop
  | [], _ => True
  | r :: l, D => (X r.i = true → SlotAt σ a (extD P r D) r ∧ (r.al P = true → RowAt σ w (extD P r D) r)) ∧ Hold P σ X a w l (if X r.i = true then extD P r D else D)
def Agree (σ σ' : Ren) (b : Nat) : Prop := σ'.blk b = σ.blk b ∧ σ'.sh b = σ.sh b ∧ σ'.cap b = σ.cap b
theorem extD_le {r : Rc} {D D2 : Dom} (h : ∀ b x, D b = some x → D2 b = some x) : ∀ b x, extD P r D b = some x → extD P r D2 b = some x := by
  intro b x hb
  unfold extD at hb ⊢
  split
  · rename_i ha
    rw [if_pos ha] at hb
    simp only at hb ⊢
    split
    · rename_i e; rw [if_pos e] at hb; exact hb
    · rename_i e; rw [if_neg e] at hb; exact h b x hb
  · rename_i ha
    rw [if_neg ha] at hb
    exact h b x hb
theorem extD_agree {σ σ' : Ren} {r : Rc} {D : Dom} (h : ∀ b x, D b = some x → Agree σ σ' b) (hr : r.al P = true → Agree σ σ' r.H.next) : ∀ b x, extD P r D b = some x → Agree σ σ' b := by
  intro b x hb
  unfold extD at hb
  split at hb
  · rename_i ha
    simp only at hb
    split at hb
    · rename_i e; rw [e]; exact hr ha
    · exact h b x hb
  · exact h b x hb
/-- Later worlds, frames and numberings that keep what is known. -/
theorem Hold.upd {σ σ' : Ren} {X : Nat → Bool} {a a' : Act} {w w' : World} : ∀ {l : List Rc} {D D2 : Dom}, Hold P σ X a w l D → (∀ b x, D b = some x → D2 b = some x) → (∀ b x, D b = some x → Agree σ σ' b) → (∀ r ∈ l, X r.i = true → r.al P = true → Agree σ σ' r.H.next) →
    (∀ r ∈ l, X r.i = true → ∀ t, r.o.dst = some t → a'.tmps[t]? = a.tmps[t]?) → (∀ r ∈ l, X r.i = true → r.al P = true → w'.heap[σ.blk r.H.next]? = w.heap[σ.blk r.H.next]?) → Hold P σ' X a' w' l D2
  | [], _, _, _, _, _, _, _, _ => trivial
  | r :: l, D, D2, h, hD, hσ, hX, ha, hw => by
    unfold Hold at h ⊢
    have hin : ∀ q ∈ l, q ∈ r :: l := fun q hq => List.mem_cons_of_mem _ hq
    refine ⟨fun hx => ?_, ?_⟩
    · obtain ⟨h1, h2⟩ := h.1 hx
      have hle : Ren.le σ (extD P r D) σ' (extD P r D2) := ⟨extD_le hD, extD_agree hσ (hX r (by simp) hx)⟩
      refine ⟨fun t ht => ?_, fun hal i t cs hb => ?_⟩
      · obtain ⟨v', q1, q2⟩ := h1 t ht
        exact ⟨v', by rw [ha r (by simp) hx t ht]; exact q1, q2.mono hle⟩
      · obtain ⟨C, T, fr, q1, q2⟩ := h2 hal i t cs hb
        obtain ⟨g1, g2, g3⟩ := hX r (by simp) hx hal
        exact ⟨C, T, fr, by rw [g1, hw r (by simp) hx hal]; exact q1, q2.mono2 hle g2 g3⟩
    · by_cases hx : X r.i = true
      · rw [if_pos hx] at h ⊢
        exact Hold.upd h.2 (extD_le hD) (extD_agree hσ (hX r (by simp) hx)) (fun q hq => hX q (hin q hq)) (fun q hq => ha q (hin q hq)) (fun q hq => hw q (hin q hq))
      · rw [if_neg hx] at h ⊢
        exact Hold.upd h.2 hD hσ (fun q hq => hX q (hin q hq)) (fun q hq => ha q (hin q hq)) (fun q hq => hw q (hin q hq))
theorem Hold.append {σ : Ren} {X : Nat → Bool} {a : Act} {w : World} : ∀ {l1 l2 : List Rc} {D : Dom}, Hold P σ X a w (l1 ++ l2) D ↔ Hold P σ X a w l1 D ∧ Hold P σ X a w l2 (DX P X l1 D)
  | [], l2, D => ⟨fun h => ⟨trivial, h⟩, fun h => h.2⟩
  | r :: l1, l2, D => by
    show (_ ∧ Hold P σ X a w (l1 ++ l2) _) ↔ (_ ∧ Hold P σ X a w l1 _) ∧ Hold P σ X a w l2 (DX P X l1 _)
    rw [Hold.append (l1 := l1)]
    exact and_assoc.symm
theorem Hold.congr {σ : Ren} {X X' : Nat → Bool} {a : Act} {w : World} : ∀ {l : List Rc} {D : Dom}, (∀ r ∈ l, X' r.i = X r.i) → Hold P σ X a w l D → Hold P σ X' a w l D
  | [], _, _, _ => trivial
  | r :: l, D, hX, h => by
    unfold Hold at h ⊢
    rw [hX r (by simp)]
    exact ⟨h.1, Hold.congr (fun q hq => hX q (List.mem_cons_of_mem _ hq)) h.2⟩
theorem DX.congr {X X' : Nat → Bool} : ∀ {l : List Rc} {D : Dom}, (∀ r ∈ l, X' r.i = X r.i) → DX P X' l D = DX P X l D
  | [], _, _ => rfl
  | r :: l, D, hX => by
    unfold DX
    rw [hX r (by simp)]
    exact DX.congr (fun q hq => hX q (List.mem_cons_of_mem _ hq))
structure DInv (P : Program) (n : Nat) (σ : Ren) (X : Nat → Bool) (l : List Rc) (env : Env) (H : AH) (a : Act) (w : World) : Prop where
  sim : Sim P σ H.get w
  defers : a.defers = []
  size : a.tmps.size = n
  slot : ∀ t v, (∀ r ∈ l, X r.i = true → r.o.dst ≠ some t) → env.get t = some v → ∃ v', a.tmps[t]? = some v' ∧ VR σ (Hp.dom H.get) v v'
  hold : Hold P σ X a w l (Hp.dom H.get)
  apart : ∀ r ∈ l, X r.i = true → r.al P = true → (∀ b, Hp.live H.get b → σ.blk b ≠ σ.blk r.H.next) ∧ ∀ q ∈ l, X q.i = true → q.al P = true → q.i ≠ r.i → σ.blk q.H.next ≠ σ.blk r.H.next
  noW : ∀ r ∈ l, X r.i = true → isW P r.o = false
/-- What the records say of numbers. -/
theorem RunR.next {n : Nat} {ops : Array Oper} {A : List Nat} {c : Env → AH → Option Ans} {x : Ans} : ∀ {l : List Rc} {env : Env} {H : AH} {hist : List (Nat × AH)}, RunR P n ops A c x l env H hist → ∀ r ∈ l, H.next ≤ r.H.next
  | [], _, _, _, _, r, hr => by cases hr
  | q :: l, env, H, hist, h, r, hr => by
    obtain ⟨h1, h2, h3, h4, h5⟩ := h
    rcases List.mem_cons.1 hr with rfl | hr
    · rw [h2]; exact Nat.le_refl _
    · have := RunR.next h5 r hr
      have := h4.next
      rw [h2] at this
      omega
/-- What a record that lays a row says. -/
theorem RcOk.alloc {n : Nat} {ops : Array Oper} {A : List Nat} {r : Rc} (h : RcOk P n ops A r) (ha : r.al P = true) : r.H'.next = r.H.next + 1 ∧ ∃ i t cs, r.H'.get = Hp.set r.H.get r.H.next ⟨i, .cells t cs⟩ ∧ AllocGood P (ev1 P r.envr r.H) r.H.next r.o r.v i t cs := by
  unfold Rc.al at ha
  rw [Bool.and_eq_true] at ha
  have hc : clsO P r.o.op = .a := by
    have := ha.2
    unfold isA at this
    split at this
    · rename_i e; exact e
    · cases this
  have := h.yes ha.1
  rw [hc] at this
  exact this
theorem RcOk.same {n : Nat} {ops : Array Oper} {A : List Nat} {r : Rc} (h : RcOk P n ops A r) (ha : r.al P = false) (hw : isW P r.o = false) : r.H' = r.H := by
  cases hb : r.b with
  | false => exact (h.no hb).2
  | true =>
    have hy := h.yes hb
    unfold Rc.al at ha
    rw [hb] at ha
    unfold isA at ha
    unfold isW at hw
    revert hy ha hw
    cases clsO P r.o.op with
    | p => exact fun _ _ hy => hy.1
    | l => exact fun _ _ hy => hy.1
    | a => exact fun ha _ _ => (by cases ha)
    | w => exact fun _ hw _ => (by cases hw)
theorem RcOk.ext {n : Nat} {ops : Array Oper} {A : List Nat} {r : Rc} (h : RcOk P n ops A r) (hw : isW P r.o = false) : extD P r (Hp.dom r.H.get) = Hp.dom r.H'.get := by
  unfold extD
  cases ha : r.al P with
  | false => rw [if_neg (by simp), h.same ha hw]
  | true =>
    rw [if_pos rfl]
    obtain ⟨_, i, t, cs, hg, _⟩ := h.alloc ha
    funext b
    split
    · rfl
    · rename_i e
      unfold Hp.dom
      rw [hg, Hp.set_other e]
end
end Go.Proofs.YtdcbnkimjhefkaaGreatDoor

namespace Go.Proofs.YtdcbnkimjhefkaaGreatDoor
section
variable {P : Program} {n : Nat} {ops : Array Oper} {A : List Nat} {σ : Ren} {X : Nat → Bool} {a : Act} {w : World}
theorem RcOk.domle {r : Rc} (h : RcOk P n ops A r) (hw : isW P r.o = false) : ∀ b x, Hp.dom r.H.get b = some x → Hp.dom r.H'.get b = some x := by
  intro b x hb
  cases ha : r.al P with
  | false => rw [h.same ha hw]; exact hb
  | true =>
    obtain ⟨_, i, t, cs, hg, _⟩ := h.alloc ha
    have hne : b ≠ r.H.next := fun e => by
      unfold Hp.dom at hb
      rw [e, h.ok.2 _ (Nat.le_refl _)] at hb
      cases hb
    unfold Hp.dom at hb ⊢
    rw [hg, Hp.set_other hne]
    exact hb
/-- The head, done early, is passed. -/
theorem DInv.absorb {r : Rc} {l : List Rc} (I : DInv P n σ X (r :: l) r.env r.H a w) (h : RcOk P n ops A r) (hx : X r.i = true) (hnd : ∀ q ∈ l, q.i ≠ r.i) : DInv P n σ X l r.env' r.H' a w := by
  have hw := I.noW r (by simp) hx
  have hh := I.hold
  unfold Hold at hh
  obtain ⟨h1, h2⟩ := hh
  obtain ⟨hs, hr⟩ := h1 hx
  rw [if_pos hx] at h2
  rw [h.ext hw] at h2 hs hr
  have hle : Ren.le σ (Hp.dom r.H.get) σ (Hp.dom r.H'.get) := ⟨h.domle hw, fun _ _ _ => ⟨rfl, rfl, rfl⟩⟩
  refine ⟨?_, I.defers, I.size, fun t v hn hv => ?_, h2, fun q hq hqx hqa => ?_, fun q hq => I.noW q (by simp [hq])⟩
  · cases ha : r.al P with
    | false => rw [h.same ha hw]; exact I.sim
    | true =>
      obtain ⟨_, i, t, cs, hg, _⟩ := h.alloc ha
      obtain ⟨ap1, ap2⟩ := I.apart r (by simp) hx ha
      have hlive : ∀ b, Hp.live r.H'.get b → b ≠ r.H.next → Hp.live r.H.get b := fun b hb hne => by
        obtain ⟨i', x', e, hd⟩ := hb
        rw [hg, Hp.set_other hne] at e
        exact ⟨i', x', e, hd⟩
      refine ⟨fun b i' x' hb hd => ?_, fun b b' hb hb' hne => ?_, fun g hg' hn => ?_⟩
      · by_cases e : b = r.H.next
        · subst e
          have hb2 := hb
          rw [hg, Hp.set_same] at hb2
          simp only [Option.some.injEq, Blk.mk.injEq] at hb2
          obtain ⟨rfl, rfl⟩ := hb2
          obtain ⟨C, T, fr, q1, q2⟩ := hr ha _ _ _ hb
          exact ⟨_, q1, C, T, fr, rfl, q2⟩
        · have hb' := hb
          rw [hg, Hp.set_other e] at hb'
          obtain ⟨X2, q1, q2⟩ := I.sim.body b i' x' hb' hd
          exact ⟨X2, q1, q2.mono hle (Hp.dom_some hb')⟩
      · by_cases e : b = r.H.next
        · subst e
          exact fun e2 => ap1 b' (hlive b' hb' (Ne.symm hne)) e2.symm
        · by_cases e' : b' = r.H.next
          · subst e'
            exact ap1 b (hlive b hb e)
          · exact I.sim.apart b b' (hlive b hb e) (hlive b' hb' e') hne
      · have e : g ≠ r.H.next := by have := h.ok.1; omega
        rw [hg, Hp.set_other e] at hn
        exact I.sim.glob g hg' hn
  · rw [h.env] at hv
    split at hv
    · rename_i e
      obtain rfl := Option.some.inj hv
      exact hs t e
    · rename_i e
      obtain ⟨v', q1, q2⟩ := I.slot t v (fun q hq hqx => by
        rcases List.mem_cons.1 hq with rfl | hq
        · exact e
        · exact hn q hq hqx) hv
      exact ⟨v', q1, q2.mono hle⟩
  · obtain ⟨ap1, ap2⟩ := I.apart q (by simp [hq]) hqx hqa
    refine ⟨fun b hb => ?_, fun q' hq' => ap2 q' (by simp [hq'])⟩
    cases ha : r.al P with
    | false => rw [h.same ha hw] at hb; exact ap1 b hb
    | true =>
      obtain ⟨_, i, t, cs, hg, _⟩ := h.alloc ha
      by_cases e : b = r.H.next
      · subst e
        exact ap2 r (by simp) hx ha (fun e => hnd q hq e.symm)
      · obtain ⟨i', x', e2, hd⟩ := hb
        rw [hg, Hp.set_other e] at e2
        exact ap1 b ⟨i', x', e2, hd⟩
/-- What is known at a place among the records. -/
theorem DX_le : ∀ {l : List Rc} {D : Dom}, (∀ r ∈ l, ∀ b, D b ≠ none → b < r.H.next) → (∀ l1 r l2, l = l1 ++ r :: l2 → ∀ q ∈ l2, r.H.next < q.H.next ∨ r.al P = false) → ∀ b x, D b = some x → DX P X l D b = some x
  | [], _, _, _, _, _, hb => hb
  | r :: l, D, hf, hi, b, x, hb => by
    unfold DX
    have hext : ∀ b x, D b = some x → (if X r.i = true then extD P r D else D) b = some x := by
      intro b x hb
      split
      · unfold extD
        split
        · simp only
          rw [if_neg]
          · exact hb
          · intro e
            have := hf r (by simp) b (by rw [hb]; simp)
            omega
        · exact hb
      · exact hb
    refine DX_le (l := l) (fun q hq b hb2 => ?_) (fun l1 q l2 e => hi (r :: l1) q l2 (by rw [e]; rfl)) b x (hext b x hb)
    have h0 : D b ≠ none ∨ (b = r.H.next ∧ r.al P = true) := by
      split at hb2
      · unfold extD at hb2
        split at hb2
        · rename_i ha
          simp only at hb2
          split at hb2
          · rename_i e; exact .inr ⟨e, ha⟩
          · exact .inl hb2
        · exact .inl hb2
      · exact .inl hb2
    rcases h0 with h0 | ⟨rfl, ha⟩
    · exact hf q (by simp [hq]) b h0
    · rcases hi [] r l rfl q hq with h3 | h3
      · exact h3
      · rw [ha] at h3; cases h3
end
end Go.Proofs.YtdcbnkimjhefkaaGreatDoor

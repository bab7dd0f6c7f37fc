/-
  Regions whose order is drawn: memory since the region's start.
-/
import Derived.Test.YtgmpcmnkcaniaaaGreatDoorKx
namespace Go.Proofs.YtgmpcmnkcaniaaaGreatDoor
section
variable {P : Program} {n : Nat} {ops : Array Oper} {A : List Nat} {σ0 σ : Ren} {H0 : AH} {w0 : World} {X : Nat → Bool} {a : Act} {w : World} {c : Env → AH → Option Ans} {x : Ans}
structure DFwd (P : Program) (σ0 : Ren) (H0 : AH) (w0 : World) (σ : Ren) (X : Nat → Bool) (l : List Rc) (H : AH) (w : World) : Prop where
  fwd : Fwd σ0 H0.get w0 σ H.get w
  ge : ∀ q ∈ l, X q.i = true → q.al P = true → w0.heap.size ≤ σ.blk q.H.next
theorem DFwd.absorb {r : Rc} {l : List Rc} (F : DFwd P σ0 H0 w0 σ X (r :: l) r.H w) (h : RcOk P n ops A r) (hx : X r.i = true) (hw : isW P r.o = false) : DFwd P σ0 H0 w0 σ X l r.H' w := by
  refine ⟨?_, fun q hq => F.ge q (by simp [hq])⟩
  cases ha : r.al P with
  | false => rw [h.same ha hw]; exact F.fwd
  | true =>
    obtain ⟨_, i, t, cs, hg, _⟩ := h.alloc ha
    have hlive : ∀ b, Hp.live r.H'.get b → b ≠ r.H.next → Hp.live r.H.get b := fun b hb hne => by
      obtain ⟨i', t', cs', e⟩ := hb
      rw [hg, Hp.set_other hne] at e
      exact ⟨i', t', cs', e⟩
    have hne0 : ∀ b y, Hp.dom H0.get b = some y → b ≠ r.H.next := fun b y hb e => by
      have := F.fwd.le.dom b y hb
      unfold Hp.dom at this
      rw [e, h.ok.2 _ (Nat.le_refl _)] at this
      cases this
    have hf := F.fwd
    refine ⟨hf.le.trans ⟨h.domle hw, fun _ _ _ => ⟨rfl, rfl, rfl⟩⟩, hf.old, fun b hb hl => ?_, fun b hl hn => ?_, hf.size, hf.os, hf.tape, hf.output⟩
    · by_cases e : b = r.H.next
      · subst e; exact .inl (F.ge r (by simp) hx ha)
      · rcases hf.new b hb (hlive b hl e) with h1 | ⟨b0, h1, h2, h3⟩
        · exact .inl h1
        · refine .inr ⟨b0, h1, fun hl0 => h2 (hlive b0 hl0 ?_), h3⟩
          obtain ⟨i', t', cs', e'⟩ := h1
          exact hne0 b0 _ (Hp.dom_some e')
    · refine hf.was b (hlive b hl ?_) hn
      cases hb : H0.get b with
      | none => exact (hn hb).elim
      | some y => exact hne0 b _ (Hp.dom_some hb)
theorem DFwd.early {l : List Rc} {r : Rc} {H : AH} (F : DFwd P σ0 H0 w0 σ X l H w) (hal : r.al P = false) (hin : ∀ q ∈ l, q.i = r.i → q = r) : DFwd P σ0 H0 w0 σ (addX X r.i) l H w := by
  refine ⟨F.fwd, fun q hq hqx hqa => ?_⟩
  by_cases e : q.i = r.i
  · rw [hin q hq e, hal] at hqa; cases hqa
  · exact F.ge q hq (by rw [← addX_other (X := X) e]; exact hqx) hqa
theorem DFwd.earlyA (s0 : Sim P σ0 H0.get w0) {l : List Rc} {r : Rc} {H : AH} (hok : AH.ok P H) (F : DFwd P σ0 H0 w0 σ X l H w) (hid : H.next ≤ r.H.next) (hqid : ∀ q ∈ l, q.i ≠ r.i → q.al P = true → q.H.next ≠ r.H.next) (hin : ∀ q ∈ l, q.i = r.i → q = r) {C : List Value} {T : TypeId} {fr : Nat × Nat} {w' : World} (hp : Push w w' C T fr) (k : Nat) :
    DFwd P σ0 H0 w0 (upR σ r.H.next w.heap.size 0 k) (addX X r.i) l H w' := by
  have hdom : ∀ b y, Hp.dom H.get b = some y → b ≠ r.H.next := fun b y hb => by have := dom_lt hok hb; omega
  have hF : Fwd σ H.get w (upR σ r.H.next w.heap.size 0 k) H.get w' := by
    refine ⟨⟨fun _ _ h => h, fun b y hb => upR_agree (hdom b y hb)⟩, fun j hj _ => ?_, fun b hb hl => ?_, fun b hl _ => hl, by rw [hp.heap]; simp, hp.os, hp.tape, hp.output⟩
    · rw [hp.heap, Array.getElem?_push_lt hj, Array.getElem?_eq_getElem hj]
    · obtain ⟨i', t', cs', e⟩ := hl
      rw [hb] at e; cases e
  refine ⟨Fwd.trans s0 F.fwd hF, fun q hq hqx hqa => ?_⟩
  by_cases e : q.i = r.i
  · rw [hin q hq e]
    simp only [upR, if_true]
    exact F.fwd.size
  · rw [(upR_agree (σ := σ) (hqid q hq e hqa)).1]
    exact F.ge q hq (by rw [← addX_other (X := X) e]; exact hqx) hqa
theorem DFwd.write (s0 : Sim P σ0 H0.get w0) {l : List Rc} {r : Rc} {hist : List (Nat × AH)} (hR : RunR P n ops A c x (r :: l) r.env r.H hist) (F : DFwd P σ0 H0 w0 σ X (r :: l) r.H w) {σ' : Ren} {w' : World} (hF : Fwd σ r.H.get w σ' r.H'.get w') : DFwd P σ0 H0 w0 (mixR σ' σ r.H'.next) X l r.H' w' := by
  have h := hR.2.2.2.1
  have hF2 : Fwd σ r.H.get w (mixR σ' σ r.H'.next) r.H'.get w' := by
    refine ⟨hF.le.trans ⟨fun _ _ h => h, fun b y hb => mixR_lt (dom_lt h.ok' hb)⟩, hF.old, fun b hb hl => ?_, hF.was, hF.size, hF.os, hF.tape, hF.output⟩
    have hlt : b < r.H'.next := by
      obtain ⟨i', t', cs', e⟩ := hl
      exact dom_lt h.ok' (Hp.dom_some e)
    rw [(mixR_lt (σ' := σ') (σ := σ) hlt).1]
    exact hF.new b hb hl
  refine ⟨Fwd.trans s0 F.fwd hF2, fun q hq hqx hqa => ?_⟩
  rw [(mixR_ge (σ' := σ') (σ := σ) (RunR.next hR.2.2.2.2 q hq)).1]
  exact F.ge q (by simp [hq]) hqx hqa
end
end Go.Proofs.YtgmpcmnkcaniaaaGreatDoor

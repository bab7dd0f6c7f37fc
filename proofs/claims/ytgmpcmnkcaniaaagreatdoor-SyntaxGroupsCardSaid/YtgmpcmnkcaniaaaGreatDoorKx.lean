/-
  Regions whose order is drawn: the writer that stands next.
-/
import Derived.Test.YtgmpcmnkcaniaaaGreatDoorKw
namespace Go.Proofs.YtgmpcmnkcaniaaaGreatDoor
section
variable {P : Program} {n : Nat} {ops : Array Oper} {A : List Nat} {σ : Ren} {X : Nat → Bool} {a : Act} {w : World} {c : Env → AH → Option Ans} {x : Ans}
def mixR (σ' σ : Ren) (k : Nat) : Ren := ⟨fun j => if j < k then σ'.blk j else σ.blk j, fun j => if j < k then σ'.sh j else σ.sh j, fun j => if j < k then σ'.cap j else σ.cap j⟩
theorem mixR_lt {σ' σ : Ren} {k j : Nat} (h : j < k) : Agree σ' (mixR σ' σ k) j := by simp [Agree, mixR, h]
theorem mixR_ge {σ' σ : Ren} {k j : Nat} (h : k ≤ j) : Agree σ (mixR σ' σ k) j := by simp [Agree, mixR, Nat.not_lt.2 h]
theorem dom_lt {H : AH} (hok : AH.ok P H) {b : Nat} {y : Option (Nat × Nat)} (h : Hp.dom H.get b = some y) : b < H.next := by
  rcases Nat.lt_or_ge b H.next with h1 | h1
  · exact h1
  · unfold Hp.dom at h; rw [hok.2 b h1] at h; cases h
theorem Sim.mix {H : AH} (hok : AH.ok P H) {σ' : Ren} (s : Sim P σ' H.get w) (σ : Ren) : Sim P (mixR σ' σ H.next) H.get w := by
  have hle : Ren.le σ' (Hp.dom H.get) (mixR σ' σ H.next) (Hp.dom H.get) := ⟨fun _ _ h => h, fun b y hb => mixR_lt (dom_lt hok hb)⟩
  refine ⟨fun b i t cs hb => ?_, fun b b' hb hb' hne => ?_, fun g hlt hn => ?_⟩
  · obtain ⟨C, T, fr, q1, q2⟩ := s.row b i t cs hb
    obtain ⟨g1, g2, g3⟩ := mixR_lt (σ' := σ') (σ := σ) (dom_lt hok (Hp.dom_some hb))
    exact ⟨C, T, fr, by rw [g1]; exact q1, q2.mono hle g2 g3⟩
  · obtain ⟨i, t, cs, e⟩ := hb
    obtain ⟨i2, t2, cs2, e2⟩ := hb'
    rw [(mixR_lt (σ' := σ') (σ := σ) (dom_lt hok (Hp.dom_some e))).1, (mixR_lt (σ' := σ') (σ := σ) (dom_lt hok (Hp.dom_some e2))).1]
    exact s.apart b b' ⟨_, _, _, e⟩ ⟨_, _, _, e2⟩ hne
  · have hg := s.glob g hlt hn
    obtain ⟨g1, g2, _⟩ := mixR_lt (σ' := σ') (σ := σ) (show g < H.next by have := hok.1; omega)
    rw [g1, g2]
    exact hg
theorem DInv.write {l : List Rc} {r : Rc} {hist : List (Nat × AH)} (hR : RunR P n ops A c x (r :: l) r.env r.H hist) (I : DInv P n σ X (r :: l) r.env r.H a w) (hx : X r.i = false) (hdd : ∀ q ∈ l, ∀ t, q.o.dst = some t → r.o.dst ≠ some t) {σ' : Ren} {w' : World} {v' : Value} (hS : Sim P σ' r.H'.get w') (hF : Fwd σ r.H.get w σ' r.H'.get w') (hv : VR σ' (Hp.dom r.H'.get) r.v v') :
    DInv P n (mixR σ' σ r.H'.next) X l r.env' r.H' (a.put r.o.dst v') w' := by
  have h := hR.2.2.2.1
  have hR' := hR.2.2.2.2
  have hh := I.hold
  unfold Hold at hh
  obtain ⟨_, h2⟩ := hh
  rw [if_neg (by rw [hx]; simp)] at h2
  have hle' : Ren.le σ' (Hp.dom r.H'.get) (mixR σ' σ r.H'.next) (Hp.dom r.H'.get) := ⟨fun _ _ h => h, fun b y hb => mixR_lt (dom_lt h.ok' hb)⟩
  have hle : Ren.le σ (Hp.dom r.H.get) (mixR σ' σ r.H'.next) (Hp.dom r.H'.get) := hF.le.trans hle'
  have hqid : ∀ q ∈ l, r.H'.next ≤ q.H.next := fun q hq => RunR.next hR' q hq
  have hkeep : ∀ t, r.o.dst ≠ some t → (a.put r.o.dst v').tmps[t]? = a.tmps[t]? := fun t ht => by rw [put_get, if_neg (fun e => ht e.1)]
  have hqlt : ∀ q ∈ l, X q.i = true → q.al P = true → σ.blk q.H.next < w.heap.size := fun q hq hqx hqa => by
    obtain ⟨la, lb, e⟩ := List.append_of_mem hq
    have h1 := h2
    rw [e] at h1
    have hrow := (h1.at hqx).2 hqa
    have hR2 := hR'
    rw [e] at hR2
    obtain ⟨_, i2, t2, cs2, hg2, _⟩ := (RunR.at hR2).1.alloc hqa
    obtain ⟨C, T2, fr2, q1, _⟩ := hrow i2 t2 cs2 (by rw [hg2, Hp.set_same])
    exact (Array.getElem?_eq_some_iff.1 q1).1
  refine ⟨hS.mix h.ok' σ, by rw [put_def]; exact I.defers, by rw [put_size]; exact I.size, fun t v hn hu => ?_, ?_, fun q hq hqx hqa => ?_, fun q hq => I.noW q (by simp [hq])⟩
  · rw [h.env] at hu
    split at hu
    · rename_i e
      obtain rfl := Option.some.inj hu
      rw [put_get]
      have hlt : t < a.tmps.size := by
        rw [I.size]
        have := h.dst
        rw [e] at this
        exact Nat.le_of_ble_eq_true this
      rw [if_pos ⟨e, hlt⟩]
      exact ⟨v', rfl, hv.mono hle'⟩
    · rename_i e
      rw [hkeep t e]
      obtain ⟨u, q1, q2⟩ := I.slot t v (fun q hq hqx => by
        rcases List.mem_cons.1 hq with rfl | hq
        · rw [hx] at hqx; cases hqx
        · exact hn q hq hqx) hu
      exact ⟨u, q1, q2.mono hle⟩
  · refine Hold.upd h2 hle.dom hle.ren (fun q hq _ _ => mixR_ge (hqid q hq)) (fun q hq _ t ht => hkeep t (hdd q hq t ht)) (fun q hq hqx hqa => ?_)
    exact hF.old _ (hqlt q hq hqx hqa) fun b hb => (I.apart q (by simp [hq]) hqx hqa).1 b hb
  · obtain ⟨ap1, ap2⟩ := I.apart q (by simp [hq]) hqx hqa
    rw [(mixR_ge (σ' := σ') (σ := σ) (hqid q hq)).1]
    refine ⟨fun b hb => ?_, fun q' hq' hqx' hqa' hne => ?_⟩
    · have hblt : b < r.H'.next := by
        obtain ⟨i2, t2, cs2, e⟩ := hb
        exact dom_lt h.ok' (Hp.dom_some e)
      rw [(mixR_lt (σ' := σ') (σ := σ) hblt).1]
      by_cases hn : r.H.get b = none
      · rcases hF.new b hn hb with h3 | ⟨b0, h3, _, h4⟩
        · have := hqlt q hq hqx hqa
          omega
        · rw [h4]; exact ap1 b0 h3
      · have hl := hF.was b hb hn
        obtain ⟨i2, t2, cs2, e⟩ := hl
        rw [(hF.le.ren b _ (Hp.dom_some e)).1]
        exact ap1 b ⟨_, _, _, e⟩
    · rw [(mixR_ge (σ' := σ') (σ := σ) (hqid q' hq')).1]
      exact ap2 q' (by simp [hq']) hqx' hqa' hne
end
end Go.Proofs.YtgmpcmnkcaniaaaGreatDoor

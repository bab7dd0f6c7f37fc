/-
  Regions whose order is drawn: memory since the region's start.
  Regions whose order is drawn: what the static look tells.
-/
import Derived.Test.YtdcbnkimjhefkaaGreatDoorZ25
namespace Go.Proofs.YtdcbnkimjhefkaaGreatDoor
section
variable {P : Program} {n : Nat} {ops : Array Oper} {A : List Nat} {σ0 σ : Ren} {H0 : AH} {w0 : World} {X : Nat → Bool} {a : Act} {w : World} {c : Env → AH → Option Ans} {x : Ans}
structure DFwd (P : Program) (σ0 : Ren) (H0 : AH) (w0 : World) (σ : Ren) (X : Nat → Bool) (l : List Rc) (H : AH) (w : World) : Prop where
  fwd : Fwd σ0 H0.get w0 σ H.get w
  ge : ∀ q ∈ l, X q.i = true → q.al P = true → w0.heap.size ≤ σ.blk q.H.next
theorem DFwd.absorb {r : Rc} {l : List Rc} (F : DFwd P σ0 H0 w0 σ X (r :: l) r.H w) (h : RcOk P n ops A r) (hx : X r.i = true) (hw : isW P r.o = false) : DFwd P σ0 H0 w0 σ X l r.H' w := by
  refine ⟨?_, fun q hq => F.ge q (by simp [hq])⟩
  cases ha : r.al P with
  | false => rw [h.same ha hw]; exact F.fwd
  | true =>
    obtain ⟨_, i, t, cs, hg, _⟩ := h.alloc ha
    have hlive : ∀ b, Hp.live r.H'.get b → b ≠ r.H.next → Hp.live r.H.get b := fun b hb hne => by
      obtain ⟨i', x', e, hd⟩ := hb
      rw [hg, Hp.set_other hne] at e
      exact ⟨i', x', e, hd⟩
    have hne0 : ∀ b y, Hp.dom H0.get b = some y → b ≠ r.H.next := fun b y hb e => by
      have := F.fwd.le.dom b y hb
      unfold Hp.dom at this
      rw [e, h.ok.2 _ (Nat.le_refl _)] at this
      cases this
    have hf := F.fwd
    refine ⟨hf.le.trans ⟨h.domle hw, fun _ _ _ => ⟨rfl, rfl, rfl⟩⟩, hf.old, fun b hb hl => ?_, fun b hl hn => ?_, hf.size, hf.os, hf.tape, hf.output, fun b e t2 cs2 hb => ?_⟩
    · by_cases e : b = r.H.next
      · subst e; exact .inl (F.ge r (by simp) hx ha)
      · rcases hf.new b hb (hlive b hl e) with h1 | ⟨b0, h1, h2, h3⟩
        · exact .inl h1
        · refine .inr ⟨b0, h1, fun hl0 => h2 (hlive b0 hl0 ?_), h3⟩
          obtain ⟨i', e'⟩ := h1.known
          exact hne0 b0 _ e'
    · refine hf.was b (hlive b hl ?_) hn
      cases hb : H0.get b with
      | none => exact (hn hb).elim
      | some y => exact hne0 b _ (Hp.dom_some hb)
    · obtain ⟨q1, q2⟩ := hf.ro b e t2 cs2 hb
      refine ⟨?_, q2⟩
      rw [hg, Hp.set_other (hne0 b _ (Hp.dom_some hb))]
      exact q1
theorem DFwd.early {l : List Rc} {r : Rc} {H : AH} (F : DFwd P σ0 H0 w0 σ X l H w) (hal : r.al P = false) (hin : ∀ q ∈ l, q.i = r.i → q = r) : DFwd P σ0 H0 w0 σ (addX X r.i) l H w := by
  refine ⟨F.fwd, fun q hq hqx hqa => ?_⟩
  by_cases e : q.i = r.i
  · rw [hin q hq e, hal] at hqa; cases hqa
  · exact F.ge q hq (by rw [← addX_other (X := X) e]; exact hqx) hqa
theorem DFwd.earlyA (s0 : Sim P σ0 H0.get w0) {l : List Rc} {r : Rc} {H : AH} (s : Sim P σ H.get w) (hok : AH.ok P H) (F : DFwd P σ0 H0 w0 σ X l H w) (hid : H.next ≤ r.H.next) (hqid : ∀ q ∈ l, q.i ≠ r.i → q.al P = true → q.H.next ≠ r.H.next) (hin : ∀ q ∈ l, q.i = r.i → q = r) {C : List Value} {T : TypeId} {fr : Nat × Nat} {w' : World} (hp : Push w w' C T fr) (k : Nat) :
    DFwd P σ0 H0 w0 (upR σ r.H.next w.heap.size 0 k) (addX X r.i) l H w' := by
  have hdom : ∀ b y, Hp.dom H.get b = some y → b ≠ r.H.next := fun b y hb => by have := dom_lt hok hb; omega
  have hF : Fwd σ H.get w (upR σ r.H.next w.heap.size 0 k) H.get w' := by
    refine ⟨⟨fun _ _ h => h, fun b y hb => upR_agree (hdom b y hb)⟩, fun j hj _ => ?_, fun b hb hl => ?_, fun b hl _ => hl, by rw [hp.heap]; simp, hp.os, hp.tape, hp.output, fun b e t2 cs2 hb => ⟨hb, ?_⟩⟩
    · rw [hp.heap, Array.getElem?_push_lt hj, Array.getElem?_eq_getElem hj]
    · exact (hl.not_none hb).elim
    · have hj := s.lt (.row hb)
      rw [hp.heap, Array.getElem?_push_lt hj, Array.getElem?_eq_getElem hj]
  refine ⟨Fwd.trans s0 F.fwd hF, fun q hq hqx hqa => ?_⟩
  by_cases e : q.i = r.i
  · rw [hin q hq e]
    simp only [upR, if_true]
    exact F.fwd.size
  · rw [(upR_agree (σ := σ) (hqid q hq e hqa)).1]
    exact F.ge q hq (by rw [← addX_other (X := X) e]; exact hqx) hqa
theorem DFwd.write (s0 : Sim P σ0 H0.get w0) {l : List Rc} {r : Rc} {hist : List (Nat × AH)} (hR : RunR P n ops A c x (r :: l) r.env r.H hist) (F : DFwd P σ0 H0 w0 σ X (r :: l) r.H w) {σ' : Ren} {w' : World} (hF : Fwd σ r.H.get w σ' r.H'.get w') : DFwd P σ0 H0 w0 (mixR σ' σ r.H'.next) X l r.H' w' := by
  have h := hR.2.2.2.1
  have hF2 : Fwd σ r.H.get w (mixR σ' σ r.H'.next) r.H'.get w' := by
    refine ⟨hF.le.trans ⟨fun _ _ h => h, fun b y hb => mixR_lt (dom_lt h.ok' hb)⟩, hF.old, fun b hb hl => ?_, hF.was, hF.size, hF.os, hF.tape, hF.output, hF.ro⟩
    have hlt : b < r.H'.next := by
      obtain ⟨i', e⟩ := hl.known
      exact dom_lt h.ok' e
    rw [(mixR_lt (σ' := σ') (σ := σ) hlt).1]
    exact hF.new b hb hl
  refine ⟨Fwd.trans s0 F.fwd hF2, fun q hq hqx hqa => ?_⟩
  rw [(mixR_ge (σ' := σ') (σ := σ) (RunR.next hR.2.2.2.2 q hq)).1]
  exact F.ge q (by simp [hq]) hqx hqa
end
end Go.Proofs.YtdcbnkimjhefkaaGreatDoor

namespace Go.Proofs.YtdcbnkimjhefkaaGreatDoor
section
variable {P : Program} {n : Nat} {ops : Array Oper} {A : List Nat}
/-- What has been carried out is closed under what must stand ahead. -/
def Closed (ops : Array Oper) (L : Nat → Prop) : Prop := ∀ i o, ops[i]? = some o → L i → ∀ e ∈ o.after, Region.binds .any e = true → L e.on
theorem anc_done (hA : ancOk ops A = true) {L : Nat → Prop} (hL : Closed ops L) : ∀ (i : Nat) (o : Oper), ops[i]? = some o → (∀ e ∈ o.after, Region.binds .any e = true → L e.on) → ∀ j, j < ops.size → hasBit ((nth A i).getD 0) j = true → L j := by
  intro i
  induction i using Nat.strongRecOn with
  | _ i ih =>
    intro o ho hr j hj hb
    unfold ancOk at hA
    rw [List.all_eq_true] at hA
    have h1 := hA i (List.mem_range.2 (Array.getElem?_eq_some_iff.1 ho).1)
    rw [ho] at h1
    simp only at h1
    rw [List.all_eq_true] at h1
    have h2 := h1 j (List.mem_range.2 hj)
    rw [hb] at h2
    simp only [Bool.not_true, Bool.false_or, List.any_eq_true, Bool.and_eq_true, Bool.or_eq_true] at h2
    obtain ⟨e, he, hbd, hlt, h3⟩ := h2
    have he' : e ∈ o.after := by simpa using he
    have hLe := hr e he' hbd
    have hlt' : e.on < i := Nat.le_of_ble_eq_true hlt
    rcases h3 with h3 | h3
    · rw [← Nat.eq_of_beq_eq_true h3]; exact hLe
    · have hsz : e.on < ops.size := by have := (Array.getElem?_eq_some_iff.1 ho).1; omega
      have ho2 : ops[e.on]? = some ops[e.on] := Array.getElem?_eq_getElem hsz
      exact ih e.on hlt' _ ho2 (hL _ _ ho2 hLe) j hj h3
/-- If none is ready, all have been carried out. -/
theorem all_done (hE : edgesOk ops = true) {listed : Array Bool} (hr : Region.ready .any ops listed = []) : ∀ i, i < ops.size → listed.getD i true = true := by
  intro i
  induction i using Nat.strongRecOn with
  | _ i ih =>
    intro hi
    cases hd : listed.getD i true with
    | true => rfl
    | false =>
      exfalso
      have ho : ops[i]? = some ops[i] := Array.getElem?_eq_getElem hi
      have hmem : i ∈ Region.ready .any ops listed := by
        rw [mem_ready]
        refine ⟨hd, ops[i], ho, fun e he hb => ?_⟩
        unfold edgesOk at hE
        rw [List.all_eq_true] at hE
        have h1 := hE i (List.mem_range.2 hi)
        rw [ho] at h1
        simp only at h1
        rw [List.all_eq_true] at h1
        have h2 := h1 e (by simpa using he)
        rw [hb] at h2
        simp only [Bool.not_true, Bool.false_or] at h2
        have hlt : e.on < i := Nat.le_of_ble_eq_true h2
        have h3 := ih e.on hlt (by omega)
        have hls : i < listed.size := getD_lt hd
        simp only [Array.getD_eq_getD_getElem?] at h3 ⊢
        rw [Array.getElem?_eq_getElem (by omega)] at h3 ⊢
        exact h3
      rw [hr] at hmem
      cases hmem
/-- The order, pair by pair. -/
structure PairOk (P : Program) (ops : Array Oper) (A : List Nat) (j i : Nat) (q o : Oper) : Prop where
  wr : isW P o = true → hasBit ((nth A i).getD 0) j = true
  rd : ∀ t, q.dst = some t → t ∈ o.looksAt ops → hasBit ((nth A i).getD 0) j = true
  dst : ∀ t, q.dst = some t → o.dst ≠ some t
  rdb : ∀ t, o.dst = some t → t ∈ q.looksAt ops → hasBit ((nth A i).getD 0) j = true
theorem ordOk1_inv {i j : Nat} {o q : Oper} (hq : ops[j]? = some q) (h : ordOk1 P ops A i o j = true) : PairOk P ops A j i q o := by
  unfold ordOk1 at h
  simp only [hq, Bool.and_eq_true] at h
  obtain ⟨⟨h1, h2⟩, h3⟩ := h
  refine ⟨fun hw => ?_, fun t ht hl => ?_, fun t ht => ?_, fun t ht hl => ?_⟩
  · rw [hw] at h1; simpa using h1
  · rw [ht] at h2
    simp only [Bool.and_eq_true] at h2
    have := h2.1
    rw [List.contains_iff_mem.2 hl] at this
    simpa using this
  · rw [ht] at h2
    simp only [Bool.and_eq_true] at h2
    have := h2.2
    intro e
    rw [e] at this
    simp at this
  · rw [ht] at h3
    simp only at h3
    rw [List.contains_iff_mem.2 hl] at h3
    simpa using h3
theorem ordOk_inv : ∀ {l pre : List Nat}, ordOk P ops A pre l = true → (∀ l1 i l2, l = l1 ++ i :: l2 → ∃ o, ops[i]? = some o ∧ ∀ j, j ∈ l1 ∨ j ∈ pre → ordOk1 P ops A i o j = true ∧ j ≠ i)
  | [], _, _, l1, i, l2, e => by cases l1 <;> simp at e
  | k :: l, pre, h, l1, i, l2, e => by
    unfold ordOk at h
    split at h
    · rename_i o ho
      rw [Bool.and_eq_true, Bool.and_eq_true] at h
      obtain ⟨h1, h2, h3⟩ := h
      cases l1 with
      | nil =>
        simp only [List.nil_append, List.cons.injEq] at e
        obtain ⟨rfl, rfl⟩ := e
        refine ⟨o, ho, fun j hj => ?_⟩
        rcases hj with hj | hj
        · cases hj
        · rw [List.all_eq_true] at h1
          refine ⟨h1 j hj, fun e => ?_⟩
          subst e
          have : memN j pre = true := by
            clear h1 h2 h3
            induction pre with
            | nil => cases hj
            | cons p pre ih =>
              unfold memN
              cases hb : Nat.beq j p with
              | true => rfl
              | false =>
                simp only
                rcases List.mem_cons.1 hj with rfl | hj
                · rw [Nat.beq_refl] at hb; cases hb
                · exact ih hj
          rw [this] at h2; cases h2
      | cons k' l1 =>
        simp only [List.cons_append, List.cons.injEq] at e
        obtain ⟨rfl, rfl⟩ := e
        obtain ⟨o', q1, q2⟩ := ordOk_inv h3 l1 i l2 rfl
        refine ⟨o', q1, fun j hj => q2 j ?_⟩
        rcases hj with hj | hj
        · rcases List.mem_cons.1 hj with rfl | hj
          · exact .inr (by simp)
          · exact .inl hj
        · exact .inr (by simp [hj])
    · cases h
end
end Go.Proofs.YtdcbnkimjhefkaaGreatDoor

/-
  Regions whose order is drawn: an operation that is ready, at its place.
-/
import Derived.Test.YtgmpcmnkcaniaaaGreatDoorKt
namespace Go.Proofs.YtgmpcmnkcaniaaaGreatDoor
section
variable {P : Program} {n : Nat} {ops : Array Oper} {A : List Nat} {σ : Ren} {X : Nat → Bool} {a : Act} {w : World} {c : Env → AH → Option Ans} {x : Ans}
/-- Domains grow along the records. -/
theorem place_le {l : List Rc} {env : Env} {H : AH} {hist : List (Nat × AH)} (hR : RunR P n ops A c x l env H hist) (hok : AH.ok P H) {la lb lc : List Rc} (e : l = la ++ (lb ++ lc)) : ∀ b y, DX P X la (Hp.dom H.get) b = some y → DX P X (la ++ lb) (Hp.dom H.get) b = some y := by
  intro b y hb
  rw [DX_append]
  refine DX_le (fun r hr b hb => ?_) (fun l1 r l2 e2 q hq => ?_) b y hb
  · obtain ⟨lb1, lb2, rfl⟩ := List.append_of_mem hr
    cases hd : DX P X la (Hp.dom H.get) b with
    | none => exact (hb hd).elim
    | some y =>
      rcases DX_mem hd with h1 | ⟨l1, q, l2, e1, _, e3, e4, _⟩
      · have h2 : b < H.next := by
          rcases Nat.lt_or_ge b H.next with h | h
          · exact h
          · unfold Hp.dom at h1; rw [hok.2 b h] at h1; cases h1
        have := RunR.next hR r (by rw [e]; simp)
        omega
      · subst e1
        have hl : l = l1 ++ q :: (l2 ++ ((lb1 ++ r :: lb2) ++ lc)) := by rw [e]; simp
        rw [hl] at hR
        rcases RunR.ids hR r (by simp) with h | h
        · omega
        · rw [e3] at h; cases h
  · subst e2
    have hl : l = (la ++ l1) ++ r :: (l2 ++ lc) := by rw [e]; simp
    rw [hl] at hR
    exact RunR.ids hR q (by simp [hq])
theorem Hold.at {l1 l2 : List Rc} {q : Rc} {D : Dom} (h : Hold P σ X a w (l1 ++ q :: l2) D) (hx : X q.i = true) : SlotAt σ a (DX P X (l1 ++ [q]) D) q ∧ (q.al P = true → RowAt σ w (DX P X (l1 ++ [q]) D) q) := by
  have := (Hold.append.1 h).2
  unfold Hold at this
  have h2 := this.1 hx
  rw [DX_append]
  show SlotAt σ a (DX P X [] (if X q.i = true then extD P q (DX P X l1 D) else DX P X l1 D)) q ∧ (q.al P = true → RowAt σ w (DX P X [] (if X q.i = true then extD P q (DX P X l1 D) else DX P X l1 D)) q)
  rw [if_pos hx]
  exact h2
/-- The operands of a record's operation, where it is ready. -/
theorem DInv.rels {l1 l2 : List Rc} {r : Rc} {env : Env} {H : AH} {hist : List (Nat × AH)} (hR : RunR P n ops A c x (l1 ++ r :: l2) env H hist) (hok : AH.ok P H) (I : DInv P n σ X (l1 ++ r :: l2) env H a w) (hx : X r.i = false)
    (h1 : ∀ q ∈ l1, ∀ t, q.o.dst = some t → t ∈ r.o.looksAt ops → X q.i = true) (h2 : ∀ q ∈ l2, ∀ t, q.o.dst = some t → t ∈ r.o.looksAt ops → X q.i = false) (Hx : AH) :
    Rels (ev1 P r.envr Hx) σ (DX P X l1 (Hp.dom H.get)) a.eval ∧ ∀ t u, r.envr.get t = some u → ∃ v', a.tmps[t]? = some v' ∧ VR σ (DX P X l1 (Hp.dom H.get)) u v' := by
  have hr := (RunR.at hR).1
  have hle0 : Ren.le σ (Hp.dom H.get) σ (DX P X l1 (Hp.dom H.get)) := ⟨place_le (la := []) (lb := l1) (lc := r :: l2) hR hok rfl, fun _ _ _ => ⟨rfl, rfl, rfl⟩⟩
  have slots : ∀ t u, r.envr.get t = some u → ∃ v', a.tmps[t]? = some v' ∧ VR σ (DX P X l1 (Hp.dom H.get)) u v' := by
    intro t u hu
    obtain ⟨hlk, hu2⟩ := hr.part t u hu
    rcases RunR.env_at hR t u hu2 with ⟨la, q, lb, e1, e2, e3⟩ | ⟨e1, e2⟩
    · have hqx := h1 q (by rw [e1]; simp) t e2 hlk
      subst e1
      have hh := I.hold
      rw [show (la ++ q :: lb) ++ r :: l2 = la ++ q :: (lb ++ r :: l2) by simp] at hh
      obtain ⟨v', q1, q2⟩ := (hh.at hqx).1 t e2
      refine ⟨v', q1, ?_⟩
      rw [e3]
      refine q2.mono ⟨?_, fun _ _ _ => ⟨rfl, rfl, rfl⟩⟩
      have := place_le (X := X) (la := la ++ [q]) (lb := lb) (lc := r :: l2) hR hok (by simp)
      rw [show (la ++ [q]) ++ lb = la ++ q :: lb by simp] at this
      exact this
    · obtain ⟨v', q1, q2⟩ := I.slot t u (fun q hq hqx => by
        rcases List.mem_append.1 hq with hq | hq
        · exact e1 q hq
        · rcases List.mem_cons.1 hq with rfl | hq
          · rw [hx] at hqx; cases hqx
          · intro e
            rw [h2 q hq t e hlk] at hqx
            cases hqx) e2
      exact ⟨v', q1, q2.mono hle0⟩
  refine ⟨fun y u hy => ?_, slots⟩
  unfold ev1 at hy
  split at hy
  · rename_i t
    obtain ⟨v', q1, q2⟩ := slots t u hy
    show VR σ _ u (a.tmps.getD t undef)
    rw [Array.getD_eq_getD_getElem?, q1]
    exact q2
  · rename_i v
    split at hy
    · rename_i hat
      obtain rfl := Option.some.inj hy
      exact .of_atomV hat
    · cases hy
  · rename_i g
    split at hy
    · rename_i b hb hlt
      obtain rfl := Option.some.inj hy
      have hlt' : g < P.globals.size := Nat.le_of_ble_eq_true hlt
      have hg := I.sim.glob g hlt' (hok.gl g hlt')
      cases hgg : H.get g with
      | none => exact (hok.gl g hlt' hgg).elim
      | some bb =>
        have := VR.ptr (σ := σ) (D := DX P X l1 (Hp.dom H.get)) ⟨g, 0, none⟩ bb.opn (hle0.dom g _ (Hp.dom_some hgg)) rfl
        unfold Ren.addr at this
        simp only [hg.1, hg.2] at this
        exact this
    · cases hy
  · obtain rfl := Option.some.inj hy
    exact .func _ _ _ _ _ .nil .nil
/-- A block that is read: it lies in the world. -/
theorem DInv.row {l1 l2 : List Rc} {r : Rc} {env : Env} {H : AH} {hist : List (Nat × AH)} (hR : RunR P n ops A c x (l1 ++ r :: l2) env H hist) (hok : AH.ok P H) (I : DInv P n σ X (l1 ++ r :: l2) env H a w) {la lb : List Rc} {q : Rc} (e : l1 ++ r :: l2 = la ++ q :: lb) (hla : ∃ lz, l1 = la ++ lz) (hw : ∀ p ∈ la, isW P p.o = false) {b : Nat} {i : Option (Nat × Nat)} {t : TypeId} {cs : List Value} (hb : q.H.get b = some ⟨i, .cells t cs⟩)
    (hd : DX P X l1 (Hp.dom H.get) b ≠ none) : DX P X l1 (Hp.dom H.get) b = some i ∧ ∃ C T fr, w.heap[σ.blk b]? = some (.cells C T fr) ∧ Row σ (DX P X l1 (Hp.dom H.get)) b i cs C fr := by
  have hle0 : Ren.le σ (Hp.dom H.get) σ (DX P X l1 (Hp.dom H.get)) := ⟨place_le (la := []) (lb := l1) (lc := r :: l2) hR hok rfl, fun _ _ _ => ⟨rfl, rfl, rfl⟩⟩
  have hR2 := hR
  rw [e] at hR2
  rcases RunR.heap_at hR2 hw b _ hb with h0 | ⟨lc, p, ld, e1, e2, e3, e4⟩
  · obtain ⟨C, T, fr, q1, q2⟩ := I.sim.row b i t cs h0
    exact ⟨hle0.dom b i (Hp.dom_some h0), C, T, fr, q1, q2.mono hle0 rfl rfl⟩
  · cases hdd : DX P X l1 (Hp.dom H.get) b with
    | none => exact (hd hdd).elim
    | some y =>
      rcases DX_mem hdd with h1 | ⟨le, p', lf, g1, g2, g3, g4, g5⟩
      · exfalso
        have h2 : b < H.next := by
          rcases Nat.lt_or_ge b H.next with h | h
          · exact h
          · unfold Hp.dom at h1; rw [hok.2 b h] at h1; cases h1
        have := RunR.next hR2 p (by rw [e1]; simp)
        omega
      · obtain ⟨lz, rfl⟩ := hla
        obtain ⟨k1, k2, k3⟩ := RunR.id_inj hR (la := le) (q := p') (lb := lf ++ r :: l2) (lc := lc) (q' := p) (ld := ld ++ (lz ++ r :: l2)) (by rw [g1]; simp) (by rw [e1]; simp) g3 e2 (by rw [g4, e3])
        subst k2
        have hh := I.hold
        rw [g1, show (le ++ p' :: lf) ++ r :: l2 = le ++ p' :: (lf ++ r :: l2) by simp] at hh
        have hrow := (hh.at g2).2 g3
        have hy : y = i := by
          unfold Hp.dom at g5
          rw [e4] at g5
          exact (Option.some.inj g5).symm
        subst hy
        rw [← g4] at e4 ⊢
        obtain ⟨C, T, fr, q1, q2⟩ := hrow _ _ _ e4
        refine ⟨rfl, C, T, fr, q1, q2.mono ⟨?_, fun _ _ _ => ⟨rfl, rfl, rfl⟩⟩ rfl rfl⟩
        have := place_le (X := X) (la := le ++ [p']) (lb := lf) (lc := r :: l2) hR hok (by rw [g1]; simp)
        rw [show (le ++ [p']) ++ lf = le ++ p' :: lf by simp, ← g1] at this
        exact this
end
end Go.Proofs.YtgmpcmnkcaniaaaGreatDoor

/-
  Regions whose order is drawn: what the records say of frames and memory at a place.
  Regions whose order is drawn: an operation that is ready, at its place.
  Regions whose order is drawn: an operation is carried out early.
-/
import Derived.Test.YtdcbnkimjhefkaaGreatDoorZ23
namespace Go.Proofs.YtdcbnkimjhefkaaGreatDoor
section
variable {P : Program} {n : Nat} {ops : Array Oper} {A : List Nat} {σ : Ren} {X : Nat → Bool} {a : Act} {w : World} {c : Env → AH → Option Ans} {x : Ans}
/-- The records from a place on. -/
theorem RunR.at : ∀ {l1 l2 : List Rc} {r : Rc} {env : Env} {H : AH} {hist : List (Nat × AH)}, RunR P n ops A c x (l1 ++ r :: l2) env H hist → RcOk P n ops A r ∧ ∃ hist', RunR P n ops A c x (r :: l2) r.env r.H hist'
  | [], l2, r, env, H, hist, h => ⟨h.2.2.2.1, hist, rfl, rfl, h.2.2.1, h.2.2.2.1, by have := h.2.2.2.2; rw [← h.2.1] at this; exact this⟩
  | q :: l1, l2, r, env, H, hist, h => RunR.at h.2.2.2.2
/-- A frame's slot at a place: what an operation ahead wrote, or what it was. -/
theorem RunR.env_at : ∀ {l1 l2 : List Rc} {r : Rc} {env : Env} {H : AH} {hist : List (Nat × AH)}, RunR P n ops A c x (l1 ++ r :: l2) env H hist → ∀ t u, r.env.get t = some u →
    (∃ la q lb, l1 = la ++ q :: lb ∧ q.o.dst = some t ∧ u = q.v) ∨ ((∀ q ∈ l1, q.o.dst ≠ some t) ∧ env.get t = some u)
  | [], l2, r, env, H, hist, h, t, u, hu => by
    right
    refine ⟨fun q hq => (by cases hq), ?_⟩
    rw [← h.1]; exact hu
  | q :: l1, l2, r, env, H, hist, h, t, u, hu => by
    obtain ⟨h1, h2, h3, h4, h5⟩ := h
    rcases RunR.env_at h5 t u hu with ⟨la, q', lb, e1, e2, e3⟩ | ⟨e1, e2⟩
    · exact .inl ⟨q :: la, q', lb, by rw [e1]; rfl, e2, e3⟩
    · rw [h4.env] at e2
      split at e2
      · rename_i e
        exact .inl ⟨[], q, l1, rfl, e, (Option.some.inj e2).symm⟩
      · rename_i e
        refine .inr ⟨fun q' hq' => ?_, by rw [← h1]; exact e2⟩
        rcases List.mem_cons.1 hq' with rfl | hq'
        · exact e
        · exact e1 q' hq'
/-- Memory at a place with no writer ahead: what it was, or a row laid ahead. -/
theorem RunR.heap_at : ∀ {l1 l2 : List Rc} {r : Rc} {env : Env} {H : AH} {hist : List (Nat × AH)}, RunR P n ops A c x (l1 ++ r :: l2) env H hist → (∀ q ∈ l1, isW P q.o = false) → ∀ b blk, r.H.get b = some blk →
    H.get b = some blk ∨ ∃ la q lb, l1 = la ++ q :: lb ∧ q.al P = true ∧ q.H.next = b ∧ q.H'.get b = some blk
  | [], l2, r, env, H, hist, h, _, b, blk, hb => by
    left
    rw [← h.2.1]; exact hb
  | q :: l1, l2, r, env, H, hist, h, hw, b, blk, hb => by
    obtain ⟨h1, h2, h3, h4, h5⟩ := h
    rcases RunR.heap_at h5 (fun q' hq' => hw q' (by simp [hq'])) b blk hb with e | ⟨la, q', lb, e1, e2, e3, e4⟩
    · cases ha : q.al P with
      | false =>
        rw [h4.same ha (hw q (by simp)), h2] at e
        exact .inl e
      | true =>
        by_cases hbn : b = q.H.next
        · exact .inr ⟨[], q, l1, rfl, ha, hbn.symm, e⟩
        · obtain ⟨_, i, t, cs, hg, _⟩ := h4.alloc ha
          rw [hg, Hp.set_other hbn, h2] at e
          exact .inl e
    · exact .inr ⟨q :: la, q', lb, by rw [e1]; rfl, e2, e3, e4⟩
/-- Numbers of rows grow along the records. -/
theorem RunR.ids {l1 l2 : List Rc} {r : Rc} {env : Env} {H : AH} {hist : List (Nat × AH)} (h : RunR P n ops A c x (l1 ++ r :: l2) env H hist) : ∀ q ∈ l2, r.H.next < q.H.next ∨ r.al P = false := by
  intro q hq
  obtain ⟨h1, hist', h2⟩ := RunR.at h
  cases ha : r.al P with
  | false => exact .inr rfl
  | true =>
    left
    obtain ⟨e1, _⟩ := h1.alloc ha
    have := RunR.next h2.2.2.2.2 q hq
    omega
/-- A row's number tells the record. -/
theorem RunR.id_inj {l : List Rc} {env : Env} {H : AH} {hist : List (Nat × AH)} (h : RunR P n ops A c x l env H hist) {la lb lc ld : List Rc} {q q' : Rc} (e : l = la ++ q :: lb) (e' : l = lc ++ q' :: ld) (ha : q.al P = true) (ha' : q'.al P = true) (hid : q.H.next = q'.H.next) : la = lc ∧ q = q' ∧ lb = ld := by
  subst e
  rcases Nat.lt_trichotomy la.length lc.length with hlt | heq | hgt
  · have hq : q' ∈ lb := by
      have h1 : (la ++ q :: lb)[lc.length]? = some q' := by rw [e']; simp
      rw [List.getElem?_append_right (by omega)] at h1
      have : lc.length - la.length = (lc.length - la.length - 1) + 1 := by omega
      rw [this, List.getElem?_cons_succ] at h1
      exact List.mem_of_getElem? h1
    rcases RunR.ids h q' hq with h2 | h2
    · omega
    · rw [ha] at h2; cases h2
  · have := List.append_inj e' heq
    obtain ⟨e1, e2⟩ := this
    rw [List.cons.injEq] at e2
    exact ⟨e1, e2.1, e2.2⟩
  · rw [e'] at h
    have hq : q ∈ ld := by
      have h1 : (lc ++ q' :: ld)[la.length]? = some q := by rw [← e']; simp
      rw [List.getElem?_append_right (by omega)] at h1
      have : la.length - lc.length = (la.length - lc.length - 1) + 1 := by omega
      rw [this, List.getElem?_cons_succ] at h1
      exact List.mem_of_getElem? h1
    rcases RunR.ids h q hq with h2 | h2
    · omega
    · rw [ha'] at h2; cases h2
/-- The domain at a place: what was there, or a row laid early. -/
theorem DX_mem : ∀ {l : List Rc} {D : Dom} {b : Nat} {y : Option (Nat × Nat)}, DX P X l D b = some y → D b = some y ∨ ∃ la q lb, l = la ++ q :: lb ∧ X q.i = true ∧ q.al P = true ∧ q.H.next = b ∧ Hp.dom q.H'.get b = some y
  | [], _, _, _, h => .inl h
  | r :: l, D, b, y, h => by
    unfold DX at h
    rcases DX_mem h with e | ⟨la, q, lb, e1, e2⟩
    · split at e
      · rename_i hx
        unfold extD at e
        split at e
        · rename_i ha
          simp only at e
          split at e
          · rename_i hb; exact .inr ⟨[], r, l, rfl, hx, ha, hb.symm, e⟩
          · exact .inl e
        · exact .inl e
      · exact .inl e
    · exact .inr ⟨r :: la, q, lb, by rw [e1]; rfl, e2⟩
theorem DX_append : ∀ {l1 l2 : List Rc} {D : Dom}, DX P X (l1 ++ l2) D = DX P X l2 (DX P X l1 D)
  | [], _, _ => rfl
  | r :: l1, l2, D => by
    rw [List.cons_append]
    show DX P X (l1 ++ l2) _ = DX P X l2 (DX P X l1 _)
    exact DX_append
end
end Go.Proofs.YtdcbnkimjhefkaaGreatDoor

namespace Go.Proofs.YtdcbnkimjhefkaaGreatDoor
section
variable {P : Program} {n : Nat} {ops : Array Oper} {A : List Nat} {σ : Ren} {X : Nat → Bool} {a : Act} {w : World} {c : Env → AH → Option Ans} {x : Ans}
/-- Domains grow along the records. -/
theorem place_le {l : List Rc} {env : Env} {H : AH} {hist : List (Nat × AH)} (hR : RunR P n ops A c x l env H hist) (hok : AH.ok P H) {la lb lc : List Rc} (e : l = la ++ (lb ++ lc)) : ∀ b y, DX P X la (Hp.dom H.get) b = some y → DX P X (la ++ lb) (Hp.dom H.get) b = some y := by
  intro b y hb
  rw [DX_append]
  refine DX_le (fun r hr b hb => ?_) (fun l1 r l2 e2 q hq => ?_) b y hb
  · obtain ⟨lb1, lb2, rfl⟩ := List.append_of_mem hr
    cases hd : DX P X la (Hp.dom H.get) b with
    | none => exact (hb hd).elim
    | some y =>
      rcases DX_mem hd with h1 | ⟨l1, q, l2, e1, _, e3, e4, _⟩
      · have h2 : b < H.next := by
          rcases Nat.lt_or_ge b H.next with h | h
          · exact h
          · unfold Hp.dom at h1; rw [hok.2 b h] at h1; cases h1
        have := RunR.next hR r (by rw [e]; simp)
        omega
      · subst e1
        have hl : l = l1 ++ q :: (l2 ++ ((lb1 ++ r :: lb2) ++ lc)) := by rw [e]; simp
        rw [hl] at hR
        rcases RunR.ids hR r (by simp) with h | h
        · omega
        · rw [e3] at h; cases h
  · subst e2
    have hl : l = (la ++ l1) ++ r :: (l2 ++ lc) := by rw [e]; simp
    rw [hl] at hR
    exact RunR.ids hR q (by simp [hq])
theorem Hold.at {l1 l2 : List Rc} {q : Rc} {D : Dom} (h : Hold P σ X a w (l1 ++ q :: l2) D) (hx : X q.i = true) : SlotAt σ a (DX P X (l1 ++ [q]) D) q ∧ (q.al P = true → RowAt σ w (DX P X (l1 ++ [q]) D) q) := by
  have := (Hold.append.1 h).2
  unfold Hold at this
  have h2 := this.1 hx
  rw [DX_append]
  show SlotAt σ a (DX P X [] (if X q.i = true then extD P q (DX P X l1 D) else DX P X l1 D)) q ∧ (q.al P = true → RowAt σ w (DX P X [] (if X q.i = true then extD P q (DX P X l1 D) else DX P X l1 D)) q)
  rw [if_pos hx]
  exact h2
/-- The operands of a record's operation, where it is ready. -/
theorem DInv.rels {l1 l2 : List Rc} {r : Rc} {env : Env} {H : AH} {hist : List (Nat × AH)} (hR : RunR P n ops A c x (l1 ++ r :: l2) env H hist) (hok : AH.ok P H) (I : DInv P n σ X (l1 ++ r :: l2) env H a w) (hx : X r.i = false)
    (h1 : ∀ q ∈ l1, ∀ t, q.o.dst = some t → t ∈ r.o.looksAt ops → X q.i = true) (h2 : ∀ q ∈ l2, ∀ t, q.o.dst = some t → t ∈ r.o.looksAt ops → X q.i = false) (Hx : AH) :
    Rels (ev1 P r.envr Hx) σ (DX P X l1 (Hp.dom H.get)) a.eval ∧ ∀ t u, r.envr.get t = some u → ∃ v', a.tmps[t]? = some v' ∧ VR σ (DX P X l1 (Hp.dom H.get)) u v' := by
  have hr := (RunR.at hR).1
  have hle0 : Ren.le σ (Hp.dom H.get) σ (DX P X l1 (Hp.dom H.get)) := ⟨place_le (la := []) (lb := l1) (lc := r :: l2) hR hok rfl, fun _ _ _ => ⟨rfl, rfl, rfl⟩⟩
  have slots : ∀ t u, r.envr.get t = some u → ∃ v', a.tmps[t]? = some v' ∧ VR σ (DX P X l1 (Hp.dom H.get)) u v' := by
    intro t u hu
    obtain ⟨hlk, hu2⟩ := hr.part t u hu
    rcases RunR.env_at hR t u hu2 with ⟨la, q, lb, e1, e2, e3⟩ | ⟨e1, e2⟩
    · have hqx := h1 q (by rw [e1]; simp) t e2 hlk
      subst e1
      have hh := I.hold
      rw [show (la ++ q :: lb) ++ r :: l2 = la ++ q :: (lb ++ r :: l2) by simp] at hh
      obtain ⟨v', q1, q2⟩ := (hh.at hqx).1 t e2
      refine ⟨v', q1, ?_⟩
      rw [e3]
      refine q2.mono ⟨?_, fun _ _ _ => ⟨rfl, rfl, rfl⟩⟩
      have := place_le (X := X) (la := la ++ [q]) (lb := lb) (lc := r :: l2) hR hok (by simp)
      rw [show (la ++ [q]) ++ lb = la ++ q :: lb by simp] at this
      exact this
    · obtain ⟨v', q1, q2⟩ := I.slot t u (fun q hq hqx => by
        rcases List.mem_append.1 hq with hq | hq
        · exact e1 q hq
        · rcases List.mem_cons.1 hq with rfl | hq
          · rw [hx] at hqx; cases hqx
          · intro e
            rw [h2 q hq t e hlk] at hqx
            cases hqx) e2
      exact ⟨v', q1, q2.mono hle0⟩
  refine ⟨fun y u hy => ?_, slots⟩
  unfold ev1 at hy
  split at hy
  · rename_i t
    obtain ⟨v', q1, q2⟩ := slots t u hy
    show VR σ _ u (a.tmps.getD t undef)
    rw [Array.getD_eq_getD_getElem?, q1]
    exact q2
  · rename_i v
    split at hy
    · rename_i hat
      obtain rfl := Option.some.inj hy
      exact .of_atomV hat
    · cases hy
  · rename_i g
    split at hy
    · rename_i b hb hlt
      obtain rfl := Option.some.inj hy
      have hlt' : g < P.globals.size := Nat.le_of_ble_eq_true hlt
      have hg := I.sim.glob g hlt' (hok.gl g hlt')
      cases hgg : H.get g with
      | none => exact (hok.gl g hlt' hgg).elim
      | some bb =>
        have := VR.ptr (σ := σ) (D := DX P X l1 (Hp.dom H.get)) ⟨g, 0, none⟩ bb.opn (hle0.dom g _ (Hp.dom_some hgg)) rfl
        unfold Ren.addr at this
        simp only [hg.1, hg.2] at this
        exact this
    · cases hy
  · obtain rfl := Option.some.inj hy
    exact .func _ _ _ _ _ .nil .nil
/-- A block that is read: it lies in the world. -/
theorem DInv.row {l1 l2 : List Rc} {r : Rc} {env : Env} {H : AH} {hist : List (Nat × AH)} (hR : RunR P n ops A c x (l1 ++ r :: l2) env H hist) (hok : AH.ok P H) (I : DInv P n σ X (l1 ++ r :: l2) env H a w) {la lb : List Rc} {q : Rc} (e : l1 ++ r :: l2 = la ++ q :: lb) (hla : ∃ lz, l1 = la ++ lz) (hw : ∀ p ∈ la, isW P p.o = false) {b : Nat} {i : Option (Nat × Nat)} {t : TypeId} {cs : List Value} (hb : q.H.get b = some ⟨i, .cells t cs⟩)
    (hd : DX P X l1 (Hp.dom H.get) b ≠ none) : DX P X l1 (Hp.dom H.get) b = some i ∧ ∃ C T fr, w.heap[σ.blk b]? = some (.cells C T fr) ∧ Row σ (DX P X l1 (Hp.dom H.get)) b i t cs C T fr := by
  have hle0 : Ren.le σ (Hp.dom H.get) σ (DX P X l1 (Hp.dom H.get)) := ⟨place_le (la := []) (lb := l1) (lc := r :: l2) hR hok rfl, fun _ _ _ => ⟨rfl, rfl, rfl⟩⟩
  have hR2 := hR
  rw [e] at hR2
  rcases RunR.heap_at hR2 hw b _ hb with h0 | ⟨lc, p, ld, e1, e2, e3, e4⟩
  · obtain ⟨C, T, fr, q1, q2⟩ := I.sim.row b i t cs h0
    exact ⟨hle0.dom b i (Hp.dom_some h0), C, T, fr, q1, q2.mono2 hle0 rfl rfl⟩
  · cases hdd : DX P X l1 (Hp.dom H.get) b with
    | none => exact (hd hdd).elim
    | some y =>
      rcases DX_mem hdd with h1 | ⟨le, p', lf, g1, g2, g3, g4, g5⟩
      · exfalso
        have h2 : b < H.next := by
          rcases Nat.lt_or_ge b H.next with h | h
          · exact h
          · unfold Hp.dom at h1; rw [hok.2 b h] at h1; cases h1
        have := RunR.next hR2 p (by rw [e1]; simp)
        omega
      · obtain ⟨lz, rfl⟩ := hla
        obtain ⟨k1, k2, k3⟩ := RunR.id_inj hR (la := le) (q := p') (lb := lf ++ r :: l2) (lc := lc) (q' := p) (ld := ld ++ (lz ++ r :: l2)) (by rw [g1]; simp) (by rw [e1]; simp) g3 e2 (by rw [g4, e3])
        subst k2
        have hh := I.hold
        rw [g1, show (le ++ p' :: lf) ++ r :: l2 = le ++ p' :: (lf ++ r :: l2) by simp] at hh
        have hrow := (hh.at g2).2 g3
        have hy : y = i := by
          unfold Hp.dom at g5
          rw [e4] at g5
          exact (Option.some.inj g5).symm
        subst hy
        rw [← g4] at e4 ⊢
        obtain ⟨C, T, fr, q1, q2⟩ := hrow _ _ _ e4
        refine ⟨rfl, C, T, fr, q1, q2.mono2 ⟨?_, fun _ _ _ => ⟨rfl, rfl, rfl⟩⟩ rfl rfl⟩
        have := place_le (X := X) (la := le ++ [p']) (lb := lf) (lc := r :: l2) hR hok (by rw [g1]; simp)
        rw [show (le ++ [p']) ++ lf = le ++ p' :: lf by simp, ← g1] at this
        exact this
end
end Go.Proofs.YtdcbnkimjhefkaaGreatDoor

namespace Go.Proofs.YtdcbnkimjhefkaaGreatDoor
section
variable {P : Program} {n : Nat} {ops : Array Oper} {A : List Nat} {σ : Ren} {X : Nat → Bool} {a : Act} {w : World} {c : Env → AH → Option Ans} {x : Ans}
def addX (X : Nat → Bool) (i : Nat) : Nat → Bool := fun j => X j || Nat.beq j i
theorem addX_self (X : Nat → Bool) (i : Nat) : addX X i i = true := by simp [addX]
theorem addX_other {X : Nat → Bool} {i j : Nat} (h : j ≠ i) : addX X i j = X j := by
  unfold addX
  cases hb : Nat.beq j i with
  | false => simp
  | true => exact (h (Nat.eq_of_beq_eq_true hb)).elim
/-- An operation that lays no row and writes no memory. -/
theorem DInv.early {l1 l2 : List Rc} {r : Rc} {env : Env} {H : AH} (I : DInv P n σ X (l1 ++ r :: l2) env H a w) (hal : r.al P = false) (hw : isW P r.o = false) (hnd : ∀ q ∈ l1 ++ l2, q.i ≠ r.i) (hdd : ∀ q ∈ l1 ++ l2, ∀ t, q.o.dst = some t → r.o.dst ≠ some t) (hdst : decDst n r.o.dst = true) {v' : Value} (hv : VR σ (DX P X l1 (Hp.dom H.get)) r.v v') :
    DInv P n σ (addX X r.i) (l1 ++ r :: l2) env H (a.put r.o.dst v') w := by
  have hmem : ∀ q ∈ l1 ++ r :: l2, q = r ∨ (q ∈ l1 ++ l2 ∧ addX X r.i q.i = X q.i) := fun q hq => by
    rcases List.mem_append.1 hq with hq | hq
    · exact .inr ⟨by simp [hq], addX_other (hnd q (by simp [hq]))⟩
    · rcases List.mem_cons.1 hq with rfl | hq
      · exact .inl rfl
      · exact .inr ⟨by simp [hq], addX_other (hnd q (by simp [hq]))⟩
  have hkeep : ∀ t, r.o.dst ≠ some t → (a.put r.o.dst v').tmps[t]? = a.tmps[t]? := fun t ht => by rw [put_get, if_neg (fun e => ht e.1)]
  have c1 : ∀ q ∈ l1, addX X r.i q.i = X q.i := fun q hq => addX_other (hnd q (by simp [hq]))
  have c2 : ∀ q ∈ l2, addX X r.i q.i = X q.i := fun q hq => addX_other (hnd q (by simp [hq]))
  refine ⟨I.sim, by rw [put_def]; exact I.defers, by rw [put_size]; exact I.size, fun t v hn hv => ?_, ?_, fun q hq hqx hqa => ?_, fun q hq hqx => ?_⟩
  · have hrt : r.o.dst ≠ some t := hn r (by simp) (addX_self X r.i)
    rw [hkeep t hrt]
    refine I.slot t v (fun q hq hqx => ?_) hv
    rcases hmem q hq with rfl | ⟨_, e⟩
    · exact hrt
    · exact hn q hq (by rw [e]; exact hqx)
  · obtain ⟨g1, g2⟩ := Hold.append.1 I.hold
    unfold Hold at g2
    refine Hold.append.2 ⟨?_, ?_⟩
    · refine Hold.congr c1 (Hold.upd g1 (fun _ _ h => h) (fun _ _ _ => ⟨rfl, rfl, rfl⟩) (fun _ _ _ _ => ⟨rfl, rfl, rfl⟩) (fun q hq _ t ht => hkeep t (hdd q (by simp [hq]) t ht)) (fun _ _ _ _ => rfl))
    · rw [DX.congr c1]
      have hext : extD P r (DX P X l1 (Hp.dom H.get)) = DX P X l1 (Hp.dom H.get) := by unfold extD; rw [if_neg (by rw [hal]; simp)]
      unfold Hold
      rw [hext]
      refine ⟨fun _ => ⟨fun t ht => ⟨v', ?_, hv⟩, fun h => (by rw [hal] at h; cases h)⟩, ?_⟩
      · rw [put_get]
        have hlt : t < a.tmps.size := by
          rw [I.size]
          rw [ht] at hdst
          exact Nat.le_of_ble_eq_true hdst
        rw [if_pos ⟨ht, hlt⟩]
      · have g3 := g2.2
        rw [hext] at g3
        have e1 : (if X r.i = true then DX P X l1 (Hp.dom H.get) else DX P X l1 (Hp.dom H.get)) = DX P X l1 (Hp.dom H.get) := by split <;> rfl
        have e2 : (if addX X r.i r.i = true then DX P X l1 (Hp.dom H.get) else DX P X l1 (Hp.dom H.get)) = DX P X l1 (Hp.dom H.get) := by split <;> rfl
        rw [e1] at g3
        rw [e2]
        exact Hold.congr c2 (Hold.upd g3 (fun _ _ h => h) (fun _ _ _ => ⟨rfl, rfl, rfl⟩) (fun _ _ _ _ => ⟨rfl, rfl, rfl⟩) (fun q hq _ t ht => hkeep t (hdd q (by simp [hq]) t ht)) (fun _ _ _ _ => rfl))
  · rcases hmem q hq with rfl | ⟨_, e⟩
    · rw [hal] at hqa; cases hqa
    · obtain ⟨ap1, ap2⟩ := I.apart q hq (by rw [← e]; exact hqx) hqa
      refine ⟨ap1, fun q' hq' hqx' hqa' hne => ?_⟩
      rcases hmem q' hq' with rfl | ⟨_, e'⟩
      · rw [hal] at hqa'; cases hqa'
      · exact ap2 q' hq' (by rw [← e']; exact hqx') hqa' hne
  · rcases hmem q hq with rfl | ⟨_, e⟩
    · exact hw
    · exact I.noW q hq (by rw [← e]; exact hqx)
end
end Go.Proofs.YtdcbnkimjhefkaaGreatDoor

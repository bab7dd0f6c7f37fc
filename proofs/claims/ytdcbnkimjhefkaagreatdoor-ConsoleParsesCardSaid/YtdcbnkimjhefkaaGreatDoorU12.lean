/-
 Regions whose order is drawn: what the records say of frames and memory at a place.
 Regions whose order is drawn: an operation that is ready, at its place.
 Regions whose order is drawn: an operation is carried out early.
 Regions whose order is drawn: an operation that lays a row is carried out early.
 Regions whose order is drawn: the writer that stands next.
 Regions whose order is drawn: memory since the region's start.
 Regions whose order is drawn: what the static look tells.
-/
import Derived.Test.YtdcbnkimjhefkaaGreatDoorU11
namespace Go.Proofs.YtdcbnkimjhefkaaGreatDoor
section
variable {P : Program} {n : Nat} {ops : Array Oper} {A : List Nat} {σ : Ren} {X : Nat → Bool} {a : Act} {w : World} {c : Env → AH → Option Ans} {x : Ans}
theorem RunR.at : ∀ {l1 l2 : List Rc} {r : Rc} {env : Env} {H : AH} {hist : List (Nat × AH)}, RunR P n ops A c x (l1 ++ r :: l2) env H hist → RcOk P n ops A r ∧ ∃ hist', RunR P n ops A c x (r :: l2) r.env r.H hist'
 | [], l2, r, env, H, hist, h => ⟨h.2.2.2.1, hist, rfl, rfl, h.2.2.1, h.2.2.2.1, by have := h.2.2.2.2; rw [← h.2.1] at this; exact this⟩
 | q :: l1, l2, r, env, H, hist, h => RunR.at h.2.2.2.2
theorem RunR.env_at : ∀ {l1 l2 : List Rc} {r : Rc} {env : Env} {H : AH} {hist : List (Nat × AH)}, RunR P n ops A c x (l1 ++ r :: l2) env H hist → ∀ t u, r.env.get t = some u →
  (∃ la q lb, l1 = la ++ q :: lb ∧ q.o.dst = some t ∧ u = q.v) ∨ ((∀ q ∈ l1, q.o.dst ≠ some t) ∧ env.get t = some u)
 | [], l2, r, env, H, hist, h, t, u, hu => by
  right
  refine ⟨fun q hq => (by cases hq), ?_⟩
  rw [← h.1]; exact hu
 | q :: l1, l2, r, env, H, hist, h, t, u, hu => by
  obtain ⟨h1, h2, h3, h4, h5⟩ := h
  rcases RunR.env_at h5 t u hu with ⟨la, q', lb, e1, e2, e3⟩ | ⟨e1, e2⟩
  ·exact .inl ⟨q :: la, q', lb, by rw [e1]; rfl, e2, e3⟩
  ·rw [h4.env] at e2
   split at e2
   ·rename_i e
    exact .inl ⟨[], q, l1, rfl, e, (Option.some.inj e2).symm⟩
   ·rename_i e
    refine .inr ⟨fun q' hq' => ?_, by rw [← h1]; exact e2⟩
    rcases List.mem_cons.1 hq' with rfl | hq'
    ·exact e
    ·exact e1 q' hq'
theorem RunR.heap_at : ∀ {l1 l2 : List Rc} {r : Rc} {env : Env} {H : AH} {hist : List (Nat × AH)}, RunR P n ops A c x (l1 ++ r :: l2) env H hist → (∀ q ∈ l1, isW P q.o = false) → ∀ b blk, r.H.get b = some blk →
  H.get b = some blk ∨ ∃ la q lb, l1 = la ++ q :: lb ∧ q.al P = true ∧ q.H.next = b ∧ q.H'.get b = some blk
 | [], l2, r, env, H, hist, h, _, b, blk, hb => by
  left
  rw [← h.2.1]; exact hb
 | q :: l1, l2, r, env, H, hist, h, hw, b, blk, hb => by
  obtain ⟨h1, h2, h3, h4, h5⟩ := h
  rcases RunR.heap_at h5 (fun q' hq' => hw q' (by simp [hq'])) b blk hb with e | ⟨la, q', lb, e1, e2, e3, e4⟩
  ·cases ha : q.al P with
   | false =>
    rw [h4.same ha (hw q (by simp)), h2] at e
    exact .inl e
   | true =>
    by_cases hbn : b = q.H.next
    ·exact .inr ⟨[], q, l1, rfl, ha, hbn.symm, e⟩
    ·obtain ⟨_, i, t, cs, hg, _⟩ := h4.alloc ha
     rw [hg, Hp.set_other hbn, h2] at e
     exact .inl e
  ·exact .inr ⟨q :: la, q', lb, by rw [e1]; rfl, e2, e3, e4⟩
theorem RunR.ids {l1 l2 : List Rc} {r : Rc} {env : Env} {H : AH} {hist : List (Nat × AH)} (h : RunR P n ops A c x (l1 ++ r :: l2) env H hist) : ∀ q ∈ l2, r.H.next < q.H.next ∨ r.al P = false := by
 intro q hq
 obtain ⟨h1, hist', h2⟩ := RunR.at h
 cases ha : r.al P with
 | false => exact .inr rfl
 | true =>
  left
  obtain ⟨e1, _⟩ := h1.alloc ha
  have := RunR.next h2.2.2.2.2 q hq
  omega
theorem RunR.id_inj {l : List Rc} {env : Env} {H : AH} {hist : List (Nat × AH)} (h : RunR P n ops A c x l env H hist) {la lb lc ld : List Rc} {q q' : Rc} (e : l = la ++ q :: lb) (e' : l = lc ++ q' :: ld) (ha : q.al P = true) (ha' : q'.al P = true) (hid : q.H.next = q'.H.next) : la = lc ∧ q = q' ∧ lb = ld := by
 subst e
 rcases Nat.lt_trichotomy la.length lc.length with hlt | heq | hgt
 ·have hq : q' ∈ lb := by
   have h1 : (la ++ q :: lb)[lc.length]? = some q' := by rw [e']; simp
   rw [List.getElem?_append_right (by omega)] at h1
   have : lc.length - la.length = (lc.length - la.length - 1) + 1 := by omega
   rw [this, List.getElem?_cons_succ] at h1
   exact List.mem_of_getElem? h1
  rcases RunR.ids h q' hq with h2 | h2
  ·omega
  ·rw [ha] at h2; cases h2
 ·have := List.append_inj e' heq
  obtain ⟨e1, e2⟩ := this
  rw [List.cons.injEq] at e2
  exact ⟨e1, e2.1, e2.2⟩
 ·rw [e'] at h
  have hq : q ∈ ld := by
   have h1 : (lc ++ q' :: ld)[la.length]? = some q := by rw [← e']; simp
   rw [List.getElem?_append_right (by omega)] at h1
   have : la.length - lc.length = (la.length - lc.length - 1) + 1 := by omega
   rw [this, List.getElem?_cons_succ] at h1
   exact List.mem_of_getElem? h1
  rcases RunR.ids h q hq with h2 | h2
  ·omega
  ·rw [ha'] at h2; cases h2
theorem DX_mem : ∀ {l : List Rc} {D : Dom} {b : Nat} {y : Option (Nat × Nat)}, DX P X l D b = some y → D b = some y ∨ ∃ la q lb, l = la ++ q :: lb ∧ X q.i = true ∧ q.al P = true ∧ q.H.next = b ∧ Hp.dom q.H'.get b = some y
 | [], _, _, _, h => .inl h
 | r :: l, D, b, y, h => by
  unfold DX at h
  rcases DX_mem h with e | ⟨la, q, lb, e1, e2⟩
  ·split at e
   ·rename_i hx
    unfold extD at e
    split at e
    ·rename_i ha
     simp only at e
     split at e
     ·rename_i hb; exact .inr ⟨[], r, l, rfl, hx, ha, hb.symm, e⟩
     ·exact .inl e
    ·exact .inl e
   ·exact .inl e
  ·exact .inr ⟨r :: la, q, lb, by rw [e1]; rfl, e2⟩
theorem DX_append : ∀ {l1 l2 : List Rc} {D : Dom}, DX P X (l1 ++ l2) D = DX P X l2 (DX P X l1 D)
 | [], _, _ => rfl
 | r :: l1, l2, D => by
  rw [List.cons_append]
  show DX P X (l1 ++ l2) _ = DX P X l2 (DX P X l1 _)
  exact DX_append
end
end Go.Proofs.YtdcbnkimjhefkaaGreatDoor

namespace Go.Proofs.YtdcbnkimjhefkaaGreatDoor
section
variable {P : Program} {n : Nat} {ops : Array Oper} {A : List Nat} {σ : Ren} {X : Nat → Bool} {a : Act} {w : World} {c : Env → AH → Option Ans} {x : Ans}
theorem place_le {l : List Rc} {env : Env} {H : AH} {hist : List (Nat × AH)} (hR : RunR P n ops A c x l env H hist) (hok : AH.ok P H) {la lb lc : List Rc} (e : l = la ++ (lb ++ lc)) : ∀ b y, DX P X la (Hp.dom H.get) b = some y → DX P X (la ++ lb) (Hp.dom H.get) b = some y := by
 intro b y hb
 rw [DX_append]
 refine DX_le (fun r hr b hb => ?_) (fun l1 r l2 e2 q hq => ?_) b y hb
 ·obtain ⟨lb1, lb2, rfl⟩ := List.append_of_mem hr
  cases hd : DX P X la (Hp.dom H.get) b with
  | none => exact (hb hd).elim
  | some y =>
   rcases DX_mem hd with h1 | ⟨l1, q, l2, e1, _, e3, e4, _⟩
   ·have h2 : b < H.next := by
     rcases Nat.lt_or_ge b H.next with h | h
     ·exact h
     ·unfold Hp.dom at h1; rw [hok.2 b h] at h1; cases h1
    have := RunR.next hR r (by rw [e]; simp)
    omega
   ·subst e1
    have hl : l = l1 ++ q :: (l2 ++ ((lb1 ++ r :: lb2) ++ lc)) := by rw [e]; simp
    rw [hl] at hR
    rcases RunR.ids hR r (by simp) with h | h
    ·omega
    ·rw [e3] at h; cases h
 ·subst e2
  have hl : l = (la ++ l1) ++ r :: (l2 ++ lc) := by rw [e]; simp
  rw [hl] at hR
  exact RunR.ids hR q (by simp [hq])
theorem Hold.at {l1 l2 : List Rc} {q : Rc} {D : Dom} (h : Hold P σ X a w (l1 ++ q :: l2) D) (hx : X q.i = true) : SlotAt σ a (DX P X (l1 ++ [q]) D) q ∧ (q.al P = true → RowAt σ w (DX P X (l1 ++ [q]) D) q) := by
 have := (Hold.append.1 h).2
 unfold Hold at this
 have h2 := this.1 hx
 rw [DX_append]
 show SlotAt σ a (DX P X [] (if X q.i = true then extD P q (DX P X l1 D) else DX P X l1 D)) q ∧ (q.al P = true → RowAt σ w (DX P X [] (if X q.i = true then extD P q (DX P X l1 D) else DX P X l1 D)) q)
 rw [if_pos hx]
 exact h2
theorem DInv.rels {l1 l2 : List Rc} {r : Rc} {env : Env} {H : AH} {hist : List (Nat × AH)} (hR : RunR P n ops A c x (l1 ++ r :: l2) env H hist) (hok : AH.ok P H) (I : DInv P n σ X (l1 ++ r :: l2) env H a w) (hx : X r.i = false)
  (h1 : ∀ q ∈ l1, ∀ t, q.o.dst = some t → t ∈ r.o.looksAt ops → X q.i = true) (h2 : ∀ q ∈ l2, ∀ t, q.o.dst = some t → t ∈ r.o.looksAt ops → X q.i = false) (Hx : AH) :
  Rels (ev1 P r.envr Hx) σ (DX P X l1 (Hp.dom H.get)) a.eval ∧ ∀ t u, r.envr.get t = some u → ∃ v', a.tmps[t]? = some v' ∧ VR σ (DX P X l1 (Hp.dom H.get)) u v' := by
 have hr := (RunR.at hR).1
 have hle0 : Ren.le σ (Hp.dom H.get) σ (DX P X l1 (Hp.dom H.get)) := ⟨place_le (la := []) (lb := l1) (lc := r :: l2) hR hok rfl, fun _ _ _ => ⟨rfl, rfl, rfl⟩⟩
 have slots : ∀ t u, r.envr.get t = some u → ∃ v', a.tmps[t]? = some v' ∧ VR σ (DX P X l1 (Hp.dom H.get)) u v' := by
  intro t u hu
  obtain ⟨hlk, hu2⟩ := hr.part t u hu
  rcases RunR.env_at hR t u hu2 with ⟨la, q, lb, e1, e2, e3⟩ | ⟨e1, e2⟩
  ·have hqx := h1 q (by rw [e1]; simp) t e2 hlk
   subst e1
   have hh := I.hold
   rw [show (la ++ q :: lb) ++ r :: l2 = la ++ q :: (lb ++ r :: l2) by simp] at hh
   obtain ⟨v', q1, q2⟩ := (hh.at hqx).1 t e2
   refine ⟨v', q1, ?_⟩
   rw [e3]
   refine q2.mono ⟨?_, fun _ _ _ => ⟨rfl, rfl, rfl⟩⟩
   have := place_le (X := X) (la := la ++ [q]) (lb := lb) (lc := r :: l2) hR hok (by simp)
   rw [show (la ++ [q]) ++ lb = la ++ q :: lb by simp] at this
   exact this
  ·obtain ⟨v', q1, q2⟩ := I.slot t u (fun q hq hqx => by
    rcases List.mem_append.1 hq with hq | hq
    ·exact e1 q hq
    ·rcases List.mem_cons.1 hq with rfl | hq
     ·rw [hx] at hqx; cases hqx
     ·intro e
      rw [h2 q hq t e hlk] at hqx
      cases hqx) e2
   exact ⟨v', q1, q2.mono hle0⟩
 refine ⟨fun y u hy => ?_, slots⟩
 unfold ev1 at hy
 split at hy
 ·rename_i t
  obtain ⟨v', q1, q2⟩ := slots t u hy
  show VR σ _ u (a.tmps.getD t undef)
  rw [Array.getD_eq_getD_getElem?, q1]
  exact q2
 ·rename_i v
  split at hy
  ·rename_i hat
   obtain rfl := Option.some.inj hy
   exact .of_atomV hat
  ·cases hy
 ·rename_i g
  split at hy
  ·rename_i b hb hlt
   obtain rfl := Option.some.inj hy
   have hlt' : g < P.globals.size := Nat.le_of_ble_eq_true hlt
   have hg := I.sim.glob g hlt' (hok.gl g hlt')
   cases hgg : H.get g with
   | none => exact (hok.gl g hlt' hgg).elim
   | some bb =>
    have := VR.ptr (σ := σ) (D := DX P X l1 (Hp.dom H.get)) ⟨g, 0, none⟩ bb.opn (hle0.dom g _ (Hp.dom_some hgg)) rfl
    unfold Ren.addr at this
    simp only [hg.1, hg.2] at this
    exact this
  ·cases hy
 ·obtain rfl := Option.some.inj hy
  exact .func _ _ _ _ _ .nil .nil
theorem DInv.row {l1 l2 : List Rc} {r : Rc} {env : Env} {H : AH} {hist : List (Nat × AH)} (hR : RunR P n ops A c x (l1 ++ r :: l2) env H hist) (hok : AH.ok P H) (I : DInv P n σ X (l1 ++ r :: l2) env H a w) {la lb : List Rc} {q : Rc} (e : l1 ++ r :: l2 = la ++ q :: lb) (hla : ∃ lz, l1 = la ++ lz) (hw : ∀ p ∈ la, isW P p.o = false) {b : Nat} {i : Option (Nat × Nat)} {t : TypeId} {cs : List Value} (hb : q.H.get b = some ⟨i, .cells t cs⟩)
  (hd : DX P X l1 (Hp.dom H.get) b ≠ none) : DX P X l1 (Hp.dom H.get) b = some i ∧ ∃ C T fr, w.heap[σ.blk b]? = some (.cells C T fr) ∧ Row σ (DX P X l1 (Hp.dom H.get)) b i t cs C T fr := by
 have hle0 : Ren.le σ (Hp.dom H.get) σ (DX P X l1 (Hp.dom H.get)) := ⟨place_le (la := []) (lb := l1) (lc := r :: l2) hR hok rfl, fun _ _ _ => ⟨rfl, rfl, rfl⟩⟩
 have hR2 := hR
 rw [e] at hR2
 rcases RunR.heap_at hR2 hw b _ hb with h0 | ⟨lc, p, ld, e1, e2, e3, e4⟩
 ·obtain ⟨C, T, fr, q1, q2⟩ := I.sim.row b i t cs h0
  exact ⟨hle0.dom b i (Hp.dom_some h0), C, T, fr, q1, q2.mono2 hle0 rfl rfl⟩
 ·cases hdd : DX P X l1 (Hp.dom H.get) b with
  | none => exact (hd hdd).elim
  | some y =>
   rcases DX_mem hdd with h1 | ⟨le, p', lf, g1, g2, g3, g4, g5⟩
   ·exfalso
    have h2 : b < H.next := by
     rcases Nat.lt_or_ge b H.next with h | h
     ·exact h
     ·unfold Hp.dom at h1; rw [hok.2 b h] at h1; cases h1
    have := RunR.next hR2 p (by rw [e1]; simp)
    omega
   ·obtain ⟨lz, rfl⟩ := hla
    obtain ⟨k1, k2, k3⟩ := RunR.id_inj hR (la := le) (q := p') (lb := lf ++ r :: l2) (lc := lc) (q' := p) (ld := ld ++ (lz ++ r :: l2)) (by rw [g1]; simp) (by rw [e1]; simp) g3 e2 (by rw [g4, e3])
    subst k2
    have hh := I.hold
    rw [g1, show (le ++ p' :: lf) ++ r :: l2 = le ++ p' :: (lf ++ r :: l2) by simp] at hh
    have hrow := (hh.at g2).2 g3
    have hy : y = i := by
     unfold Hp.dom at g5
     rw [e4] at g5
     exact (Option.some.inj g5).symm
    subst hy
    rw [← g4] at e4 ⊢
    obtain ⟨C, T, fr, q1, q2⟩ := hrow _ _ _ e4
    refine ⟨rfl, C, T, fr, q1, q2.mono2 ⟨?_, fun _ _ _ => ⟨rfl, rfl, rfl⟩⟩ rfl rfl⟩
    have := place_le (X := X) (la := le ++ [p']) (lb := lf) (lc := r :: l2) hR hok (by rw [g1]; simp)
    rw [show (le ++ [p']) ++ lf = le ++ p' :: lf by simp, ← g1] at this
    exact this
end
end Go.Proofs.YtdcbnkimjhefkaaGreatDoor

namespace Go.Proofs.YtdcbnkimjhefkaaGreatDoor
section
variable {P : Program} {n : Nat} {ops : Array Oper} {A : List Nat} {σ : Ren} {X : Nat → Bool} {a : Act} {w : World} {c : Env → AH → Option Ans} {x : Ans}
def addX (X : Nat → Bool) (i : Nat) : Nat → Bool := fun j => X j || Nat.beq j i
theorem addX_self (X : Nat → Bool) (i : Nat) : addX X i i = true := by simp [addX]
theorem addX_other {X : Nat → Bool} {i j : Nat} (h : j ≠ i) : addX X i j = X j := by
 unfold addX
 cases hb : Nat.beq j i with
 | false => simp
 | true => exact (h (Nat.eq_of_beq_eq_true hb)).elim
theorem DInv.early {l1 l2 : List Rc} {r : Rc} {env : Env} {H : AH} (I : DInv P n σ X (l1 ++ r :: l2) env H a w) (hal : r.al P = false) (hw : isW P r.o = false) (hnd : ∀ q ∈ l1 ++ l2, q.i ≠ r.i) (hdd : ∀ q ∈ l1 ++ l2, ∀ t, q.o.dst = some t → r.o.dst ≠ some t) (hdst : decDst n r.o.dst = true) {v' : Value} (hv : VR σ (DX P X l1 (Hp.dom H.get)) r.v v') :
  DInv P n σ (addX X r.i) (l1 ++ r :: l2) env H (a.put r.o.dst v') w := by
 have hmem : ∀ q ∈ l1 ++ r :: l2, q = r ∨ (q ∈ l1 ++ l2 ∧ addX X r.i q.i = X q.i) := fun q hq => by
  rcases List.mem_append.1 hq with hq | hq
  ·exact .inr ⟨by simp [hq], addX_other (hnd q (by simp [hq]))⟩
  ·rcases List.mem_cons.1 hq with rfl | hq
   ·exact .inl rfl
   ·exact .inr ⟨by simp [hq], addX_other (hnd q (by simp [hq]))⟩
 have hkeep : ∀ t, r.o.dst ≠ some t → (a.put r.o.dst v').tmps[t]? = a.tmps[t]? := fun t ht => by rw [put_get, if_neg (fun e => ht e.1)]
 have c1 : ∀ q ∈ l1, addX X r.i q.i = X q.i := fun q hq => addX_other (hnd q (by simp [hq]))
 have c2 : ∀ q ∈ l2, addX X r.i q.i = X q.i := fun q hq => addX_other (hnd q (by simp [hq]))
 refine ⟨I.sim, by rw [put_def]; exact I.defers, by rw [put_size]; exact I.size, fun t v hn hv => ?_, ?_, fun q hq hqx hqa => ?_, fun q hq hqx => ?_⟩
 ·have hrt : r.o.dst ≠ some t := hn r (by simp) (addX_self X r.i)
  rw [hkeep t hrt]
  refine I.slot t v (fun q hq hqx => ?_) hv
  rcases hmem q hq with rfl | ⟨_, e⟩
  ·exact hrt
  ·exact hn q hq (by rw [e]; exact hqx)
 ·obtain ⟨g1, g2⟩ := Hold.append.1 I.hold
  unfold Hold at g2
  refine Hold.append.2 ⟨?_, ?_⟩
  ·refine Hold.congr c1 (Hold.upd g1 (fun _ _ h => h) (fun _ _ _ => ⟨rfl, rfl, rfl⟩) (fun _ _ _ _ => ⟨rfl, rfl, rfl⟩) (fun q hq _ t ht => hkeep t (hdd q (by simp [hq]) t ht)) (fun _ _ _ _ => rfl))
  ·rw [DX.congr c1]
   have hext : extD P r (DX P X l1 (Hp.dom H.get)) = DX P X l1 (Hp.dom H.get) := by unfold extD; rw [if_neg (by rw [hal]; simp)]
   unfold Hold
   rw [hext]
   refine ⟨fun _ => ⟨fun t ht => ⟨v', ?_, hv⟩, fun h => (by rw [hal] at h; cases h)⟩, ?_⟩
   ·rw [put_get]
    have hlt : t < a.tmps.size := by
     rw [I.size]
     rw [ht] at hdst
     exact Nat.le_of_ble_eq_true hdst
    rw [if_pos ⟨ht, hlt⟩]
   ·have g3 := g2.2
    rw [hext] at g3
    have e1 : (if X r.i = true then DX P X l1 (Hp.dom H.get) else DX P X l1 (Hp.dom H.get)) = DX P X l1 (Hp.dom H.get) := by split <;> rfl
    have e2 : (if addX X r.i r.i = true then DX P X l1 (Hp.dom H.get) else DX P X l1 (Hp.dom H.get)) = DX P X l1 (Hp.dom H.get) := by split <;> rfl
    rw [e1] at g3
    rw [e2]
    exact Hold.congr c2 (Hold.upd g3 (fun _ _ h => h) (fun _ _ _ => ⟨rfl, rfl, rfl⟩) (fun _ _ _ _ => ⟨rfl, rfl, rfl⟩) (fun q hq _ t ht => hkeep t (hdd q (by simp [hq]) t ht)) (fun _ _ _ _ => rfl))
 ·rcases hmem q hq with rfl | ⟨_, e⟩
  ·rw [hal] at hqa; cases hqa
  ·obtain ⟨ap1, ap2⟩ := I.apart q hq (by rw [← e]; exact hqx) hqa
   refine ⟨ap1, fun q' hq' hqx' hqa' hne => ?_⟩
   rcases hmem q' hq' with rfl | ⟨_, e'⟩
   ·rw [hal] at hqa'; cases hqa'
   ·exact ap2 q' hq' (by rw [← e']; exact hqx') hqa' hne
 ·rcases hmem q hq with rfl | ⟨_, e⟩
  ·exact hw
  ·exact I.noW q hq (by rw [← e]; exact hqx)
end
end Go.Proofs.YtdcbnkimjhefkaaGreatDoor

namespace Go.Proofs.YtdcbnkimjhefkaaGreatDoor
section
variable {P : Program} {n : Nat} {ops : Array Oper} {A : List Nat} {σ : Ren} {X : Nat → Bool} {a : Act} {w : World} {c : Env → AH → Option Ans} {x : Ans}
def upR (σ : Ren) (id b s k : Nat) : Ren := ⟨fun j => if j = id then b else σ.blk j, fun j => if j = id then s else σ.sh j, fun j => if j = id then k else σ.cap j⟩
theorem upR_agree {σ : Ren} {id b s k j : Nat} (h : j ≠ id) : Agree σ (upR σ id b s k) j := by simp [Agree, upR, h]
theorem DInv.earlyA {l1 l2 : List Rc} {r : Rc} {env : Env} {H : AH} {hist : List (Nat × AH)} (hR : RunR P n ops A c x (l1 ++ r :: l2) env H hist) (hok : AH.ok P H) (I : DInv P n σ X (l1 ++ r :: l2) env H a w) (hx : X r.i = false) (hal : r.al P = true) (hw : isW P r.o = false) (hnd : ∀ q ∈ l1 ++ l2, q.i ≠ r.i) (hdd : ∀ q ∈ l1 ++ l2, ∀ t, q.o.dst = some t → r.o.dst ≠ some t)
  {i : Option (Nat × Nat)} {t : TypeId} {cs : List Value} (hg : r.H'.get = Hp.set r.H.get r.H.next ⟨i, .cells t cs⟩) (hi : ∀ sz e, i = some (sz, e) → cs.length = e) {cs' rest : List Value} {fr : Nat × Nat} {w' : World} {v' : Value} (hcs : VRs σ (DX P X l1 (Hp.dom H.get)) cs cs') (hrest : i = none → rest = []) (hp : Push w w' (cs' ++ rest) t fr)
  (hv : ∀ (σ' : Ren) (D' : Dom), D' r.H.next = some i → σ'.blk r.H.next = w.heap.size → σ'.sh r.H.next = 0 → σ'.cap r.H.next = (cs' ++ rest).length → VR σ' D' r.v v') :
  DInv P n (upR σ r.H.next w.heap.size 0 (cs' ++ rest).length) (addX X r.i) (l1 ++ r :: l2) env H (a.put r.o.dst v') w' := by
 have hr := (RunR.at hR).1
 have hidH : H.next ≤ r.H.next := RunR.next hR r (by simp)
 have hdom : ∀ b y, Hp.dom H.get b = some y → b ≠ r.H.next := fun b y hb e => by
  unfold Hp.dom at hb
  rw [hok.2 b (by omega)] at hb
  cases hb
 have hqid : ∀ q ∈ l1 ++ l2, q.al P = true → q.H.next ≠ r.H.next := fun q hq ha e => by
  rcases List.mem_append.1 hq with h | h
  ·obtain ⟨la, lb, rfl⟩ := List.append_of_mem h
   have hR2 := hR
   rw [show (la ++ q :: lb) ++ r :: l2 = la ++ q :: (lb ++ r :: l2) by simp] at hR2
   rcases RunR.ids hR2 r (by simp) with h2 | h2
   ·omega
   ·rw [ha] at h2; cases h2
  ·rcases RunR.ids hR q h with h2 | h2
   ·omega
   ·rw [hal] at h2; cases h2
 have hmem : ∀ q ∈ l1 ++ r :: l2, q = r ∨ (q ∈ l1 ++ l2 ∧ addX X r.i q.i = X q.i) := fun q hq => by
  rcases List.mem_append.1 hq with hq | hq
  ·exact .inr ⟨by simp [hq], addX_other (hnd q (by simp [hq]))⟩
  ·rcases List.mem_cons.1 hq with rfl | hq
   ·exact .inl rfl
   ·exact .inr ⟨by simp [hq], addX_other (hnd q (by simp [hq]))⟩
 have hold0 := I.hold
 have hqlt : ∀ q ∈ l1 ++ l2, X q.i = true → q.al P = true → σ.blk q.H.next < w.heap.size := fun q hq hqx hqa => by
  have hq' : q ∈ l1 ++ r :: l2 := by
   rcases List.mem_append.1 hq with h | h <;> simp [h]
  obtain ⟨la, lb, e⟩ := List.append_of_mem hq'
  have h1 := hold0
  rw [e] at h1
  have hrow := (h1.at hqx).2 hqa
  have hR2 := hR
  rw [e] at hR2
  obtain ⟨_, i2, t2, cs2, hg2, _⟩ := (RunR.at hR2).1.alloc hqa
  obtain ⟨C, T2, fr2, q1, _⟩ := hrow i2 t2 cs2 (by rw [hg2, Hp.set_same])
  exact (Array.getElem?_eq_some_iff.1 q1).1
 have hheap : ∀ k, k < w.heap.size → w'.heap[k]? = w.heap[k]? := fun k hk => by
  rw [hp.heap, Array.getElem?_push_lt hk, Array.getElem?_eq_getElem hk]
 have hleH : Ren.le σ (Hp.dom H.get) (upR σ r.H.next w.heap.size 0 (cs' ++ rest).length) (Hp.dom H.get) := ⟨fun _ _ h => h, fun b y hb => upR_agree (hdom b y hb)⟩
 have hkeep : ∀ t, r.o.dst ≠ some t → (a.put r.o.dst v').tmps[t]? = a.tmps[t]? := fun t ht => by rw [put_get, if_neg (fun e => ht e.1)]
 have c1 : ∀ q ∈ l1, addX X r.i q.i = X q.i := fun q hq => addX_other (hnd q (by simp [hq]))
 have c2 : ∀ q ∈ l2, addX X r.i q.i = X q.i := fun q hq => addX_other (hnd q (by simp [hq]))
 have hD1 : ∀ b y, DX P X l1 (Hp.dom H.get) b = some y → b ≠ r.H.next := fun b y hb => by
  rcases DX_mem hb with h1 | ⟨la, q, lb, e1, _, e3, e4, _⟩
  ·exact hdom b y h1
  ·rw [← e4]; exact hqid q (by rw [e1]; simp) e3
 have hdi : Hp.dom r.H'.get r.H.next = some i := by unfold Hp.dom; rw [hg, Hp.set_same]; rfl
 have hextle : ∀ b y, DX P X l1 (Hp.dom H.get) b = some y → extD P r (DX P X l1 (Hp.dom H.get)) b = some y := fun b y hb => by
  unfold extD
  rw [if_pos hal]
  rw [if_neg (hD1 b y hb)]
  exact hb
 have hle1 : Ren.le σ (DX P X l1 (Hp.dom H.get)) (upR σ r.H.next w.heap.size 0 (cs' ++ rest).length) (extD P r (DX P X l1 (Hp.dom H.get))) := ⟨hextle, fun b y hb => upR_agree (hD1 b y hb)⟩
 refine ⟨⟨?_, ?_, ?_⟩, by rw [put_def]; exact I.defers, by rw [put_size]; exact I.size, fun t v hn hv => ?_, ?_, fun q hq hqx hqa => ?_, fun q hq hqx => ?_⟩
 ·intro b i2 x2 hb hd2
  obtain ⟨X2, q1, q2⟩ := I.sim.body b i2 x2 hb hd2
  obtain ⟨g1, g2, g3⟩ := upR_agree (σ := σ) (b := w.heap.size) (s := 0) (k := (cs' ++ rest).length) (hdom b _ (Hp.dom_some hb))
  exact ⟨X2, by rw [g1, hheap _ (I.sim.lt ⟨_, _, hb, hd2⟩)]; exact q1, q2.mono hleH (Hp.dom_some hb)⟩
 ·intro b b' hb hb' hne
  obtain ⟨i2, e⟩ := hb.known
  obtain ⟨i3, e'⟩ := hb'.known
  rw [(upR_agree (σ := σ) (hdom b _ e)).1, (upR_agree (σ := σ) (hdom b' _ e')).1]
  exact I.sim.apart b b' hb hb' hne
 ·intro g hlt hn
  have hne : g ≠ r.H.next := by have := hok.1; omega
  have h1 := I.sim.glob g hlt hn
  obtain ⟨g1, g2, _⟩ := upR_agree (σ := σ) (b := w.heap.size) (s := 0) (k := (cs' ++ rest).length) hne
  rw [g1, g2]
  exact h1
 ·have hrt : r.o.dst ≠ some t := hn r (by simp) (addX_self X r.i)
  rw [hkeep t hrt]
  obtain ⟨u, q1, q2⟩ := I.slot t v (fun q hq hqx => by
   rcases hmem q hq with rfl | ⟨_, e⟩
   ·exact hrt
   ·exact hn q hq (by rw [e]; exact hqx)) hv
  exact ⟨u, q1, q2.mono hleH⟩
 ·obtain ⟨g1, g2⟩ := Hold.append.1 I.hold
  unfold Hold at g2
  refine Hold.append.2 ⟨?_, ?_⟩
  ·exact Hold.congr c1 (Hold.upd g1 (fun _ _ h => h) (fun b y hb => upR_agree (hdom b y hb)) (fun q hq _ hqa => upR_agree (hqid q (by simp [hq]) hqa)) (fun q hq _ t ht => hkeep t (hdd q (by simp [hq]) t ht)) (fun q hq hqx hqa => hheap _ (hqlt q (by simp [hq]) hqx hqa)))
  ·rw [DX.congr c1]
   unfold Hold
   have hvr : VR (upR σ r.H.next w.heap.size 0 (cs' ++ rest).length) (extD P r (DX P X l1 (Hp.dom H.get))) r.v v' := by
    refine hv _ _ ?_ (by simp [upR]) (by simp [upR]) (by simp [upR])
    unfold extD
    rw [if_pos hal]
    simp only [if_true]
    exact hdi
   refine ⟨fun _ => ⟨fun t ht => ⟨v', ?_, hvr⟩, fun _ i2 t2 cs2 hb => ?_⟩, ?_⟩
   ·rw [put_get]
    have hlt : t < a.tmps.size := by
     rw [I.size]
     have := hr.dst
     rw [ht] at this
     exact Nat.le_of_ble_eq_true this
    rw [if_pos ⟨ht, hlt⟩]
   ·rw [hg, Hp.set_same] at hb
    simp only [Option.some.injEq, Blk.mk.injEq, Body.cells.injEq] at hb
    obtain ⟨rfl, rfl, rfl⟩ := hb
    refine ⟨(cs' ++ rest).toArray, _, fr, by rw [hp.heap]; simp [upR], ⟨fun _ j h1 h2 => by simpa using hp.free j h1 h2, ?_, ?_, ?_, fun _ => rfl, by simp [upR], fun hn => by simp [hrest hn, hcs.length]⟩⟩
    ·simp [upR, hcs.length]
    ·intro j v hj
     obtain ⟨u, q1, q2⟩ := hcs.get hj
     refine ⟨u, ?_, q2.mono hle1⟩
     simp only [upR, if_true, Nat.zero_add, List.getElem?_toArray]
     rw [List.getElem?_append_left (List.getElem?_eq_some_iff.1 q1).1]
     exact q1
    ·intro sz e hie
     have := hi sz e hie
     simp only [upR, if_true, List.size_toArray]
     rw [List.length_append, hcs.length]
     omega
   ·have g3 := g2.2
    rw [if_neg (by rw [hx]; simp)] at g3
    rw [if_pos (addX_self X r.i)]
    exact Hold.congr c2 (Hold.upd g3 hextle (fun b y hb => upR_agree (hD1 b y hb)) (fun q hq _ hqa => upR_agree (hqid q (by simp [hq]) hqa)) (fun q hq _ t ht => hkeep t (hdd q (by simp [hq]) t ht)) (fun q hq hqx hqa => hheap _ (hqlt q (by simp [hq]) hqx hqa)))
 ·have hnew : (upR σ r.H.next w.heap.size 0 (cs' ++ rest).length).blk r.H.next = w.heap.size := by simp [upR]
  rcases hmem q hq with rfl | ⟨hq2, e⟩
  ·rw [hnew]
   refine ⟨fun b hb => ?_, fun q' hq' hqx' hqa' hne => ?_⟩
   ·obtain ⟨i3, e3⟩ := hb.known
    rw [(upR_agree (σ := σ) (hdom b _ e3)).1]
    have := I.sim.lt hb
    omega
   ·rcases hmem q' hq' with rfl | ⟨hq2', e'⟩
    ·exact (hne rfl).elim
    ·rw [(upR_agree (σ := σ) (hqid q' hq2' hqa')).1]
     have := hqlt q' hq2' (by rw [← e']; exact hqx') hqa'
     omega
  ·obtain ⟨ap1, ap2⟩ := I.apart q hq (by rw [← e]; exact hqx) hqa
   rw [(upR_agree (σ := σ) (hqid q hq2 hqa)).1]
   refine ⟨fun b hb => ?_, fun q' hq' hqx' hqa' hne => ?_⟩
   ·obtain ⟨i3, e3⟩ := hb.known
    rw [(upR_agree (σ := σ) (hdom b _ e3)).1]
    exact ap1 b hb
   ·rcases hmem q' hq' with rfl | ⟨hq2', e'⟩
    ·rw [hnew]
     have := hqlt q hq2 (by rw [← e]; exact hqx) hqa
     omega
    ·rw [(upR_agree (σ := σ) (hqid q' hq2' hqa')).1]
     exact ap2 q' hq' (by rw [← e']; exact hqx') hqa' hne
 ·rcases hmem q hq with rfl | ⟨_, e⟩
  ·exact hw
  ·exact I.noW q hq (by rw [← e]; exact hqx)
end
end Go.Proofs.YtdcbnkimjhefkaaGreatDoor

namespace Go.Proofs.YtdcbnkimjhefkaaGreatDoor
section
variable {P : Program} {n : Nat} {ops : Array Oper} {A : List Nat} {σ : Ren} {X : Nat → Bool} {a : Act} {w : World} {c : Env → AH → Option Ans} {x : Ans}
def mixR (σ' σ : Ren) (k : Nat) : Ren := ⟨fun j => if j < k then σ'.blk j else σ.blk j, fun j => if j < k then σ'.sh j else σ.sh j, fun j => if j < k then σ'.cap j else σ.cap j⟩
theorem mixR_lt {σ' σ : Ren} {k j : Nat} (h : j < k) : Agree σ' (mixR σ' σ k) j := by simp [Agree, mixR, h]
theorem mixR_ge {σ' σ : Ren} {k j : Nat} (h : k ≤ j) : Agree σ (mixR σ' σ k) j := by simp [Agree, mixR, Nat.not_lt.2 h]
theorem dom_lt {H : AH} (hok : AH.ok P H) {b : Nat} {y : Option (Nat × Nat)} (h : Hp.dom H.get b = some y) : b < H.next := by
 rcases Nat.lt_or_ge b H.next with h1 | h1
 ·exact h1
 ·unfold Hp.dom at h; rw [hok.2 b h1] at h; cases h
theorem Sim.mix {H : AH} (hok : AH.ok P H) {σ' : Ren} (s : Sim P σ' H.get w) (σ : Ren) : Sim P (mixR σ' σ H.next) H.get w := by
 have hle : Ren.le σ' (Hp.dom H.get) (mixR σ' σ H.next) (Hp.dom H.get) := ⟨fun _ _ h => h, fun b y hb => mixR_lt (dom_lt hok hb)⟩
 refine ⟨fun b i y hb hd => ?_, fun b b' hb hb' hne => ?_, fun g hlt hn => ?_⟩
 ·obtain ⟨X, q1, q2⟩ := s.body b i y hb hd
  obtain ⟨g1, g2, g3⟩ := mixR_lt (σ' := σ') (σ := σ) (dom_lt hok (Hp.dom_some hb))
  exact ⟨X, by rw [g1]; exact q1, q2.mono hle (Hp.dom_some hb)⟩
 ·obtain ⟨i, e⟩ := hb.known
  obtain ⟨i2, e2⟩ := hb'.known
  rw [(mixR_lt (σ' := σ') (σ := σ) (dom_lt hok e)).1, (mixR_lt (σ' := σ') (σ := σ) (dom_lt hok e2)).1]
  exact s.apart b b' hb hb' hne
 ·have hg := s.glob g hlt hn
  obtain ⟨g1, g2, _⟩ := mixR_lt (σ' := σ') (σ := σ) (show g < H.next by have := hok.1; omega)
  rw [g1, g2]
  exact hg
theorem DInv.write {l : List Rc} {r : Rc} {hist : List (Nat × AH)} (hR : RunR P n ops A c x (r :: l) r.env r.H hist) (I : DInv P n σ X (r :: l) r.env r.H a w) (hx : X r.i = false) (hdd : ∀ q ∈ l, ∀ t, q.o.dst = some t → r.o.dst ≠ some t) {σ' : Ren} {w' : World} {v' : Value} (hS : Sim P σ' r.H'.get w') (hF : Fwd σ r.H.get w σ' r.H'.get w') (hv : VR σ' (Hp.dom r.H'.get) r.v v') :
  DInv P n (mixR σ' σ r.H'.next) X l r.env' r.H' (a.put r.o.dst v') w' := by
 have h := hR.2.2.2.1
 have hR' := hR.2.2.2.2
 have hh := I.hold
 unfold Hold at hh
 obtain ⟨_, h2⟩ := hh
 rw [if_neg (by rw [hx]; simp)] at h2
 have hle' : Ren.le σ' (Hp.dom r.H'.get) (mixR σ' σ r.H'.next) (Hp.dom r.H'.get) := ⟨fun _ _ h => h, fun b y hb => mixR_lt (dom_lt h.ok' hb)⟩
 have hle : Ren.le σ (Hp.dom r.H.get) (mixR σ' σ r.H'.next) (Hp.dom r.H'.get) := hF.le.trans hle'
 have hqid : ∀ q ∈ l, r.H'.next ≤ q.H.next := fun q hq => RunR.next hR' q hq
 have hkeep : ∀ t, r.o.dst ≠ some t → (a.put r.o.dst v').tmps[t]? = a.tmps[t]? := fun t ht => by rw [put_get, if_neg (fun e => ht e.1)]
 have hqlt : ∀ q ∈ l, X q.i = true → q.al P = true → σ.blk q.H.next < w.heap.size := fun q hq hqx hqa => by
  obtain ⟨la, lb, e⟩ := List.append_of_mem hq
  have h1 := h2
  rw [e] at h1
  have hrow := (h1.at hqx).2 hqa
  have hR2 := hR'
  rw [e] at hR2
  obtain ⟨_, i2, t2, cs2, hg2, _⟩ := (RunR.at hR2).1.alloc hqa
  obtain ⟨C, T2, fr2, q1, _⟩ := hrow i2 t2 cs2 (by rw [hg2, Hp.set_same])
  exact (Array.getElem?_eq_some_iff.1 q1).1
 refine ⟨hS.mix h.ok' σ, by rw [put_def]; exact I.defers, by rw [put_size]; exact I.size, fun t v hn hu => ?_, ?_, fun q hq hqx hqa => ?_, fun q hq => I.noW q (by simp [hq])⟩
 ·rw [h.env] at hu
  split at hu
  ·rename_i e
   obtain rfl := Option.some.inj hu
   rw [put_get]
   have hlt : t < a.tmps.size := by
    rw [I.size]
    have := h.dst
    rw [e] at this
    exact Nat.le_of_ble_eq_true this
   rw [if_pos ⟨e, hlt⟩]
   exact ⟨v', rfl, hv.mono hle'⟩
  ·rename_i e
   rw [hkeep t e]
   obtain ⟨u, q1, q2⟩ := I.slot t v (fun q hq hqx => by
    rcases List.mem_cons.1 hq with rfl | hq
    ·rw [hx] at hqx; cases hqx
    ·exact hn q hq hqx) hu
   exact ⟨u, q1, q2.mono hle⟩
 ·refine Hold.upd h2 hle.dom hle.ren (fun q hq _ _ => mixR_ge (hqid q hq)) (fun q hq _ t ht => hkeep t (hdd q hq t ht)) (fun q hq hqx hqa => ?_)
  exact hF.old _ (hqlt q hq hqx hqa) fun b hb => (I.apart q (by simp [hq]) hqx hqa).1 b hb
 ·obtain ⟨ap1, ap2⟩ := I.apart q (by simp [hq]) hqx hqa
  rw [(mixR_ge (σ' := σ') (σ := σ) (hqid q hq)).1]
  refine ⟨fun b hb => ?_, fun q' hq' hqx' hqa' hne => ?_⟩
  ·have hblt : b < r.H'.next := by
    obtain ⟨i2, e⟩ := hb.known
    exact dom_lt h.ok' e
   rw [(mixR_lt (σ' := σ') (σ := σ) hblt).1]
   by_cases hn : r.H.get b = none
   ·rcases hF.new b hn hb with h3 | ⟨b0, h3, _, h4⟩
    ·have := hqlt q hq hqx hqa
     omega
    ·rw [h4]; exact ap1 b0 h3
   ·have hl := hF.was b hb hn
    obtain ⟨i2, e⟩ := hl.known
    rw [(hF.le.ren b _ e).1]
    exact ap1 b hl
  ·rw [(mixR_ge (σ' := σ') (σ := σ) (hqid q' hq')).1]
   exact ap2 q' (by simp [hq']) hqx' hqa' hne
end
end Go.Proofs.YtdcbnkimjhefkaaGreatDoor

namespace Go.Proofs.YtdcbnkimjhefkaaGreatDoor
section
variable {P : Program} {n : Nat} {ops : Array Oper} {A : List Nat} {σ0 σ : Ren} {H0 : AH} {w0 : World} {X : Nat → Bool} {a : Act} {w : World} {c : Env → AH → Option Ans} {x : Ans}
structure DFwd (P : Program) (σ0 : Ren) (H0 : AH) (w0 : World) (σ : Ren) (X : Nat → Bool) (l : List Rc) (H : AH) (w : World) : Prop where
 fwd : Fwd σ0 H0.get w0 σ H.get w
 ge : ∀ q ∈ l, X q.i = true → q.al P = true → w0.heap.size ≤ σ.blk q.H.next
theorem DFwd.absorb {r : Rc} {l : List Rc} (F : DFwd P σ0 H0 w0 σ X (r :: l) r.H w) (h : RcOk P n ops A r) (hx : X r.i = true) (hw : isW P r.o = false) : DFwd P σ0 H0 w0 σ X l r.H' w := by
 refine ⟨?_, fun q hq => F.ge q (by simp [hq])⟩
 cases ha : r.al P with
 | false => rw [h.same ha hw]; exact F.fwd
 | true =>
  obtain ⟨_, i, t, cs, hg, _⟩ := h.alloc ha
  have hlive : ∀ b, Hp.live r.H'.get b → b ≠ r.H.next → Hp.live r.H.get b := fun b hb hne => by
   obtain ⟨i', x', e, hd⟩ := hb
   rw [hg, Hp.set_other hne] at e
   exact ⟨i', x', e, hd⟩
  have hne0 : ∀ b y, Hp.dom H0.get b = some y → b ≠ r.H.next := fun b y hb e => by
   have := F.fwd.le.dom b y hb
   unfold Hp.dom at this
   rw [e, h.ok.2 _ (Nat.le_refl _)] at this
   cases this
  have hf := F.fwd
  refine ⟨hf.le.trans ⟨h.domle hw, fun _ _ _ => ⟨rfl, rfl, rfl⟩⟩, hf.old, fun b hb hl => ?_, fun b hl hn => ?_, hf.size, hf.os, hf.tape, hf.output, fun b e t2 cs2 hb => ?_⟩
  ·by_cases e : b = r.H.next
   ·subst e; exact .inl (F.ge r (by simp) hx ha)
   ·rcases hf.new b hb (hlive b hl e) with h1 | ⟨b0, h1, h2, h3⟩
    ·exact .inl h1
    ·refine .inr ⟨b0, h1, fun hl0 => h2 (hlive b0 hl0 ?_), h3⟩
     obtain ⟨i', e'⟩ := h1.known
     exact hne0 b0 _ e'
  ·refine hf.was b (hlive b hl ?_) hn
   cases hb : H0.get b with
   | none => exact (hn hb).elim
   | some y => exact hne0 b _ (Hp.dom_some hb)
  ·obtain ⟨q1, q2⟩ := hf.ro b e t2 cs2 hb
   refine ⟨?_, q2⟩
   rw [hg, Hp.set_other (hne0 b _ (Hp.dom_some hb))]
   exact q1
theorem DFwd.early {l : List Rc} {r : Rc} {H : AH} (F : DFwd P σ0 H0 w0 σ X l H w) (hal : r.al P = false) (hin : ∀ q ∈ l, q.i = r.i → q = r) : DFwd P σ0 H0 w0 σ (addX X r.i) l H w := by
 refine ⟨F.fwd, fun q hq hqx hqa => ?_⟩
 by_cases e : q.i = r.i
 ·rw [hin q hq e, hal] at hqa; cases hqa
 ·exact F.ge q hq (by rw [← addX_other (X := X) e]; exact hqx) hqa
theorem DFwd.earlyA (s0 : Sim P σ0 H0.get w0) {l : List Rc} {r : Rc} {H : AH} (s : Sim P σ H.get w) (hok : AH.ok P H) (F : DFwd P σ0 H0 w0 σ X l H w) (hid : H.next ≤ r.H.next) (hqid : ∀ q ∈ l, q.i ≠ r.i → q.al P = true → q.H.next ≠ r.H.next) (hin : ∀ q ∈ l, q.i = r.i → q = r) {C : List Value} {T : TypeId} {fr : Nat × Nat} {w' : World} (hp : Push w w' C T fr) (k : Nat) :
  DFwd P σ0 H0 w0 (upR σ r.H.next w.heap.size 0 k) (addX X r.i) l H w' := by
 have hdom : ∀ b y, Hp.dom H.get b = some y → b ≠ r.H.next := fun b y hb => by have := dom_lt hok hb; omega
 have hF : Fwd σ H.get w (upR σ r.H.next w.heap.size 0 k) H.get w' := by
  refine ⟨⟨fun _ _ h => h, fun b y hb => upR_agree (hdom b y hb)⟩, fun j hj _ => ?_, fun b hb hl => ?_, fun b hl _ => hl, by rw [hp.heap]; simp, hp.os, hp.tape, hp.output, fun b e t2 cs2 hb => ⟨hb, ?_⟩⟩
  ·rw [hp.heap, Array.getElem?_push_lt hj, Array.getElem?_eq_getElem hj]
  ·exact (hl.not_none hb).elim
  ·have hj := s.lt (.row hb)
   rw [hp.heap, Array.getElem?_push_lt hj, Array.getElem?_eq_getElem hj]
 refine ⟨Fwd.trans s0 F.fwd hF, fun q hq hqx hqa => ?_⟩
 by_cases e : q.i = r.i
 ·rw [hin q hq e]
  simp only [upR, if_true]
  exact F.fwd.size
 ·rw [(upR_agree (σ := σ) (hqid q hq e hqa)).1]
  exact F.ge q hq (by rw [← addX_other (X := X) e]; exact hqx) hqa
theorem DFwd.write (s0 : Sim P σ0 H0.get w0) {l : List Rc} {r : Rc} {hist : List (Nat × AH)} (hR : RunR P n ops A c x (r :: l) r.env r.H hist) (F : DFwd P σ0 H0 w0 σ X (r :: l) r.H w) {σ' : Ren} {w' : World} (hF : Fwd σ r.H.get w σ' r.H'.get w') : DFwd P σ0 H0 w0 (mixR σ' σ r.H'.next) X l r.H' w' := by
 have h := hR.2.2.2.1
 have hF2 : Fwd σ r.H.get w (mixR σ' σ r.H'.next) r.H'.get w' := by
  refine ⟨hF.le.trans ⟨fun _ _ h => h, fun b y hb => mixR_lt (dom_lt h.ok' hb)⟩, hF.old, fun b hb hl => ?_, hF.was, hF.size, hF.os, hF.tape, hF.output, hF.ro⟩
  have hlt : b < r.H'.next := by
   obtain ⟨i', e⟩ := hl.known
   exact dom_lt h.ok' e
  rw [(mixR_lt (σ' := σ') (σ := σ) hlt).1]
  exact hF.new b hb hl
 refine ⟨Fwd.trans s0 F.fwd hF2, fun q hq hqx hqa => ?_⟩
 rw [(mixR_ge (σ' := σ') (σ := σ) (RunR.next hR.2.2.2.2 q hq)).1]
 exact F.ge q (by simp [hq]) hqx hqa
end
end Go.Proofs.YtdcbnkimjhefkaaGreatDoor

namespace Go.Proofs.YtdcbnkimjhefkaaGreatDoor
section
variable {P : Program} {n : Nat} {ops : Array Oper} {A : List Nat}
def Closed (ops : Array Oper) (L : Nat → Prop) : Prop := ∀ i o, ops[i]? = some o → L i → ∀ e ∈ o.after, Region.binds .any e = true → L e.on
theorem anc_done (hA : ancOk ops A = true) {L : Nat → Prop} (hL : Closed ops L) : ∀ (i : Nat) (o : Oper), ops[i]? = some o → (∀ e ∈ o.after, Region.binds .any e = true → L e.on) → ∀ j, j < ops.size → hasBit ((nth A i).getD 0) j = true → L j := by
 intro i
 induction i using Nat.strongRecOn with
 | _ i ih =>
  intro o ho hr j hj hb
  unfold ancOk at hA
  rw [List.all_eq_true] at hA
  have h1 := hA i (List.mem_range.2 (Array.getElem?_eq_some_iff.1 ho).1)
  rw [ho] at h1
  simp only at h1
  rw [List.all_eq_true] at h1
  have h2 := h1 j (List.mem_range.2 hj)
  rw [hb] at h2
  simp only [Bool.not_true, Bool.false_or, List.any_eq_true, Bool.and_eq_true, Bool.or_eq_true] at h2
  obtain ⟨e, he, hbd, hlt, h3⟩ := h2
  have he' : e ∈ o.after := by simpa using he
  have hLe := hr e he' hbd
  have hlt' : e.on < i := Nat.le_of_ble_eq_true hlt
  rcases h3 with h3 | h3
  ·rw [← Nat.eq_of_beq_eq_true h3]; exact hLe
  ·have hsz : e.on < ops.size := by have := (Array.getElem?_eq_some_iff.1 ho).1; omega
   have ho2 : ops[e.on]? = some ops[e.on] := Array.getElem?_eq_getElem hsz
   exact ih e.on hlt' _ ho2 (hL _ _ ho2 hLe) j hj h3
theorem all_done (hE : edgesOk ops = true) {listed : Array Bool} (hr : Region.ready .any ops listed = []) : ∀ i, i < ops.size → listed.getD i true = true := by
 intro i
 induction i using Nat.strongRecOn with
 | _ i ih =>
  intro hi
  cases hd : listed.getD i true with
  | true => rfl
  | false =>
   exfalso
   have ho : ops[i]? = some ops[i] := Array.getElem?_eq_getElem hi
   have hmem : i ∈ Region.ready .any ops listed := by
    rw [mem_ready]
    refine ⟨hd, ops[i], ho, fun e he hb => ?_⟩
    unfold edgesOk at hE
    rw [List.all_eq_true] at hE
    have h1 := hE i (List.mem_range.2 hi)
    rw [ho] at h1
    simp only at h1
    rw [List.all_eq_true] at h1
    have h2 := h1 e (by simpa using he)
    rw [hb] at h2
    simp only [Bool.not_true, Bool.false_or] at h2
    have hlt : e.on < i := Nat.le_of_ble_eq_true h2
    have h3 := ih e.on hlt (by omega)
    have hls : i < listed.size := getD_lt hd
    simp only [Array.getD_eq_getD_getElem?] at h3 ⊢
    rw [Array.getElem?_eq_getElem (by omega)] at h3 ⊢
    exact h3
   rw [hr] at hmem
   cases hmem
structure PairOk (P : Program) (ops : Array Oper) (A : List Nat) (j i : Nat) (q o : Oper) : Prop where
 wr : isW P o = true → hasBit ((nth A i).getD 0) j = true
 rd : ∀ t, q.dst = some t → t ∈ o.looksAt ops → hasBit ((nth A i).getD 0) j = true
 dst : ∀ t, q.dst = some t → o.dst ≠ some t
 rdb : ∀ t, o.dst = some t → t ∈ q.looksAt ops → hasBit ((nth A i).getD 0) j = true
theorem ordOk1_inv {i j : Nat} {o q : Oper} (hq : ops[j]? = some q) (h : ordOk1 P ops A i o j = true) : PairOk P ops A j i q o := by
 unfold ordOk1 at h
 simp only [hq, Bool.and_eq_true] at h
 obtain ⟨⟨h1, h2⟩, h3⟩ := h
 refine ⟨fun hw => ?_, fun t ht hl => ?_, fun t ht => ?_, fun t ht hl => ?_⟩
 ·rw [hw] at h1; simpa using h1
 ·rw [ht] at h2
  simp only [Bool.and_eq_true] at h2
  have := h2.1
  rw [List.contains_iff_mem.2 hl] at this
  simpa using this
 ·rw [ht] at h2
  simp only [Bool.and_eq_true] at h2
  have := h2.2
  intro e
  rw [e] at this
  simp at this
 ·rw [ht] at h3
  simp only at h3
  rw [List.contains_iff_mem.2 hl] at h3
  simpa using h3
theorem ordOk_inv : ∀ {l pre : List Nat}, ordOk P ops A pre l = true → (∀ l1 i l2, l = l1 ++ i :: l2 → ∃ o, ops[i]? = some o ∧ ∀ j, j ∈ l1 ∨ j ∈ pre → ordOk1 P ops A i o j = true ∧ j ≠ i)
 | [], _, _, l1, i, l2, e => by cases l1 <;> simp at e
 | k :: l, pre, h, l1, i, l2, e => by
  unfold ordOk at h
  split at h
  ·rename_i o ho
   rw [Bool.and_eq_true, Bool.and_eq_true] at h
   obtain ⟨h1, h2, h3⟩ := h
   cases l1 with
   | nil =>
    simp only [List.nil_append, List.cons.injEq] at e
    obtain ⟨rfl, rfl⟩ := e
    refine ⟨o, ho, fun j hj => ?_⟩
    rcases hj with hj | hj
    ·cases hj
    ·rw [List.all_eq_true] at h1
     refine ⟨h1 j hj, fun e => ?_⟩
     subst e
     have : memN j pre = true := by
      clear h1 h2 h3
      induction pre with
      | nil => cases hj
      | cons p pre ih =>
       unfold memN
       cases hb : Nat.beq j p with
       | true => rfl
       | false =>
        simp only
        rcases List.mem_cons.1 hj with rfl | hj
        ·rw [Nat.beq_refl] at hb; cases hb
        ·exact ih hj
     rw [this] at h2; cases h2
   | cons k' l1 =>
    simp only [List.cons_append, List.cons.injEq] at e
    obtain ⟨rfl, rfl⟩ := e
    obtain ⟨o', q1, q2⟩ := ordOk_inv h3 l1 i l2 rfl
    refine ⟨o', q1, fun j hj => q2 j ?_⟩
    rcases hj with hj | hj
    ·rcases List.mem_cons.1 hj with rfl | hj
     ·exact .inr (by simp)
     ·exact .inl hj
    ·exact .inr (by simp [hj])
  ·cases h
end
end Go.Proofs.YtdcbnkimjhefkaaGreatDoor

/-
  Regions whose order is drawn: what the records say of frames and memory at a place.
-/
import Derived.Test.YtgmpcmnkcaniaaaGreatDoorKs
namespace Go.Proofs.YtgmpcmnkcaniaaaGreatDoor
section
variable {P : Program} {n : Nat} {ops : Array Oper} {A : List Nat} {σ : Ren} {X : Nat → Bool} {a : Act} {w : World} {c : Env → AH → Option Ans} {x : Ans}
/-- The records from a place on. -/
theorem RunR.at : ∀ {l1 l2 : List Rc} {r : Rc} {env : Env} {H : AH} {hist : List (Nat × AH)}, RunR P n ops A c x (l1 ++ r :: l2) env H hist → RcOk P n ops A r ∧ ∃ hist', RunR P n ops A c x (r :: l2) r.env r.H hist'
  | [], l2, r, env, H, hist, h => ⟨h.2.2.2.1, hist, rfl, rfl, h.2.2.1, h.2.2.2.1, by have := h.2.2.2.2; rw [← h.2.1] at this; exact this⟩
  | q :: l1, l2, r, env, H, hist, h => RunR.at h.2.2.2.2
/-- A frame's slot at a place: what an operation ahead wrote, or what it was. -/
theorem RunR.env_at : ∀ {l1 l2 : List Rc} {r : Rc} {env : Env} {H : AH} {hist : List (Nat × AH)}, RunR P n ops A c x (l1 ++ r :: l2) env H hist → ∀ t u, r.env.get t = some u →
    (∃ la q lb, l1 = la ++ q :: lb ∧ q.o.dst = some t ∧ u = q.v) ∨ ((∀ q ∈ l1, q.o.dst ≠ some t) ∧ env.get t = some u)
  | [], l2, r, env, H, hist, h, t, u, hu => by
    right
    refine ⟨fun q hq => (by cases hq), ?_⟩
    rw [← h.1]; exact hu
  | q :: l1, l2, r, env, H, hist, h, t, u, hu => by
    obtain ⟨h1, h2, h3, h4, h5⟩ := h
    rcases RunR.env_at h5 t u hu with ⟨la, q', lb, e1, e2, e3⟩ | ⟨e1, e2⟩
    · exact .inl ⟨q :: la, q', lb, by rw [e1]; rfl, e2, e3⟩
    · rw [h4.env] at e2
      split at e2
      · rename_i e
        exact .inl ⟨[], q, l1, rfl, e, (Option.some.inj e2).symm⟩
      · rename_i e
        refine .inr ⟨fun q' hq' => ?_, by rw [← h1]; exact e2⟩
        rcases List.mem_cons.1 hq' with rfl | hq'
        · exact e
        · exact e1 q' hq'
/-- Memory at a place with no writer ahead: what it was, or a row laid ahead. -/
theorem RunR.heap_at : ∀ {l1 l2 : List Rc} {r : Rc} {env : Env} {H : AH} {hist : List (Nat × AH)}, RunR P n ops A c x (l1 ++ r :: l2) env H hist → (∀ q ∈ l1, isW P q.o = false) → ∀ b blk, r.H.get b = some blk →
    H.get b = some blk ∨ ∃ la q lb, l1 = la ++ q :: lb ∧ q.al P = true ∧ q.H.next = b ∧ q.H'.get b = some blk
  | [], l2, r, env, H, hist, h, _, b, blk, hb => by
    left
    rw [← h.2.1]; exact hb
  | q :: l1, l2, r, env, H, hist, h, hw, b, blk, hb => by
    obtain ⟨h1, h2, h3, h4, h5⟩ := h
    rcases RunR.heap_at h5 (fun q' hq' => hw q' (by simp [hq'])) b blk hb with e | ⟨la, q', lb, e1, e2, e3, e4⟩
    · cases ha : q.al P with
      | false =>
        rw [h4.same ha (hw q (by simp)), h2] at e
        exact .inl e
      | true =>
        by_cases hbn : b = q.H.next
        · exact .inr ⟨[], q, l1, rfl, ha, hbn.symm, e⟩
        · obtain ⟨_, i, t, cs, hg, _⟩ := h4.alloc ha
          rw [hg, Hp.set_other hbn, h2] at e
          exact .inl e
    · exact .inr ⟨q :: la, q', lb, by rw [e1]; rfl, e2, e3, e4⟩
/-- Numbers of rows grow along the records. -/
theorem RunR.ids {l1 l2 : List Rc} {r : Rc} {env : Env} {H : AH} {hist : List (Nat × AH)} (h : RunR P n ops A c x (l1 ++ r :: l2) env H hist) : ∀ q ∈ l2, r.H.next < q.H.next ∨ r.al P = false := by
  intro q hq
  obtain ⟨h1, hist', h2⟩ := RunR.at h
  cases ha : r.al P with
  | false => exact .inr rfl
  | true =>
    left
    obtain ⟨e1, _⟩ := h1.alloc ha
    have := RunR.next h2.2.2.2.2 q hq
    omega
/-- A row's number tells the record. -/
theorem RunR.id_inj {l : List Rc} {env : Env} {H : AH} {hist : List (Nat × AH)} (h : RunR P n ops A c x l env H hist) {la lb lc ld : List Rc} {q q' : Rc} (e : l = la ++ q :: lb) (e' : l = lc ++ q' :: ld) (ha : q.al P = true) (ha' : q'.al P = true) (hid : q.H.next = q'.H.next) : la = lc ∧ q = q' ∧ lb = ld := by
  subst e
  rcases Nat.lt_trichotomy la.length lc.length with hlt | heq | hgt
  · have hq : q' ∈ lb := by
      have h1 : (la ++ q :: lb)[lc.length]? = some q' := by rw [e']; simp
      rw [List.getElem?_append_right (by omega)] at h1
      have : lc.length - la.length = (lc.length - la.length - 1) + 1 := by omega
      rw [this, List.getElem?_cons_succ] at h1
      exact List.mem_of_getElem? h1
    rcases RunR.ids h q' hq with h2 | h2
    · omega
    · rw [ha] at h2; cases h2
  · have := List.append_inj e' heq
    obtain ⟨e1, e2⟩ := this
    rw [List.cons.injEq] at e2
    exact ⟨e1, e2.1, e2.2⟩
  · rw [e'] at h
    have hq : q ∈ ld := by
      have h1 : (lc ++ q' :: ld)[la.length]? = some q := by rw [← e']; simp
      rw [List.getElem?_append_right (by omega)] at h1
      have : la.length - lc.length = (la.length - lc.length - 1) + 1 := by omega
      rw [this, List.getElem?_cons_succ] at h1
      exact List.mem_of_getElem? h1
    rcases RunR.ids h q hq with h2 | h2
    · omega
    · rw [ha'] at h2; cases h2
/-- The domain at a place: what was there, or a row laid early. -/
theorem DX_mem : ∀ {l : List Rc} {D : Dom} {b : Nat} {y : Option (Nat × Nat)}, DX P X l D b = some y → D b = some y ∨ ∃ la q lb, l = la ++ q :: lb ∧ X q.i = true ∧ q.al P = true ∧ q.H.next = b ∧ Hp.dom q.H'.get b = some y
  | [], _, _, _, h => .inl h
  | r :: l, D, b, y, h => by
    unfold DX at h
    rcases DX_mem h with e | ⟨la, q, lb, e1, e2⟩
    · split at e
      · rename_i hx
        unfold extD at e
        split at e
        · rename_i ha
          simp only at e
          split at e
          · rename_i hb; exact .inr ⟨[], r, l, rfl, hx, ha, hb.symm, e⟩
          · exact .inl e
        · exact .inl e
      · exact .inl e
    · exact .inr ⟨r :: la, q, lb, by rw [e1]; rfl, e2⟩
theorem DX_append : ∀ {l1 l2 : List Rc} {D : Dom}, DX P X (l1 ++ l2) D = DX P X l2 (DX P X l1 D)
  | [], _, _ => rfl
  | r :: l1, l2, D => by
    rw [List.cons_append]
    show DX P X (l1 ++ l2) _ = DX P X l2 (DX P X l1 _)
    exact DX_append
end
end Go.Proofs.YtgmpcmnkcaniaaaGreatDoor

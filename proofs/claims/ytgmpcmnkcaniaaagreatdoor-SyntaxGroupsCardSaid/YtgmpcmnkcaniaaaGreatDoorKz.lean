/-
  Regions whose order is drawn: what the static look tells.
-/
import Derived.Test.YtgmpcmnkcaniaaaGreatDoorKy
namespace Go.Proofs.YtgmpcmnkcaniaaaGreatDoor
section
variable {P : Program} {n : Nat} {ops : Array Oper} {A : List Nat}
/-- What has been carried out is closed under what must stand ahead. -/
def Closed (ops : Array Oper) (L : Nat → Prop) : Prop := ∀ i o, ops[i]? = some o → L i → ∀ e ∈ o.after, Region.binds .any e = true → L e.on
theorem anc_done (hA : ancOk ops A = true) {L : Nat → Prop} (hL : Closed ops L) : ∀ (i : Nat) (o : Oper), ops[i]? = some o → (∀ e ∈ o.after, Region.binds .any e = true → L e.on) → ∀ j, j < ops.size → hasBit ((nth A i).getD 0) j = true → L j := by
  intro i
  induction i using Nat.strongRecOn with
  | _ i ih =>
    intro o ho hr j hj hb
    unfold ancOk at hA
    rw [List.all_eq_true] at hA
    have h1 := hA i (List.mem_range.2 (Array.getElem?_eq_some_iff.1 ho).1)
    rw [ho] at h1
    simp only at h1
    rw [List.all_eq_true] at h1
    have h2 := h1 j (List.mem_range.2 hj)
    rw [hb] at h2
    simp only [Bool.not_true, Bool.false_or, List.any_eq_true, Bool.and_eq_true, Bool.or_eq_true] at h2
    obtain ⟨e, he, hbd, hlt, h3⟩ := h2
    have he' : e ∈ o.after := by simpa using he
    have hLe := hr e he' hbd
    have hlt' : e.on < i := Nat.le_of_ble_eq_true hlt
    rcases h3 with h3 | h3
    · rw [← Nat.eq_of_beq_eq_true h3]; exact hLe
    · have hsz : e.on < ops.size := by have := (Array.getElem?_eq_some_iff.1 ho).1; omega
      have ho2 : ops[e.on]? = some ops[e.on] := Array.getElem?_eq_getElem hsz
      exact ih e.on hlt' _ ho2 (hL _ _ ho2 hLe) j hj h3
/-- If none is ready, all have been carried out. -/
theorem all_done (hE : edgesOk ops = true) {listed : Array Bool} (hr : Region.ready .any ops listed = []) : ∀ i, i < ops.size → listed.getD i true = true := by
  intro i
  induction i using Nat.strongRecOn with
  | _ i ih =>
    intro hi
    cases hd : listed.getD i true with
    | true => rfl
    | false =>
      exfalso
      have ho : ops[i]? = some ops[i] := Array.getElem?_eq_getElem hi
      have hmem : i ∈ Region.ready .any ops listed := by
        rw [mem_ready]
        refine ⟨hd, ops[i], ho, fun e he hb => ?_⟩
        unfold edgesOk at hE
        rw [List.all_eq_true] at hE
        have h1 := hE i (List.mem_range.2 hi)
        rw [ho] at h1
        simp only at h1
        rw [List.all_eq_true] at h1
        have h2 := h1 e (by simpa using he)
        rw [hb] at h2
        simp only [Bool.not_true, Bool.false_or] at h2
        have hlt : e.on < i := Nat.le_of_ble_eq_true h2
        have h3 := ih e.on hlt (by omega)
        have hls : i < listed.size := getD_lt hd
        simp only [Array.getD_eq_getD_getElem?] at h3 ⊢
        rw [Array.getElem?_eq_getElem (by omega)] at h3 ⊢
        exact h3
      rw [hr] at hmem
      cases hmem
/-- The order, pair by pair. -/
structure PairOk (P : Program) (ops : Array Oper) (A : List Nat) (j i : Nat) (q o : Oper) : Prop where
  wr : isW P o = true → hasBit ((nth A i).getD 0) j = true
  rd : ∀ t, q.dst = some t → t ∈ o.looksAt ops → hasBit ((nth A i).getD 0) j = true
  dst : ∀ t, q.dst = some t → o.dst ≠ some t
  rdb : ∀ t, o.dst = some t → t ∈ q.looksAt ops → hasBit ((nth A i).getD 0) j = true
theorem ordOk1_inv {i j : Nat} {o q : Oper} (hq : ops[j]? = some q) (h : ordOk1 P ops A i o j = true) : PairOk P ops A j i q o := by
  unfold ordOk1 at h
  simp only [hq, Bool.and_eq_true] at h
  obtain ⟨⟨h1, h2⟩, h3⟩ := h
  refine ⟨fun hw => ?_, fun t ht hl => ?_, fun t ht => ?_, fun t ht hl => ?_⟩
  · rw [hw] at h1; simpa using h1
  · rw [ht] at h2
    simp only [Bool.and_eq_true] at h2
    have := h2.1
    rw [List.contains_iff_mem.2 hl] at this
    simpa using this
  · rw [ht] at h2
    simp only [Bool.and_eq_true] at h2
    have := h2.2
    intro e
    rw [e] at this
    simp at this
  · rw [ht] at h3
    simp only at h3
    rw [List.contains_iff_mem.2 hl] at h3
    simpa using h3
theorem ordOk_inv : ∀ {l pre : List Nat}, ordOk P ops A pre l = true → (∀ l1 i l2, l = l1 ++ i :: l2 → ∃ o, ops[i]? = some o ∧ ∀ j, j ∈ l1 ∨ j ∈ pre → ordOk1 P ops A i o j = true ∧ j ≠ i)
  | [], _, _, l1, i, l2, e => by cases l1 <;> simp at e
  | k :: l, pre, h, l1, i, l2, e => by
    unfold ordOk at h
    split at h
    · rename_i o ho
      rw [Bool.and_eq_true, Bool.and_eq_true] at h
      obtain ⟨h1, h2, h3⟩ := h
      cases l1 with
      | nil =>
        simp only [List.nil_append, List.cons.injEq] at e
        obtain ⟨rfl, rfl⟩ := e
        refine ⟨o, ho, fun j hj => ?_⟩
        rcases hj with hj | hj
        · cases hj
        · rw [List.all_eq_true] at h1
          refine ⟨h1 j hj, fun e => ?_⟩
          subst e
          have : memN j pre = true := by
            clear h1 h2 h3
            induction pre with
            | nil => cases hj
            | cons p pre ih =>
              unfold memN
              cases hb : Nat.beq j p with
              | true => rfl
              | false =>
                simp only
                rcases List.mem_cons.1 hj with rfl | hj
                · rw [Nat.beq_refl] at hb; cases hb
                · exact ih hj
          rw [this] at h2; cases h2
      | cons k' l1 =>
        simp only [List.cons_append, List.cons.injEq] at e
        obtain ⟨rfl, rfl⟩ := e
        obtain ⟨o', q1, q2⟩ := ordOk_inv h3 l1 i l2 rfl
        refine ⟨o', q1, fun j hj => q2 j ?_⟩
        rcases hj with hj | hj
        · rcases List.mem_cons.1 hj with rfl | hj
          · exact .inr (by simp)
          · exact .inl hj
        · exact .inr (by simp [hj])
    · cases h
end
end Go.Proofs.YtgmpcmnkcaniaaaGreatDoor

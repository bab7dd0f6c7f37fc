/-
  The pieces of the machine, turned round: what a run that ends well tells of its parts.
-/
import Derived.Test.YtdcbnkimjhefkaaGreatDoorZ04
namespace Go.Proofs.YtdcbnkimjhefkaaGreatDoor
section
variable {α β : Type}
theorem Tr.get_zero (l : Tr α) (v : Option α) (r : Tr α) : (Tr.nd l v r).get 0 = v := rfl
theorem Tr.get_succ (l : Tr α) (v : Option α) (r : Tr α) (k : Nat) : (Tr.nd l v r).get (k + 1) = cond (Nat.beq (Nat.mod k 2) 0) (l.get (Nat.div k 2)) (r.get (Nat.div k 2)) := by
  show Bool.rec (motive := fun _ => Option α) (r.get (Nat.div k 2)) (l.get (Nat.div k 2)) (Nat.beq (Nat.mod k 2) 0) = _
  cases Nat.beq (Nat.mod k 2) 0 <;> rfl
theorem Tr.setK_zero (f : Nat) (l : Tr α) (v : Option α) (r : Tr α) (x : α) (c : Tr α → Option β) : Tr.setK (f + 1) (.nd l v r) 0 x c = c (.nd l (some x) r) := rfl
theorem Tr.setK_succ (f : Nat) (l : Tr α) (v : Option α) (r : Tr α) (k : Nat) (x : α) (c : Tr α → Option β) : Tr.setK (f + 1) (.nd l v r) (k + 1) x c = cond (Nat.beq (Nat.mod k 2) 0) (Tr.setK f l (Nat.div k 2) x fun l' => c (.nd l' v r)) (Tr.setK f r (Nat.div k 2) x fun r' => c (.nd l v r')) := by
  show Bool.rec (motive := fun _ => Option β) (Tr.setK f r (Nat.div k 2) x fun r' => c (.nd l v r')) (Tr.setK f l (Nat.div k 2) x fun l' => c (.nd l' v r)) (Nat.beq (Nat.mod k 2) 0) = _
  cases Nat.beq (Nat.mod k 2) 0 <;> rfl
theorem Tr.setK_lf (f k : Nat) (x : α) (c : Tr α → Option β) : Tr.setK (f + 1) .lf k x c = Tr.setK (f + 1) (.nd .lf none .lf) k x c := rfl
theorem Tr.get_lf (k : Nat) : (Tr.nd .lf none .lf : Tr α).get k = none := by
  cases k with
  | zero => rfl
  | succ k => rw [Tr.get_succ]; cases Nat.beq (Nat.mod k 2) 0 <;> rfl
theorem half_eq {j k : Nat} (h : Nat.beq (Nat.mod j 2) 0 = Nat.beq (Nat.mod k 2) 0) : (Nat.div j 2 = Nat.div k 2 ↔ j = k) := by
  have e1 : Nat.div j 2 = j / 2 := rfl
  have e2 : Nat.div k 2 = k / 2 := rfl
  have e3 : Nat.mod j 2 = j % 2 := rfl
  have e4 : Nat.mod k 2 = k % 2 := rfl
  rw [e1, e2]
  rw [e3, e4] at h
  have h5 : (j % 2 = 0) ↔ (k % 2 = 0) := by
    constructor
    · intro e; rw [e] at h; exact Nat.eq_of_beq_eq_true h.symm
    · intro e; rw [e] at h; exact Nat.eq_of_beq_eq_true h
  omega
theorem Tr.setK_inv : ∀ {f : Nat} {t : Tr α} {k : Nat} {x : α} {c : Tr α → Option β} {r : β}, Tr.setK f t k x c = some r → ∃ t', c t' = some r ∧ ∀ j, t'.get j = if j = k then some x else t.get j
  | 0, _, _, _, _, _, h => by cases h
  | f + 1, t, k, x, c, r, h => by
    have key : ∀ (l : Tr α) (v : Option α) (rr : Tr α), Tr.setK (f + 1) (.nd l v rr) k x c = some r → ∃ t', c t' = some r ∧ ∀ j, t'.get j = if j = k then some x else (Tr.nd l v rr).get j := by
      intro l v rr h
      cases k with
      | zero =>
        rw [Tr.setK_zero] at h
        refine ⟨_, h, fun j => ?_⟩
        cases j with
        | zero => rfl
        | succ j => rw [Tr.get_succ, Tr.get_succ, if_neg (by omega)]
      | succ k =>
        rw [Tr.setK_succ] at h
        cases hb : Nat.beq (Nat.mod k 2) 0 with
        | true =>
          rw [hb] at h
          obtain ⟨l', hc, hg⟩ := Tr.setK_inv h
          refine ⟨_, hc, fun j => ?_⟩
          cases j with
          | zero => rw [if_neg (by omega)]; rfl
          | succ j =>
            rw [Tr.get_succ, Tr.get_succ]
            cases hj : Nat.beq (Nat.mod j 2) 0 with
            | true =>
              simp only [cond_true]
              rw [hg]
              have := half_eq (hj.trans hb.symm)
              by_cases e : j = k
              · rw [if_pos (this.2 e), if_pos (by omega)]
              · rw [if_neg (fun e' => e (this.1 e')), if_neg (by omega)]
            | false =>
              simp only [cond_false]
              rw [if_neg]
              intro e
              have : j = k := by omega
              rw [this, hb] at hj
              cases hj
        | false =>
          rw [hb] at h
          obtain ⟨l', hc, hg⟩ := Tr.setK_inv h
          refine ⟨_, hc, fun j => ?_⟩
          cases j with
          | zero => rw [if_neg (by omega)]; rfl
          | succ j =>
            rw [Tr.get_succ, Tr.get_succ]
            cases hj : Nat.beq (Nat.mod j 2) 0 with
            | false =>
              simp only [cond_false]
              rw [hg]
              have := half_eq (hj.trans hb.symm)
              by_cases e : j = k
              · rw [if_pos (this.2 e), if_pos (by omega)]
              · rw [if_neg (fun e' => e (this.1 e')), if_neg (by omega)]
            | true =>
              simp only [cond_true]
              rw [if_neg]
              intro e
              have : j = k := by omega
              rw [this, hb] at hj
              cases hj
    cases t with
    | lf =>
      rw [Tr.setK_lf] at h
      obtain ⟨t', h1, h2⟩ := key _ _ _ h
      refine ⟨t', h1, fun j => ?_⟩
      rw [h2, Tr.get_lf]
      rfl
    | nd l v rr => exact key l v rr h
@[simp] theorem natK_eq (n : Nat) (c : Nat → β) : natK n c = c n := by cases n <;> rfl
@[simp] theorem intK_eq (n : Int) (c : Int → β) : intK n c = c n := by cases n <;> simp [intK]
@[simp] theorem byteK_eq (b : UInt8) (c : UInt8 → β) : byteK b c = c b := by simp [byteK]
@[simp] theorem bytesK_eq : ∀ (l : List UInt8) (c : List UInt8 → β), bytesK l c = c l
  | [], _ => rfl
  | b :: l, c => by simp [bytesK, bytesK_eq l]
@[simp] theorem strK_eq (s : ByteArray) (c : ByteArray → β) : strK s c = c s := by simp [strK]
@[simp] theorem val0K_eq (v : Value) (c : Value → β) : val0K v c = c v := by
  unfold val0K
  split <;> simp
@[simp] theorem vals0K_eq : ∀ (l : List Value) (c : List Value → β), vals0K l c = c l
  | [], _ => rfl
  | v :: l, c => by simp [vals0K, vals0K_eq l]
@[simp] theorem val1K_eq (v : Value) (c : Value → β) : val1K v c = c v := by
  unfold val1K
  split <;> simp
@[simp] theorem vals1K_eq : ∀ (l : List Value) (c : List Value → β), vals1K l c = c l
  | [], _ => rfl
  | v :: l, c => by simp [vals1K, vals1K_eq l]
@[simp] theorem val2K_eq (v : Value) (c : Value → β) : val2K v c = c v := by
  unfold val2K
  split <;> simp
theorem nth_eq : ∀ (l : List α) (n : Nat), nth l n = l[n]?
  | [], _ => by simp [nth]
  | x :: l, 0 => by simp [nth]
  | x :: l, n + 1 => by simp [nth, nth_eq l n]
theorem takeK_inv : ∀ {n : Nat} {l : List α} {c : List α → Option β} {r : β}, takeK n l c = some r → n ≤ l.length ∧ c (l.take n) = some r
  | 0, l, c, r, h => by simp [takeK] at h; simp [h]
  | n + 1, [], c, r, h => by simp [takeK] at h
  | n + 1, x :: l, c, r, h => by
    unfold takeK at h
    obtain ⟨h1, h2⟩ := takeK_inv h
    exact ⟨by simp; exact h1, by simpa using h2⟩
theorem rowK_inv : ∀ {l : List α} {o n : Nat} {c : List α → Option β} {r : β}, rowK l o n c = some r → (n = 0 ∨ o + n ≤ l.length) ∧ c ((l.drop o).take n) = some r
  | l, 0, n, c, r, h => by
    unfold rowK at h
    obtain ⟨h1, h2⟩ := takeK_inv h
    exact ⟨.inr (by omega), by simpa using h2⟩
  | [], o + 1, n, c, r, h => by
    unfold rowK at h
    cases n with
    | zero => exact ⟨.inl rfl, by simpa using h⟩
    | succ n => cases h
  | x :: l, o + 1, n, c, r, h => by
    unfold rowK at h
    obtain ⟨h1, h2⟩ := rowK_inv h
    exact ⟨h1.imp id (by simp; omega), by simpa using h2⟩
theorem overK_inv : ∀ {l r : List α} {c : List α → Option β} {x : β}, overK l r c = some x → r.length ≤ l.length ∧ c (r ++ l.drop r.length) = some x
  | l, [], c, x, h => by cases l <;> (simp [overK] at h; simp [h])
  | [], _ :: _, c, x, h => by simp [overK] at h
  | y :: l, z :: r, c, x, h => by
    unfold overK at h
    obtain ⟨h1, h2⟩ := overK_inv h
    exact ⟨by simp; exact h1, by simpa using h2⟩
theorem putK_inv : ∀ {l : List α} {o : Nat} {r : List α} {c : List α → Option β} {x : β}, putK l o r c = some x → (r = [] ∨ o + r.length ≤ l.length) ∧ ∃ l', c l' = some x ∧ l'.length = l.length ∧ ∀ j, l'[j]? = if o ≤ j ∧ j < o + r.length then r[j - o]? else l[j]?
  | l, 0, r, c, x, h => by
    unfold putK at h
    obtain ⟨h1, h2⟩ := overK_inv h
    refine ⟨.inr (by omega), _, h2, by simp; omega, fun j => ?_⟩
    rw [List.getElem?_append]
    by_cases hj : j < r.length
    · simp [hj]
    · simp [hj]
      congr 1
      omega
  | [], o + 1, r, c, x, h => by
    unfold putK at h
    cases r with
    | nil => exact ⟨.inl rfl, [], h, rfl, fun j => by simp⟩
    | cons y r => cases h
  | y :: l, o + 1, r, c, x, h => by
    unfold putK at h
    obtain ⟨h1, l', h2, h3, h4⟩ := putK_inv h
    refine ⟨h1.imp id (by simp; omega), _, h2, by simp [h3], fun j => ?_⟩
    cases j with
    | zero => simp
    | succ j =>
      simp only [List.getElem?_cons_succ]
      rw [h4]
      by_cases hj : o ≤ j ∧ j < o + r.length
      · rw [if_pos hj, if_pos (by omega), Nat.add_sub_add_right]
      · rw [if_neg hj, if_neg (by omega)]
theorem catK_eq : ∀ (l r : List α) (c : List α → β), catK l r c = c (l ++ r)
  | [], _, _ => rfl
  | x :: l, r, c => by simp [catK, catK_eq l]
theorem evsK_inv {P : Program} {env : Env} {H : AH} : ∀ {l : List Operand} {c : List Value → Option β} {r : β}, evsK P env H l c = some r → ∃ vs, c vs = some r ∧ l.map (ev1 P env H) = vs.map some
  | [], c, r, h => ⟨[], h, rfl⟩
  | x :: l, c, r, h => by
    unfold evsK at h
    split at h
    · rename_i v hv
      obtain ⟨vs, h1, h2⟩ := evsK_inv h
      exact ⟨v :: vs, h1, by simp [hv, h2]⟩
    · cases h
theorem prun_sound {P : Program} : ∀ {s : Sem α} {a : α} {w : World}, prun P s = some a → s.run P w = .ok a w := by
  intro s
  induction s with
  | pure a => intro x w h; simp only [prun, Option.some.injEq] at h; rw [h]; rfl
  | program k ih => intro x w h; unfold prun at h; exact ih _ h
  | mark m k ih => intro x w h; unfold prun at h; exact ih h
  | _ => intro x w h; unfold prun at h; cases h
end
end Go.Proofs.YtdcbnkimjhefkaaGreatDoor

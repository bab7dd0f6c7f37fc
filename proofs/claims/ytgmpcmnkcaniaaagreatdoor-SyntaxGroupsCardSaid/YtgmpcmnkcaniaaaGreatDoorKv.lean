/-
  Regions whose order is drawn: an operation is carried out early.
-/
import Derived.Test.YtgmpcmnkcaniaaaGreatDoorKu
namespace Go.Proofs.YtgmpcmnkcaniaaaGreatDoor
section
variable {P : Program} {n : Nat} {ops : Array Oper} {A : List Nat} {σ : Ren} {X : Nat → Bool} {a : Act} {w : World} {c : Env → AH → Option Ans} {x : Ans}
def addX (X : Nat → Bool) (i : Nat) : Nat → Bool := fun j => X j || Nat.beq j i
theorem addX_self (X : Nat → Bool) (i : Nat) : addX X i i = true := by simp [addX]
theorem addX_other {X : Nat → Bool} {i j : Nat} (h : j ≠ i) : addX X i j = X j := by
  unfold addX
  cases hb : Nat.beq j i with
  | false => simp
  | true => exact (h (Nat.eq_of_beq_eq_true hb)).elim
/-- An operation that lays no row and writes no memory. -/
theorem DInv.early {l1 l2 : List Rc} {r : Rc} {env : Env} {H : AH} (I : DInv P n σ X (l1 ++ r :: l2) env H a w) (hal : r.al P = false) (hw : isW P r.o = false) (hnd : ∀ q ∈ l1 ++ l2, q.i ≠ r.i) (hdd : ∀ q ∈ l1 ++ l2, ∀ t, q.o.dst = some t → r.o.dst ≠ some t) (hdst : decDst n r.o.dst = true) {v' : Value} (hv : VR σ (DX P X l1 (Hp.dom H.get)) r.v v') :
    DInv P n σ (addX X r.i) (l1 ++ r :: l2) env H (a.put r.o.dst v') w := by
  have hmem : ∀ q ∈ l1 ++ r :: l2, q = r ∨ (q ∈ l1 ++ l2 ∧ addX X r.i q.i = X q.i) := fun q hq => by
    rcases List.mem_append.1 hq with hq | hq
    · exact .inr ⟨by simp [hq], addX_other (hnd q (by simp [hq]))⟩
    · rcases List.mem_cons.1 hq with rfl | hq
      · exact .inl rfl
      · exact .inr ⟨by simp [hq], addX_other (hnd q (by simp [hq]))⟩
  have hkeep : ∀ t, r.o.dst ≠ some t → (a.put r.o.dst v').tmps[t]? = a.tmps[t]? := fun t ht => by rw [put_get, if_neg (fun e => ht e.1)]
  have c1 : ∀ q ∈ l1, addX X r.i q.i = X q.i := fun q hq => addX_other (hnd q (by simp [hq]))
  have c2 : ∀ q ∈ l2, addX X r.i q.i = X q.i := fun q hq => addX_other (hnd q (by simp [hq]))
  refine ⟨I.sim, by rw [put_def]; exact I.defers, by rw [put_size]; exact I.size, fun t v hn hv => ?_, ?_, fun q hq hqx hqa => ?_, fun q hq hqx => ?_⟩
  · have hrt : r.o.dst ≠ some t := hn r (by simp) (addX_self X r.i)
    rw [hkeep t hrt]
    refine I.slot t v (fun q hq hqx => ?_) hv
    rcases hmem q hq with rfl | ⟨_, e⟩
    · exact hrt
    · exact hn q hq (by rw [e]; exact hqx)
  · obtain ⟨g1, g2⟩ := Hold.append.1 I.hold
    unfold Hold at g2
    refine Hold.append.2 ⟨?_, ?_⟩
    · refine Hold.congr c1 (Hold.upd g1 (fun _ _ h => h) (fun _ _ _ => ⟨rfl, rfl, rfl⟩) (fun _ _ _ _ => ⟨rfl, rfl, rfl⟩) (fun q hq _ t ht => hkeep t (hdd q (by simp [hq]) t ht)) (fun _ _ _ _ => rfl))
    · rw [DX.congr c1]
      have hext : extD P r (DX P X l1 (Hp.dom H.get)) = DX P X l1 (Hp.dom H.get) := by unfold extD; rw [if_neg (by rw [hal]; simp)]
      unfold Hold
      rw [hext]
      refine ⟨fun _ => ⟨fun t ht => ⟨v', ?_, hv⟩, fun h => (by rw [hal] at h; cases h)⟩, ?_⟩
      · rw [put_get]
        have hlt : t < a.tmps.size := by
          rw [I.size]
          rw [ht] at hdst
          exact Nat.le_of_ble_eq_true hdst
        rw [if_pos ⟨ht, hlt⟩]
      · have g3 := g2.2
        rw [hext] at g3
        have e1 : (if X r.i = true then DX P X l1 (Hp.dom H.get) else DX P X l1 (Hp.dom H.get)) = DX P X l1 (Hp.dom H.get) := by split <;> rfl
        have e2 : (if addX X r.i r.i = true then DX P X l1 (Hp.dom H.get) else DX P X l1 (Hp.dom H.get)) = DX P X l1 (Hp.dom H.get) := by split <;> rfl
        rw [e1] at g3
        rw [e2]
        exact Hold.congr c2 (Hold.upd g3 (fun _ _ h => h) (fun _ _ _ => ⟨rfl, rfl, rfl⟩) (fun _ _ _ _ => ⟨rfl, rfl, rfl⟩) (fun q hq _ t ht => hkeep t (hdd q (by simp [hq]) t ht)) (fun _ _ _ _ => rfl))
  · rcases hmem q hq with rfl | ⟨_, e⟩
    · rw [hal] at hqa; cases hqa
    · obtain ⟨ap1, ap2⟩ := I.apart q hq (by rw [← e]; exact hqx) hqa
      refine ⟨ap1, fun q' hq' hqx' hqa' hne => ?_⟩
      rcases hmem q' hq' with rfl | ⟨_, e'⟩
      · rw [hal] at hqa'; cases hqa'
      · exact ap2 q' hq' (by rw [← e']; exact hqx') hqa' hne
  · rcases hmem q hq with rfl | ⟨_, e⟩
    · exact hw
    · exact I.noW q hq (by rw [← e]; exact hqx)
end
end Go.Proofs.YtgmpcmnkcaniaaaGreatDoor

/-
  Append: a row that grows, in its place or elsewhere.
-/
import Derived.Test.YtgmpcmnkcaniaaaGreatDoorKj
namespace Go.Proofs.YtgmpcmnkcaniaaaGreatDoor
section
variable {P : Program} {σ : Ren} {h : Hp} {w : World}
theorem Sim.kill (s : Sim P σ h w) {b : Nat} {i : Option (Nat × Nat)} {t : TypeId} {cs : List Value} (hb : h b = some ⟨i, .cells t cs⟩) : Sim P σ (h.set b ⟨i, .dead⟩) w ∧ Fwd σ h w σ (h.set b ⟨i, .dead⟩) w := by
  have hd : (h.set b ⟨i, .dead⟩).dom = h.dom := Hp.dom_set hb rfl
  have hlive : ∀ c, (h.set b ⟨i, .dead⟩).live c → c ≠ b ∧ h.live c := fun c hc => by
    obtain ⟨i', t', cs3, e3⟩ := hc
    by_cases e : c = b
    · subst e; rw [Hp.set_same] at e3; cases e3
    · rw [Hp.set_other e] at e3; exact ⟨e, i', t', cs3, e3⟩
  refine ⟨⟨?_, ?_, ?_⟩, ⟨?_, fun _ _ _ => rfl, ?_, fun c hc _ => (hlive c hc).2, Nat.le_refl _, rfl, rfl, rfl⟩⟩
  · intro c i' t' cs3 hc
    rw [hd]
    have hne : c ≠ b := fun e => by subst e; rw [Hp.set_same] at hc; cases hc
    rw [Hp.set_other hne] at hc
    exact s.row c i' t' cs3 hc
  · intro c c' hc hc' hne
    exact s.apart c c' (hlive c hc).2 (hlive c' hc').2 hne
  · intro g hg hn
    refine s.glob g hg fun e => hn ?_
    by_cases e2 : g = b
    · subst e2; rw [hb] at e; cases e
    · rw [Hp.set_other e2]; exact e
  · rw [hd]; exact .refl _ _
  · intro c hc hl
    obtain ⟨i', t', cs3, e3⟩ := (hlive c hl).2
    rw [hc] at e3; cases e3
/-- A row grows in its place. -/
theorem Sim.regrow (s : Sim P σ h w) {b id off l n sz : Nat} {e0 : Nat} {t T : TypeId} {cs old new new' : List Value} (hb : h b = some ⟨some (sz, e0), .cells t cs⟩) (hid : h id = none) (hg : P.globals.size ≤ id)
    (hold : old = (cs.drop off).take (l * sz)) (hol : l * sz = 0 ∨ off + l * sz ≤ cs.length) (hlen : (old ++ new).length = (l + n) * sz) (hv : VRs σ h.dom new new') (hnew : ones new = true) (hfit : off + (l + n) * sz ≤ σ.cap b) :
    ∃ w' σ', (storeCells ⟨σ.blk b, σ.sh b + (off + l * sz), none⟩ new').run P w = .ok () w' ∧ Sim P σ' ((h.set b ⟨some (sz, e0), .dead⟩).set id ⟨some (sz, (l + n) * sz), .cells T (old ++ new)⟩) w' ∧
      Fwd σ h w σ' ((h.set b ⟨some (sz, e0), .dead⟩).set id ⟨some (sz, (l + n) * sz), .cells T (old ++ new)⟩) w' ∧ σ'.blk id = σ.blk b ∧ σ'.sh id = σ.sh b + off ∧ σ'.cap id = σ.cap b - off := by
  obtain ⟨C, T0, fr, h1, h2⟩ := s.row b _ t cs hb
  obtain ⟨q1, q2, q3⟩ := h2.opn sz e0 rfl
  have hnl := hv.length
  have hold' : old.length = l * sz := by
    rw [hold]
    rcases hol with e | e
    · rw [e]; simp
    · simp; omega
  have hnewl : new.length = (l + n) * sz - l * sz := by rw [List.length_append] at hlen; omega
  have hroom : σ.sh b + (off + l * sz) + new'.length ≤ C.size := by rw [hnl]; omega
  obtain ⟨C', g1, g2, g3⟩ := setCells_heap (σ.blk b) T0 fr new' (σ.sh b + (off + l * sz)) w C h1 hroom
  obtain ⟨z1, z2, z3, z4⟩ := setCells_size (σ.blk b) new' (σ.sh b + (off + l * sz)) w
  have hrun : (storeCells ⟨σ.blk b, σ.sh b + (off + l * sz), none⟩ new').run P w = .ok () (w.setCells (σ.blk b) (σ.sh b + (off + l * sz)) new') := by
    have := run_storeCells_cells (P := P) (σ.blk b) (σ.sh b + (off + l * sz)) new' 0 w (fun j hj => by
        simp only [World.cell?, h1]
        simp
        omega) (fun j hj => by
        unfold World.frozen?
        simp only [h1]
        cases hh : (decide (fr.1 ≤ σ.sh b + (off + l * sz) + 0 + j) && decide (σ.sh b + (off + l * sz) + 0 + j < fr.2)) with
        | false => rfl
        | true =>
          simp at hh
          have := h2.free _ hh.1 hh.2
          omega) (ones_vr hv hnew)
    simpa using this
  have hbid : b ≠ id := fun e => by subst e; rw [hb] at hid; cases hid
  let σ' : Ren := ⟨fun c => if c = id then σ.blk b else σ.blk c, fun c => if c = id then σ.sh b + off else σ.sh c, fun c => if c = id then σ.cap b - off else σ.cap c⟩
  have hdk : (h.set b ⟨some (sz, e0), .dead⟩).dom = h.dom := Hp.dom_set hb rfl
  have hle : Ren.le σ h.dom σ' ((h.set b ⟨some (sz, e0), .dead⟩).set id ⟨some (sz, (l + n) * sz), .cells T (old ++ new)⟩).dom := by
    refine ⟨fun c x hc => ?_, fun c x hc => ?_⟩
    · have hne : c ≠ id := fun e => by subst e; simp [Hp.dom, hid] at hc
      rw [← hdk] at hc
      unfold Hp.dom at hc ⊢
      rw [Hp.set_other hne]; exact hc
    · have hne : c ≠ id := fun e => by subst e; simp [Hp.dom, hid] at hc
      simp [σ', hne]
  have hlive : ∀ c, ((h.set b ⟨some (sz, e0), .dead⟩).set id ⟨some (sz, (l + n) * sz), .cells T (old ++ new)⟩).live c → c ≠ id → c ≠ b ∧ h.live c := fun c hc hne => by
    obtain ⟨i', t', cs3, e3⟩ := hc
    rw [Hp.set_other hne] at e3
    by_cases e : c = b
    · subst e; rw [Hp.set_same] at e3; cases e3
    · rw [Hp.set_other e] at e3; exact ⟨e, i', t', cs3, e3⟩
  refine ⟨_, σ', hrun, ⟨?_, ?_, ?_⟩, ⟨hle, ?_, ?_, ?_, by rw [z1]; exact Nat.le_refl _, z2, z3, z4⟩, by simp [σ'], by simp [σ'], by simp [σ']⟩
  · intro c i' t' cs3 hc
    by_cases e : c = id
    · subst e
      rw [Hp.set_same] at hc
      simp only [Option.some.injEq, Blk.mk.injEq, Body.cells.injEq] at hc
      obtain ⟨rfl, rfl, rfl⟩ := hc
      refine ⟨C', T0, fr, by simp [σ']; exact g1, ⟨by rw [g2]; exact h2.free, ?_, ?_, ?_⟩⟩
      · simp only [σ', if_true]
        rw [g2, hlen]
        omega
      · intro j v hj
        simp only [σ', if_true]
        rw [g3]
        rw [List.getElem?_append] at hj
        split at hj
        · rename_i hjo
          rw [if_neg (by omega)]
          have hj2 : cs[off + j]? = some v := by
            rw [hold, List.getElem?_take] at hj
            split at hj
            · rw [List.getElem?_drop] at hj; exact hj
            · cases hj
          obtain ⟨v', r1, r2⟩ := h2.cell (off + j) v hj2
          exact ⟨v', by rw [show σ.sh b + off + j = σ.sh b + (off + j) by omega]; exact r1, r2.mono hle⟩
        · rename_i hjo
          obtain ⟨v', r1, r2⟩ := hv.get hj
          have hjl := (List.getElem?_eq_some_iff.1 hj).1
          rw [if_pos (by omega)]
          exact ⟨v', by rw [show σ.sh b + off + j - (σ.sh b + (off + l * sz)) = j - old.length by omega]; exact r1, r2.mono hle⟩
      · intro sz' e' hie
        simp only [Option.some.injEq, Prod.mk.injEq] at hie
        obtain ⟨rfl, rfl⟩ := hie
        simp only [σ', if_true]
        rw [g2]
        exact ⟨hlen, by omega, by omega⟩
    · have hcl := hlive c ⟨i', t', cs3, hc⟩ e
      rw [Hp.set_other e, Hp.set_other hcl.1] at hc
      obtain ⟨C2, T2, fr2, h3, h4⟩ := s.row c i' t' cs3 hc
      refine ⟨C2, T2, fr2, ?_, ⟨h4.free, by simpa [σ', e] using h4.fits, fun j v hj => ?_, by simpa [σ', e] using h4.opn⟩⟩
      · simp only [σ', e, if_false]
        rw [setCells_other _ _ _ _ _ (s.apart c b hcl.2 ⟨_, _, _, hb⟩ hcl.1)]
        exact h3
      · obtain ⟨v', r1, r2⟩ := h4.cell j v hj
        exact ⟨v', by simpa [σ', e] using r1, r2.mono hle⟩
  · intro c c' hc hc' hne
    by_cases e : c = id
    · subst e
      have e' : c' ≠ c := fun e' => hne e'.symm
      have hcl := hlive c' hc' e'
      simp only [σ', if_true, e', if_false]
      exact s.apart b c' ⟨_, _, _, hb⟩ hcl.2 (fun e2 => hcl.1 e2.symm)
    · have hcl := hlive c hc e
      by_cases e' : c' = id
      · subst e'
        simp only [σ', if_true, e, if_false]
        exact s.apart c b hcl.2 ⟨_, _, _, hb⟩ hcl.1
      · have hcl' := hlive c' hc' e'
        simp only [σ', e, e', if_false]
        exact s.apart c c' hcl.2 hcl'.2 hne
  · intro g hg' hn
    have e : g ≠ id := by omega
    rw [Hp.set_other e] at hn
    have := s.glob g hg' fun e1 => hn (by
      by_cases e2 : g = b
      · subst e2; rw [hb] at e1; cases e1
      · rw [Hp.set_other e2]; exact e1)
    simpa [σ', e] using this
  · intro k _ hk
    exact setCells_other _ _ _ _ _ (fun e => hk b ⟨_, _, _, hb⟩ e.symm)
  · intro c hc hl
    by_cases e : c = id
    · subst e
      refine .inr ⟨b, ⟨_, _, _, hb⟩, fun hlb => (hlive b hlb hbid).1 rfl, by simp [σ']⟩
    · obtain ⟨i', t', cs3, e3⟩ := (hlive c hl e).2
      rw [hc] at e3; cases e3
  · intro c hl hn
    by_cases e : c = id
    · subst e; exact (hn hid).elim
    · exact (hlive c hl e).2
end
end Go.Proofs.YtgmpcmnkcaniaaaGreatDoor

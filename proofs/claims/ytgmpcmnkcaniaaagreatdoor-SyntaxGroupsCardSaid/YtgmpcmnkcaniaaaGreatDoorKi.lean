/-
  Operations that read and write memory.
-/
import Derived.Test.YtgmpcmnkcaniaaaGreatDoorKh
namespace Go.Proofs.YtgmpcmnkcaniaaaGreatDoor
section
variable {P : Program} {env : Env} {H : AH} {β : Type} {o : Oper} {c : Value → AH → Option β} {r : β}
theorem good_load {t : TypeId} {x : Operand} (hop : o.op = .load t x) (h : ld1K P env H t x c = some r) : ResC P env H o c r .l := by
  unfold ld1K at h
  split at h
  · rename_i v hv
    unfold loadK at h
    split at h
    · rename_i b off
      split at h
      · rename_i i T cs hb
        split at h
        · rename_i n h1 h2
          obtain ⟨h3, h4⟩ := rowK_inv h
          refine ⟨_, h4, .inr ⟨b, i, T, cs, hb, fun σ D ρ hr => ?_⟩⟩
          obtain ⟨hd, hx⟩ := (hr x _ hv).ptr_inv
          refine ⟨hd, fun _ w C T fr q1 q2 => ?_⟩
          obtain ⟨row, g1, g2⟩ := Row.cells (P := P) q1 q2 h3
          refine ⟨.agg ⟨row⟩, ?_, .agg _ _ g2⟩
          simp [execOp, hop, hx, Instr.loadAt, Instr.sureAddr, loadVar, run_isAgg h1, run_size h2, g1]
        · rename_i h1
          split at h
          · rename_i u hu
            rw [nth_eq] at hu
            refine ⟨_, h, .inr ⟨b, i, T, cs, hb, fun σ D ρ hr => ?_⟩⟩
            obtain ⟨hd, hx⟩ := (hr x _ hv).ptr_inv
            refine ⟨hd, fun _ w C T fr q1 q2 => ?_⟩
            obtain ⟨u', g1, g2⟩ := Row.at q1 q2 hu
            refine ⟨u', ?_, g2⟩
            simp [execOp, hop, hx, Instr.loadAt, Instr.sureAddr, loadVar, run_isAgg h1, load, Sem.run, g1]
          · cases h
        · cases h
      · cases h
    · cases h
  · cases h
/-- Cells are written. -/
theorem storeRow_inv {b o2 : Nat} {row : List Value} {c : AH → Option β} {r : β} (hok : AH.ok P H) (h : storeRow b o2 row H c = some r) : ∃ H' i t cs cs2, c H' = some r ∧ AH.ok P H' ∧ H'.next = H.next ∧ H.get b = some ⟨i, .cells t cs⟩ ∧ H'.get = Hp.set H.get b ⟨i, .cells t cs2⟩ ∧ (row = [] ∨ o2 + row.length ≤ cs.length) ∧ cs2.length = cs.length ∧
    (∀ j : Nat, cs2[j]? = if o2 ≤ j ∧ j < o2 + row.length then row[j - o2]? else cs[j]?) ∧ ones row = true := by
  unfold storeRow at h
  split at h
  · rename_i i t cs hb ho
    obtain ⟨h1, cs2, h2, h3, h4⟩ := putK_inv h
    obtain ⟨H', h5, h6, h7⟩ := AH.setK_inv h2
    exact ⟨H', i, t, cs, cs2, h5, AH.ok_set hok hb h6 h7, h6, hb, h7, h1, h3, h4, ho⟩
  · cases h
theorem Sim.write {σ : Ren} {h : Hp} {w : World} (s : Sim P σ h w) {b o2 : Nat} {i : Option (Nat × Nat)} {t : TypeId} {cs cs2 row row' : List Value} (hb : h b = some ⟨i, .cells t cs⟩) (hr : row = [] ∨ o2 + row.length ≤ cs.length) (hl : cs2.length = cs.length)
    (hg : ∀ j : Nat, cs2[j]? = if o2 ≤ j ∧ j < o2 + row.length then row[j - o2]? else cs[j]?) (ho : ones row = true) (hv : VRs σ h.dom row row') :
    ∃ w', (storeCells ⟨σ.blk b, σ.sh b + o2, none⟩ row').run P w = .ok () w' ∧ Sim P σ (h.set b ⟨i, .cells t cs2⟩) w' ∧ Fwd σ h w σ (h.set b ⟨i, .cells t cs2⟩) w' := by
  obtain ⟨h1, h2⟩ := s.put hb hr hv hl hg
  refine ⟨_, ?_, h1, h2⟩
  have hrl := hv.length
  have hlt : ∀ j, j < row'.length → o2 + j < cs.length := fun j hj => by
    rcases hr with rfl | hr
    · rw [List.length_nil] at hrl; omega
    · omega
  have := run_storeCells_cells (P := P) (σ.blk b) (σ.sh b + o2) row' 0 w (fun j hj => by
      obtain ⟨v', g1, _⟩ := s.cell hb (List.getElem?_eq_getElem (hlt j hj))
      rw [show σ.sh b + o2 + 0 + j = σ.sh b + (o2 + j) by omega, g1]; rfl) (fun j hj => by
      rw [show σ.sh b + o2 + 0 + j = σ.sh b + (o2 + j) by omega]
      exact s.unfrozen hb (hlt j hj)) (ones_vr hv ho)
  simpa using this
theorem good_store (hok : AH.ok P H) {t : TypeId} {x y : Operand} (hop : o.op = .store t x y) (h : st1K P env H t x y c = some r) : ResC P env H o c r .w := by
  unfold st1K at h
  split at h
  · rename_i v u hv hu
    unfold storeK at h
    split at h
    · rename_i b off
      split at h
      · rename_i n hn
        split at h
        · rename_i hl
          obtain ⟨H', i, T, cs, cs2, h1, h2, h3, h4, h5, h6, h7, h8, h9⟩ := storeRow_inv hok h
          refine ⟨_, H', h1, h2, by omega, fun σ w ρ hS hr => ?_⟩
          obtain ⟨_, hx⟩ := (hr x _ hv).ptr_inv
          have hy := (hr y _ hu)
          obtain ⟨w', g1, g2, g3⟩ := hS.write h4 h6 h7 h8 h9 hy.cells
          have hlen : (ρ y).cells.size = n := by rw [cellsL_eq]; simp [hy.cells.length, Nat.eq_of_beq_eq_true hl]
          unfold OpOk
          have : (execOp ρ o).run P w = .ok .skip w' := by
            simp only [execOp, hop, hx, Instr.storeAt, Instr.sureAddr, storeVar]
            have hlen' : (cellsL (ρ y)).length = n := by rw [cellsL_eq] at hlen; simpa using hlen
            simp [run_size hn, cellsL_eq, hlen', g1]
          rw [this]
          exact ⟨σ, by rw [h5]; exact g2, by rw [h5]; exact g3, .tuple _ _ .nil⟩
        · cases h
      · cases h
    · cases h
  · cases h
end
end Go.Proofs.YtgmpcmnkcaniaaaGreatDoor

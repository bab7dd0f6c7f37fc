/-
  The walks of payrollgen's New and Next.
-/
import Derived.Test.YtgmpcmnkcaniaaaGreatDoorTp
namespace Go.Proofs.YtgmpcmnkcaniaaaGreatDoor
open Go.RowKit

theorem TapeOk.drewN {b : Nat} {ns : List Int} {w : World} (h : TapeOk b ns w) (n : Nat) : TapeOk b ns (w.drewN n) := h.below (belowN (Below.refl _ _) n)

theorem setCell_at {w : World} {b i : Nat} {cs : Array Value} {t : TypeId} {fr : Nat × Nat} (h : w.heap[b]? = some (.cells cs t fr)) (x : Value) : (w.setCell ⟨b, i, none⟩ x).heap[b]? = some (.cells (cs.setIfInBounds i x) t fr) := by
  simp [World.setCell, Array.getElem?_modify, h]

set_option maxHeartbeats 1000000 in
set_option maxRecDepth 100000 in
theorem next_any (b : Nat) (ns : List Int) (n : Int) (w : World) (h : TapeOk b ns w) (hn0 : -9223372036854775808 ≤ n) (hn : n ≤ 2000000000000) :
    Calls Tryz.prog 5 #[.pointer (some ⟨b, 0, none⟩), .int .i64 n] w (NextPost b ns n w) := by
  have HT := Lib.hid h
  have hlt := h.lt
  obtain ⟨v, k, hk, hb, hi⟩ := h
  obtain ⟨A, c, rfl, hm, hx, hc⟩ := hi
  have HB := Lib.hid hb
  have c0 := Lib.cell_of_heap hb 0
  have c1 := Lib.cell_of_heap hb 1
  simp only [List.getElem?_toArray, List.getElem?_cons_zero, List.getElem?_cons_succ] at c0 c1
  have f1 := Lib.frozen_of_heap hb 1
  unfold maxLen at hm
  clear hb
  by_cases h1 : n < 1
  · clear hc hx
    go_enter Tryz.func5, Tryz.ntmps5
    go_wp2_with fail
    go_quiet (fail)
    go_wp2_with fail
    go_ret
    exact ⟨0, .inl rfl, rfl, HT.out.drewN _, (But.refl _ _).drewN _⟩
  · have hd1 : decide (n < 1) = false := decide_eq_false h1
    by_cases h2 : ns.length ≤ k
    · have hd2 : decide (ns.length ≤ k) = true := decide_eq_true h2
      clear hc hx
      go_enter Tryz.func5, Tryz.ntmps5
      go_wp2_with fail
      go_quiet (fail)
      go_wp2_with fail
      go_ret
      exact ⟨0, .inl rfl, rfl, HT.out.drewN _, (But.refl _ _).drewN _⟩
    · have hd2 : decide (ns.length ≤ k) = false := decide_eq_false h2
      obtain ⟨g, off, rfl, hg, hcell⟩ := hc (by omega)
      have hck := hcell k (by omega)
      obtain ⟨x, hx0⟩ : ∃ x, ns[k] = x := ⟨_, rfl⟩
      have hxb := hx ns[k] (List.getElem_mem _)
      rw [hx0] at hck hxb
      obtain ⟨hxl, hxu⟩ := hxb
      clear hx hx0 hc hcell
      go_enter Tryz.func5, Tryz.ntmps5
      go_wp2_with fail
      go_quiet (fail)
      go_wp2_with fail
      have hb1 : ((w.drewN nq).setCell ⟨b, 1, none⟩ (.int .i64 ((k : Int) + 1))).heap[b]? = some (.cells #[.slice (some ⟨g, off, none⟩) ns.length c, .int .i64 ((k : Int) + 1)] 42 (0, 0)) := setCell_at (w := w.drewN nq) (i := 1) HB.out _
      have hck1 : ((w.drewN nq).setCell ⟨b, 1, none⟩ (.int .i64 ((k : Int) + 1))).cell? ⟨g, off + k, none⟩ = some (.int .i64 x) := by
        rw [World.cell?_of_block (w := w) (Below.heap_setCell (w.drewN nq) _ _ _ (by simp; omega))]
        exact hck
      have hB1 : But b w ((w.drewN nq).setCell ⟨b, 1, none⟩ (.int .i64 ((k : Int) + 1))) := ((But.refl b w).drewN nq).setCell rfl _
      clear c0 c1 f1 hck hd1 hd2
      generalize (w.drewN nq).setCell ⟨b, 1, none⟩ (.int .i64 ((k : Int) + 1)) = w1 at *
      have HT1 : Hid (TapeOk b ns w1) := by
        obtain ⟨v, k', hk', hb', hi⟩ := HT.out
        refine ⟨_, k + 1, by omega, hb1, ?_⟩
        have hv : v = .slice (some ⟨g, off, none⟩) ns.length c := by
          have := HB.out
          rw [hb'] at this
          simp at this
          exact this.1
        rw [← hv]
        exact hi.keep (fun g hg => hB1.block g (by omega) (by omega))
      have c0 := Lib.cell_of_heap hb1 0
      have c1 := Lib.cell_of_heap hb1 1
      simp only [List.getElem?_toArray, List.getElem?_cons_zero, List.getElem?_cons_succ] at c0 c1
      clear hb1 HB HT
      have hkn : (k : Int) < ns.length := by omega
      go_quiet ((go_at_call 10; exact quiet_left (mod_any _ _ _ (by omega) (by omega) (by omega) (by omega))))
      go_wp2_with fail
      go_ret
      have hm0 := Int.emod_nonneg x (show n ≠ 0 by omega)
      have hm1 := Int.emod_lt_of_pos x (show 0 < n by omega)
      obtain ⟨r, hr⟩ := Int.eq_ofNat_of_zero_le hm0
      exact ⟨r, .inr (by omega), ret_int hr, HT1.out.drewN _, hB1.drewN _⟩

theorem tapeNew_any (v : Value) (ns : List Int) (w : World) (h : IntsAt w w.heap.size v ns) :
    Calls Tryz.prog 4 #[v] w fun e w' => e = .returned (.pointer (some ⟨w.heap.size, 0, none⟩)) ∧ TapeOk w.heap.size ns w' ∧ w.heap.size < w'.heap.size ∧ Below w.heap.size w w' := by
  have HI := Lib.hid h
  obtain ⟨A, c, rfl, _⟩ := h
  go_enter Tryz.func4, Tryz.ntmps4
  go_wp2_with fail
  go_ret
  refine ⟨rfl, ⟨_, 0, Nat.zero_le _, heap_alloc_new w _, HI.out.keep (fun g hg => Below.heap_alloc _ _ _ hg)⟩, by simp, (Below.refl _ _).alloc (Nat.le_refl _) _⟩
end Go.Proofs.YtgmpcmnkcaniaaaGreatDoor

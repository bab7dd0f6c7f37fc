/-
  paygen's Fact: its ordered branches.
  The console's text of a command is the reference's.
  The reference's command: crash.
-/
import Derived.Test.YtdcbnkimjhefkaaGreatDoorV24
import Derived.Test.YtdcbnkimjhefkaaGreatDoorV23
namespace Go.Proofs.YtdcbnkimjhefkaaGreatDoor
open Go.RowKit
set_option maxRecDepth 100000
def zeroF : List Value := [.int .i64 0, .int .i64 0, .int .i64 0, .string ⟨⟨[]⟩⟩, .int .i64 0, .int .i64 0, .int .i64 0, .string ⟨⟨[]⟩⟩]
structure FaS (b : Nat) (ns : List Int) (lim : Nat) (w0 : World) (k2 k3 : Nat) (c : Cmd) (w : World) : Prop where
  dk : DK b ns lim w0 w
  h2 : w.heap[k2]? = some (.cells zeroF.toArray 61 (0, 0))
  h3 : w.heap[k3]? = some (.cells c.fact.toArray 61 (0, 0))
  l2 : w0.heap.size ≤ k2
  l3 : k2 < k3
  lb : b < w0.heap.size
variable {b : Nat} {ns : List Int} {lim lim' : Nat} {w0 : World} {k2 k3 : Nat} {c c' : Cmd} {w w' : World} {R : Ending → World → Prop} {E : Nat → Value}
theorem FaS.call (h : FaS b ns lim w0 k2 k3 c w) (D : DK b ns lim' w w') : FaS b ns lim' w0 k2 k3 c w' := by
  have := h.l2
  have := h.l3
  have := h.lb
  exact ⟨h.dk.next D, (D.but.block _ (heap_lt h.h2) (by omega)).trans h.h2, (D.but.block _ (heap_lt h.h3) (by omega)).trans h.h3, h.l2, h.l3, h.lb⟩
theorem FaS.below (h : FaS b ns lim w0 k2 k3 c w) (hb : Below w.heap.size w w') : FaS b ns lim w0 k2 k3 c w' := h.call ⟨h.dk.deck.below hb, .of_below hb⟩
theorem FaS.more (h : FaS b ns lim w0 k2 k3 c w) (hl : lim ≤ lim') : FaS b ns lim' w0 k2 k3 c w := ⟨⟨h.dk.deck.more hl, h.dk.but⟩, h.h2, h.h3, h.l2, h.l3, h.lb⟩
theorem FaS.ne (h : FaS b ns lim w0 k2 k3 c w) : k3 ≠ k2 := by have := h.l3; omega
abbrev pb (k : Nat) : Value := .pointer (some ⟨k, 0, none⟩)
abbrev entF (k : Nat) (c : Cmd) : Ent := ⟨k, 0, c.fact, 61, true⟩
abbrev entZ (k : Nat) : Ent := ⟨k, 0, zeroF, 61, true⟩
/-- What Fact leaves. -/
def FactPost (b : Nat) (ns : List Int) (lim : Nat) (w0 : World) (e : Ending) (w : World) : Prop := ∃ c, GenF c ∧ e = .returned (.agg ⟨c.fact⟩) ∧ DK b ns lim w0 w
noncomputable def codeFt : Code := Tryz.f60.body.getD .skip
noncomputable def tFt0 : List Item := advT 60 [.code codeFt]
noncomputable def tFt1 : List Item := advT 60 (popOp tFt0)
noncomputable def tFt2 : List Item := advT 60 (popOp tFt1)
noncomputable def tFe1 : List Item := advT 60 (elseT (advT 60 (popOp tFt2)))
noncomputable def tFe2 : List Item := advT 60 (elseT tFe1)
noncomputable def tFc1 : List Item := advT 60 (thenT tFe2)
noncomputable def tFq1 : List Item := advT 60 (thenT tFc1)
noncomputable def tFe3 : List Item := advT 60 (elseT tFc1)
noncomputable def tFc2 : List Item := advT 60 (thenT tFe3)
noncomputable def tFq2 : List Item := advT 60 (thenT tFc2)
noncomputable def tFe4 : List Item := advT 60 (elseT tFc2)
noncomputable def tFq3 : List Item := advT 60 (thenT tFe4)
noncomputable def tFe5 : List Item := advT 60 (elseT tFe4)
noncomputable def tFq4 : List Item := advT 60 (thenT tFe5)
noncomputable def tFe6 : List Item := advT 60 (elseT tFe5)
noncomputable def tFq5 : List Item := advT 60 (thenT tFe6)
noncomputable def tFe7 : List Item := advT 60 (elseT tFe6)
noncomputable def tFc3 : List Item := advT 60 (thenT tFe7)
noncomputable def tFq6 : List Item := advT 60 (thenT tFc3)
noncomputable def tFq7 : List Item := advT 60 (elseT tFc3)
noncomputable def tFz : List Item := advT 80 (thenT (advT 60 (popOp tFt2)))
abbrev envF (b k2 k3 : Nat) : List (Nat × Value) := [(0, pb b), (2, pb k2), (3, pb k3)]
theorem fact_ret {O : List Nat} {B z : Nat} {x : Nat × Nat} {q : List (Nat × Nat)} (hG : GenF c') (S : FaS b ns lim w0 k2 k3 c w) (hL : Lies O B w' ⟨z, [entF k3 c', ⟨k2, 0, c'.fact, 61, true⟩], x, q⟩) (hK : Kept [k3, k2] w.heap.size w w') :
    At Tryz.prog 60 (FactPost b ns lim w0) tFz (Fr 101 (updL E [(2, pb k2)])) w' := by
  have g2 := hL.sat.good ⟨k2, 0, c'.fact, 61, true⟩ (by simp)
  have h1 := S.l2
  have h3 := S.l3
  have h4 := S.lb
  refine at_ret (fn := Tryz.f60) (by kernel_rfl) (by kernel_rfl) ⟨0, [⟨k2, 0, c'.fact, 61, true⟩], (0, 0), []⟩ (fun e he => by rw [List.mem_singleton.1 he]; exact g2) (.agg ⟨c'.fact⟩) (by kernel_rfl) (by kernel_rfl) ⟨c', hG, rfl, ?_, ?_⟩
  · exact S.dk.deck.kept (fun k hk => by simp at hk; omega) hK
  · exact S.dk.but.kept (fun k hk => by simp at hk; omega) hK
/-- A new literal list of ints stands in the last block. -/
theorem pick_call {td : List Item} {l : List (Nat × Value)} {g cap : Nat} {xs : List Int} {dst : Option Tmp} {ops : List Operand} (S : FaS b ns lim w0 k2 k3 c w) (hg : w.heap[g]? = some (.cells (xs.map (.int .i64)).toArray 3 (0, 0))) (hgk : k3 < g) (hx : xs ≠ []) (hxl : xs.length ≤ 100) (hlim : lim ≤ 4611686018427380000)
    (hc : curCall 101 (updL E l) td = some (59, ops, dst)) (ha : ops.map (evE 101 (updL E l)) = [pb b, .slice (some ⟨g, 0, none⟩) xs.length cap])
    (hk : ∀ x w2, x ∈ xs → FaS b ns (lim + 1) w0 k2 k3 c w2 → At Tryz.prog 60 R (popOp td) (Fr 101 (updO (updL E l) dst (.int .i64 x))) w2) :
    At Tryz.prog 60 R td (Fr 101 (updL E l)) w := by
  have h1 := S.l2
  have h3 := S.l3
  have h4 := S.lb
  refine at_call 59 ops dst [pb b, .slice (some ⟨g, 0, none⟩) xs.length cap] hc ha (by kernel_rfl) ((dpick_any b ns lim w S.dk.deck (by omega) g cap xs hx hxl (by omega) (heap_lt hg) (rangeAt_lit hg 0 _ (by rw [List.drop_zero, List.take_length]))).mono fun e w2 hh => ?_)
  obtain ⟨x, hxm, rfl, D⟩ := hh
  exact ⟨_, rfl, hk x w2 hxm (S.call D)⟩
theorem next_call {td : List Item} {l : List (Nat × Value)} {n : Nat} {dst : Option Tmp} {ops : List Operand} (S : FaS b ns lim w0 k2 k3 c w) (hn : 1 ≤ n) (hn2 : n ≤ 1000000) (hlim : lim ≤ 4611686018427380000)
    (hc : curCall 101 (updL E l) td = some (32, ops, dst)) (ha : ops.map (evE 101 (updL E l)) = [pb b, .int .i64 n])
    (hk : ∀ (k : Nat) w2, k < n → FaS b ns (lim + 1) w0 k2 k3 c w2 → At Tryz.prog 60 R (popOp td) (Fr 101 (updO (updL E l) dst (.int .i64 k))) w2) :
    At Tryz.prog 60 R td (Fr 101 (updL E l)) w := by
  refine at_call 32 ops dst [pb b, .int .i64 n] hc ha (by kernel_rfl) ((dnext_any b ns lim n w S.dk.deck (by omega) (by omega) (by omega)).mono fun e w2 hh => ?_)
  obtain ⟨k, hk2, rfl, D⟩ := hh
  exact ⟨_, rfl, hk k w2 (by omega) (S.call D)⟩
theorem fact_input {e d : Int} (he : mid e) (hd : mid d) (hlim : lim ≤ 4611686018427380000) (S : FaS b ns lim w0 k2 k3 (fc e 0 d [] 0 0 0 []) w) (k : Nat) (hk : k = 2 ∨ k = 3 ∨ k = 4 ∨ k = 5) :
    At Tryz.prog 60 (FactPost b ns (lim + 1) w0) (popOp tFt2) (Fr 101 (updL E (envF b k2 k3 ++ [(11, .int .i64 k)]))) w := by
  have h3 := S.l3
  have go : At Tryz.prog 60 (FactPost b ns (lim + 1) w0) (popOp tFt2) (Fr 101 (updL E (envF b k2 k3 ++ [(11, .int .i64 k)]))) w := by
    have key : ∀ w1 E1, FaS b ns lim w0 k2 k3 (fc e 0 d [] 0 0 0 []) w1 → w1.heap[w.heap.size]? = some (.cells (([3000000, 1500000, 2499990, 0, -100000, 1000000000, 4000001] : List Int).map (.int .i64)).toArray 3 (0, 0)) → At Tryz.prog 60 (FactPost b ns (lim + 1) w0) tFq1 (Fr 101 (updL E1 (envF b k2 k3 ++ [(41, pb b), (42, .slice (some ⟨w.heap.size, 0, none⟩) 7 7)]))) w1 := by
      intro w1 E1 S1 hg
      have hk3 := heap_lt S.h3
      refine pick_call (dst := some 43) (ops := [.tmp 41, .tmp 42]) (cap := 7) S1 hg (by omega) (by simp) (by simp) hlim (by kernel_rfl) (by kernel_rfl) fun x w2 hx S2 => ?_
      have hv : mid x := by
        simp only [List.mem_cons, List.not_mem_nil, or_false] at hx
        rcases hx with rfl | rfl | rfl | rfl | rfl | rfl | rfl <;> exact ⟨by decide, by decide⟩
      refine at_runC 300 [(2, 1)] (popOp tFq1) w2.heap.size [entF k3 (fc e 0 d [] 0 0 0 []), entZ k2] tFz [(2, pb k2)] w2.heap.size [entF k3 (fc e 3 d [114, 97, 116, 101] x 0 0 []), ⟨k2, 0, (fc e 3 d [114, 97, 116, 101] x 0 0 []).fact, 61, true⟩] (lies_two S2.h3 S2.h2 S2.ne) (by kernel_rfl) fun w9 E9 hL9 hK9 => ?_
      exact fact_ret (gen3rate e d x he hd hv) S2 hL9 hK9
    have hsz := S.h3
    rcases hk with rfl | rfl | rfl | rfl
    all_goals
      refine at_runC 300 [] (popOp tFt2) w.heap.size [] tFq1 (envF b k2 k3 ++ [(41, pb b), (42, .slice (some ⟨w.heap.size, 0, none⟩) 7 7)]) (w.heap.size + 1) [⟨w.heap.size, 0, ([3000000, 1500000, 2499990, 0, -100000, 1000000000, 4000001] : List Int).map (.int .i64), 3, true⟩] (lies_nil w) (by kernel_rfl) fun w1 E1 hL1 hK1 => ?_
      exact key w1 E1 (S.below (hK1.below (Nat.le_refl _) (fun k hk => by cases hk))) (own_good (hL1.sat.good _ (List.mem_singleton.2 rfl)))
  exact go
theorem fact_hours {e d : Int} (he : mid e) (hd : mid d) (hlim : lim ≤ 4611686018427380000) (S : FaS b ns lim w0 k2 k3 (fc e 0 d [] 0 0 0 []) w) (k : Nat) (hk : k = 6 ∨ k = 7) :
    At Tryz.prog 60 (FactPost b ns (lim + 1) w0) (popOp tFt2) (Fr 101 (updL E (envF b k2 k3 ++ [(11, .int .i64 k)]))) w := by
  have h3 := S.l3
  have go : At Tryz.prog 60 (FactPost b ns (lim + 1) w0) (popOp tFt2) (Fr 101 (updL E (envF b k2 k3 ++ [(11, .int .i64 k)]))) w := by
    have key : ∀ w1 E1, FaS b ns lim w0 k2 k3 (fc e 0 d [] 0 0 0 []) w1 → w1.heap[w.heap.size]? = some (.cells (([480, 60, 7, 0, 1440] : List Int).map (.int .i64)).toArray 3 (0, 0)) → At Tryz.prog 60 (FactPost b ns (lim + 1) w0) tFq2 (Fr 101 (updL E1 (envF b k2 k3 ++ [(50, pb b), (51, .slice (some ⟨w.heap.size, 0, none⟩) 5 5)]))) w1 := by
      intro w1 E1 S1 hg
      have hk3 := heap_lt S.h3
      refine pick_call (dst := some 52) (ops := [.tmp 50, .tmp 51]) (cap := 5) S1 hg (by omega) (by simp) (by simp) hlim (by kernel_rfl) (by kernel_rfl) fun x w2 hx S2 => ?_
      have hv : mid x := by
        simp only [List.mem_cons, List.not_mem_nil, or_false] at hx
        rcases hx with rfl | rfl | rfl | rfl | rfl <;> exact ⟨by decide, by decide⟩
      refine at_runC 300 [(2, 1)] (popOp tFq2) w2.heap.size [entF k3 (fc e 0 d [] 0 0 0 []), entZ k2] tFz [(2, pb k2)] w2.heap.size [entF k3 (fc e 4 d [115, 104, 105, 102, 116, 115] x 0 0 []), ⟨k2, 0, (fc e 4 d [115, 104, 105, 102, 116, 115] x 0 0 []).fact, 61, true⟩] (lies_two S2.h3 S2.h2 S2.ne) (by kernel_rfl) fun w9 E9 hL9 hK9 => ?_
      exact fact_ret (gen4shifts e d x he hd hv) S2 hL9 hK9
    have hsz := S.h3
    rcases hk with rfl | rfl
    all_goals
      refine at_runC 300 [] (popOp tFt2) w.heap.size [] tFq2 (envF b k2 k3 ++ [(50, pb b), (51, .slice (some ⟨w.heap.size, 0, none⟩) 5 5)]) (w.heap.size + 1) [⟨w.heap.size, 0, ([480, 60, 7, 0, 1440] : List Int).map (.int .i64), 3, true⟩] (lies_nil w) (by kernel_rfl) fun w1 E1 hL1 hK1 => ?_
      exact key w1 E1 (S.below (hK1.below (Nat.le_refl _) (fun k hk => by cases hk))) (own_good (hL1.sat.good _ (List.mem_singleton.2 rfl)))
  exact go
variable {w2 : World}
theorem fact_hired {e d : Int} (he : mid e) (hd : mid d) (S2 : FaS b ns lim w0 k2 k3 (fc e 0 d [] 0 0 0 []) w2) :
    At Tryz.prog 60 (FactPost b ns lim w0) (popOp tFt2) (Fr 101 (updL E (envF b k2 k3 ++ [(11, .int .i64 (0 : Nat))]))) w2 := by
    refine at_runC 300 [(2, 1)] (popOp tFt2) w2.heap.size [entF k3 (fc e 0 d [] 0 0 0 []), entZ k2] tFz [(2, pb k2)] w2.heap.size [entF k3 (fc e 1 d [] 0 0 0 []), ⟨k2, 0, (fc e 1 d [] 0 0 0 []).fact, 61, true⟩] (lies_two S2.h3 S2.h2 S2.ne) (by kernel_rfl) fun w9 E9 hL9 hK9 => ?_
    exact fact_ret (gen1 e d he hd) S2 hL9 hK9
theorem fact_left {e d : Int} (he : mid e) (hd : mid d) (S2 : FaS b ns lim w0 k2 k3 (fc e 0 d [] 0 0 0 []) w2) :
    At Tryz.prog 60 (FactPost b ns lim w0) (popOp tFt2) (Fr 101 (updL E (envF b k2 k3 ++ [(11, .int .i64 (1 : Nat))]))) w2 := by
    refine at_runC 300 [(2, 1)] (popOp tFt2) w2.heap.size [entF k3 (fc e 0 d [] 0 0 0 []), entZ k2] tFz [(2, pb k2)] w2.heap.size [entF k3 (fc e 2 d [] 0 0 0 []), ⟨k2, 0, (fc e 2 d [] 0 0 0 []).fact, 61, true⟩] (lies_two S2.h3 S2.h2 S2.ne) (by kernel_rfl) fun w9 E9 hL9 hK9 => ?_
    exact fact_ret (gen2 e d he hd) S2 hL9 hK9
theorem fact_rules {e d : Int} (_he : mid e) (hd : mid d) (hlim : lim ≤ 4611686018427380000) (S : FaS b ns lim w0 k2 k3 (fc e 0 d [] 0 0 0 []) w) :
    At Tryz.prog 60 (FactPost b ns (lim + 1) w0) (popOp tFt2) (Fr 101 (updL E (envF b k2 k3 ++ [(11, .int .i64 (9 : Nat))]))) w := by
  refine at_runC 300 [] (popOp tFt2) w.heap.size [] tFq4 (envF b k2 k3 ++ [(68, pb b)]) w.heap.size [] (lies_nil w) (by kernel_rfl) fun w1 E1 hL1 hK1 => ?_
  have S1 := S.below (hK1.below (Nat.le_refl _) (fun k hk => by cases hk))
  refine next_call (n := 2) (dst := some 69) (ops := [.tmp 68, .const (.int .i64 2)]) S1 (by omega) (by omega) hlim (by kernel_rfl) (by kernel_rfl) fun k w2 hk S2 => ?_
  have hv : mid (k : Int) := ⟨by omega, by omega⟩
  refine at_runC 300 [(2, 1)] (popOp tFq4) w2.heap.size [entF k3 (fc e 0 d [] 0 0 0 []), entZ k2] tFz [(2, pb k2)] w2.heap.size [entF k3 (fc 0 6 d [] k 0 0 []), ⟨k2, 0, (fc 0 6 d [] k 0 0 []).fact, 61, true⟩] (lies_two S2.h3 S2.h2 S2.ne) (by kernel_rfl) fun w9 E9 hL9 hK9 => ?_
  exact fact_ret (gen6 d k hd hv) S2 hL9 hK9
theorem fact_depend {e d : Int} (he : mid e) (hd : mid d) (hlim : lim ≤ 4611686018427380000) (S : FaS b ns lim w0 k2 k3 (fc e 0 d [] 0 0 0 []) w) :
    At Tryz.prog 60 (FactPost b ns (lim + 1) w0) (popOp tFt2) (Fr 101 (updL E (envF b k2 k3 ++ [(11, .int .i64 (10 : Nat))]))) w := by
  refine at_runC 300 [] (popOp tFt2) w.heap.size [] tFq5 (envF b k2 k3 ++ [(75, pb b)]) w.heap.size [] (lies_nil w) (by kernel_rfl) fun w1 E1 hL1 hK1 => ?_
  have S1 := S.below (hK1.below (Nat.le_refl _) (fun k hk => by cases hk))
  refine next_call (n := 4) (dst := some 76) (ops := [.tmp 75, .const (.int .i64 4)]) S1 (by omega) (by omega) hlim (by kernel_rfl) (by kernel_rfl) fun k w2 hk S2 => ?_
  have hv : mid (k : Int) := ⟨by omega, by omega⟩
  refine at_runC 300 [(2, 1)] (popOp tFq5) w2.heap.size [entF k3 (fc e 0 d [] 0 0 0 []), entZ k2] tFz [(2, pb k2)] w2.heap.size [entF k3 (fc e 7 d [] k 0 0 []), ⟨k2, 0, (fc e 7 d [] k 0 0 []).fact, 61, true⟩] (lies_two S2.h3 S2.h2 S2.ne) (by kernel_rfl) fun w9 E9 hL9 hK9 => ?_
  exact fact_ret (gen7 e d k he hd hv) S2 hL9 hK9
end Go.Proofs.YtdcbnkimjhefkaaGreatDoor

namespace Go.Proofs.YtdcbnkimjhefkaaGreatDoor
end Go.Proofs.YtdcbnkimjhefkaaGreatDoor

namespace Go.Proofs.YtdcbnkimjhefkaaGreatDoor
open Go.RowKit
set_option maxRecDepth 100000
/-- An operation that stores, by evaluation. -/
theorem OpOk.runs {P : Program} {o : Oper} {ρ : Operand → Value} {w : World} {K : Value → World → Prop} {O : List Nat} {B : Nat} (ms ms' : MS) (r : Next) (v : Value) (hm : mrun P (execOp ρ o) ms = some (r, ms')) (hv : r = .value v ∨ (r = .skip ∧ v = undef)) (hL : Lies O B w ms)
    (he : ms'.eqs.map Prod.fst = ms'.eqs.map Prod.snd) (hk : ∀ w', Lies O B w' ms' → Kept O B w w' → K v w') : OpOk P o ρ w K := by
  have he' : ∀ p ∈ ms'.eqs, p.1 = p.2 := fun p hp => by
    obtain ⟨i, hi⟩ := List.mem_iff_getElem?.1 hp
    have h1 : (ms'.eqs.map Prod.fst)[i]? = some p.1 := by rw [List.getElem?_map, hi]; rfl
    have h2 : (ms'.eqs.map Prod.snd)[i]? = some p.2 := by rw [List.getElem?_map, hi]; rfl
    rw [he, h2] at h1
    exact (Option.some.inj h1).symm
  obtain ⟨w', h1, h2, h3, h4⟩ := mrun_sound _ _ _ _ w hm hL.sat hL.le hL.own he'
  have hk' := hk w' ⟨h2, Nat.le_trans hL.le h3.size, h4⟩ h3
  unfold OpOk
  rw [h1]
  rcases hv with rfl | ⟨rfl, rfl⟩
  · exact hk'
  · exact hk'
def tgC (c : Cmd) (j : Nat) : Value := if j = 0 then .int .u64 c.wh else if j = 1 then .int .i64 c.torn else .int .i64 c.stop
def saysC (c : Cmd) (k4 j : Nat) (w : World) : Prop := w.cell? ⟨k4, 10 + j, none⟩ = some (tgC c j)
def Ext21 (c : Cmd) (k4 : Nat) (w w' : World) : Prop := ∀ j, j < 3 → saysC c k4 j w → saysC c k4 j w'
theorem Ext21.refl (c : Cmd) (k4 : Nat) (w : World) : Ext21 c k4 w w := fun _ _ h => h
variable {w0 : World} {k1 k4 : Nat} {c : Cmd} {R : Ending → World → Prop} {E : Nat → Value}
end Go.Proofs.YtdcbnkimjhefkaaGreatDoor

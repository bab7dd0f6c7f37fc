/-
 console.read: the command of a line.
 console.read: the whole line.
 console.Parse: the cuts, and what it computes.
-/
import Derived.Test.YtdcbnkimjhefkaaGreatDoorU28
namespace Go.Proofs.YtdcbnkimjhefkaaGreatDoor
open Go.RowKit
set_option maxRecDepth 100000
structure RdS (w0 : World) (k2 g k4 k5 k7 k8 ki : Nat) (ws : List (List UInt8)) (F : Form) (c : Cmd) (b : Bool) (i : Nat) (w : World) : Prop where
 bel : Below w0.heap.size w0 w
 m2 : w.heap[k2]? = some (.cells zeroC.toArray 64 (0, 0))
 mg : w.heap[g]? = some (.cells (strsM ws).toArray 9 (0, 0))
 m4 : w.heap[k4]? = some (.cells [.slice (some ⟨g, 0, none⟩) ws.length ws.length].toArray 53 (0, 0))
 m5 : w.heap[k5]? = some (.cells F.cells.toArray 121 (0, 0))
 m7 : w.heap[k7]? = some (.cells c.cells.toArray 64 (0, 0))
 m8 : w.heap[k8]? = some (.cells [.bool b].toArray 4 (0, 0))
 mi : w.heap[ki]? = some (.stringIter ⟨⟨F.letters⟩⟩ i)
 low : w0.heap.size ≤ k2
 o1 : k2 < g
 o2 : g < k4
 o3 : k4 < k5
 o4 : k5 < k7
 o5 : k7 < k8
 o6 : k8 < ki
variable {w0 w w' : World} {k2 g k4 k5 k7 k8 ki : Nat} {ws : List (List UInt8)} {F : Form} {c c' : Cmd} {b b' : Bool} {i : Nat} {R : Ending → World → Prop} {E : Nat → Value}
theorem RdS.turn {O : List Nat} (h : RdS w0 k2 g k4 k5 k7 k8 ki ws F c b i w) (hK : Kept O w.heap.size w w') (hO : ∀ k ∈ O, k = k7 ∨ k = k8) (h7 : w'.heap[k7]? = some (.cells c'.cells.toArray 64 (0, 0))) (h8 : w'.heap[k8]? = some (.cells [.bool b'].toArray 4 (0, 0))) : RdS w0 k2 g k4 k5 k7 k8 ki ws F c' b' i w' := by
 have o0 := h.low
 have o1 := h.o1
 have o2 := h.o2
 have o3 := h.o3
 have o4 := h.o4
 have o5 := h.o5
 have o6 := h.o6
 have hs := h.bel.size
 have key : ∀ (k : Nat) (ob : Obj), w.heap[k]? = some ob → k ≠ k7 → k ≠ k8 → w'.heap[k]? = some ob := fun k ob hk n7 n8 => (hK.block k (heap_lt hk) (fun hm => by rcases hO k hm with h1 | h1 <;> contradiction)).trans hk
 exact ⟨h.bel.trans (hK.below hs (fun k hk => by rcases hO k hk with h1 | h1 <;> omega)), key _ _ h.m2 (by omega) (by omega), key _ _ h.mg (by omega) (by omega), key _ _ h.m4 (by omega) (by omega), key _ _ h.m5 (by omega) (by omega), h7, h8, key _ _ h.mi (by omega) (by omega), h.low, o1, o2, o3, o4, o5, o6⟩
theorem RdS.below (h : RdS w0 k2 g k4 k5 k7 k8 ki ws F c b i w) (hb : Below w.heap.size w w') : RdS w0 k2 g k4 k5 k7 k8 ki ws F c b i w' :=
 h.turn (kept_below hb) (fun k hk => by cases hk) ((hb.block _ (heap_lt h.m7)).trans h.m7) ((hb.block _ (heap_lt h.m8)).trans h.m8)
theorem RdS.ran7 {O : List Nat} {B z : Nat} {x : Nat × Nat} {q : List (Nat × Nat)} (h : RdS w0 k2 g k4 k5 k7 k8 ki ws F c b i w) (hL : Lies O B w' ⟨z, [⟨k7, 0, c'.cells, 64, true⟩], x, q⟩) (hK : Kept [k7] w.heap.size w w') : RdS w0 k2 g k4 k5 k7 k8 ki ws F c' b i w' := by
 have o5 := h.o5
 exact h.turn hK (fun k hk => .inl (List.mem_singleton.1 hk)) (own_good (hL.sat.good _ (List.mem_singleton.2 rfl))) ((hK.block _ (heap_lt h.m8) (by simp; omega)).trans h.m8)
theorem RdS.ran8 {O : List Nat} {B z : Nat} {x : Nat × Nat} {q : List (Nat × Nat)} (h : RdS w0 k2 g k4 k5 k7 k8 ki ws F c b i w) (hL : Lies O B w' ⟨z, [⟨k8, 0, [.bool b'], 4, true⟩], x, q⟩) (hK : Kept [k8] w.heap.size w w') : RdS w0 k2 g k4 k5 k7 k8 ki ws F c b' i w' := by
 have o5 := h.o5
 exact h.turn hK (fun k hk => .inr (List.mem_singleton.1 hk)) ((hK.block _ (heap_lt h.m7) (by simp; omega)).trans h.m7) (own_good (hL.sat.good _ (List.mem_singleton.2 rfl)))
theorem RdS.ran78 {O : List Nat} {B z : Nat} {x : Nat × Nat} {q : List (Nat × Nat)} (h : RdS w0 k2 g k4 k5 k7 k8 ki ws F c b i w) (hL : Lies O B w' ⟨z, [⟨k7, 0, c'.cells, 64, true⟩, ⟨k8, 0, [.bool b'], 4, true⟩], x, q⟩) (hK : Kept [k7, k8] w.heap.size w w') : RdS w0 k2 g k4 k5 k7 k8 ki ws F c' b' i w' :=
 h.turn hK (fun k hk => by simpa using hk) (own_good (hL.sat.good ⟨k7, 0, c'.cells, 64, true⟩ (by simp))) (own_good (hL.sat.good ⟨k8, 0, [.bool b'], 4, true⟩ (by simp)))
theorem RdS.num (h : RdS w0 k2 g k4 k5 k7 k8 ki ws F c b i w) (h8 : w'.heap[k8]? = some (.cells [.bool b'].toArray 4 (0, 0))) (hb : But k8 w w') : RdS w0 k2 g k4 k5 k7 k8 ki ws F c b' i w' := by
 have o5 := h.o5
 exact h.turn (O := [k8]) ⟨hb.os, hb.tape, hb.output, hb.size, fun k hk hn => hb.block k hk (fun e => hn (by simp [e]))⟩ (fun k hk => .inr (List.mem_singleton.1 hk)) ((hb.block _ (heap_lt h.m7) (by omega)).trans h.m7) h8
theorem RdS.next (h : RdS w0 k2 g k4 k5 k7 k8 ki ws F c b i w) : RdS w0 k2 g k4 k5 k7 k8 ki ws F c b (i + 1) { w with heap := w.heap.setIfInBounds ki (.stringIter ⟨⟨F.letters⟩⟩ (i + 1)) } := by
 have o0 := h.low
 have o1 := h.o1
 have o2 := h.o2
 have o3 := h.o3
 have o4 := h.o4
 have o5 := h.o5
 have o6 := h.o6
 have hkl := heap_lt h.mi
 have key : ∀ (k : Nat) (ob : Obj), w.heap[k]? = some ob → k ≠ ki → (w.heap.setIfInBounds ki (.stringIter ⟨⟨F.letters⟩⟩ (i + 1)))[k]? = some ob := fun k ob hk hn => by rw [Array.getElem?_setIfInBounds_ne (fun e => hn e.symm)]; exact hk
 refine ⟨⟨h.bel.os, h.bel.tape, h.bel.output, by simpa using h.bel.size, fun k hk => ?_⟩, key _ _ h.m2 (by omega), key _ _ h.mg (by omega), key _ _ h.m4 (by omega), key _ _ h.m5 (by omega), key _ _ h.m7 (by omega), key _ _ h.m8 (by omega), by simp [hkl], o0, o1, o2, o3, o4, o5, o6⟩
 show (w.heap.setIfInBounds ki _)[k]? = _
 rw [Array.getElem?_setIfInBounds_ne (by omega)]
 exact h.bel.block k hk
noncomputable def codeRd : Code := Tryz.f36.body.getD .skip
noncomputable def tRd0 : List Item := advT 60 [.code codeRd]
noncomputable def tRd1 : List Item := advT 60 (popOp tRd0)
noncomputable def tRd2 : List Item := advG (popOp tRd1)
noncomputable def tRd3 : List Item := advT 60 (tailT tRd2)
noncomputable def tRdf : List Item := advT 60 (thenT tRd3)
noncomputable def tRd4 : List Item := advT 60 (elseT tRd3)
noncomputable def tRd5 : List Item := advT 60 (popOp tRd4)
noncomputable def tRd6 : List Item := advT 60 (bodyT tRd5)
noncomputable def tRd7 : List Item := advT 60 (popOp tRd6)
noncomputable def tRd8 : List Item := advX (thenT tRd7)
noncomputable def tRd9 : List Item := advT 60 (popOp (popOp tRd8))
noncomputable def tRdN : List Item := advT 60 (thenT tRd9)
noncomputable def tRdm : List Item := advT 60 (elseT tRd9)
noncomputable def tRdW : List Item := advT 60 (thenT tRdm)
noncomputable def tRdD : List Item := advT 60 (elseT tRdm)
noncomputable def tRdE : List Item := advT 60 (popOp tRdD)
noncomputable def tRdx : List Item := advT 60 (elseT tRd7)
noncomputable def tRdy : List Item := advT 60 (thenT tRdx)
noncomputable def tRdz : List Item := advT 60 (elseT tRdx)
abbrev numF (k8 : Nat) : Value := .func (.func 65) #[] ⟨[pt k8]⟩
abbrev envR (k2 k4 k7 k8 ki : Nat) : List (Nat × Value) := [(2, pt k2), (4, pt k4), (7, pt k7), (8, pt k8), (9, numF k8), (42, pt ki)]
theorem read_letter (S : RdS w0 k2 g k4 k5 k7 k8 ki ws F c b i w) (hC : ConP w0) (hg : Tryz.prog.globals.size ≤ w0.heap.size) (a : Nat) (ha : a = 78 ∨ a = 87 ∨ eight a) (s : List UInt8) (hs : s.length ≤ 70000)
  (hk : ∀ c' w' E', RdS w0 k2 g k4 k5 k7 k8 ki ws F c' (b && (letP a s c).isSome) i w' → (∀ c2, letP a s c = some c2 → c' = c2) → At Tryz.prog 36 R (againT tRd5) (Fr 86 (updL E' (envR k2 k4 k7 k8 ki))) w') :
  At Tryz.prog 36 R (popOp (popOp tRd8)) (Fr 86 (updL E (envR k2 k4 k7 k8 ki ++ [(11, .int .i32 (a : Int)), (51, .string ⟨⟨s⟩⟩)]))) w := by
 have hlow := S.low
 have ho1 := S.o1
 have ho2 := S.o2
 have ho3 := S.o3
 have ho4 := S.o4
 have ho5 := S.o5
 have hg8 : Tryz.prog.globals.size ≤ k8 := by omega
 rcases ha with rfl | rfl | ha
 ·refine at_run 60 (popOp (popOp tRd8)) w.heap.size [] [] tRd9 (envR k2 k4 k7 k8 ki ++ [(12, .string ⟨⟨s⟩⟩), (59, .bool true)]) w.heap.size [] (lies_nil w) (by kernel_rfl) fun w1 E1 hL1 hK1 => ?_
  have S1 := S.below (hK1.below (Nat.le_refl _) (fun k hk => by cases hk))
  refine at_cond true (by kernel_rfl) (fun _ => ?_) (fun h => nomatch h)
  have e7 : k7 ≠ k8 := by omega
  cases b with
  | true =>
   refine at_run 60 (thenT tRd9) w1.heap.size [⟨k7, 0, c.cells, 64, true⟩, ⟨k8, 0, [.bool true], 4, true⟩] [(0, 4), (1, 0)] tRdN (envR k2 k4 k7 k8 ki ++ [(65, .bool true), (66, .string ⟨⟨s⟩⟩)]) w1.heap.size [⟨k7, 0, { c with nm := s }.cells, 64, true⟩, ⟨k8, 0, [.bool true], 4, true⟩] (lies_two S1.m7 S1.m8 e7) (by kernel_rfl) fun w2 E2 hL2 hK2 => ?_
   have S2 := S1.ran78 hL2 hK2
   refine at_call 45 [.tmp 66] (some 67) [.string ⟨⟨s⟩⟩] (by kernel_rfl) (by kernel_rfl) (by kernel_rfl) ((isName_any s w2 (by unfold maxLen; omega)).mono fun e w3 hh => ?_)
   obtain ⟨rfl, rfl⟩ := hh
   refine ⟨_, rfl, ?_⟩
   generalize hn : Tk.isName s = nm
   refine at_run 60 (popOp tRdN) w2.heap.size [⟨k8, 0, [.bool true], 4, true⟩] [(0, 0)] (againT tRd5) (envR k2 k4 k7 k8 ki) w2.heap.size [⟨k8, 0, [.bool nm], 4, true⟩] (lies_one S2.m8) (by kernel_rfl) fun w4 E4 hL4 hK4 => ?_
   have S4 := S2.ran8 hL4 hK4
   have hl : letP 78 s c = if nm = true then some { c with nm := s } else none := by simp [letP, hn]
   refine hk { c with nm := s } w4 E4 ?_ ?_
   ·rw [hl]
    cases nm <;> exact S4
   ·intro c2 h2
    rw [hl] at h2
    split at h2
    ·exact Option.some.inj h2
    ·cases h2
  | false =>
   refine at_run 60 (thenT tRd9) w1.heap.size [⟨k7, 0, c.cells, 64, true⟩, ⟨k8, 0, [.bool false], 4, true⟩] [(0, 4), (1, 0), (1, 0)] (againT tRd5) (envR k2 k4 k7 k8 ki) w1.heap.size [⟨k7, 0, { c with nm := s }.cells, 64, true⟩, ⟨k8, 0, [.bool false], 4, true⟩] (lies_two S1.m7 S1.m8 e7) (by kernel_rfl) fun w2 E2 hL2 hK2 => ?_
   have S2 := S1.ran78 hL2 hK2
   refine hk { c with nm := s } w2 E2 (by simpa using S2) fun c2 h2 => ?_
   simp only [letP, if_true] at h2
   split at h2
   ·exact Option.some.inj h2
   ·cases h2
 ·refine at_run 60 (popOp (popOp tRd8)) w.heap.size [] [] tRd9 (envR k2 k4 k7 k8 ki ++ [(12, .string ⟨⟨s⟩⟩), (52, .int .i32 87), (59, .bool false)]) w.heap.size [] (lies_nil w) (by kernel_rfl) fun w1 E1 hL1 hK1 => ?_
  have S1 := S.below (hK1.below (Nat.le_refl _) (fun k hk => by cases hk))
  refine at_cond false (by kernel_rfl) (fun h => nomatch h) fun _ => ?_
  refine at_run 60 (elseT tRd9) w1.heap.size [] [] tRdm (envR k2 k4 k7 k8 ki ++ [(12, .string ⟨⟨s⟩⟩), (69, .bool true)]) w1.heap.size [] (lies_nil w1) (by kernel_rfl) fun w2 E2 hL2 hK2 => ?_
  have S2 := S1.below (hK2.below (Nat.le_refl _) (fun k hk => by cases hk))
  refine at_cond true (by kernel_rfl) (fun _ => ?_) (fun h => nomatch h)
  refine at_run 60 (thenT tRdm) w2.heap.size [] [] tRdW (envR k2 k4 k7 k8 ki ++ [(71, numF k8), (72, .string ⟨⟨s⟩⟩)]) w2.heap.size [] (lies_nil w2) (by kernel_rfl) fun w3 E3 hL3 hK3 => ?_
  have S3 := S2.below (hK3.below (Nat.le_refl _) (fun k hk => by cases hk))
  have hgw := Nat.le_trans hg S3.bel.size
  refine at_callv 65 [.string ⟨⟨s⟩⟩, pt k8] (some 73) (by kernel_rfl) (by kernel_rfl) ((number_any s k8 b w3 S3.m8 hs (hC.below hg S3.bel) hgw hg8).mono fun e w4 hh => ?_)
  obtain ⟨v, rfl, hv, hvn, h8, hb4⟩ := hh
  refine ⟨_, rfl, ?_⟩
  have S4 := S3.num h8 hb4
  generalize hbo : (b && (numO s).isSome) = bo at S4 h8
  have e7 : k7 ≠ k8 := by omega
  obtain ⟨n, hn⟩ : ∃ n : Nat, IntKind.u64.wrap v = (n : Int) := by
   have h0 : 0 ≤ IntKind.u64.wrap v := by
    unfold IntKind.wrap
    simp only [IntKind.signed, IntKind.bits]
    exact Int.emod_nonneg _ (by decide)
   exact Int.eq_ofNat_of_zero_le h0
  have fin : ∀ (x : Bool) (w5 : World) (E5 : Nat → Value), x = (bo && decide (0 ≤ v)) → RdS w0 k2 g k4 k5 k7 k8 ki ws F { c with wh := n } x i w5 → At Tryz.prog 36 R (againT tRd5) (Fr 86 (updL E5 (envR k2 k4 k7 k8 ki))) w5 := by
   intro x w5 E5 hx S5
   cases hno : numO s with
   | none =>
    have hl : letP 87 s c = none := by simp [letP, hno]
    refine hk { c with wh := n } w5 E5 ?_ (fun c2 h2 => by rw [hl] at h2; cases h2)
    have e : x = false := by rw [hx, ← hbo, hno]; simp
    rw [hl]
    subst e
    simpa using S5
   | some m =>
    have hvm := hvn m hno
    subst hvm
    have hbo' : bo = b := by rw [← hbo, hno]; simp
    by_cases h0 : 0 ≤ v
    ·have hnw : n = v.toNat := by
      have h1 : IntKind.u64.wrap v = v := by
       unfold IntKind.wrap
       simp only [IntKind.signed, IntKind.bits]
       refine Int.emod_eq_of_lt h0 ?_
       have := hv.2
       show v < 18446744073709551616
       omega
      rw [h1] at hn
      omega
     have hl : letP 87 s c = some { c with wh := n } := by simp [letP, hno, h0, hnw]
     refine hk { c with wh := n } w5 E5 ?_ (fun c2 h2 => by rw [hl] at h2; exact Option.some.inj h2)
     have e : x = b := by rw [hx, hbo', decide_eq_true h0, Bool.and_true]
     rw [hl]
     subst e
     simpa using S5
    ·have hl : letP 87 s c = none := by simp [letP, hno, h0]
     refine hk { c with wh := n } w5 E5 ?_ (fun c2 h2 => by rw [hl] at h2; cases h2)
     have e : x = false := by rw [hx, decide_eq_false h0, Bool.and_false]
     rw [hl]
     subst e
     simpa using S5
  have hcells : c.cells.set 10 (.int .u64 (IntKind.u64.wrap v)) = { c with wh := n }.cells := by rw [hn]; rfl
  cases bo with
  | true =>
   refine at_run 60 (popOp tRdW) w4.heap.size [⟨k7, 0, c.cells, 64, true⟩, ⟨k8, 0, [.bool true], 4, true⟩] [(1, 0), (1, 0), (0, 10)] (againT tRd5) (envR k2 k4 k7 k8 ki) w4.heap.size [⟨k7, 0, c.cells.set 10 (.int .u64 (IntKind.u64.wrap v)), 64, true⟩, ⟨k8, 0, [.bool (decide (0 ≤ v))], 4, true⟩] (lies_two S4.m7 S4.m8 e7) (by kernel_rfl) fun w5 E5 hL5 hK5 => ?_
   rw [hcells] at hL5
   exact fin _ w5 E5 (by simp) (S4.ran78 hL5 hK5)
  | false =>
   refine at_run 60 (popOp tRdW) w4.heap.size [⟨k7, 0, c.cells, 64, true⟩, ⟨k8, 0, [.bool false], 4, true⟩] [(1, 0), (1, 0), (0, 10)] (againT tRd5) (envR k2 k4 k7 k8 ki) w4.heap.size [⟨k7, 0, c.cells.set 10 (.int .u64 (IntKind.u64.wrap v)), 64, true⟩, ⟨k8, 0, [.bool false], 4, true⟩] (lies_two S4.m7 S4.m8 e7) (by kernel_rfl) fun w5 E5 hL5 hK5 => ?_
   rw [hcells] at hL5
   exact fin false w5 E5 (by simp) (S4.ran78 hL5 hK5)
 ·have q1 : ((a : Int) == 78) = false := by unfold eight at ha; simpa using (by omega : (a : Int) ≠ 78)
  have q2 : ((a : Int) == 87) = false := by unfold eight at ha; simpa using (by omega : (a : Int) ≠ 87)
  have n1 : a ≠ 78 ∧ a ≠ 87 := by unfold eight at ha; omega
  refine at_run 60 (popOp (popOp tRd8)) w.heap.size [] [] tRd9 (envR k2 k4 k7 k8 ki ++ [(11, .int .i32 (a : Int)), (12, .string ⟨⟨s⟩⟩), (52, .int .i32 (a : Int)), (59, .bool ((a : Int) == 78))]) w.heap.size [] (lies_nil w) (by kernel_rfl) fun w1 E1 hL1 hK1 => ?_
  have S1 := S.below (hK1.below (Nat.le_refl _) (fun k hk => by cases hk))
  refine at_cond ((a : Int) == 78) (by kernel_rfl) (fun h => by rw [q1] at h; cases h) fun _ => ?_
  refine at_run 60 (elseT tRd9) w1.heap.size [] [] tRdm (envR k2 k4 k7 k8 ki ++ [(11, .int .i32 (a : Int)), (12, .string ⟨⟨s⟩⟩), (69, .bool ((a : Int) == 87))]) w1.heap.size [] (lies_nil w1) (by kernel_rfl) fun w2 E2 hL2 hK2 => ?_
  have S2 := S1.below (hK2.below (Nat.le_refl _) (fun k hk => by cases hk))
  refine at_cond ((a : Int) == 87) (by kernel_rfl) (fun h => by rw [q2] at h; cases h) fun _ => ?_
  refine at_run 60 (elseT tRdm) w2.heap.size [] [] tRdD (envR k2 k4 k7 k8 ki ++ [(12, .string ⟨⟨s⟩⟩), (53, .int .i32 (a : Int))]) w2.heap.size [] (lies_nil w2) (by kernel_rfl) fun w3 E3 hL3 hK3 => ?_
  have S3 := S2.below (hK3.below (Nat.le_refl _) (fun k hk => by cases hk))
  refine at_call 67 [.tmp 7, .tmp 53] (some 54) [pt k7, .int .i32 (a : Int)] (by kernel_rfl) (by kernel_rfl) (by kernel_rfl) ((field_any k7 a ha w3).mono fun e w4 hh => ?_)
  obtain ⟨rfl, b4⟩ := hh
  refine ⟨_, rfl, ?_⟩
  have S4 := S3.below b4
  refine at_run 60 (popOp tRdD) w4.heap.size [] [] tRdE (envR k2 k4 k7 k8 ki ++ [(54, .pointer (some ⟨k7, fieldOff a, none⟩)), (55, numF k8), (56, .string ⟨⟨s⟩⟩)]) w4.heap.size [] (lies_nil w4) (by kernel_rfl) fun w5 E5 hL5 hK5 => ?_
  have S5 := S4.below (hK5.below (Nat.le_refl _) (fun k hk => by cases hk))
  have hgw := Nat.le_trans hg S5.bel.size
  refine at_callv 65 [.string ⟨⟨s⟩⟩, pt k8] (some 57) (by kernel_rfl) (by kernel_rfl) ((number_any s k8 b w5 S5.m8 hs (hC.below hg S5.bel) hgw hg8).mono fun e w6 hh => ?_)
  obtain ⟨v, rfl, hv, hvn, h8, hb6⟩ := hh
  refine ⟨_, rfl, ?_⟩
  have S6 := S5.num h8 hb6
  have fin : ∀ (w7 : World) (E7 : Nat → Value), RdS w0 k2 g k4 k5 k7 k8 ki ws F (putN a v c) (b && (numO s).isSome) i w7 → At Tryz.prog 36 R (againT tRd5) (Fr 86 (updL E7 (envR k2 k4 k7 k8 ki))) w7 := by
   intro w7 E7 S7
   have hl : letP a s c = (numO s).map fun n => putN a n c := by simp [letP, n1]
   refine hk (putN a v c) w7 E7 ?_ ?_
   ·rw [hl, Option.isSome_map]
    exact S7
   ·intro c2 h2
    rw [hl] at h2
    cases hno : numO s with
    | none => rw [hno] at h2; cases h2
    | some n =>
     rw [hno] at h2
     rw [hvn n hno]
     exact Option.some.inj h2
  unfold eight at ha
  rcases ha with rfl | rfl | rfl | rfl | rfl | rfl | rfl | rfl
  ·refine at_run 60 (popOp tRdE) w6.heap.size [⟨k7, 0, c.cells, 64, true⟩] [(0, 1)] (againT tRd5) (envR k2 k4 k7 k8 ki) w6.heap.size [⟨k7, 0, (putN 69 v c).cells, 64, true⟩] (lies_one S6.m7) (by kernel_rfl) fun w7 E7 hL7 hK7 => ?_
   exact fin w7 E7 (S6.ran7 hL7 hK7)
  ·refine at_run 60 (popOp tRdE) w6.heap.size [⟨k7, 0, c.cells, 64, true⟩] [(0, 3)] (againT tRd5) (envR k2 k4 k7 k8 ki) w6.heap.size [⟨k7, 0, (putN 68 v c).cells, 64, true⟩] (lies_one S6.m7) (by kernel_rfl) fun w7 E7 hL7 hK7 => ?_
   exact fin w7 E7 (S6.ran7 hL7 hK7)
  ·refine at_run 60 (popOp tRdE) w6.heap.size [⟨k7, 0, c.cells, 64, true⟩] [(0, 5)] (againT tRd5) (envR k2 k4 k7 k8 ki) w6.heap.size [⟨k7, 0, (putN 86 v c).cells, 64, true⟩] (lies_one S6.m7) (by kernel_rfl) fun w7 E7 hL7 hK7 => ?_
   exact fin w7 E7 (S6.ran7 hL7 hK7)
  ·refine at_run 60 (popOp tRdE) w6.heap.size [⟨k7, 0, c.cells, 64, true⟩] [(0, 6)] (againT tRd5) (envR k2 k4 k7 k8 ki) w6.heap.size [⟨k7, 0, (putN 88 v c).cells, 64, true⟩] (lies_one S6.m7) (by kernel_rfl) fun w7 E7 hL7 hK7 => ?_
   exact fin w7 E7 (S6.ran7 hL7 hK7)
  ·refine at_run 60 (popOp tRdE) w6.heap.size [⟨k7, 0, c.cells, 64, true⟩] [(0, 7)] (againT tRd5) (envR k2 k4 k7 k8 ki) w6.heap.size [⟨k7, 0, (putN 82 v c).cells, 64, true⟩] (lies_one S6.m7) (by kernel_rfl) fun w7 E7 hL7 hK7 => ?_
   exact fin w7 E7 (S6.ran7 hL7 hK7)
  ·refine at_run 60 (popOp tRdE) w6.heap.size [⟨k7, 0, c.cells, 64, true⟩] [(0, 9)] (againT tRd5) (envR k2 k4 k7 k8 ki) w6.heap.size [⟨k7, 0, (putN 80 v c).cells, 64, true⟩] (lies_one S6.m7) (by kernel_rfl) fun w7 E7 hL7 hK7 => ?_
   exact fin w7 E7 (S6.ran7 hL7 hK7)
  ·refine at_run 60 (popOp tRdE) w6.heap.size [⟨k7, 0, c.cells, 64, true⟩] [(0, 11)] (againT tRd5) (envR k2 k4 k7 k8 ki) w6.heap.size [⟨k7, 0, (putN 84 v c).cells, 64, true⟩] (lies_one S6.m7) (by kernel_rfl) fun w7 E7 hL7 hK7 => ?_
   exact fin w7 E7 (S6.ran7 hL7 hK7)
  ·refine at_run 60 (popOp tRdE) w6.heap.size [⟨k7, 0, c.cells, 64, true⟩] [(0, 12)] (againT tRd5) (envR k2 k4 k7 k8 ki) w6.heap.size [⟨k7, 0, (putN 83 v c).cells, 64, true⟩] (lies_one S6.m7) (by kernel_rfl) fun w7 E7 hL7 hK7 => ?_
   exact fin w7 E7 (S6.ran7 hL7 hK7)
end Go.Proofs.YtdcbnkimjhefkaaGreatDoor

namespace Go.Proofs.YtdcbnkimjhefkaaGreatDoor
open Go.RowKit
set_option maxRecDepth 100000
theorem letsP_snoc (a : UInt8) (x : List UInt8) (l : List UInt8) : ∀ (r : List (List UInt8)) (c : Cmd) (_h : r[l.length]? = some x), letsP (l ++ [a]) r c = (letsP l r c).bind fun c' => letP a.toNat x c' := by
 induction l with
 | nil =>
  intro r c h
  cases r with
  | nil => cases h
  | cons s r =>
   obtain rfl : s = x := Option.some.inj h
   rw [List.nil_append, letsP, letsP, Option.bind_some]
   cases letP a.toNat s c <;> simp only [letsP]
 | cons y l ih =>
  intro r c h
  cases r with
  | nil => cases h
  | cons s r =>
   rw [List.cons_append, letsP, letsP]
   cases letP y.toNat s c with
   | none => simp only [Option.bind_none]
   | some c' => exact ih r c' h
def readV (s : List UInt8) : Value := .tuple #[.agg ⟨((readL s).map Cmd.cells).getD zeroC⟩, .bool (readL s).isSome]
theorem form_good {F : Form} (h : F ∈ forms) : goodF F = true := List.all_eq_true.1 forms_good F h
theorem splitB_size (sep : ByteArray) : ∀ (k : Nat) (s x : ByteArray), x ∈ Lib.splitB sep 0 k s → x.size ≤ s.size
 | 0, s, x, h => by
  rw [Lib.splitB_zero, List.mem_singleton] at h
  rw [h]
  exact Nat.le_refl _
 | k + 1, s, x, h => by
  unfold Lib.splitB at h
  split at h
  ·rw [List.mem_singleton] at h
   rw [h]
   exact Nat.le_refl _
  ·rcases List.mem_cons.1 h with rfl | h
   ·rw [ByteArray.size_extract]
    omega
   ·have := splitB_size sep k _ x h
    rw [ByteArray.size_extract] at this
    omega
theorem words_byte (s x : List UInt8) (h : x ∈ wordsP s) : x.length ≤ s.length := by
 unfold wordsP at h
 obtain ⟨y, hy, rfl⟩ := List.mem_map.1 h
 exact splitB_size spB _ _ y hy
set_option maxHeartbeats 1000000 in
theorem read_any (s : List UInt8) (w : World) (hs : s.length ≤ 70000) (hC : ConP w) (hg : Tryz.prog.globals.size ≤ w.heap.size) :
  Calls Tryz.prog 36 #[.string ⟨⟨s⟩⟩] w fun e w' => e = .returned (readV s) ∧ Below w.heap.size w w' := by
 refine calls_at (args := [.string ⟨⟨s⟩⟩]) (fn := Tryz.f36) (c := codeRd) (n := 86) (by kernel_rfl) (by kernel_rfl) (by kernel_rfl) (by kernel_rfl) ?_
 refine at_run 60 [.code codeRd] w.heap.size [] [] tRd0 [(2, pt w.heap.size), (14, .string ⟨⟨s⟩⟩)] (w.heap.size + 1) [⟨w.heap.size, 0, zeroC, 64, true⟩] (lies_nil w) (by kernel_rfl) fun w1 E1 hL1 hK1 => ?_
 have B1 : Below w.heap.size w w1 := hK1.below (Nat.le_refl _) (fun k hk => by cases hk)
 have z1 := own_good (hL1.sat.good ⟨w.heap.size, 0, zeroC, 64, true⟩ (by simp))
 have C1 : ConP w1 := hC.below hg B1
 have l1 := heap_lt z1
 refine at_call 62 [.tmp 14, .const (.string ⟨⟨[32]⟩⟩)] (some 15) [.string ⟨⟨s⟩⟩, .string ⟨⟨[32]⟩⟩] (by kernel_rfl) (by kernel_rfl) (by kernel_rfl) ((split_any s w1 hs C1.con).mono fun e w2 hh => ?_)
 obtain ⟨rfl, hws, b2⟩ := hh
 refine ⟨_, rfl, ?_⟩
 have lw := heap_lt hws
 have hwl : 0 < (wordsP s).length := by rw [wordsP_len]; omega
 have hwx : (wordsP s).length ≤ 4294967296 := by
  rw [wordsP_len]
  have : Lib.countB ⟨⟨s⟩⟩ spB ≤ s.length := Lib.countB_le spB (by decide) _ ⟨⟨s⟩⟩ (Nat.le_refl _)
  omega
 have z2 := (b2.block _ l1).trans z1
 generalize hgE : w1.heap.size = g at *
 have B2 : Below w.heap.size w w2 := B1.trans (b2.mono (by have := B1.size; omega))
 refine at_run 60 (popOp tRd0) w2.heap.size [] [(0, 0)] tRd1 [(2, pt w.heap.size), (4, pt w2.heap.size), (17, .func (.func 64) #[] ⟨[pt w2.heap.size]⟩)] (w2.heap.size + 1) [⟨w2.heap.size, 0, [.slice (some ⟨g, 0, none⟩) (wordsP s).length (wordsP s).length], 53, true⟩] (lies_nil w2) (by kernel_rfl) fun w3 E3 hL3 hK3 => ?_
 have b3 : Below w2.heap.size w2 w3 := hK3.below (Nat.le_refl _) (fun k hk => by cases hk)
 have m43 := own_good (hL3.sat.good ⟨w2.heap.size, 0, [.slice (some ⟨g, 0, none⟩) (wordsP s).length (wordsP s).length], 53, true⟩ (by simp))
 have B3 : Below w.heap.size w w3 := B2.trans (b3.mono B2.size)
 have C3 : ConP w3 := hC.below hg B3
 have hwb := fun x hx => words_byte s x hx
 have hrd : readL s = match wordsP s with
  | [] => none
  | x :: r => match forms.find? (wordIs x) with
   | none => none
   | some F => if r.length = F.letters.length then letsP F.letters r (Cmd.of F) else none := rfl
 unfold readV
 generalize readL s = out at *
 generalize wordsP s = ws at *
 cases ws with
 | nil => cases hwl
 | cons x r =>
 replace hrd : out = (match forms.find? (wordIs x) with
  | none => none
  | some F => if r.length = F.letters.length then letsP F.letters r (Cmd.of F) else none) := hrd
 have hgl : g < w2.heap.size := lw
 have hx2 : w2.cell? ⟨g, 0, none⟩ = some (.string ⟨⟨x⟩⟩) := by
  rw [Lib.cell_of_heap hws]
  rfl
 generalize hk4 : w2.heap.size = k4 at *
 refine at_call 63 [.tmp 17] (some 18) [.func (.func 64) #[] ⟨[pt k4]⟩] (by kernel_rfl) (by kernel_rfl) (by kernel_rfl) ((find_any 64 [pt k4] (wordIs x) w3 C3.con.forms (by kernel_rfl) fun F _ w' hB' => ?_).mono fun e w4 hh => ?_)
 ·have hg3 : g < w3.heap.size := Nat.lt_of_lt_of_le hgl (by rw [← hk4]; exact b3.size)
  refine rd1_any F k4 g _ x w' ((hB'.block _ (heap_lt m43)).trans m43) (Nat.lt_of_lt_of_le hg3 hB'.size) hwl ?_
  rw [World.cell?_of_block (hB'.block _ hg3), World.cell?_of_block (b3.block _ hgl)]
  exact hx2
 obtain ⟨rfl, b4⟩ := hh
 refine ⟨_, rfl, ?_⟩
 have B4 : Below w.heap.size w w4 := B3.trans (b4.mono B3.size)
 have m44 := (b4.block _ (heap_lt m43)).trans m43
 generalize hfo : forms.find? (wordIs x) = fo at *
 change At _ _ _ _ (Fr 86 (updO _ _ (.tuple #[.agg ⟨(fo.getD .zero).cells⟩, .bool fo.isSome]))) _
 generalize hG : fo.getD .zero = G
 generalize hfd : fo.isSome = found
 refine at_run (cntG 90 (popOp tRd1)) (popOp tRd1) w4.heap.size [] [(0, 0)] tRd2 [(2, pt w.heap.size), (4, pt k4), (5, pt w4.heap.size), (6, .bool found)] (w4.heap.size + 1) [⟨w4.heap.size, 0, G.cells, 121, true⟩] (lies_nil w4) (by kernel_rfl) fun w5 E5 hL5 hK5 => ?_
 have b5 : Below w4.heap.size w4 w5 := hK5.below (Nat.le_refl _) (fun k hk => by cases hk)
 have m55 := own_good (hL5.sat.good ⟨w4.heap.size, 0, G.cells, 121, true⟩ (by simp))
 have B5 : Below w.heap.size w w5 := B4.trans (b5.mono B4.size)
 have m45 := (b5.block _ (heap_lt m44)).trans m44
 have hk45 : k4 < w4.heap.size := heap_lt m44
 generalize hk5 : w4.heap.size = k5 at *
 refine at_ghost ((curReg tRd2).getD #[]) ⟨[⟨k4, 0, [.slice (some ⟨g, 0, none⟩) (x :: r).length (x :: r).length], 53, true⟩, ⟨k5, 0, G.cells, 121, true⟩], [(3, 0, 0), (7, 1, 3)], []⟩ [(2, pt w.heap.size), (4, pt k4), (5, pt k5), (31, .bool (cond (!found) true (!((IntKind.i64.wrap (((x :: r).length : Int) - 1)) == (G.letters.length : Int)))))] (by kernel_rfl) (by kernel_rfl) (by kernel_rfl)
  (fun e he => ?_) (fun sp hsp => (by cases hsp)) (fun X => by kernel_rfl) (by kernel_rfl) fun w6 E6 b6 => ?_
 ·simp only [List.mem_cons, List.not_mem_nil, or_false] at he
  rcases he with rfl | rfl
  ·exact good_own m45
  ·exact good_own m55
 have B6 : Below w.heap.size w w6 := B5.trans (b6.mono B5.size)
 have m56 := (b6.block _ (heap_lt m55)).trans m55
 have m46 := (b6.block _ (heap_lt m45)).trans m45
 have z3 := (b3.block _ (by have := b2.size; rw [hk4] at this; omega)).trans z2
 have z4 := (b4.block _ (heap_lt z3)).trans z3
 have z5 := (b5.block _ (by rw [← hk5]; exact heap_lt z4)).trans z4
 have z6 := (b6.block _ (heap_lt z5)).trans z5
 have hwr : IntKind.i64.wrap (((x :: r).length : Int) - 1) = (r.length : Int) := by
  have : (x :: r).length = r.length + 1 := rfl
  rw [IntWalk.i64_in _ (by omega)]
  omega
 rw [hwr]
 generalize hbad : cond (!found) true (!((r.length : Int) == (G.letters.length : Int))) = bad
 refine at_run 60 (tailT tRd2) w6.heap.size [] [] tRd3 [(2, pt w.heap.size), (4, pt k4), (5, pt k5), (31, .bool bad)] w6.heap.size [] (lies_nil w6) (by kernel_rfl) fun w7 E7 hL7 hK7 => ?_
 have b7 : Below w6.heap.size w6 w7 := hK7.below (Nat.le_refl _) (fun k hk => by cases hk)
 have B7 : Below w.heap.size w w7 := B6.trans (b7.mono B6.size)
 have m57 := (b7.block _ (heap_lt m56)).trans m56
 have m47 := (b7.block _ (heap_lt m46)).trans m46
 have z7 := (b7.block _ (heap_lt z6)).trans z6
 cases bad with
 | true =>
  have ho : out = none := by
   rw [hrd]
   cases fo with
   | none => rfl
   | some F =>
    obtain rfl : F = G := hG
    obtain rfl : true = found := hfd
    simp only [Bool.not_true, cond_false, Bool.not_eq_true', beq_eq_false_iff_ne] at hbad
    exact if_neg (by omega)
  rw [ho]
  refine at_cond true (by kernel_rfl) (fun _ => ?_) (fun h => nomatch h)
  refine at_run 60 (thenT tRd3) w7.heap.size [⟨w.heap.size, 0, zeroC, 64, true⟩] [(0, 0)] tRdf [(2, pt w.heap.size), (3, .bool false)] w7.heap.size [⟨w.heap.size, 0, zeroC, 64, true⟩] (lies_one z7) (by kernel_rfl) fun w8 E8 hL8 hK8 => ?_
  have B8 : Below w.heap.size w w8 := B7.trans (hK8.below B7.size (fun k hk => by rw [List.mem_singleton.1 hk]; exact Nat.le_refl _))
  exact at_ret (fn := Tryz.f36) (by kernel_rfl) (by kernel_rfl) ⟨0, [⟨w.heap.size, 0, zeroC, 64, true⟩], (0, 0), []⟩ hL8.sat.good (.tuple #[.agg ⟨zeroC⟩, .bool false]) (by kernel_rfl) (by kernel_rfl) ⟨rfl, B8⟩
 | false =>
  cases hfo2 : fo with
  | none =>
   rw [hfo2] at hfd
   obtain rfl : false = found := hfd
   cases hbad
  | some F =>
  rw [hfo2] at hfd hG hrd
  obtain rfl : F = G := hG
  obtain rfl : true = found := hfd
  have hlen : r.length = F.letters.length := by
   simp only [Bool.not_true, cond_false, Bool.not_eq_false', beq_iff_eq] at hbad
   omega
  replace hrd : out = letsP F.letters r (Cmd.of F) := hrd.trans (if_pos hlen)
  have hF : goodF F = true := form_good (List.mem_of_find?_eq_some (hfo.trans hfo2))
  have hFl := goodF_len hF
  refine at_cond false (by kernel_rfl) (fun h => nomatch h) fun _ => ?_
  refine at_run 60 (elseT tRd3) w7.heap.size [⟨k5, 0, F.cells, 121, true⟩] [(0, 1), (0, 2), (1, 0), (2, 0), (0, 3)] tRd4 [(2, pt w.heap.size), (4, pt k4), (7, pt w7.heap.size), (8, pt (w7.heap.size + 1)), (9, numF (w7.heap.size + 1)), (41, .string ⟨⟨F.letters⟩⟩)] (w7.heap.size + 2) [⟨k5, 0, F.cells, 121, true⟩, ⟨w7.heap.size, 0, (Cmd.of F).cells, 64, true⟩, ⟨w7.heap.size + 1, 0, [.bool true], 4, true⟩] (lies_one m57) (by kernel_rfl) fun w8 E8 hL8 hK8 => ?_
  have hk2g : w.heap.size < g := l1
  have hgk4 : g < k4 := lw
  have m57l := heap_lt m57
  have hk5w : w.heap.size ≤ k5 := by omega
  have B8 : Below w.heap.size w w8 := B7.trans (hK8.below B7.size (fun k hk => by rw [List.mem_singleton.1 hk]; exact hk5w))
  have g3 := (b3.block _ (by omega)).trans hws
  have g4 := (b4.block _ (heap_lt g3)).trans g3
  have g5 := (b5.block _ (by rw [← hk5]; exact heap_lt g4)).trans g4
  have g6 := (b6.block _ (heap_lt g5)).trans g5
  have g7 := (b7.block _ (heap_lt g6)).trans g6
  have keep8 : ∀ (k : Nat) (ob : Obj), w7.heap[k]? = some ob → k ≠ k5 → w8.heap[k]? = some ob := fun k ob hk hn => (hK8.block k (heap_lt hk) (fun hm => hn (List.mem_singleton.1 hm))).trans hk
  have z8 := keep8 _ _ z7 (by omega)
  have g8 := keep8 _ _ g7 (by omega)
  have m48 := keep8 _ _ m47 (by omega)
  have m58 := own_good (hL8.sat.good ⟨k5, 0, F.cells, 121, true⟩ (by simp))
  have m78 := own_good (hL8.sat.good ⟨w7.heap.size, 0, (Cmd.of F).cells, 64, true⟩ (by simp))
  have m88 := own_good (hL8.sat.good ⟨w7.heap.size + 1, 0, [.bool true], 4, true⟩ (by simp))
  have hs8 : w8.heap.size = w7.heap.size + 2 := hL8.sat.size
  generalize hk7 : w7.heap.size = k7 at *
  refine at_range 9 ⟨⟨F.letters⟩⟩ (some 42) (by kernel_rfl) (by kernel_rfl) ?_
  have b9 : Below w8.heap.size w8 (w8.alloc (.stringIter ⟨⟨F.letters⟩⟩ 0)) := (Below.refl _ _).alloc (Nat.le_refl _) _
  have S9 : RdS w w.heap.size g k4 k5 k7 (k7 + 1) w8.heap.size (x :: r) F (Cmd.of F) true 0 (w8.alloc (.stringIter ⟨⟨F.letters⟩⟩ 0)) := by
   have key : ∀ (k : Nat) (ob : Obj), w8.heap[k]? = some ob → (w8.alloc (.stringIter ⟨⟨F.letters⟩⟩ 0)).heap[k]? = some ob := fun k ob hk => (b9.block _ (heap_lt hk)).trans hk
   exact ⟨B8.trans (b9.mono B8.size), key _ _ z8, key _ _ g8, key _ _ m48, key _ _ m58, key _ _ m78, key _ _ m88, Go.heap_alloc_new w8 _, Nat.le_refl _, hk2g, hgk4, hk45, m57l, by omega, by omega⟩
  generalize hki : w8.heap.size = ki at *
  generalize w8.alloc (.stringIter ⟨⟨F.letters⟩⟩ 0) = w9 at S9 ⊢
  refine at_run 60 (popOp tRd4) w9.heap.size [] [] tRd5 (envR w.heap.size k4 k7 (k7 + 1) ki) w9.heap.size [] (lies_nil w9) (by kernel_rfl) fun w10 E10 hL10 hK10 => ?_
  have S10 := S9.below (hK10.below (Nat.le_refl _) (fun k hk => by cases hk))
  generalize hk2 : w.heap.size = k2 at *
  refine at_loop (by kernel_rfl) (fun E wx => ∃ (i : Nat) (E0 : Nat → Value) (c : Cmd) (b : Bool), i ≤ F.letters.length ∧ E = updL E0 (envR k2 k4 k7 (k7 + 1) ki) ∧ RdS w k2 g k4 k5 k7 (k7 + 1) ki (x :: r) F c b i wx ∧ b = (letsP (F.letters.take i) r (Cmd.of F)).isSome ∧ ∀ c2, letsP (F.letters.take i) r (Cmd.of F) = some c2 → c = c2)
   (fun _ w => F.letters.length - posOf w.heap[ki]?) ⟨0, E10, Cmd.of F, true, Nat.zero_le _, rfl, S10, by rw [List.take_zero]; rfl, fun c2 h => by rw [List.take_zero] at h; exact Option.some.inj h⟩ ?_
  rintro E wx ⟨i, E0, c, b, hi, rfl, S, hb, hc⟩ hagain
  refine at_run 60 (bodyT tRd5) wx.heap.size [] [] tRd6 (envR k2 k4 k7 (k7 + 1) ki) wx.heap.size [] (lies_nil wx) (by kernel_rfl) fun w11 E11 hL11 hK11 => ?_
  have S11 := S.below (hK11.below (Nat.le_refl _) (fun k hk => by cases hk))
  by_cases hlt : i < F.letters.length
  ·have hx : F.letters[i] ∈ F.letters := List.getElem_mem hlt
   have hlet := goodF_letter hF hx
   have htake : F.letters.take (i + 1) = F.letters.take i ++ [F.letters[i]] := by rw [List.take_add_one, List.getElem?_eq_getElem hlt]; rfl
   have hdec : Utf8.decode ⟨⟨F.letters⟩⟩ i = ((F.letters[i]).toNat, 1) := Go.decode_ascii ⟨⟨F.letters⟩⟩ i hlt (by
    show (F.letters[i]).toNat < 128
    unfold eight at hlet
    omega)
   have hpos : posOf wx.heap[ki]? = i := by rw [S.mi]; rfl
   have hir : i < r.length := by omega
   have hti : (F.letters.take i).length = i := by rw [List.length_take]; omega
   have hsn := letsP_snoc F.letters[i] r[i] (F.letters.take i) r (Cmd.of F) (by rw [hti]; exact List.getElem?_eq_getElem hir)
   rw [← htake] at hsn
   have hsl : (r[i]).length ≤ s.length := hwb _ (List.mem_cons_of_mem _ (List.getElem_mem hir))
   have hri : (x :: r)[i + 1]? = some r[i] := by rw [List.getElem?_cons_succ]; exact List.getElem?_eq_getElem hir
   generalize hxe : F.letters[i] = xl at *
   generalize hre : r[i] = si at *
   generalize hae : xl.toNat = a at *
   refine at_next ki ⟨⟨F.letters⟩⟩ i a (some 43) (by kernel_rfl) S11.mi hlt hdec ?_
   have S12 := S11.next
   generalize ({ w11 with heap := w11.heap.setIfInBounds ki (.stringIter ⟨⟨F.letters⟩⟩ (i + 1)) } : World) = w12 at S12 ⊢
   refine at_run 60 (popOp tRd6) w12.heap.size [] [] tRd7 (envR k2 k4 k7 (k7 + 1) ki ++ [(43, .tuple #[.bool true, .int .i64 i, .int .i32 a]), (44, .bool true)]) w12.heap.size [] (lies_nil w12) (by kernel_rfl) fun w13 E13 hL13 hK13 => ?_
   have S13 := S12.below (hK13.below (Nat.le_refl _) (fun k hk => by cases hk))
   refine at_cond true (by kernel_rfl) (fun _ => ?_) (fun h => nomatch h)
   refine at_run (cntX 90 (thenT tRd7)) (thenT tRd7) w13.heap.size [⟨k4, 0, [.slice (some ⟨g, 0, none⟩) (x :: r).length (x :: r).length], 53, true⟩] [(0, 0)] tRd8 (envR k2 k4 k7 (k7 + 1) ki ++ [(11, .int .i32 a), (47, .slice (some ⟨g, 0, none⟩) (x :: r).length (x :: r).length), (49, .int .i64 (IntKind.i64.wrap ((i : Int) + 1)))]) w13.heap.size [⟨k4, 0, [.slice (some ⟨g, 0, none⟩) (x :: r).length (x :: r).length], 53, true⟩] (lies_one S13.m4) (by kernel_rfl) fun w14 E14 hL14 hK14 => ?_
   have S14 : RdS w k2 g k4 k5 k7 (k7 + 1) ki (x :: r) F c b (i + 1) w14 := by
    have h48 : k4 ≠ k7 := by have := S13.o3; have := S13.o4; omega
    have h49 : k4 ≠ k7 + 1 := by have := S13.o3; have := S13.o4; omega
    have keep : ∀ (k : Nat) (ob : Obj), w13.heap[k]? = some ob → k ≠ k4 → w14.heap[k]? = some ob := fun k ob hk hn => (hK14.block k (heap_lt hk) (fun hm => hn (List.mem_singleton.1 hm))).trans hk
    have o0 := S13.low
    have o1 := S13.o1
    have o2 := S13.o2
    have o3 := S13.o3
    have o4 := S13.o4
    have o5 := S13.o5
    have o6 := S13.o6
    exact ⟨S13.bel.trans (hK14.below S13.bel.size (fun k hk => by rw [List.mem_singleton.1 hk]; show w.heap.size ≤ k4; omega)), keep _ _ S13.m2 (by omega), keep _ _ S13.mg (by omega), own_good (hL14.sat.good _ (List.mem_singleton.2 rfl)), keep _ _ S13.m5 (by omega), keep _ _ S13.m7 (by omega), keep _ _ S13.m8 (by omega), keep _ _ S13.mi (by omega), o0, o1, o2, o3, o4, o5, o6⟩
   have hw1 : IntKind.i64.wrap ((i : Int) + 1) = ((i + 1 : Nat) : Int) := by
    rw [IntWalk.i64_in _ (by omega)]
    omega
   rw [hw1]
   refine at_elem (g := g) (off := 0) (cap := (x :: r).length) (sz := 1) (k := i + 1) (some 50) (by kernel_rfl) (by show i + 1 < r.length + 1; omega) Tryz.underlying53 (by kernel_rfl) ?_
   have ei : 0 + (i + 1) * 1 = i + 1 := by omega
   rw [ei]
   have hcell : w14.cell? ⟨g, i + 1, none⟩ = some (.string ⟨⟨si⟩⟩) := by
    rw [Lib.cell_of_heap S14.mg]
    have : (strsM (x :: r))[i + 1]? = some (.string ⟨⟨si⟩⟩) := by
     unfold strsM
     rw [List.getElem?_map, hri]
     rfl
    simpa using this
   refine at_load1 9 g (i + 1) (.string ⟨⟨si⟩⟩) (some 51) (by kernel_rfl) (by kernel_rfl) hcell ?_
   refine at_run 0 (popOp (popOp tRd8)) w14.heap.size [] [] (popOp (popOp tRd8)) (envR k2 k4 k7 (k7 + 1) ki ++ [(11, .int .i32 (a : Int)), (51, .string ⟨⟨si⟩⟩)]) w14.heap.size [] (lies_nil w14) (by kernel_rfl) fun w15 E15 hL15 hK15 => ?_
   have S15 := S14.below (hK15.below (Nat.le_refl _) (fun k hk => by cases hk))
   have hg' : Tryz.prog.globals.size ≤ w.heap.size := by rw [hk2]; exact hg
   refine read_letter S15 hC hg' a hlet si (by omega) ?_
   intro c' w16 E16 S16 hc16
   refine hagain _ _ ⟨i + 1, E16, c', _, hlt, rfl, S16, ?_, ?_⟩ ?_
   ·rw [hsn]
    cases hp : letsP (F.letters.take i) r (Cmd.of F) with
    | none => rw [hp] at hb; rw [hb]; rfl
    | some c2 =>
     rw [hp] at hb
     rw [hc c2 hp, hb]
     simp
   ·intro c2 h2
    rw [hsn] at h2
    cases hp : letsP (F.letters.take i) r (Cmd.of F) with
    | none => rw [hp] at h2; cases h2
    | some c3 =>
     rw [hp] at h2
     obtain rfl := hc c3 hp
     exact hc16 c2 h2
   ·show F.letters.length - posOf w16.heap[ki]? < F.letters.length - posOf wx.heap[ki]?
    rw [hpos, S16.mi]
    show F.letters.length - (i + 1) < F.letters.length - i
    omega
  ·have hil : i = F.letters.length := by omega
   have hall : F.letters.take i = F.letters := by rw [hil, List.take_length]
   rw [hall] at hb hc
   rw [← hrd] at hb hc
   refine at_over ki ⟨⟨F.letters⟩⟩ i (some 43) (by kernel_rfl) S11.mi hlt ?_
   refine at_run 60 (popOp tRd6) w11.heap.size [] [] tRd7 (envR k2 k4 k7 (k7 + 1) ki ++ [(44, .bool false)]) w11.heap.size [] (lies_nil w11) (by kernel_rfl) fun w13 E13 hL13 hK13 => ?_
   have S13 := S11.below (hK13.below (Nat.le_refl _) (fun k hk => by cases hk))
   refine at_cond false (by kernel_rfl) (fun h => nomatch h) fun _ => ?_
   refine at_run 60 (elseT tRd7) w13.heap.size [⟨k7 + 1, 0, [.bool b], 4, true⟩] [(0, 0)] tRdx [(2, pt k2), (7, pt k7), (83, .bool (!b))] w13.heap.size [⟨k7 + 1, 0, [.bool b], 4, true⟩] (lies_one S13.m8) (by kernel_rfl) fun w14 E14 hL14 hK14 => ?_
   have S14 := S13.ran8 hL14 hK14
   cases b with
   | true =>
    obtain ⟨c0, hc0⟩ := Option.isSome_iff_exists.1 hb.symm
    obtain rfl := hc c0 hc0
    rw [hc0]
    refine at_cond false (by kernel_rfl) (fun h => nomatch h) fun _ => ?_
    have n27 : k2 ≠ k7 := by have := S14.o1; have := S14.o2; have := S14.o3; have := S14.o4; omega
    refine at_run 60 (elseT tRdx) w14.heap.size [⟨k2, 0, zeroC, 64, true⟩, ⟨k7, 0, c.cells, 64, true⟩] [(1, 0), (0, 0)] tRdz [(2, pt k2), (3, .bool true)] w14.heap.size [⟨k2, 0, c.cells, 64, true⟩, ⟨k7, 0, c.cells, 64, true⟩] (lies_two S14.m2 S14.m7 n27) (by kernel_rfl) fun w15 E15 hL15 hK15 => ?_
    have B15 : Below k2 w w15 := by
     have o1 := S14.o1
     have o2 := S14.o2
     have o3 := S14.o3
     have o4 := S14.o4
     have h := S14.bel
     rw [hk2] at h
     refine h.trans (hK15.below (by rw [← hk2]; exact S14.bel.size) (fun k hk => ?_))
     simp only [List.map_cons, List.map_nil, List.mem_cons, List.not_mem_nil, or_false] at hk
     rcases hk with rfl | rfl <;> omega
    exact at_ret (fn := Tryz.f36) (by kernel_rfl) (by kernel_rfl) ⟨0, [⟨k2, 0, c.cells, 64, true⟩, ⟨k7, 0, c.cells, 64, true⟩], (0, 0), []⟩ hL15.sat.good (.tuple #[.agg ⟨c.cells⟩, .bool true]) (by kernel_rfl) (by kernel_rfl) ⟨rfl, B15⟩
   | false =>
    have ho : out = none := by
     cases ho : out with
     | none => rfl
     | some c0 => rw [ho] at hb; cases hb
    rw [ho]
    refine at_cond true (by kernel_rfl) (fun _ => ?_) (fun h => nomatch h)
    refine at_run 60 (thenT tRdx) w14.heap.size [⟨k2, 0, zeroC, 64, true⟩] [(0, 0)] tRdy [(2, pt k2), (3, .bool false)] w14.heap.size [⟨k2, 0, zeroC, 64, true⟩] (lies_one S14.m2) (by kernel_rfl) fun w15 E15 hL15 hK15 => ?_
    have B15 : Below k2 w w15 := by
     have h := S14.bel
     rw [hk2] at h
     exact h.trans (hK15.below (by rw [← hk2]; exact S14.bel.size) (fun k hk => by rw [List.mem_singleton.1 hk]; exact Nat.le_refl _))
    exact at_ret (fn := Tryz.f36) (by kernel_rfl) (by kernel_rfl) ⟨0, [⟨k2, 0, zeroC, 64, true⟩], (0, 0), []⟩ hL15.sat.good (.tuple #[.agg ⟨zeroC⟩, .bool false]) (by kernel_rfl) (by kernel_rfl) ⟨rfl, B15⟩
end Go.Proofs.YtdcbnkimjhefkaaGreatDoor

namespace Go.Proofs.YtdcbnkimjhefkaaGreatDoor
open Go.RowKit
set_option maxRecDepth 100000
def cutP (d : UInt8) : List UInt8 → List UInt8 × List UInt8 × Bool
 | [] => ([], [], false)
 | c :: r => if c = d then ([], r, true) else (c :: (cutP d r).1, (cutP d r).2.1, (cutP d r).2.2)
theorem cutP_none (d : UInt8) : ∀ s : List UInt8, (cutP d s).2.2 = false → (cutP d s).1 = s ∧ (cutP d s).2.1 = []
 | [], _ => ⟨rfl, rfl⟩
 | c :: r, h => by
  unfold cutP at h ⊢
  split
  ·rename_i hc
   rw [if_pos hc] at h
   cases h
  ·rename_i hc
   rw [if_neg hc] at h
   obtain ⟨h1, h2⟩ := cutP_none d r h
   exact ⟨by rw [h1], h2⟩
theorem cutP_some (d : UInt8) : ∀ s : List UInt8, (cutP d s).2.2 = true → s = (cutP d s).1 ++ d :: (cutP d s).2.1
 | [], h => by cases h
 | c :: r, h => by
  unfold cutP at h ⊢
  split
  ·rename_i hc
   rw [hc]
   rfl
  ·rename_i hc
   rw [if_neg hc] at h
   have := cutP_some d r h
   show c :: r = c :: ((cutP d r).1 ++ d :: (cutP d r).2.1)
   rw [← this]
theorem cutP_len (d : UInt8) (s : List UInt8) : (cutP d s).1.length ≤ s.length := by
 cases h : (cutP d s).2.2 with
 | false => rw [(cutP_none d s h).1]; exact Nat.le_refl _
 | true =>
  have := congrArg List.length (cutP_some d s h)
  simp only [List.length_append, List.length_cons] at this
  omega
theorem cutP_lt (d : UInt8) (s : List UInt8) (h : (cutP d s).2.2 = true) : (cutP d s).2.1.length + (cutP d s).1.length + 1 = s.length := by
 have := congrArg List.length (cutP_some d s h)
 simp only [List.length_append, List.length_cons] at this
 omega
theorem index_cut (d : UInt8) : ∀ s : List UInt8, (Lib.index s [d] = -1 ∧ (cutP d s) = (s, [], false)) ∨ (∃ i : Nat, Lib.index s [d] = i ∧ (cutP d s) = (s.take i, s.drop (i + 1), true))
 | [] => .inl ⟨rfl, rfl⟩
 | c :: r => by
  unfold cutP Lib.index
  by_cases hc : c = d
  ·subst hc
   refine .inr ⟨0, ?_, ?_⟩
   ·simp [List.isPrefixOf]
   ·rw [if_pos rfl]; rfl
  ·have hp : List.isPrefixOf [d] (c :: r) = false := by
    have : (d == c) = false := beq_eq_false_iff_ne.2 (fun e => hc e.symm)
    simp [List.isPrefixOf, this]
   rw [if_neg hc, hp]
   rcases index_cut d r with ⟨h1, h2⟩ | ⟨i, h1, h2⟩
   ·refine .inl ⟨?_, ?_⟩
    ·rw [h1]; rfl
    ·rw [h2]
   ·refine .inr ⟨i + 1, ?_, ?_⟩
    ·rw [h1]
     have : ((i : Int) == -1) = false := by rw [beq_eq_false_iff_ne]; omega
     simp [this]
    ·rw [h2]; rfl
theorem cut_eq (d : UInt8) (s : List UInt8) : Lib.cut s [d] = cutP d s := by
 unfold Lib.cut
 rcases index_cut d s with ⟨h1, h2⟩ | ⟨i, h1, h2⟩
 ·rw [h1, h2]; rfl
 ·rw [h1, h2, if_pos (by omega)]; rfl
theorem cut_any (s : List UInt8) (w : World) (hs : s.length ≤ 70000) (hC : Con w) :
  Calls Tryz.prog 35 #[.string ⟨⟨s⟩⟩, .string ⟨⟨[10]⟩⟩] w fun e w' => e = .returned (.tuple #[.string ⟨⟨(cutP 10 s).1⟩⟩, .string ⟨⟨(cutP 10 s).2.1⟩⟩, .bool (cutP 10 s).2.2]) ∧ Below w.heap.size w w' := by
 obtain ⟨⟨m, hm⟩, _⟩ := hC.len
 refine (Tryz.strings_Cut ⟨⟨s⟩⟩ ⟨⟨[10]⟩⟩ m w (by show s.length < 4294967281; omega) hm).mono fun e w' hh => ?_
 obtain ⟨rfl, n, rfl⟩ := hh
 have e : Lib.cut (⟨⟨s⟩⟩ : ByteArray).data.toList (⟨⟨[10]⟩⟩ : ByteArray).data.toList = cutP 10 s := cut_eq 10 s
 rw [e]
 exact ⟨rfl, ⟨rfl, rfl, rfl, Nat.le_refl _, fun k hk => rfl⟩⟩
def agrB : Nat → List UInt8 → List UInt8 → Nat → Option (List UInt8 × List UInt8) × Nat
 | 0, _, _, k => (none, k + 1)
 | n + 1, s, acc, k => if (cutP 10 s).2.2 = true then (if (cutP 10 s).1 = endW then (some (acc, (cutP 10 s).2.1), k + 1) else agrB n (cutP 10 s).2.1 (acc ++ ((cutP 10 s).1 ++ [10])) (k + 1)) else (none, k + 1)
def parB : Nat → List UInt8 → Nat → List Cmd → Except Nat (List Cmd)
 | 0, _, _, acc => .ok acc
 | n + 1, s, ln, acc => if s = [] then .ok acc else if (cutP 10 s).2.2 = true then (match readL (cutP 10 s).1 with
  | none => .error ln
  | some c => if c.fk = 5 then (match agrB n (cutP 10 s).2.1 [] 0 with
   | (none, k) => .error (ln + k)
   | (some (t, r), k) => parB n r (ln + k + 1) (acc ++ [{ c with txt := t }]))
   else parB n (cutP 10 s).2.1 (ln + 1) (acc ++ [c])) else .error ln
section
variable {P : Program} {f : FuncId} {R : Ending → World → Prop}
def isOpP (p : Op → Bool) : List Item → Bool
 | .inRegion ops (i :: _) :: _ => match ops[i]? with
  | some o => p o.op
  | none => false
 | _ => false
def cntO (p : Op → Bool) : Nat → List Item → Nat
 | 0, _ => 0
 | m + 1, t => match isOpP p t with
  | true => 0
  | false => match stepT t with
   | some t' => cntO p m t' + 1
   | none => 0
def isNeq : Op → Bool
 | .binOp .neq _ _ _ _ => true
 | _ => false
def isEqlO : Op → Bool
 | .binOp .eql _ _ _ _ => true
 | _ => false
def isAddO : Op → Bool
 | .binOp .add _ _ _ _ => true
 | _ => false
def curNeS (n : Nat) (E : Nat → Value) (todo : List Item) : Option (ByteArray × ByteArray × Option Tmp) := match curOp n E todo with
 | some o => match o.op with
  | .binOp .neq _ x y _ => match evE n E x, evE n E y with
   | .string a, .string b => some (a, b, o.dst)
   | _, _ => none
  | _ => none
 | none => none
theorem at_neqs {n : Nat} {todo : List Item} {E : Nat → Value} {w : World} (a b : List UInt8) (dst : Option Tmp) (hc : curNeS n E todo = some (⟨⟨a⟩⟩, ⟨⟨b⟩⟩, dst)) (h : At P f R (popOp todo) (Fr n (updO E dst (.bool (!(decide (a = b)))))) w) : At P f R todo (Fr n E) w := by
 unfold curNeS at hc
 split at hc
 ·rename_i o hcur
  split at hc
  ·rename_i T x y T' ho
   split at hc
   ·rename_i a' b' hx hy
    simp only [Option.some.injEq, Prod.mk.injEq] at hc
    obtain ⟨rfl, rfl, rfl⟩ := hc
    exact at_op o hcur (v := .bool (!(decide (a = b)))) (w' := w) (exec_neqs ho hx hy) h
   ·cases hc
  ·cases hc
 ·cases hc
end
end Go.Proofs.YtdcbnkimjhefkaaGreatDoor

/-
  The words of a line; the closure with which read looks for a form.
  console.read: the command of a line.
-/
import Derived.Test.YtdcbnkimjhefkaaGreatDoorW29
namespace Go.Proofs.YtdcbnkimjhefkaaGreatDoor
open Go.RowKit
set_option maxRecDepth 100000
def spB : ByteArray := ⟨⟨[32]⟩⟩
/-- The words of a line, as strings.Split tells them. -/
def wordsB (s : List UInt8) : List ByteArray := Lib.splitB spB 0 (Lib.countB ⟨⟨s⟩⟩ spB) ⟨⟨s⟩⟩
def wordsP (s : List UInt8) : List (List UInt8) := (wordsB s).map (·.data.toList)
theorem wordsP_len (s : List UInt8) : (wordsP s).length = Lib.countB ⟨⟨s⟩⟩ spB + 1 := by
  unfold wordsP
  rw [List.length_map]
  exact Lib.splitB_all spB (by decide) 0 _ _ rfl
theorem wordsP_vals (s : List UInt8) : (wordsB s).map Value.string = (wordsP s).map fun l => .string ⟨⟨l⟩⟩ := by
  unfold wordsP
  rw [List.map_map]
  refine List.map_congr_left fun x _ => ?_
  obtain ⟨⟨l⟩⟩ := x
  rfl
theorem split_any (s : List UInt8) (w : World) (hs : s.length ≤ 70000) (hC : Con w) :
    Calls Tryz.prog 62 #[.string ⟨⟨s⟩⟩, .string ⟨⟨[32]⟩⟩] w fun e w' => e = .returned (.slice (some ⟨w.heap.size, 0, none⟩) (wordsP s).length (wordsP s).length) ∧ w'.heap[w.heap.size]? = some (.cells (strsM (wordsP s)).toArray 9 (0, 0)) ∧ Below w.heap.size w w' := by
  obtain ⟨⟨m, hm⟩, _⟩ := hC.len
  refine (Tryz.strings_Split ⟨⟨s⟩⟩ spB m w (by show s.length < 4294967281; omega) hm (by decide)).mono fun e w' hh => ?_
  obtain ⟨rfl, rfl⟩ := hh
  refine ⟨by rw [wordsP_len], ?_, (Below.refl _ _).alloc (Nat.le_refl _) _⟩
  have h1 := heap_alloc_new w (.cells ((Lib.splitB spB 0 (Lib.countB ⟨⟨s⟩⟩ spB) ⟨⟨s⟩⟩).map Value.string).toArray 9)
  rw [h1]
  have h2 := wordsP_vals s
  unfold wordsB at h2
  rw [h2]
noncomputable def codeR1 : Code := Tryz.f64.body.getD .skip
noncomputable def tR10 : List Item := advT 60 [.code codeR1]
theorem rd1_any (F : Form) (k4 g n : Nat) (x : List UInt8) (w : World) (h4 : w.heap[k4]? = some (.cells [.slice (some ⟨g, 0, none⟩) n n].toArray 53 (0, 0))) (hg : g < w.heap.size) (hn : 0 < n) (hx : w.cell? ⟨g, 0, none⟩ = some (.string ⟨⟨x⟩⟩)) :
    Calls Tryz.prog 64 (.agg ⟨F.cells⟩ :: [pt k4]).toArray w fun e w' => e = .returned (.bool (decide (F.word = x))) ∧ Below w.heap.size w w' := by
  refine calls_at (args := [.agg ⟨F.cells⟩, pt k4]) (fn := Tryz.f64) (c := codeR1) (n := 10) (by kernel_rfl) (by kernel_rfl) (by kernel_rfl) (by kernel_rfl) ?_
  refine at_run 60 [.code codeR1] w.heap.size [] [] tR10 [(1, pt k4), (2, pt w.heap.size)] (w.heap.size + 1) [⟨w.heap.size, 0, F.cells, 121, true⟩] (lies_nil w) (by kernel_rfl) fun w1 E1 hL1 hK1 => ?_
  have B1 : Below w.heap.size w w1 := hK1.below (Nat.le_refl _) (fun k hk => by cases hk)
  have g1 := hL1.sat.good ⟨w.heap.size, 0, F.cells, 121, true⟩ (by simp)
  have h41 := (B1.block _ (heap_lt h4)).trans h4
  have hx1 : w1.cell? ⟨g, 0 + 0 * 1, none⟩ = some (.string ⟨⟨x⟩⟩) := (World.cell?_of_block (B1.block _ hg)).trans hx
  refine at_ghost ((curReg tR10).getD #[]) ⟨[⟨w.heap.size, 0, F.cells, 121, true⟩, ⟨k4, 0, [.slice (some ⟨g, 0, none⟩) n n], 53, true⟩, ⟨g, 0 + 0 * 1, [.string ⟨⟨x⟩⟩], 0, false⟩], [(1, 0, 0), (2, 1, 0), (4, 2, 0)], [⟨3, [(6, .slice (some ⟨g, 0, none⟩) n n)], .pointer (some ⟨g, 0 + 0 * 1, none⟩), true⟩, ⟨5, [(5, .string ⟨⟨F.word⟩⟩), (8, .string ⟨⟨x⟩⟩)], .bool (decide (F.word = x)), true⟩]⟩ [(3, .bool (decide (F.word = x)))] (by kernel_rfl) (by kernel_rfl) (by kernel_rfl)
    (fun e he => ?_) (fun sp hsp => ?_) (fun X => by kernel_rfl) (by kernel_rfl) fun w2 E2 b2 => ?_
  · simp only [List.mem_cons, List.not_mem_nil, or_false] at he
    rcases he with rfl | rfl | rfl
    · exact g1
    · exact good_own h41
    · refine ⟨Nat.lt_of_lt_of_le hg B1.size, fun j v hj => ?_⟩
      cases j with
      | zero => cases hj; exact hx1
      | succ j => cases hj
  · simp only [List.mem_cons, List.not_mem_nil, or_false] at hsp
    rcases hsp with rfl | rfl
    · refine spec_op fun _ E w _ => ?_
      exact exec_index (sz := 1) (cap := n) (k := 0) 53 (.tmp 6) (.const (.int .i64 0)) (by kernel_rfl) (by kernel_rfl) (by kernel_rfl) hn Tryz.underlying53 (by kernel_rfl)
    · refine spec_op fun _ E w _ => ?_
      exact exec_eqs (T := 9) (T' := 9) (x := .tmp 5) (y := .tmp 8) (by kernel_rfl) (by kernel_rfl) (by kernel_rfl)
  exact at_endT (fn := Tryz.f64) 60 (.bool (decide (F.word = x))) (by kernel_rfl) (by kernel_rfl) fun w3 B3 => ⟨rfl, B1.trans ((b2.trans (B3.mono b2.size)).mono B1.size)⟩
/-- The cell of a command for which a letter stands is written. -/
def putN (a : Nat) (n : Int) (c : Cmd) : Cmd := if a = 69 then { c with emp := n } else if a = 68 then { c with fr := n } else if a = 86 then { c with val := n } else if a = 88 then { c with ext := n } else if a = 82 then { c with rnk := n } else if a = 80 then { c with per := n } else if a = 84 then { c with torn := n } else { c with stop := n }
/-- One letter, one word. -/
def letP (a : Nat) (s : List UInt8) (c : Cmd) : Option Cmd :=
  if a = 78 then (if Tk.isName s = true then some { c with nm := s } else none) else if a = 87 then (match numO s with | some n => if 0 ≤ n then some { c with wh := n.toNat } else none | none => none) else (numO s).map fun n => putN a n c
/-- All letters. -/
def letsP : List UInt8 → List (List UInt8) → Cmd → Option Cmd
  | [], _, c => some c
  | a :: l, s :: r, c => match letP a.toNat s c with
    | some c' => letsP l r c'
    | none => none
  | _ :: _, [], _ => none
def wordIs (x : List UInt8) (F : Form) : Bool := decide (F.word = x)
/-- The command of a line. -/
def readL (s : List UInt8) : Option Cmd := match wordsP s with
  | [] => none
  | x :: r => match forms.find? (wordIs x) with
    | none => none
    | some F => if r.length = F.letters.length then letsP F.letters r (Cmd.of F) else none
end Go.Proofs.YtdcbnkimjhefkaaGreatDoor

namespace Go.Proofs.YtdcbnkimjhefkaaGreatDoor
open Go.RowKit
set_option maxRecDepth 100000
structure RdS (w0 : World) (k2 g k4 k5 k7 k8 ki : Nat) (ws : List (List UInt8)) (F : Form) (c : Cmd) (b : Bool) (i : Nat) (w : World) : Prop where
  bel : Below w0.heap.size w0 w
  m2 : w.heap[k2]? = some (.cells zeroC.toArray 64 (0, 0))
  mg : w.heap[g]? = some (.cells (strsM ws).toArray 9 (0, 0))
  m4 : w.heap[k4]? = some (.cells [.slice (some ⟨g, 0, none⟩) ws.length ws.length].toArray 53 (0, 0))
  m5 : w.heap[k5]? = some (.cells F.cells.toArray 121 (0, 0))
  m7 : w.heap[k7]? = some (.cells c.cells.toArray 64 (0, 0))
  m8 : w.heap[k8]? = some (.cells [.bool b].toArray 4 (0, 0))
  mi : w.heap[ki]? = some (.stringIter ⟨⟨F.letters⟩⟩ i)
  low : w0.heap.size ≤ k2
  o1 : k2 < g
  o2 : g < k4
  o3 : k4 < k5
  o4 : k5 < k7
  o5 : k7 < k8
  o6 : k8 < ki
variable {w0 w w' : World} {k2 g k4 k5 k7 k8 ki : Nat} {ws : List (List UInt8)} {F : Form} {c c' : Cmd} {b b' : Bool} {i : Nat} {R : Ending → World → Prop} {E : Nat → Value}
/-- What is turned is the command, the flag, or nothing. -/
theorem RdS.turn {O : List Nat} (h : RdS w0 k2 g k4 k5 k7 k8 ki ws F c b i w) (hK : Kept O w.heap.size w w') (hO : ∀ k ∈ O, k = k7 ∨ k = k8) (h7 : w'.heap[k7]? = some (.cells c'.cells.toArray 64 (0, 0))) (h8 : w'.heap[k8]? = some (.cells [.bool b'].toArray 4 (0, 0))) : RdS w0 k2 g k4 k5 k7 k8 ki ws F c' b' i w' := by
  have o0 := h.low
  have o1 := h.o1
  have o2 := h.o2
  have o3 := h.o3
  have o4 := h.o4
  have o5 := h.o5
  have o6 := h.o6
  have hs := h.bel.size
  have key : ∀ (k : Nat) (ob : Obj), w.heap[k]? = some ob → k ≠ k7 → k ≠ k8 → w'.heap[k]? = some ob := fun k ob hk n7 n8 => (hK.block k (heap_lt hk) (fun hm => by rcases hO k hm with h1 | h1 <;> contradiction)).trans hk
  exact ⟨h.bel.trans (hK.below hs (fun k hk => by rcases hO k hk with h1 | h1 <;> omega)), key _ _ h.m2 (by omega) (by omega), key _ _ h.mg (by omega) (by omega), key _ _ h.m4 (by omega) (by omega), key _ _ h.m5 (by omega) (by omega), h7, h8, key _ _ h.mi (by omega) (by omega), h.low, o1, o2, o3, o4, o5, o6⟩
theorem RdS.below (h : RdS w0 k2 g k4 k5 k7 k8 ki ws F c b i w) (hb : Below w.heap.size w w') : RdS w0 k2 g k4 k5 k7 k8 ki ws F c b i w' :=
  h.turn (kept_below hb) (fun k hk => by cases hk) ((hb.block _ (heap_lt h.m7)).trans h.m7) ((hb.block _ (heap_lt h.m8)).trans h.m8)
/-- The engine ran over the command. -/
theorem RdS.ran7 {O : List Nat} {B z : Nat} {x : Nat × Nat} {q : List (Nat × Nat)} (h : RdS w0 k2 g k4 k5 k7 k8 ki ws F c b i w) (hL : Lies O B w' ⟨z, [⟨k7, 0, c'.cells, 64, true⟩], x, q⟩) (hK : Kept [k7] w.heap.size w w') : RdS w0 k2 g k4 k5 k7 k8 ki ws F c' b i w' := by
  have o5 := h.o5
  exact h.turn hK (fun k hk => .inl (List.mem_singleton.1 hk)) (own_good (hL.sat.good _ (List.mem_singleton.2 rfl))) ((hK.block _ (heap_lt h.m8) (by simp; omega)).trans h.m8)
/-- The engine ran over the flag. -/
theorem RdS.ran8 {O : List Nat} {B z : Nat} {x : Nat × Nat} {q : List (Nat × Nat)} (h : RdS w0 k2 g k4 k5 k7 k8 ki ws F c b i w) (hL : Lies O B w' ⟨z, [⟨k8, 0, [.bool b'], 4, true⟩], x, q⟩) (hK : Kept [k8] w.heap.size w w') : RdS w0 k2 g k4 k5 k7 k8 ki ws F c b' i w' := by
  have o5 := h.o5
  exact h.turn hK (fun k hk => .inr (List.mem_singleton.1 hk)) ((hK.block _ (heap_lt h.m7) (by simp; omega)).trans h.m7) (own_good (hL.sat.good _ (List.mem_singleton.2 rfl)))
/-- The engine ran over both. -/
theorem RdS.ran78 {O : List Nat} {B z : Nat} {x : Nat × Nat} {q : List (Nat × Nat)} (h : RdS w0 k2 g k4 k5 k7 k8 ki ws F c b i w) (hL : Lies O B w' ⟨z, [⟨k7, 0, c'.cells, 64, true⟩, ⟨k8, 0, [.bool b'], 4, true⟩], x, q⟩) (hK : Kept [k7, k8] w.heap.size w w') : RdS w0 k2 g k4 k5 k7 k8 ki ws F c' b' i w' :=
  h.turn hK (fun k hk => by simpa using hk) (own_good (hL.sat.good ⟨k7, 0, c'.cells, 64, true⟩ (by simp))) (own_good (hL.sat.good ⟨k8, 0, [.bool b'], 4, true⟩ (by simp)))
/-- The flag is turned by a call. -/
theorem RdS.num (h : RdS w0 k2 g k4 k5 k7 k8 ki ws F c b i w) (h8 : w'.heap[k8]? = some (.cells [.bool b'].toArray 4 (0, 0))) (hb : But k8 w w') : RdS w0 k2 g k4 k5 k7 k8 ki ws F c b' i w' := by
  have o5 := h.o5
  exact h.turn (O := [k8]) ⟨hb.os, hb.tape, hb.output, hb.size, fun k hk hn => hb.block k hk (fun e => hn (by simp [e]))⟩ (fun k hk => .inr (List.mem_singleton.1 hk)) ((hb.block _ (heap_lt h.m7) (by omega)).trans h.m7) h8
/-- The iterator goes on. -/
theorem RdS.next (h : RdS w0 k2 g k4 k5 k7 k8 ki ws F c b i w) : RdS w0 k2 g k4 k5 k7 k8 ki ws F c b (i + 1) { w with heap := w.heap.setIfInBounds ki (.stringIter ⟨⟨F.letters⟩⟩ (i + 1)) } := by
  have o0 := h.low
  have o1 := h.o1
  have o2 := h.o2
  have o3 := h.o3
  have o4 := h.o4
  have o5 := h.o5
  have o6 := h.o6
  have hkl := heap_lt h.mi
  have key : ∀ (k : Nat) (ob : Obj), w.heap[k]? = some ob → k ≠ ki → (w.heap.setIfInBounds ki (.stringIter ⟨⟨F.letters⟩⟩ (i + 1)))[k]? = some ob := fun k ob hk hn => by rw [Array.getElem?_setIfInBounds_ne (fun e => hn e.symm)]; exact hk
  refine ⟨⟨h.bel.os, h.bel.tape, h.bel.output, by simpa using h.bel.size, fun k hk => ?_⟩, key _ _ h.m2 (by omega), key _ _ h.mg (by omega), key _ _ h.m4 (by omega), key _ _ h.m5 (by omega), key _ _ h.m7 (by omega), key _ _ h.m8 (by omega), by simp [hkl], o0, o1, o2, o3, o4, o5, o6⟩
  show (w.heap.setIfInBounds ki _)[k]? = _
  rw [Array.getElem?_setIfInBounds_ne (by omega)]
  exact h.bel.block k hk
noncomputable def codeRd : Code := Tryz.f36.body.getD .skip
noncomputable def tRd0 : List Item := advT 60 [.code codeRd]
noncomputable def tRd1 : List Item := advT 60 (popOp tRd0)
noncomputable def tRd2 : List Item := advG (popOp tRd1)
noncomputable def tRd3 : List Item := advT 60 (tailT tRd2)
noncomputable def tRdf : List Item := advT 60 (thenT tRd3)
noncomputable def tRd4 : List Item := advT 60 (elseT tRd3)
noncomputable def tRd5 : List Item := advT 60 (popOp tRd4)
noncomputable def tRd6 : List Item := advT 60 (bodyT tRd5)
noncomputable def tRd7 : List Item := advT 60 (popOp tRd6)
noncomputable def tRd8 : List Item := advX (thenT tRd7)
noncomputable def tRd9 : List Item := advT 60 (popOp (popOp tRd8))
noncomputable def tRdN : List Item := advT 60 (thenT tRd9)
noncomputable def tRdm : List Item := advT 60 (elseT tRd9)
noncomputable def tRdW : List Item := advT 60 (thenT tRdm)
noncomputable def tRdD : List Item := advT 60 (elseT tRdm)
noncomputable def tRdE : List Item := advT 60 (popOp tRdD)
noncomputable def tRdx : List Item := advT 60 (elseT tRd7)
noncomputable def tRdy : List Item := advT 60 (thenT tRdx)
noncomputable def tRdz : List Item := advT 60 (elseT tRdx)
abbrev numF (k8 : Nat) : Value := .func (.func 65) #[] ⟨[pt k8]⟩
abbrev envR (k2 k4 k7 k8 ki : Nat) : List (Nat × Value) := [(2, pt k2), (4, pt k4), (7, pt k7), (8, pt k8), (9, numF k8), (42, pt ki)]
/-- One letter of the loop. -/
theorem read_letter (S : RdS w0 k2 g k4 k5 k7 k8 ki ws F c b i w) (hC : ConP w0) (hg : Tryz.prog.globals.size ≤ w0.heap.size) (a : Nat) (ha : a = 78 ∨ a = 87 ∨ eight a) (s : List UInt8) (hs : s.length ≤ 70000)
    (hk : ∀ c' w' E', RdS w0 k2 g k4 k5 k7 k8 ki ws F c' (b && (letP a s c).isSome) i w' → (∀ c2, letP a s c = some c2 → c' = c2) → At Tryz.prog 36 R (againT tRd5) (Fr 86 (updL E' (envR k2 k4 k7 k8 ki))) w') :
    At Tryz.prog 36 R (popOp (popOp tRd8)) (Fr 86 (updL E (envR k2 k4 k7 k8 ki ++ [(11, .int .i32 (a : Int)), (51, .string ⟨⟨s⟩⟩)]))) w := by
  have hlow := S.low
  have ho1 := S.o1
  have ho2 := S.o2
  have ho3 := S.o3
  have ho4 := S.o4
  have ho5 := S.o5
  have hg8 : Tryz.prog.globals.size ≤ k8 := by omega
  rcases ha with rfl | rfl | ha
  · refine at_run 60 (popOp (popOp tRd8)) w.heap.size [] [] tRd9 (envR k2 k4 k7 k8 ki ++ [(12, .string ⟨⟨s⟩⟩), (59, .bool true)]) w.heap.size [] (lies_nil w) (by kernel_rfl) fun w1 E1 hL1 hK1 => ?_
    have S1 := S.below (hK1.below (Nat.le_refl _) (fun k hk => by cases hk))
    refine at_cond true (by kernel_rfl) (fun _ => ?_) (fun h => nomatch h)
    have e7 : k7 ≠ k8 := by omega
    cases b with
    | true =>
      refine at_run 60 (thenT tRd9) w1.heap.size [⟨k7, 0, c.cells, 64, true⟩, ⟨k8, 0, [.bool true], 4, true⟩] [(0, 4), (1, 0)] tRdN (envR k2 k4 k7 k8 ki ++ [(65, .bool true), (66, .string ⟨⟨s⟩⟩)]) w1.heap.size [⟨k7, 0, { c with nm := s }.cells, 64, true⟩, ⟨k8, 0, [.bool true], 4, true⟩] (lies_two S1.m7 S1.m8 e7) (by kernel_rfl) fun w2 E2 hL2 hK2 => ?_
      have S2 := S1.ran78 hL2 hK2
      refine at_call 45 [.tmp 66] (some 67) [.string ⟨⟨s⟩⟩] (by kernel_rfl) (by kernel_rfl) (by kernel_rfl) ((isName_any s w2 (by unfold maxLen; omega)).mono fun e w3 hh => ?_)
      obtain ⟨rfl, rfl⟩ := hh
      refine ⟨_, rfl, ?_⟩
      generalize hn : Tk.isName s = nm
      refine at_run 60 (popOp tRdN) w2.heap.size [⟨k8, 0, [.bool true], 4, true⟩] [(0, 0)] (againT tRd5) (envR k2 k4 k7 k8 ki) w2.heap.size [⟨k8, 0, [.bool nm], 4, true⟩] (lies_one S2.m8) (by kernel_rfl) fun w4 E4 hL4 hK4 => ?_
      have S4 := S2.ran8 hL4 hK4
      have hl : letP 78 s c = if nm = true then some { c with nm := s } else none := by simp [letP, hn]
      refine hk { c with nm := s } w4 E4 ?_ ?_
      · rw [hl]
        cases nm <;> exact S4
      · intro c2 h2
        rw [hl] at h2
        split at h2
        · exact Option.some.inj h2
        · cases h2
    | false =>
      refine at_run 60 (thenT tRd9) w1.heap.size [⟨k7, 0, c.cells, 64, true⟩, ⟨k8, 0, [.bool false], 4, true⟩] [(0, 4), (1, 0), (1, 0)] (againT tRd5) (envR k2 k4 k7 k8 ki) w1.heap.size [⟨k7, 0, { c with nm := s }.cells, 64, true⟩, ⟨k8, 0, [.bool false], 4, true⟩] (lies_two S1.m7 S1.m8 e7) (by kernel_rfl) fun w2 E2 hL2 hK2 => ?_
      have S2 := S1.ran78 hL2 hK2
      refine hk { c with nm := s } w2 E2 (by simpa using S2) fun c2 h2 => ?_
      simp only [letP, if_true] at h2
      split at h2
      · exact Option.some.inj h2
      · cases h2
  · refine at_run 60 (popOp (popOp tRd8)) w.heap.size [] [] tRd9 (envR k2 k4 k7 k8 ki ++ [(12, .string ⟨⟨s⟩⟩), (52, .int .i32 87), (59, .bool false)]) w.heap.size [] (lies_nil w) (by kernel_rfl) fun w1 E1 hL1 hK1 => ?_
    have S1 := S.below (hK1.below (Nat.le_refl _) (fun k hk => by cases hk))
    refine at_cond false (by kernel_rfl) (fun h => nomatch h) fun _ => ?_
    refine at_run 60 (elseT tRd9) w1.heap.size [] [] tRdm (envR k2 k4 k7 k8 ki ++ [(12, .string ⟨⟨s⟩⟩), (69, .bool true)]) w1.heap.size [] (lies_nil w1) (by kernel_rfl) fun w2 E2 hL2 hK2 => ?_
    have S2 := S1.below (hK2.below (Nat.le_refl _) (fun k hk => by cases hk))
    refine at_cond true (by kernel_rfl) (fun _ => ?_) (fun h => nomatch h)
    refine at_run 60 (thenT tRdm) w2.heap.size [] [] tRdW (envR k2 k4 k7 k8 ki ++ [(71, numF k8), (72, .string ⟨⟨s⟩⟩)]) w2.heap.size [] (lies_nil w2) (by kernel_rfl) fun w3 E3 hL3 hK3 => ?_
    have S3 := S2.below (hK3.below (Nat.le_refl _) (fun k hk => by cases hk))
    have hgw := Nat.le_trans hg S3.bel.size
    refine at_callv 65 [.string ⟨⟨s⟩⟩, pt k8] (some 73) (by kernel_rfl) (by kernel_rfl) ((number_any s k8 b w3 S3.m8 hs (hC.below hg S3.bel) hgw hg8).mono fun e w4 hh => ?_)
    obtain ⟨v, rfl, hv, hvn, h8, hb4⟩ := hh
    refine ⟨_, rfl, ?_⟩
    have S4 := S3.num h8 hb4
    generalize hbo : (b && (numO s).isSome) = bo at S4 h8
    have e7 : k7 ≠ k8 := by omega
    obtain ⟨n, hn⟩ : ∃ n : Nat, IntKind.u64.wrap v = (n : Int) := by
      have h0 : 0 ≤ IntKind.u64.wrap v := by
        unfold IntKind.wrap
        simp only [IntKind.signed, IntKind.bits]
        exact Int.emod_nonneg _ (by decide)
      exact Int.eq_ofNat_of_zero_le h0
    have fin : ∀ (x : Bool) (w5 : World) (E5 : Nat → Value), x = (bo && decide (0 ≤ v)) → RdS w0 k2 g k4 k5 k7 k8 ki ws F { c with wh := n } x i w5 → At Tryz.prog 36 R (againT tRd5) (Fr 86 (updL E5 (envR k2 k4 k7 k8 ki))) w5 := by
      intro x w5 E5 hx S5
      cases hno : numO s with
      | none =>
        have hl : letP 87 s c = none := by simp [letP, hno]
        refine hk { c with wh := n } w5 E5 ?_ (fun c2 h2 => by rw [hl] at h2; cases h2)
        have e : x = false := by rw [hx, ← hbo, hno]; simp
        rw [hl]
        subst e
        simpa using S5
      | some m =>
        have hvm := hvn m hno
        subst hvm
        have hbo' : bo = b := by rw [← hbo, hno]; simp
        by_cases h0 : 0 ≤ v
        · have hnw : n = v.toNat := by
            have h1 : IntKind.u64.wrap v = v := by
              unfold IntKind.wrap
              simp only [IntKind.signed, IntKind.bits]
              refine Int.emod_eq_of_lt h0 ?_
              have := hv.2
              show v < 18446744073709551616
              omega
            rw [h1] at hn
            omega
          have hl : letP 87 s c = some { c with wh := n } := by simp [letP, hno, h0, hnw]
          refine hk { c with wh := n } w5 E5 ?_ (fun c2 h2 => by rw [hl] at h2; exact Option.some.inj h2)
          have e : x = b := by rw [hx, hbo', decide_eq_true h0, Bool.and_true]
          rw [hl]
          subst e
          simpa using S5
        · have hl : letP 87 s c = none := by simp [letP, hno, h0]
          refine hk { c with wh := n } w5 E5 ?_ (fun c2 h2 => by rw [hl] at h2; cases h2)
          have e : x = false := by rw [hx, decide_eq_false h0, Bool.and_false]
          rw [hl]
          subst e
          simpa using S5
    have hcells : c.cells.set 10 (.int .u64 (IntKind.u64.wrap v)) = { c with wh := n }.cells := by rw [hn]; rfl
    cases bo with
    | true =>
      refine at_run 60 (popOp tRdW) w4.heap.size [⟨k7, 0, c.cells, 64, true⟩, ⟨k8, 0, [.bool true], 4, true⟩] [(1, 0), (1, 0), (0, 10)] (againT tRd5) (envR k2 k4 k7 k8 ki) w4.heap.size [⟨k7, 0, c.cells.set 10 (.int .u64 (IntKind.u64.wrap v)), 64, true⟩, ⟨k8, 0, [.bool (decide (0 ≤ v))], 4, true⟩] (lies_two S4.m7 S4.m8 e7) (by kernel_rfl) fun w5 E5 hL5 hK5 => ?_
      rw [hcells] at hL5
      exact fin _ w5 E5 (by simp) (S4.ran78 hL5 hK5)
    | false =>
      refine at_run 60 (popOp tRdW) w4.heap.size [⟨k7, 0, c.cells, 64, true⟩, ⟨k8, 0, [.bool false], 4, true⟩] [(1, 0), (1, 0), (0, 10)] (againT tRd5) (envR k2 k4 k7 k8 ki) w4.heap.size [⟨k7, 0, c.cells.set 10 (.int .u64 (IntKind.u64.wrap v)), 64, true⟩, ⟨k8, 0, [.bool false], 4, true⟩] (lies_two S4.m7 S4.m8 e7) (by kernel_rfl) fun w5 E5 hL5 hK5 => ?_
      rw [hcells] at hL5
      exact fin false w5 E5 (by simp) (S4.ran78 hL5 hK5)
  · have q1 : ((a : Int) == 78) = false := by unfold eight at ha; simpa using (by omega : (a : Int) ≠ 78)
    have q2 : ((a : Int) == 87) = false := by unfold eight at ha; simpa using (by omega : (a : Int) ≠ 87)
    have n1 : a ≠ 78 ∧ a ≠ 87 := by unfold eight at ha; omega
    refine at_run 60 (popOp (popOp tRd8)) w.heap.size [] [] tRd9 (envR k2 k4 k7 k8 ki ++ [(11, .int .i32 (a : Int)), (12, .string ⟨⟨s⟩⟩), (52, .int .i32 (a : Int)), (59, .bool ((a : Int) == 78))]) w.heap.size [] (lies_nil w) (by kernel_rfl) fun w1 E1 hL1 hK1 => ?_
    have S1 := S.below (hK1.below (Nat.le_refl _) (fun k hk => by cases hk))
    refine at_cond ((a : Int) == 78) (by kernel_rfl) (fun h => by rw [q1] at h; cases h) fun _ => ?_
    refine at_run 60 (elseT tRd9) w1.heap.size [] [] tRdm (envR k2 k4 k7 k8 ki ++ [(11, .int .i32 (a : Int)), (12, .string ⟨⟨s⟩⟩), (69, .bool ((a : Int) == 87))]) w1.heap.size [] (lies_nil w1) (by kernel_rfl) fun w2 E2 hL2 hK2 => ?_
    have S2 := S1.below (hK2.below (Nat.le_refl _) (fun k hk => by cases hk))
    refine at_cond ((a : Int) == 87) (by kernel_rfl) (fun h => by rw [q2] at h; cases h) fun _ => ?_
    refine at_run 60 (elseT tRdm) w2.heap.size [] [] tRdD (envR k2 k4 k7 k8 ki ++ [(12, .string ⟨⟨s⟩⟩), (53, .int .i32 (a : Int))]) w2.heap.size [] (lies_nil w2) (by kernel_rfl) fun w3 E3 hL3 hK3 => ?_
    have S3 := S2.below (hK3.below (Nat.le_refl _) (fun k hk => by cases hk))
    refine at_call 67 [.tmp 7, .tmp 53] (some 54) [pt k7, .int .i32 (a : Int)] (by kernel_rfl) (by kernel_rfl) (by kernel_rfl) ((field_any k7 a ha w3).mono fun e w4 hh => ?_)
    obtain ⟨rfl, b4⟩ := hh
    refine ⟨_, rfl, ?_⟩
    have S4 := S3.below b4
    refine at_run 60 (popOp tRdD) w4.heap.size [] [] tRdE (envR k2 k4 k7 k8 ki ++ [(54, .pointer (some ⟨k7, fieldOff a, none⟩)), (55, numF k8), (56, .string ⟨⟨s⟩⟩)]) w4.heap.size [] (lies_nil w4) (by kernel_rfl) fun w5 E5 hL5 hK5 => ?_
    have S5 := S4.below (hK5.below (Nat.le_refl _) (fun k hk => by cases hk))
    have hgw := Nat.le_trans hg S5.bel.size
    refine at_callv 65 [.string ⟨⟨s⟩⟩, pt k8] (some 57) (by kernel_rfl) (by kernel_rfl) ((number_any s k8 b w5 S5.m8 hs (hC.below hg S5.bel) hgw hg8).mono fun e w6 hh => ?_)
    obtain ⟨v, rfl, hv, hvn, h8, hb6⟩ := hh
    refine ⟨_, rfl, ?_⟩
    have S6 := S5.num h8 hb6
    have fin : ∀ (w7 : World) (E7 : Nat → Value), RdS w0 k2 g k4 k5 k7 k8 ki ws F (putN a v c) (b && (numO s).isSome) i w7 → At Tryz.prog 36 R (againT tRd5) (Fr 86 (updL E7 (envR k2 k4 k7 k8 ki))) w7 := by
      intro w7 E7 S7
      have hl : letP a s c = (numO s).map fun n => putN a n c := by simp [letP, n1]
      refine hk (putN a v c) w7 E7 ?_ ?_
      · rw [hl, Option.isSome_map]
        exact S7
      · intro c2 h2
        rw [hl] at h2
        cases hno : numO s with
        | none => rw [hno] at h2; cases h2
        | some n =>
          rw [hno] at h2
          rw [hvn n hno]
          exact Option.some.inj h2
    unfold eight at ha
    rcases ha with rfl | rfl | rfl | rfl | rfl | rfl | rfl | rfl
    · refine at_run 60 (popOp tRdE) w6.heap.size [⟨k7, 0, c.cells, 64, true⟩] [(0, 1)] (againT tRd5) (envR k2 k4 k7 k8 ki) w6.heap.size [⟨k7, 0, (putN 69 v c).cells, 64, true⟩] (lies_one S6.m7) (by kernel_rfl) fun w7 E7 hL7 hK7 => ?_
      exact fin w7 E7 (S6.ran7 hL7 hK7)
    · refine at_run 60 (popOp tRdE) w6.heap.size [⟨k7, 0, c.cells, 64, true⟩] [(0, 3)] (againT tRd5) (envR k2 k4 k7 k8 ki) w6.heap.size [⟨k7, 0, (putN 68 v c).cells, 64, true⟩] (lies_one S6.m7) (by kernel_rfl) fun w7 E7 hL7 hK7 => ?_
      exact fin w7 E7 (S6.ran7 hL7 hK7)
    · refine at_run 60 (popOp tRdE) w6.heap.size [⟨k7, 0, c.cells, 64, true⟩] [(0, 5)] (againT tRd5) (envR k2 k4 k7 k8 ki) w6.heap.size [⟨k7, 0, (putN 86 v c).cells, 64, true⟩] (lies_one S6.m7) (by kernel_rfl) fun w7 E7 hL7 hK7 => ?_
      exact fin w7 E7 (S6.ran7 hL7 hK7)
    · refine at_run 60 (popOp tRdE) w6.heap.size [⟨k7, 0, c.cells, 64, true⟩] [(0, 6)] (againT tRd5) (envR k2 k4 k7 k8 ki) w6.heap.size [⟨k7, 0, (putN 88 v c).cells, 64, true⟩] (lies_one S6.m7) (by kernel_rfl) fun w7 E7 hL7 hK7 => ?_
      exact fin w7 E7 (S6.ran7 hL7 hK7)
    · refine at_run 60 (popOp tRdE) w6.heap.size [⟨k7, 0, c.cells, 64, true⟩] [(0, 7)] (againT tRd5) (envR k2 k4 k7 k8 ki) w6.heap.size [⟨k7, 0, (putN 82 v c).cells, 64, true⟩] (lies_one S6.m7) (by kernel_rfl) fun w7 E7 hL7 hK7 => ?_
      exact fin w7 E7 (S6.ran7 hL7 hK7)
    · refine at_run 60 (popOp tRdE) w6.heap.size [⟨k7, 0, c.cells, 64, true⟩] [(0, 9)] (againT tRd5) (envR k2 k4 k7 k8 ki) w6.heap.size [⟨k7, 0, (putN 80 v c).cells, 64, true⟩] (lies_one S6.m7) (by kernel_rfl) fun w7 E7 hL7 hK7 => ?_
      exact fin w7 E7 (S6.ran7 hL7 hK7)
    · refine at_run 60 (popOp tRdE) w6.heap.size [⟨k7, 0, c.cells, 64, true⟩] [(0, 11)] (againT tRd5) (envR k2 k4 k7 k8 ki) w6.heap.size [⟨k7, 0, (putN 84 v c).cells, 64, true⟩] (lies_one S6.m7) (by kernel_rfl) fun w7 E7 hL7 hK7 => ?_
      exact fin w7 E7 (S6.ran7 hL7 hK7)
    · refine at_run 60 (popOp tRdE) w6.heap.size [⟨k7, 0, c.cells, 64, true⟩] [(0, 12)] (againT tRd5) (envR k2 k4 k7 k8 ki) w6.heap.size [⟨k7, 0, (putN 83 v c).cells, 64, true⟩] (lies_one S6.m7) (by kernel_rfl) fun w7 E7 hL7 hK7 => ?_
      exact fin w7 E7 (S6.ran7 hL7 hK7)
end Go.Proofs.YtdcbnkimjhefkaaGreatDoor

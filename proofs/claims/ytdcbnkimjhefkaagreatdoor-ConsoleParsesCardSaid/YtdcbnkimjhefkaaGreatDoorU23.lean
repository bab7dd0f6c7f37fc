/-
  paygen's Fact: its regions that draw their order; Fact.
-/
import Derived.Test.YtdcbnkimjhefkaaGreatDoorU21
import Derived.Test.YtdcbnkimjhefkaaGreatDoorU22
namespace Go.Proofs.YtdcbnkimjhefkaaGreatDoor
open Go.RowKit
set_option maxRecDepth 100000
structure E24 (b k3 : Nat) (T : List (Nat × Value)) (w w' : World) : Prop where
  size : w.heap.size ≤ w'.heap.size
  block : ∀ k, k < w.heap.size → k ≠ b → k ≠ k3 → w'.heap[k]? = w.heap[k]?
  cells : ∀ p ∈ T, w.cell? ⟨k3, p.1, none⟩ = some p.2 → w'.cell? ⟨k3, p.1, none⟩ = some p.2
theorem E24.refl (b k3 : Nat) (T : List (Nat × Value)) (w : World) : E24 b k3 T w w := ⟨Nat.le_refl _, fun _ _ _ _ => rfl, fun _ _ h => h⟩
theorem E24.trans {b k3 : Nat} {T : List (Nat × Value)} {u v w : World} (h : E24 b k3 T u v) (k : E24 b k3 T v w) : E24 b k3 T u w :=
  ⟨Nat.le_trans h.size k.size, fun i hi hb h3 => (k.block i (Nat.lt_of_lt_of_le hi h.size) hb h3).trans (h.block i hi hb h3), fun p hp hq => k.cells p hp (h.cells p hp hq)⟩
theorem E24.of_but {b k3 : Nat} {T : List (Nat × Value)} {w w' : World} (h : But b w w') (hk : k3 < w.heap.size) (hne : k3 ≠ b) : E24 b k3 T w w' :=
  ⟨h.size, fun k hk hb _ => h.block k hk hb, fun _p _ hq => (World.cell?_of_block (h.block k3 hk hne)).trans hq⟩
variable {b : Nat} {ns : List Int} {lim lim' : Nat} {w0 : World} {k2 k3 : Nat} {c c' : Cmd} {w w' : World} {R : Ending → World → Prop} {E : Nat → Value}
theorem FaS.cell (S : FaS b ns lim w0 k2 k3 c w) (j : Nat) : w.cell? ⟨k3, j, none⟩ = c.fact[j]? := by
  unfold World.cell?
  simp [S.h3]
theorem FaS.ran1 {O : List Nat} {B z : Nat} {x : Nat × Nat} {q : List (Nat × Nat)} (S : FaS b ns lim w0 k2 k3 c w) (hL : Lies O B w' ⟨z, [entF k3 c'], x, q⟩) (hK : Kept [k3] w.heap.size w w') : FaS b ns lim w0 k2 k3 c' w' := by
  have h1 := S.l2
  have h3 := S.l3
  have h4 := S.lb
  exact ⟨⟨S.dk.deck.kept (fun k hk => by simp at hk; omega) hK, S.dk.but.kept (fun k hk => by simp at hk; omega) hK⟩, (hK.block _ (heap_lt S.h2) (by simp; omega)).trans S.h2, own_good (hL.sat.good _ (List.mem_singleton.2 rfl)), h1, h3, h4⟩
def saysSl (k3 : Nat) (cs : List Value) (n : Nat) (vs : List Value) (w : World) : Prop := ∃ g, vs = [.slice (some ⟨g, 0, none⟩) n n] ∧ k3 < g ∧ g < w.heap.size ∧ w.rangeAt g 0 cs
def saysIx (k3 : Nat) (cs : List Value) (n : Nat) (vs : List Value) (w : World) : Prop := ∃ g i, i < n ∧ vs = [.pointer (some ⟨g, 0 + i * 1, none⟩)] ∧ k3 < g ∧ g < w.heap.size ∧ w.rangeAt g 0 cs
def saysEl (xs : List (List UInt8)) (vs : List Value) (_ : World) : Prop := ∃ x ∈ xs, vs = [.string ⟨⟨x⟩⟩]
def saysLt (n : Nat) (vs : List Value) (_ : World) : Prop := ∃ k : Nat, k < n ∧ vs = [.int .i64 k]
def saysIn (xs : List Int) (vs : List Value) (_ : World) : Prop := ∃ x ∈ xs, vs = [.int .i64 x]
theorem range_keep {T : List (Nat × Value)} {g : Nat} {cs : List Value} {u u' : World} (he : E24 b k3 T u u') (hb : b < k3) (hg : k3 < g) (hl : g < u.heap.size) (h : u.rangeAt g 0 cs) : u'.rangeAt g 0 cs :=
  fun j v hj => (World.cell?_of_block (he.block g hl (by omega) (by omega))).trans (h j v hj)
theorem saysSl_keep {T : List (Nat × Value)} {cs : List Value} {n : Nat} {vs : List Value} {u u' : World} (hb : b < k3) (he : E24 b k3 T u u') (h : saysSl k3 cs n vs u) : saysSl k3 cs n vs u' := by
  obtain ⟨g, h1, h2, h3, h4⟩ := h
  exact ⟨g, h1, h2, Nat.lt_of_lt_of_le h3 he.size, range_keep he hb h2 h3 h4⟩
theorem saysIx_keep {T : List (Nat × Value)} {cs : List Value} {n : Nat} {vs : List Value} {u u' : World} (hb : b < k3) (he : E24 b k3 T u u') (h : saysIx k3 cs n vs u) : saysIx k3 cs n vs u' := by
  obtain ⟨g, i, h0, h1, h2, h3, h4⟩ := h
  exact ⟨g, i, h0, h1, h2, Nat.lt_of_lt_of_le h3 he.size, range_keep he hb h2 h3 h4⟩
abbrev strsM (l : List (List UInt8)) : List Value := l.map fun x => .string ⟨⟨x⟩⟩
abbrev intsM (l : List Int) : List Value := l.map (.int .i64)
theorem ent_one {w : World} {g i : Nat} {cs : List Value} {v : Value} (hg : g < w.heap.size) (h : w.rangeAt g 0 cs) (hv : cs[i]? = some v) : Ent.good w ⟨g, 0 + i * 1, [v], 0, false⟩ := by
  refine ⟨hg, fun j x hj => ?_⟩
  cases j with
  | zero => cases hj; have := h i v hv; simpa using this
  | succ j => cases hj
/-! region 24 -/
noncomputable def ops24 : Array Oper := regOf Tryz.f60 24
def W24 : Wr := [(82, 0), (83, 1), (84, 2), (85, 3), (86, 4), (87, 5), (88, 6), (89, 7), (90, 8), (91, 9), (92, 10), (93, 11), (94, 12), (95, 13)]
def nm24 : List (List UInt8) := [[99, 105, 116, 121], [99, 111, 117, 114, 116]]
def C24 (b : Nat) (ns : List Int) (lim : Nat) (w0 : World) (k2 k3 : Nat) (e d : Int) (m : Nat) (w : World) : Prop := m ≤ 15 ∧ ∃ z : Int, FaS b ns (lim + (15 - m)) w0 k2 k3 (fc e z d [] 0 0 0 []) w
theorem C24.down {b : Nat} {ns : List Int} {lim : Nat} {w0 : World} {k2 k3 : Nat} {e d : Int} (m : Nat) (w : World) (h : C24 b ns lim w0 k2 k3 e d (m + 1) w) : C24 b ns lim w0 k2 k3 e d m w := by
  obtain ⟨h1, z, S⟩ := h
  exact ⟨by omega, z, S.more (by omega)⟩
def T24 : List (Nat × Value) := [(1, .int .i64 8)]
def L24 (b k3 : Nat) : List Loc :=
  [⟨0, [], [0], saysSl k3 (strsM nm24) 2⟩, pureL 1 [] (pb b), ⟨2, [1], [2], saysLt 2⟩, ⟨3, [0, 2], [3], saysIx k3 (strsM nm24) 2⟩, ⟨4, [3], [4], saysEl nm24⟩,
   pureL 5 [] (pb b), ⟨6, [], [6], saysSl k3 (intsM ([100000, 30000, 0] : List Int)) 3⟩, ⟨7, [2, 5, 6], [7], saysIn ([100000, 30000, 0] : List Int)⟩, pureL 8 [] (pb b), ⟨9, [], [9], saysSl k3 (intsM ([0, 20000] : List Int)) 2⟩, ⟨10, [2, 5, 6, 7, 8, 9], [10], saysIn ([0, 20000] : List Int)⟩,
   pureL 11 [] (pb b), ⟨12, [2, 5, 6, 7, 8, 9, 10, 11], [12], saysLt 3⟩, pureL 13 [] (.pointer (some ⟨k3, 1, none⟩)), ⟨14, [2, 5, 6, 7, 8, 9, 10, 11, 12, 13], [], fun _ w => w.cell? ⟨k3, 1, none⟩ = some (.int .i64 8)⟩]
theorem ok24 (b k3 : Nat) : (locOk .any ops24 W24 (Array.replicate 23 false) 101 (L24 b k3) && bare ops24 (L24 b k3)) = true := by kernel_rfl
theorem parts24 {e d : Int} (hb3 : b < k3) (hlim : lim ≤ 4611686018427380000) : PartsN Tryz.prog ops24 101 (updL E (envF b k2 k3)) W24 (C24 b ns lim w0 k2 k3 e d) (E24 b k3 T24) (L24 b k3) (L24 b k3) := by
  refine ⟨?_, partN_pure C24.down (E24.refl b k3 T24) (fun _ _ _ _ _ => by kernel_rfl), ?_, ?_, ?_, partN_pure C24.down (E24.refl b k3 T24) (fun _ _ _ _ _ => by kernel_rfl), ?_, ?_, partN_pure C24.down (E24.refl b k3 T24) (fun _ _ _ _ _ => by kernel_rfl), ?_, ?_, partN_pure C24.down (E24.refl b k3 T24) (fun _ _ _ _ _ => by kernel_rfl), ?_, partN_pure C24.down (E24.refl b k3 T24) (fun _ _ _ _ _ => by kernel_rfl), ?_, trivial⟩
  · refine ⟨fun vs u u' he h => saysSl_keep hb3 he h, fun m vals u hC hb => ?_⟩
    obtain ⟨hm, z, S⟩ := hC
    refine OpOk.runs ⟨u.heap.size, [], (0, 0), []⟩ ⟨u.heap.size + 1, [⟨u.heap.size, 0, strsM nm24, 9, true⟩], (0, 0), []⟩ (.value (.slice (some ⟨u.heap.size, 0, none⟩) 2 2)) (.slice (some ⟨u.heap.size, 0, none⟩) 2 2) (by kernel_rfl) (.inl rfl) (lies_nil u) rfl fun u' hL hK => ?_
    have B : Below u.heap.size u u' := hK.below (Nat.le_refl _) (fun k hk => by cases hk)
    have g := own_good (hL.sat.good _ (List.mem_singleton.2 rfl))
    exact ⟨⟨by omega, z, (S.below B).more (by omega)⟩, E24.of_but (.of_below B) (heap_lt S.h3) (by omega), ⟨_, rfl, heap_lt S.h3, heap_lt g, rangeAt_lit g 0 _ rfl⟩⟩
  · refine ⟨fun _ _ _ _ h => h, fun m vals u hC hb => ?_⟩
    obtain ⟨hm, z, S⟩ := hC
    obtain ⟨h1, _⟩ := hb
    refine OpOk.call (f := 32) [.tmp 83, .const (.int .i64 2)] (args := [pb b, .int .i64 2]) (ats := #[45, 3]) (by kernel_rfl) rfl ?_ (run_callable (by kernel_rfl) _ _) ?_
    · rw [show [.tmp 83, .const (.int .i64 2)].map (evalVE 101 (updL E (envF b k2 k3)) W24 vals) = [vals 1, .int .i64 2] by kernel_rfl, (List.cons.inj h1).1]
    · refine (dnext_any b ns _ 2 u S.dk.deck (by omega) (by omega) (by omega)).mono ?_
      rintro e u' ⟨k, hk, rfl, D⟩
      exact ⟨_, rfl, ⟨by omega, z, (S.call D).more (by omega)⟩, E24.of_but D.but (heap_lt S.h3) (by omega), k, by omega, rfl⟩
  · refine ⟨fun vs u u' he h => saysIx_keep hb3 he h, fun m vals u hC hb => ?_⟩
    obtain ⟨h0, h2, _⟩ := hb
    obtain ⟨g, hv, hg3, hgl, hr⟩ := h0
    obtain ⟨k, hk, hkv⟩ := h2
    exact OpOk.value (exec_index (sz := 1) (cap := 2) 53 (.tmp 82) (.tmp 84) (by kernel_rfl) ((by kernel_rfl : evalVE 101 (updL E (envF b k2 k3)) W24 vals (.tmp 82) = vals 0).trans (List.cons.inj hv).1) ((by kernel_rfl : evalVE 101 (updL E (envF b k2 k3)) W24 vals (.tmp 84) = vals 2).trans (List.cons.inj hkv).1) hk Tryz.underlying53 (by kernel_rfl)) ⟨C24.down m u hC, .refl _ _ _ _, g, k, hk, rfl, hg3, hgl, hr⟩
  · refine ⟨fun _ _ _ _ h => h, fun m vals u hC hb => ?_⟩
    obtain ⟨h3, _⟩ := hb
    obtain ⟨g, i, hi, hv, hg3, hgl, hr⟩ := h3
    have hn : i < nm24.length := hi
    have hx := List.getElem_mem hn
    have hc : (strsM nm24)[i]? = some (.string ⟨⟨nm24[i]⟩⟩) := by simp [hn]
    generalize nm24[i] = x at hx hc
    exact OpOk.knownE [(85, 3, .pointer (some ⟨g, 0 + i * 1, none⟩))] (by kernel_rfl) ⟨(List.cons.inj hv).1, trivial⟩ (OpOk.reads ⟨0, [⟨g, 0 + i * 1, [.string ⟨⟨x⟩⟩], 0, false⟩], (0, 0), []⟩ (fun e he => by rw [List.mem_singleton.1 he]; exact ent_one hgl hr hc) (.string ⟨⟨x⟩⟩) (by kernel_rfl) (by kernel_rfl) ⟨C24.down m u hC, .refl _ _ _ _, x, hx, rfl⟩)
  · refine ⟨fun vs u u' he h => saysSl_keep hb3 he h, fun m vals u hC hb => ?_⟩
    obtain ⟨hm, z, S⟩ := hC
    refine OpOk.runs ⟨u.heap.size, [], (0, 0), []⟩ ⟨u.heap.size + 1, [⟨u.heap.size, 0, intsM ([100000, 30000, 0] : List Int), 3, true⟩], (0, 0), []⟩ (.value (.slice (some ⟨u.heap.size, 0, none⟩) 3 3)) (.slice (some ⟨u.heap.size, 0, none⟩) 3 3) (by kernel_rfl) (.inl rfl) (lies_nil u) rfl fun u' hL hK => ?_
    have B : Below u.heap.size u u' := hK.below (Nat.le_refl _) (fun k hk => by cases hk)
    have g := own_good (hL.sat.good _ (List.mem_singleton.2 rfl))
    exact ⟨⟨by omega, z, (S.below B).more (by omega)⟩, E24.of_but (.of_below B) (heap_lt S.h3) (by omega), ⟨_, rfl, heap_lt S.h3, heap_lt g, rangeAt_lit g 0 _ rfl⟩⟩
  · refine ⟨fun _ _ _ _ h => h, fun m vals u hC hb => ?_⟩
    obtain ⟨hm, z, S⟩ := hC
    obtain ⟨_, h1, h2, _⟩ := hb
    obtain ⟨g, hv, hg3, hgl, hr⟩ := h2
    refine OpOk.call (f := 59) [.tmp 87, .tmp 88] (args := [pb b, .slice (some ⟨g, 0, none⟩) 3 3]) (ats := #[45, 44]) (by kernel_rfl) rfl ?_ (run_callable (by kernel_rfl) _ _) ?_
    · rw [show [.tmp 87, .tmp 88].map (evalVE 101 (updL E (envF b k2 k3)) W24 vals) = [vals 5, vals 6] by kernel_rfl, (List.cons.inj h1).1, (List.cons.inj hv).1]
    · refine (dpick_any b ns _ u S.dk.deck (by omega) g 3 ([100000, 30000, 0] : List Int) (by simp) (by simp) (by omega) hgl hr).mono ?_
      rintro e u' ⟨x, hx, rfl, D⟩
      exact ⟨_, rfl, ⟨by omega, z, (S.call D).more (by omega)⟩, E24.of_but D.but (heap_lt S.h3) (by omega), x, hx, rfl⟩
  · refine ⟨fun vs u u' he h => saysSl_keep hb3 he h, fun m vals u hC hb => ?_⟩
    obtain ⟨hm, z, S⟩ := hC
    refine OpOk.runs ⟨u.heap.size, [], (0, 0), []⟩ ⟨u.heap.size + 1, [⟨u.heap.size, 0, intsM ([0, 20000] : List Int), 3, true⟩], (0, 0), []⟩ (.value (.slice (some ⟨u.heap.size, 0, none⟩) 2 2)) (.slice (some ⟨u.heap.size, 0, none⟩) 2 2) (by kernel_rfl) (.inl rfl) (lies_nil u) rfl fun u' hL hK => ?_
    have B : Below u.heap.size u u' := hK.below (Nat.le_refl _) (fun k hk => by cases hk)
    have g := own_good (hL.sat.good _ (List.mem_singleton.2 rfl))
    exact ⟨⟨by omega, z, (S.below B).more (by omega)⟩, E24.of_but (.of_below B) (heap_lt S.h3) (by omega), ⟨_, rfl, heap_lt S.h3, heap_lt g, rangeAt_lit g 0 _ rfl⟩⟩
  · refine ⟨fun _ _ _ _ h => h, fun m vals u hC hb => ?_⟩
    obtain ⟨hm, z, S⟩ := hC
    obtain ⟨_, _, _, _, h1, h2, _⟩ := hb
    obtain ⟨g, hv, hg3, hgl, hr⟩ := h2
    refine OpOk.call (f := 59) [.tmp 90, .tmp 91] (args := [pb b, .slice (some ⟨g, 0, none⟩) 2 2]) (ats := #[45, 44]) (by kernel_rfl) rfl ?_ (run_callable (by kernel_rfl) _ _) ?_
    · rw [show [.tmp 90, .tmp 91].map (evalVE 101 (updL E (envF b k2 k3)) W24 vals) = [vals 8, vals 9] by kernel_rfl, (List.cons.inj h1).1, (List.cons.inj hv).1]
    · refine (dpick_any b ns _ u S.dk.deck (by omega) g 2 ([0, 20000] : List Int) (by simp) (by simp) (by omega) hgl hr).mono ?_
      rintro e u' ⟨x, hx, rfl, D⟩
      exact ⟨_, rfl, ⟨by omega, z, (S.call D).more (by omega)⟩, E24.of_but D.but (heap_lt S.h3) (by omega), x, hx, rfl⟩
  · refine ⟨fun _ _ _ _ h => h, fun m vals u hC hb => ?_⟩
    obtain ⟨hm, z, S⟩ := hC
    obtain ⟨_, _, _, _, _, _, _, h1, _⟩ := hb
    refine OpOk.call (f := 32) [.tmp 93, .const (.int .i64 3)] (args := [pb b, .int .i64 3]) (ats := #[45, 3]) (by kernel_rfl) rfl ?_ (run_callable (by kernel_rfl) _ _) ?_
    · rw [show [.tmp 93, .const (.int .i64 3)].map (evalVE 101 (updL E (envF b k2 k3)) W24 vals) = [vals 11, .int .i64 3] by kernel_rfl, (List.cons.inj h1).1]
    · refine (dnext_any b ns _ 3 u S.dk.deck (by omega) (by omega) (by omega)).mono ?_
      rintro e u' ⟨k, hk, rfl, D⟩
      exact ⟨_, rfl, ⟨by omega, z, (S.call D).more (by omega)⟩, E24.of_but D.but (heap_lt S.h3) (by omega), k, by omega, rfl⟩
  · refine ⟨fun _ u u' he h => he.cells (1, .int .i64 8) (by simp [T24]) h, fun m vals u hC hb => ?_⟩
    obtain ⟨hm, z, S⟩ := hC
    obtain ⟨_, _, _, _, _, _, _, _, _, h13, _⟩ := hb
    have hl := lies_one S.h3
    refine OpOk.knownE [(95, 13, .pointer (some ⟨k3, 1, none⟩))] (by kernel_rfl) ⟨(List.cons.inj h13).1, trivial⟩ (OpOk.runs ⟨u.heap.size, [entF k3 (fc e z d [] 0 0 0 [])], (0, 1), []⟩ ⟨u.heap.size, [entF k3 (fc e 8 d [] 0 0 0 [])], (0, 2), [(k3, k3), (1, 1)]⟩ .skip undef (by kernel_rfl) (.inr ⟨rfl, rfl⟩) ⟨hl.sat, hl.le, hl.own⟩ rfl fun u' hL hK => ?_)
    have S2 : FaS b ns (lim + (15 - (m + 1))) w0 k2 k3 (fc e 8 d [] 0 0 0 []) u' := S.ran1 hL hK
    exact ⟨⟨by omega, _, S2.more (by omega)⟩, ⟨hK.size, fun k hk _ h3 => hK.block k hk (by simpa using h3), fun p hp _ => by rw [List.mem_singleton.1 hp]; exact S2.cell 1⟩, S2.cell 1⟩
theorem region24 {e d : Int} (he : mid e) (hd : mid d) (hlim : lim ≤ 4611686018427380000) (S : FaS b ns lim w0 k2 k3 (fc e 0 d [] 0 0 0 []) w) :
    At Tryz.prog 60 (FactPost b ns (lim + 15) w0) tFq6 (Fr 101 (updL E (envF b k2 k3))) w := by
  have hb3 : b < k3 := by have := S.l2; have := S.l3; have := S.lb; omega
  refine at_draw ops24 (by kernel_rfl) (by kernel_rfl) 23 (by kernel_rfl) ?_
  refine any_partsN (fuel := 8) (L := L24 b k3) (W := W24) (C := C24 b ns lim w0 k2 k3 e d) (Ext := E24 b k3 T24) (ok24 b k3) ⟨Nat.le_refl _, 0, S.below (Below.refl _ _).drew⟩ C24.down (E24.refl b k3 T24) (fun _ _ _ => E24.trans) (parts24 hb3 hlim) rfl ?_
  intro vals u hC _ hall
  obtain ⟨_, z, S0⟩ := hC
  obtain ⟨_, _, _, _, ⟨x4, hx4, e4⟩, _, _, ⟨x7, hx7, e7⟩, _, _, ⟨x10, hx10, e10⟩, _, ⟨x12, hx12, e12⟩, _, h14, _⟩ := hall
  have hz : z = 8 := by
    have h14' : u.cell? ⟨k3, 1, none⟩ = some (.int .i64 8) := h14
    have h15 : u.cell? ⟨k3, 1, none⟩ = some (.int .i64 z) := S0.cell 1
    rw [h15] at h14'
    exact (Value.int.inj (Option.some.inj h14')).2
  subst hz
  have r15 : Region.ready .any ops24 (((L24 b k3).map (·.idx)).foldl (fun b i => b.setIfInBounds i true) (Array.replicate 23 false)) = [15] := by kernel_rfl
  have r16 : Region.ready .any ops24 ((((L24 b k3).map (·.idx)).foldl (fun b i => b.setIfInBounds i true) (Array.replicate 23 false)).setIfInBounds 15 true) = [16] := by kernel_rfl
  have r17 : Region.ready .any ops24 (((((L24 b k3).map (·.idx)).foldl (fun b i => b.setIfInBounds i true) (Array.replicate 23 false)).setIfInBounds 15 true).setIfInBounds 16 true) = [17] := by kernel_rfl
  have r18 : Region.ready .any ops24 ((((((L24 b k3).map (·.idx)).foldl (fun b i => b.setIfInBounds i true) (Array.replicate 23 false)).setIfInBounds 15 true).setIfInBounds 16 true).setIfInBounds 17 true) = [18] := by kernel_rfl
  have r19 : Region.ready .any ops24 (((((((L24 b k3).map (·.idx)).foldl (fun b i => b.setIfInBounds i true) (Array.replicate 23 false)).setIfInBounds 15 true).setIfInBounds 16 true).setIfInBounds 17 true).setIfInBounds 18 true) = [19] := by kernel_rfl
  have r20 : Region.ready .any ops24 ((((((((L24 b k3).map (·.idx)).foldl (fun b i => b.setIfInBounds i true) (Array.replicate 23 false)).setIfInBounds 15 true).setIfInBounds 16 true).setIfInBounds 17 true).setIfInBounds 18 true).setIfInBounds 19 true) = [20] := by kernel_rfl
  have r21 : Region.ready .any ops24 (((((((((L24 b k3).map (·.idx)).foldl (fun b i => b.setIfInBounds i true) (Array.replicate 23 false)).setIfInBounds 15 true).setIfInBounds 16 true).setIfInBounds 17 true).setIfInBounds 18 true).setIfInBounds 19 true).setIfInBounds 20 true) = [21] := by kernel_rfl
  have r22 : Region.ready .any ops24 ((((((((((L24 b k3).map (·.idx)).foldl (fun b i => b.setIfInBounds i true) (Array.replicate 23 false)).setIfInBounds 15 true).setIfInBounds 16 true).setIfInBounds 17 true).setIfInBounds 18 true).setIfInBounds 19 true).setIfInBounds 20 true).setIfInBounds 21 true) = [22] := by kernel_rfl
  have r23 : Region.ready .any ops24 (((((((((((L24 b k3).map (·.idx)).foldl (fun b i => b.setIfInBounds i true) (Array.replicate 23 false)).setIfInBounds 15 true).setIfInBounds 16 true).setIfInBounds 17 true).setIfInBounds 18 true).setIfInBounds 19 true).setIfInBounds 20 true).setIfInBounds 21 true).setIfInBounds 22 true) = [] := by kernel_rfl
  have qs : ((86, vals 4) :: (89, vals 7) :: (92, vals 10) :: (94, vals 12) :: envF b k2 k3).map (fun p => finE ops24 vals ((L24 b k3).map (·.idx)) (updL E (envF b k2 k3)) p.1) = ((86, vals 4) :: (89, vals 7) :: (92, vals 10) :: (94, vals 12) :: envF b k2 k3).map (·.2) := by kernel_rfl
  generalize ((L24 b k3).map (·.idx)).foldl (fun b i => b.setIfInBounds i true) (Array.replicate 23 false) = lst at *
  generalize finE ops24 vals ((L24 b k3).map (·.idx)) (updL E (envF b k2 k3)) = E8 at *
  rw [← updL_same qs, show vals 4 = .string ⟨⟨x4⟩⟩ from (List.cons.inj e4).1, show vals 7 = .int .i64 x7 from (List.cons.inj e7).1, show vals 10 = .int .i64 x10 from (List.cons.inj e10).1, show vals 12 = .int .i64 x12 from (List.cons.inj e12).1]
  have l15 := lies_one S0.h3
  refine any_run (fuel := 7) (ops24.getD 15 default) ⟨u.heap.size, [entF k3 (fc e 8 d [] 0 0 0 [])], (0, 0), []⟩ ⟨u.heap.size, [entF k3 (fc e 8 d [] 0 0 0 [])], (0, 0), []⟩ (.value (.pointer (some ⟨k3, 3, none⟩))) (.pointer (some ⟨k3, 3, none⟩)) r15 (by kernel_rfl) (by kernel_rfl) (by kernel_rfl) (.inl rfl) l15 rfl fun u15 hL15 hK15 => ?_
  have S15 := S0.ran1 hL15 hK15
  have l16 := lies_one S15.h3
  refine any_run (fuel := 6) (ops24.getD 16 default) ⟨u15.heap.size, [entF k3 (fc e 8 d [] 0 0 0 [])], (0, 3), []⟩ ⟨u15.heap.size, [entF k3 (fc e 8 d x4 0 0 0 [])], (0, 4), [(k3, k3), (3, 3)]⟩ .skip undef r16 (by kernel_rfl) (by kernel_rfl) (by kernel_rfl) (.inr ⟨rfl, rfl⟩) ⟨l16.sat, l16.le, l16.own⟩ rfl fun u16 hL16 hK16 => ?_
  have S16 : FaS b ns (lim + (15 - 0)) w0 k2 k3 (fc e 8 d x4 0 0 0 []) u16 := S15.ran1 hL16 hK16
  have l17 := lies_one S16.h3
  refine any_run (fuel := 5) (ops24.getD 17 default) ⟨u16.heap.size, [entF k3 (fc e 8 d x4 0 0 0 [])], (0, 0), []⟩ ⟨u16.heap.size, [entF k3 (fc e 8 d x4 0 0 0 [])], (0, 0), []⟩ (.value (.pointer (some ⟨k3, 4, none⟩))) (.pointer (some ⟨k3, 4, none⟩)) r17 (by kernel_rfl) (by kernel_rfl) (by kernel_rfl) (.inl rfl) l17 rfl fun u17 hL17 hK17 => ?_
  have S17 := S16.ran1 hL17 hK17
  have l18 := lies_one S17.h3
  refine any_run (fuel := 4) (ops24.getD 18 default) ⟨u17.heap.size, [entF k3 (fc e 8 d x4 0 0 0 [])], (0, 4), []⟩ ⟨u17.heap.size, [entF k3 (fc e 8 d x4 x7 0 0 [])], (0, 5), [(k3, k3), (4, 4)]⟩ .skip undef r18 (by kernel_rfl) (by kernel_rfl) (by kernel_rfl) (.inr ⟨rfl, rfl⟩) ⟨l18.sat, l18.le, l18.own⟩ rfl fun u18 hL18 hK18 => ?_
  have S18 : FaS b ns (lim + (15 - 0)) w0 k2 k3 (fc e 8 d x4 x7 0 0 []) u18 := S17.ran1 hL18 hK18
  have l19 := lies_one S18.h3
  refine any_run (fuel := 3) (ops24.getD 19 default) ⟨u18.heap.size, [entF k3 (fc e 8 d x4 x7 0 0 [])], (0, 0), []⟩ ⟨u18.heap.size, [entF k3 (fc e 8 d x4 x7 0 0 [])], (0, 0), []⟩ (.value (.pointer (some ⟨k3, 5, none⟩))) (.pointer (some ⟨k3, 5, none⟩)) r19 (by kernel_rfl) (by kernel_rfl) (by kernel_rfl) (.inl rfl) l19 rfl fun u19 hL19 hK19 => ?_
  have S19 := S18.ran1 hL19 hK19
  have l20 := lies_one S19.h3
  refine any_run (fuel := 2) (ops24.getD 20 default) ⟨u19.heap.size, [entF k3 (fc e 8 d x4 x7 0 0 [])], (0, 5), []⟩ ⟨u19.heap.size, [entF k3 (fc e 8 d x4 x7 x10 0 [])], (0, 6), [(k3, k3), (5, 5)]⟩ .skip undef r20 (by kernel_rfl) (by kernel_rfl) (by kernel_rfl) (.inr ⟨rfl, rfl⟩) ⟨l20.sat, l20.le, l20.own⟩ rfl fun u20 hL20 hK20 => ?_
  have S20 : FaS b ns (lim + (15 - 0)) w0 k2 k3 (fc e 8 d x4 x7 x10 0 []) u20 := S19.ran1 hL20 hK20
  have l21 := lies_one S20.h3
  refine any_run (fuel := 1) (ops24.getD 21 default) ⟨u20.heap.size, [entF k3 (fc e 8 d x4 x7 x10 0 [])], (0, 0), []⟩ ⟨u20.heap.size, [entF k3 (fc e 8 d x4 x7 x10 0 [])], (0, 0), []⟩ (.value (.pointer (some ⟨k3, 6, none⟩))) (.pointer (some ⟨k3, 6, none⟩)) r21 (by kernel_rfl) (by kernel_rfl) (by kernel_rfl) (.inl rfl) l21 rfl fun u21 hL21 hK21 => ?_
  have S21 := S20.ran1 hL21 hK21
  have l22 := lies_one S21.h3
  refine any_run (fuel := 0) (ops24.getD 22 default) ⟨u21.heap.size, [entF k3 (fc e 8 d x4 x7 x10 0 [])], (0, 6), []⟩ ⟨u21.heap.size, [entF k3 (fc e 8 d x4 x7 x10 x12 [])], (0, 7), [(k3, k3), (6, 6)]⟩ .skip undef r22 (by kernel_rfl) (by kernel_rfl) (by kernel_rfl) (.inr ⟨rfl, rfl⟩) ⟨l22.sat, l22.le, l22.own⟩ rfl fun u22 hL22 hK22 => ?_
  have S22 : FaS b ns (lim + (15 - 0)) w0 k2 k3 (fc e 8 d x4 x7 x10 x12 []) u22 := S21.ran1 hL22 hK22
  refine any_end r23 ⟨rfl, At.mid ?_⟩
  refine at_known (envF b k2 k3) (by kernel_rfl) fun E9 => ?_
  refine at_runC 300 [(2, 1)] (tailT tFq6) u22.heap.size [entF k3 (fc e 8 d x4 x7 x10 x12 []), entZ k2] tFz [(2, pb k2)] u22.heap.size [entF k3 (fc e 8 d x4 x7 x10 x12 []), ⟨k2, 0, (fc e 8 d x4 x7 x10 x12 []).fact, 61, true⟩] (lies_two S22.h3 S22.h2 S22.ne) (by kernel_rfl) fun w9 E9 hL9 hK9 => ?_
  have hv7 : mid x7 := by
    simp only [List.mem_cons, List.not_mem_nil, or_false] at hx7
    rcases hx7 with rfl | rfl | rfl <;> exact ⟨by decide, by decide⟩
  have hv10 : mid x10 := by
    simp only [List.mem_cons, List.not_mem_nil, or_false] at hx10
    rcases hx10 with rfl | rfl <;> exact ⟨by decide, by decide⟩
  have hv12 : mid (x12 : Int) := ⟨by omega, by omega⟩
  have hG : GenF (fc e 8 d x4 x7 x10 x12 []) := by
    simp only [nm24, List.mem_cons, List.not_mem_nil, or_false] at hx4
    rcases hx4 with rfl | rfl
    · exact gen8city e d x7 x10 x12 he hd hv7 hv10 hv12
    · exact gen8court e d x7 x10 x12 he hd hv7 hv10 hv12
  exact fact_ret hG S22 hL9 hK9
/-! region 3 -/
noncomputable def ops3 : Array Oper := regOf Tryz.f60 3
def W3 : Wr := [(12, 0), (13, 1), (14, 2), (15, 3), (16, 4), (17, 5), (18, 6), (19, 7), (20, 8), (21, 9), (22, 10), (23, 11), (24, 12), (25, 13)]
def nm3 : List (List UInt8) := [[99, 108, 117, 98], [108, 111, 97, 110]]
def C3 (b : Nat) (ns : List Int) (lim : Nat) (w0 : World) (k2 k3 : Nat) (e d : Int) (m : Nat) (w : World) : Prop := m ≤ 15 ∧ ∃ z : Int, FaS b ns (lim + (15 - m)) w0 k2 k3 (fc e z d [] 0 0 0 []) w
theorem C3.down {b : Nat} {ns : List Int} {lim : Nat} {w0 : World} {k2 k3 : Nat} {e d : Int} (m : Nat) (w : World) (h : C3 b ns lim w0 k2 k3 e d (m + 1) w) : C3 b ns lim w0 k2 k3 e d m w := by
  obtain ⟨h1, z, S⟩ := h
  exact ⟨by omega, z, S.more (by omega)⟩
def T3 : List (Nat × Value) := [(1, .int .i64 9)]
def L3 (b k3 : Nat) : List Loc :=
  [⟨0, [], [0], saysSl k3 (strsM nm3) 2⟩, pureL 1 [] (pb b), ⟨2, [1], [2], saysLt 2⟩, ⟨3, [0, 2], [3], saysIx k3 (strsM nm3) 2⟩, ⟨4, [3], [4], saysEl nm3⟩,
   pureL 5 [] (pb b), ⟨6, [], [6], saysSl k3 (intsM ([5000, 0, 100000] : List Int)) 3⟩, ⟨7, [2, 5, 6], [7], saysIn ([5000, 0, 100000] : List Int)⟩, pureL 8 [] (pb b), ⟨9, [], [9], saysSl k3 (intsM ([0, 7000] : List Int)) 2⟩, ⟨10, [2, 5, 6, 7, 8, 9], [10], saysIn ([0, 7000] : List Int)⟩,
   pureL 11 [] (pb b), ⟨12, [2, 5, 6, 7, 8, 9, 10, 11], [12], saysLt 3⟩, pureL 13 [] (.pointer (some ⟨k3, 1, none⟩)), ⟨14, [2, 5, 6, 7, 8, 9, 10, 11, 12, 13], [], fun _ w => w.cell? ⟨k3, 1, none⟩ = some (.int .i64 9)⟩]
theorem ok3 (b k3 : Nat) : (locOk .any ops3 W3 (Array.replicate 23 false) 101 (L3 b k3) && bare ops3 (L3 b k3)) = true := by kernel_rfl
theorem parts3 {e d : Int} (hb3 : b < k3) (hlim : lim ≤ 4611686018427380000) : PartsN Tryz.prog ops3 101 (updL E (envF b k2 k3)) W3 (C3 b ns lim w0 k2 k3 e d) (E24 b k3 T3) (L3 b k3) (L3 b k3) := by
  refine ⟨?_, partN_pure C3.down (E24.refl b k3 T3) (fun _ _ _ _ _ => by kernel_rfl), ?_, ?_, ?_, partN_pure C3.down (E24.refl b k3 T3) (fun _ _ _ _ _ => by kernel_rfl), ?_, ?_, partN_pure C3.down (E24.refl b k3 T3) (fun _ _ _ _ _ => by kernel_rfl), ?_, ?_, partN_pure C3.down (E24.refl b k3 T3) (fun _ _ _ _ _ => by kernel_rfl), ?_, partN_pure C3.down (E24.refl b k3 T3) (fun _ _ _ _ _ => by kernel_rfl), ?_, trivial⟩
  · refine ⟨fun vs u u' he h => saysSl_keep hb3 he h, fun m vals u hC hb => ?_⟩
    obtain ⟨hm, z, S⟩ := hC
    refine OpOk.runs ⟨u.heap.size, [], (0, 0), []⟩ ⟨u.heap.size + 1, [⟨u.heap.size, 0, strsM nm3, 9, true⟩], (0, 0), []⟩ (.value (.slice (some ⟨u.heap.size, 0, none⟩) 2 2)) (.slice (some ⟨u.heap.size, 0, none⟩) 2 2) (by kernel_rfl) (.inl rfl) (lies_nil u) rfl fun u' hL hK => ?_
    have B : Below u.heap.size u u' := hK.below (Nat.le_refl _) (fun k hk => by cases hk)
    have g := own_good (hL.sat.good _ (List.mem_singleton.2 rfl))
    exact ⟨⟨by omega, z, (S.below B).more (by omega)⟩, E24.of_but (.of_below B) (heap_lt S.h3) (by omega), ⟨_, rfl, heap_lt S.h3, heap_lt g, rangeAt_lit g 0 _ rfl⟩⟩
  · refine ⟨fun _ _ _ _ h => h, fun m vals u hC hb => ?_⟩
    obtain ⟨hm, z, S⟩ := hC
    obtain ⟨h1, _⟩ := hb
    refine OpOk.call (f := 32) [.tmp 13, .const (.int .i64 2)] (args := [pb b, .int .i64 2]) (ats := #[45, 3]) (by kernel_rfl) rfl ?_ (run_callable (by kernel_rfl) _ _) ?_
    · rw [show [.tmp 13, .const (.int .i64 2)].map (evalVE 101 (updL E (envF b k2 k3)) W3 vals) = [vals 1, .int .i64 2] by kernel_rfl, (List.cons.inj h1).1]
    · refine (dnext_any b ns _ 2 u S.dk.deck (by omega) (by omega) (by omega)).mono ?_
      rintro e u' ⟨k, hk, rfl, D⟩
      exact ⟨_, rfl, ⟨by omega, z, (S.call D).more (by omega)⟩, E24.of_but D.but (heap_lt S.h3) (by omega), k, by omega, rfl⟩
  · refine ⟨fun vs u u' he h => saysIx_keep hb3 he h, fun m vals u hC hb => ?_⟩
    obtain ⟨h0, h2, _⟩ := hb
    obtain ⟨g, hv, hg3, hgl, hr⟩ := h0
    obtain ⟨k, hk, hkv⟩ := h2
    exact OpOk.value (exec_index (sz := 1) (cap := 2) 53 (.tmp 12) (.tmp 14) (by kernel_rfl) ((by kernel_rfl : evalVE 101 (updL E (envF b k2 k3)) W3 vals (.tmp 12) = vals 0).trans (List.cons.inj hv).1) ((by kernel_rfl : evalVE 101 (updL E (envF b k2 k3)) W3 vals (.tmp 14) = vals 2).trans (List.cons.inj hkv).1) hk Tryz.underlying53 (by kernel_rfl)) ⟨C3.down m u hC, .refl _ _ _ _, g, k, hk, rfl, hg3, hgl, hr⟩
  · refine ⟨fun _ _ _ _ h => h, fun m vals u hC hb => ?_⟩
    obtain ⟨h3, _⟩ := hb
    obtain ⟨g, i, hi, hv, hg3, hgl, hr⟩ := h3
    have hn : i < nm3.length := hi
    have hx := List.getElem_mem hn
    have hc : (strsM nm3)[i]? = some (.string ⟨⟨nm3[i]⟩⟩) := by simp [hn]
    generalize nm3[i] = x at hx hc
    exact OpOk.knownE [(15, 3, .pointer (some ⟨g, 0 + i * 1, none⟩))] (by kernel_rfl) ⟨(List.cons.inj hv).1, trivial⟩ (OpOk.reads ⟨0, [⟨g, 0 + i * 1, [.string ⟨⟨x⟩⟩], 0, false⟩], (0, 0), []⟩ (fun e he => by rw [List.mem_singleton.1 he]; exact ent_one hgl hr hc) (.string ⟨⟨x⟩⟩) (by kernel_rfl) (by kernel_rfl) ⟨C3.down m u hC, .refl _ _ _ _, x, hx, rfl⟩)
  · refine ⟨fun vs u u' he h => saysSl_keep hb3 he h, fun m vals u hC hb => ?_⟩
    obtain ⟨hm, z, S⟩ := hC
    refine OpOk.runs ⟨u.heap.size, [], (0, 0), []⟩ ⟨u.heap.size + 1, [⟨u.heap.size, 0, intsM ([5000, 0, 100000] : List Int), 3, true⟩], (0, 0), []⟩ (.value (.slice (some ⟨u.heap.size, 0, none⟩) 3 3)) (.slice (some ⟨u.heap.size, 0, none⟩) 3 3) (by kernel_rfl) (.inl rfl) (lies_nil u) rfl fun u' hL hK => ?_
    have B : Below u.heap.size u u' := hK.below (Nat.le_refl _) (fun k hk => by cases hk)
    have g := own_good (hL.sat.good _ (List.mem_singleton.2 rfl))
    exact ⟨⟨by omega, z, (S.below B).more (by omega)⟩, E24.of_but (.of_below B) (heap_lt S.h3) (by omega), ⟨_, rfl, heap_lt S.h3, heap_lt g, rangeAt_lit g 0 _ rfl⟩⟩
  · refine ⟨fun _ _ _ _ h => h, fun m vals u hC hb => ?_⟩
    obtain ⟨hm, z, S⟩ := hC
    obtain ⟨_, h1, h2, _⟩ := hb
    obtain ⟨g, hv, hg3, hgl, hr⟩ := h2
    refine OpOk.call (f := 59) [.tmp 17, .tmp 18] (args := [pb b, .slice (some ⟨g, 0, none⟩) 3 3]) (ats := #[45, 44]) (by kernel_rfl) rfl ?_ (run_callable (by kernel_rfl) _ _) ?_
    · rw [show [.tmp 17, .tmp 18].map (evalVE 101 (updL E (envF b k2 k3)) W3 vals) = [vals 5, vals 6] by kernel_rfl, (List.cons.inj h1).1, (List.cons.inj hv).1]
    · refine (dpick_any b ns _ u S.dk.deck (by omega) g 3 ([5000, 0, 100000] : List Int) (by simp) (by simp) (by omega) hgl hr).mono ?_
      rintro e u' ⟨x, hx, rfl, D⟩
      exact ⟨_, rfl, ⟨by omega, z, (S.call D).more (by omega)⟩, E24.of_but D.but (heap_lt S.h3) (by omega), x, hx, rfl⟩
  · refine ⟨fun vs u u' he h => saysSl_keep hb3 he h, fun m vals u hC hb => ?_⟩
    obtain ⟨hm, z, S⟩ := hC
    refine OpOk.runs ⟨u.heap.size, [], (0, 0), []⟩ ⟨u.heap.size + 1, [⟨u.heap.size, 0, intsM ([0, 7000] : List Int), 3, true⟩], (0, 0), []⟩ (.value (.slice (some ⟨u.heap.size, 0, none⟩) 2 2)) (.slice (some ⟨u.heap.size, 0, none⟩) 2 2) (by kernel_rfl) (.inl rfl) (lies_nil u) rfl fun u' hL hK => ?_
    have B : Below u.heap.size u u' := hK.below (Nat.le_refl _) (fun k hk => by cases hk)
    have g := own_good (hL.sat.good _ (List.mem_singleton.2 rfl))
    exact ⟨⟨by omega, z, (S.below B).more (by omega)⟩, E24.of_but (.of_below B) (heap_lt S.h3) (by omega), ⟨_, rfl, heap_lt S.h3, heap_lt g, rangeAt_lit g 0 _ rfl⟩⟩
  · refine ⟨fun _ _ _ _ h => h, fun m vals u hC hb => ?_⟩
    obtain ⟨hm, z, S⟩ := hC
    obtain ⟨_, _, _, _, h1, h2, _⟩ := hb
    obtain ⟨g, hv, hg3, hgl, hr⟩ := h2
    refine OpOk.call (f := 59) [.tmp 20, .tmp 21] (args := [pb b, .slice (some ⟨g, 0, none⟩) 2 2]) (ats := #[45, 44]) (by kernel_rfl) rfl ?_ (run_callable (by kernel_rfl) _ _) ?_
    · rw [show [.tmp 20, .tmp 21].map (evalVE 101 (updL E (envF b k2 k3)) W3 vals) = [vals 8, vals 9] by kernel_rfl, (List.cons.inj h1).1, (List.cons.inj hv).1]
    · refine (dpick_any b ns _ u S.dk.deck (by omega) g 2 ([0, 7000] : List Int) (by simp) (by simp) (by omega) hgl hr).mono ?_
      rintro e u' ⟨x, hx, rfl, D⟩
      exact ⟨_, rfl, ⟨by omega, z, (S.call D).more (by omega)⟩, E24.of_but D.but (heap_lt S.h3) (by omega), x, hx, rfl⟩
  · refine ⟨fun _ _ _ _ h => h, fun m vals u hC hb => ?_⟩
    obtain ⟨hm, z, S⟩ := hC
    obtain ⟨_, _, _, _, _, _, _, h1, _⟩ := hb
    refine OpOk.call (f := 32) [.tmp 23, .const (.int .i64 3)] (args := [pb b, .int .i64 3]) (ats := #[45, 3]) (by kernel_rfl) rfl ?_ (run_callable (by kernel_rfl) _ _) ?_
    · rw [show [.tmp 23, .const (.int .i64 3)].map (evalVE 101 (updL E (envF b k2 k3)) W3 vals) = [vals 11, .int .i64 3] by kernel_rfl, (List.cons.inj h1).1]
    · refine (dnext_any b ns _ 3 u S.dk.deck (by omega) (by omega) (by omega)).mono ?_
      rintro e u' ⟨k, hk, rfl, D⟩
      exact ⟨_, rfl, ⟨by omega, z, (S.call D).more (by omega)⟩, E24.of_but D.but (heap_lt S.h3) (by omega), k, by omega, rfl⟩
  · refine ⟨fun _ u u' he h => he.cells (1, .int .i64 9) (by simp [T3]) h, fun m vals u hC hb => ?_⟩
    obtain ⟨hm, z, S⟩ := hC
    obtain ⟨_, _, _, _, _, _, _, _, _, h13, _⟩ := hb
    have hl := lies_one S.h3
    refine OpOk.knownE [(25, 13, .pointer (some ⟨k3, 1, none⟩))] (by kernel_rfl) ⟨(List.cons.inj h13).1, trivial⟩ (OpOk.runs ⟨u.heap.size, [entF k3 (fc e z d [] 0 0 0 [])], (0, 1), []⟩ ⟨u.heap.size, [entF k3 (fc e 9 d [] 0 0 0 [])], (0, 2), [(k3, k3), (1, 1)]⟩ .skip undef (by kernel_rfl) (.inr ⟨rfl, rfl⟩) ⟨hl.sat, hl.le, hl.own⟩ rfl fun u' hL hK => ?_)
    have S2 : FaS b ns (lim + (15 - (m + 1))) w0 k2 k3 (fc e 9 d [] 0 0 0 []) u' := S.ran1 hL hK
    exact ⟨⟨by omega, _, S2.more (by omega)⟩, ⟨hK.size, fun k hk _ h3 => hK.block k hk (by simpa using h3), fun p hp _ => by rw [List.mem_singleton.1 hp]; exact S2.cell 1⟩, S2.cell 1⟩
theorem region3 {e d : Int} (he : mid e) (hd : mid d) (hlim : lim ≤ 4611686018427380000) (S : FaS b ns lim w0 k2 k3 (fc e 0 d [] 0 0 0 []) w) :
    At Tryz.prog 60 (FactPost b ns (lim + 15) w0) tFq7 (Fr 101 (updL E (envF b k2 k3))) w := by
  have hb3 : b < k3 := by have := S.l2; have := S.l3; have := S.lb; omega
  refine at_draw ops3 (by kernel_rfl) (by kernel_rfl) 23 (by kernel_rfl) ?_
  refine any_partsN (fuel := 8) (L := L3 b k3) (W := W3) (C := C3 b ns lim w0 k2 k3 e d) (Ext := E24 b k3 T3) (ok3 b k3) ⟨Nat.le_refl _, 0, S.below (Below.refl _ _).drew⟩ C3.down (E24.refl b k3 T3) (fun _ _ _ => E24.trans) (parts3 hb3 hlim) rfl ?_
  intro vals u hC _ hall
  obtain ⟨_, z, S0⟩ := hC
  obtain ⟨_, _, _, _, ⟨x4, hx4, e4⟩, _, _, ⟨x7, hx7, e7⟩, _, _, ⟨x10, hx10, e10⟩, _, ⟨x12, hx12, e12⟩, _, h14, _⟩ := hall
  have hz : z = 9 := by
    have h14' : u.cell? ⟨k3, 1, none⟩ = some (.int .i64 9) := h14
    have h15 : u.cell? ⟨k3, 1, none⟩ = some (.int .i64 z) := S0.cell 1
    rw [h15] at h14'
    exact (Value.int.inj (Option.some.inj h14')).2
  subst hz
  have r15 : Region.ready .any ops3 (((L3 b k3).map (·.idx)).foldl (fun b i => b.setIfInBounds i true) (Array.replicate 23 false)) = [15] := by kernel_rfl
  have r16 : Region.ready .any ops3 ((((L3 b k3).map (·.idx)).foldl (fun b i => b.setIfInBounds i true) (Array.replicate 23 false)).setIfInBounds 15 true) = [16] := by kernel_rfl
  have r17 : Region.ready .any ops3 (((((L3 b k3).map (·.idx)).foldl (fun b i => b.setIfInBounds i true) (Array.replicate 23 false)).setIfInBounds 15 true).setIfInBounds 16 true) = [17] := by kernel_rfl
  have r18 : Region.ready .any ops3 ((((((L3 b k3).map (·.idx)).foldl (fun b i => b.setIfInBounds i true) (Array.replicate 23 false)).setIfInBounds 15 true).setIfInBounds 16 true).setIfInBounds 17 true) = [18] := by kernel_rfl
  have r19 : Region.ready .any ops3 (((((((L3 b k3).map (·.idx)).foldl (fun b i => b.setIfInBounds i true) (Array.replicate 23 false)).setIfInBounds 15 true).setIfInBounds 16 true).setIfInBounds 17 true).setIfInBounds 18 true) = [19] := by kernel_rfl
  have r20 : Region.ready .any ops3 ((((((((L3 b k3).map (·.idx)).foldl (fun b i => b.setIfInBounds i true) (Array.replicate 23 false)).setIfInBounds 15 true).setIfInBounds 16 true).setIfInBounds 17 true).setIfInBounds 18 true).setIfInBounds 19 true) = [20] := by kernel_rfl
  have r21 : Region.ready .any ops3 (((((((((L3 b k3).map (·.idx)).foldl (fun b i => b.setIfInBounds i true) (Array.replicate 23 false)).setIfInBounds 15 true).setIfInBounds 16 true).setIfInBounds 17 true).setIfInBounds 18 true).setIfInBounds 19 true).setIfInBounds 20 true) = [21] := by kernel_rfl
  have r22 : Region.ready .any ops3 ((((((((((L3 b k3).map (·.idx)).foldl (fun b i => b.setIfInBounds i true) (Array.replicate 23 false)).setIfInBounds 15 true).setIfInBounds 16 true).setIfInBounds 17 true).setIfInBounds 18 true).setIfInBounds 19 true).setIfInBounds 20 true).setIfInBounds 21 true) = [22] := by kernel_rfl
  have r23 : Region.ready .any ops3 (((((((((((L3 b k3).map (·.idx)).foldl (fun b i => b.setIfInBounds i true) (Array.replicate 23 false)).setIfInBounds 15 true).setIfInBounds 16 true).setIfInBounds 17 true).setIfInBounds 18 true).setIfInBounds 19 true).setIfInBounds 20 true).setIfInBounds 21 true).setIfInBounds 22 true) = [] := by kernel_rfl
  have qs : ((16, vals 4) :: (19, vals 7) :: (22, vals 10) :: (24, vals 12) :: envF b k2 k3).map (fun p => finE ops3 vals ((L3 b k3).map (·.idx)) (updL E (envF b k2 k3)) p.1) = ((16, vals 4) :: (19, vals 7) :: (22, vals 10) :: (24, vals 12) :: envF b k2 k3).map (·.2) := by kernel_rfl
  generalize ((L3 b k3).map (·.idx)).foldl (fun b i => b.setIfInBounds i true) (Array.replicate 23 false) = lst at *
  generalize finE ops3 vals ((L3 b k3).map (·.idx)) (updL E (envF b k2 k3)) = E8 at *
  rw [← updL_same qs, show vals 4 = .string ⟨⟨x4⟩⟩ from (List.cons.inj e4).1, show vals 7 = .int .i64 x7 from (List.cons.inj e7).1, show vals 10 = .int .i64 x10 from (List.cons.inj e10).1, show vals 12 = .int .i64 x12 from (List.cons.inj e12).1]
  have l15 := lies_one S0.h3
  refine any_run (fuel := 7) (ops3.getD 15 default) ⟨u.heap.size, [entF k3 (fc e 9 d [] 0 0 0 [])], (0, 0), []⟩ ⟨u.heap.size, [entF k3 (fc e 9 d [] 0 0 0 [])], (0, 0), []⟩ (.value (.pointer (some ⟨k3, 3, none⟩))) (.pointer (some ⟨k3, 3, none⟩)) r15 (by kernel_rfl) (by kernel_rfl) (by kernel_rfl) (.inl rfl) l15 rfl fun u15 hL15 hK15 => ?_
  have S15 := S0.ran1 hL15 hK15
  have l16 := lies_one S15.h3
  refine any_run (fuel := 6) (ops3.getD 16 default) ⟨u15.heap.size, [entF k3 (fc e 9 d [] 0 0 0 [])], (0, 3), []⟩ ⟨u15.heap.size, [entF k3 (fc e 9 d x4 0 0 0 [])], (0, 4), [(k3, k3), (3, 3)]⟩ .skip undef r16 (by kernel_rfl) (by kernel_rfl) (by kernel_rfl) (.inr ⟨rfl, rfl⟩) ⟨l16.sat, l16.le, l16.own⟩ rfl fun u16 hL16 hK16 => ?_
  have S16 : FaS b ns (lim + (15 - 0)) w0 k2 k3 (fc e 9 d x4 0 0 0 []) u16 := S15.ran1 hL16 hK16
  have l17 := lies_one S16.h3
  refine any_run (fuel := 5) (ops3.getD 17 default) ⟨u16.heap.size, [entF k3 (fc e 9 d x4 0 0 0 [])], (0, 0), []⟩ ⟨u16.heap.size, [entF k3 (fc e 9 d x4 0 0 0 [])], (0, 0), []⟩ (.value (.pointer (some ⟨k3, 4, none⟩))) (.pointer (some ⟨k3, 4, none⟩)) r17 (by kernel_rfl) (by kernel_rfl) (by kernel_rfl) (.inl rfl) l17 rfl fun u17 hL17 hK17 => ?_
  have S17 := S16.ran1 hL17 hK17
  have l18 := lies_one S17.h3
  refine any_run (fuel := 4) (ops3.getD 18 default) ⟨u17.heap.size, [entF k3 (fc e 9 d x4 0 0 0 [])], (0, 4), []⟩ ⟨u17.heap.size, [entF k3 (fc e 9 d x4 x7 0 0 [])], (0, 5), [(k3, k3), (4, 4)]⟩ .skip undef r18 (by kernel_rfl) (by kernel_rfl) (by kernel_rfl) (.inr ⟨rfl, rfl⟩) ⟨l18.sat, l18.le, l18.own⟩ rfl fun u18 hL18 hK18 => ?_
  have S18 : FaS b ns (lim + (15 - 0)) w0 k2 k3 (fc e 9 d x4 x7 0 0 []) u18 := S17.ran1 hL18 hK18
  have l19 := lies_one S18.h3
  refine any_run (fuel := 3) (ops3.getD 19 default) ⟨u18.heap.size, [entF k3 (fc e 9 d x4 x7 0 0 [])], (0, 0), []⟩ ⟨u18.heap.size, [entF k3 (fc e 9 d x4 x7 0 0 [])], (0, 0), []⟩ (.value (.pointer (some ⟨k3, 5, none⟩))) (.pointer (some ⟨k3, 5, none⟩)) r19 (by kernel_rfl) (by kernel_rfl) (by kernel_rfl) (.inl rfl) l19 rfl fun u19 hL19 hK19 => ?_
  have S19 := S18.ran1 hL19 hK19
  have l20 := lies_one S19.h3
  refine any_run (fuel := 2) (ops3.getD 20 default) ⟨u19.heap.size, [entF k3 (fc e 9 d x4 x7 0 0 [])], (0, 5), []⟩ ⟨u19.heap.size, [entF k3 (fc e 9 d x4 x7 x10 0 [])], (0, 6), [(k3, k3), (5, 5)]⟩ .skip undef r20 (by kernel_rfl) (by kernel_rfl) (by kernel_rfl) (.inr ⟨rfl, rfl⟩) ⟨l20.sat, l20.le, l20.own⟩ rfl fun u20 hL20 hK20 => ?_
  have S20 : FaS b ns (lim + (15 - 0)) w0 k2 k3 (fc e 9 d x4 x7 x10 0 []) u20 := S19.ran1 hL20 hK20
  have l21 := lies_one S20.h3
  refine any_run (fuel := 1) (ops3.getD 21 default) ⟨u20.heap.size, [entF k3 (fc e 9 d x4 x7 x10 0 [])], (0, 0), []⟩ ⟨u20.heap.size, [entF k3 (fc e 9 d x4 x7 x10 0 [])], (0, 0), []⟩ (.value (.pointer (some ⟨k3, 6, none⟩))) (.pointer (some ⟨k3, 6, none⟩)) r21 (by kernel_rfl) (by kernel_rfl) (by kernel_rfl) (.inl rfl) l21 rfl fun u21 hL21 hK21 => ?_
  have S21 := S20.ran1 hL21 hK21
  have l22 := lies_one S21.h3
  refine any_run (fuel := 0) (ops3.getD 22 default) ⟨u21.heap.size, [entF k3 (fc e 9 d x4 x7 x10 0 [])], (0, 6), []⟩ ⟨u21.heap.size, [entF k3 (fc e 9 d x4 x7 x10 x12 [])], (0, 7), [(k3, k3), (6, 6)]⟩ .skip undef r22 (by kernel_rfl) (by kernel_rfl) (by kernel_rfl) (.inr ⟨rfl, rfl⟩) ⟨l22.sat, l22.le, l22.own⟩ rfl fun u22 hL22 hK22 => ?_
  have S22 : FaS b ns (lim + (15 - 0)) w0 k2 k3 (fc e 9 d x4 x7 x10 x12 []) u22 := S21.ran1 hL22 hK22
  refine any_end r23 ⟨rfl, At.mid ?_⟩
  refine at_known (envF b k2 k3) (by kernel_rfl) fun E9 => ?_
  refine at_runC 300 [(2, 1)] (tailT tFq7) u22.heap.size [entF k3 (fc e 9 d x4 x7 x10 x12 []), entZ k2] tFz [(2, pb k2)] u22.heap.size [entF k3 (fc e 9 d x4 x7 x10 x12 []), ⟨k2, 0, (fc e 9 d x4 x7 x10 x12 []).fact, 61, true⟩] (lies_two S22.h3 S22.h2 S22.ne) (by kernel_rfl) fun w9 E9 hL9 hK9 => ?_
  have hv7 : mid x7 := by
    simp only [List.mem_cons, List.not_mem_nil, or_false] at hx7
    rcases hx7 with rfl | rfl | rfl <;> exact ⟨by decide, by decide⟩
  have hv10 : mid x10 := by
    simp only [List.mem_cons, List.not_mem_nil, or_false] at hx10
    rcases hx10 with rfl | rfl <;> exact ⟨by decide, by decide⟩
  have hv12 : mid (x12 : Int) := ⟨by omega, by omega⟩
  have hG : GenF (fc e 9 d x4 x7 x10 x12 []) := by
    simp only [nm3, List.mem_cons, List.not_mem_nil, or_false] at hx4
    rcases hx4 with rfl | rfl
    · exact gen9club e d x7 x10 x12 he hd hv7 hv10 hv12
    · exact gen9loan e d x7 x10 x12 he hd hv7 hv10 hv12
  exact fact_ret hG S22 hL9 hK9
end Go.Proofs.YtdcbnkimjhefkaaGreatDoor

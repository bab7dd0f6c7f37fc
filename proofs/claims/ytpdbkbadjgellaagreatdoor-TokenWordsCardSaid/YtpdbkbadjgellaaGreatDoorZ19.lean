/-
  payrollgen's Expr: the region of the rounding.
  payrollgen's Expr: what its walk needs.
-/
import Derived.Test.YtpdbkbadjgellaaGreatDoorZ13
import Derived.Test.YtpdbkbadjgellaaGreatDoorZ08
namespace Go.Proofs.YtpdbkbadjgellaaGreatDoor
open Go.RowKit

def rat (a b : Int) : Value := .agg #[.int .i64 a, .int .i64 b]
def ptr (b o : Nat) : Value := .pointer (some ⟨b, o, none⟩)
def ints (l : List Int) : List Value := l.map (Value.int .i64)
noncomputable def ops26 : Array Oper := regOf Tryz.f65 26
def W26 : Wr := [(157, 0), (158, 1), (159, 2), (160, 3), (161, 4), (162, 5), (163, 6), (164, 7), (165, 8), (166, 9), (167, 10), (168, 11), (169, 12), (170, 13), (171, 14), (172, 15), (173, 16), (174, 17), (175, 18)]
/-- A block that later worlds keep. -/
theorem blk_keep {b B : Nat} {w w' : World} {o : Obj} (h : w.heap[B]? = some o) (hb : B ≠ b) (he : But b w w') : w'.heap[B]? = some o := (he.block _ (heap_lt h) hb).trans h
def steps3 : List (Int × Int) := [(1, 1), (1, 100), (1, 4)]
def saysSlice (b : Nat) (C : List Value) (T : TypeId) (n : Nat) (v : Value) (w : World) : Prop := ∃ B, v = .slice (some ⟨B, 0, none⟩) n n ∧ w.heap[B]? = some (.cells C.toArray T (0, 0)) ∧ B ≠ b
def saysBelow (n : Nat) (v : Value) : Prop := ∃ k : Nat, k < n ∧ v = .int .i64 k
def saysEx (m lo : Nat) (v : Value) (w : World) : Prop := ∃ x cs, GenEx m x ∧ exAt lo w x cs ∧ v = .agg cs.toArray
def saysKid (m lo : Nat) (v : Value) (w : World) : Prop := ∃ x cs B, GenEx m x ∧ exAt lo w x cs ∧ lo ≤ B ∧ v = .slice (some ⟨B, 0, none⟩) 1 1 ∧ w.heap[B]? = some (.cells cs.toArray 91 (0, 0))
def saysPtr3 (b : Nat) (v : Value) (w : World) : Prop := ∃ B k : Nat, k < 3 ∧ v = ptr B (k * 2) ∧ w.heap[B]? = some (.cells (ints [1, 1, 1, 100, 1, 4]).toArray 33 (0, 0)) ∧ B ≠ b
def saysStep (v : Value) : Prop := ∃ x, x ∈ steps3 ∧ v = rat x.1 x.2
def L26 (b m lo tyB : Nat) (tm th td : Int) (a0 : Act) : List Loc :=
  [pureL 0 [] (rat 1 1), pureL 1 [] (rat 1 100), pureL 2 [] (rat 1 4),
   ⟨3, [0, 1, 2], [3], fun vs w => saysSlice b (ints [1, 1, 1, 100, 1, 4]) 33 3 (vs.getD 0 undef) w⟩,
   pureL 4 [] (a0.eval (.tmp 0)),
   ⟨5, [4], [5], fun vs _ => saysBelow 3 (vs.getD 0 undef)⟩,
   ⟨6, [0, 1, 2, 3, 4, 5], [6], fun vs w => saysPtr3 b (vs.getD 0 undef) w⟩,
   ⟨7, [0, 1, 2, 3, 4, 5, 6], [7], fun vs _ => saysStep (vs.getD 0 undef)⟩,
   pureL 8 [] (ptr tyB 1),
   pureL 9 [8] (.agg #[.int .i64 tm, .int .i64 th, .int .i64 td]),
   pureL 10 [] (a0.eval (.tmp 0)),
   ⟨11, [4, 5, 10], [11], fun vs _ => saysBelow 7 (vs.getD 0 undef)⟩,
   pureL 12 [] (a0.eval (.tmp 0)),
   pureL 13 [] (.agg #[.bool false, .int .i64 tm, .int .i64 th, .int .i64 td]),
   pureL 14 [] (a0.eval (.tmp 9)), pureL 15 [] (a0.eval (.tmp 3)),
   ⟨16, [4, 5, 10, 11, 12, 13, 14, 15], [16], fun vs w => saysEx m lo (vs.getD 0 undef) w⟩,
   ⟨17, [4, 5, 10, 11, 12, 13, 14, 15, 16], [17], fun vs w => saysKid m lo (vs.getD 0 undef) w⟩,
   ⟨18, [0, 1, 2, 3, 4, 5, 6, 7, 8, 9, 10, 11, 12, 13, 14, 15, 16, 17], [18], fun vs w => ∃ num den mode K, saysKid m lo K w ∧ (num, den) ∈ steps3 ∧ 0 ≤ mode ∧ mode ≤ 6 ∧ vs = [.agg #[.int .i64 19, .int .i64 num, .int .i64 den, .int .i64 tm, .int .i64 th, .int .i64 td, .string ⟨#[]⟩, .int .i64 0, .int .i64 mode, K]]⟩]


theorem ok26 (b m lo tyB : Nat) (tm th td : Int) (a0 : Act) (hs : a0.tmps.size = 275) : (locOk .any ops26 W26 (Array.replicate 20 false) a0.tmps.size (L26 b m lo tyB tm th td a0) && bare ops26 (L26 b m lo tyB tm th td a0)) = true := by rw [hs]; kernel_rfl
theorem enter6 (args : List Value) (w : World) : (callFunc 6 args.toArray).run Tryz.prog w = .ok (.enter 6 args.toArray) w := by kernel_rfl
theorem enterE (args : List Value) (w : World) : (callFunc 65 args.toArray).run Tryz.prog w = .ok (.enter 65 args.toArray) w := by kernel_rfl

theorem exAt.cells' {lo : Nat} {w : World} {x : Ex} {cs : List Value} (h : exAt lo w x cs) : ∃ (a0 a1 a2 a3 a4 a5 : Int) (a6 : List UInt8) (a7 a8 : Int) (A : Option Addr) (n c : Nat), cs = [.int .i64 a0, .int .i64 a1, .int .i64 a2, .int .i64 a3, .int .i64 a4, .int .i64 a5, .string ⟨a6.toArray⟩, .int .i64 a7, .int .i64 a8, .slice A n c] := by
  obtain ⟨op, num, den, mu, hu, du, name, count, mode, kids⟩ := x
  unfold exAt at h
  obtain ⟨A, c, ks, rfl, _⟩ := h
  exact ⟨_, _, _, _, _, _, _, _, _, _, _, _, rfl⟩
section
variable {b n lo g : Nat} {ns : List Int} {s : Bool × Int × Int × Int} {tm th td : Int} {w : World} {a0 : Act} {rules h : Int}
abbrev C26 (b : Nat) (ns : List Int) (tm th td : Int) (s : Bool × Int × Int × Int) (g m lo : Nat) (w : World) : World → Prop := fun wx => Acc b ns (false, tm, th, td) s g m lo w [] [] wx

set_option maxRecDepth 100000 in
theorem part26_3 (hlt : b < w.heap.size) : Part Tryz.prog ops26 a0 W26 (C26 b ns tm th td s g (max 1 n) lo w) (But b) (L26 b (max 1 n) lo w.heap.size tm th td a0) ⟨3, [0, 1, 2], [3], fun vs w => saysSlice b (ints [1, 1, 1, 100, 1, 4]) 33 3 (vs.getD 0 undef) w⟩ := by
  refine ⟨fun vs u u' hC he ⟨B, h1, h2, h3⟩ => ⟨B, h1, blk_keep h2 h3 he, h3⟩, fun vals u hC hb => ?_⟩
  obtain ⟨h0, h1, h2, _⟩ := hb
  refine OpOk.known [(157, 0, rat 1 1), (158, 1, rat 1 100), (159, 2, rat 1 4)] [] (by kernel_rfl) ⟨(List.cons.inj h0).1, (List.cons.inj h1).1, (List.cons.inj h2).1, trivial⟩ trivial (OpOk.value (v := .slice (some ⟨u.heap.size, 0, none⟩) 3 3) (w' := u.alloc (.cells (ints [1, 1, 1, 100, 1, 4]).toArray 33)) (by kernel_rfl) ⟨?_, ?_, ?_⟩)
  · exact hC.below hlt ((Below.refl _ _).alloc (Nat.le_refl _) _)
  · exact .of_below ((Below.refl _ _).alloc (Nat.le_refl _) _)
  · exact ⟨u.heap.size, rfl, heap_alloc_new _ _, by have := hC.st.tape.lt; omega⟩
set_option maxRecDepth 100000 in
theorem part26_5 (hlt : b < w.heap.size) (h0 : a0.eval (.tmp 0) = ptr b 0) : Part Tryz.prog ops26 a0 W26 (C26 b ns tm th td s g (max 1 n) lo w) (But b) (L26 b (max 1 n) lo w.heap.size tm th td a0) ⟨5, [4], [5], fun vs _ => saysBelow 3 (vs.getD 0 undef)⟩ := by
  refine ⟨fun vs u u' hC he h => h, fun vals u hC hb => ?_⟩
  obtain ⟨h4, _⟩ := hb
  refine OpOk.call (f := 6) [.tmp 161, .const (.int .i64 3)] (args := [ptr b 0, .int .i64 3]) (ats := #[23, 3]) (by kernel_rfl) rfl ?_ (enter6 _ _) ?_
  · rw [show [.tmp 161, .const (.int .i64 3)].map (evalV a0 W26 vals) = [vals 4, .int .i64 3] by kernel_rfl]
    rw [(List.cons.inj h4).1, h0]
  · refine (next_any b ns 3 u hC.st.tape (by omega) (by omega)).mono ?_
    rintro e u' ⟨k, hk, rfl, hT, hB⟩
    exact ⟨_, rfl, hC.step hlt hT hB, hB, k, by omega, rfl⟩
set_option maxRecDepth 100000 in
theorem part26_11 (hlt : b < w.heap.size) (h0 : a0.eval (.tmp 0) = ptr b 0) : Part Tryz.prog ops26 a0 W26 (C26 b ns tm th td s g (max 1 n) lo w) (But b) (L26 b (max 1 n) lo w.heap.size tm th td a0) ⟨11, [4, 5, 10], [11], fun vs _ => saysBelow 7 (vs.getD 0 undef)⟩ := by
  refine ⟨fun vs u u' hC he h => h, fun vals u hC hb => ?_⟩
  obtain ⟨_, _, h10, _⟩ := hb
  refine OpOk.call (f := 6) [.tmp 167, .const (.int .i64 7)] (args := [ptr b 0, .int .i64 7]) (ats := #[23, 3]) (by kernel_rfl) rfl ?_ (enter6 _ _) ?_
  · rw [show [.tmp 167, .const (.int .i64 7)].map (evalV a0 W26 vals) = [vals 10, .int .i64 7] by kernel_rfl]
    rw [(List.cons.inj h10).1, h0]
  · refine (next_any b ns 7 u hC.st.tape (by omega) (by omega)).mono ?_
    rintro e u' ⟨k, hk, rfl, hT, hB⟩
    exact ⟨_, rfl, hC.step hlt hT hB, hB, k, by omega, rfl⟩
set_option maxRecDepth 100000 in
theorem part26_6 : Part Tryz.prog ops26 a0 W26 (C26 b ns tm th td s g (max 1 n) lo w) (But b) (L26 b (max 1 n) lo w.heap.size tm th td a0) ⟨6, [0, 1, 2, 3, 4, 5], [6], fun vs w => saysPtr3 b (vs.getD 0 undef) w⟩ := by
  refine ⟨fun vs u u' hC he ⟨B, k, h1, h2, h3, h4⟩ => ⟨B, k, h1, h2, blk_keep h3 h4 he, h4⟩, fun vals u hC hb => ?_⟩
  obtain ⟨_, _, _, ⟨B, e3, hB, hne⟩, _, ⟨k, hk, e5⟩, _⟩ := hb
  have hk3 : k = 0 ∨ k = 1 ∨ k = 2 := by omega
  rcases hk3 with rfl | rfl | rfl
  · exact OpOk.known [(160, 3, .slice (some ⟨B, 0, none⟩) 3 3), (162, 5, .int .i64 0)] [] (by kernel_rfl) ⟨e3, e5, trivial⟩ trivial (OpOk.value (v := ptr B 0) (w' := u) (by kernel_rfl) ⟨hC, .refl _ _, B, 0, hk, rfl, hB, hne⟩)
  · exact OpOk.known [(160, 3, .slice (some ⟨B, 0, none⟩) 3 3), (162, 5, .int .i64 1)] [] (by kernel_rfl) ⟨e3, e5, trivial⟩ trivial (OpOk.value (v := ptr B 2) (w' := u) (by kernel_rfl) ⟨hC, .refl _ _, B, 1, hk, rfl, hB, hne⟩)
  · exact OpOk.known [(160, 3, .slice (some ⟨B, 0, none⟩) 3 3), (162, 5, .int .i64 2)] [] (by kernel_rfl) ⟨e3, e5, trivial⟩ trivial (OpOk.value (v := ptr B 4) (w' := u) (by kernel_rfl) ⟨hC, .refl _ _, B, 2, hk, rfl, hB, hne⟩)
set_option maxRecDepth 100000 in
theorem part26_7 : Part Tryz.prog ops26 a0 W26 (C26 b ns tm th td s g (max 1 n) lo w) (But b) (L26 b (max 1 n) lo w.heap.size tm th td a0) ⟨7, [0, 1, 2, 3, 4, 5, 6], [7], fun vs _ => saysStep (vs.getD 0 undef)⟩ := by
  refine ⟨fun vs u u' hC he h => h, fun vals u hC hb => ?_⟩
  obtain ⟨_, _, _, _, _, _, ⟨B, k, hk, e6, hB, _⟩, _⟩ := hb
  have hk3 : k = 0 ∨ k = 1 ∨ k = 2 := by omega
  rcases hk3 with rfl | rfl | rfl
  · exact OpOk.loadMid 33 (.tmp 163) (by kernel_rfl) ((by kernel_rfl : evalV a0 W26 vals (.tmp 163) = vals 6).trans e6) (ints [1, 1]) (rangeAt_lit hB 0 _ rfl) (by kernel_rfl) (by kernel_rfl) ⟨hC, .refl _ _, (1, 1), by simp [steps3], rfl⟩
  · exact OpOk.loadMid 33 (.tmp 163) (by kernel_rfl) ((by kernel_rfl : evalV a0 W26 vals (.tmp 163) = vals 6).trans e6) (ints [1, 100]) (rangeAt_lit hB 2 _ rfl) (by kernel_rfl) (by kernel_rfl) ⟨hC, .refl _ _, (1, 100), by simp [steps3], rfl⟩
  · exact OpOk.loadMid 33 (.tmp 163) (by kernel_rfl) ((by kernel_rfl : evalV a0 W26 vals (.tmp 163) = vals 6).trans e6) (ints [1, 4]) (rangeAt_lit hB 4 _ rfl) (by kernel_rfl) (by kernel_rfl) ⟨hC, .refl _ _, (1, 4), by simp [steps3], rfl⟩
set_option maxRecDepth 100000 in
theorem part26_8 (h5 : a0.eval (.tmp 5) = ptr w.heap.size 0) : Part Tryz.prog ops26 a0 W26 (C26 b ns tm th td s g (max 1 n) lo w) (But b) (L26 b (max 1 n) lo w.heap.size tm th td a0) (pureL 8 [] (ptr w.heap.size 1)) :=
  ⟨fun vs u u' hC he h => h, fun vals u hC hb => OpOk.known [] [(5, ptr w.heap.size 0)] (by kernel_rfl) trivial ⟨h5, trivial⟩ (OpOk.value (v := ptr w.heap.size 1) (w' := u) (by kernel_rfl) ⟨hC, .refl _ _, rfl⟩)⟩
set_option maxRecDepth 100000 in
theorem part26_9 : Part Tryz.prog ops26 a0 W26 (C26 b ns tm th td s g (max 1 n) lo w) (But b) (L26 b (max 1 n) lo w.heap.size tm th td a0) (pureL 9 [8] (.agg #[.int .i64 tm, .int .i64 th, .int .i64 td])) := by
  refine ⟨fun vs u u' hC he h => h, fun vals u hC hb => ?_⟩
  obtain ⟨h8, _⟩ := hb
  exact OpOk.loadMid 85 (.tmp 165) (by kernel_rfl) ((by kernel_rfl : evalV a0 W26 vals (.tmp 165) = vals 8).trans (List.cons.inj h8).1) (ints [tm, th, td]) (rangeAt_lit (l := [.bool false, .int .i64 tm, .int .i64 th, .int .i64 td]) hC.st.ty 1 _ rfl) (by kernel_rfl) (by kernel_rfl) ⟨hC, .refl _ _, rfl⟩
set_option maxRecDepth 100000 in
theorem part26_13 (h5 : a0.eval (.tmp 5) = ptr w.heap.size 0) : Part Tryz.prog ops26 a0 W26 (C26 b ns tm th td s g (max 1 n) lo w) (But b) (L26 b (max 1 n) lo w.heap.size tm th td a0) (pureL 13 [] (.agg #[.bool false, .int .i64 tm, .int .i64 th, .int .i64 td])) := by
  refine ⟨fun vs u u' hC he h => h, fun vals u hC hb => ?_⟩
  exact OpOk.loadMid 87 (.tmp 5) (by kernel_rfl) ((by kernel_rfl : evalV a0 W26 vals (.tmp 5) = a0.eval (.tmp 5)).trans h5) [.bool false, .int .i64 tm, .int .i64 th, .int .i64 td] (rangeAt_lit (l := [.bool false, .int .i64 tm, .int .i64 th, .int .i64 td]) hC.st.ty 0 _ rfl) (by kernel_rfl) (by kernel_rfl) ⟨hC, .refl _ _, rfl⟩
set_option maxRecDepth 100000 in
theorem part26_16 (hlt : b < w.heap.size) (IH : ExprSaid b ns n) (hty : (false, tm, th, td) ∈ fiveTypes) (hn : h ≤ n) (hh : h ≤ 100) (hl : -100 ≤ h) (hr0 : 0 ≤ rules) (hr1 : rules ≤ 10)
    (h0 : a0.eval (.tmp 0) = ptr b 0) (h9 : a0.eval (.tmp 9) = .int .i64 h) (h3 : a0.eval (.tmp 3) = .int .i64 rules) : Part Tryz.prog ops26 a0 W26 (C26 b ns tm th td s g (max 1 n) lo w) (But b) (L26 b (max 1 n) lo w.heap.size tm th td a0) ⟨16, [4, 5, 10, 11, 12, 13, 14, 15], [16], fun vs w => saysEx (max 1 n) lo (vs.getD 0 undef) w⟩ := by
  refine ⟨fun vs u u' hC he ⟨x, cs, k1, k2, k3⟩ => ⟨x, cs, k1, exAt.keep (.of_but he (by have := hC.lo_b; omega)) _ _ k2, k3⟩, fun vals u hC hb => ?_⟩
  obtain ⟨_, _, _, _, k12, k13, k14, k15, _⟩ := hb
  refine OpOk.call (f := 65) [.tmp 169, .tmp 170, .tmp 171, .tmp 172] (args := [ptr b 0, .agg #[.bool false, .int .i64 tm, .int .i64 th, .int .i64 td], .int .i64 h, .int .i64 rules]) (ats := #[23, 87, 3, 3]) (by kernel_rfl) rfl ?_ (enterE _ _) ?_
  · rw [show [.tmp 169, .tmp 170, .tmp 171, .tmp 172].map (evalV a0 W26 vals) = [vals 12, vals 13, vals 14, vals 15] by kernel_rfl]
    rw [(List.cons.inj k12).1, (List.cons.inj k13).1, (List.cons.inj k14).1, (List.cons.inj k15).1, h0, h9, h3]
  · refine (IH false tm th td h rules u hC.st.tape hty hn hh hl hr0 hr1).mono ?_
    rintro e u' ⟨x, cs, hx, hex, rfl, hT, hB⟩
    exact ⟨_, rfl, hC.step hlt hT hB, hB, x, cs, hx, exAt.mono hC.lo_le _ _ hex, rfl⟩
set_option maxRecDepth 100000 in
theorem part26_17 (hlt : b < w.heap.size) : Part Tryz.prog ops26 a0 W26 (C26 b ns tm th td s g (max 1 n) lo w) (But b) (L26 b (max 1 n) lo w.heap.size tm th td a0) ⟨17, [4, 5, 10, 11, 12, 13, 14, 15, 16], [17], fun vs w => saysKid (max 1 n) lo (vs.getD 0 undef) w⟩ := by
  refine ⟨fun vs u u' hC he ⟨x, cs, B, k1, k2, k3, k4, k5⟩ => ⟨x, cs, B, k1, exAt.keep (.of_but he (by have := hC.lo_b; omega)) _ _ k2, k3, k4, blk_keep k5 (by have := hC.lo_b; omega) he⟩, fun vals u hC hb => ?_⟩
  obtain ⟨_, _, _, _, _, _, _, _, ⟨x, cs, hx, hex, e16⟩, _⟩ := hb
  have hex2 := hex
  have hal : Below u.heap.size u (u.alloc (.cells cs.toArray 91)) := (Below.refl _ _).alloc (Nat.le_refl _) _
  obtain ⟨x0, x1, x2, x3, x4, x5, x6, x7, x8, A, kn, kc, rfl⟩ := hex2.cells'
  refine OpOk.known [(173, 16, .agg #[.int .i64 x0, .int .i64 x1, .int .i64 x2, .int .i64 x3, .int .i64 x4, .int .i64 x5, .string ⟨x6.toArray⟩, .int .i64 x7, .int .i64 x8, .slice A kn kc])] [] (by kernel_rfl) ⟨e16, trivial⟩ trivial (OpOk.value (v := .slice (some ⟨u.heap.size, 0, none⟩) 1 1) (w' := u.alloc (.cells [.int .i64 x0, .int .i64 x1, .int .i64 x2, .int .i64 x3, .int .i64 x4, .int .i64 x5, .string ⟨x6.toArray⟩, .int .i64 x7, .int .i64 x8, .slice A kn kc].toArray 91)) (by kernel_rfl) ⟨?_, ?_, ?_⟩)
  · exact hC.below hlt hal
  · exact .of_below hal
  · exact ⟨x, _, u.heap.size, hx, exAt.keep (.of_below hal) _ _ hex, hC.lo_le, rfl, heap_alloc_new _ _⟩
set_option maxRecDepth 100000 in
theorem part26_18 (hlt : b < w.heap.size) : Part Tryz.prog ops26 a0 W26 (C26 b ns tm th td s g (max 1 n) lo w) (But b) (L26 b (max 1 n) lo w.heap.size tm th td a0) ⟨18, [0, 1, 2, 3, 4, 5, 6, 7, 8, 9, 10, 11, 12, 13, 14, 15, 16, 17], [18], fun vs w => ∃ num den mode K, saysKid (max 1 n) lo K w ∧ (num, den) ∈ steps3 ∧ 0 ≤ mode ∧ mode ≤ 6 ∧ vs = [.agg #[.int .i64 19, .int .i64 num, .int .i64 den, .int .i64 tm, .int .i64 th, .int .i64 td, .string ⟨#[]⟩, .int .i64 0, .int .i64 mode, K]]⟩ := by
  refine ⟨fun vs u u' hC he ⟨p, q, m, K, ⟨x, cs, B, k1, k2, k3, k4, k5⟩, k6⟩ => ⟨p, q, m, K, ⟨x, cs, B, k1, exAt.keep (.of_but he (by have := hC.lo_b; omega)) _ _ k2, k3, k4, blk_keep k5 (by have := hC.lo_b; omega) he⟩, k6⟩, fun vals u hC hb => ?_⟩
  obtain ⟨_, _, _, _, _, _, _, ⟨⟨p, q⟩, hpq, e7⟩, _, h9, _, ⟨k, hk, e11⟩, _, _, _, _, _, ⟨x, cs, B, hx, hex, hlo, e17, hB⟩, _⟩ := hb
  refine OpOk.known [(164, 7, rat p q), (166, 9, .agg #[.int .i64 tm, .int .i64 th, .int .i64 td]), (168, 11, .int .i64 k), (174, 17, .slice (some ⟨B, 0, none⟩) 1 1)] [] (by kernel_rfl) ⟨e7, (List.cons.inj h9).1, e11, e17, trivial⟩ trivial
    (OpOk.value (v := .agg #[.int .i64 19, .int .i64 p, .int .i64 q, .int .i64 tm, .int .i64 th, .int .i64 td, .string ⟨#[]⟩, .int .i64 0, .int .i64 k, .slice (some ⟨B, 0, none⟩) 1 1]) (w' := u) (by kernel_rfl) ⟨hC, .refl _ _, p, q, k, _, ⟨x, cs, B, hx, hex, hlo, rfl, hB⟩, hpq, by omega, by omega, rfl⟩)
theorem setCells_put10 (w : World) (g : Nat) (a0 a1 a2 a3 a4 a5 a6 a7 a8 a9 : Value) : w.setCells g 0 [a0, a1, a2, a3, a4, a5, a6, a7, a8, a9] = put10 w g a0 a1 a2 a3 a4 a5 a6 a7 a8 a9 := rfl
set_option maxRecDepth 100000 in
theorem parts26 (hlt : b < w.heap.size) (IH : ExprSaid b ns n) (hty : (false, tm, th, td) ∈ fiveTypes) (hn : h ≤ n) (hh : h ≤ 100) (hl : -100 ≤ h) (hr0 : 0 ≤ rules) (hr1 : rules ≤ 10)
    (h0 : a0.eval (.tmp 0) = ptr b 0) (h9 : a0.eval (.tmp 9) = .int .i64 h) (h3 : a0.eval (.tmp 3) = .int .i64 rules) (h5 : a0.eval (.tmp 5) = ptr w.heap.size 0) :
    Parts Tryz.prog ops26 a0 W26 (C26 b ns tm th td s g (max 1 n) lo w) (But b) (L26 b (max 1 n) lo w.heap.size tm th td a0) (L26 b (max 1 n) lo w.heap.size tm th td a0) :=
    ⟨part_pure (But.refl b) (fun _ _ _ _ => by kernel_rfl), part_pure (But.refl b) (fun _ _ _ _ => by kernel_rfl), part_pure (But.refl b) (fun _ _ _ _ => by kernel_rfl), part26_3 hlt, part_pure (But.refl b) (fun _ _ _ _ => by kernel_rfl), part26_5 hlt h0, part26_6, part26_7, part26_8 h5, part26_9,
      part_pure (But.refl b) (fun _ _ _ _ => by kernel_rfl), part26_11 hlt h0, part_pure (But.refl b) (fun _ _ _ _ => by kernel_rfl), part26_13 h5, part_pure (But.refl b) (fun _ _ _ _ => by kernel_rfl), part_pure (But.refl b) (fun _ _ _ _ => by kernel_rfl),
      part26_16 hlt IH hty hn hh hl hr0 hr1 h0 h9 h3, part26_17 hlt, part26_18 hlt, trivial⟩
set_option maxHeartbeats 400000 in
set_option maxRecDepth 100000 in
/-- The region of the rounding, whatever its order. -/
theorem region26 (hlt : b < w.heap.size) (IH : ExprSaid b ns n) (hty : (false, tm, th, td) ∈ fiveTypes) (hn : h ≤ n) (hh : h ≤ 100) (hl : -100 ≤ h) (hr0 : 0 ≤ rules) (hr1 : rules ≤ 10) (hs : a0.tmps.size = 275)
    (h0 : a0.eval (.tmp 0) = ptr b 0) (h9 : a0.eval (.tmp 9) = .int .i64 h) (h3 : a0.eval (.tmp 3) = .int .i64 rules) (h5 : a0.eval (.tmp 5) = ptr w.heap.size 0) (h8 : a0.eval (.tmp 8) = ptr (w.heap.size + 1) 0)
    {wk : World} (hA : C26 b ns tm th td s g (max 1 n) lo w wk) {Q : Exit → Act → World → Prop}
    (hQ : ∀ a' u p q m K, a'.eval (.tmp 8) = ptr (w.heap.size + 1) 0 → a'.defers = a0.defers → C26 b ns tm th td s g (max 1 n) lo w u → saysKid (max 1 n) lo K u → (p, q) ∈ steps3 → 0 ≤ m → m ≤ 6 →
      Q .normal a' (put10 u (w.heap.size + 1) (.int .i64 19) (.int .i64 p) (.int .i64 q) (.int .i64 tm) (.int .i64 th) (.int .i64 td) (.string ⟨#[]⟩) (.int .i64 0) (.int .i64 m) K)) :
    (Code.region 26 ops26 true).wp Tryz.prog Q a0 wk := by
  refine wp_region_any (by kernel_rfl) ?_
  have hsz : ops26.size = 20 := by kernel_rfl
  rw [hsz]
  have hd : C26 b ns tm th td s g (max 1 n) lo w { wk with drawn := wk.drawn + 1 } := hA.below hlt (Below.refl _ _).drew
  refine any_parts (fuel := 1) (L := L26 b (max 1 n) lo w.heap.size tm th td a0) (W := W26) (C := C26 b ns tm th td s g (max 1 n) lo w) (Ext := But b) (ok26 b (max 1 n) lo w.heap.size tm th td a0 hs) hd (But.refl b) (fun _ _ _ => But.trans)
    (parts26 hlt IH hty hn hh hl hr0 hr1 h0 h9 h3 h5) ?_
  intro vals u hC _ hall
  obtain ⟨_, _, _, _, _, _, _, _, _, _, _, _, _, _, _, _, _, _, ⟨p, q, m, K, hK, hpq, hm0, hm1, e18⟩, _⟩ := hall
  have r1 : Region.ready .any ops26 (((L26 b (max 1 n) lo w.heap.size tm th td a0).map (·.idx)).foldl (fun b i => b.setIfInBounds i true) (Array.replicate 20 false)) = [19] := by kernel_rfl
  have r2 : Region.ready .any ops26 ((((L26 b (max 1 n) lo w.heap.size tm th td a0).map (·.idx)).foldl (fun b i => b.setIfInBounds i true) (Array.replicate 20 false)).setIfInBounds 19 true) = [] := by kernel_rfl
  have e8 : (fin ops26 vals ((L26 b (max 1 n) lo w.heap.size tm th td a0).map (·.idx)) a0).eval (.tmp 8) = ptr (w.heap.size + 1) 0 := (fin_other 8 (by kernel_rfl)).trans h8
  have e175 : (fin ops26 vals ((L26 b (max 1 n) lo w.heap.size tm th td a0).map (·.idx)) a0).eval (.tmp 175) = .agg #[.int .i64 19, .int .i64 p, .int .i64 q, .int .i64 tm, .int .i64 th, .int .i64 td, .string ⟨#[]⟩, .int .i64 0, .int .i64 m, K] :=
    (fin_own 175 18 (by kernel_rfl) (by rw [hs]; decide)).trans (List.cons.inj e18).1
  have ed := (fin_size ops26 vals ((L26 b (max 1 n) lo w.heap.size tm th td a0).map (·.idx)) a0).2
  generalize fin ops26 vals ((L26 b (max 1 n) lo w.heap.size tm th td a0).map (·.idx)) a0 = aF at *
  generalize ((L26 b (max 1 n) lo w.heap.size tm th td a0).map (·.idx)).foldl (fun b i => b.setIfInBounds i true) (Array.replicate 20 false) = lst at *
  have hop : (ops26.getD 19 default).op = .store 91 (.tmp 8) (.tmp 175) := by kernel_rfl
  have hdst : (ops26.getD 19 default).dst = none := by kernel_rfl
  have hgu : (ops26.getD 19 default).guard = none := by kernel_rfl
  have hat : ops26[19]? = some (ops26.getD 19 default) := by kernel_rfl
  generalize ops26.getD 19 default = o19 at *
  refine any_last r1 hat hgu r2 ?_
  refine wp_store_mid 91 (.tmp 8) (.tmp 175) hop (w.heap.size + 1) 0 #[.int .i64 19, .int .i64 p, .int .i64 q, .int .i64 tm, .int .i64 th, .int .i64 td, .string ⟨#[]⟩, .int .i64 0, .int .i64 m, K] e8 e175 ?_ (by kernel_rfl) ?_ ?_
  · exact there_of_heap hC.st.res 0 _ (by simp [exZero])
  · obtain ⟨x, cs, B, _, _, _, rfl, _⟩ := hK
    simp [Value.oneCell']
  · rw [hdst]
    exact hQ _ u p q m K e8 ed hC hK hpq hm0 hm1
/-- The end: an expression with one kid whose row lies in memory already is copied into the result. -/
theorem round_close {u : World} {p q m : Int} {K : Value} (hn1 : 1 ≤ n) (hlt : b < w.heap.size) (hty : (false, tm, th, td) ∈ fiveTypes) (hC : C26 b ns tm th td s g (max 1 n) lo w u) (hK : saysKid (max 1 n) lo K u) (hpq : (p, q) ∈ steps3) (hm0 : 0 ≤ m) (hm1 : m ≤ 6) :
    ExPost b ns (GenEx (max 1 (n + 1))) w (.returned (.agg #[.int .i64 19, .int .i64 p, .int .i64 q, .int .i64 tm, .int .i64 th, .int .i64 td, .string ⟨#[]⟩, .int .i64 0, .int .i64 m, K])) (put10 u (w.heap.size + 1) (.int .i64 19) (.int .i64 p) (.int .i64 q) (.int .i64 tm) (.int .i64 th) (.int .i64 td) (.string ⟨#[]⟩) (.int .i64 0) (.int .i64 m) K) := by
  obtain ⟨x, cs, B, hx, hex, hlo, rfl, hB⟩ := hK
  have hl := hC.lo_b
  have hk : KeptFrom lo u (put10 u (w.heap.size + 1) (.int .i64 19) (.int .i64 p) (.int .i64 q) (.int .i64 tm) (.int .i64 th) (.int .i64 td) (.string ⟨#[]⟩) (.int .i64 0) (.int .i64 m) (.slice (some ⟨B, 0, none⟩) 1 1)) := by
    unfold put10
    have hg : w.heap.size + 1 < lo := by omega
    exact ((((((((((show KeptFrom lo u u from fun _ _ _ => rfl).setCell hg _).setCell hg _).setCell hg _).setCell hg _).setCell hg _).setCell hg _).setCell hg _).setCell hg _).setCell hg _).setCell hg _
  have hok : okLocal 19 p q tm th td [] 0 m [x].length := by
    have h1 : 0 ≤ p ∧ p ≤ 100 ∧ 0 ≤ q ∧ q ≤ 100 := by
      simp only [steps3, List.mem_cons, List.not_mem_nil, or_false, Prod.mk.injEq] at hpq; omega
    have h2 : -1 ≤ tm ∧ tm ≤ 1 ∧ -1 ≤ th ∧ th ≤ 1 ∧ -1 ≤ td ∧ td ≤ 1 := by
      simp only [fiveTypes, tTruth, tMoney, tHours, tRate, tNumber, List.mem_cons, List.not_mem_nil, or_false, Prod.mk.injEq] at hty; omega
    exact ⟨by omega, by omega, h1.1, h1.2.1, h1.2.2.1, h1.2.2.2, h2.1, h2.2.1, h2.2.2.1, h2.2.2.2.1, h2.2.2.2.2.1, h2.2.2.2.2.2, by simp, by omega, by omega, hm0, hm1, rfl⟩
  refine ⟨.mk 19 p q tm th td [] 0 m [x], _, (gen_mk hok (show GenAll (max 1 n) [x] from ⟨hx, trivial⟩)).mono (by omega), ?_, rfl, tape10 hC.st.tape (by omega) _ _ _ _ _ _ _ _ _ _, but10 hC.st.but (by omega) _ _ _ _ _ _ _ _ _ _⟩
  refine exAt.mono (show w.heap.size ≤ lo by omega) _ _ (exAt.mk 19 p q tm th td [] 0 m (exsAt.one (exAt.keep hk _ _ hex)) (T := 91) (fr := (0, 0)) ?_ (fun r hr => ?_) hlo)
  · rw [hk B hlo (heap_lt hB), hB]; simp
  · simp only [List.mem_cons, List.not_mem_nil, or_false] at hr; subst hr; exact exAt.len hex
theorem range10 {u : World} {g : Nat} (ht : u.there g 0 10) (a0 a1 a2 a3 a4 a5 a6 a7 a8 a9 : Value) : (put10 u g a0 a1 a2 a3 a4 a5 a6 a7 a8 a9).rangeAt g 0 [a0, a1, a2, a3, a4, a5, a6, a7, a8, a9] := by
  rw [← setCells_put10]
  exact World.rangeAt_setCells_same u g 0 _ ht
/-- The return behind it. -/
theorem round_end {u : World} {p q m : Int} {K : Value} {aF : Act} (hn1 : 1 ≤ n) (hlt : b < w.heap.size) (hty : (false, tm, th, td) ∈ fiveTypes) (e8 : aF.eval (.tmp 8) = ptr (w.heap.size + 1) 0) (ed : aF.defers = []) (hC : C26 b ns tm th td s g (max 1 n) lo w u) (hK : saysKid (max 1 n) lo K u) (hpq : (p, q) ∈ steps3) (hm0 : 0 ≤ m) (hm1 : m ≤ 6) :
    bodyPost Tryz.prog Tryz.f65 (ExPost b ns (GenEx (max 1 (n + 1))) w) .ret aF (put10 u (w.heap.size + 1) (.int .i64 19) (.int .i64 p) (.int .i64 q) (.int .i64 tm) (.int .i64 th) (.int .i64 td) (.string ⟨#[]⟩) (.int .i64 0) (.int .i64 m) K) :=
  bodyPost_ret (results_cell (ty := 91) (by kernel_rfl) e8 [.int .i64 19, .int .i64 p, .int .i64 q, .int .i64 tm, .int .i64 th, .int .i64 td, .string ⟨#[]⟩, .int .i64 0, .int .i64 m, K] (range10 (there_of_heap hC.st.res 0 10 (by simp [exZero])) _ _ _ _ _ _ _ _ _ _) (by kernel_rfl) (by kernel_rfl)) ed (round_close hn1 hlt hty hC hK hpq hm0 hm1)
end
end Go.Proofs.YtpdbkbadjgellaaGreatDoor

namespace Go.Proofs.YtpdbkbadjgellaaGreatDoor
open Go.RowKit

/-- An expression's cells, written out. -/
theorem exAt.cells {lo : Nat} {w : World} {x : Ex} {cs : List Value} (h : exAt lo w x cs) : ∃ (a0 a1 a2 a3 a4 a5 : Int) (a6 : List UInt8) (a7 a8 : Int) (A : Option Addr) (n c : Nat), cs = [.int .i64 a0, .int .i64 a1, .int .i64 a2, .int .i64 a3, .int .i64 a4, .int .i64 a5, .string ⟨a6.toArray⟩, .int .i64 a7, .int .i64 a8, .slice A n c] := by
  obtain ⟨op, num, den, mu, hu, du, name, count, mode, kids⟩ := x
  unfold exAt at h
  obtain ⟨A, c, ks, rfl, _⟩ := h
  exact ⟨_, _, _, _, _, _, _, _, _, _, _, _, rfl⟩
theorem blk4 {w : World} {g : Nat} {a0 a1 a2 a3 : Value} {T : TypeId} (h : w.heap[g]? = some (.cells #[a0, a1, a2, a3] T (0, 0))) : w.cell? ⟨g, 0, none⟩ = some a0 ∧ w.cell? ⟨g, 1, none⟩ = some a1 ∧ w.cell? ⟨g, 2, none⟩ = some a2 ∧ w.cell? ⟨g, 3, none⟩ = some a3 :=
  ⟨Lib.cell_of_heap h 0, Lib.cell_of_heap h 1, Lib.cell_of_heap h 2, Lib.cell_of_heap h 3⟩
def typeCells (s : Bool × Int × Int × Int) : List Value := [.bool s.1, .int .i64 s.2.1, .int .i64 s.2.2.1, .int .i64 s.2.2.2]
def fourTypes : List (Bool × Int × Int × Int) := [tNumber, tMoney, tHours, tRate]
theorem four_cells (w : World) (k : Nat) (hk : k < 4) : ∃ s, s ∈ fiveTypes ∧ (w.alloc (.cells (fourTypes.flatMap typeCells).toArray 87)).cell? ⟨w.heap.size, k * 4, none⟩ = some (.bool s.1) ∧ (w.alloc (.cells (fourTypes.flatMap typeCells).toArray 87)).cell? ⟨w.heap.size, k * 4 + 1, none⟩ = some (.int .i64 s.2.1) ∧
    (w.alloc (.cells (fourTypes.flatMap typeCells).toArray 87)).cell? ⟨w.heap.size, k * 4 + 2, none⟩ = some (.int .i64 s.2.2.1) ∧ (w.alloc (.cells (fourTypes.flatMap typeCells).toArray 87)).cell? ⟨w.heap.size, k * 4 + 3, none⟩ = some (.int .i64 s.2.2.2) := by
  simp only [Lib.cell_of_heap (heap_alloc_new w _), List.getElem?_toArray]
  have : k = 0 ∨ k = 1 ∨ k = 2 ∨ k = 3 := by omega
  rcases this with rfl | rfl | rfl | rfl
  · exact ⟨tNumber, by simp [fiveTypes], rfl, rfl, rfl, rfl⟩
  · exact ⟨tMoney, by simp [fiveTypes], rfl, rfl, rfl, rfl⟩
  · exact ⟨tHours, by simp [fiveTypes], rfl, rfl, rfl, rfl⟩
  · exact ⟨tRate, by simp [fiveTypes], rfl, rfl, rfl, rfl⟩

theorem mem_truth : (true, (0 : Int), (0 : Int), (0 : Int)) ∈ fiveTypes := by simp [fiveTypes, tTruth]
theorem mem_number : (false, (0 : Int), (0 : Int), (0 : Int)) ∈ fiveTypes := by simp [fiveTypes, tNumber]
theorem mem_money : (false, (1 : Int), (0 : Int), (0 : Int)) ∈ fiveTypes := by simp [fiveTypes, tMoney]
theorem mem_hours : (false, (0 : Int), (1 : Int), (0 : Int)) ∈ fiveTypes := by simp [fiveTypes, tHours]
theorem mem_rate : (false, (1 : Int), (-1 : Int), (0 : Int)) ∈ fiveTypes := by simp [fiveTypes, tRate]

/-- Ten stores into an old block keep the later blocks. -/
theorem kept10 {lo : Nat} {w w' : World} (h : KeptFrom lo w w') {g : Nat} (hg : g < lo) (a0 a1 a2 a3 a4 a5 a6 a7 a8 a9 : Value) : KeptFrom lo w (put10 w' g a0 a1 a2 a3 a4 a5 a6 a7 a8 a9) := by
  unfold put10
  exact (((((((((h.setCell hg _).setCell hg _).setCell hg _).setCell hg _).setCell hg _).setCell hg _).setCell hg _).setCell hg _).setCell hg _).setCell hg _
theorem size10 (w : World) (g : Nat) (a0 a1 a2 a3 a4 a5 a6 a7 a8 a9 : Value) : (put10 w g a0 a1 a2 a3 a4 a5 a6 a7 a8 a9).heap.size = w.heap.size := by unfold put10; simp
theorem ok_op {op : Int} {n : Nat} (h1 : 1 ≤ op) (h2 : op ≤ 21) (h : n = arity op) : okLocal op 0 0 0 0 0 [] 0 0 n := ⟨h1, h2, by omega, by omega, by omega, by omega, by omega, by omega, by omega, by omega, by omega, by omega, by simp, by omega, by omega, by omega, by omega, h⟩
theorem ok_named {op : Int} {n : Nat} {name : List UInt8} (h1 : 1 ≤ op) (h2 : op ≤ 21) (h3 : name.length ≤ 5) (h : n = arity op) : okLocal op 0 0 0 0 0 name 0 0 n := ⟨h1, h2, by omega, by omega, by omega, by omega, by omega, by omega, by omega, by omega, by omega, by omega, h3, by omega, by omega, by omega, by omega, h⟩
/-- The end: the kids' row is laid, the result is filled. -/
theorem Acc.close {b : Nat} {ns : List Int} {t s : Bool × Int × Int × Int} {g m lo : Nat} {w wx : World} {es : List Ex} {ks : List (List Value)} (h : Acc b ns t s g m lo w es ks wx) (hlt : b < w.heap.size)
    {op num den mu hu du : Int} {name : List UInt8} {count mode : Int} (ok : okLocal op num den mu hu du name count mode es.length) (a0 a1 a2 a3 a4 a5 a6 a7 a8 a9 : Value) {C : Array Value} (hC : C = ks.flatten.toArray) {N : Nat} (hN : N = es.length) {m' : Nat} (hm : m + 1 ≤ m') :
    ExPost b ns (GenEx m') w (.returned (.agg #[.int .i64 op, .int .i64 num, .int .i64 den, .int .i64 mu, .int .i64 hu, .int .i64 du, .string ⟨name.toArray⟩, .int .i64 count, .int .i64 mode, .slice (Option.some ⟨wx.heap.size, 0, none⟩) N N]))
      ((put10 wx (w.heap.size + 1) a0 a1 a2 a3 a4 a5 a6 a7 a8 a9).alloc (.cells C 91)) := by
  have hz := size10 wx (w.heap.size + 1) a0 a1 a2 a3 a4 a5 a6 a7 a8 a9
  have hlo := h.lo_b
  have hk : KeptFrom lo wx ((put10 wx (w.heap.size + 1) a0 a1 a2 a3 a4 a5 a6 a7 a8 a9).alloc (.cells C 91)) := by
    intro k h1 h2
    rw [Below.heap_alloc _ _ _ (by omega)]
    exact kept10 (fun _ _ _ => rfl) (by omega) _ _ _ _ _ _ _ _ _ _ k h1 h2
  subst hC hN
  refine ⟨.mk op num den mu hu du name count mode es, _, (gen_mk ok h.gen).mono hm, exAt.mono (show w.heap.size ≤ lo by omega) _ _ (exAt.mk op num den mu hu du name count mode (exsAt.keep hk _ _ h.exs) (alloc_at hz.symm) h.len h.lo_le), rfl, ?_, ?_⟩
  · exact (tape10 h.st.tape (by omega) _ _ _ _ _ _ _ _ _ _).alloc _
  · exact (but10 h.st.but (by omega) _ _ _ _ _ _ _ _ _ _).alloc _

/-- The end: an expression is copied into the result. -/
theorem ex_close {b lo : Nat} {ns : List Int} {P : Ex → Prop} {w wx : World} {x : Ex} {cs : List Value} (hex : exAt lo wx x cs) (hlo : w.heap.size + 1 < lo) (hx : P x) (hT : TapeOk b ns wx) (hb : But b w wx) (hlt : b < w.heap.size) (a0 a1 a2 a3 a4 a5 a6 a7 a8 a9 : Value) :
    ExPost b ns P w (.returned (.agg cs.toArray)) (put10 wx (w.heap.size + 1) a0 a1 a2 a3 a4 a5 a6 a7 a8 a9) :=
  ⟨x, cs, hx, exAt.mono (by omega) _ _ (exAt.keep (kept10 (fun _ _ _ => rfl) hlo _ _ _ _ _ _ _ _ _ _) _ _ hex), rfl, tape10 hT (by omega) _ _ _ _ _ _ _ _ _ _, but10 hb (by omega) _ _ _ _ _ _ _ _ _ _⟩
theorem Acc.both {b : Nat} {ns : List Int} {t s : Bool × Int × Int × Int} {g m lo : Nat} {w wx : World} {x y : Ex} {cx cy : List Value} (h : Acc b ns t s g m lo w [x, y] [cx, cy] wx) : exAt lo wx x cx ∧ exAt lo wx y cy := by
  have := h.exs
  unfold exsAt exsAt exsAt at this
  obtain ⟨c, cs, h1, h2, d, ds, h3, h4, h5⟩ := this
  simp at h1; obtain ⟨rfl, rfl⟩ := h1
  simp at h3; obtain ⟨rfl, rfl⟩ := h3
  exact ⟨h2, h4⟩
theorem past_cell {w : World} {o : Obj} {p : Addr} {v : Value} (h : w.cell? p = some v) : (w.alloc o).cell? p = some v := by
  rw [World.cell?_alloc_lt _ _ _ (World.block_lt_of_cell? w _ h)]; exact h
theorem past_drew {w : World} {o : Obj} {p : Addr} {v : Value} (h : w.drew.cell? p = some v) : (w.alloc o).drew.cell? p = some v := past_cell (w := w.drew) (o := o) h
theorem pick_row (xs : List Int) (w : World) : ∀ (i : Nat) (x : Int), xs[i]? = some x → (w.alloc (.cells (xs.map (Value.int .i64)).toArray 3)).cell? ⟨w.heap.size, i, none⟩ = some (.int .i64 x) := by
  intro i x hi
  rw [Lib.cell_of_heap (heap_alloc_new w _), List.getElem?_toArray, List.getElem?_map, hi]; rfl

theorem But.of_drew {b : Nat} {w w' : World} (h : But b w w') : But b w.drew w' := ⟨h.os, h.tape, h.output, h.size, h.block⟩
theorem pick3 (b : Nat) (ns : List Int) (p q r : Int) (w : World) (hT : TapeOk b ns w) : Calls Tryz.prog 21 #[.pointer (some ⟨b, 0, none⟩), .slice (some ⟨w.heap.size, 0, none⟩) 3 3] (w.alloc (.cells #[.int .i64 p, .int .i64 q, .int .i64 r] 3)).drew (PickPost b ns [p, q, r] w) := by
  refine (pick_any b w.heap.size 3 ns [p, q, r] (w.drew.alloc (.cells #[.int .i64 p, .int .i64 q, .int .i64 r] 3)) ((hT.below (Below.refl _ _).drew).alloc _) (Nat.ne_of_gt hT.lt) (by simp) (by simp) (pick_row [p, q, r] w.drew)).mono ?_
  rintro e w' ⟨x, hx, rfl, h1, h2⟩
  exact ⟨x, hx, rfl, h1, ((But.refl b w).drew.alloc _).trans h2⟩
end Go.Proofs.YtpdbkbadjgellaaGreatDoor

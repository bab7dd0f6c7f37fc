/-
  payrollgen's Expr: the regions that end in a node with two kids.
-/
import Derived.Test.YtpdbkbadjgellaaGreatDoorZ19
namespace Go.Proofs.YtpdbkbadjgellaaGreatDoor
open Go.RowKit

theorem enter21 (args : List Value) (w : World) : (callFunc 21 args.toArray).run Tryz.prog w = .ok (.enter 21 args.toArray) w := by kernel_rfl
theorem enter92 (args : List Value) (w : World) : (callFunc 92 args.toArray).run Tryz.prog w = .ok (.enter 92 args.toArray) w := by kernel_rfl
theorem enter64 (args : List Value) (w : World) : (callFunc 64 args.toArray).run Tryz.prog w = .ok (.enter 64 args.toArray) w := by kernel_rfl
def tyAgg (t : Bool × Int × Int × Int) : Value := .agg #[.bool t.1, .int .i64 t.2.1, .int .i64 t.2.2.1, .int .i64 t.2.2.2]
def saysOf (xs : List Int) (v : Value) : Prop := ∃ x, x ∈ xs ∧ v = .int .i64 x
abbrev C27 (b : Nat) (ns : List Int) (t s : Bool × Int × Int × Int) (g m lo : Nat) (w : World) : World → Prop := fun wx => Acc b ns t s g m lo w [] [] wx
theorem saysEx_keep {b m lo : Nat} {v : Value} {u u' : World} (h : saysEx m lo v u) (he : But b u u') (hb : b < lo) : saysEx m lo v u' := by
  obtain ⟨x, cs, k1, k2, k3⟩ := h
  exact ⟨x, cs, k1, exAt.keep (.of_but he hb) _ _ k2, k3⟩
section
variable {b n lo g : Nat} {ns : List Int} {t s : Bool × Int × Int × Int} {w : World} {a0 : Act} {rules h : Int}
/-- The end: the expression in hand is copied into the result. -/
theorem two_end {u : World} {aF : Act} (hn1 : 1 ≤ n) (hlt : b < w.heap.size) (e8 : aF.eval (.tmp 8) = ptr (w.heap.size + 1) 0) (ed : aF.defers = []) (hC : C27 b ns t s g (max 1 n) lo w u) {cs : List Value} {x : Ex} (hx : GenEx (max 1 n + 1) x) (hex : exAt lo u x cs) :
    bodyPost Tryz.prog Tryz.f65 (ExPost b ns (GenEx (max 1 (n + 1))) w) .ret aF (u.setCells (w.heap.size + 1) 0 cs) := by
  have hl := hC.lo_b
  have hcs := hex
  obtain ⟨x0, x1, x2, x3, x4, x5, x6, x7, x8, A, kn, kc, rfl⟩ := hcs.cells'
  rw [setCells_put10]
  exact bodyPost_ret (results_cell (ty := 91) (by kernel_rfl) e8 _ (range10 (there_of_heap hC.st.res 0 10 (by simp [exZero])) _ _ _ _ _ _ _ _ _ _) (by kernel_rfl) (by kernel_rfl)) ed
    (ex_close hex (by omega) (hx.mono (by omega)) hC.st.tape hC.st.but hlt _ _ _ _ _ _ _ _ _ _)

noncomputable def ops22 : Array Oper := regOf Tryz.f65 22
def W22 : Wr := [(125, 0), (126, 1), (127, 2), (128, 3), (129, 4), (130, 5), (131, 6), (132, 7), (133, 8), (134, 9), (135, 10), (136, 11), (137, 12), (138, 13)]
def L22 (b m lo : Nat) (t : Bool × Int × Int × Int) (a0 : Act) : List Loc :=
  [pureL 0 [] (a0.eval (.tmp 0)),
   ⟨1, [], [1], fun vs w => saysSlice b (ints [5, 6]) 3 2 (vs.getD 0 undef) w⟩,
   ⟨2, [0, 1], [2], fun vs _ => saysOf [5, 6] (vs.getD 0 undef)⟩,
   pureL 3 [] (a0.eval (.tmp 0)),
   pureL 4 [] (tyAgg t),
   pureL 5 [] (a0.eval (.tmp 9)),
   pureL 6 [] (a0.eval (.tmp 3)),
   ⟨7, [0, 1, 2, 3, 4, 5, 6], [7], fun vs w => saysEx m lo (vs.getD 0 undef) w⟩,
   pureL 8 [] (a0.eval (.tmp 0)),
   pureL 9 [] (tyAgg t),
   pureL 10 [] (a0.eval (.tmp 9)),
   pureL 11 [] (a0.eval (.tmp 3)),
   ⟨12, [0, 1, 2, 3, 4, 5, 6, 7, 8, 9, 10, 11], [12], fun vs w => saysEx m lo (vs.getD 0 undef) w⟩,
   ⟨13, [0, 1, 2, 3, 4, 5, 6, 7, 8, 9, 10, 11, 12], [13], fun vs w => saysEx (m + 1) lo (vs.getD 0 undef) w⟩]
theorem ok22 (b m lo : Nat) (t : Bool × Int × Int × Int) (a0 : Act) (hs : a0.tmps.size = 275) : (locOk .any ops22 W22 (Array.replicate 15 false) a0.tmps.size (L22 b m lo t a0) && bare ops22 (L22 b m lo t a0)) = true := by rw [hs]; kernel_rfl
set_option maxRecDepth 100000 in
theorem part22_1 (hlt : b < w.heap.size) : Part Tryz.prog ops22 a0 W22 (C27 b ns t s g (max 1 n) lo w) (But b) (L22 b (max 1 n) lo t a0) ⟨1, [], [1], fun vs w => saysSlice b (ints [5, 6]) 3 2 (vs.getD 0 undef) w⟩ := by
  refine ⟨fun vs u u' hC he ⟨B, h1, h2, h3⟩ => ⟨B, h1, blk_keep h2 h3 he, h3⟩, fun vals u hC hb => ?_⟩
  refine OpOk.value (v := .slice (some ⟨u.heap.size, 0, none⟩) 2 2) (w' := u.alloc (.cells (ints [5, 6]).toArray 3)) (by kernel_rfl) ⟨?_, ?_, ?_⟩
  · exact hC.below hlt ((Below.refl _ _).alloc (Nat.le_refl _) _)
  · exact .of_below ((Below.refl _ _).alloc (Nat.le_refl _) _)
  · exact ⟨u.heap.size, rfl, heap_alloc_new _ _, by have := hC.st.tape.lt; omega⟩
set_option maxRecDepth 100000 in
theorem part22_2 (hlt : b < w.heap.size) (h0 : a0.eval (.tmp 0) = ptr b 0) : Part Tryz.prog ops22 a0 W22 (C27 b ns t s g (max 1 n) lo w) (But b) (L22 b (max 1 n) lo t a0) ⟨2, [0, 1], [2], fun vs _ => saysOf [5, 6] (vs.getD 0 undef)⟩ := by
  refine ⟨fun vs u u' hC he h => h, fun vals u hC hb => ?_⟩
  obtain ⟨k0, ⟨B, e1, hB, hne⟩, _⟩ := hb
  refine OpOk.call (f := 21) [.tmp 125, .tmp 126] (args := [ptr b 0, .slice (some ⟨B, 0, none⟩) 2 2]) (ats := #[23, 22]) (by kernel_rfl) rfl ?_ (enter21 _ _) ?_
  · rw [show [.tmp 125, .tmp 126].map (evalV a0 W22 vals) = [vals 0, vals 1] by kernel_rfl]
    rw [(List.cons.inj k0).1, h0]
    exact congrArg (fun z => [ptr b 0, z]) e1
  · refine (pick_any b B 2 ns [5, 6] u hC.st.tape hne (by simp) (by simp) (fun i x hi => ?_)).mono ?_
    · rw [Lib.cell_of_heap hB, List.getElem?_toArray, ints, List.getElem?_map, hi]; rfl
    · rintro e u' ⟨x, hx, rfl, hT, hB'⟩
      exact ⟨_, rfl, hC.step hlt hT hB', hB', x, hx, rfl⟩
set_option maxRecDepth 100000 in
theorem part22_4 (h5 : a0.eval (.tmp 5) = ptr w.heap.size 0) : Part Tryz.prog ops22 a0 W22 (C27 b ns t s g (max 1 n) lo w) (But b) (L22 b (max 1 n) lo t a0) (pureL 4 [] (tyAgg t)) := by
  refine ⟨fun vs u u' hC he h => h, fun vals u hC hb => ?_⟩
  exact OpOk.loadMid 87 (.tmp 5) (by kernel_rfl) ((by kernel_rfl : evalV a0 W22 vals (.tmp 5) = a0.eval (.tmp 5)).trans h5) [.bool t.1, .int .i64 t.2.1, .int .i64 t.2.2.1, .int .i64 t.2.2.2] (rangeAt_lit (l := [.bool t.1, .int .i64 t.2.1, .int .i64 t.2.2.1, .int .i64 t.2.2.2]) hC.st.ty 0 _ rfl) (by kernel_rfl) (by kernel_rfl) ⟨hC, .refl _ _, rfl⟩
set_option maxRecDepth 100000 in
theorem part22_7 (hlt : b < w.heap.size) (IH : ExprSaid b ns n) (hty : t ∈ fiveTypes) (hn : h ≤ n) (hh : h ≤ 100) (hl : -100 ≤ h) (hr0 : 0 ≤ rules) (hr1 : rules ≤ 10) (h0 : a0.eval (.tmp 0) = ptr b 0) (h9 : a0.eval (.tmp 9) = .int .i64 h) (h3 : a0.eval (.tmp 3) = .int .i64 rules) : Part Tryz.prog ops22 a0 W22 (C27 b ns t s g (max 1 n) lo w) (But b) (L22 b (max 1 n) lo t a0) ⟨7, [0, 1, 2, 3, 4, 5, 6], [7], fun vs w => saysEx (max 1 n) lo (vs.getD 0 undef) w⟩ := by
  refine ⟨fun vs u u' hC he h => saysEx_keep h he (by have := hC.lo_b; omega), fun vals u hC hb => ?_⟩
  obtain ⟨_, _, _, k3, k4, k5, k6, _⟩ := hb
  refine OpOk.call (f := 65) [.tmp 128, .tmp 129, .tmp 130, .tmp 131] (args := [ptr b 0, tyAgg t, .int .i64 h, .int .i64 rules]) (ats := #[23, 87, 3, 3]) (by kernel_rfl) rfl ?_ (enterE _ _) ?_
  · rw [show [.tmp 128, .tmp 129, .tmp 130, .tmp 131].map (evalV a0 W22 vals) = [vals 3, vals 4, vals 5, vals 6] by kernel_rfl]
    rw [(List.cons.inj k3).1, (List.cons.inj k4).1, (List.cons.inj k5).1, (List.cons.inj k6).1, h0, h9, h3]
  · refine (IH t.1 t.2.1 t.2.2.1 t.2.2.2 h rules u hC.st.tape hty hn hh hl hr0 hr1).mono ?_
    rintro e u' ⟨x, cs, hx, hex, rfl, hT, hB⟩
    exact ⟨_, rfl, hC.step hlt hT hB, hB, x, cs, hx, exAt.mono hC.lo_le _ _ hex, rfl⟩
set_option maxRecDepth 100000 in
theorem part22_9 (h5 : a0.eval (.tmp 5) = ptr w.heap.size 0) : Part Tryz.prog ops22 a0 W22 (C27 b ns t s g (max 1 n) lo w) (But b) (L22 b (max 1 n) lo t a0) (pureL 9 [] (tyAgg t)) := by
  refine ⟨fun vs u u' hC he h => h, fun vals u hC hb => ?_⟩
  exact OpOk.loadMid 87 (.tmp 5) (by kernel_rfl) ((by kernel_rfl : evalV a0 W22 vals (.tmp 5) = a0.eval (.tmp 5)).trans h5) [.bool t.1, .int .i64 t.2.1, .int .i64 t.2.2.1, .int .i64 t.2.2.2] (rangeAt_lit (l := [.bool t.1, .int .i64 t.2.1, .int .i64 t.2.2.1, .int .i64 t.2.2.2]) hC.st.ty 0 _ rfl) (by kernel_rfl) (by kernel_rfl) ⟨hC, .refl _ _, rfl⟩
set_option maxRecDepth 100000 in
theorem part22_12 (hlt : b < w.heap.size) (IH : ExprSaid b ns n) (hty : t ∈ fiveTypes) (hn : h ≤ n) (hh : h ≤ 100) (hl : -100 ≤ h) (hr0 : 0 ≤ rules) (hr1 : rules ≤ 10) (h0 : a0.eval (.tmp 0) = ptr b 0) (h9 : a0.eval (.tmp 9) = .int .i64 h) (h3 : a0.eval (.tmp 3) = .int .i64 rules) : Part Tryz.prog ops22 a0 W22 (C27 b ns t s g (max 1 n) lo w) (But b) (L22 b (max 1 n) lo t a0) ⟨12, [0, 1, 2, 3, 4, 5, 6, 7, 8, 9, 10, 11], [12], fun vs w => saysEx (max 1 n) lo (vs.getD 0 undef) w⟩ := by
  refine ⟨fun vs u u' hC he h => saysEx_keep h he (by have := hC.lo_b; omega), fun vals u hC hb => ?_⟩
  obtain ⟨_, _, _, _, _, _, _, _, k8, k9, k10, k11, _⟩ := hb
  refine OpOk.call (f := 65) [.tmp 133, .tmp 134, .tmp 135, .tmp 136] (args := [ptr b 0, tyAgg t, .int .i64 h, .int .i64 rules]) (ats := #[23, 87, 3, 3]) (by kernel_rfl) rfl ?_ (enterE _ _) ?_
  · rw [show [.tmp 133, .tmp 134, .tmp 135, .tmp 136].map (evalV a0 W22 vals) = [vals 8, vals 9, vals 10, vals 11] by kernel_rfl]
    rw [(List.cons.inj k8).1, (List.cons.inj k9).1, (List.cons.inj k10).1, (List.cons.inj k11).1, h0, h9, h3]
  · refine (IH t.1 t.2.1 t.2.2.1 t.2.2.2 h rules u hC.st.tape hty hn hh hl hr0 hr1).mono ?_
    rintro e u' ⟨x, cs, hx, hex, rfl, hT, hB⟩
    exact ⟨_, rfl, hC.step hlt hT hB, hB, x, cs, hx, exAt.mono hC.lo_le _ _ hex, rfl⟩
set_option maxRecDepth 100000 in
theorem part22_13 (hlt : b < w.heap.size) : Part Tryz.prog ops22 a0 W22 (C27 b ns t s g (max 1 n) lo w) (But b) (L22 b (max 1 n) lo t a0) ⟨13, [0, 1, 2, 3, 4, 5, 6, 7, 8, 9, 10, 11, 12], [13], fun vs w => saysEx (max 1 n + 1) lo (vs.getD 0 undef) w⟩ := by
  refine ⟨fun vs u u' hC he h => saysEx_keep h he (by have := hC.lo_b; omega), fun vals u hC hb => ?_⟩
  obtain ⟨_, _, ⟨o, ho, eo⟩, _, _, _, _, ⟨x, cx, hx, hex, ex⟩, _, _, _, _, ⟨y, cy, hy, hey, ey⟩, _⟩ := hb
  refine OpOk.call (f := 92) [.tmp 127, .tmp 132, .tmp 137] (args := [.int .i64 o, .agg cx.toArray, .agg cy.toArray]) (ats := #[3, 91, 91]) (by kernel_rfl) rfl ?_ (enter92 _ _) ?_
  · rw [show [.tmp 127, .tmp 132, .tmp 137].map (evalV a0 W22 vals) = [vals 2, vals 7, vals 12] by kernel_rfl]
    rw [show vals 2 = .int .i64 o from eo, show vals 7 = .agg cx.toArray from ex, show vals 12 = .agg cy.toArray from ey]
  · refine (two_any lo o x y cx cy u hC.lo_le hex hey).mono ?_
    rintro e u' ⟨cs, hcs, rfl, hb'⟩
    exact ⟨_, rfl, hC.below hlt hb', .of_below hb', _, cs, gen_mk (ok_op (by simp only [List.mem_cons, List.not_mem_nil, or_false] at ho; omega) (by simp only [List.mem_cons, List.not_mem_nil, or_false] at ho; omega) (by simp only [List.mem_cons, List.not_mem_nil, or_false] at ho; rcases ho with rfl | rfl <;> rfl)) (show GenAll (max 1 n) [x, y] from ⟨hx, hy, trivial⟩), hcs, rfl⟩
set_option maxRecDepth 100000 in
theorem parts22 (hlt : b < w.heap.size) (IH : ExprSaid b ns n) (hty : t ∈ fiveTypes) (hn : h ≤ n) (hh : h ≤ 100) (hl : -100 ≤ h) (hr0 : 0 ≤ rules) (hr1 : rules ≤ 10) (h0 : a0.eval (.tmp 0) = ptr b 0) (h9 : a0.eval (.tmp 9) = .int .i64 h) (h3 : a0.eval (.tmp 3) = .int .i64 rules) (h5 : a0.eval (.tmp 5) = ptr w.heap.size 0) :
    Parts Tryz.prog ops22 a0 W22 (C27 b ns t s g (max 1 n) lo w) (But b) (L22 b (max 1 n) lo t a0) (L22 b (max 1 n) lo t a0) :=
    ⟨part_pure (But.refl b) (fun _ _ _ _ => by kernel_rfl),
     part22_1 hlt,
     part22_2 hlt h0,
     part_pure (But.refl b) (fun _ _ _ _ => by kernel_rfl),
     part22_4 h5,
     part_pure (But.refl b) (fun _ _ _ _ => by kernel_rfl),
     part_pure (But.refl b) (fun _ _ _ _ => by kernel_rfl),
     part22_7 hlt IH hty hn hh hl hr0 hr1 h0 h9 h3,
     part_pure (But.refl b) (fun _ _ _ _ => by kernel_rfl),
     part22_9 h5,
     part_pure (But.refl b) (fun _ _ _ _ => by kernel_rfl),
     part_pure (But.refl b) (fun _ _ _ _ => by kernel_rfl),
     part22_12 hlt IH hty hn hh hl hr0 hr1 h0 h9 h3,
     part22_13 hlt, trivial⟩
set_option maxHeartbeats 400000 in
set_option maxRecDepth 100000 in
theorem region22 (hlt : b < w.heap.size) (IH : ExprSaid b ns n) (hty : t ∈ fiveTypes) (hn : h ≤ n) (hh : h ≤ 100) (hl : -100 ≤ h) (hr0 : 0 ≤ rules) (hr1 : rules ≤ 10) (hs : a0.tmps.size = 275) (h0 : a0.eval (.tmp 0) = ptr b 0) (h9 : a0.eval (.tmp 9) = .int .i64 h) (h3 : a0.eval (.tmp 3) = .int .i64 rules) (h5 : a0.eval (.tmp 5) = ptr w.heap.size 0) (h8 : a0.eval (.tmp 8) = ptr (w.heap.size + 1) 0)
    {wk : World} (hA : C27 b ns t s g (max 1 n) lo w wk) {Q : Exit → Act → World → Prop}
    (hQ : ∀ a' u x cs, a'.eval (.tmp 8) = ptr (w.heap.size + 1) 0 → a'.defers = a0.defers → C27 b ns t s g (max 1 n) lo w u → GenEx (max 1 n + 1) x → exAt lo u x cs → Q .normal a' (u.setCells (w.heap.size + 1) 0 cs)) :
    (Code.region 22 ops22 true).wp Tryz.prog Q a0 wk := by
  refine wp_region_any (by kernel_rfl) ?_
  have hsz : ops22.size = 15 := by kernel_rfl
  rw [hsz]
  have hd : C27 b ns t s g (max 1 n) lo w { wk with drawn := wk.drawn + 1 } := hA.below hlt (Below.refl _ _).drew
  refine any_parts (fuel := 1) (L := (L22 b (max 1 n) lo t a0)) (W := W22) (C := C27 b ns t s g (max 1 n) lo w) (Ext := But b) (ok22 b (max 1 n) lo t a0 hs) hd (But.refl b) (fun _ _ _ => But.trans)
    (parts22 hlt IH hty hn hh hl hr0 hr1 h0 h9 h3 h5) ?_
  intro vals u hC _ hall
  obtain ⟨_, _, _, _, _, _, _, _, _, _, _, _, _, ⟨x, cs, hx, hex, ecs⟩, _⟩ := hall
  have r1 : Region.ready .any ops22 (((L22 b (max 1 n) lo t a0).map (·.idx)).foldl (fun b i => b.setIfInBounds i true) (Array.replicate 15 false)) = [14] := by kernel_rfl
  have r2 : Region.ready .any ops22 ((((L22 b (max 1 n) lo t a0).map (·.idx)).foldl (fun b i => b.setIfInBounds i true) (Array.replicate 15 false)).setIfInBounds 14 true) = [] := by kernel_rfl
  have e8 : (fin ops22 vals ((L22 b (max 1 n) lo t a0).map (·.idx)) a0).eval (.tmp 8) = ptr (w.heap.size + 1) 0 := (fin_other 8 (by kernel_rfl)).trans h8
  have ev : (fin ops22 vals ((L22 b (max 1 n) lo t a0).map (·.idx)) a0).eval (.tmp 138) = .agg cs.toArray :=
    (fin_own 138 13 (by kernel_rfl) (by rw [hs]; decide)).trans ecs
  have ed := (fin_size ops22 vals ((L22 b (max 1 n) lo t a0).map (·.idx)) a0).2
  generalize fin ops22 vals ((L22 b (max 1 n) lo t a0).map (·.idx)) a0 = aF at *
  generalize ((L22 b (max 1 n) lo t a0).map (·.idx)).foldl (fun b i => b.setIfInBounds i true) (Array.replicate 15 false) = lst at *
  have hop : (ops22.getD 14 default).op = .store 91 (.tmp 8) (.tmp 138) := by kernel_rfl
  have hdst : (ops22.getD 14 default).dst = none := by kernel_rfl
  have hgu : (ops22.getD 14 default).guard = none := by kernel_rfl
  have hat : ops22[14]? = some (ops22.getD 14 default) := by kernel_rfl
  generalize ops22.getD 14 default = oS at *
  refine any_last r1 hat hgu r2 ?_
  have hcs := hex
  obtain ⟨x0, x1, x2, x3, x4, x5, x6, x7, x8, A, kn, kc, rfl⟩ := hcs.cells'
  refine wp_store_mid 91 (.tmp 8) (.tmp 138) hop (w.heap.size + 1) 0 _ e8 ev ?_ (by kernel_rfl) ?_ ?_
  · exact there_of_heap hC.st.res 0 _ (by simp [exZero])
  · simp [Value.oneCell']
  · rw [hdst]
    exact hQ _ u x _ e8 ed hC hx hex
noncomputable def ops24 : Array Oper := regOf Tryz.f65 24
def W24 : Wr := [(141, 0), (142, 1), (143, 2), (144, 3), (145, 4), (146, 5), (147, 6), (148, 7), (149, 8), (150, 9), (151, 10), (152, 11), (153, 12), (154, 13)]
def L24 (b m lo : Nat) (t : Bool × Int × Int × Int) (a0 : Act) : List Loc :=
  [pureL 0 [] (a0.eval (.tmp 0)),
   ⟨1, [], [1], fun vs w => saysSlice b (ints [14, 15]) 3 2 (vs.getD 0 undef) w⟩,
   ⟨2, [0, 1], [2], fun vs _ => saysOf [14, 15] (vs.getD 0 undef)⟩,
   pureL 3 [] (a0.eval (.tmp 0)),
   pureL 4 [] (tyAgg t),
   pureL 5 [] (a0.eval (.tmp 9)),
   pureL 6 [] (a0.eval (.tmp 3)),
   ⟨7, [0, 1, 2, 3, 4, 5, 6], [7], fun vs w => saysEx m lo (vs.getD 0 undef) w⟩,
   pureL 8 [] (a0.eval (.tmp 0)),
   pureL 9 [] (tyAgg t),
   pureL 10 [] (a0.eval (.tmp 9)),
   pureL 11 [] (a0.eval (.tmp 3)),
   ⟨12, [0, 1, 2, 3, 4, 5, 6, 7, 8, 9, 10, 11], [12], fun vs w => saysEx m lo (vs.getD 0 undef) w⟩,
   ⟨13, [0, 1, 2, 3, 4, 5, 6, 7, 8, 9, 10, 11, 12], [13], fun vs w => saysEx (m + 1) lo (vs.getD 0 undef) w⟩]
theorem ok24 (b m lo : Nat) (t : Bool × Int × Int × Int) (a0 : Act) (hs : a0.tmps.size = 275) : (locOk .any ops24 W24 (Array.replicate 15 false) a0.tmps.size (L24 b m lo t a0) && bare ops24 (L24 b m lo t a0)) = true := by rw [hs]; kernel_rfl
set_option maxRecDepth 100000 in
theorem part24_1 (hlt : b < w.heap.size) : Part Tryz.prog ops24 a0 W24 (C27 b ns t s g (max 1 n) lo w) (But b) (L24 b (max 1 n) lo t a0) ⟨1, [], [1], fun vs w => saysSlice b (ints [14, 15]) 3 2 (vs.getD 0 undef) w⟩ := by
  refine ⟨fun vs u u' hC he ⟨B, h1, h2, h3⟩ => ⟨B, h1, blk_keep h2 h3 he, h3⟩, fun vals u hC hb => ?_⟩
  refine OpOk.value (v := .slice (some ⟨u.heap.size, 0, none⟩) 2 2) (w' := u.alloc (.cells (ints [14, 15]).toArray 3)) (by kernel_rfl) ⟨?_, ?_, ?_⟩
  · exact hC.below hlt ((Below.refl _ _).alloc (Nat.le_refl _) _)
  · exact .of_below ((Below.refl _ _).alloc (Nat.le_refl _) _)
  · exact ⟨u.heap.size, rfl, heap_alloc_new _ _, by have := hC.st.tape.lt; omega⟩
set_option maxRecDepth 100000 in
theorem part24_2 (hlt : b < w.heap.size) (h0 : a0.eval (.tmp 0) = ptr b 0) : Part Tryz.prog ops24 a0 W24 (C27 b ns t s g (max 1 n) lo w) (But b) (L24 b (max 1 n) lo t a0) ⟨2, [0, 1], [2], fun vs _ => saysOf [14, 15] (vs.getD 0 undef)⟩ := by
  refine ⟨fun vs u u' hC he h => h, fun vals u hC hb => ?_⟩
  obtain ⟨k0, ⟨B, e1, hB, hne⟩, _⟩ := hb
  refine OpOk.call (f := 21) [.tmp 141, .tmp 142] (args := [ptr b 0, .slice (some ⟨B, 0, none⟩) 2 2]) (ats := #[23, 22]) (by kernel_rfl) rfl ?_ (enter21 _ _) ?_
  · rw [show [.tmp 141, .tmp 142].map (evalV a0 W24 vals) = [vals 0, vals 1] by kernel_rfl]
    rw [(List.cons.inj k0).1, h0]
    exact congrArg (fun z => [ptr b 0, z]) e1
  · refine (pick_any b B 2 ns [14, 15] u hC.st.tape hne (by simp) (by simp) (fun i x hi => ?_)).mono ?_
    · rw [Lib.cell_of_heap hB, List.getElem?_toArray, ints, List.getElem?_map, hi]; rfl
    · rintro e u' ⟨x, hx, rfl, hT, hB'⟩
      exact ⟨_, rfl, hC.step hlt hT hB', hB', x, hx, rfl⟩
set_option maxRecDepth 100000 in
theorem part24_4 (h5 : a0.eval (.tmp 5) = ptr w.heap.size 0) : Part Tryz.prog ops24 a0 W24 (C27 b ns t s g (max 1 n) lo w) (But b) (L24 b (max 1 n) lo t a0) (pureL 4 [] (tyAgg t)) := by
  refine ⟨fun vs u u' hC he h => h, fun vals u hC hb => ?_⟩
  exact OpOk.loadMid 87 (.tmp 5) (by kernel_rfl) ((by kernel_rfl : evalV a0 W24 vals (.tmp 5) = a0.eval (.tmp 5)).trans h5) [.bool t.1, .int .i64 t.2.1, .int .i64 t.2.2.1, .int .i64 t.2.2.2] (rangeAt_lit (l := [.bool t.1, .int .i64 t.2.1, .int .i64 t.2.2.1, .int .i64 t.2.2.2]) hC.st.ty 0 _ rfl) (by kernel_rfl) (by kernel_rfl) ⟨hC, .refl _ _, rfl⟩
set_option maxRecDepth 100000 in
theorem part24_7 (hlt : b < w.heap.size) (IH : ExprSaid b ns n) (hty : t ∈ fiveTypes) (hn : h ≤ n) (hh : h ≤ 100) (hl : -100 ≤ h) (hr0 : 0 ≤ rules) (hr1 : rules ≤ 10) (h0 : a0.eval (.tmp 0) = ptr b 0) (h9 : a0.eval (.tmp 9) = .int .i64 h) (h3 : a0.eval (.tmp 3) = .int .i64 rules) : Part Tryz.prog ops24 a0 W24 (C27 b ns t s g (max 1 n) lo w) (But b) (L24 b (max 1 n) lo t a0) ⟨7, [0, 1, 2, 3, 4, 5, 6], [7], fun vs w => saysEx (max 1 n) lo (vs.getD 0 undef) w⟩ := by
  refine ⟨fun vs u u' hC he h => saysEx_keep h he (by have := hC.lo_b; omega), fun vals u hC hb => ?_⟩
  obtain ⟨_, _, _, k3, k4, k5, k6, _⟩ := hb
  refine OpOk.call (f := 65) [.tmp 144, .tmp 145, .tmp 146, .tmp 147] (args := [ptr b 0, tyAgg t, .int .i64 h, .int .i64 rules]) (ats := #[23, 87, 3, 3]) (by kernel_rfl) rfl ?_ (enterE _ _) ?_
  · rw [show [.tmp 144, .tmp 145, .tmp 146, .tmp 147].map (evalV a0 W24 vals) = [vals 3, vals 4, vals 5, vals 6] by kernel_rfl]
    rw [(List.cons.inj k3).1, (List.cons.inj k4).1, (List.cons.inj k5).1, (List.cons.inj k6).1, h0, h9, h3]
  · refine (IH t.1 t.2.1 t.2.2.1 t.2.2.2 h rules u hC.st.tape hty hn hh hl hr0 hr1).mono ?_
    rintro e u' ⟨x, cs, hx, hex, rfl, hT, hB⟩
    exact ⟨_, rfl, hC.step hlt hT hB, hB, x, cs, hx, exAt.mono hC.lo_le _ _ hex, rfl⟩
set_option maxRecDepth 100000 in
theorem part24_9 (h5 : a0.eval (.tmp 5) = ptr w.heap.size 0) : Part Tryz.prog ops24 a0 W24 (C27 b ns t s g (max 1 n) lo w) (But b) (L24 b (max 1 n) lo t a0) (pureL 9 [] (tyAgg t)) := by
  refine ⟨fun vs u u' hC he h => h, fun vals u hC hb => ?_⟩
  exact OpOk.loadMid 87 (.tmp 5) (by kernel_rfl) ((by kernel_rfl : evalV a0 W24 vals (.tmp 5) = a0.eval (.tmp 5)).trans h5) [.bool t.1, .int .i64 t.2.1, .int .i64 t.2.2.1, .int .i64 t.2.2.2] (rangeAt_lit (l := [.bool t.1, .int .i64 t.2.1, .int .i64 t.2.2.1, .int .i64 t.2.2.2]) hC.st.ty 0 _ rfl) (by kernel_rfl) (by kernel_rfl) ⟨hC, .refl _ _, rfl⟩
set_option maxRecDepth 100000 in
theorem part24_12 (hlt : b < w.heap.size) (IH : ExprSaid b ns n) (hty : t ∈ fiveTypes) (hn : h ≤ n) (hh : h ≤ 100) (hl : -100 ≤ h) (hr0 : 0 ≤ rules) (hr1 : rules ≤ 10) (h0 : a0.eval (.tmp 0) = ptr b 0) (h9 : a0.eval (.tmp 9) = .int .i64 h) (h3 : a0.eval (.tmp 3) = .int .i64 rules) : Part Tryz.prog ops24 a0 W24 (C27 b ns t s g (max 1 n) lo w) (But b) (L24 b (max 1 n) lo t a0) ⟨12, [0, 1, 2, 3, 4, 5, 6, 7, 8, 9, 10, 11], [12], fun vs w => saysEx (max 1 n) lo (vs.getD 0 undef) w⟩ := by
  refine ⟨fun vs u u' hC he h => saysEx_keep h he (by have := hC.lo_b; omega), fun vals u hC hb => ?_⟩
  obtain ⟨_, _, _, _, _, _, _, _, k8, k9, k10, k11, _⟩ := hb
  refine OpOk.call (f := 65) [.tmp 149, .tmp 150, .tmp 151, .tmp 152] (args := [ptr b 0, tyAgg t, .int .i64 h, .int .i64 rules]) (ats := #[23, 87, 3, 3]) (by kernel_rfl) rfl ?_ (enterE _ _) ?_
  · rw [show [.tmp 149, .tmp 150, .tmp 151, .tmp 152].map (evalV a0 W24 vals) = [vals 8, vals 9, vals 10, vals 11] by kernel_rfl]
    rw [(List.cons.inj k8).1, (List.cons.inj k9).1, (List.cons.inj k10).1, (List.cons.inj k11).1, h0, h9, h3]
  · refine (IH t.1 t.2.1 t.2.2.1 t.2.2.2 h rules u hC.st.tape hty hn hh hl hr0 hr1).mono ?_
    rintro e u' ⟨x, cs, hx, hex, rfl, hT, hB⟩
    exact ⟨_, rfl, hC.step hlt hT hB, hB, x, cs, hx, exAt.mono hC.lo_le _ _ hex, rfl⟩
set_option maxRecDepth 100000 in
theorem part24_13 (hlt : b < w.heap.size) : Part Tryz.prog ops24 a0 W24 (C27 b ns t s g (max 1 n) lo w) (But b) (L24 b (max 1 n) lo t a0) ⟨13, [0, 1, 2, 3, 4, 5, 6, 7, 8, 9, 10, 11, 12], [13], fun vs w => saysEx (max 1 n + 1) lo (vs.getD 0 undef) w⟩ := by
  refine ⟨fun vs u u' hC he h => saysEx_keep h he (by have := hC.lo_b; omega), fun vals u hC hb => ?_⟩
  obtain ⟨_, _, ⟨o, ho, eo⟩, _, _, _, _, ⟨x, cx, hx, hex, ex⟩, _, _, _, _, ⟨y, cy, hy, hey, ey⟩, _⟩ := hb
  refine OpOk.call (f := 92) [.tmp 143, .tmp 148, .tmp 153] (args := [.int .i64 o, .agg cx.toArray, .agg cy.toArray]) (ats := #[3, 91, 91]) (by kernel_rfl) rfl ?_ (enter92 _ _) ?_
  · rw [show [.tmp 143, .tmp 148, .tmp 153].map (evalV a0 W24 vals) = [vals 2, vals 7, vals 12] by kernel_rfl]
    rw [show vals 2 = .int .i64 o from eo, show vals 7 = .agg cx.toArray from ex, show vals 12 = .agg cy.toArray from ey]
  · refine (two_any lo o x y cx cy u hC.lo_le hex hey).mono ?_
    rintro e u' ⟨cs, hcs, rfl, hb'⟩
    exact ⟨_, rfl, hC.below hlt hb', .of_below hb', _, cs, gen_mk (ok_op (by simp only [List.mem_cons, List.not_mem_nil, or_false] at ho; omega) (by simp only [List.mem_cons, List.not_mem_nil, or_false] at ho; omega) (by simp only [List.mem_cons, List.not_mem_nil, or_false] at ho; rcases ho with rfl | rfl <;> rfl)) (show GenAll (max 1 n) [x, y] from ⟨hx, hy, trivial⟩), hcs, rfl⟩
set_option maxRecDepth 100000 in
theorem parts24 (hlt : b < w.heap.size) (IH : ExprSaid b ns n) (hty : t ∈ fiveTypes) (hn : h ≤ n) (hh : h ≤ 100) (hl : -100 ≤ h) (hr0 : 0 ≤ rules) (hr1 : rules ≤ 10) (h0 : a0.eval (.tmp 0) = ptr b 0) (h9 : a0.eval (.tmp 9) = .int .i64 h) (h3 : a0.eval (.tmp 3) = .int .i64 rules) (h5 : a0.eval (.tmp 5) = ptr w.heap.size 0) :
    Parts Tryz.prog ops24 a0 W24 (C27 b ns t s g (max 1 n) lo w) (But b) (L24 b (max 1 n) lo t a0) (L24 b (max 1 n) lo t a0) :=
    ⟨part_pure (But.refl b) (fun _ _ _ _ => by kernel_rfl),
     part24_1 hlt,
     part24_2 hlt h0,
     part_pure (But.refl b) (fun _ _ _ _ => by kernel_rfl),
     part24_4 h5,
     part_pure (But.refl b) (fun _ _ _ _ => by kernel_rfl),
     part_pure (But.refl b) (fun _ _ _ _ => by kernel_rfl),
     part24_7 hlt IH hty hn hh hl hr0 hr1 h0 h9 h3,
     part_pure (But.refl b) (fun _ _ _ _ => by kernel_rfl),
     part24_9 h5,
     part_pure (But.refl b) (fun _ _ _ _ => by kernel_rfl),
     part_pure (But.refl b) (fun _ _ _ _ => by kernel_rfl),
     part24_12 hlt IH hty hn hh hl hr0 hr1 h0 h9 h3,
     part24_13 hlt, trivial⟩
set_option maxHeartbeats 400000 in
set_option maxRecDepth 100000 in
theorem region24 (hlt : b < w.heap.size) (IH : ExprSaid b ns n) (hty : t ∈ fiveTypes) (hn : h ≤ n) (hh : h ≤ 100) (hl : -100 ≤ h) (hr0 : 0 ≤ rules) (hr1 : rules ≤ 10) (hs : a0.tmps.size = 275) (h0 : a0.eval (.tmp 0) = ptr b 0) (h9 : a0.eval (.tmp 9) = .int .i64 h) (h3 : a0.eval (.tmp 3) = .int .i64 rules) (h5 : a0.eval (.tmp 5) = ptr w.heap.size 0) (h8 : a0.eval (.tmp 8) = ptr (w.heap.size + 1) 0)
    {wk : World} (hA : C27 b ns t s g (max 1 n) lo w wk) {Q : Exit → Act → World → Prop}
    (hQ : ∀ a' u x cs, a'.eval (.tmp 8) = ptr (w.heap.size + 1) 0 → a'.defers = a0.defers → C27 b ns t s g (max 1 n) lo w u → GenEx (max 1 n + 1) x → exAt lo u x cs → Q .normal a' (u.setCells (w.heap.size + 1) 0 cs)) :
    (Code.region 24 ops24 true).wp Tryz.prog Q a0 wk := by
  refine wp_region_any (by kernel_rfl) ?_
  have hsz : ops24.size = 15 := by kernel_rfl
  rw [hsz]
  have hd : C27 b ns t s g (max 1 n) lo w { wk with drawn := wk.drawn + 1 } := hA.below hlt (Below.refl _ _).drew
  refine any_parts (fuel := 1) (L := (L24 b (max 1 n) lo t a0)) (W := W24) (C := C27 b ns t s g (max 1 n) lo w) (Ext := But b) (ok24 b (max 1 n) lo t a0 hs) hd (But.refl b) (fun _ _ _ => But.trans)
    (parts24 hlt IH hty hn hh hl hr0 hr1 h0 h9 h3 h5) ?_
  intro vals u hC _ hall
  obtain ⟨_, _, _, _, _, _, _, _, _, _, _, _, _, ⟨x, cs, hx, hex, ecs⟩, _⟩ := hall
  have r1 : Region.ready .any ops24 (((L24 b (max 1 n) lo t a0).map (·.idx)).foldl (fun b i => b.setIfInBounds i true) (Array.replicate 15 false)) = [14] := by kernel_rfl
  have r2 : Region.ready .any ops24 ((((L24 b (max 1 n) lo t a0).map (·.idx)).foldl (fun b i => b.setIfInBounds i true) (Array.replicate 15 false)).setIfInBounds 14 true) = [] := by kernel_rfl
  have e8 : (fin ops24 vals ((L24 b (max 1 n) lo t a0).map (·.idx)) a0).eval (.tmp 8) = ptr (w.heap.size + 1) 0 := (fin_other 8 (by kernel_rfl)).trans h8
  have ev : (fin ops24 vals ((L24 b (max 1 n) lo t a0).map (·.idx)) a0).eval (.tmp 154) = .agg cs.toArray :=
    (fin_own 154 13 (by kernel_rfl) (by rw [hs]; decide)).trans ecs
  have ed := (fin_size ops24 vals ((L24 b (max 1 n) lo t a0).map (·.idx)) a0).2
  generalize fin ops24 vals ((L24 b (max 1 n) lo t a0).map (·.idx)) a0 = aF at *
  generalize ((L24 b (max 1 n) lo t a0).map (·.idx)).foldl (fun b i => b.setIfInBounds i true) (Array.replicate 15 false) = lst at *
  have hop : (ops24.getD 14 default).op = .store 91 (.tmp 8) (.tmp 154) := by kernel_rfl
  have hdst : (ops24.getD 14 default).dst = none := by kernel_rfl
  have hgu : (ops24.getD 14 default).guard = none := by kernel_rfl
  have hat : ops24[14]? = some (ops24.getD 14 default) := by kernel_rfl
  generalize ops24.getD 14 default = oS at *
  refine any_last r1 hat hgu r2 ?_
  have hcs := hex
  obtain ⟨x0, x1, x2, x3, x4, x5, x6, x7, x8, A, kn, kc, rfl⟩ := hcs.cells'
  refine wp_store_mid 91 (.tmp 8) (.tmp 154) hop (w.heap.size + 1) 0 _ e8 ev ?_ (by kernel_rfl) ?_ ?_
  · exact there_of_heap hC.st.res 0 _ (by simp [exZero])
  · simp [Value.oneCell']
  · rw [hdst]
    exact hQ _ u x _ e8 ed hC hx hex
noncomputable def ops30 : Array Oper := regOf Tryz.f65 30
def W30 : Wr := [(187, 0), (188, 1), (189, 2), (190, 3), (191, 4), (192, 5), (193, 6), (194, 7), (195, 8), (196, 9), (197, 10), (198, 11), (199, 12), (200, 13)]
def L30 (b m lo : Nat) (t : Bool × Int × Int × Int) (a0 : Act) : List Loc :=
  [pureL 0 [] (a0.eval (.tmp 0)),
   ⟨1, [], [1], fun vs w => saysSlice b (ints [7, 8]) 3 2 (vs.getD 0 undef) w⟩,
   ⟨2, [0, 1], [2], fun vs _ => saysOf [7, 8] (vs.getD 0 undef)⟩,
   pureL 3 [] (a0.eval (.tmp 0)),
   pureL 4 [] (tyAgg t),
   pureL 5 [] (a0.eval (.tmp 9)),
   pureL 6 [] (a0.eval (.tmp 3)),
   ⟨7, [0, 1, 2, 3, 4, 5, 6], [7], fun vs w => saysEx m lo (vs.getD 0 undef) w⟩,
   pureL 8 [] (a0.eval (.tmp 0)),
   pureL 9 [0, 1, 2, 3, 4, 5, 6, 7] (tyAgg tNumber),
   pureL 10 [] (a0.eval (.tmp 9)),
   pureL 11 [] (a0.eval (.tmp 3)),
   ⟨12, [0, 1, 2, 3, 4, 5, 6, 7, 8, 9, 10, 11], [12], fun vs w => saysEx m lo (vs.getD 0 undef) w⟩,
   ⟨13, [0, 1, 2, 3, 4, 5, 6, 7, 8, 9, 10, 11, 12], [13], fun vs w => saysEx (m + 1) lo (vs.getD 0 undef) w⟩]
theorem ok30 (b m lo : Nat) (t : Bool × Int × Int × Int) (a0 : Act) (hs : a0.tmps.size = 275) : (locOk .any ops30 W30 (Array.replicate 15 false) a0.tmps.size (L30 b m lo t a0) && bare ops30 (L30 b m lo t a0)) = true := by rw [hs]; kernel_rfl
set_option maxRecDepth 100000 in
theorem part30_1 (hlt : b < w.heap.size) : Part Tryz.prog ops30 a0 W30 (C27 b ns t s g (max 1 n) lo w) (But b) (L30 b (max 1 n) lo t a0) ⟨1, [], [1], fun vs w => saysSlice b (ints [7, 8]) 3 2 (vs.getD 0 undef) w⟩ := by
  refine ⟨fun vs u u' hC he ⟨B, h1, h2, h3⟩ => ⟨B, h1, blk_keep h2 h3 he, h3⟩, fun vals u hC hb => ?_⟩
  refine OpOk.value (v := .slice (some ⟨u.heap.size, 0, none⟩) 2 2) (w' := u.alloc (.cells (ints [7, 8]).toArray 3)) (by kernel_rfl) ⟨?_, ?_, ?_⟩
  · exact hC.below hlt ((Below.refl _ _).alloc (Nat.le_refl _) _)
  · exact .of_below ((Below.refl _ _).alloc (Nat.le_refl _) _)
  · exact ⟨u.heap.size, rfl, heap_alloc_new _ _, by have := hC.st.tape.lt; omega⟩
set_option maxRecDepth 100000 in
theorem part30_2 (hlt : b < w.heap.size) (h0 : a0.eval (.tmp 0) = ptr b 0) : Part Tryz.prog ops30 a0 W30 (C27 b ns t s g (max 1 n) lo w) (But b) (L30 b (max 1 n) lo t a0) ⟨2, [0, 1], [2], fun vs _ => saysOf [7, 8] (vs.getD 0 undef)⟩ := by
  refine ⟨fun vs u u' hC he h => h, fun vals u hC hb => ?_⟩
  obtain ⟨k0, ⟨B, e1, hB, hne⟩, _⟩ := hb
  refine OpOk.call (f := 21) [.tmp 187, .tmp 188] (args := [ptr b 0, .slice (some ⟨B, 0, none⟩) 2 2]) (ats := #[23, 22]) (by kernel_rfl) rfl ?_ (enter21 _ _) ?_
  · rw [show [.tmp 187, .tmp 188].map (evalV a0 W30 vals) = [vals 0, vals 1] by kernel_rfl]
    rw [(List.cons.inj k0).1, h0]
    exact congrArg (fun z => [ptr b 0, z]) e1
  · refine (pick_any b B 2 ns [7, 8] u hC.st.tape hne (by simp) (by simp) (fun i x hi => ?_)).mono ?_
    · rw [Lib.cell_of_heap hB, List.getElem?_toArray, ints, List.getElem?_map, hi]; rfl
    · rintro e u' ⟨x, hx, rfl, hT, hB'⟩
      exact ⟨_, rfl, hC.step hlt hT hB', hB', x, hx, rfl⟩
set_option maxRecDepth 100000 in
theorem part30_4 (h5 : a0.eval (.tmp 5) = ptr w.heap.size 0) : Part Tryz.prog ops30 a0 W30 (C27 b ns t s g (max 1 n) lo w) (But b) (L30 b (max 1 n) lo t a0) (pureL 4 [] (tyAgg t)) := by
  refine ⟨fun vs u u' hC he h => h, fun vals u hC hb => ?_⟩
  exact OpOk.loadMid 87 (.tmp 5) (by kernel_rfl) ((by kernel_rfl : evalV a0 W30 vals (.tmp 5) = a0.eval (.tmp 5)).trans h5) [.bool t.1, .int .i64 t.2.1, .int .i64 t.2.2.1, .int .i64 t.2.2.2] (rangeAt_lit (l := [.bool t.1, .int .i64 t.2.1, .int .i64 t.2.2.1, .int .i64 t.2.2.2]) hC.st.ty 0 _ rfl) (by kernel_rfl) (by kernel_rfl) ⟨hC, .refl _ _, rfl⟩
set_option maxRecDepth 100000 in
theorem part30_7 (hlt : b < w.heap.size) (IH : ExprSaid b ns n) (hty : t ∈ fiveTypes) (hn : h ≤ n) (hh : h ≤ 100) (hl : -100 ≤ h) (hr0 : 0 ≤ rules) (hr1 : rules ≤ 10) (h0 : a0.eval (.tmp 0) = ptr b 0) (h9 : a0.eval (.tmp 9) = .int .i64 h) (h3 : a0.eval (.tmp 3) = .int .i64 rules) : Part Tryz.prog ops30 a0 W30 (C27 b ns t s g (max 1 n) lo w) (But b) (L30 b (max 1 n) lo t a0) ⟨7, [0, 1, 2, 3, 4, 5, 6], [7], fun vs w => saysEx (max 1 n) lo (vs.getD 0 undef) w⟩ := by
  refine ⟨fun vs u u' hC he h => saysEx_keep h he (by have := hC.lo_b; omega), fun vals u hC hb => ?_⟩
  obtain ⟨_, _, _, k3, k4, k5, k6, _⟩ := hb
  refine OpOk.call (f := 65) [.tmp 190, .tmp 191, .tmp 192, .tmp 193] (args := [ptr b 0, tyAgg t, .int .i64 h, .int .i64 rules]) (ats := #[23, 87, 3, 3]) (by kernel_rfl) rfl ?_ (enterE _ _) ?_
  · rw [show [.tmp 190, .tmp 191, .tmp 192, .tmp 193].map (evalV a0 W30 vals) = [vals 3, vals 4, vals 5, vals 6] by kernel_rfl]
    rw [(List.cons.inj k3).1, (List.cons.inj k4).1, (List.cons.inj k5).1, (List.cons.inj k6).1, h0, h9, h3]
  · refine (IH t.1 t.2.1 t.2.2.1 t.2.2.2 h rules u hC.st.tape hty hn hh hl hr0 hr1).mono ?_
    rintro e u' ⟨x, cs, hx, hex, rfl, hT, hB⟩
    exact ⟨_, rfl, hC.step hlt hT hB, hB, x, cs, hx, exAt.mono hC.lo_le _ _ hex, rfl⟩
set_option maxRecDepth 100000 in
theorem part30_9 (hlt : b < w.heap.size) : Part Tryz.prog ops30 a0 W30 (C27 b ns t s g (max 1 n) lo w) (But b) (L30 b (max 1 n) lo t a0) (pureL 9 [0, 1, 2, 3, 4, 5, 6, 7] (tyAgg tNumber)) := by
  refine ⟨fun vs u u' hC he h => h, fun vals u hC hb => ?_⟩
  refine OpOk.call (f := 64) [] (args := []) (ats := #[]) (by kernel_rfl) rfl rfl (enter64 _ _) ?_
  refine (number_ty u).mono ?_
  rintro e u' ⟨rfl, hb'⟩
  exact ⟨_, rfl, hC.below hlt hb', .of_below hb', rfl⟩
set_option maxRecDepth 100000 in
theorem part30_12 (hlt : b < w.heap.size) (IH : ExprSaid b ns n) (hn : h ≤ n) (hh : h ≤ 100) (hl : -100 ≤ h) (hr0 : 0 ≤ rules) (hr1 : rules ≤ 10) (h0 : a0.eval (.tmp 0) = ptr b 0) (h9 : a0.eval (.tmp 9) = .int .i64 h) (h3 : a0.eval (.tmp 3) = .int .i64 rules) : Part Tryz.prog ops30 a0 W30 (C27 b ns t s g (max 1 n) lo w) (But b) (L30 b (max 1 n) lo t a0) ⟨12, [0, 1, 2, 3, 4, 5, 6, 7, 8, 9, 10, 11], [12], fun vs w => saysEx (max 1 n) lo (vs.getD 0 undef) w⟩ := by
  refine ⟨fun vs u u' hC he h => saysEx_keep h he (by have := hC.lo_b; omega), fun vals u hC hb => ?_⟩
  obtain ⟨_, _, _, _, _, _, _, _, k8, k9, k10, k11, _⟩ := hb
  refine OpOk.call (f := 65) [.tmp 195, .tmp 196, .tmp 197, .tmp 198] (args := [ptr b 0, tyAgg tNumber, .int .i64 h, .int .i64 rules]) (ats := #[23, 87, 3, 3]) (by kernel_rfl) rfl ?_ (enterE _ _) ?_
  · rw [show [.tmp 195, .tmp 196, .tmp 197, .tmp 198].map (evalV a0 W30 vals) = [vals 8, vals 9, vals 10, vals 11] by kernel_rfl]
    rw [(List.cons.inj k8).1, (List.cons.inj k9).1, (List.cons.inj k10).1, (List.cons.inj k11).1, h0, h9, h3]
  · refine (IH tNumber.1 tNumber.2.1 tNumber.2.2.1 tNumber.2.2.2 h rules u hC.st.tape mem_number hn hh hl hr0 hr1).mono ?_
    rintro e u' ⟨x, cs, hx, hex, rfl, hT, hB⟩
    exact ⟨_, rfl, hC.step hlt hT hB, hB, x, cs, hx, exAt.mono hC.lo_le _ _ hex, rfl⟩
set_option maxRecDepth 100000 in
theorem part30_13 (hlt : b < w.heap.size) : Part Tryz.prog ops30 a0 W30 (C27 b ns t s g (max 1 n) lo w) (But b) (L30 b (max 1 n) lo t a0) ⟨13, [0, 1, 2, 3, 4, 5, 6, 7, 8, 9, 10, 11, 12], [13], fun vs w => saysEx (max 1 n + 1) lo (vs.getD 0 undef) w⟩ := by
  refine ⟨fun vs u u' hC he h => saysEx_keep h he (by have := hC.lo_b; omega), fun vals u hC hb => ?_⟩
  obtain ⟨_, _, ⟨o, ho, eo⟩, _, _, _, _, ⟨x, cx, hx, hex, ex⟩, _, _, _, _, ⟨y, cy, hy, hey, ey⟩, _⟩ := hb
  refine OpOk.call (f := 92) [.tmp 189, .tmp 194, .tmp 199] (args := [.int .i64 o, .agg cx.toArray, .agg cy.toArray]) (ats := #[3, 91, 91]) (by kernel_rfl) rfl ?_ (enter92 _ _) ?_
  · rw [show [.tmp 189, .tmp 194, .tmp 199].map (evalV a0 W30 vals) = [vals 2, vals 7, vals 12] by kernel_rfl]
    rw [show vals 2 = .int .i64 o from eo, show vals 7 = .agg cx.toArray from ex, show vals 12 = .agg cy.toArray from ey]
  · refine (two_any lo o x y cx cy u hC.lo_le hex hey).mono ?_
    rintro e u' ⟨cs, hcs, rfl, hb'⟩
    exact ⟨_, rfl, hC.below hlt hb', .of_below hb', _, cs, gen_mk (ok_op (by simp only [List.mem_cons, List.not_mem_nil, or_false] at ho; omega) (by simp only [List.mem_cons, List.not_mem_nil, or_false] at ho; omega) (by simp only [List.mem_cons, List.not_mem_nil, or_false] at ho; rcases ho with rfl | rfl <;> rfl)) (show GenAll (max 1 n) [x, y] from ⟨hx, hy, trivial⟩), hcs, rfl⟩
set_option maxRecDepth 100000 in
theorem parts30 (hlt : b < w.heap.size) (IH : ExprSaid b ns n) (hty : t ∈ fiveTypes) (hn : h ≤ n) (hh : h ≤ 100) (hl : -100 ≤ h) (hr0 : 0 ≤ rules) (hr1 : rules ≤ 10) (h0 : a0.eval (.tmp 0) = ptr b 0) (h9 : a0.eval (.tmp 9) = .int .i64 h) (h3 : a0.eval (.tmp 3) = .int .i64 rules) (h5 : a0.eval (.tmp 5) = ptr w.heap.size 0) :
    Parts Tryz.prog ops30 a0 W30 (C27 b ns t s g (max 1 n) lo w) (But b) (L30 b (max 1 n) lo t a0) (L30 b (max 1 n) lo t a0) :=
    ⟨part_pure (But.refl b) (fun _ _ _ _ => by kernel_rfl),
     part30_1 hlt,
     part30_2 hlt h0,
     part_pure (But.refl b) (fun _ _ _ _ => by kernel_rfl),
     part30_4 h5,
     part_pure (But.refl b) (fun _ _ _ _ => by kernel_rfl),
     part_pure (But.refl b) (fun _ _ _ _ => by kernel_rfl),
     part30_7 hlt IH hty hn hh hl hr0 hr1 h0 h9 h3,
     part_pure (But.refl b) (fun _ _ _ _ => by kernel_rfl),
     part30_9 hlt,
     part_pure (But.refl b) (fun _ _ _ _ => by kernel_rfl),
     part_pure (But.refl b) (fun _ _ _ _ => by kernel_rfl),
     part30_12 hlt IH hn hh hl hr0 hr1 h0 h9 h3,
     part30_13 hlt, trivial⟩
set_option maxHeartbeats 400000 in
set_option maxRecDepth 100000 in
theorem region30 (hlt : b < w.heap.size) (IH : ExprSaid b ns n) (hty : t ∈ fiveTypes) (hn : h ≤ n) (hh : h ≤ 100) (hl : -100 ≤ h) (hr0 : 0 ≤ rules) (hr1 : rules ≤ 10) (hs : a0.tmps.size = 275) (h0 : a0.eval (.tmp 0) = ptr b 0) (h9 : a0.eval (.tmp 9) = .int .i64 h) (h3 : a0.eval (.tmp 3) = .int .i64 rules) (h5 : a0.eval (.tmp 5) = ptr w.heap.size 0) (h8 : a0.eval (.tmp 8) = ptr (w.heap.size + 1) 0)
    {wk : World} (hA : C27 b ns t s g (max 1 n) lo w wk) {Q : Exit → Act → World → Prop}
    (hQ : ∀ a' u x cs, a'.eval (.tmp 8) = ptr (w.heap.size + 1) 0 → a'.defers = a0.defers → C27 b ns t s g (max 1 n) lo w u → GenEx (max 1 n + 1) x → exAt lo u x cs → Q .normal a' (u.setCells (w.heap.size + 1) 0 cs)) :
    (Code.region 30 ops30 true).wp Tryz.prog Q a0 wk := by
  refine wp_region_any (by kernel_rfl) ?_
  have hsz : ops30.size = 15 := by kernel_rfl
  rw [hsz]
  have hd : C27 b ns t s g (max 1 n) lo w { wk with drawn := wk.drawn + 1 } := hA.below hlt (Below.refl _ _).drew
  refine any_parts (fuel := 1) (L := (L30 b (max 1 n) lo t a0)) (W := W30) (C := C27 b ns t s g (max 1 n) lo w) (Ext := But b) (ok30 b (max 1 n) lo t a0 hs) hd (But.refl b) (fun _ _ _ => But.trans)
    (parts30 hlt IH hty hn hh hl hr0 hr1 h0 h9 h3 h5) ?_
  intro vals u hC _ hall
  obtain ⟨_, _, _, _, _, _, _, _, _, _, _, _, _, ⟨x, cs, hx, hex, ecs⟩, _⟩ := hall
  have r1 : Region.ready .any ops30 (((L30 b (max 1 n) lo t a0).map (·.idx)).foldl (fun b i => b.setIfInBounds i true) (Array.replicate 15 false)) = [14] := by kernel_rfl
  have r2 : Region.ready .any ops30 ((((L30 b (max 1 n) lo t a0).map (·.idx)).foldl (fun b i => b.setIfInBounds i true) (Array.replicate 15 false)).setIfInBounds 14 true) = [] := by kernel_rfl
  have e8 : (fin ops30 vals ((L30 b (max 1 n) lo t a0).map (·.idx)) a0).eval (.tmp 8) = ptr (w.heap.size + 1) 0 := (fin_other 8 (by kernel_rfl)).trans h8
  have ev : (fin ops30 vals ((L30 b (max 1 n) lo t a0).map (·.idx)) a0).eval (.tmp 200) = .agg cs.toArray :=
    (fin_own 200 13 (by kernel_rfl) (by rw [hs]; decide)).trans ecs
  have ed := (fin_size ops30 vals ((L30 b (max 1 n) lo t a0).map (·.idx)) a0).2
  generalize fin ops30 vals ((L30 b (max 1 n) lo t a0).map (·.idx)) a0 = aF at *
  generalize ((L30 b (max 1 n) lo t a0).map (·.idx)).foldl (fun b i => b.setIfInBounds i true) (Array.replicate 15 false) = lst at *
  have hop : (ops30.getD 14 default).op = .store 91 (.tmp 8) (.tmp 200) := by kernel_rfl
  have hdst : (ops30.getD 14 default).dst = none := by kernel_rfl
  have hgu : (ops30.getD 14 default).guard = none := by kernel_rfl
  have hat : ops30[14]? = some (ops30.getD 14 default) := by kernel_rfl
  generalize ops30.getD 14 default = oS at *
  refine any_last r1 hat hgu r2 ?_
  have hcs := hex
  obtain ⟨x0, x1, x2, x3, x4, x5, x6, x7, x8, A, kn, kc, rfl⟩ := hcs.cells'
  refine wp_store_mid 91 (.tmp 8) (.tmp 200) hop (w.heap.size + 1) 0 _ e8 ev ?_ (by kernel_rfl) ?_ ?_
  · exact there_of_heap hC.st.res 0 _ (by simp [exZero])
  · simp [Value.oneCell']
  · rw [hdst]
    exact hQ _ u x _ e8 ed hC hx hex
noncomputable def ops41 : Array Oper := regOf Tryz.f65 41
def W41 : Wr := [(253, 0), (254, 1), (255, 2), (256, 3), (257, 4), (258, 5), (259, 6), (260, 7), (261, 8), (262, 9), (263, 10)]
def L41 (_b m lo : Nat) (s : Bool × Int × Int × Int) (a0 : Act) : List Loc :=
  [pureL 0 [] (a0.eval (.tmp 0)),
   pureL 1 [] (tyAgg s),
   pureL 2 [] (a0.eval (.tmp 9)),
   pureL 3 [] (a0.eval (.tmp 3)),
   ⟨4, [0, 1, 2, 3], [4], fun vs w => saysEx m lo (vs.getD 0 undef) w⟩,
   pureL 5 [] (a0.eval (.tmp 0)),
   pureL 6 [] (tyAgg s),
   pureL 7 [] (a0.eval (.tmp 9)),
   pureL 8 [] (a0.eval (.tmp 3)),
   ⟨9, [0, 1, 2, 3, 4, 5, 6, 7, 8], [9], fun vs w => saysEx m lo (vs.getD 0 undef) w⟩,
   ⟨10, [0, 1, 2, 3, 4, 5, 6, 7, 8, 9], [10], fun vs w => saysEx (m + 1) lo (vs.getD 0 undef) w⟩]
theorem ok41 (b m lo : Nat) (s : Bool × Int × Int × Int) (a0 : Act) (hs : a0.tmps.size = 275) : (locOk .any ops41 W41 (Array.replicate 12 false) a0.tmps.size (L41 b m lo s a0) && bare ops41 (L41 b m lo s a0)) = true := by rw [hs]; kernel_rfl
set_option maxRecDepth 100000 in
theorem part41_1 (h5 : a0.eval (.tmp 10) = ptr g 0) : Part Tryz.prog ops41 a0 W41 (C27 b ns t s g (max 1 n) lo w) (But b) (L41 b (max 1 n) lo s a0) (pureL 1 [] (tyAgg s)) := by
  refine ⟨fun vs u u' hC he h => h, fun vals u hC hb => ?_⟩
  exact OpOk.loadMid 87 (.tmp 10) (by kernel_rfl) ((by kernel_rfl : evalV a0 W41 vals (.tmp 10) = a0.eval (.tmp 10)).trans h5) [.bool s.1, .int .i64 s.2.1, .int .i64 s.2.2.1, .int .i64 s.2.2.2] (rangeAt_lit (l := [.bool s.1, .int .i64 s.2.1, .int .i64 s.2.2.1, .int .i64 s.2.2.2]) hC.some 0 _ rfl) (by kernel_rfl) (by kernel_rfl) ⟨hC, .refl _ _, rfl⟩
set_option maxRecDepth 100000 in
theorem part41_4 (hlt : b < w.heap.size) (IH : ExprSaid b ns n) (hty : s ∈ fiveTypes) (hn : h ≤ n) (hh : h ≤ 100) (hl : -100 ≤ h) (hr0 : 0 ≤ rules) (hr1 : rules ≤ 10) (h0 : a0.eval (.tmp 0) = ptr b 0) (h9 : a0.eval (.tmp 9) = .int .i64 h) (h3 : a0.eval (.tmp 3) = .int .i64 rules) : Part Tryz.prog ops41 a0 W41 (C27 b ns t s g (max 1 n) lo w) (But b) (L41 b (max 1 n) lo s a0) ⟨4, [0, 1, 2, 3], [4], fun vs w => saysEx (max 1 n) lo (vs.getD 0 undef) w⟩ := by
  refine ⟨fun vs u u' hC he h => saysEx_keep h he (by have := hC.lo_b; omega), fun vals u hC hb => ?_⟩
  obtain ⟨k0, k1, k2, k3, _⟩ := hb
  refine OpOk.call (f := 65) [.tmp 253, .tmp 254, .tmp 255, .tmp 256] (args := [ptr b 0, tyAgg s, .int .i64 h, .int .i64 rules]) (ats := #[23, 87, 3, 3]) (by kernel_rfl) rfl ?_ (enterE _ _) ?_
  · rw [show [.tmp 253, .tmp 254, .tmp 255, .tmp 256].map (evalV a0 W41 vals) = [vals 0, vals 1, vals 2, vals 3] by kernel_rfl]
    rw [(List.cons.inj k0).1, (List.cons.inj k1).1, (List.cons.inj k2).1, (List.cons.inj k3).1, h0, h9, h3]
  · refine (IH s.1 s.2.1 s.2.2.1 s.2.2.2 h rules u hC.st.tape hty hn hh hl hr0 hr1).mono ?_
    rintro e u' ⟨x, cs, hx, hex, rfl, hT, hB⟩
    exact ⟨_, rfl, hC.step hlt hT hB, hB, x, cs, hx, exAt.mono hC.lo_le _ _ hex, rfl⟩
set_option maxRecDepth 100000 in
theorem part41_6 (h5 : a0.eval (.tmp 10) = ptr g 0) : Part Tryz.prog ops41 a0 W41 (C27 b ns t s g (max 1 n) lo w) (But b) (L41 b (max 1 n) lo s a0) (pureL 6 [] (tyAgg s)) := by
  refine ⟨fun vs u u' hC he h => h, fun vals u hC hb => ?_⟩
  exact OpOk.loadMid 87 (.tmp 10) (by kernel_rfl) ((by kernel_rfl : evalV a0 W41 vals (.tmp 10) = a0.eval (.tmp 10)).trans h5) [.bool s.1, .int .i64 s.2.1, .int .i64 s.2.2.1, .int .i64 s.2.2.2] (rangeAt_lit (l := [.bool s.1, .int .i64 s.2.1, .int .i64 s.2.2.1, .int .i64 s.2.2.2]) hC.some 0 _ rfl) (by kernel_rfl) (by kernel_rfl) ⟨hC, .refl _ _, rfl⟩
set_option maxRecDepth 100000 in
theorem part41_9 (hlt : b < w.heap.size) (IH : ExprSaid b ns n) (hty : s ∈ fiveTypes) (hn : h ≤ n) (hh : h ≤ 100) (hl : -100 ≤ h) (hr0 : 0 ≤ rules) (hr1 : rules ≤ 10) (h0 : a0.eval (.tmp 0) = ptr b 0) (h9 : a0.eval (.tmp 9) = .int .i64 h) (h3 : a0.eval (.tmp 3) = .int .i64 rules) : Part Tryz.prog ops41 a0 W41 (C27 b ns t s g (max 1 n) lo w) (But b) (L41 b (max 1 n) lo s a0) ⟨9, [0, 1, 2, 3, 4, 5, 6, 7, 8], [9], fun vs w => saysEx (max 1 n) lo (vs.getD 0 undef) w⟩ := by
  refine ⟨fun vs u u' hC he h => saysEx_keep h he (by have := hC.lo_b; omega), fun vals u hC hb => ?_⟩
  obtain ⟨_, _, _, _, _, k5, k6, k7, k8, _⟩ := hb
  refine OpOk.call (f := 65) [.tmp 258, .tmp 259, .tmp 260, .tmp 261] (args := [ptr b 0, tyAgg s, .int .i64 h, .int .i64 rules]) (ats := #[23, 87, 3, 3]) (by kernel_rfl) rfl ?_ (enterE _ _) ?_
  · rw [show [.tmp 258, .tmp 259, .tmp 260, .tmp 261].map (evalV a0 W41 vals) = [vals 5, vals 6, vals 7, vals 8] by kernel_rfl]
    rw [(List.cons.inj k5).1, (List.cons.inj k6).1, (List.cons.inj k7).1, (List.cons.inj k8).1, h0, h9, h3]
  · refine (IH s.1 s.2.1 s.2.2.1 s.2.2.2 h rules u hC.st.tape hty hn hh hl hr0 hr1).mono ?_
    rintro e u' ⟨x, cs, hx, hex, rfl, hT, hB⟩
    exact ⟨_, rfl, hC.step hlt hT hB, hB, x, cs, hx, exAt.mono hC.lo_le _ _ hex, rfl⟩
set_option maxRecDepth 100000 in
theorem part41_10 (hlt : b < w.heap.size) : Part Tryz.prog ops41 a0 W41 (C27 b ns t s g (max 1 n) lo w) (But b) (L41 b (max 1 n) lo s a0) ⟨10, [0, 1, 2, 3, 4, 5, 6, 7, 8, 9], [10], fun vs w => saysEx (max 1 n + 1) lo (vs.getD 0 undef) w⟩ := by
  refine ⟨fun vs u u' hC he h => saysEx_keep h he (by have := hC.lo_b; omega), fun vals u hC hb => ?_⟩
  obtain ⟨_, _, _, _, ⟨x, cx, hx, hex, ex⟩, _, _, _, _, ⟨y, cy, hy, hey, ey⟩, _⟩ := hb
  refine OpOk.call (f := 92) [.const (.int .i64 8), .tmp 257, .tmp 262] (args := [.int .i64 8, .agg cx.toArray, .agg cy.toArray]) (ats := #[3, 91, 91]) (by kernel_rfl) rfl ?_ (enter92 _ _) ?_
  · rw [show [.const (.int .i64 8), .tmp 257, .tmp 262].map (evalV a0 W41 vals) = [.int .i64 8, vals 4, vals 9] by kernel_rfl]
    rw [show vals 4 = .agg cx.toArray from ex, show vals 9 = .agg cy.toArray from ey]
  · refine (two_any lo 8 x y cx cy u hC.lo_le hex hey).mono ?_
    rintro e u' ⟨cs, hcs, rfl, hb'⟩
    exact ⟨_, rfl, hC.below hlt hb', .of_below hb', _, cs, gen_mk (ok_op (op := 8) (by decide) (by decide) rfl) (show GenAll (max 1 n) [x, y] from ⟨hx, hy, trivial⟩), hcs, rfl⟩
set_option maxRecDepth 100000 in
theorem parts41 (hlt : b < w.heap.size) (IH : ExprSaid b ns n) (hty : s ∈ fiveTypes) (hn : h ≤ n) (hh : h ≤ 100) (hl : -100 ≤ h) (hr0 : 0 ≤ rules) (hr1 : rules ≤ 10) (h0 : a0.eval (.tmp 0) = ptr b 0) (h9 : a0.eval (.tmp 9) = .int .i64 h) (h3 : a0.eval (.tmp 3) = .int .i64 rules) (h5 : a0.eval (.tmp 10) = ptr g 0) :
    Parts Tryz.prog ops41 a0 W41 (C27 b ns t s g (max 1 n) lo w) (But b) (L41 b (max 1 n) lo s a0) (L41 b (max 1 n) lo s a0) :=
    ⟨part_pure (But.refl b) (fun _ _ _ _ => by kernel_rfl),
     part41_1 h5,
     part_pure (But.refl b) (fun _ _ _ _ => by kernel_rfl),
     part_pure (But.refl b) (fun _ _ _ _ => by kernel_rfl),
     part41_4 hlt IH hty hn hh hl hr0 hr1 h0 h9 h3,
     part_pure (But.refl b) (fun _ _ _ _ => by kernel_rfl),
     part41_6 h5,
     part_pure (But.refl b) (fun _ _ _ _ => by kernel_rfl),
     part_pure (But.refl b) (fun _ _ _ _ => by kernel_rfl),
     part41_9 hlt IH hty hn hh hl hr0 hr1 h0 h9 h3,
     part41_10 hlt, trivial⟩
set_option maxHeartbeats 400000 in
set_option maxRecDepth 100000 in
theorem region41 (hlt : b < w.heap.size) (IH : ExprSaid b ns n) (hty : s ∈ fiveTypes) (hn : h ≤ n) (hh : h ≤ 100) (hl : -100 ≤ h) (hr0 : 0 ≤ rules) (hr1 : rules ≤ 10) (hs : a0.tmps.size = 275) (h0 : a0.eval (.tmp 0) = ptr b 0) (h9 : a0.eval (.tmp 9) = .int .i64 h) (h3 : a0.eval (.tmp 3) = .int .i64 rules) (h5 : a0.eval (.tmp 10) = ptr g 0) (h8 : a0.eval (.tmp 8) = ptr (w.heap.size + 1) 0)
    {wk : World} (hA : C27 b ns t s g (max 1 n) lo w wk) {Q : Exit → Act → World → Prop}
    (hQ : ∀ a' u x cs, a'.eval (.tmp 8) = ptr (w.heap.size + 1) 0 → a'.defers = a0.defers → C27 b ns t s g (max 1 n) lo w u → GenEx (max 1 n + 1) x → exAt lo u x cs → Q .normal a' (u.setCells (w.heap.size + 1) 0 cs)) :
    (Code.region 41 ops41 true).wp Tryz.prog Q a0 wk := by
  refine wp_region_any (by kernel_rfl) ?_
  have hsz : ops41.size = 12 := by kernel_rfl
  rw [hsz]
  have hd : C27 b ns t s g (max 1 n) lo w { wk with drawn := wk.drawn + 1 } := hA.below hlt (Below.refl _ _).drew
  refine any_parts (fuel := 1) (L := (L41 b (max 1 n) lo s a0)) (W := W41) (C := C27 b ns t s g (max 1 n) lo w) (Ext := But b) (ok41 b (max 1 n) lo s a0 hs) hd (But.refl b) (fun _ _ _ => But.trans)
    (parts41 hlt IH hty hn hh hl hr0 hr1 h0 h9 h3 h5) ?_
  intro vals u hC _ hall
  obtain ⟨_, _, _, _, _, _, _, _, _, _, ⟨x, cs, hx, hex, ecs⟩, _⟩ := hall
  have r1 : Region.ready .any ops41 (((L41 b (max 1 n) lo s a0).map (·.idx)).foldl (fun b i => b.setIfInBounds i true) (Array.replicate 12 false)) = [11] := by kernel_rfl
  have r2 : Region.ready .any ops41 ((((L41 b (max 1 n) lo s a0).map (·.idx)).foldl (fun b i => b.setIfInBounds i true) (Array.replicate 12 false)).setIfInBounds 11 true) = [] := by kernel_rfl
  have e8 : (fin ops41 vals ((L41 b (max 1 n) lo s a0).map (·.idx)) a0).eval (.tmp 8) = ptr (w.heap.size + 1) 0 := (fin_other 8 (by kernel_rfl)).trans h8
  have ev : (fin ops41 vals ((L41 b (max 1 n) lo s a0).map (·.idx)) a0).eval (.tmp 263) = .agg cs.toArray :=
    (fin_own 263 10 (by kernel_rfl) (by rw [hs]; decide)).trans ecs
  have ed := (fin_size ops41 vals ((L41 b (max 1 n) lo s a0).map (·.idx)) a0).2
  generalize fin ops41 vals ((L41 b (max 1 n) lo s a0).map (·.idx)) a0 = aF at *
  generalize ((L41 b (max 1 n) lo s a0).map (·.idx)).foldl (fun b i => b.setIfInBounds i true) (Array.replicate 12 false) = lst at *
  have hop : (ops41.getD 11 default).op = .store 91 (.tmp 8) (.tmp 263) := by kernel_rfl
  have hdst : (ops41.getD 11 default).dst = none := by kernel_rfl
  have hgu : (ops41.getD 11 default).guard = none := by kernel_rfl
  have hat : ops41[11]? = some (ops41.getD 11 default) := by kernel_rfl
  generalize ops41.getD 11 default = oS at *
  refine any_last r1 hat hgu r2 ?_
  have hcs := hex
  obtain ⟨x0, x1, x2, x3, x4, x5, x6, x7, x8, A, kn, kc, rfl⟩ := hcs.cells'
  refine wp_store_mid 91 (.tmp 8) (.tmp 263) hop (w.heap.size + 1) 0 _ e8 ev ?_ (by kernel_rfl) ?_ ?_
  · exact there_of_heap hC.st.res 0 _ (by simp [exZero])
  · simp [Value.oneCell']
  · rw [hdst]
    exact hQ _ u x _ e8 ed hC hx hex
end
end Go.Proofs.YtpdbkbadjgellaaGreatDoor

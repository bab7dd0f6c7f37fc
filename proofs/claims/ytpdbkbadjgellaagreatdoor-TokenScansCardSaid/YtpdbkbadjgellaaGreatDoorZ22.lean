/-
  An append to a row of the call's own, with where the row lies afterwards.
  payrollgen's Expr: the region of the rounding.
-/
import Derived.Test.YtpdbkbadjgellaaGreatDoorZ15
import Derived.Laws.Append
import Derived.OwnWalk
import Derived.Test.YtpdbkbadjgellaaGreatDoorZ09
namespace Go.Proofs.YtpdbkbadjgellaaGreatDoor

theorem append_where {P : Program} {w : World} (base : Nat) (t ty e : TypeId) (i : TypeInfo) (z : Value) (size bytes : Nat) (ht : P.underlying t = some (.slice e)) (hi : P.info? e = some i) (hz : i.zero = some z)
    (hsize : i.size = size) (hby : i.bytes = bytes) (v : Value) (n : Nat) (xs : List Value) (hown : w.ownsRow base e size v n xs)
    (a : Addr) (m c : Nat) (news : List Value) (hl : news.length = m * size) (hnews : ∀ j u, news[j]? = some u → w.cell? (a.add j) = some u) (h1 : ∀ u ∈ news, u.oneCell' = true) (hm : 0 < m)
    (h63 : n + m ≤ maxLen) (hbytes : (n + m) * bytes ≤ 140737488355328) {v' : Value} {w' : World} (hr : (Builtin.append_ #[t, t] ty #[v, .slice (some a) m c]).run P w = .ok v' w') :
    ∀ g, v'.ownBlock = some g → v.ownBlock = some g ∨ w.heap.size ≤ g := by
  subst hsize
  subst hby
  have hsmall : n + m ≤ 9223372036854775807 := by simp only [maxLen] at h63; omega
  rcases hown.2 with ⟨rfl, rfl⟩ | ⟨g, cap, cur, rfl, hbg, hg, hnc, hcm, hcs, htake⟩
  · have hr2 := run_append_nil (P := P) w t ty e i z ht hi hz a m c news hl hnews hm (by omega) (by have hb := hbytes; simp only [Nat.zero_add] at hb; omega)
    rw [hr] at hr2
    injection hr2 with e1 e2
    intro k hk
    rw [e1] at hk
    simp [Value.ownBlock] at hk
    right; omega
  · by_cases hroom : n + m ≤ cap
    · have hfit : n * i.size + news.length ≤ cur.size := by rw [hl, hcs, ← Nat.add_mul]; exact Nat.mul_le_mul_right _ hroom
      have hr2 := run_append_room (P := P) w t ty e i ht hi g n cap cur hg a m c news hl hnews h1 hroom hfit
      rw [hr] at hr2
      injection hr2 with e1 e2
      intro k hk
      rw [e1] at hk
      left
      simpa [Value.ownBlock] using hk
    · have holds : ∀ j u, xs[j]? = some u → w.cell? ((⟨g, 0, none⟩ : Addr).add j) = some u := hown.cells (g := g) rfl
      have hr2 := run_append_grow (P := P) w t ty e i z ht hi hz ⟨g, 0, none⟩ n cap xs hown.1 holds a m c news hl hnews (by omega) (by omega) (growslice_fits (by omega) hbytes)
      rw [hr] at hr2
      injection hr2 with e1 e2
      intro k hk
      rw [e1] at hk
      simp [Value.ownBlock] at hk
      right; omega
theorem wp_append {P : Program} {w : World} {o : Oper} {a : Act} {K : Act → World → Prop} {Q : Exit → Act → World → Prop} (s x : Operand) (t : TypeId)
    (ho : o.op = .call { callee := .builtin .append, args := #[s, x], argTypes := #[t, t] })
    (base : Nat) (e : TypeId) {z : Value} {size bytes : Nat} (ht : P.underlying t = some (.slice e)) (hinfo : (P.info? e).map (fun i => (i.zero, i.size, i.bytes)) = some (some z, size, bytes)) (hzs : z.cells.size = size) (hsz : 0 < size)
    (v : Value) (n : Nat) (xs : List Value) (hs : a.eval s = v) (hown : w.ownsRow base e size v n xs)
    (ad : Addr) (m c : Nat) (news : List Value) (hx : a.eval x = .slice (some ad) m c) (hl : news.length = m * size) (hnews : ∀ j u, news[j]? = some u → w.cell? (ad.add j) = some u) (h1 : ∀ u ∈ news, u.oneCell' = true) (hm : 0 < m)
    (h63 : n + m ≤ maxLen) (hbytes : (n + m) * bytes ≤ 140737488355328) (hbase : base ≤ w.heap.size)
    (h : ∀ v' w', w'.ownsRow base e size v' (n + m) (xs ++ news) → w.grownBy w' v.ownBlock → (∀ g, v'.ownBlock = some g → v.ownBlock = some g ∨ w.heap.size ≤ g) → K (a.put o.dst v') w') : o.wp P a w K Q := by
  obtain ⟨i, hi, hz, hsize, hby⟩ := info_parts hinfo
  obtain ⟨v', w', hr, h2, h3, h4⟩ := run_append_own (P := P) w base t o.type e i z size bytes ht hi hz hsize hby hzs hsz v n xs hown ad m c news hl hnews h1 h63 hbytes hbase
  have hw := append_where base t o.type e i z size bytes ht hi hz hsize hby v n xs hown ad m c news hl hnews h1 hm h63 hbytes hr
  unfold Oper.wp execOp
  simp only [ho, resolve, invoke, builtin, Sem.run_bind, Sem.run_pure, Result.andThen_ok, List.map_toArray, List.map_cons, List.map_nil, hs, hx, hr]
  exact h v' w' h2 h3 hw
end Go.Proofs.YtpdbkbadjgellaaGreatDoor

namespace Go.Proofs.YtpdbkbadjgellaaGreatDoor
open Go.RowKit

def rat (a b : Int) : Value := .agg #[.int .i64 a, .int .i64 b]
def ptr (b o : Nat) : Value := .pointer (some ⟨b, o, none⟩)
def ints (l : List Int) : List Value := l.map (Value.int .i64)
noncomputable def ops26 : Array Oper := regOf Tryz.f65 26
def W26 : Wr := [(157, 0), (158, 1), (159, 2), (160, 3), (161, 4), (162, 5), (163, 6), (164, 7), (165, 8), (166, 9), (167, 10), (168, 11), (169, 12), (170, 13), (171, 14), (172, 15), (173, 16), (174, 17), (175, 18)]
/-- A block that later worlds keep. -/
theorem blk_keep {b B : Nat} {w w' : World} {o : Obj} (h : w.heap[B]? = some o) (hb : B ≠ b) (he : But b w w') : w'.heap[B]? = some o := (he.block _ (heap_lt h) hb).trans h
def steps3 : List (Int × Int) := [(1, 1), (1, 100), (1, 4)]
def saysSlice (b : Nat) (C : List Value) (T : TypeId) (n : Nat) (v : Value) (w : World) : Prop := ∃ B, v = .slice (some ⟨B, 0, none⟩) n n ∧ w.heap[B]? = some (.cells C.toArray T (0, 0)) ∧ B ≠ b
def saysBelow (n : Nat) (v : Value) : Prop := ∃ k : Nat, k < n ∧ v = .int .i64 k
def saysEx (m lo : Nat) (v : Value) (w : World) : Prop := ∃ x cs, GenEx m x ∧ exAt lo w x cs ∧ v = .agg cs.toArray
def saysKid (m lo : Nat) (v : Value) (w : World) : Prop := ∃ x cs B, GenEx m x ∧ exAt lo w x cs ∧ lo ≤ B ∧ v = .slice (some ⟨B, 0, none⟩) 1 1 ∧ w.heap[B]? = some (.cells cs.toArray 91 (0, 0))
def saysPtr3 (b : Nat) (v : Value) (w : World) : Prop := ∃ B k : Nat, k < 3 ∧ v = ptr B (k * 2) ∧ w.heap[B]? = some (.cells (ints [1, 1, 1, 100, 1, 4]).toArray 33 (0, 0)) ∧ B ≠ b
def saysStep (v : Value) : Prop := ∃ x, x ∈ steps3 ∧ v = rat x.1 x.2
def L26 (b m lo tyB : Nat) (tm th td : Int) (a0 : Act) : List Loc :=
  [pureL 0 [] (rat 1 1), pureL 1 [] (rat 1 100), pureL 2 [] (rat 1 4),
   ⟨3, [0, 1, 2], [3], fun vs w => saysSlice b (ints [1, 1, 1, 100, 1, 4]) 33 3 (vs.getD 0 undef) w⟩,
   pureL 4 [] (a0.eval (.tmp 0)),
   ⟨5, [4], [5], fun vs _ => saysBelow 3 (vs.getD 0 undef)⟩,
   ⟨6, [0, 1, 2, 3, 4, 5], [6], fun vs w => saysPtr3 b (vs.getD 0 undef) w⟩,
   ⟨7, [0, 1, 2, 3, 4, 5, 6], [7], fun vs _ => saysStep (vs.getD 0 undef)⟩,
   pureL 8 [] (ptr tyB 1),
   pureL 9 [8] (.agg #[.int .i64 tm, .int .i64 th, .int .i64 td]),
   pureL 10 [] (a0.eval (.tmp 0)),
   ⟨11, [4, 5, 10], [11], fun vs _ => saysBelow 7 (vs.getD 0 undef)⟩,
   pureL 12 [] (a0.eval (.tmp 0)),
   pureL 13 [] (.agg #[.bool false, .int .i64 tm, .int .i64 th, .int .i64 td]),
   pureL 14 [] (a0.eval (.tmp 9)), pureL 15 [] (a0.eval (.tmp 3)),
   ⟨16, [4, 5, 10, 11, 12, 13, 14, 15], [16], fun vs w => saysEx m lo (vs.getD 0 undef) w⟩,
   ⟨17, [4, 5, 10, 11, 12, 13, 14, 15, 16], [17], fun vs w => saysKid m lo (vs.getD 0 undef) w⟩,
   ⟨18, [0, 1, 2, 3, 4, 5, 6, 7, 8, 9, 10, 11, 12, 13, 14, 15, 16, 17], [18], fun vs w => ∃ num den mode K, saysKid m lo K w ∧ (num, den) ∈ steps3 ∧ 0 ≤ mode ∧ mode ≤ 6 ∧ vs = [.agg #[.int .i64 19, .int .i64 num, .int .i64 den, .int .i64 tm, .int .i64 th, .int .i64 td, .string ⟨#[]⟩, .int .i64 0, .int .i64 mode, K]]⟩]


theorem ok26 (b m lo tyB : Nat) (tm th td : Int) (a0 : Act) (hs : a0.tmps.size = 275) : (locOk .any ops26 W26 (Array.replicate 20 false) a0.tmps.size (L26 b m lo tyB tm th td a0) && bare ops26 (L26 b m lo tyB tm th td a0)) = true := by rw [hs]; kernel_rfl
theorem enter6 (args : List Value) (w : World) : (callFunc 6 args.toArray).run Tryz.prog w = .ok (.enter 6 args.toArray) w := by kernel_rfl
theorem enterE (args : List Value) (w : World) : (callFunc 65 args.toArray).run Tryz.prog w = .ok (.enter 65 args.toArray) w := by kernel_rfl

theorem exAt.cells' {lo : Nat} {w : World} {x : Ex} {cs : List Value} (h : exAt lo w x cs) : ∃ (a0 a1 a2 a3 a4 a5 : Int) (a6 : List UInt8) (a7 a8 : Int) (A : Option Addr) (n c : Nat), cs = [.int .i64 a0, .int .i64 a1, .int .i64 a2, .int .i64 a3, .int .i64 a4, .int .i64 a5, .string ⟨a6.toArray⟩, .int .i64 a7, .int .i64 a8, .slice A n c] := by
  obtain ⟨op, num, den, mu, hu, du, name, count, mode, kids⟩ := x
  unfold exAt at h
  obtain ⟨A, c, ks, rfl, _⟩ := h
  exact ⟨_, _, _, _, _, _, _, _, _, _, _, _, rfl⟩
section
variable {b n lo g : Nat} {ns : List Int} {s : Bool × Int × Int × Int} {tm th td : Int} {w : World} {a0 : Act} {rules h : Int}
abbrev C26 (b : Nat) (ns : List Int) (tm th td : Int) (s : Bool × Int × Int × Int) (g m lo : Nat) (w : World) : World → Prop := fun wx => Acc b ns (false, tm, th, td) s g m lo w [] [] wx

set_option maxRecDepth 100000 in
theorem part26_3 (hlt : b < w.heap.size) : Part Tryz.prog ops26 a0 W26 (C26 b ns tm th td s g (max 1 n) lo w) (But b) (L26 b (max 1 n) lo w.heap.size tm th td a0) ⟨3, [0, 1, 2], [3], fun vs w => saysSlice b (ints [1, 1, 1, 100, 1, 4]) 33 3 (vs.getD 0 undef) w⟩ := by
  refine ⟨fun vs u u' hC he ⟨B, h1, h2, h3⟩ => ⟨B, h1, blk_keep h2 h3 he, h3⟩, fun vals u hC hb => ?_⟩
  obtain ⟨h0, h1, h2, _⟩ := hb
  refine OpOk.known [(157, 0, rat 1 1), (158, 1, rat 1 100), (159, 2, rat 1 4)] [] (by kernel_rfl) ⟨(List.cons.inj h0).1, (List.cons.inj h1).1, (List.cons.inj h2).1, trivial⟩ trivial (OpOk.value (v := .slice (some ⟨u.heap.size, 0, none⟩) 3 3) (w' := u.alloc (.cells (ints [1, 1, 1, 100, 1, 4]).toArray 33)) (by kernel_rfl) ⟨?_, ?_, ?_⟩)
  · exact hC.below hlt ((Below.refl _ _).alloc (Nat.le_refl _) _)
  · exact .of_below ((Below.refl _ _).alloc (Nat.le_refl _) _)
  · exact ⟨u.heap.size, rfl, heap_alloc_new _ _, by have := hC.st.tape.lt; omega⟩
set_option maxRecDepth 100000 in
theorem part26_5 (hlt : b < w.heap.size) (h0 : a0.eval (.tmp 0) = ptr b 0) : Part Tryz.prog ops26 a0 W26 (C26 b ns tm th td s g (max 1 n) lo w) (But b) (L26 b (max 1 n) lo w.heap.size tm th td a0) ⟨5, [4], [5], fun vs _ => saysBelow 3 (vs.getD 0 undef)⟩ := by
  refine ⟨fun vs u u' hC he h => h, fun vals u hC hb => ?_⟩
  obtain ⟨h4, _⟩ := hb
  refine OpOk.call (f := 6) [.tmp 161, .const (.int .i64 3)] (args := [ptr b 0, .int .i64 3]) (ats := #[23, 3]) (by kernel_rfl) rfl ?_ (enter6 _ _) ?_
  · rw [show [.tmp 161, .const (.int .i64 3)].map (evalV a0 W26 vals) = [vals 4, .int .i64 3] by kernel_rfl]
    rw [(List.cons.inj h4).1, h0]
  · refine (next_any b ns 3 u hC.st.tape (by omega) (by omega)).mono ?_
    rintro e u' ⟨k, hk, rfl, hT, hB⟩
    exact ⟨_, rfl, hC.step hlt hT hB, hB, k, by omega, rfl⟩
set_option maxRecDepth 100000 in
theorem part26_11 (hlt : b < w.heap.size) (h0 : a0.eval (.tmp 0) = ptr b 0) : Part Tryz.prog ops26 a0 W26 (C26 b ns tm th td s g (max 1 n) lo w) (But b) (L26 b (max 1 n) lo w.heap.size tm th td a0) ⟨11, [4, 5, 10], [11], fun vs _ => saysBelow 7 (vs.getD 0 undef)⟩ := by
  refine ⟨fun vs u u' hC he h => h, fun vals u hC hb => ?_⟩
  obtain ⟨_, _, h10, _⟩ := hb
  refine OpOk.call (f := 6) [.tmp 167, .const (.int .i64 7)] (args := [ptr b 0, .int .i64 7]) (ats := #[23, 3]) (by kernel_rfl) rfl ?_ (enter6 _ _) ?_
  · rw [show [.tmp 167, .const (.int .i64 7)].map (evalV a0 W26 vals) = [vals 10, .int .i64 7] by kernel_rfl]
    rw [(List.cons.inj h10).1, h0]
  · refine (next_any b ns 7 u hC.st.tape (by omega) (by omega)).mono ?_
    rintro e u' ⟨k, hk, rfl, hT, hB⟩
    exact ⟨_, rfl, hC.step hlt hT hB, hB, k, by omega, rfl⟩
set_option maxRecDepth 100000 in
theorem part26_6 : Part Tryz.prog ops26 a0 W26 (C26 b ns tm th td s g (max 1 n) lo w) (But b) (L26 b (max 1 n) lo w.heap.size tm th td a0) ⟨6, [0, 1, 2, 3, 4, 5], [6], fun vs w => saysPtr3 b (vs.getD 0 undef) w⟩ := by
  refine ⟨fun vs u u' hC he ⟨B, k, h1, h2, h3, h4⟩ => ⟨B, k, h1, h2, blk_keep h3 h4 he, h4⟩, fun vals u hC hb => ?_⟩
  obtain ⟨_, _, _, ⟨B, e3, hB, hne⟩, _, ⟨k, hk, e5⟩, _⟩ := hb
  have hk3 : k = 0 ∨ k = 1 ∨ k = 2 := by omega
  rcases hk3 with rfl | rfl | rfl
  · exact OpOk.known [(160, 3, .slice (some ⟨B, 0, none⟩) 3 3), (162, 5, .int .i64 0)] [] (by kernel_rfl) ⟨e3, e5, trivial⟩ trivial (OpOk.value (v := ptr B 0) (w' := u) (by kernel_rfl) ⟨hC, .refl _ _, B, 0, hk, rfl, hB, hne⟩)
  · exact OpOk.known [(160, 3, .slice (some ⟨B, 0, none⟩) 3 3), (162, 5, .int .i64 1)] [] (by kernel_rfl) ⟨e3, e5, trivial⟩ trivial (OpOk.value (v := ptr B 2) (w' := u) (by kernel_rfl) ⟨hC, .refl _ _, B, 1, hk, rfl, hB, hne⟩)
  · exact OpOk.known [(160, 3, .slice (some ⟨B, 0, none⟩) 3 3), (162, 5, .int .i64 2)] [] (by kernel_rfl) ⟨e3, e5, trivial⟩ trivial (OpOk.value (v := ptr B 4) (w' := u) (by kernel_rfl) ⟨hC, .refl _ _, B, 2, hk, rfl, hB, hne⟩)
set_option maxRecDepth 100000 in
theorem part26_7 : Part Tryz.prog ops26 a0 W26 (C26 b ns tm th td s g (max 1 n) lo w) (But b) (L26 b (max 1 n) lo w.heap.size tm th td a0) ⟨7, [0, 1, 2, 3, 4, 5, 6], [7], fun vs _ => saysStep (vs.getD 0 undef)⟩ := by
  refine ⟨fun vs u u' hC he h => h, fun vals u hC hb => ?_⟩
  obtain ⟨_, _, _, _, _, _, ⟨B, k, hk, e6, hB, _⟩, _⟩ := hb
  have hk3 : k = 0 ∨ k = 1 ∨ k = 2 := by omega
  rcases hk3 with rfl | rfl | rfl
  · exact OpOk.loadMid 33 (.tmp 163) (by kernel_rfl) ((by kernel_rfl : evalV a0 W26 vals (.tmp 163) = vals 6).trans e6) (ints [1, 1]) (rangeAt_lit hB 0 _ rfl) (by kernel_rfl) (by kernel_rfl) ⟨hC, .refl _ _, (1, 1), by simp [steps3], rfl⟩
  · exact OpOk.loadMid 33 (.tmp 163) (by kernel_rfl) ((by kernel_rfl : evalV a0 W26 vals (.tmp 163) = vals 6).trans e6) (ints [1, 100]) (rangeAt_lit hB 2 _ rfl) (by kernel_rfl) (by kernel_rfl) ⟨hC, .refl _ _, (1, 100), by simp [steps3], rfl⟩
  · exact OpOk.loadMid 33 (.tmp 163) (by kernel_rfl) ((by kernel_rfl : evalV a0 W26 vals (.tmp 163) = vals 6).trans e6) (ints [1, 4]) (rangeAt_lit hB 4 _ rfl) (by kernel_rfl) (by kernel_rfl) ⟨hC, .refl _ _, (1, 4), by simp [steps3], rfl⟩
set_option maxRecDepth 100000 in
theorem part26_8 (h5 : a0.eval (.tmp 5) = ptr w.heap.size 0) : Part Tryz.prog ops26 a0 W26 (C26 b ns tm th td s g (max 1 n) lo w) (But b) (L26 b (max 1 n) lo w.heap.size tm th td a0) (pureL 8 [] (ptr w.heap.size 1)) :=
  ⟨fun vs u u' hC he h => h, fun vals u hC hb => OpOk.known [] [(5, ptr w.heap.size 0)] (by kernel_rfl) trivial ⟨h5, trivial⟩ (OpOk.value (v := ptr w.heap.size 1) (w' := u) (by kernel_rfl) ⟨hC, .refl _ _, rfl⟩)⟩
set_option maxRecDepth 100000 in
theorem part26_9 : Part Tryz.prog ops26 a0 W26 (C26 b ns tm th td s g (max 1 n) lo w) (But b) (L26 b (max 1 n) lo w.heap.size tm th td a0) (pureL 9 [8] (.agg #[.int .i64 tm, .int .i64 th, .int .i64 td])) := by
  refine ⟨fun vs u u' hC he h => h, fun vals u hC hb => ?_⟩
  obtain ⟨h8, _⟩ := hb
  exact OpOk.loadMid 85 (.tmp 165) (by kernel_rfl) ((by kernel_rfl : evalV a0 W26 vals (.tmp 165) = vals 8).trans (List.cons.inj h8).1) (ints [tm, th, td]) (rangeAt_lit (l := [.bool false, .int .i64 tm, .int .i64 th, .int .i64 td]) hC.st.ty 1 _ rfl) (by kernel_rfl) (by kernel_rfl) ⟨hC, .refl _ _, rfl⟩
set_option maxRecDepth 100000 in
theorem part26_13 (h5 : a0.eval (.tmp 5) = ptr w.heap.size 0) : Part Tryz.prog ops26 a0 W26 (C26 b ns tm th td s g (max 1 n) lo w) (But b) (L26 b (max 1 n) lo w.heap.size tm th td a0) (pureL 13 [] (.agg #[.bool false, .int .i64 tm, .int .i64 th, .int .i64 td])) := by
  refine ⟨fun vs u u' hC he h => h, fun vals u hC hb => ?_⟩
  exact OpOk.loadMid 87 (.tmp 5) (by kernel_rfl) ((by kernel_rfl : evalV a0 W26 vals (.tmp 5) = a0.eval (.tmp 5)).trans h5) [.bool false, .int .i64 tm, .int .i64 th, .int .i64 td] (rangeAt_lit (l := [.bool false, .int .i64 tm, .int .i64 th, .int .i64 td]) hC.st.ty 0 _ rfl) (by kernel_rfl) (by kernel_rfl) ⟨hC, .refl _ _, rfl⟩
set_option maxRecDepth 100000 in
theorem part26_16 (hlt : b < w.heap.size) (IH : ExprSaid b ns n) (hty : (false, tm, th, td) ∈ fiveTypes) (hn : h ≤ n) (hh : h ≤ 100) (hl : -100 ≤ h) (hr0 : 0 ≤ rules) (hr1 : rules ≤ 10)
    (h0 : a0.eval (.tmp 0) = ptr b 0) (h9 : a0.eval (.tmp 9) = .int .i64 h) (h3 : a0.eval (.tmp 3) = .int .i64 rules) : Part Tryz.prog ops26 a0 W26 (C26 b ns tm th td s g (max 1 n) lo w) (But b) (L26 b (max 1 n) lo w.heap.size tm th td a0) ⟨16, [4, 5, 10, 11, 12, 13, 14, 15], [16], fun vs w => saysEx (max 1 n) lo (vs.getD 0 undef) w⟩ := by
  refine ⟨fun vs u u' hC he ⟨x, cs, k1, k2, k3⟩ => ⟨x, cs, k1, exAt.keep (.of_but he (by have := hC.lo_b; omega)) _ _ k2, k3⟩, fun vals u hC hb => ?_⟩
  obtain ⟨_, _, _, _, k12, k13, k14, k15, _⟩ := hb
  refine OpOk.call (f := 65) [.tmp 169, .tmp 170, .tmp 171, .tmp 172] (args := [ptr b 0, .agg #[.bool false, .int .i64 tm, .int .i64 th, .int .i64 td], .int .i64 h, .int .i64 rules]) (ats := #[23, 87, 3, 3]) (by kernel_rfl) rfl ?_ (enterE _ _) ?_
  · rw [show [.tmp 169, .tmp 170, .tmp 171, .tmp 172].map (evalV a0 W26 vals) = [vals 12, vals 13, vals 14, vals 15] by kernel_rfl]
    rw [(List.cons.inj k12).1, (List.cons.inj k13).1, (List.cons.inj k14).1, (List.cons.inj k15).1, h0, h9, h3]
  · refine (IH false tm th td h rules u hC.st.tape hty hn hh hl hr0 hr1).mono ?_
    rintro e u' ⟨x, cs, hx, hex, rfl, hT, hB⟩
    exact ⟨_, rfl, hC.step hlt hT hB, hB, x, cs, hx, exAt.mono hC.lo_le _ _ hex, rfl⟩
set_option maxRecDepth 100000 in
theorem part26_17 (hlt : b < w.heap.size) : Part Tryz.prog ops26 a0 W26 (C26 b ns tm th td s g (max 1 n) lo w) (But b) (L26 b (max 1 n) lo w.heap.size tm th td a0) ⟨17, [4, 5, 10, 11, 12, 13, 14, 15, 16], [17], fun vs w => saysKid (max 1 n) lo (vs.getD 0 undef) w⟩ := by
  refine ⟨fun vs u u' hC he ⟨x, cs, B, k1, k2, k3, k4, k5⟩ => ⟨x, cs, B, k1, exAt.keep (.of_but he (by have := hC.lo_b; omega)) _ _ k2, k3, k4, blk_keep k5 (by have := hC.lo_b; omega) he⟩, fun vals u hC hb => ?_⟩
  obtain ⟨_, _, _, _, _, _, _, _, ⟨x, cs, hx, hex, e16⟩, _⟩ := hb
  have hex2 := hex
  have hal : Below u.heap.size u (u.alloc (.cells cs.toArray 91)) := (Below.refl _ _).alloc (Nat.le_refl _) _
  obtain ⟨x0, x1, x2, x3, x4, x5, x6, x7, x8, A, kn, kc, rfl⟩ := hex2.cells'
  refine OpOk.known [(173, 16, .agg #[.int .i64 x0, .int .i64 x1, .int .i64 x2, .int .i64 x3, .int .i64 x4, .int .i64 x5, .string ⟨x6.toArray⟩, .int .i64 x7, .int .i64 x8, .slice A kn kc])] [] (by kernel_rfl) ⟨e16, trivial⟩ trivial (OpOk.value (v := .slice (some ⟨u.heap.size, 0, none⟩) 1 1) (w' := u.alloc (.cells [.int .i64 x0, .int .i64 x1, .int .i64 x2, .int .i64 x3, .int .i64 x4, .int .i64 x5, .string ⟨x6.toArray⟩, .int .i64 x7, .int .i64 x8, .slice A kn kc].toArray 91)) (by kernel_rfl) ⟨?_, ?_, ?_⟩)
  · exact hC.below hlt hal
  · exact .of_below hal
  · exact ⟨x, _, u.heap.size, hx, exAt.keep (.of_below hal) _ _ hex, hC.lo_le, rfl, heap_alloc_new _ _⟩
set_option maxRecDepth 100000 in
theorem part26_18 (hlt : b < w.heap.size) : Part Tryz.prog ops26 a0 W26 (C26 b ns tm th td s g (max 1 n) lo w) (But b) (L26 b (max 1 n) lo w.heap.size tm th td a0) ⟨18, [0, 1, 2, 3, 4, 5, 6, 7, 8, 9, 10, 11, 12, 13, 14, 15, 16, 17], [18], fun vs w => ∃ num den mode K, saysKid (max 1 n) lo K w ∧ (num, den) ∈ steps3 ∧ 0 ≤ mode ∧ mode ≤ 6 ∧ vs = [.agg #[.int .i64 19, .int .i64 num, .int .i64 den, .int .i64 tm, .int .i64 th, .int .i64 td, .string ⟨#[]⟩, .int .i64 0, .int .i64 mode, K]]⟩ := by
  refine ⟨fun vs u u' hC he ⟨p, q, m, K, ⟨x, cs, B, k1, k2, k3, k4, k5⟩, k6⟩ => ⟨p, q, m, K, ⟨x, cs, B, k1, exAt.keep (.of_but he (by have := hC.lo_b; omega)) _ _ k2, k3, k4, blk_keep k5 (by have := hC.lo_b; omega) he⟩, k6⟩, fun vals u hC hb => ?_⟩
  obtain ⟨_, _, _, _, _, _, _, ⟨⟨p, q⟩, hpq, e7⟩, _, h9, _, ⟨k, hk, e11⟩, _, _, _, _, _, ⟨x, cs, B, hx, hex, hlo, e17, hB⟩, _⟩ := hb
  refine OpOk.known [(164, 7, rat p q), (166, 9, .agg #[.int .i64 tm, .int .i64 th, .int .i64 td]), (168, 11, .int .i64 k), (174, 17, .slice (some ⟨B, 0, none⟩) 1 1)] [] (by kernel_rfl) ⟨e7, (List.cons.inj h9).1, e11, e17, trivial⟩ trivial
    (OpOk.value (v := .agg #[.int .i64 19, .int .i64 p, .int .i64 q, .int .i64 tm, .int .i64 th, .int .i64 td, .string ⟨#[]⟩, .int .i64 0, .int .i64 k, .slice (some ⟨B, 0, none⟩) 1 1]) (w' := u) (by kernel_rfl) ⟨hC, .refl _ _, p, q, k, _, ⟨x, cs, B, hx, hex, hlo, rfl, hB⟩, hpq, by omega, by omega, rfl⟩)
theorem setCells_put10 (w : World) (g : Nat) (a0 a1 a2 a3 a4 a5 a6 a7 a8 a9 : Value) : w.setCells g 0 [a0, a1, a2, a3, a4, a5, a6, a7, a8, a9] = put10 w g a0 a1 a2 a3 a4 a5 a6 a7 a8 a9 := rfl
set_option maxRecDepth 100000 in
theorem parts26 (hlt : b < w.heap.size) (IH : ExprSaid b ns n) (hty : (false, tm, th, td) ∈ fiveTypes) (hn : h ≤ n) (hh : h ≤ 100) (hl : -100 ≤ h) (hr0 : 0 ≤ rules) (hr1 : rules ≤ 10)
    (h0 : a0.eval (.tmp 0) = ptr b 0) (h9 : a0.eval (.tmp 9) = .int .i64 h) (h3 : a0.eval (.tmp 3) = .int .i64 rules) (h5 : a0.eval (.tmp 5) = ptr w.heap.size 0) :
    Parts Tryz.prog ops26 a0 W26 (C26 b ns tm th td s g (max 1 n) lo w) (But b) (L26 b (max 1 n) lo w.heap.size tm th td a0) (L26 b (max 1 n) lo w.heap.size tm th td a0) :=
    ⟨part_pure (But.refl b) (fun _ _ _ _ => by kernel_rfl), part_pure (But.refl b) (fun _ _ _ _ => by kernel_rfl), part_pure (But.refl b) (fun _ _ _ _ => by kernel_rfl), part26_3 hlt, part_pure (But.refl b) (fun _ _ _ _ => by kernel_rfl), part26_5 hlt h0, part26_6, part26_7, part26_8 h5, part26_9,
      part_pure (But.refl b) (fun _ _ _ _ => by kernel_rfl), part26_11 hlt h0, part_pure (But.refl b) (fun _ _ _ _ => by kernel_rfl), part26_13 h5, part_pure (But.refl b) (fun _ _ _ _ => by kernel_rfl), part_pure (But.refl b) (fun _ _ _ _ => by kernel_rfl),
      part26_16 hlt IH hty hn hh hl hr0 hr1 h0 h9 h3, part26_17 hlt, part26_18 hlt, trivial⟩
set_option maxHeartbeats 400000 in
set_option maxRecDepth 100000 in
/-- The region of the rounding, whatever its order. -/
theorem region26 (hlt : b < w.heap.size) (IH : ExprSaid b ns n) (hty : (false, tm, th, td) ∈ fiveTypes) (hn : h ≤ n) (hh : h ≤ 100) (hl : -100 ≤ h) (hr0 : 0 ≤ rules) (hr1 : rules ≤ 10) (hs : a0.tmps.size = 275)
    (h0 : a0.eval (.tmp 0) = ptr b 0) (h9 : a0.eval (.tmp 9) = .int .i64 h) (h3 : a0.eval (.tmp 3) = .int .i64 rules) (h5 : a0.eval (.tmp 5) = ptr w.heap.size 0) (h8 : a0.eval (.tmp 8) = ptr (w.heap.size + 1) 0)
    {wk : World} (hA : C26 b ns tm th td s g (max 1 n) lo w wk) {Q : Exit → Act → World → Prop}
    (hQ : ∀ a' u p q m K, a'.eval (.tmp 8) = ptr (w.heap.size + 1) 0 → a'.defers = a0.defers → C26 b ns tm th td s g (max 1 n) lo w u → saysKid (max 1 n) lo K u → (p, q) ∈ steps3 → 0 ≤ m → m ≤ 6 →
      Q .normal a' (put10 u (w.heap.size + 1) (.int .i64 19) (.int .i64 p) (.int .i64 q) (.int .i64 tm) (.int .i64 th) (.int .i64 td) (.string ⟨#[]⟩) (.int .i64 0) (.int .i64 m) K)) :
    (Code.region 26 ops26 true).wp Tryz.prog Q a0 wk := by
  refine wp_region_any (by kernel_rfl) ?_
  have hsz : ops26.size = 20 := by kernel_rfl
  rw [hsz]
  have hd : C26 b ns tm th td s g (max 1 n) lo w { wk with drawn := wk.drawn + 1 } := hA.below hlt (Below.refl _ _).drew
  refine any_parts (fuel := 1) (L := L26 b (max 1 n) lo w.heap.size tm th td a0) (W := W26) (C := C26 b ns tm th td s g (max 1 n) lo w) (Ext := But b) (ok26 b (max 1 n) lo w.heap.size tm th td a0 hs) hd (But.refl b) (fun _ _ _ => But.trans)
    (parts26 hlt IH hty hn hh hl hr0 hr1 h0 h9 h3 h5) ?_
  intro vals u hC _ hall
  obtain ⟨_, _, _, _, _, _, _, _, _, _, _, _, _, _, _, _, _, _, ⟨p, q, m, K, hK, hpq, hm0, hm1, e18⟩, _⟩ := hall
  have r1 : Region.ready .any ops26 (((L26 b (max 1 n) lo w.heap.size tm th td a0).map (·.idx)).foldl (fun b i => b.setIfInBounds i true) (Array.replicate 20 false)) = [19] := by kernel_rfl
  have r2 : Region.ready .any ops26 ((((L26 b (max 1 n) lo w.heap.size tm th td a0).map (·.idx)).foldl (fun b i => b.setIfInBounds i true) (Array.replicate 20 false)).setIfInBounds 19 true) = [] := by kernel_rfl
  have e8 : (fin ops26 vals ((L26 b (max 1 n) lo w.heap.size tm th td a0).map (·.idx)) a0).eval (.tmp 8) = ptr (w.heap.size + 1) 0 := (fin_other 8 (by kernel_rfl)).trans h8
  have e175 : (fin ops26 vals ((L26 b (max 1 n) lo w.heap.size tm th td a0).map (·.idx)) a0).eval (.tmp 175) = .agg #[.int .i64 19, .int .i64 p, .int .i64 q, .int .i64 tm, .int .i64 th, .int .i64 td, .string ⟨#[]⟩, .int .i64 0, .int .i64 m, K] :=
    (fin_own 175 18 (by kernel_rfl) (by rw [hs]; decide)).trans (List.cons.inj e18).1
  have ed := (fin_size ops26 vals ((L26 b (max 1 n) lo w.heap.size tm th td a0).map (·.idx)) a0).2
  generalize fin ops26 vals ((L26 b (max 1 n) lo w.heap.size tm th td a0).map (·.idx)) a0 = aF at *
  generalize ((L26 b (max 1 n) lo w.heap.size tm th td a0).map (·.idx)).foldl (fun b i => b.setIfInBounds i true) (Array.replicate 20 false) = lst at *
  have hop : (ops26.getD 19 default).op = .store 91 (.tmp 8) (.tmp 175) := by kernel_rfl
  have hdst : (ops26.getD 19 default).dst = none := by kernel_rfl
  have hgu : (ops26.getD 19 default).guard = none := by kernel_rfl
  have hat : ops26[19]? = some (ops26.getD 19 default) := by kernel_rfl
  generalize ops26.getD 19 default = o19 at *
  refine any_last r1 hat hgu r2 ?_
  refine wp_store_mid 91 (.tmp 8) (.tmp 175) hop (w.heap.size + 1) 0 #[.int .i64 19, .int .i64 p, .int .i64 q, .int .i64 tm, .int .i64 th, .int .i64 td, .string ⟨#[]⟩, .int .i64 0, .int .i64 m, K] e8 e175 ?_ (by kernel_rfl) ?_ ?_
  · exact there_of_heap hC.st.res 0 _ (by simp [exZero])
  · obtain ⟨x, cs, B, _, _, _, rfl, _⟩ := hK
    simp [Value.oneCell']
  · rw [hdst]
    exact hQ _ u p q m K e8 ed hC hK hpq hm0 hm1
/-- The end: an expression with one kid whose row lies in memory already is copied into the result. -/
theorem round_close {u : World} {p q m : Int} {K : Value} (hn1 : 1 ≤ n) (hlt : b < w.heap.size) (hty : (false, tm, th, td) ∈ fiveTypes) (hC : C26 b ns tm th td s g (max 1 n) lo w u) (hK : saysKid (max 1 n) lo K u) (hpq : (p, q) ∈ steps3) (hm0 : 0 ≤ m) (hm1 : m ≤ 6) :
    ExPost b ns (GenEx (max 1 (n + 1))) w (.returned (.agg #[.int .i64 19, .int .i64 p, .int .i64 q, .int .i64 tm, .int .i64 th, .int .i64 td, .string ⟨#[]⟩, .int .i64 0, .int .i64 m, K])) (put10 u (w.heap.size + 1) (.int .i64 19) (.int .i64 p) (.int .i64 q) (.int .i64 tm) (.int .i64 th) (.int .i64 td) (.string ⟨#[]⟩) (.int .i64 0) (.int .i64 m) K) := by
  obtain ⟨x, cs, B, hx, hex, hlo, rfl, hB⟩ := hK
  have hl := hC.lo_b
  have hk : KeptFrom lo u (put10 u (w.heap.size + 1) (.int .i64 19) (.int .i64 p) (.int .i64 q) (.int .i64 tm) (.int .i64 th) (.int .i64 td) (.string ⟨#[]⟩) (.int .i64 0) (.int .i64 m) (.slice (some ⟨B, 0, none⟩) 1 1)) := by
    unfold put10
    have hg : w.heap.size + 1 < lo := by omega
    exact ((((((((((show KeptFrom lo u u from fun _ _ _ => rfl).setCell hg _).setCell hg _).setCell hg _).setCell hg _).setCell hg _).setCell hg _).setCell hg _).setCell hg _).setCell hg _).setCell hg _
  have hok : okLocal 19 p q tm th td [] 0 m [x].length := by
    have h1 : 0 ≤ p ∧ p ≤ 100 ∧ 0 ≤ q ∧ q ≤ 100 := by
      simp only [steps3, List.mem_cons, List.not_mem_nil, or_false, Prod.mk.injEq] at hpq; omega
    have h2 : -1 ≤ tm ∧ tm ≤ 1 ∧ -1 ≤ th ∧ th ≤ 1 ∧ -1 ≤ td ∧ td ≤ 1 := by
      simp only [fiveTypes, tTruth, tMoney, tHours, tRate, tNumber, List.mem_cons, List.not_mem_nil, or_false, Prod.mk.injEq] at hty; omega
    exact ⟨by omega, by omega, h1.1, h1.2.1, h1.2.2.1, h1.2.2.2, h2.1, h2.2.1, h2.2.2.1, h2.2.2.2.1, h2.2.2.2.2.1, h2.2.2.2.2.2, by simp, by omega, by omega, hm0, hm1, rfl⟩
  refine ⟨.mk 19 p q tm th td [] 0 m [x], _, (gen_mk hok (show GenAll (max 1 n) [x] from ⟨hx, trivial⟩)).mono (by omega), ?_, rfl, tape10 hC.st.tape (by omega) _ _ _ _ _ _ _ _ _ _, but10 hC.st.but (by omega) _ _ _ _ _ _ _ _ _ _⟩
  refine exAt.mono (show w.heap.size ≤ lo by omega) _ _ (exAt.mk 19 p q tm th td [] 0 m (exsAt.one (exAt.keep hk _ _ hex)) (T := 91) (fr := (0, 0)) ?_ (fun r hr => ?_) hlo)
  · rw [hk B hlo (heap_lt hB), hB]; simp
  · simp only [List.mem_cons, List.not_mem_nil, or_false] at hr; subst hr; exact exAt.len hex
theorem range10 {u : World} {g : Nat} (ht : u.there g 0 10) (a0 a1 a2 a3 a4 a5 a6 a7 a8 a9 : Value) : (put10 u g a0 a1 a2 a3 a4 a5 a6 a7 a8 a9).rangeAt g 0 [a0, a1, a2, a3, a4, a5, a6, a7, a8, a9] := by
  rw [← setCells_put10]
  exact World.rangeAt_setCells_same u g 0 _ ht
/-- The return behind it. -/
theorem round_end {u : World} {p q m : Int} {K : Value} {aF : Act} (hn1 : 1 ≤ n) (hlt : b < w.heap.size) (hty : (false, tm, th, td) ∈ fiveTypes) (e8 : aF.eval (.tmp 8) = ptr (w.heap.size + 1) 0) (ed : aF.defers = []) (hC : C26 b ns tm th td s g (max 1 n) lo w u) (hK : saysKid (max 1 n) lo K u) (hpq : (p, q) ∈ steps3) (hm0 : 0 ≤ m) (hm1 : m ≤ 6) :
    bodyPost Tryz.prog Tryz.f65 (ExPost b ns (GenEx (max 1 (n + 1))) w) .ret aF (put10 u (w.heap.size + 1) (.int .i64 19) (.int .i64 p) (.int .i64 q) (.int .i64 tm) (.int .i64 th) (.int .i64 td) (.string ⟨#[]⟩) (.int .i64 0) (.int .i64 m) K) :=
  bodyPost_ret (results_cell (ty := 91) (by kernel_rfl) e8 [.int .i64 19, .int .i64 p, .int .i64 q, .int .i64 tm, .int .i64 th, .int .i64 td, .string ⟨#[]⟩, .int .i64 0, .int .i64 m, K] (range10 (there_of_heap hC.st.res 0 10 (by simp [exZero])) _ _ _ _ _ _ _ _ _ _) (by kernel_rfl) (by kernel_rfl)) ed (round_close hn1 hlt hty hC hK hpq hm0 hm1)
end
end Go.Proofs.YtpdbkbadjgellaaGreatDoor

/-
  payrollgen's Agreement: the statements that exchange definitions.
  payrollgen's Agreement: two definitions change places.
-/
import Derived.Test.YtpdbkbadjgellaaGreatDoorZ23
import Derived.Deep.Upon
namespace Go.Proofs.YtpdbkbadjgellaaGreatDoor
open Go.RowKit

theorem OpOk.indexAt {P : Program} {o : Oper} {ρ : Operand → Value} {w : World} {K : Value → World → Prop} (T : TypeId) (x i : Operand) (hop : o.op = .indexAddr T x i) {g len cap k sz : Nat} {e : TypeId} (hx : ρ x = .slice (some ⟨g, 0, none⟩) len cap) (hi : ρ i = .int .i64 k) (hk : k < len)
    (hT : P.underlying T = some (.slice e)) (hs : (P.info? e).map (·.size) = some sz) (h : K (.pointer (some ⟨g, k * sz, none⟩)) w) : OpOk P o ρ w K := by
  refine OpOk.value (v := .pointer (some ⟨g, k * sz, none⟩)) (w' := w) ?_ h
  unfold execOp
  cases hq : P.info? e with
  | none => rw [hq] at hs; cases hs
  | some inf =>
    have hsz : inf.size = sz := by rw [hq] at hs; exact Option.some.inj hs
    simp [hop, hx, hi, Instr.indexAt, asIntOf, run_underlying hT, hk, sizeOf, typeInfo, hq, hsz, Addr.add]
    intro h0
    rw [h0]
/-- Worlds that keep all old blocks but two. -/
structure But2 (b g : Nat) (w w' : World) : Prop where
  os : w'.os = w.os
  tape : w'.tape = w.tape
  output : w'.output = w.output
  size : w.heap.size ≤ w'.heap.size
  block : ∀ k, k < w.heap.size → k ≠ b → k ≠ g → w'.heap[k]? = w.heap[k]?
theorem But2.refl (b g : Nat) (w : World) : But2 b g w w := ⟨rfl, rfl, rfl, Nat.le_refl _, fun _ _ _ _ => rfl⟩
theorem But2.trans {b g : Nat} {u v w : World} (h : But2 b g u v) (k : But2 b g v w) : But2 b g u w :=
  ⟨k.os.trans h.os, k.tape.trans h.tape, k.output.trans h.output, Nat.le_trans h.size k.size, fun i hi h1 h2 => (k.block i (Nat.lt_of_lt_of_le hi h.size) h1 h2).trans (h.block i hi h1 h2)⟩
section
variable {b : Nat} {ns : List Int} {H : Nat} {w : World} {r : List Value} {v : Value} {X : List Ent} {rs : List (List Value)} {wx : World} {wl : Bool} {E : Nat → Value}
/-- A row out of the definitions. -/
theorem Ag.row {c : Value} {g cap i : Nat} (h : Ag b ns H w r c (.slice (some ⟨g, 0, none⟩) rs.length cap) X rs wx) {q : List Value} (hi : rs[i]? = some q) : wx.rangeAt g (i * 21) q := by
  intro j u hj
  obtain ⟨A, c', e, hrows⟩ := rows_own h.own h.ok.len (by decide)
  injection e with e1 e2 e3
  rcases hrows with h0 | ⟨g', off, hA, _, hc⟩
  · rw [h0] at hi; cases hi
  · rw [← e1] at hA
    simp only [Option.some.injEq, Addr.mk.injEq, and_true] at hA
    obtain ⟨rfl, rfl⟩ := hA
    have := hc i q hi j u hj
    rw [Nat.zero_add] at this
    exact this
theorem flat_set {rs : List (List Value)} {n i : Nat} {q : List Value} (h : ∀ r ∈ rs, r.length = n) (hq : q.length = n) (hi : i < rs.length) : (rs.set i q).flatten = rs.flatten.take (i * n) ++ q ++ rs.flatten.drop (i * n + n) := by
  induction rs generalizing i with
  | nil => simp at hi
  | cons a rs ih =>
    have ha := h a (by simp)
    cases i with
    | zero =>
      rw [List.set_cons_zero, List.flatten_cons, List.flatten_cons, Nat.zero_mul, List.take_zero, List.nil_append, Nat.zero_add, List.drop_append_of_le_length (by omega), List.drop_of_length_le (by omega), List.nil_append]
    | succ i =>
      have hi' : i < rs.length := by simpa using hi
      have e1 : (a ++ rs.flatten).take ((i + 1) * n) = a ++ rs.flatten.take (i * n) := by
        rw [List.take_append, List.take_of_length_le (by rw [ha, Nat.succ_mul]; omega), ha, show (i + 1) * n - n = i * n by rw [Nat.succ_mul]; omega]
      have e2 : (a ++ rs.flatten).drop ((i + 1) * n + n) = rs.flatten.drop (i * n + n) := by
        rw [List.drop_append, List.drop_of_length_le (by rw [ha, Nat.succ_mul]; omega), List.nil_append, ha, show (i + 1) * n + n - n = i * n + n by rw [Nat.succ_mul]; omega]
      rw [List.set_cons_succ, List.flatten_cons, List.flatten_cons, ih (fun r hr => h r (by simp [hr])) hi', e1, e2]
      simp [List.append_assoc]
theorem setCells_row (g : Nat) (T : TypeId) : ∀ (q : List Value) (o : Nat) (C : List Value) (u : World), u.heap[g]? = some (.cells C.toArray T (0, 0)) → o + q.length ≤ C.length → (u.setCells g o q).heap[g]? = some (.cells (C.take o ++ q ++ C.drop (o + q.length)).toArray T (0, 0))
  | [], o, C, u, h, _ => by simpa [World.setCells] using h
  | x :: q, o, C, u, h, hl => by
    rw [List.length_cons] at hl
    unfold World.setCells
    have h1 := heap_set_same (v := x) (a := ⟨g, o, none⟩) h rfl
    rw [setCells_row g T q (o + 1) (C.set o x) _ h1 (by simp; omega)]
    have ho : o < C.length := by omega
    have e1 : (C.set o x).take (o + 1) = C.take o ++ [x] := by
      rw [List.take_succ_eq_append_getElem (by simpa using ho), List.getElem_set_self, List.take_set_of_le (Nat.le_refl _)]
    have e2 : (C.set o x).drop (o + 1 + q.length) = C.drop (o + 1 + q.length) := List.drop_set_of_lt (by omega)
    rw [e1, e2, List.length_cons, show o + (q.length + 1) = o + 1 + q.length by omega]
    simp
theorem size_setCells (g : Nat) : ∀ (q : List Value) (o : Nat) (u : World), (u.setCells g o q).heap.size = u.heap.size
  | [], _, _ => rfl
  | x :: q, o, u => by unfold World.setCells; rw [size_setCells g q]; simp [World.setCell]
theorem tape_setCells (g : Nat) : ∀ (q : List Value) (o : Nat) (u : World), (u.setCells g o q).tape = u.tape
  | [], _, _ => rfl
  | x :: q, o, u => by unfold World.setCells; rw [tape_setCells g q]; rfl
/-- A row is stored among the definitions. -/
theorem Ag.store {c : Value} {g cap i : Nat} (h : Ag b ns H w r c (.slice (some ⟨g, 0, none⟩) rs.length cap) X rs wx) {q : List Value} {d : Df} (hi : i < rs.length) (hd : okDef H d) (hq : dfS (SA w (.slice (some ⟨g, 0, none⟩) rs.length cap) X) wx d q) :
    wx.there g (i * 21) 21 ∧ Ag b ns H w r c (.slice (some ⟨g, 0, none⟩) (rs.set i q).length cap) X (rs.set i q) (wx.setCells g (i * 21) q) ∧ But2 b g wx (wx.setCells g (i * 21) q) := by
  have hl := hq.len
  rcases h.own.2 with ⟨h1, _⟩ | ⟨g', cap', cur, he, hg, hb, hn, hm, hc, ht⟩
  · cases h1
  · simp only [Value.slice.injEq, Option.some.injEq, Addr.mk.injEq, and_true, true_and] at he
    obtain ⟨rfl, rfl⟩ := he
    have hfl := flat_len h.ok.len
    have hle : i * 21 + 21 ≤ rs.length * 21 := by omega
    have hcl : rs.length * 21 ≤ cur.size := by rw [hc]; exact Nat.mul_le_mul_right _ hn
    have hb' : wx.heap[g]? = some (.cells cur.toList.toArray 93 (0, 0)) := by simpa using hb
    have hset := setCells_row g 93 q (i * 21) cur.toList wx hb' (by rw [hl]; simp; omega)
    have hsz : (wx.setCells g (i * 21) q).heap.size = wx.heap.size := size_setCells _ _ _ _
    have hoth : ∀ k, k < wx.heap.size → k ≠ g → (wx.setCells g (i * 21) q).heap[k]? = wx.heap[k]? := fun k hk hne => World.heap_setCells_other wx g _ q hk hne
    have hB2 : But2 b g wx (wx.setCells g (i * 21) q) := ⟨World.os_setCells _ _ _ _, tape_setCells _ _ _ _, World.output_setCells _ _ _ _, Nat.le_of_eq hsz.symm, fun k hk _ hne => hoth k hk hne⟩
    have hgr : wx.grownBy (wx.setCells g (i * 21) q) (some g) := ⟨hB2.os, hB2.tape, hB2.output, hB2.size, fun k hk hne => hoth k hk (fun e => hne (by rw [e]))⟩
    refine ⟨there_of_heap hb _ _ (by omega), ⟨h.ph.grown hgr (fun k hk => ?_), ?_, ?_, h.new, by simpa using h.off⟩, hB2⟩
    · cases hk
      refine ⟨by omega, fun e he he' => ?_⟩
      exact notA (w := w) (r := r) (c := c) (X := X) hg (fun e he he' => h.off e he (by rw [he']; rfl)) (List.mem_map.2 ⟨e, he, he'⟩)
    · refine ⟨?_, .inr ⟨g, cap, _, rfl, hg, hset, by simpa using hn, hm, ?_, ?_⟩⟩
      · rw [flat_len (fun x hx => ?_)]
        rcases List.mem_or_eq_of_mem_set hx with hx | rfl
        · exact h.ok.len x hx
        · exact hl
      · simp only [List.size_toArray, List.length_append, List.length_take, List.length_drop, Array.length_toList]
        omega
      · simp only [List.length_set]
        rw [flat_set h.ok.len hl hi]
        have hcur : cur.toList = rs.flatten ++ cur.toList.drop (rs.length * 21) := by rw [← ht, List.take_append_drop]
        generalize cur.toList.drop (rs.length * 21) = rest at hcur
        have t1 : cur.toList.take (i * 21) = rs.flatten.take (i * 21) := by rw [hcur, List.take_append_of_le_length (by omega)]
        have t2 : cur.toList.drop (i * 21 + q.length) = rs.flatten.drop (i * 21 + 21) ++ rest := by rw [hcur, hl, List.drop_append_of_le_length (by omega)]
        rw [t1, t2, ← List.append_assoc]
        have hlen : (rs.flatten.take (i * 21) ++ q ++ rs.flatten.drop (i * 21 + 21)).length = rs.length * 21 := by
          simp only [List.length_append, List.length_take, List.length_drop, hl, hfl]
          omega
        rw [← hlen]
        exact List.take_left
    · intro x hx
      rcases List.mem_or_eq_of_mem_set hx with hx | rfl
      · obtain ⟨d', h1, h2⟩ := h.ok x hx
        exact ⟨d', h1, h2.keep hB2.size (fun k hS hlt => ⟨by simpa [SA] using hS, hoth k hlt (fun e => hS.2.1 (by rw [e]; rfl))⟩)⟩
      · exact ⟨d, hd, hq.keep hB2.size (fun k hS hlt => ⟨by simpa [SA] using hS, hoth k hlt (fun e => hS.2.1 (by rw [e]; rfl))⟩)⟩
end
end Go.Proofs.YtpdbkbadjgellaaGreatDoor

namespace Go.Proofs.YtpdbkbadjgellaaGreatDoor
open Go.RowKit

theorem OpOk.storeMid {P : Program} {o : Oper} {ρ : Operand → Value} {w : World} {K : Value → World → Prop} (ty : TypeId) (x y : Operand) (ho : o.op = .store ty x y) {b off : Nat} (cs : List Value) (hx : ρ x = .pointer (some ⟨b, off, none⟩)) (hy : ρ y = .agg cs.toArray)
    (ht : w.there b off cs.length) (hi : (P.info? ty).map (·.size) = some cs.length) (h1 : cs.all (·.oneCell') = true) (hk : K undef (w.setCells b off cs)) : OpOk P o ρ w K := by
  have hr := run_storeVar_mid (P := P) w b off ty cs.toArray (by simpa using ht) (by simpa using hi) (by simpa using h1)
  unfold OpOk execOp
  simp only [ho, hx, hy, Instr.storeAt, Instr.sureAddr, Sem.run_bind, Sem.run_pure, Result.andThen_ok, hr]
  exact hk
noncomputable def opsA24 : Array Oper := regOf Tryz.f30 24
noncomputable def opsA25 : Array Oper := regOf Tryz.f30 25
def WA24 : Wr := [(139, 0), (140, 1), (141, 2), (142, 3), (143, 4), (144, 5), (145, 6), (146, 7), (147, 8), (148, 9)]
def WA25 : Wr := [(149, 0), (150, 1), (151, 2), (152, 3), (153, 4), (154, 5), (155, 6), (156, 7), (157, 8), (158, 9), (159, 10), (160, 11), (161, 12), (162, 13), (163, 14), (164, 15), (165, 16), (166, 18)]
def envD (b : Nat) (w : World) (H : Nat) (wl : Bool) (i : Int) : List (Nat × Value) := envA b w H wl ++ [(14, .int .i64 i)]
def envE (b : Nat) (w : World) (H : Nat) (wl : Bool) (i : Int) (n m : Nat) : List (Nat × Value) := envD b w H wl i ++ [(15, .int .i64 n), (16, .int .i64 m)]
def fa1 (w : World) : Value := .pointer (some ⟨w.heap.size + 1, 1, none⟩)
def LA24 (b : Nat) (w : World) (v : Value) (N : Nat) : List Loc :=
  [pureL 0 [] (pt b 0), pureL 1 [] (fa1 w), pureL 2 [1] v, pureL 3 [1, 2] (.int .i64 N), ⟨4, [0, 1, 2, 3], [4], fun vs _ => saysBelow N (vs.getD 0 undef)⟩,
   pureL 5 [] (pt b 0), pureL 6 [] (fa1 w), pureL 7 [6] v, pureL 8 [6, 7] (.int .i64 N), ⟨9, [0, 1, 2, 3, 4, 5, 6, 7, 8], [9], fun vs _ => saysBelow N (vs.getD 0 undef)⟩]
theorem okA24 (b : Nat) (w : World) (v : Value) (N : Nat) : (locOk .any opsA24 WA24 (Array.replicate 12 false) 168 (LA24 b w v N) && bare opsA24 (LA24 b w v N)) = true := by kernel_rfl
def LA25 (H : Nat) (w : World) (X : List Ent) (g N cap n m : Nat) : List Loc :=
  [pureL 0 [] (fa1 w), pureL 1 [0] (.slice (some ⟨g, 0, none⟩) N cap), pureL 2 [] (.int .i64 n), pureL 3 [] (fa1 w), pureL 4 [3] (.slice (some ⟨g, 0, none⟩) N cap), pureL 5 [] (.int .i64 m),
   pureL 6 [] (fa1 w), pureL 7 [6] (.slice (some ⟨g, 0, none⟩) N cap), pureL 8 [] (.int .i64 m), pureL 9 [6, 7, 8] (pt g (m * 21)), ⟨10, [6, 7, 8, 9], [10], fun vs u => saysDfS H (SA w (.slice (some ⟨g, 0, none⟩) N cap) X) (vs.getD 0 undef) u⟩,
   pureL 11 [] (fa1 w), pureL 12 [11] (.slice (some ⟨g, 0, none⟩) N cap), pureL 13 [] (.int .i64 n), pureL 14 [11, 12, 13] (pt g (n * 21)), ⟨15, [11, 12, 13, 14], [15], fun vs u => saysDfS H (SA w (.slice (some ⟨g, 0, none⟩) N cap) X) (vs.getD 0 undef) u⟩,
   pureL 16 [0, 1, 2, 6, 7, 8, 9, 10, 11, 12, 13, 14, 15] (pt g (n * 21)), ⟨17, [0, 1, 2, 6, 7, 8, 9, 10, 11, 12, 13, 14, 15, 16], [], fun _ _ => True⟩,
   pureL 18 [0, 1, 2, 3, 4, 5, 6, 7, 8, 9, 10, 11, 12, 13, 14, 15, 16, 17] (pt g (m * 21)), ⟨19, [0, 1, 2, 3, 4, 5, 6, 7, 8, 9, 10, 11, 12, 13, 14, 15, 16, 17, 18], [], fun _ _ => True⟩]
theorem okA25 (H : Nat) (w : World) (X : List Ent) (g N cap n m : Nat) : (locOk .any opsA25 WA25 (Array.replicate 20 false) 168 (LA25 H w X g N cap n m) && bare opsA25 (LA25 H w X g N cap n m)) = true := by kernel_rfl
section
variable {b : Nat} {ns : List Int} {H : Nat} {w : World} {r : List Value} {v : Value} {X : List Ent} {rs : List (List Value)} {wx : World} {wl : Bool} {E : Nat → Value} {i : Int}
set_option maxRecDepth 100000 in
theorem partsA24 {vA : Option Addr} {vc : Nat} (_hlt : b < w.heap.size) (h1 : 1 ≤ rs.length) (h2 : rs.length ≤ 1000) : PartsE Tryz.prog opsA24 168 (updL E (envD b w H wl i)) WA24 (fun u => Ag b ns (max 1 H) w r (.slice vA rs.length vc) (.slice vA rs.length vc) X rs u) (But b) (LA24 b w (.slice vA rs.length vc) rs.length) (LA24 b w (.slice vA rs.length vc) rs.length) := by
  refine ⟨part_pureE (But.refl b) (fun _ _ _ _ => by kernel_rfl), part_pureE (But.refl b) (fun _ _ _ _ => by kernel_rfl), ?_, ?_, ?_, part_pureE (But.refl b) (fun _ _ _ _ => by kernel_rfl), part_pureE (But.refl b) (fun _ _ _ _ => by kernel_rfl), ?_, ?_, ?_, trivial⟩
  · refine ⟨fun _ _ _ _ _ h => h, fun vals u hC hb => ?_⟩
    obtain ⟨h1, _⟩ := hb
    exact OpOk.knownE [(140, 1, fa1 w)] (by kernel_rfl) ⟨(List.cons.inj h1).1, trivial⟩ (OpOk.reads ⟨0, memA w r (.slice vA rs.length vc) X, (1, 1), []⟩ hC.ph.lies.sat.good (.slice vA rs.length vc) (by kernel_rfl) (by kernel_rfl) ⟨hC, .refl _ _, rfl⟩)
  · refine ⟨fun _ _ _ _ _ h => h, fun vals u hC hb => ?_⟩
    obtain ⟨_, h2, _⟩ := hb
    exact OpOk.knownE [(141, 2, .slice vA rs.length vc)] (by kernel_rfl) ⟨(List.cons.inj h2).1, trivial⟩ (OpOk.value (v := .int .i64 rs.length) (w' := u) (by kernel_rfl) ⟨hC, .refl _ _, rfl⟩)
  · refine ⟨fun _ _ _ _ _ h => h, fun vals u hC hb => ?_⟩
    obtain ⟨k0, _, _, k3, _⟩ := hb
    refine OpOk.call (f := 6) [.tmp 139, .tmp 142] (args := [pt b 0, .int .i64 rs.length]) (ats := #[23, 3]) (by kernel_rfl) rfl ?_ (run_callable (by kernel_rfl) _ _) ?_
    · rw [show [.tmp 139, .tmp 142].map (evalVE 168 (updL E (envD b w H wl i)) WA24 vals) = [vals 0, vals 3] by kernel_rfl, (List.cons.inj k0).1, (List.cons.inj k3).1]
    · refine (next_any b ns rs.length u hC.ph.tape (by omega) (by omega)).mono ?_
      rintro e u' ⟨k, hk, rfl, hT, hB⟩
      exact ⟨_, rfl, hC.call hT hB, hB, k, by omega, rfl⟩
  · refine ⟨fun _ _ _ _ _ h => h, fun vals u hC hb => ?_⟩
    obtain ⟨h1, _⟩ := hb
    exact OpOk.knownE [(145, 6, fa1 w)] (by kernel_rfl) ⟨(List.cons.inj h1).1, trivial⟩ (OpOk.reads ⟨0, memA w r (.slice vA rs.length vc) X, (1, 1), []⟩ hC.ph.lies.sat.good (.slice vA rs.length vc) (by kernel_rfl) (by kernel_rfl) ⟨hC, .refl _ _, rfl⟩)
  · refine ⟨fun _ _ _ _ _ h => h, fun vals u hC hb => ?_⟩
    obtain ⟨_, h2, _⟩ := hb
    exact OpOk.knownE [(146, 7, .slice vA rs.length vc)] (by kernel_rfl) ⟨(List.cons.inj h2).1, trivial⟩ (OpOk.value (v := .int .i64 rs.length) (w' := u) (by kernel_rfl) ⟨hC, .refl _ _, rfl⟩)
  · refine ⟨fun _ _ _ _ _ h => h, fun vals u hC hb => ?_⟩
    obtain ⟨_, _, _, _, _, k5, _, _, k8, _⟩ := hb
    refine OpOk.call (f := 6) [.tmp 144, .tmp 147] (args := [pt b 0, .int .i64 rs.length]) (ats := #[23, 3]) (by kernel_rfl) rfl ?_ (run_callable (by kernel_rfl) _ _) ?_
    · rw [show [.tmp 144, .tmp 147].map (evalVE 168 (updL E (envD b w H wl i)) WA24 vals) = [vals 5, vals 8] by kernel_rfl, (List.cons.inj k5).1, (List.cons.inj k8).1]
    · refine (next_any b ns rs.length u hC.ph.tape (by omega) (by omega)).mono ?_
      rintro e u' ⟨k, hk, rfl, hT, hB⟩
      exact ⟨_, rfl, hC.call hT hB, hB, k, by omega, rfl⟩
set_option maxRecDepth 100000 in
set_option maxHeartbeats 1000000 in
theorem regionA24 {vA : Option Addr} {vc : Nat} (hA : Ag b ns (max 1 H) w r (.slice vA rs.length vc) (.slice vA rs.length vc) X rs wx) (h1 : 1 ≤ rs.length) (h2 : rs.length ≤ 1000) {R : Ending → World → Prop} {td : List Item} (hd : curDraw td = some opsA24)
    (hk : ∀ n m u E', n < rs.length → m < rs.length → Ag b ns (max 1 H) w r (.slice vA rs.length vc) (.slice vA rs.length vc) X rs u → At Tryz.prog 30 R (tailT td) (Fr 168 (updL E' (envE b w H wl i n m))) u) :
    At Tryz.prog 30 R td (Fr 168 (updL E (envD b w H wl i))) wx := by
  have hlt := hA.ph.lt
  refine at_draw opsA24 hd (by kernel_rfl) 12 (by kernel_rfl) ?_
  refine any_partsE (fuel := 2) (L := LA24 b w (.slice vA rs.length vc) rs.length) (W := WA24) (C := fun u => Ag b ns (max 1 H) w r (.slice vA rs.length vc) (.slice vA rs.length vc) X rs u) (Ext := But b) (okA24 b w (.slice vA rs.length vc) rs.length) (hA.below (Below.refl _ _).drew) (But.refl b) (fun _ _ _ => But.trans) (partsA24 hlt h1 h2) rfl ?_
  intro vals u hC _ hall
  obtain ⟨_, _, _, _, ⟨n, hn, e4⟩, _, _, _, _, ⟨m, hm, e9⟩, _⟩ := hall
  have r1 : Region.ready .any opsA24 (((LA24 b w (.slice vA rs.length vc) rs.length).map (·.idx)).foldl (fun b i => b.setIfInBounds i true) (Array.replicate 12 false)) = [10] := by kernel_rfl
  have r2 : Region.ready .any opsA24 ((((LA24 b w (.slice vA rs.length vc) rs.length).map (·.idx)).foldl (fun b i => b.setIfInBounds i true) (Array.replicate 12 false)).setIfInBounds 10 true) = [11] := by kernel_rfl
  have r3 : Region.ready .any opsA24 (((((LA24 b w (.slice vA rs.length vc) rs.length).map (·.idx)).foldl (fun b i => b.setIfInBounds i true) (Array.replicate 12 false)).setIfInBounds 10 true).setIfInBounds 11 true) = [] := by kernel_rfl
  have qs : ((143, vals 4) :: (148, vals 9) :: envD b w H wl i).map (fun p => finE opsA24 vals ((LA24 b w (.slice vA rs.length vc) rs.length).map (·.idx)) (updL E (envD b w H wl i)) p.1) = ((143, vals 4) :: (148, vals 9) :: envD b w H wl i).map (·.2) := by kernel_rfl
  generalize ((LA24 b w (.slice vA rs.length vc) rs.length).map (·.idx)).foldl (fun b i => b.setIfInBounds i true) (Array.replicate 12 false) = lst at *
  generalize finE opsA24 vals ((LA24 b w (.slice vA rs.length vc) rs.length).map (·.idx)) (updL E (envD b w H wl i)) = E8 at *
  rw [← updL_same qs, show vals 4 = .int .i64 n from e4, show vals 9 = .int .i64 m from e9]
  refine any_run (fuel := 1) (opsA24.getD 10 default) ⟨u.heap.size, memA w r (.slice vA rs.length vc) X, (0, 0), []⟩ ⟨u.heap.size, memA w r (.slice vA rs.length vc) X, (0, 0), []⟩ (.value (.int .i64 n)) (.int .i64 n) r1 (by kernel_rfl) (by kernel_rfl) (by kernel_rfl) (.inl rfl) hC.ph.lies rfl fun u3 hL9 hK9 => ?_
  have A9 := hC.run hK9 hL9 (fun e he => .inl ⟨e, he, rfl⟩)
  rw [show (opsA24.getD 10 default).dst = some 15 by kernel_rfl]
  refine any_run (fuel := 0) (opsA24.getD 11 default) ⟨u3.heap.size, memA w r (.slice vA rs.length vc) X, (0, 0), []⟩ ⟨u3.heap.size, memA w r (.slice vA rs.length vc) X, (0, 0), []⟩ (.value (.int .i64 m)) (.int .i64 m) r2 (by kernel_rfl) (by kernel_rfl) (by kernel_rfl) (.inl rfl) A9.ph.lies rfl fun u4 hL10 hK10 => ?_
  have A10 := A9.run hK10 hL10 (fun e he => .inl ⟨e, he, rfl⟩)
  rw [show (opsA24.getD 11 default).dst = some 16 by kernel_rfl]
  refine any_end r3 ⟨rfl, At.mid ?_⟩
  exact at_known (envE b w H wl i n m) (by kernel_rfl) fun E' => hk n m u4 E' hn hm A10
theorem saysDfS_keep2 {g N cap : Nat} {val : Value} {u u' : World} (hlt : b < w.heap.size) (h : saysDfS (max 1 H) (SA w (.slice (some ⟨g, 0, none⟩) N cap) X) val u) (he : But2 b g u u') : saysDfS (max 1 H) (SA w (.slice (some ⟨g, 0, none⟩) N cap) X) val u' := by
  obtain ⟨x, cs, k1, k2, k3⟩ := h
  exact ⟨x, cs, k1, k2.keep he.size (fun k hS hl => ⟨hS, he.block k hl (by have := hS.1; omega) (fun e => hS.2.1 (by rw [e]; rfl))⟩), k3⟩
set_option maxRecDepth 100000 in
set_option maxHeartbeats 1000000 in
theorem partsA25 {g N cap n m : Nat} (hlt : b < w.heap.size) (hn : n < N) (hm : m < N) : PartsE Tryz.prog opsA25 168 (updL E (envE b w H wl i n m)) WA25 (fun u => ∃ rs' : List (List Value), rs'.length = N ∧ Ag b ns (max 1 H) w r (.slice (some ⟨g, 0, none⟩) N cap) (.slice (some ⟨g, 0, none⟩) N cap) X rs' u) (But2 b g) (LA25 (max 1 H) w X g N cap n m) (LA25 (max 1 H) w X g N cap n m) := by
  refine ⟨part_pureE (But2.refl b g) (fun _ _ _ _ => by kernel_rfl), ?_, part_pureE (But2.refl b g) (fun _ _ _ _ => by kernel_rfl), part_pureE (But2.refl b g) (fun _ _ _ _ => by kernel_rfl), ?_, part_pureE (But2.refl b g) (fun _ _ _ _ => by kernel_rfl),
    part_pureE (But2.refl b g) (fun _ _ _ _ => by kernel_rfl), ?_, part_pureE (But2.refl b g) (fun _ _ _ _ => by kernel_rfl), ?_, ?_, part_pureE (But2.refl b g) (fun _ _ _ _ => by kernel_rfl), ?_, part_pureE (But2.refl b g) (fun _ _ _ _ => by kernel_rfl), ?_, ?_, ?_, ?_, ?_, ?_, trivial⟩
  · refine ⟨fun _ _ _ _ _ h => h, fun vals u hC hb => ?_⟩
    obtain ⟨h1, _⟩ := hb
    have hC2 := hC
    obtain ⟨rs', hl, hA⟩ := hC2
    exact OpOk.knownE [(149, 0, fa1 w)] (by kernel_rfl) ⟨(List.cons.inj h1).1, trivial⟩ (OpOk.reads ⟨0, memA w r (.slice (some ⟨g, 0, none⟩) N cap) X, (1, 1), []⟩ hA.ph.lies.sat.good (.slice (some ⟨g, 0, none⟩) N cap) (by kernel_rfl) (by kernel_rfl) ⟨hC, .refl _ _ _, rfl⟩)
  · refine ⟨fun _ _ _ _ _ h => h, fun vals u hC hb => ?_⟩
    obtain ⟨h1, _⟩ := hb
    have hC2 := hC
    obtain ⟨rs', hl, hA⟩ := hC2
    exact OpOk.knownE [(152, 3, fa1 w)] (by kernel_rfl) ⟨(List.cons.inj h1).1, trivial⟩ (OpOk.reads ⟨0, memA w r (.slice (some ⟨g, 0, none⟩) N cap) X, (1, 1), []⟩ hA.ph.lies.sat.good (.slice (some ⟨g, 0, none⟩) N cap) (by kernel_rfl) (by kernel_rfl) ⟨hC, .refl _ _ _, rfl⟩)
  · refine ⟨fun _ _ _ _ _ h => h, fun vals u hC hb => ?_⟩
    obtain ⟨h1, _⟩ := hb
    have hC2 := hC
    obtain ⟨rs', hl, hA⟩ := hC2
    exact OpOk.knownE [(155, 6, fa1 w)] (by kernel_rfl) ⟨(List.cons.inj h1).1, trivial⟩ (OpOk.reads ⟨0, memA w r (.slice (some ⟨g, 0, none⟩) N cap) X, (1, 1), []⟩ hA.ph.lies.sat.good (.slice (some ⟨g, 0, none⟩) N cap) (by kernel_rfl) (by kernel_rfl) ⟨hC, .refl _ _ _, rfl⟩)
  · refine ⟨fun _ _ _ _ _ h => h, fun vals u hC hb => ?_⟩
    obtain ⟨_, hx, hi, _⟩ := hb
    exact OpOk.knownE [(156, 7, (.slice (some ⟨g, 0, none⟩) N cap)), (157, 8, .int .i64 m)] (by kernel_rfl) ⟨(List.cons.inj hx).1, (List.cons.inj hi).1, trivial⟩ (OpOk.indexAt 52 (.tmp 156) (.tmp 157) (by kernel_rfl) (len := N) (cap := cap) (k := m) (sz := 21) (e := 93) (by kernel_rfl) (by kernel_rfl) hm (by kernel_rfl) (by kernel_rfl) ⟨hC, .refl _ _ _, rfl⟩)
  · refine ⟨fun _ u u' _ he h => saysDfS_keep2 hlt h he, fun vals u hC hb => ?_⟩
    obtain ⟨_, _, _, hp, _⟩ := hb
    have hC2 := hC
    obtain ⟨rs', hl, hA⟩ := hC2
    subst hl
    obtain ⟨q, hq⟩ : ∃ q, rs'[m]? = some q := ⟨_, List.getElem?_eq_getElem hm⟩
    obtain ⟨d, hd, hdf⟩ := hA.ok q (List.mem_of_getElem? hq)
    exact OpOk.loadMid 93 (.tmp 158) (by kernel_rfl) ((by kernel_rfl : evalVE 168 (updL E (envE b w H wl i n m)) WA25 vals (.tmp 158) = vals 9).trans (List.cons.inj hp).1) q (hA.row hq) (by kernel_rfl) (by rw [hdf.len]; kernel_rfl) ⟨hC, .refl _ _ _, d, q, hd, hdf, rfl⟩
  · refine ⟨fun _ _ _ _ _ h => h, fun vals u hC hb => ?_⟩
    obtain ⟨h1, _⟩ := hb
    have hC2 := hC
    obtain ⟨rs', hl, hA⟩ := hC2
    exact OpOk.knownE [(160, 11, fa1 w)] (by kernel_rfl) ⟨(List.cons.inj h1).1, trivial⟩ (OpOk.reads ⟨0, memA w r (.slice (some ⟨g, 0, none⟩) N cap) X, (1, 1), []⟩ hA.ph.lies.sat.good (.slice (some ⟨g, 0, none⟩) N cap) (by kernel_rfl) (by kernel_rfl) ⟨hC, .refl _ _ _, rfl⟩)
  · refine ⟨fun _ _ _ _ _ h => h, fun vals u hC hb => ?_⟩
    obtain ⟨_, hx, hi, _⟩ := hb
    exact OpOk.knownE [(161, 12, (.slice (some ⟨g, 0, none⟩) N cap)), (162, 13, .int .i64 n)] (by kernel_rfl) ⟨(List.cons.inj hx).1, (List.cons.inj hi).1, trivial⟩ (OpOk.indexAt 52 (.tmp 161) (.tmp 162) (by kernel_rfl) (len := N) (cap := cap) (k := n) (sz := 21) (e := 93) (by kernel_rfl) (by kernel_rfl) hn (by kernel_rfl) (by kernel_rfl) ⟨hC, .refl _ _ _, rfl⟩)
  · refine ⟨fun _ u u' _ he h => saysDfS_keep2 hlt h he, fun vals u hC hb => ?_⟩
    obtain ⟨_, _, _, hp, _⟩ := hb
    have hC2 := hC
    obtain ⟨rs', hl, hA⟩ := hC2
    subst hl
    obtain ⟨q, hq⟩ : ∃ q, rs'[n]? = some q := ⟨_, List.getElem?_eq_getElem hn⟩
    obtain ⟨d, hd, hdf⟩ := hA.ok q (List.mem_of_getElem? hq)
    exact OpOk.loadMid 93 (.tmp 163) (by kernel_rfl) ((by kernel_rfl : evalVE 168 (updL E (envE b w H wl i n m)) WA25 vals (.tmp 163) = vals 14).trans (List.cons.inj hp).1) q (hA.row hq) (by kernel_rfl) (by rw [hdf.len]; kernel_rfl) ⟨hC, .refl _ _ _, d, q, hd, hdf, rfl⟩
  · refine ⟨fun _ _ _ _ _ h => h, fun vals u hC hb => ?_⟩
    obtain ⟨_, hx, hi, _⟩ := hb
    exact OpOk.knownE [(150, 1, (.slice (some ⟨g, 0, none⟩) N cap)), (151, 2, .int .i64 n)] (by kernel_rfl) ⟨(List.cons.inj hx).1, (List.cons.inj hi).1, trivial⟩ (OpOk.indexAt 52 (.tmp 150) (.tmp 151) (by kernel_rfl) (len := N) (cap := cap) (k := n) (sz := 21) (e := 93) (by kernel_rfl) (by kernel_rfl) hn (by kernel_rfl) (by kernel_rfl) ⟨hC, .refl _ _ _, rfl⟩)
  · refine ⟨fun _ _ _ _ _ h => h, fun vals u hC hb => ?_⟩
    obtain ⟨_, _, _, _, _, _, _, ⟨d, q, hd, hdf, eq⟩, _, _, _, _, _, hp, _⟩ := hb
    obtain ⟨rs', hl, hA⟩ := hC
    subst hl
    obtain ⟨ht, hA2, hB2⟩ := hA.store (i := n) hn hd hdf
    have hcs := hdf.len
    refine OpOk.storeMid 93 (.tmp 165) (.tmp 159) (by kernel_rfl) q ((by kernel_rfl : evalVE 168 (updL E (envE b w H wl i n m)) WA25 vals (.tmp 165) = vals 16).trans (List.cons.inj hp).1) ((by kernel_rfl : evalVE 168 (updL E (envE b w H wl i n m)) WA25 vals (.tmp 159) = vals 10).trans eq) (by rw [hcs]; exact ht) (by rw [hcs]; kernel_rfl) ?_ ⟨⟨rs'.set n q, by simp, ?_⟩, hB2, trivial⟩
    · obtain ⟨_, _, _, _, _, _, _, _, _, _, _, _, _, _, rfl⟩ := hdf.cells
      rfl
    · rw [List.length_set] at hA2; exact hA2
  · refine ⟨fun _ _ _ _ _ h => h, fun vals u hC hb => ?_⟩
    obtain ⟨_, _, _, _, hx, hi, _⟩ := hb
    exact OpOk.knownE [(153, 4, (.slice (some ⟨g, 0, none⟩) N cap)), (154, 5, .int .i64 m)] (by kernel_rfl) ⟨(List.cons.inj hx).1, (List.cons.inj hi).1, trivial⟩ (OpOk.indexAt 52 (.tmp 153) (.tmp 154) (by kernel_rfl) (len := N) (cap := cap) (k := m) (sz := 21) (e := 93) (by kernel_rfl) (by kernel_rfl) hm (by kernel_rfl) (by kernel_rfl) ⟨hC, .refl _ _ _, rfl⟩)
  · refine ⟨fun _ _ _ _ _ h => h, fun vals u hC hb => ?_⟩
    obtain ⟨_, _, _, _, _, _, _, _, _, _, _, _, _, _, _, ⟨d, q, hd, hdf, eq⟩, _, _, hp, _⟩ := hb
    obtain ⟨rs', hl, hA⟩ := hC
    subst hl
    obtain ⟨ht, hA2, hB2⟩ := hA.store (i := m) hm hd hdf
    have hcs := hdf.len
    refine OpOk.storeMid 93 (.tmp 166) (.tmp 164) (by kernel_rfl) q ((by kernel_rfl : evalVE 168 (updL E (envE b w H wl i n m)) WA25 vals (.tmp 166) = vals 18).trans (List.cons.inj hp).1) ((by kernel_rfl : evalVE 168 (updL E (envE b w H wl i n m)) WA25 vals (.tmp 164) = vals 15).trans eq) (by rw [hcs]; exact ht) (by rw [hcs]; kernel_rfl) ?_ ⟨⟨rs'.set m q, by simp, ?_⟩, hB2, trivial⟩
    · obtain ⟨_, _, _, _, _, _, _, _, _, _, _, _, _, _, rfl⟩ := hdf.cells
      rfl
    · rw [List.length_set] at hA2; exact hA2
set_option maxRecDepth 100000 in
set_option maxHeartbeats 1000000 in
theorem regionA25 {g cap n m : Nat} (hA : Ag b ns (max 1 H) w r (.slice (some ⟨g, 0, none⟩) rs.length cap) (.slice (some ⟨g, 0, none⟩) rs.length cap) X rs wx) (hn : n < rs.length) (hm : m < rs.length) {R : Ending → World → Prop} {td : List Item} (hd : curDraw td = some opsA25)
    (hk : ∀ rs' u E', rs'.length = rs.length → Ag b ns (max 1 H) w r (.slice (some ⟨g, 0, none⟩) rs.length cap) (.slice (some ⟨g, 0, none⟩) rs.length cap) X rs' u → At Tryz.prog 30 R (tailT td) (Fr 168 (updL E' (envD b w H wl i))) u) :
    At Tryz.prog 30 R td (Fr 168 (updL E (envE b w H wl i n m))) wx := by
  have hlt := hA.ph.lt
  refine at_draw opsA25 hd (by kernel_rfl) 20 (by kernel_rfl) ?_
  refine any_partsE (fuel := 0) (L := LA25 (max 1 H) w X g rs.length cap n m) (W := WA25) (C := fun u => ∃ rs' : List (List Value), rs'.length = rs.length ∧ Ag b ns (max 1 H) w r (.slice (some ⟨g, 0, none⟩) rs.length cap) (.slice (some ⟨g, 0, none⟩) rs.length cap) X rs' u) (Ext := But2 b g) (okA25 (max 1 H) w X g rs.length cap n m) ⟨rs, rfl, hA.below (Below.refl _ _).drew⟩ (But2.refl b g) (fun _ _ _ => But2.trans) (partsA25 hlt hn hm) rfl ?_
  intro vals u hC _ hall
  obtain ⟨rs', hl, hA2⟩ := hC
  have r1 : Region.ready .any opsA25 (((LA25 (max 1 H) w X g rs.length cap n m).map (·.idx)).foldl (fun b i => b.setIfInBounds i true) (Array.replicate 20 false)) = [] := by kernel_rfl
  have qs : (envD b w H wl i).map (fun p => finE opsA25 vals ((LA25 (max 1 H) w X g rs.length cap n m).map (·.idx)) (updL E (envE b w H wl i n m)) p.1) = (envD b w H wl i).map (·.2) := by kernel_rfl
  refine any_end r1 ⟨rfl, At.mid ?_⟩
  exact at_known (envD b w H wl i) qs fun E' => hk rs' u E' hl hA2
end
end Go.Proofs.YtpdbkbadjgellaaGreatDoor

/-
  payrollgen's Agreement: the statements that append definitions.
-/
import Derived.Test.YtpdbkbadjgellaaGreatDoorZ22
import Derived.Test.YtpdbkbadjgellaaGreatDoorZ21
import Derived.IntWalk
namespace Go.Proofs.YtpdbkbadjgellaaGreatDoor
open Go.RowKit

theorem info93 : (Tryz.prog.info? 93).map (fun i => (i.zero, i.size, i.bytes)) = some (some (.agg dfZero.toArray), 21, 216) := by kernel_rfl
def saysExS (m : Nat) (S : Nat → Prop) (v : Value) (u : World) : Prop := ∃ x cs, GenEx m x ∧ exS S u x cs ∧ v = .agg cs.toArray
def saysDfS (H : Nat) (S : Nat → Prop) (v : Value) (u : World) : Prop := ∃ d cs, okDef H d ∧ dfS S u d cs ∧ v = .agg cs.toArray
def saysRowsS (H : Nat) (S : Nat → Prop) (b n : Nat) (v : Value) (u : World) : Prop := ∃ (q : List (List Value)) (B : Nat), RowsOk (okDef H) S u q ∧ q.length = n ∧ v = .slice (some ⟨B, 0, none⟩) n n ∧ u.heap[B]? = some (.cells q.flatten.toArray 93 (0, 0)) ∧ B ≠ b
theorem one_rows {H : Nat} {S : Nat → Prop} {u : World} {q : List (List Value)} (h : RowsOk (okDef H) S u q) : ∀ x ∈ q.flatten, x.oneCell' = true := by
  intro x hx
  obtain ⟨r, hr, hxr⟩ := List.mem_flatten.1 hx
  obtain ⟨d, _, h2⟩ := h r hr
  obtain ⟨_, _, _, _, _, _, _, _, _, _, _, _, _, _, rfl⟩ := h2.cells
  simp only [List.mem_cons, List.not_mem_nil, or_false] at hxr
  rcases hxr with rfl | rfl | rfl | rfl | rfl | rfl | rfl | rfl | rfl | rfl | rfl | rfl | rfl | rfl | rfl | rfl | rfl | rfl | rfl | rfl | rfl <;> rfl
def nm4 : List (List UInt8) := [[114, 49], [114, 50], [114, 51], [114, 52]]
def ty4 : List (Bool × Int × Int × Int) := [tRate, tMoney, tTruth, tNumber]
def nameV (i : Nat) : Value := .string ⟨(nm4.getD i []).toArray⟩
def typeV (i : Nat) : Value := tyAgg (ty4.getD i tNumber)
def sl4 (g : Nat) : Value := .slice (some ⟨g, 0, none⟩) 4 4
def XN (gN gT : Nat) : List Ent := [⟨gN, 0, [nameV 0, nameV 1, nameV 2, nameV 3], 9, true⟩, ⟨gT, 0, [.bool false, .int .i64 1, .int .i64 (-1), .int .i64 0, .bool false, .int .i64 1, .int .i64 0, .int .i64 0, .bool true, .int .i64 0, .int .i64 0, .int .i64 0, .bool false, .int .i64 0, .int .i64 0, .int .i64 0], 87, true⟩]
def envA (b : Nat) (w : World) (H : Nat) (wl : Bool) : List (Nat × Value) := [(0, pt b 0), (1, .int .i64 H), (2, .bool wl), (6, pt w.heap.size 0), (7, pt (w.heap.size + 1) 0)]
def envB (b : Nat) (w : World) (H : Nat) (wl : Bool) (gN gT i : Nat) (rules k : Int) : List (Nat × Value) := envA b w H wl ++ [(8, sl4 gN), (9, sl4 gT), (10, .int .i64 i), (11, .int .i64 rules), (12, .int .i64 k)]
def envC (b : Nat) (w : World) (H : Nat) (wl : Bool) (i : Nat) : List (Nat × Value) := envA b w H wl ++ [(13, .int .i64 i)]
def dRule (i : Nat) (frm : Int) (x : Ex) : Df := ⟨3, nm4.getD i [], (ty4.getD i tNumber).1, (ty4.getD i tNumber).2.1, (ty4.getD i tNumber).2.2.1, (ty4.getD i tNumber).2.2.2, frm, [], x, 0, 0, 0⟩
theorem dRule_ok {H i : Nat} {frm : Int} {x : Ex} (hi : i = 0 ∨ i = 1 ∨ i = 2 ∨ i = 3) (h0 : 0 ≤ frm) (h1 : frm ≤ 30000) (hx : GenEx H x) : okDef H (dRule i frm x) := by
  unfold okDef dRule
  rcases hi with rfl | rfl | rfl | rfl <;> simp [nm4, ty4, tRate, tMoney, tTruth, tNumber, h0, h1, hx]
theorem ty4_mem {i : Nat} (hi : i = 0 ∨ i = 1 ∨ i = 2 ∨ i = 3) : ty4.getD i tNumber ∈ fiveTypes := by
  rcases hi with rfl | rfl | rfl | rfl <;> simp [ty4, fiveTypes]
def nmP : List (List UInt8) := [[97], [98]]
def nameP (i : Nat) : Value := .string ⟨(nmP.getD i []).toArray⟩
def stepsP : List (Int × Int) := [(1, 100), (1, 20), (1, 1)]
def dPay (i : Nat) (x : Ex) (mode num den : Int) : Df := ⟨4, nmP.getD i [], false, 0, 0, 0, 20454, [], x, mode, num, den⟩
theorem dPay_ok {H i : Nat} {x : Ex} {mode num den : Int} (hi : i = 0 ∨ i = 1) (hx : GenEx H x) (h0 : 0 ≤ mode) (h1 : mode ≤ 6) (hs : (num, den) ∈ stepsP) : okDef H (dPay i x mode num den) := by
  have h2 : 0 ≤ num ∧ num ≤ 100 ∧ 0 ≤ den ∧ den ≤ 100 := by
    simp only [stepsP, List.mem_cons, List.not_mem_nil, or_false, Prod.mk.injEq] at hs; omega
  unfold okDef dPay
  rcases hi with rfl | rfl <;> simp [nmP, hx, h0, h1, h2]
def saysPtrS (b : Nat) (l : List Value) (T : TypeId) (o : Nat) (v : Value) (u : World) : Prop := ∃ B, v = pt B o ∧ u.heap[B]? = some (.cells l.toArray T (0, 0)) ∧ B ≠ b
def saysPtr3P (b : Nat) (v : Value) (u : World) : Prop := ∃ k : Nat, k < 3 ∧ saysPtrS b (ints [1, 100, 1, 20, 1, 1]) 33 (k * 2) v u
def saysStepP (v : Value) : Prop := ∃ x, x ∈ stepsP ∧ v = rat x.1 x.2
section
variable {b : Nat} {ns : List Int} {H : Nat} {w : World} {r : List Value} {v : Value} {X : List Ent} {rs : List (List Value)} {wx : World} {wl : Bool} {E : Nat → Value}
theorem saysExS_keep {m : Nat} {val : Value} {u u' : World} (hlt : b < w.heap.size) (h : saysExS m (SA w v X) val u) (he : But b u u') : saysExS m (SA w v X) val u' := by
  obtain ⟨x, cs, k1, k2, k3⟩ := h
  exact ⟨x, cs, k1, exS.keep he.size (fun g hS hl => SA.keep hlt he hS hl) _ _ k2, k3⟩
theorem saysDfS_keep {val : Value} {u u' : World} (hlt : b < w.heap.size) (h : saysDfS (max 1 H) (SA w v X) val u) (he : But b u u') : saysDfS (max 1 H) (SA w v X) val u' := by
  obtain ⟨x, cs, k1, k2, k3⟩ := h
  exact ⟨x, cs, k1, k2.keep he.size (fun g hS hl => SA.keep hlt he hS hl), k3⟩
theorem saysRowsS_keep {n : Nat} {val : Value} {u u' : World} (hlt : b < w.heap.size) (h : saysRowsS (max 1 H) (SA w v X) b n val u) (he : But b u u') : saysRowsS (max 1 H) (SA w v X) b n val u' := by
  obtain ⟨q, B, k1, k2, k3, k4, k5⟩ := h
  exact ⟨q, B, k1.keep he.size (fun g hS hl => SA.keep hlt he hS hl), k2, k3, (he.block _ (heap_lt k4) k5).trans k4, k5⟩

noncomputable def opsA3 : Array Oper := regOf Tryz.f30 3
def WA3 : Wr := [(29, 0), (30, 1), (31, 2), (32, 3), (33, 4), (34, 5), (35, 6), (36, 7), (37, 8)]
def LA3 (b H : Nat) (w : World) (v : Value) (X : List Ent)  : List Loc :=
  [pureL 0 [] (.pointer (some ⟨w.heap.size + 1, 1, none⟩)),
   pureL 1 [0] v,
   pureL 2 [] (pt b 0),
   pureL 3 [] (tyAgg tRate),
   ⟨4, [2, 3], [4], fun vs u => saysDfS (max 1 H) (SA w v X) (vs.getD 0 undef) u⟩,
   pureL 5 [] (pt b 0),
   pureL 6 [2, 3, 4] (tyAgg tNumber),
   ⟨7, [2, 3, 4, 5, 6], [7], fun vs u => saysDfS (max 1 H) (SA w v X) (vs.getD 0 undef) u⟩,
   ⟨8, [2, 3, 4, 5, 6, 7], [8], fun vs u => saysRowsS (max 1 H) (SA w v X) b 2 (vs.getD 0 undef) u⟩]
theorem okA3 (b H : Nat) (w : World) (v : Value) (X : List Ent)  : (locOk .any opsA3 WA3 (Array.replicate 12 false) 168 (LA3 b H w v X ) && bare opsA3 (LA3 b H w v X )) = true := by kernel_rfl
set_option maxRecDepth 100000 in
set_option maxHeartbeats 1000000 in
theorem partsA3 (hlt : b < w.heap.size)  : PartsE Tryz.prog opsA3 168 (updL E (envA b w H wl)) WA3 (fun u => Ag b ns (max 1 H) w r v v X rs u) (But b) (LA3 b H w v X ) (LA3 b H w v X ) := by
  refine ⟨part_pureE (But.refl b) (fun _ _ _ _ => by kernel_rfl), ?_, part_pureE (But.refl b) (fun _ _ _ _ => by kernel_rfl), ?_, ?_, part_pureE (But.refl b) (fun _ _ _ _ => by kernel_rfl), ?_, ?_, ?_, trivial⟩
  · refine ⟨fun _ _ _ _ _ h => h, fun vals u hC hb => ?_⟩
    obtain ⟨h0, _⟩ := hb
    exact OpOk.knownE [(29, 0, (.pointer (some ⟨w.heap.size + 1, 1, none⟩)))] (by kernel_rfl) ⟨(List.cons.inj h0).1, trivial⟩ (OpOk.reads ⟨0, memA w r v X, (1, 1), []⟩ hC.ph.lies.sat.good v (by kernel_rfl) (by kernel_rfl) ⟨hC, .refl _ _, rfl⟩)
  · refine ⟨fun _ _ _ _ _ h => h, fun vals u hC hb => ?_⟩
    refine OpOk.call (f := 63) [] (args := []) (ats := #[]) (by kernel_rfl) rfl rfl (run_callable (by kernel_rfl) _ _) ?_
    refine (rate_ty u).mono ?_
    rintro e u' ⟨rfl, hb'⟩
    exact ⟨_, rfl, hC.below hb', .of_below hb', rfl⟩
  · refine ⟨fun _ u u' _ he h => saysDfS_keep hlt h he, fun vals u hC hb => ?_⟩
    obtain ⟨h2, h3, _⟩ := hb
    refine OpOk.call (f := 62) [.tmp 31, .const (.string ⟨#[119]⟩), .tmp 32, .const (.int .i64 20454)] (args := [pt b 0, .string ⟨[119].toArray⟩, tyAgg tRate, .int .i64 20454]) (ats := #[23, 9, 87, 3]) (by kernel_rfl) rfl ?_ (run_callable (by kernel_rfl) _ _) ?_
    · rw [show [.tmp 31, .const (.string ⟨#[119]⟩), .tmp 32, .const (.int .i64 20454)].map (evalVE 168 (updL E (envA b w H wl)) WA3 vals) = [vals 2, .string ⟨[119].toArray⟩, vals 3, .int .i64 20454] by kernel_rfl, (List.cons.inj h2).1, (List.cons.inj h3).1]
    · refine (scale_any (b := b) (ns := ns) (nm := [119]) (tb := tRate.1) (tm := tRate.2.1) (th := tRate.2.2.1) (td := tRate.2.2.2) (frm := 20454) (w := u) hC.ph.tape).mono ?_
      rintro e u' ⟨d, cs, ⟨⟨k1, k2, k3, k4, k5, k6, k7⟩, m1, m2, m3, m4, m5, m6⟩, hdf, rfl, hT, hB⟩
      have m3' : d.tm = tRate.2.1 := m3
      have m4' : d.th = tRate.2.2.1 := m4
      have m5' : d.td = tRate.2.2.2 := m5
      refine ⟨_, rfl, hC.call hT hB, hB, d, cs, ⟨by omega, by omega, by rw [m1]; decide, by rw [m3']; decide, by rw [m3']; decide, by rw [m4']; decide, by rw [m4']; decide, by rw [m5']; decide, by rw [m5']; decide, by omega, by omega, k6, k7, .inl k2, fun h => (by omega), by omega, by omega, by omega, by omega, by omega, by omega⟩, ?_, rfl⟩
      exact dfS.of hdf (fun g hg _ => hC.fresh hg)
  · refine ⟨fun _ _ _ _ _ h => h, fun vals u hC hb => ?_⟩
    refine OpOk.call (f := 64) [] (args := []) (ats := #[]) (by kernel_rfl) rfl rfl (run_callable (by kernel_rfl) _ _) ?_
    refine (number_ty u).mono ?_
    rintro e u' ⟨rfl, hb'⟩
    exact ⟨_, rfl, hC.below hb', .of_below hb', rfl⟩
  · refine ⟨fun _ u u' _ he h => saysDfS_keep hlt h he, fun vals u hC hb => ?_⟩
    obtain ⟨_, _, _, h5, h6, _⟩ := hb
    refine OpOk.call (f := 62) [.tmp 34, .const (.string ⟨#[115]⟩), .tmp 35, .const (.int .i64 20454)] (args := [pt b 0, .string ⟨[115].toArray⟩, tyAgg tNumber, .int .i64 20454]) (ats := #[23, 9, 87, 3]) (by kernel_rfl) rfl ?_ (run_callable (by kernel_rfl) _ _) ?_
    · rw [show [.tmp 34, .const (.string ⟨#[115]⟩), .tmp 35, .const (.int .i64 20454)].map (evalVE 168 (updL E (envA b w H wl)) WA3 vals) = [vals 5, .string ⟨[115].toArray⟩, vals 6, .int .i64 20454] by kernel_rfl, (List.cons.inj h5).1, (List.cons.inj h6).1]
    · refine (scale_any (b := b) (ns := ns) (nm := [115]) (tb := tNumber.1) (tm := tNumber.2.1) (th := tNumber.2.2.1) (td := tNumber.2.2.2) (frm := 20454) (w := u) hC.ph.tape).mono ?_
      rintro e u' ⟨d, cs, ⟨⟨k1, k2, k3, k4, k5, k6, k7⟩, m1, m2, m3, m4, m5, m6⟩, hdf, rfl, hT, hB⟩
      have m3' : d.tm = tNumber.2.1 := m3
      have m4' : d.th = tNumber.2.2.1 := m4
      have m5' : d.td = tNumber.2.2.2 := m5
      refine ⟨_, rfl, hC.call hT hB, hB, d, cs, ⟨by omega, by omega, by rw [m1]; decide, by rw [m3']; decide, by rw [m3']; decide, by rw [m4']; decide, by rw [m4']; decide, by rw [m5']; decide, by rw [m5']; decide, by omega, by omega, k6, k7, .inl k2, fun h => (by omega), by omega, by omega, by omega, by omega, by omega, by omega⟩, ?_, rfl⟩
      exact dfS.of hdf (fun g hg _ => hC.fresh hg)
  · refine ⟨fun _ u u' _ he h => saysRowsS_keep hlt h he, fun vals u hC hb => ?_⟩
    obtain ⟨_, _, ⟨d0, c0, hd0, hc0, e0⟩, _, _, ⟨d1, c1, hd1, hc1, e1⟩, _⟩ := hb
    have hal : Below u.heap.size u (u.alloc (.cells [c0, c1].flatten.toArray 93)) := (Below.refl _ _).alloc (Nat.le_refl _) _
    obtain ⟨z0_0, z0_1, z0_2, z0_3, z0_4, z0_5, z0_6, z0_7, z0_8, z0_9, z0_10, z0_11, z0_12, z0_13, rfl⟩ := hc0.cells
    obtain ⟨z1_0, z1_1, z1_2, z1_3, z1_4, z1_5, z1_6, z1_7, z1_8, z1_9, z1_10, z1_11, z1_12, z1_13, rfl⟩ := hc1.cells
    refine OpOk.knownE [(33, 4, .agg ([.int .i64 d0.kind, .string ⟨d0.name.toArray⟩, .bool d0.tb, .int .i64 d0.tm, .int .i64 d0.th, .int .i64 d0.td, .int .i64 d0.frm, .slice z0_0 d0.ents.length z0_1, .int .i64 z0_2, .int .i64 z0_3, .int .i64 z0_4, .int .i64 z0_5, .int .i64 z0_6, .int .i64 z0_7, .string ⟨z0_8.toArray⟩, .int .i64 z0_9, .int .i64 z0_10, .slice z0_11 z0_12 z0_13, .int .i64 d0.mode, .int .i64 d0.num, .int .i64 d0.den] : List Value).toArray), (36, 7, .agg ([.int .i64 d1.kind, .string ⟨d1.name.toArray⟩, .bool d1.tb, .int .i64 d1.tm, .int .i64 d1.th, .int .i64 d1.td, .int .i64 d1.frm, .slice z1_0 d1.ents.length z1_1, .int .i64 z1_2, .int .i64 z1_3, .int .i64 z1_4, .int .i64 z1_5, .int .i64 z1_6, .int .i64 z1_7, .string ⟨z1_8.toArray⟩, .int .i64 z1_9, .int .i64 z1_10, .slice z1_11 z1_12 z1_13, .int .i64 d1.mode, .int .i64 d1.num, .int .i64 d1.den] : List Value).toArray)] (by kernel_rfl) ⟨e0, e1, trivial⟩ (OpOk.value (v := .slice (some ⟨u.heap.size, 0, none⟩) 2 2) (w' := u.alloc (.cells [([.int .i64 d0.kind, .string ⟨d0.name.toArray⟩, .bool d0.tb, .int .i64 d0.tm, .int .i64 d0.th, .int .i64 d0.td, .int .i64 d0.frm, .slice z0_0 d0.ents.length z0_1, .int .i64 z0_2, .int .i64 z0_3, .int .i64 z0_4, .int .i64 z0_5, .int .i64 z0_6, .int .i64 z0_7, .string ⟨z0_8.toArray⟩, .int .i64 z0_9, .int .i64 z0_10, .slice z0_11 z0_12 z0_13, .int .i64 d0.mode, .int .i64 d0.num, .int .i64 d0.den] : List Value), ([.int .i64 d1.kind, .string ⟨d1.name.toArray⟩, .bool d1.tb, .int .i64 d1.tm, .int .i64 d1.th, .int .i64 d1.td, .int .i64 d1.frm, .slice z1_0 d1.ents.length z1_1, .int .i64 z1_2, .int .i64 z1_3, .int .i64 z1_4, .int .i64 z1_5, .int .i64 z1_6, .int .i64 z1_7, .string ⟨z1_8.toArray⟩, .int .i64 z1_9, .int .i64 z1_10, .slice z1_11 z1_12 z1_13, .int .i64 d1.mode, .int .i64 d1.num, .int .i64 d1.den] : List Value)].flatten.toArray 93)) (by kernel_rfl) ⟨hC.below hal, .of_below hal, [([.int .i64 d0.kind, .string ⟨d0.name.toArray⟩, .bool d0.tb, .int .i64 d0.tm, .int .i64 d0.th, .int .i64 d0.td, .int .i64 d0.frm, .slice z0_0 d0.ents.length z0_1, .int .i64 z0_2, .int .i64 z0_3, .int .i64 z0_4, .int .i64 z0_5, .int .i64 z0_6, .int .i64 z0_7, .string ⟨z0_8.toArray⟩, .int .i64 z0_9, .int .i64 z0_10, .slice z0_11 z0_12 z0_13, .int .i64 d0.mode, .int .i64 d0.num, .int .i64 d0.den] : List Value), ([.int .i64 d1.kind, .string ⟨d1.name.toArray⟩, .bool d1.tb, .int .i64 d1.tm, .int .i64 d1.th, .int .i64 d1.td, .int .i64 d1.frm, .slice z1_0 d1.ents.length z1_1, .int .i64 z1_2, .int .i64 z1_3, .int .i64 z1_4, .int .i64 z1_5, .int .i64 z1_6, .int .i64 z1_7, .string ⟨z1_8.toArray⟩, .int .i64 z1_9, .int .i64 z1_10, .slice z1_11 z1_12 z1_13, .int .i64 d1.mode, .int .i64 d1.num, .int .i64 d1.den] : List Value)], u.heap.size, ?_, rfl, rfl, heap_alloc_new _ _, ?_⟩)
    · intro row hrow
      simp only [List.mem_cons, List.not_mem_nil, or_false] at hrow
      rcases hrow with rfl | rfl
      · exact ⟨d0, hd0, hc0.keep (by simp) (fun g hS hl => ⟨hS, heap_alloc_old _ _ _ hl⟩)⟩
      · exact ⟨d1, hd1, hc1.keep (by simp) (fun g hS hl => ⟨hS, heap_alloc_old _ _ _ hl⟩)⟩
    · have := hC.ph.tape.lt; omega
set_option maxRecDepth 100000 in
set_option maxHeartbeats 1000000 in
theorem regionA3  (hA : Ag b ns (max 1 H) w r v v X rs wx) (hrs : rs.length ≤ 100) {R : Ending → World → Prop} {td : List Item} (hd : curDraw td = some opsA3)
    (hk : ∀ v' q u E', Ag b ns (max 1 H) w r v' v' X (rs ++ q) u → q.length = 2 → At Tryz.prog 30 R (tailT td) (Fr 168 (updL E' (envA b w H wl))) u) :
    At Tryz.prog 30 R td (Fr 168 (updL E (envA b w H wl))) wx := by
  have hlt := hA.ph.lt
  refine at_draw opsA3 hd (by kernel_rfl) 12 (by kernel_rfl) ?_
  refine any_partsE (fuel := 3) (L := (LA3 b H w v X )) (W := WA3) (C := (fun u => Ag b ns (max 1 H) w r v v X rs u)) (Ext := But b) (okA3 b H w v X ) (hA.below (Below.refl _ _).drew) (But.refl b) (fun _ _ _ => But.trans) (partsA3 hlt ) rfl ?_
  intro vals u hC _ hall
  obtain ⟨_, e1, _, _, _, _, _, _, ⟨q, B, hq, hql, eB, hB, _⟩, _⟩ := hall
  have r1 : Region.ready .any opsA3 (((LA3 b H w v X ).map (·.idx)).foldl (fun b i => b.setIfInBounds i true) (Array.replicate 12 false)) = [9] := by kernel_rfl
  have r2 : Region.ready .any opsA3 ((((LA3 b H w v X ).map (·.idx)).foldl (fun b i => b.setIfInBounds i true) (Array.replicate 12 false)).setIfInBounds 9 true) = [10] := by kernel_rfl
  have r3 : Region.ready .any opsA3 (((((LA3 b H w v X ).map (·.idx)).foldl (fun b i => b.setIfInBounds i true) (Array.replicate 12 false)).setIfInBounds 9 true).setIfInBounds 10 true) = [11] := by kernel_rfl
  have r4 : Region.ready .any opsA3 ((((((LA3 b H w v X ).map (·.idx)).foldl (fun b i => b.setIfInBounds i true) (Array.replicate 12 false)).setIfInBounds 9 true).setIfInBounds 10 true).setIfInBounds 11 true) = [] := by kernel_rfl
  have q1 : evE 168 (finE opsA3 vals ((LA3 b H w v X ).map (·.idx)) (updL E (envA b w H wl))) (.tmp 30) = vals 1 := by kernel_rfl
  have q2 : evE 168 (finE opsA3 vals ((LA3 b H w v X ).map (·.idx)) (updL E (envA b w H wl))) (.tmp 37) = vals 8 := by kernel_rfl
  have qs : (envA b w H wl).map (fun p => (finE opsA3 vals ((LA3 b H w v X ).map (·.idx)) (updL E (envA b w H wl))) p.1) = (envA b w H wl).map (·.2) := by kernel_rfl
  generalize (((LA3 b H w v X ).map (·.idx)).foldl (fun b i => b.setIfInBounds i true) (Array.replicate 12 false)) = lst at *
  generalize (finE opsA3 vals ((LA3 b H w v X ).map (·.idx)) (updL E (envA b w H wl))) = E8 at *
  refine any_one (fuel := 2) r1 (show opsA3[9]? = some (opsA3.getD 9 default) by kernel_rfl) (by kernel_rfl) ?_
  have hsz : w.heap.size + 2 ≤ u.heap.size := by
    have := (hC.ph.lies.sat.good ⟨w.heap.size + 1, 0, [metal, v], 54, true⟩ (by simp [memA])).1
    simp only at this
    omega
  refine wp_append (.tmp 30) (.tmp 37) 52 (by kernel_rfl) (w.heap.size + 2) 93 (by kernel_rfl) info93 (by rfl) (by decide) v rs.length rs.flatten (by rw [eval_Fr, q1]; exact (List.cons.inj e1).1) hC.own ⟨B, 0, none⟩ 2 2 q.flatten (by rw [eval_Fr, q2]; exact eB) (by rw [flat_len hq.len, hql]) ?_ (one_rows hq) (by decide) (by unfold maxLen; omega) (by omega) hsz ?_
  · intro jj uu hju
    rw [Addr.add_mid]
    exact rangeAt_all hB jj uu hju
  · intro v' u2 O8 hg8 hw8
    have A8 := hC.append hq (by rw [hql]; exact O8) hg8 hw8
    obtain ⟨wA, wc, rfl⟩ := owns_slice O8
    rw [show (opsA3.getD 9 default).dst = some 38 by kernel_rfl, Fr_put, ← updL_same qs]
    refine any_run (fuel := 1) (opsA3.getD 10 default) ⟨u2.heap.size, memA w r v X, (0, 0), []⟩ ⟨u2.heap.size, memA w r v X, (0, 0), []⟩ (.value (.pointer (some ⟨w.heap.size + 1, 1, none⟩))) (.pointer (some ⟨w.heap.size + 1, 1, none⟩)) r2 (by kernel_rfl) (by kernel_rfl) (by kernel_rfl) (.inl rfl) A8.ph.lies rfl fun u3 hL9 hK9 => ?_
    have A9 := A8.run hK9 hL9 (fun e he => .inl ⟨e, he, rfl⟩)
    rw [show (opsA3.getD 10 default).dst = some 39 by kernel_rfl]
    refine any_run (fuel := 0) (opsA3.getD 11 default) ⟨u3.heap.size, memA w r v X, (1, 1), []⟩ ⟨u3.heap.size, memA w r (.slice wA (rs.length + 2) wc) X, (1, 2), [(w.heap.size + 1, w.heap.size + 1), (1, 1)]⟩ .skip undef r3 (by kernel_rfl) (by kernel_rfl) (by kernel_rfl) (.inr ⟨rfl, rfl⟩) ⟨A9.ph.lies.sat, A9.ph.lies.le, A9.ph.lies.own⟩ rfl fun u4 hL10 hK10 => ?_
    have A10 := A9.run hK10 hL10 (fun e he => .inl ⟨e, he, rfl⟩)
    rw [show (opsA3.getD 11 default).dst = none by kernel_rfl]
    refine any_end r4 ⟨rfl, At.mid ?_⟩
    exact at_known (envA b w H wl) (by kernel_rfl) fun E' => hk _ q u4 E' A10 hql
noncomputable def opsA5 : Array Oper := regOf Tryz.f30 5
def WA5 : Wr := [(43, 0), (44, 1), (45, 2), (46, 3), (47, 4), (48, 5)]
def LA5 (b H : Nat) (w : World) (v : Value) (X : List Ent)  : List Loc :=
  [pureL 0 [] (.pointer (some ⟨w.heap.size + 1, 1, none⟩)),
   pureL 1 [0] v,
   pureL 2 [] (pt b 0),
   pureL 3 [] (tyAgg tRate),
   ⟨4, [2, 3], [4], fun vs u => saysDfS (max 1 H) (SA w v X) (vs.getD 0 undef) u⟩,
   ⟨5, [2, 3, 4], [5], fun vs u => saysRowsS (max 1 H) (SA w v X) b 1 (vs.getD 0 undef) u⟩]
theorem okA5 (b H : Nat) (w : World) (v : Value) (X : List Ent)  : (locOk .any opsA5 WA5 (Array.replicate 9 false) 168 (LA5 b H w v X ) && bare opsA5 (LA5 b H w v X )) = true := by kernel_rfl
set_option maxRecDepth 100000 in
set_option maxHeartbeats 1000000 in
theorem partsA5 (hlt : b < w.heap.size)  : PartsE Tryz.prog opsA5 168 (updL E (envA b w H wl)) WA5 (fun u => Ag b ns (max 1 H) w r v v X rs u) (But b) (LA5 b H w v X ) (LA5 b H w v X ) := by
  refine ⟨part_pureE (But.refl b) (fun _ _ _ _ => by kernel_rfl), ?_, part_pureE (But.refl b) (fun _ _ _ _ => by kernel_rfl), ?_, ?_, ?_, trivial⟩
  · refine ⟨fun _ _ _ _ _ h => h, fun vals u hC hb => ?_⟩
    obtain ⟨h0, _⟩ := hb
    exact OpOk.knownE [(43, 0, (.pointer (some ⟨w.heap.size + 1, 1, none⟩)))] (by kernel_rfl) ⟨(List.cons.inj h0).1, trivial⟩ (OpOk.reads ⟨0, memA w r v X, (1, 1), []⟩ hC.ph.lies.sat.good v (by kernel_rfl) (by kernel_rfl) ⟨hC, .refl _ _, rfl⟩)
  · refine ⟨fun _ _ _ _ _ h => h, fun vals u hC hb => ?_⟩
    refine OpOk.call (f := 63) [] (args := []) (ats := #[]) (by kernel_rfl) rfl rfl (run_callable (by kernel_rfl) _ _) ?_
    refine (rate_ty u).mono ?_
    rintro e u' ⟨rfl, hb'⟩
    exact ⟨_, rfl, hC.below hb', .of_below hb', rfl⟩
  · refine ⟨fun _ u u' _ he h => saysDfS_keep hlt h he, fun vals u hC hb => ?_⟩
    obtain ⟨h2, h3, _⟩ := hb
    refine OpOk.call (f := 62) [.tmp 45, .const (.string ⟨#[119]⟩), .tmp 46, .const (.int .i64 20459)] (args := [pt b 0, .string ⟨[119].toArray⟩, tyAgg tRate, .int .i64 20459]) (ats := #[23, 9, 87, 3]) (by kernel_rfl) rfl ?_ (run_callable (by kernel_rfl) _ _) ?_
    · rw [show [.tmp 45, .const (.string ⟨#[119]⟩), .tmp 46, .const (.int .i64 20459)].map (evalVE 168 (updL E (envA b w H wl)) WA5 vals) = [vals 2, .string ⟨[119].toArray⟩, vals 3, .int .i64 20459] by kernel_rfl, (List.cons.inj h2).1, (List.cons.inj h3).1]
    · refine (scale_any (b := b) (ns := ns) (nm := [119]) (tb := tRate.1) (tm := tRate.2.1) (th := tRate.2.2.1) (td := tRate.2.2.2) (frm := 20459) (w := u) hC.ph.tape).mono ?_
      rintro e u' ⟨d, cs, ⟨⟨k1, k2, k3, k4, k5, k6, k7⟩, m1, m2, m3, m4, m5, m6⟩, hdf, rfl, hT, hB⟩
      have m3' : d.tm = tRate.2.1 := m3
      have m4' : d.th = tRate.2.2.1 := m4
      have m5' : d.td = tRate.2.2.2 := m5
      refine ⟨_, rfl, hC.call hT hB, hB, d, cs, ⟨by omega, by omega, by rw [m1]; decide, by rw [m3']; decide, by rw [m3']; decide, by rw [m4']; decide, by rw [m4']; decide, by rw [m5']; decide, by rw [m5']; decide, by omega, by omega, k6, k7, .inl k2, fun h => (by omega), by omega, by omega, by omega, by omega, by omega, by omega⟩, ?_, rfl⟩
      exact dfS.of hdf (fun g hg _ => hC.fresh hg)
  · refine ⟨fun _ u u' _ he h => saysRowsS_keep hlt h he, fun vals u hC hb => ?_⟩
    obtain ⟨_, _, ⟨d0, c0, hd0, hc0, e0⟩, _⟩ := hb
    have hal : Below u.heap.size u (u.alloc (.cells [c0].flatten.toArray 93)) := (Below.refl _ _).alloc (Nat.le_refl _) _
    obtain ⟨z0_0, z0_1, z0_2, z0_3, z0_4, z0_5, z0_6, z0_7, z0_8, z0_9, z0_10, z0_11, z0_12, z0_13, rfl⟩ := hc0.cells
    refine OpOk.knownE [(47, 4, .agg ([.int .i64 d0.kind, .string ⟨d0.name.toArray⟩, .bool d0.tb, .int .i64 d0.tm, .int .i64 d0.th, .int .i64 d0.td, .int .i64 d0.frm, .slice z0_0 d0.ents.length z0_1, .int .i64 z0_2, .int .i64 z0_3, .int .i64 z0_4, .int .i64 z0_5, .int .i64 z0_6, .int .i64 z0_7, .string ⟨z0_8.toArray⟩, .int .i64 z0_9, .int .i64 z0_10, .slice z0_11 z0_12 z0_13, .int .i64 d0.mode, .int .i64 d0.num, .int .i64 d0.den] : List Value).toArray)] (by kernel_rfl) ⟨e0, trivial⟩ (OpOk.value (v := .slice (some ⟨u.heap.size, 0, none⟩) 1 1) (w' := u.alloc (.cells [([.int .i64 d0.kind, .string ⟨d0.name.toArray⟩, .bool d0.tb, .int .i64 d0.tm, .int .i64 d0.th, .int .i64 d0.td, .int .i64 d0.frm, .slice z0_0 d0.ents.length z0_1, .int .i64 z0_2, .int .i64 z0_3, .int .i64 z0_4, .int .i64 z0_5, .int .i64 z0_6, .int .i64 z0_7, .string ⟨z0_8.toArray⟩, .int .i64 z0_9, .int .i64 z0_10, .slice z0_11 z0_12 z0_13, .int .i64 d0.mode, .int .i64 d0.num, .int .i64 d0.den] : List Value)].flatten.toArray 93)) (by kernel_rfl) ⟨hC.below hal, .of_below hal, [([.int .i64 d0.kind, .string ⟨d0.name.toArray⟩, .bool d0.tb, .int .i64 d0.tm, .int .i64 d0.th, .int .i64 d0.td, .int .i64 d0.frm, .slice z0_0 d0.ents.length z0_1, .int .i64 z0_2, .int .i64 z0_3, .int .i64 z0_4, .int .i64 z0_5, .int .i64 z0_6, .int .i64 z0_7, .string ⟨z0_8.toArray⟩, .int .i64 z0_9, .int .i64 z0_10, .slice z0_11 z0_12 z0_13, .int .i64 d0.mode, .int .i64 d0.num, .int .i64 d0.den] : List Value)], u.heap.size, ?_, rfl, rfl, heap_alloc_new _ _, ?_⟩)
    · intro row hrow
      simp only [List.mem_cons, List.not_mem_nil, or_false] at hrow
      rcases hrow with rfl
      · exact ⟨d0, hd0, hc0.keep (by simp) (fun g hS hl => ⟨hS, heap_alloc_old _ _ _ hl⟩)⟩
    · have := hC.ph.tape.lt; omega
set_option maxRecDepth 100000 in
set_option maxHeartbeats 1000000 in
theorem regionA5  (hA : Ag b ns (max 1 H) w r v v X rs wx) (hrs : rs.length ≤ 100) {R : Ending → World → Prop} {td : List Item} (hd : curDraw td = some opsA5)
    (hk : ∀ v' q u E', Ag b ns (max 1 H) w r v' v' X (rs ++ q) u → q.length = 1 → At Tryz.prog 30 R (tailT td) (Fr 168 (updL E' (envA b w H wl))) u) :
    At Tryz.prog 30 R td (Fr 168 (updL E (envA b w H wl))) wx := by
  have hlt := hA.ph.lt
  refine at_draw opsA5 hd (by kernel_rfl) 9 (by kernel_rfl) ?_
  refine any_partsE (fuel := 3) (L := (LA5 b H w v X )) (W := WA5) (C := (fun u => Ag b ns (max 1 H) w r v v X rs u)) (Ext := But b) (okA5 b H w v X ) (hA.below (Below.refl _ _).drew) (But.refl b) (fun _ _ _ => But.trans) (partsA5 hlt ) rfl ?_
  intro vals u hC _ hall
  obtain ⟨_, e1, _, _, _, ⟨q, B, hq, hql, eB, hB, _⟩, _⟩ := hall
  have r1 : Region.ready .any opsA5 (((LA5 b H w v X ).map (·.idx)).foldl (fun b i => b.setIfInBounds i true) (Array.replicate 9 false)) = [6] := by kernel_rfl
  have r2 : Region.ready .any opsA5 ((((LA5 b H w v X ).map (·.idx)).foldl (fun b i => b.setIfInBounds i true) (Array.replicate 9 false)).setIfInBounds 6 true) = [7] := by kernel_rfl
  have r3 : Region.ready .any opsA5 (((((LA5 b H w v X ).map (·.idx)).foldl (fun b i => b.setIfInBounds i true) (Array.replicate 9 false)).setIfInBounds 6 true).setIfInBounds 7 true) = [8] := by kernel_rfl
  have r4 : Region.ready .any opsA5 ((((((LA5 b H w v X ).map (·.idx)).foldl (fun b i => b.setIfInBounds i true) (Array.replicate 9 false)).setIfInBounds 6 true).setIfInBounds 7 true).setIfInBounds 8 true) = [] := by kernel_rfl
  have q1 : evE 168 (finE opsA5 vals ((LA5 b H w v X ).map (·.idx)) (updL E (envA b w H wl))) (.tmp 44) = vals 1 := by kernel_rfl
  have q2 : evE 168 (finE opsA5 vals ((LA5 b H w v X ).map (·.idx)) (updL E (envA b w H wl))) (.tmp 48) = vals 5 := by kernel_rfl
  have qs : (envA b w H wl).map (fun p => (finE opsA5 vals ((LA5 b H w v X ).map (·.idx)) (updL E (envA b w H wl))) p.1) = (envA b w H wl).map (·.2) := by kernel_rfl
  generalize (((LA5 b H w v X ).map (·.idx)).foldl (fun b i => b.setIfInBounds i true) (Array.replicate 9 false)) = lst at *
  generalize (finE opsA5 vals ((LA5 b H w v X ).map (·.idx)) (updL E (envA b w H wl))) = E8 at *
  refine any_one (fuel := 2) r1 (show opsA5[6]? = some (opsA5.getD 6 default) by kernel_rfl) (by kernel_rfl) ?_
  have hsz : w.heap.size + 2 ≤ u.heap.size := by
    have := (hC.ph.lies.sat.good ⟨w.heap.size + 1, 0, [metal, v], 54, true⟩ (by simp [memA])).1
    simp only at this
    omega
  refine wp_append (.tmp 44) (.tmp 48) 52 (by kernel_rfl) (w.heap.size + 2) 93 (by kernel_rfl) info93 (by rfl) (by decide) v rs.length rs.flatten (by rw [eval_Fr, q1]; exact (List.cons.inj e1).1) hC.own ⟨B, 0, none⟩ 1 1 q.flatten (by rw [eval_Fr, q2]; exact eB) (by rw [flat_len hq.len, hql]) ?_ (one_rows hq) (by decide) (by unfold maxLen; omega) (by omega) hsz ?_
  · intro jj uu hju
    rw [Addr.add_mid]
    exact rangeAt_all hB jj uu hju
  · intro v' u2 O8 hg8 hw8
    have A8 := hC.append hq (by rw [hql]; exact O8) hg8 hw8
    obtain ⟨wA, wc, rfl⟩ := owns_slice O8
    rw [show (opsA5.getD 6 default).dst = some 49 by kernel_rfl, Fr_put, ← updL_same qs]
    refine any_run (fuel := 1) (opsA5.getD 7 default) ⟨u2.heap.size, memA w r v X, (0, 0), []⟩ ⟨u2.heap.size, memA w r v X, (0, 0), []⟩ (.value (.pointer (some ⟨w.heap.size + 1, 1, none⟩))) (.pointer (some ⟨w.heap.size + 1, 1, none⟩)) r2 (by kernel_rfl) (by kernel_rfl) (by kernel_rfl) (.inl rfl) A8.ph.lies rfl fun u3 hL9 hK9 => ?_
    have A9 := A8.run hK9 hL9 (fun e he => .inl ⟨e, he, rfl⟩)
    rw [show (opsA5.getD 7 default).dst = some 50 by kernel_rfl]
    refine any_run (fuel := 0) (opsA5.getD 8 default) ⟨u3.heap.size, memA w r v X, (1, 1), []⟩ ⟨u3.heap.size, memA w r (.slice wA (rs.length + 1) wc) X, (1, 2), [(w.heap.size + 1, w.heap.size + 1), (1, 1)]⟩ .skip undef r3 (by kernel_rfl) (by kernel_rfl) (by kernel_rfl) (.inr ⟨rfl, rfl⟩) ⟨A9.ph.lies.sat, A9.ph.lies.le, A9.ph.lies.own⟩ rfl fun u4 hL10 hK10 => ?_
    have A10 := A9.run hK10 hL10 (fun e he => .inl ⟨e, he, rfl⟩)
    rw [show (opsA5.getD 8 default).dst = none by kernel_rfl]
    refine any_end r4 ⟨rfl, At.mid ?_⟩
    exact at_known (envA b w H wl) (by kernel_rfl) fun E' => hk _ q u4 E' A10 hql
noncomputable def opsA16 : Array Oper := regOf Tryz.f30 16
def WA16 : Wr := [(76, 0), (77, 1), (78, 2), (79, 3), (80, 4), (81, 5), (82, 6), (83, 7), (84, 8), (85, 9), (86, 10), (87, 11), (88, 12), (89, 13), (90, 14), (91, 15), (92, 16), (93, 17), (94, 18), (95, 19), (96, 20), (97, 21), (98, 22)]
def LA16 (b H : Nat) (w : World) (v : Value) (X : List Ent) (gN gT i : Nat) (rules k : Int) : List Loc :=
  [pureL 0 [] (.pointer (some ⟨w.heap.size + 1, 1, none⟩)),
   pureL 1 [0] v,
   pureL 2 [] (sl4 gN),
   pureL 3 [] (.int .i64 i),
   pureL 4 [2, 3] (pt gN i),
   pureL 5 [2, 3, 4] (nameV i),
   pureL 6 [] (sl4 gT),
   pureL 7 [] (.int .i64 i),
   pureL 8 [6, 7] (pt gT (i * 4)),
   pureL 9 [6, 7, 8] (typeV i),
   pureL 10 [] (.int .i64 k),
   pureL 11 [10] (.int .i64 (IntKind.i64.wrap (5 * k))),
   pureL 12 [10, 11] (.int .i64 (IntKind.i64.wrap (20454 + IntKind.i64.wrap (5 * k)))),
   pureL 13 [] (pt b 0),
   pureL 14 [] (sl4 gT),
   pureL 15 [] (.int .i64 i),
   pureL 16 [14, 15] (pt gT (i * 4)),
   pureL 17 [14, 15, 16] (typeV i),
   pureL 18 [] (.int .i64 H),
   pureL 19 [] (.int .i64 rules),
   ⟨20, [13, 14, 15, 16, 17, 18, 19], [20], fun vs u => saysExS (max 1 H) (SA w v X) (vs.getD 0 undef) u⟩,
   ⟨21, [2, 3, 4, 5, 6, 7, 8, 9, 10, 11, 12, 13, 14, 15, 16, 17, 18, 19, 20], [21], fun vs u => saysDfS (max 1 H) (SA w v X) (vs.getD 0 undef) u⟩,
   ⟨22, [2, 3, 4, 5, 6, 7, 8, 9, 10, 11, 12, 13, 14, 15, 16, 17, 18, 19, 20, 21], [22], fun vs u => saysRowsS (max 1 H) (SA w v X) b 1 (vs.getD 0 undef) u⟩]
theorem okA16 (b H : Nat) (w : World) (v : Value) (X : List Ent) (gN gT i : Nat) (rules k : Int) : (locOk .any opsA16 WA16 (Array.replicate 26 false) 168 (LA16 b H w v X gN gT i rules k) && bare opsA16 (LA16 b H w v X gN gT i rules k)) = true := by kernel_rfl
set_option maxRecDepth 100000 in
set_option maxHeartbeats 1000000 in
theorem partsA16 (hlt : b < w.heap.size) {gN gT i : Nat} {rules k : Int} (IH : ExprSaid b ns H) (hH : H ≤ 100) (hi : i = 0 ∨ i = 1 ∨ i = 2 ∨ i = 3) (hr0 : 0 ≤ rules) (hr1 : rules ≤ 10) (hk0 : 0 ≤ k) (hk1 : k ≤ 1) : PartsE Tryz.prog opsA16 168 (updL E (envB b w H wl gN gT i rules k)) WA16 (fun u => Ag b ns (max 1 H) w r v v (XN gN gT) rs u) (But b) (LA16 b H w v (XN gN gT) gN gT i rules k) (LA16 b H w v (XN gN gT) gN gT i rules k) := by
  refine ⟨part_pureE (But.refl b) (fun _ _ _ _ => by kernel_rfl), ?_, part_pureE (But.refl b) (fun _ _ _ _ => by kernel_rfl), part_pureE (But.refl b) (fun _ _ _ _ => by kernel_rfl), ?_, ?_, part_pureE (But.refl b) (fun _ _ _ _ => by kernel_rfl), part_pureE (But.refl b) (fun _ _ _ _ => by kernel_rfl), ?_, ?_, part_pureE (But.refl b) (fun _ _ _ _ => by kernel_rfl), ?_, ?_, part_pureE (But.refl b) (fun _ _ _ _ => by kernel_rfl), part_pureE (But.refl b) (fun _ _ _ _ => by kernel_rfl), part_pureE (But.refl b) (fun _ _ _ _ => by kernel_rfl), ?_, ?_, part_pureE (But.refl b) (fun _ _ _ _ => by kernel_rfl), part_pureE (But.refl b) (fun _ _ _ _ => by kernel_rfl), ?_, ?_, ?_, trivial⟩
  · refine ⟨fun _ _ _ _ _ h => h, fun vals u hC hb => ?_⟩
    obtain ⟨h0, _⟩ := hb
    exact OpOk.knownE [(76, 0, (.pointer (some ⟨w.heap.size + 1, 1, none⟩)))] (by kernel_rfl) ⟨(List.cons.inj h0).1, trivial⟩ (OpOk.reads ⟨0, memA w r v (XN gN gT), (1, 1), []⟩ hC.ph.lies.sat.good v (by kernel_rfl) (by kernel_rfl) ⟨hC, .refl _ _, rfl⟩)
  · refine ⟨fun _ _ _ _ _ h => h, fun vals u hC hb => ?_⟩
    obtain ⟨h2, h3, _⟩ := hb
    rcases hi with rfl | rfl | rfl | rfl
    · exact OpOk.knownE [(78, 2, sl4 gN), (79, 3, .int .i64 ((0 : Nat) : Int))] (by kernel_rfl) ⟨(List.cons.inj h2).1, (List.cons.inj h3).1, trivial⟩ (OpOk.value (v := (pt gN 0)) (w' := u) (by kernel_rfl) ⟨hC, .refl _ _, rfl⟩)
    · exact OpOk.knownE [(78, 2, sl4 gN), (79, 3, .int .i64 ((1 : Nat) : Int))] (by kernel_rfl) ⟨(List.cons.inj h2).1, (List.cons.inj h3).1, trivial⟩ (OpOk.value (v := (pt gN 1)) (w' := u) (by kernel_rfl) ⟨hC, .refl _ _, rfl⟩)
    · exact OpOk.knownE [(78, 2, sl4 gN), (79, 3, .int .i64 ((2 : Nat) : Int))] (by kernel_rfl) ⟨(List.cons.inj h2).1, (List.cons.inj h3).1, trivial⟩ (OpOk.value (v := (pt gN 2)) (w' := u) (by kernel_rfl) ⟨hC, .refl _ _, rfl⟩)
    · exact OpOk.knownE [(78, 2, sl4 gN), (79, 3, .int .i64 ((3 : Nat) : Int))] (by kernel_rfl) ⟨(List.cons.inj h2).1, (List.cons.inj h3).1, trivial⟩ (OpOk.value (v := (pt gN 3)) (w' := u) (by kernel_rfl) ⟨hC, .refl _ _, rfl⟩)
  · refine ⟨fun _ _ _ _ _ h => h, fun vals u hC hb => ?_⟩
    obtain ⟨_, _, h4, _⟩ := hb
    rcases hi with rfl | rfl | rfl | rfl
    · exact OpOk.knownE [(80, 4, pt gN 0)] (by kernel_rfl) ⟨(List.cons.inj h4).1, trivial⟩ (OpOk.reads ⟨0, memA w r v (XN gN gT), (2, 0), []⟩ hC.ph.lies.sat.good (nameV 0) (by kernel_rfl) (by kernel_rfl) ⟨hC, .refl _ _, rfl⟩)
    · exact OpOk.knownE [(80, 4, pt gN 1)] (by kernel_rfl) ⟨(List.cons.inj h4).1, trivial⟩ (OpOk.reads ⟨0, memA w r v (XN gN gT), (2, 1), []⟩ hC.ph.lies.sat.good (nameV 1) (by kernel_rfl) (by kernel_rfl) ⟨hC, .refl _ _, rfl⟩)
    · exact OpOk.knownE [(80, 4, pt gN 2)] (by kernel_rfl) ⟨(List.cons.inj h4).1, trivial⟩ (OpOk.reads ⟨0, memA w r v (XN gN gT), (2, 2), []⟩ hC.ph.lies.sat.good (nameV 2) (by kernel_rfl) (by kernel_rfl) ⟨hC, .refl _ _, rfl⟩)
    · exact OpOk.knownE [(80, 4, pt gN 3)] (by kernel_rfl) ⟨(List.cons.inj h4).1, trivial⟩ (OpOk.reads ⟨0, memA w r v (XN gN gT), (2, 3), []⟩ hC.ph.lies.sat.good (nameV 3) (by kernel_rfl) (by kernel_rfl) ⟨hC, .refl _ _, rfl⟩)
  · refine ⟨fun _ _ _ _ _ h => h, fun vals u hC hb => ?_⟩
    obtain ⟨h6, h7, _⟩ := hb
    rcases hi with rfl | rfl | rfl | rfl
    · exact OpOk.knownE [(82, 6, sl4 gT), (83, 7, .int .i64 ((0 : Nat) : Int))] (by kernel_rfl) ⟨(List.cons.inj h6).1, (List.cons.inj h7).1, trivial⟩ (OpOk.value (v := (pt gT (0 * 4))) (w' := u) (by kernel_rfl) ⟨hC, .refl _ _, rfl⟩)
    · exact OpOk.knownE [(82, 6, sl4 gT), (83, 7, .int .i64 ((1 : Nat) : Int))] (by kernel_rfl) ⟨(List.cons.inj h6).1, (List.cons.inj h7).1, trivial⟩ (OpOk.value (v := (pt gT (1 * 4))) (w' := u) (by kernel_rfl) ⟨hC, .refl _ _, rfl⟩)
    · exact OpOk.knownE [(82, 6, sl4 gT), (83, 7, .int .i64 ((2 : Nat) : Int))] (by kernel_rfl) ⟨(List.cons.inj h6).1, (List.cons.inj h7).1, trivial⟩ (OpOk.value (v := (pt gT (2 * 4))) (w' := u) (by kernel_rfl) ⟨hC, .refl _ _, rfl⟩)
    · exact OpOk.knownE [(82, 6, sl4 gT), (83, 7, .int .i64 ((3 : Nat) : Int))] (by kernel_rfl) ⟨(List.cons.inj h6).1, (List.cons.inj h7).1, trivial⟩ (OpOk.value (v := (pt gT (3 * 4))) (w' := u) (by kernel_rfl) ⟨hC, .refl _ _, rfl⟩)
  · refine ⟨fun _ _ _ _ _ h => h, fun vals u hC hb => ?_⟩
    obtain ⟨_, _, h8, _⟩ := hb
    rcases hi with rfl | rfl | rfl | rfl
    · exact OpOk.knownE [(84, 8, pt gT (0 * 4))] (by kernel_rfl) ⟨(List.cons.inj h8).1, trivial⟩ (OpOk.reads ⟨0, memA w r v (XN gN gT), (3, 0 * 4), []⟩ hC.ph.lies.sat.good (typeV 0) (by kernel_rfl) (by kernel_rfl) ⟨hC, .refl _ _, rfl⟩)
    · exact OpOk.knownE [(84, 8, pt gT (1 * 4))] (by kernel_rfl) ⟨(List.cons.inj h8).1, trivial⟩ (OpOk.reads ⟨0, memA w r v (XN gN gT), (3, 1 * 4), []⟩ hC.ph.lies.sat.good (typeV 1) (by kernel_rfl) (by kernel_rfl) ⟨hC, .refl _ _, rfl⟩)
    · exact OpOk.knownE [(84, 8, pt gT (2 * 4))] (by kernel_rfl) ⟨(List.cons.inj h8).1, trivial⟩ (OpOk.reads ⟨0, memA w r v (XN gN gT), (3, 2 * 4), []⟩ hC.ph.lies.sat.good (typeV 2) (by kernel_rfl) (by kernel_rfl) ⟨hC, .refl _ _, rfl⟩)
    · exact OpOk.knownE [(84, 8, pt gT (3 * 4))] (by kernel_rfl) ⟨(List.cons.inj h8).1, trivial⟩ (OpOk.reads ⟨0, memA w r v (XN gN gT), (3, 3 * 4), []⟩ hC.ph.lies.sat.good (typeV 3) (by kernel_rfl) (by kernel_rfl) ⟨hC, .refl _ _, rfl⟩)
  · refine ⟨fun _ _ _ _ _ h => h, fun vals u hC hb => ?_⟩
    obtain ⟨h10, _⟩ := hb
    exact OpOk.knownE [(86, 10, .int .i64 k)] (by kernel_rfl) ⟨(List.cons.inj h10).1, trivial⟩ (OpOk.value (v := (.int .i64 (IntKind.i64.wrap (5 * k)))) (w' := u) (by kernel_rfl) ⟨hC, .refl _ _, rfl⟩)
  · refine ⟨fun _ _ _ _ _ h => h, fun vals u hC hb => ?_⟩
    obtain ⟨_, h11, _⟩ := hb
    exact OpOk.knownE [(87, 11, (.int .i64 (IntKind.i64.wrap (5 * k))))] (by kernel_rfl) ⟨(List.cons.inj h11).1, trivial⟩ (OpOk.value (v := (.int .i64 (IntKind.i64.wrap (20454 + IntKind.i64.wrap (5 * k))))) (w' := u) (by kernel_rfl) ⟨hC, .refl _ _, rfl⟩)
  · refine ⟨fun _ _ _ _ _ h => h, fun vals u hC hb => ?_⟩
    obtain ⟨h14, h15, _⟩ := hb
    rcases hi with rfl | rfl | rfl | rfl
    · exact OpOk.knownE [(90, 14, sl4 gT), (91, 15, .int .i64 ((0 : Nat) : Int))] (by kernel_rfl) ⟨(List.cons.inj h14).1, (List.cons.inj h15).1, trivial⟩ (OpOk.value (v := (pt gT (0 * 4))) (w' := u) (by kernel_rfl) ⟨hC, .refl _ _, rfl⟩)
    · exact OpOk.knownE [(90, 14, sl4 gT), (91, 15, .int .i64 ((1 : Nat) : Int))] (by kernel_rfl) ⟨(List.cons.inj h14).1, (List.cons.inj h15).1, trivial⟩ (OpOk.value (v := (pt gT (1 * 4))) (w' := u) (by kernel_rfl) ⟨hC, .refl _ _, rfl⟩)
    · exact OpOk.knownE [(90, 14, sl4 gT), (91, 15, .int .i64 ((2 : Nat) : Int))] (by kernel_rfl) ⟨(List.cons.inj h14).1, (List.cons.inj h15).1, trivial⟩ (OpOk.value (v := (pt gT (2 * 4))) (w' := u) (by kernel_rfl) ⟨hC, .refl _ _, rfl⟩)
    · exact OpOk.knownE [(90, 14, sl4 gT), (91, 15, .int .i64 ((3 : Nat) : Int))] (by kernel_rfl) ⟨(List.cons.inj h14).1, (List.cons.inj h15).1, trivial⟩ (OpOk.value (v := (pt gT (3 * 4))) (w' := u) (by kernel_rfl) ⟨hC, .refl _ _, rfl⟩)
  · refine ⟨fun _ _ _ _ _ h => h, fun vals u hC hb => ?_⟩
    obtain ⟨_, _, h16, _⟩ := hb
    rcases hi with rfl | rfl | rfl | rfl
    · exact OpOk.knownE [(92, 16, pt gT (0 * 4))] (by kernel_rfl) ⟨(List.cons.inj h16).1, trivial⟩ (OpOk.reads ⟨0, memA w r v (XN gN gT), (3, 0 * 4), []⟩ hC.ph.lies.sat.good (typeV 0) (by kernel_rfl) (by kernel_rfl) ⟨hC, .refl _ _, rfl⟩)
    · exact OpOk.knownE [(92, 16, pt gT (1 * 4))] (by kernel_rfl) ⟨(List.cons.inj h16).1, trivial⟩ (OpOk.reads ⟨0, memA w r v (XN gN gT), (3, 1 * 4), []⟩ hC.ph.lies.sat.good (typeV 1) (by kernel_rfl) (by kernel_rfl) ⟨hC, .refl _ _, rfl⟩)
    · exact OpOk.knownE [(92, 16, pt gT (2 * 4))] (by kernel_rfl) ⟨(List.cons.inj h16).1, trivial⟩ (OpOk.reads ⟨0, memA w r v (XN gN gT), (3, 2 * 4), []⟩ hC.ph.lies.sat.good (typeV 2) (by kernel_rfl) (by kernel_rfl) ⟨hC, .refl _ _, rfl⟩)
    · exact OpOk.knownE [(92, 16, pt gT (3 * 4))] (by kernel_rfl) ⟨(List.cons.inj h16).1, trivial⟩ (OpOk.reads ⟨0, memA w r v (XN gN gT), (3, 3 * 4), []⟩ hC.ph.lies.sat.good (typeV 3) (by kernel_rfl) (by kernel_rfl) ⟨hC, .refl _ _, rfl⟩)
  · refine ⟨fun _ u u' _ he h => saysExS_keep hlt h he, fun vals u hC hb => ?_⟩
    obtain ⟨h13, _, _, _, h17, h18, h19, _⟩ := hb
    refine OpOk.call (f := 65) [.tmp 89, .tmp 93, .tmp 94, .tmp 95] (args := [(pt b 0), typeV i, .int .i64 H, .int .i64 rules]) (ats := #[23, 87, 3, 3]) (by kernel_rfl) rfl ?_ (run_callable (by kernel_rfl) _ _) ?_
    · rw [show [.tmp 89, .tmp 93, .tmp 94, .tmp 95].map (evalVE 168 (updL E (envB b w H wl gN gT i rules k)) WA16 vals) = [vals 13, vals 17, vals 18, vals 19] by kernel_rfl, (List.cons.inj h13).1, (List.cons.inj h17).1, (List.cons.inj h18).1, (List.cons.inj h19).1]
    · refine (IH (ty4.getD i tNumber).1 (ty4.getD i tNumber).2.1 (ty4.getD i tNumber).2.2.1 (ty4.getD i tNumber).2.2.2 H (rules) u hC.ph.tape (ty4_mem hi) (by omega) (by omega) (by omega) (by omega) (by omega)).mono ?_
      rintro e u' ⟨x, cs, hx, hex, rfl, hT, hB⟩
      exact ⟨_, rfl, hC.call hT hB, hB, x, cs, hx, exS.of (fun g hg _ => hC.fresh hg) _ _ hex, rfl⟩
  · refine ⟨fun _ u u' _ he h => saysDfS_keep hlt h he, fun vals u hC hb => ?_⟩
    obtain ⟨_, _, _, h5, _, _, _, h9, _, _, h12, _, _, _, _, _, _, _, ⟨x, cs, hx, hex, e20⟩, _⟩ := hb
    have hex2 := hex
    obtain ⟨x0, x1, x2, x3, x4, x5, x6, x7, x8, xA, xn, xc, rfl⟩ := hex2.cells
    have hb : 0 ≤ IntKind.i64.wrap (20454 + IntKind.i64.wrap (5 * k)) ∧ IntKind.i64.wrap (20454 + IntKind.i64.wrap (5 * k)) ≤ 30000 := by rw [IntWalk.i64_in (5 * k) (by omega), IntWalk.i64_in _ (by omega)]; omega
    refine OpOk.knownE [(81, 5, nameV i), (85, 9, typeV i), (88, 12, (.int .i64 (IntKind.i64.wrap (20454 + IntKind.i64.wrap (5 * k))))), (96, 20, .agg ([.int .i64 x0, .int .i64 x1, .int .i64 x2, .int .i64 x3, .int .i64 x4, .int .i64 x5, .string ⟨x6.toArray⟩, .int .i64 x7, .int .i64 x8, .slice xA xn xc] : List Value).toArray)] (by kernel_rfl) ⟨(List.cons.inj h5).1, (List.cons.inj h9).1, (List.cons.inj h12).1, e20, trivial⟩ (OpOk.value (v := .agg ((dRule i (IntKind.i64.wrap (20454 + IntKind.i64.wrap (5 * k))) x).head none 0 ++ ([.int .i64 x0, .int .i64 x1, .int .i64 x2, .int .i64 x3, .int .i64 x4, .int .i64 x5, .string ⟨x6.toArray⟩, .int .i64 x7, .int .i64 x8, .slice xA xn xc] : List Value) ++ (dRule i (IntKind.i64.wrap (20454 + IntKind.i64.wrap (5 * k))) x).tail).toArray) (w' := u) ?_ ⟨hC, .refl _ _, _, _, dRule_ok hi hb.1 hb.2 hx, ⟨none, 0, _, hex, .inl rfl, rfl⟩, rfl⟩)
    rcases hi with rfl | rfl | rfl | rfl <;> kernel_rfl
  · refine ⟨fun _ u u' _ he h => saysRowsS_keep hlt h he, fun vals u hC hb => ?_⟩
    obtain ⟨_, _, _, _, _, _, _, _, _, _, _, _, _, _, _, _, _, _, _, ⟨d0, c0, hd0, hc0, e0⟩, _⟩ := hb
    have hal : Below u.heap.size u (u.alloc (.cells [c0].flatten.toArray 93)) := (Below.refl _ _).alloc (Nat.le_refl _) _
    obtain ⟨z0_0, z0_1, z0_2, z0_3, z0_4, z0_5, z0_6, z0_7, z0_8, z0_9, z0_10, z0_11, z0_12, z0_13, rfl⟩ := hc0.cells
    refine OpOk.knownE [(97, 21, .agg ([.int .i64 d0.kind, .string ⟨d0.name.toArray⟩, .bool d0.tb, .int .i64 d0.tm, .int .i64 d0.th, .int .i64 d0.td, .int .i64 d0.frm, .slice z0_0 d0.ents.length z0_1, .int .i64 z0_2, .int .i64 z0_3, .int .i64 z0_4, .int .i64 z0_5, .int .i64 z0_6, .int .i64 z0_7, .string ⟨z0_8.toArray⟩, .int .i64 z0_9, .int .i64 z0_10, .slice z0_11 z0_12 z0_13, .int .i64 d0.mode, .int .i64 d0.num, .int .i64 d0.den] : List Value).toArray)] (by kernel_rfl) ⟨e0, trivial⟩ (OpOk.value (v := .slice (some ⟨u.heap.size, 0, none⟩) 1 1) (w' := u.alloc (.cells [([.int .i64 d0.kind, .string ⟨d0.name.toArray⟩, .bool d0.tb, .int .i64 d0.tm, .int .i64 d0.th, .int .i64 d0.td, .int .i64 d0.frm, .slice z0_0 d0.ents.length z0_1, .int .i64 z0_2, .int .i64 z0_3, .int .i64 z0_4, .int .i64 z0_5, .int .i64 z0_6, .int .i64 z0_7, .string ⟨z0_8.toArray⟩, .int .i64 z0_9, .int .i64 z0_10, .slice z0_11 z0_12 z0_13, .int .i64 d0.mode, .int .i64 d0.num, .int .i64 d0.den] : List Value)].flatten.toArray 93)) (by kernel_rfl) ⟨hC.below hal, .of_below hal, [([.int .i64 d0.kind, .string ⟨d0.name.toArray⟩, .bool d0.tb, .int .i64 d0.tm, .int .i64 d0.th, .int .i64 d0.td, .int .i64 d0.frm, .slice z0_0 d0.ents.length z0_1, .int .i64 z0_2, .int .i64 z0_3, .int .i64 z0_4, .int .i64 z0_5, .int .i64 z0_6, .int .i64 z0_7, .string ⟨z0_8.toArray⟩, .int .i64 z0_9, .int .i64 z0_10, .slice z0_11 z0_12 z0_13, .int .i64 d0.mode, .int .i64 d0.num, .int .i64 d0.den] : List Value)], u.heap.size, ?_, rfl, rfl, heap_alloc_new _ _, ?_⟩)
    · intro row hrow
      simp only [List.mem_cons, List.not_mem_nil, or_false] at hrow
      rcases hrow with rfl
      · exact ⟨d0, hd0, hc0.keep (by simp) (fun g hS hl => ⟨hS, heap_alloc_old _ _ _ hl⟩)⟩
    · have := hC.ph.tape.lt; omega
set_option maxRecDepth 100000 in
set_option maxHeartbeats 1000000 in
theorem regionA16 {gN gT i : Nat} {rules k : Int} (IH : ExprSaid b ns H) (hH : H ≤ 100) (hi : i = 0 ∨ i = 1 ∨ i = 2 ∨ i = 3) (hr0 : 0 ≤ rules) (hr1 : rules ≤ 10) (hk0 : 0 ≤ k) (hk1 : k ≤ 1) (hA : Ag b ns (max 1 H) w r v v (XN gN gT) rs wx) (hrs : rs.length ≤ 100) {R : Ending → World → Prop} {td : List Item} (hd : curDraw td = some opsA16)
    (hk : ∀ v' q u E', Ag b ns (max 1 H) w r v' v' (XN gN gT) (rs ++ q) u → q.length = 1 → At Tryz.prog 30 R (tailT td) (Fr 168 (updL E' (envB b w H wl gN gT i rules k))) u) :
    At Tryz.prog 30 R td (Fr 168 (updL E (envB b w H wl gN gT i rules k))) wx := by
  have hlt := hA.ph.lt
  refine at_draw opsA16 hd (by kernel_rfl) 26 (by kernel_rfl) ?_
  refine any_partsE (fuel := 3) (L := (LA16 b H w v (XN gN gT) gN gT i rules k)) (W := WA16) (C := (fun u => Ag b ns (max 1 H) w r v v (XN gN gT) rs u)) (Ext := But b) (okA16 b H w v (XN gN gT) gN gT i rules k) (hA.below (Below.refl _ _).drew) (But.refl b) (fun _ _ _ => But.trans) (partsA16 hlt IH hH hi hr0 hr1 hk0 hk1) rfl ?_
  intro vals u hC _ hall
  obtain ⟨_, e1, _, _, _, _, _, _, _, _, _, _, _, _, _, _, _, _, _, _, _, _, ⟨q, B, hq, hql, eB, hB, _⟩, _⟩ := hall
  have r1 : Region.ready .any opsA16 (((LA16 b H w v (XN gN gT) gN gT i rules k).map (·.idx)).foldl (fun b i => b.setIfInBounds i true) (Array.replicate 26 false)) = [23] := by kernel_rfl
  have r2 : Region.ready .any opsA16 ((((LA16 b H w v (XN gN gT) gN gT i rules k).map (·.idx)).foldl (fun b i => b.setIfInBounds i true) (Array.replicate 26 false)).setIfInBounds 23 true) = [24] := by kernel_rfl
  have r3 : Region.ready .any opsA16 (((((LA16 b H w v (XN gN gT) gN gT i rules k).map (·.idx)).foldl (fun b i => b.setIfInBounds i true) (Array.replicate 26 false)).setIfInBounds 23 true).setIfInBounds 24 true) = [25] := by kernel_rfl
  have r4 : Region.ready .any opsA16 ((((((LA16 b H w v (XN gN gT) gN gT i rules k).map (·.idx)).foldl (fun b i => b.setIfInBounds i true) (Array.replicate 26 false)).setIfInBounds 23 true).setIfInBounds 24 true).setIfInBounds 25 true) = [] := by kernel_rfl
  have q1 : evE 168 (finE opsA16 vals ((LA16 b H w v (XN gN gT) gN gT i rules k).map (·.idx)) (updL E (envB b w H wl gN gT i rules k))) (.tmp 77) = vals 1 := by kernel_rfl
  have q2 : evE 168 (finE opsA16 vals ((LA16 b H w v (XN gN gT) gN gT i rules k).map (·.idx)) (updL E (envB b w H wl gN gT i rules k))) (.tmp 98) = vals 22 := by kernel_rfl
  have qs : (envB b w H wl gN gT i rules k).map (fun p => (finE opsA16 vals ((LA16 b H w v (XN gN gT) gN gT i rules k).map (·.idx)) (updL E (envB b w H wl gN gT i rules k))) p.1) = (envB b w H wl gN gT i rules k).map (·.2) := by kernel_rfl
  generalize (((LA16 b H w v (XN gN gT) gN gT i rules k).map (·.idx)).foldl (fun b i => b.setIfInBounds i true) (Array.replicate 26 false)) = lst at *
  generalize (finE opsA16 vals ((LA16 b H w v (XN gN gT) gN gT i rules k).map (·.idx)) (updL E (envB b w H wl gN gT i rules k))) = E8 at *
  refine any_one (fuel := 2) r1 (show opsA16[23]? = some (opsA16.getD 23 default) by kernel_rfl) (by kernel_rfl) ?_
  have hsz : w.heap.size + 2 ≤ u.heap.size := by
    have := (hC.ph.lies.sat.good ⟨w.heap.size + 1, 0, [metal, v], 54, true⟩ (by simp [memA])).1
    simp only at this
    omega
  refine wp_append (.tmp 77) (.tmp 98) 52 (by kernel_rfl) (w.heap.size + 2) 93 (by kernel_rfl) info93 (by rfl) (by decide) v rs.length rs.flatten (by rw [eval_Fr, q1]; exact (List.cons.inj e1).1) hC.own ⟨B, 0, none⟩ 1 1 q.flatten (by rw [eval_Fr, q2]; exact eB) (by rw [flat_len hq.len, hql]) ?_ (one_rows hq) (by decide) (by unfold maxLen; omega) (by omega) hsz ?_
  · intro jj uu hju
    rw [Addr.add_mid]
    exact rangeAt_all hB jj uu hju
  · intro v' u2 O8 hg8 hw8
    have A8 := hC.append hq (by rw [hql]; exact O8) hg8 hw8
    obtain ⟨wA, wc, rfl⟩ := owns_slice O8
    rw [show (opsA16.getD 23 default).dst = some 99 by kernel_rfl, Fr_put, ← updL_same qs]
    refine any_run (fuel := 1) (opsA16.getD 24 default) ⟨u2.heap.size, memA w r v (XN gN gT), (0, 0), []⟩ ⟨u2.heap.size, memA w r v (XN gN gT), (0, 0), []⟩ (.value (.pointer (some ⟨w.heap.size + 1, 1, none⟩))) (.pointer (some ⟨w.heap.size + 1, 1, none⟩)) r2 (by kernel_rfl) (by kernel_rfl) (by kernel_rfl) (.inl rfl) A8.ph.lies rfl fun u3 hL9 hK9 => ?_
    have A9 := A8.run hK9 hL9 (fun e he => .inl ⟨e, he, rfl⟩)
    rw [show (opsA16.getD 24 default).dst = some 100 by kernel_rfl]
    refine any_run (fuel := 0) (opsA16.getD 25 default) ⟨u3.heap.size, memA w r v (XN gN gT), (1, 1), []⟩ ⟨u3.heap.size, memA w r (.slice wA (rs.length + 1) wc) (XN gN gT), (1, 2), [(w.heap.size + 1, w.heap.size + 1), (1, 1)]⟩ .skip undef r3 (by kernel_rfl) (by kernel_rfl) (by kernel_rfl) (.inr ⟨rfl, rfl⟩) ⟨A9.ph.lies.sat, A9.ph.lies.le, A9.ph.lies.own⟩ rfl fun u4 hL10 hK10 => ?_
    have A10 := A9.run hK10 hL10 (fun e he => .inl ⟨e, he, rfl⟩)
    rw [show (opsA16.getD 25 default).dst = none by kernel_rfl]
    refine any_end r4 ⟨rfl, At.mid ?_⟩
    exact at_known (envB b w H wl gN gT i rules k) (by kernel_rfl) fun E' => hk _ q u4 E' A10 hql
noncomputable def opsA20 : Array Oper := regOf Tryz.f30 20
def WA20 : Wr := [(107, 0), (108, 1), (109, 2), (110, 3), (111, 4), (112, 5), (113, 6), (114, 7), (115, 8), (116, 9), (117, 10), (118, 11), (119, 12), (120, 13), (121, 14), (122, 15), (123, 16), (124, 17), (125, 18), (126, 19), (127, 20), (128, 21), (129, 22), (130, 23)]
def LA20 (b H : Nat) (w : World) (v : Value) (X : List Ent) (i : Nat) : List Loc :=
  [pureL 0 [] (.pointer (some ⟨w.heap.size + 1, 1, none⟩)),
   pureL 1 [0] v,
   ⟨2, [], [2], fun vs u => saysSlice b [nameP 0, nameP 1] 9 2 (vs.getD 0 undef) u⟩,
   pureL 3 [] (.int .i64 i),
   ⟨4, [2, 3], [4], fun vs u => saysPtrS b [nameP 0, nameP 1] 9 i (vs.getD 0 undef) u⟩,
   ⟨5, [2, 3, 4], [5], fun vs _ => vs = [nameP i]⟩,
   pureL 6 [] (pt b 0),
   pureL 7 [] (tyAgg tMoney),
   pureL 8 [] (.int .i64 H),
   pureL 9 [] (.int .i64 i),
   pureL 10 [9] (.int .i64 (IntKind.i64.wrap (4 + (i : Int)))),
   ⟨11, [6, 7, 8, 9, 10], [11], fun vs u => saysExS (max 1 H) (SA w v X) (vs.getD 0 undef) u⟩,
   pureL 12 [] (pt b 0),
   ⟨13, [6, 7, 8, 9, 10, 11, 12], [13], fun vs _ => saysBelow 7 (vs.getD 0 undef)⟩,
   pureL 14 [] (rat 1 100),
   pureL 15 [] (rat 1 20),
   pureL 16 [] (rat 1 1),
   ⟨17, [14, 15, 16], [17], fun vs u => saysSlice b (ints [1, 100, 1, 20, 1, 1]) 33 3 (vs.getD 0 undef) u⟩,
   pureL 18 [] (pt b 0),
   ⟨19, [6, 7, 8, 9, 10, 11, 12, 13, 18], [19], fun vs _ => saysBelow 3 (vs.getD 0 undef)⟩,
   ⟨20, [6, 7, 8, 9, 10, 11, 12, 13, 14, 15, 16, 17, 18, 19], [20], fun vs u => saysPtr3P b (vs.getD 0 undef) u⟩,
   ⟨21, [6, 7, 8, 9, 10, 11, 12, 13, 14, 15, 16, 17, 18, 19, 20], [21], fun vs _ => saysStepP (vs.getD 0 undef)⟩,
   ⟨22, [2, 3, 4, 5, 6, 7, 8, 9, 10, 11, 12, 13, 14, 15, 16, 17, 18, 19, 20, 21], [22], fun vs u => saysDfS (max 1 H) (SA w v X) (vs.getD 0 undef) u⟩,
   ⟨23, [2, 3, 4, 5, 6, 7, 8, 9, 10, 11, 12, 13, 14, 15, 16, 17, 18, 19, 20, 21, 22], [23], fun vs u => saysRowsS (max 1 H) (SA w v X) b 1 (vs.getD 0 undef) u⟩]
theorem okA20 (b H : Nat) (w : World) (v : Value) (X : List Ent) (i : Nat) : (locOk .any opsA20 WA20 (Array.replicate 27 false) 168 (LA20 b H w v X i) && bare opsA20 (LA20 b H w v X i)) = true := by kernel_rfl
set_option maxRecDepth 100000 in
set_option maxHeartbeats 1000000 in
theorem partsA20 (hlt : b < w.heap.size) {i : Nat} (IH : ExprSaid b ns H) (hH : H ≤ 100) (hi : i = 0 ∨ i = 1) (hb4 : 0 ≤ IntKind.i64.wrap (4 + (i : Int)) ∧ IntKind.i64.wrap (4 + (i : Int)) ≤ 10) : PartsE Tryz.prog opsA20 168 (updL E (envC b w H wl i)) WA20 (fun u => Ag b ns (max 1 H) w r v v X rs u) (But b) (LA20 b H w v X i) (LA20 b H w v X i) := by
  refine ⟨part_pureE (But.refl b) (fun _ _ _ _ => by kernel_rfl), ?_, ?_, part_pureE (But.refl b) (fun _ _ _ _ => by kernel_rfl), ?_, ?_, part_pureE (But.refl b) (fun _ _ _ _ => by kernel_rfl), ?_, part_pureE (But.refl b) (fun _ _ _ _ => by kernel_rfl), part_pureE (But.refl b) (fun _ _ _ _ => by kernel_rfl), ?_, ?_, part_pureE (But.refl b) (fun _ _ _ _ => by kernel_rfl), ?_, part_pureE (But.refl b) (fun _ _ _ _ => by kernel_rfl), part_pureE (But.refl b) (fun _ _ _ _ => by kernel_rfl), part_pureE (But.refl b) (fun _ _ _ _ => by kernel_rfl), ?_, part_pureE (But.refl b) (fun _ _ _ _ => by kernel_rfl), ?_, ?_, ?_, ?_, ?_, trivial⟩
  · refine ⟨fun _ _ _ _ _ h => h, fun vals u hC hb => ?_⟩
    obtain ⟨h0, _⟩ := hb
    exact OpOk.knownE [(107, 0, (.pointer (some ⟨w.heap.size + 1, 1, none⟩)))] (by kernel_rfl) ⟨(List.cons.inj h0).1, trivial⟩ (OpOk.reads ⟨0, memA w r v X, (1, 1), []⟩ hC.ph.lies.sat.good v (by kernel_rfl) (by kernel_rfl) ⟨hC, .refl _ _, rfl⟩)
  · refine ⟨fun vs u u' _ he ⟨B, h1, h2, h3⟩ => ⟨B, h1, blk_keep h2 h3 he, h3⟩, fun vals u hC hb => ?_⟩
    have hal : Below u.heap.size u (u.alloc (.cells ([nameP 0, nameP 1] : List Value).toArray 9)) := (Below.refl _ _).alloc (Nat.le_refl _) _
    exact OpOk.knownE [] (by kernel_rfl) trivial (OpOk.value (v := .slice (some ⟨u.heap.size, 0, none⟩) 2 2) (w' := u.alloc (.cells ([nameP 0, nameP 1] : List Value).toArray 9)) (by kernel_rfl) ⟨hC.below hal, .of_below hal, u.heap.size, rfl, heap_alloc_new _ _, by have := hC.ph.tape.lt; omega⟩)
  · refine ⟨fun vs u u' _ he ⟨B, h1, h2, h3⟩ => ⟨B, h1, blk_keep h2 h3 he, h3⟩, fun vals u hC hb => ?_⟩
    obtain ⟨⟨B, e2, hB, hne⟩, h3, _⟩ := hb
    rcases hi with rfl | rfl
    · exact OpOk.knownE [(109, 2, .slice (some ⟨B, 0, none⟩) 2 2), (110, 3, .int .i64 ((0 : Nat) : Int))] (by kernel_rfl) ⟨e2, (List.cons.inj h3).1, trivial⟩ (OpOk.value (v := pt B 0) (w' := u) (by kernel_rfl) ⟨hC, .refl _ _, B, rfl, hB, hne⟩)
    · exact OpOk.knownE [(109, 2, .slice (some ⟨B, 0, none⟩) 2 2), (110, 3, .int .i64 ((1 : Nat) : Int))] (by kernel_rfl) ⟨e2, (List.cons.inj h3).1, trivial⟩ (OpOk.value (v := pt B 1) (w' := u) (by kernel_rfl) ⟨hC, .refl _ _, B, rfl, hB, hne⟩)
  · refine ⟨fun _ u u' _ he h => h, fun vals u hC hb => ?_⟩
    obtain ⟨_, _, ⟨B, e4, hB, hne⟩, _⟩ := hb
    have hq : evalVE 168 (updL E (envC b w H wl i)) WA20 vals (.tmp 111) = vals 4 := by kernel_rfl
    rcases hi with rfl | rfl
    · exact OpOk.loadOne 9 (.tmp 111) (by kernel_rfl) (hq.trans e4) (v := nameP 0) (Lib.cell_of_heap hB 0) (by kernel_rfl) ⟨hC, .refl _ _, rfl⟩
    · exact OpOk.loadOne 9 (.tmp 111) (by kernel_rfl) (hq.trans e4) (v := nameP 1) (Lib.cell_of_heap hB 1) (by kernel_rfl) ⟨hC, .refl _ _, rfl⟩
  · refine ⟨fun _ _ _ _ _ h => h, fun vals u hC hb => ?_⟩
    refine OpOk.call (f := 61) [] (args := []) (ats := #[]) (by kernel_rfl) rfl rfl (run_callable (by kernel_rfl) _ _) ?_
    refine (money_ty u).mono ?_
    rintro e u' ⟨rfl, hb'⟩
    exact ⟨_, rfl, hC.below hb', .of_below hb', rfl⟩
  · refine ⟨fun _ _ _ _ _ h => h, fun vals u hC hb => ?_⟩
    obtain ⟨h9, _⟩ := hb
    exact OpOk.knownE [(116, 9, .int .i64 i)] (by kernel_rfl) ⟨(List.cons.inj h9).1, trivial⟩ (OpOk.value (v := (.int .i64 (IntKind.i64.wrap (4 + (i : Int))))) (w' := u) (by kernel_rfl) ⟨hC, .refl _ _, rfl⟩)
  · refine ⟨fun _ u u' _ he h => saysExS_keep hlt h he, fun vals u hC hb => ?_⟩
    obtain ⟨h6, h7, h8, _, h10, _⟩ := hb
    refine OpOk.call (f := 65) [.tmp 113, .tmp 114, .tmp 115, .tmp 117] (args := [(pt b 0), tyAgg tMoney, .int .i64 H, .int .i64 (IntKind.i64.wrap (4 + (i : Int)))]) (ats := #[23, 87, 3, 3]) (by kernel_rfl) rfl ?_ (run_callable (by kernel_rfl) _ _) ?_
    · rw [show [.tmp 113, .tmp 114, .tmp 115, .tmp 117].map (evalVE 168 (updL E (envC b w H wl i)) WA20 vals) = [vals 6, vals 7, vals 8, vals 10] by kernel_rfl, (List.cons.inj h6).1, (List.cons.inj h7).1, (List.cons.inj h8).1, (List.cons.inj h10).1]
    · refine (IH (tMoney).1 (tMoney).2.1 (tMoney).2.2.1 (tMoney).2.2.2 H ((IntKind.i64.wrap (4 + (i : Int)))) u hC.ph.tape mem_money (by omega) (by omega) (by omega) (by omega) (by omega)).mono ?_
      rintro e u' ⟨x, cs, hx, hex, rfl, hT, hB⟩
      exact ⟨_, rfl, hC.call hT hB, hB, x, cs, hx, exS.of (fun g hg _ => hC.fresh hg) _ _ hex, rfl⟩
  · refine ⟨fun _ u u' _ he h => h, fun vals u hC hb => ?_⟩
    obtain ⟨_, _, _, _, _, _, hj, _⟩ := hb
    refine OpOk.call (f := 6) [.tmp 119, .const (.int .i64 7)] (args := [pt b 0, .int .i64 7]) (ats := #[23, 3]) (by kernel_rfl) rfl ?_ (run_callable (by kernel_rfl) _ _) ?_
    · rw [show [.tmp 119, .const (.int .i64 7)].map (evalVE 168 (updL E (envC b w H wl i)) WA20 vals) = [vals 12, .int .i64 7] by kernel_rfl, (List.cons.inj hj).1]
    · refine (next_any b ns 7 u hC.ph.tape (by omega) (by omega)).mono ?_
      rintro e u' ⟨k, hk, rfl, hT, hB⟩
      exact ⟨_, rfl, hC.call hT hB, hB, k, by omega, rfl⟩
  · refine ⟨fun vs u u' _ he ⟨B, h1, h2, h3⟩ => ⟨B, h1, blk_keep h2 h3 he, h3⟩, fun vals u hC hb => ?_⟩
    obtain ⟨h14, h15, h16, _⟩ := hb
    have hal : Below u.heap.size u (u.alloc (.cells ((ints [1, 100, 1, 20, 1, 1]) : List Value).toArray 33)) := (Below.refl _ _).alloc (Nat.le_refl _) _
    exact OpOk.knownE [(121, 14, rat 1 100), (122, 15, rat 1 20), (123, 16, rat 1 1)] (by kernel_rfl) ⟨(List.cons.inj h14).1, (List.cons.inj h15).1, (List.cons.inj h16).1, trivial⟩ (OpOk.value (v := .slice (some ⟨u.heap.size, 0, none⟩) 3 3) (w' := u.alloc (.cells ((ints [1, 100, 1, 20, 1, 1]) : List Value).toArray 33)) (by kernel_rfl) ⟨hC.below hal, .of_below hal, u.heap.size, rfl, heap_alloc_new _ _, by have := hC.ph.tape.lt; omega⟩)
  · refine ⟨fun _ u u' _ he h => h, fun vals u hC hb => ?_⟩
    obtain ⟨_, _, _, _, _, _, _, _, hj, _⟩ := hb
    refine OpOk.call (f := 6) [.tmp 125, .const (.int .i64 3)] (args := [pt b 0, .int .i64 3]) (ats := #[23, 3]) (by kernel_rfl) rfl ?_ (run_callable (by kernel_rfl) _ _) ?_
    · rw [show [.tmp 125, .const (.int .i64 3)].map (evalVE 168 (updL E (envC b w H wl i)) WA20 vals) = [vals 18, .int .i64 3] by kernel_rfl, (List.cons.inj hj).1]
    · refine (next_any b ns 3 u hC.ph.tape (by omega) (by omega)).mono ?_
      rintro e u' ⟨k, hk, rfl, hT, hB⟩
      exact ⟨_, rfl, hC.call hT hB, hB, k, by omega, rfl⟩
  · refine ⟨fun vs u u' _ he ⟨k, hk, B, h1, h2, h3⟩ => ⟨k, hk, B, h1, blk_keep h2 h3 he, h3⟩, fun vals u hC hb => ?_⟩
    obtain ⟨_, _, _, _, _, _, _, _, _, _, _, ⟨B, e17, hB, hne⟩, _, ⟨k, hk, e19⟩, _⟩ := hb
    have hk3 : k = 0 ∨ k = 1 ∨ k = 2 := by omega
    rcases hk3 with rfl | rfl | rfl
    · exact OpOk.knownE [(124, 17, .slice (some ⟨B, 0, none⟩) 3 3), (126, 19, .int .i64 0)] (by kernel_rfl) ⟨e17, e19, trivial⟩ (OpOk.value (v := pt B 0) (w' := u) (by kernel_rfl) ⟨hC, .refl _ _, 0, hk, B, rfl, hB, hne⟩)
    · exact OpOk.knownE [(124, 17, .slice (some ⟨B, 0, none⟩) 3 3), (126, 19, .int .i64 1)] (by kernel_rfl) ⟨e17, e19, trivial⟩ (OpOk.value (v := pt B 2) (w' := u) (by kernel_rfl) ⟨hC, .refl _ _, 1, hk, B, rfl, hB, hne⟩)
    · exact OpOk.knownE [(124, 17, .slice (some ⟨B, 0, none⟩) 3 3), (126, 19, .int .i64 2)] (by kernel_rfl) ⟨e17, e19, trivial⟩ (OpOk.value (v := pt B 4) (w' := u) (by kernel_rfl) ⟨hC, .refl _ _, 2, hk, B, rfl, hB, hne⟩)
  · refine ⟨fun _ u u' _ he h => h, fun vals u hC hb => ?_⟩
    obtain ⟨_, _, _, _, _, _, _, _, _, _, _, _, _, _, ⟨k, hk, B, e20, hB, hne⟩, _⟩ := hb
    have hq : evalVE 168 (updL E (envC b w H wl i)) WA20 vals (.tmp 127) = vals 20 := by kernel_rfl
    have hk3 : k = 0 ∨ k = 1 ∨ k = 2 := by omega
    rcases hk3 with rfl | rfl | rfl
    · exact OpOk.loadMid 33 (.tmp 127) (by kernel_rfl) (hq.trans e20) (ints [1, 100]) (rangeAt_lit hB 0 _ rfl) (by kernel_rfl) (by kernel_rfl) ⟨hC, .refl _ _, (1, 100), by simp [stepsP], rfl⟩
    · exact OpOk.loadMid 33 (.tmp 127) (by kernel_rfl) (hq.trans e20) (ints [1, 20]) (rangeAt_lit hB 2 _ rfl) (by kernel_rfl) (by kernel_rfl) ⟨hC, .refl _ _, (1, 20), by simp [stepsP], rfl⟩
    · exact OpOk.loadMid 33 (.tmp 127) (by kernel_rfl) (hq.trans e20) (ints [1, 1]) (rangeAt_lit hB 4 _ rfl) (by kernel_rfl) (by kernel_rfl) ⟨hC, .refl _ _, (1, 1), by simp [stepsP], rfl⟩
  · refine ⟨fun _ u u' _ he h => saysDfS_keep hlt h he, fun vals u hC hb => ?_⟩
    obtain ⟨_, _, _, h5, _, _, _, _, _, ⟨x, cs, hx, hex, e11⟩, _, ⟨m, hm, e13⟩, _, _, _, _, _, _, _, ⟨⟨p, q⟩, hpq, e21⟩, _⟩ := hb
    have hex2 := hex
    obtain ⟨x0, x1, x2, x3, x4, x5, x6, x7, x8, xA, xn, xc, rfl⟩ := hex2.cells
    refine OpOk.knownE [(112, 5, nameP i), (118, 11, .agg ([.int .i64 x0, .int .i64 x1, .int .i64 x2, .int .i64 x3, .int .i64 x4, .int .i64 x5, .string ⟨x6.toArray⟩, .int .i64 x7, .int .i64 x8, .slice xA xn xc] : List Value).toArray), (120, 13, .int .i64 m), (128, 21, rat p q)] (by kernel_rfl) ⟨(List.cons.inj h5).1, e11, e13, e21, trivial⟩ (OpOk.value (v := .agg ((dPay i x m p q).head none 0 ++ ([.int .i64 x0, .int .i64 x1, .int .i64 x2, .int .i64 x3, .int .i64 x4, .int .i64 x5, .string ⟨x6.toArray⟩, .int .i64 x7, .int .i64 x8, .slice xA xn xc] : List Value) ++ (dPay i x m p q).tail).toArray) (w' := u) ?_ ⟨hC, .refl _ _, _, _, dPay_ok hi hx (by omega) (by omega) hpq, ⟨none, 0, _, hex, .inl rfl, rfl⟩, rfl⟩)
    rcases hi with rfl | rfl <;> kernel_rfl
  · refine ⟨fun _ u u' _ he h => saysRowsS_keep hlt h he, fun vals u hC hb => ?_⟩
    obtain ⟨_, _, _, _, _, _, _, _, _, _, _, _, _, _, _, _, _, _, _, _, ⟨d0, c0, hd0, hc0, e0⟩, _⟩ := hb
    have hal : Below u.heap.size u (u.alloc (.cells [c0].flatten.toArray 93)) := (Below.refl _ _).alloc (Nat.le_refl _) _
    obtain ⟨z0_0, z0_1, z0_2, z0_3, z0_4, z0_5, z0_6, z0_7, z0_8, z0_9, z0_10, z0_11, z0_12, z0_13, rfl⟩ := hc0.cells
    refine OpOk.knownE [(129, 22, .agg ([.int .i64 d0.kind, .string ⟨d0.name.toArray⟩, .bool d0.tb, .int .i64 d0.tm, .int .i64 d0.th, .int .i64 d0.td, .int .i64 d0.frm, .slice z0_0 d0.ents.length z0_1, .int .i64 z0_2, .int .i64 z0_3, .int .i64 z0_4, .int .i64 z0_5, .int .i64 z0_6, .int .i64 z0_7, .string ⟨z0_8.toArray⟩, .int .i64 z0_9, .int .i64 z0_10, .slice z0_11 z0_12 z0_13, .int .i64 d0.mode, .int .i64 d0.num, .int .i64 d0.den] : List Value).toArray)] (by kernel_rfl) ⟨e0, trivial⟩ (OpOk.value (v := .slice (some ⟨u.heap.size, 0, none⟩) 1 1) (w' := u.alloc (.cells [([.int .i64 d0.kind, .string ⟨d0.name.toArray⟩, .bool d0.tb, .int .i64 d0.tm, .int .i64 d0.th, .int .i64 d0.td, .int .i64 d0.frm, .slice z0_0 d0.ents.length z0_1, .int .i64 z0_2, .int .i64 z0_3, .int .i64 z0_4, .int .i64 z0_5, .int .i64 z0_6, .int .i64 z0_7, .string ⟨z0_8.toArray⟩, .int .i64 z0_9, .int .i64 z0_10, .slice z0_11 z0_12 z0_13, .int .i64 d0.mode, .int .i64 d0.num, .int .i64 d0.den] : List Value)].flatten.toArray 93)) (by kernel_rfl) ⟨hC.below hal, .of_below hal, [([.int .i64 d0.kind, .string ⟨d0.name.toArray⟩, .bool d0.tb, .int .i64 d0.tm, .int .i64 d0.th, .int .i64 d0.td, .int .i64 d0.frm, .slice z0_0 d0.ents.length z0_1, .int .i64 z0_2, .int .i64 z0_3, .int .i64 z0_4, .int .i64 z0_5, .int .i64 z0_6, .int .i64 z0_7, .string ⟨z0_8.toArray⟩, .int .i64 z0_9, .int .i64 z0_10, .slice z0_11 z0_12 z0_13, .int .i64 d0.mode, .int .i64 d0.num, .int .i64 d0.den] : List Value)], u.heap.size, ?_, rfl, rfl, heap_alloc_new _ _, ?_⟩)
    · intro row hrow
      simp only [List.mem_cons, List.not_mem_nil, or_false] at hrow
      rcases hrow with rfl
      · exact ⟨d0, hd0, hc0.keep (by simp) (fun g hS hl => ⟨hS, heap_alloc_old _ _ _ hl⟩)⟩
    · have := hC.ph.tape.lt; omega
set_option maxRecDepth 100000 in
set_option maxHeartbeats 1000000 in
theorem regionA20 {i : Nat} (IH : ExprSaid b ns H) (hH : H ≤ 100) (hi : i = 0 ∨ i = 1) (hb4 : 0 ≤ IntKind.i64.wrap (4 + (i : Int)) ∧ IntKind.i64.wrap (4 + (i : Int)) ≤ 10) (hA : Ag b ns (max 1 H) w r v v X rs wx) (hrs : rs.length ≤ 100) {R : Ending → World → Prop} {td : List Item} (hd : curDraw td = some opsA20)
    (hk : ∀ v' q u E', Ag b ns (max 1 H) w r v' v' X (rs ++ q) u → q.length = 1 → At Tryz.prog 30 R (tailT td) (Fr 168 (updL E' (envC b w H wl i))) u) :
    At Tryz.prog 30 R td (Fr 168 (updL E (envC b w H wl i))) wx := by
  have hlt := hA.ph.lt
  refine at_draw opsA20 hd (by kernel_rfl) 27 (by kernel_rfl) ?_
  refine any_partsE (fuel := 3) (L := (LA20 b H w v X i)) (W := WA20) (C := (fun u => Ag b ns (max 1 H) w r v v X rs u)) (Ext := But b) (okA20 b H w v X i) (hA.below (Below.refl _ _).drew) (But.refl b) (fun _ _ _ => But.trans) (partsA20 hlt IH hH hi hb4) rfl ?_
  intro vals u hC _ hall
  obtain ⟨_, e1, _, _, _, _, _, _, _, _, _, _, _, _, _, _, _, _, _, _, _, _, _, ⟨q, B, hq, hql, eB, hB, _⟩, _⟩ := hall
  have r1 : Region.ready .any opsA20 (((LA20 b H w v X i).map (·.idx)).foldl (fun b i => b.setIfInBounds i true) (Array.replicate 27 false)) = [24] := by kernel_rfl
  have r2 : Region.ready .any opsA20 ((((LA20 b H w v X i).map (·.idx)).foldl (fun b i => b.setIfInBounds i true) (Array.replicate 27 false)).setIfInBounds 24 true) = [25] := by kernel_rfl
  have r3 : Region.ready .any opsA20 (((((LA20 b H w v X i).map (·.idx)).foldl (fun b i => b.setIfInBounds i true) (Array.replicate 27 false)).setIfInBounds 24 true).setIfInBounds 25 true) = [26] := by kernel_rfl
  have r4 : Region.ready .any opsA20 ((((((LA20 b H w v X i).map (·.idx)).foldl (fun b i => b.setIfInBounds i true) (Array.replicate 27 false)).setIfInBounds 24 true).setIfInBounds 25 true).setIfInBounds 26 true) = [] := by kernel_rfl
  have q1 : evE 168 (finE opsA20 vals ((LA20 b H w v X i).map (·.idx)) (updL E (envC b w H wl i))) (.tmp 108) = vals 1 := by kernel_rfl
  have q2 : evE 168 (finE opsA20 vals ((LA20 b H w v X i).map (·.idx)) (updL E (envC b w H wl i))) (.tmp 130) = vals 23 := by kernel_rfl
  have qs : (envC b w H wl i).map (fun p => (finE opsA20 vals ((LA20 b H w v X i).map (·.idx)) (updL E (envC b w H wl i))) p.1) = (envC b w H wl i).map (·.2) := by kernel_rfl
  generalize (((LA20 b H w v X i).map (·.idx)).foldl (fun b i => b.setIfInBounds i true) (Array.replicate 27 false)) = lst at *
  generalize (finE opsA20 vals ((LA20 b H w v X i).map (·.idx)) (updL E (envC b w H wl i))) = E8 at *
  refine any_one (fuel := 2) r1 (show opsA20[24]? = some (opsA20.getD 24 default) by kernel_rfl) (by kernel_rfl) ?_
  have hsz : w.heap.size + 2 ≤ u.heap.size := by
    have := (hC.ph.lies.sat.good ⟨w.heap.size + 1, 0, [metal, v], 54, true⟩ (by simp [memA])).1
    simp only at this
    omega
  refine wp_append (.tmp 108) (.tmp 130) 52 (by kernel_rfl) (w.heap.size + 2) 93 (by kernel_rfl) info93 (by rfl) (by decide) v rs.length rs.flatten (by rw [eval_Fr, q1]; exact (List.cons.inj e1).1) hC.own ⟨B, 0, none⟩ 1 1 q.flatten (by rw [eval_Fr, q2]; exact eB) (by rw [flat_len hq.len, hql]) ?_ (one_rows hq) (by decide) (by unfold maxLen; omega) (by omega) hsz ?_
  · intro jj uu hju
    rw [Addr.add_mid]
    exact rangeAt_all hB jj uu hju
  · intro v' u2 O8 hg8 hw8
    have A8 := hC.append hq (by rw [hql]; exact O8) hg8 hw8
    obtain ⟨wA, wc, rfl⟩ := owns_slice O8
    rw [show (opsA20.getD 24 default).dst = some 131 by kernel_rfl, Fr_put, ← updL_same qs]
    refine any_run (fuel := 1) (opsA20.getD 25 default) ⟨u2.heap.size, memA w r v X, (0, 0), []⟩ ⟨u2.heap.size, memA w r v X, (0, 0), []⟩ (.value (.pointer (some ⟨w.heap.size + 1, 1, none⟩))) (.pointer (some ⟨w.heap.size + 1, 1, none⟩)) r2 (by kernel_rfl) (by kernel_rfl) (by kernel_rfl) (.inl rfl) A8.ph.lies rfl fun u3 hL9 hK9 => ?_
    have A9 := A8.run hK9 hL9 (fun e he => .inl ⟨e, he, rfl⟩)
    rw [show (opsA20.getD 25 default).dst = some 132 by kernel_rfl]
    refine any_run (fuel := 0) (opsA20.getD 26 default) ⟨u3.heap.size, memA w r v X, (1, 1), []⟩ ⟨u3.heap.size, memA w r (.slice wA (rs.length + 1) wc) X, (1, 2), [(w.heap.size + 1, w.heap.size + 1), (1, 1)]⟩ .skip undef r3 (by kernel_rfl) (by kernel_rfl) (by kernel_rfl) (.inr ⟨rfl, rfl⟩) ⟨A9.ph.lies.sat, A9.ph.lies.le, A9.ph.lies.own⟩ rfl fun u4 hL10 hK10 => ?_
    have A10 := A9.run hK10 hL10 (fun e he => .inl ⟨e, he, rfl⟩)
    rw [show (opsA20.getD 26 default).dst = none by kernel_rfl]
    refine any_end r4 ⟨rfl, At.mid ?_⟩
    exact at_known (envC b w H wl i) (by kernel_rfl) fun E' => hk _ q u4 E' A10 hql
end
end Go.Proofs.YtpdbkbadjgellaaGreatDoor

/-
  Expressions, entries and definitions of agreements as they lie in memory.
  The walks of payrollgen's small functions: the types, Pick, Decimal, two.
-/
import Derived.Test.YtpdbkbadjgellaaGreatDoorZ06
import Derived.Lib.Builder
import Derived.Test.YtpdbkbadjgellaaGreatDoorZ10
namespace Go.Proofs.YtpdbkbadjgellaaGreatDoor
open Go.RowKit

theorem But.setNew {b : Nat} {u w : World} (h : But b u w) {p : Addr} (hp : u.heap.size ≤ p.block) (x : Value) : But b u (w.setCell p x) :=
  ⟨h.os, h.tape, h.output, Nat.le_trans h.size (by simp [World.setCell]), fun k hk hb => (Below.heap_setCell _ _ _ _ (by omega)).trans (h.block k hk hb)⟩
theorem TapeOk.setCell {b : Nat} {ns : List Int} {w : World} (h : TapeOk b ns w) {p : Addr} (hp : b < p.block) (x : Value) : TapeOk b ns (w.setCell p x) := by
  obtain ⟨v, k, hk, hc, hi⟩ := h
  exact ⟨v, k, hk, (Below.heap_setCell _ _ _ _ (by omega)).trans hc, hi.keep (fun g hg => Below.heap_setCell _ _ _ _ (by omega))⟩
theorem TapeOk.alloc {b : Nat} {ns : List Int} {w : World} (h : TapeOk b ns w) (o : Obj) : TapeOk b ns (w.alloc o) := h.below ((Below.refl _ _).alloc (Nat.le_refl _) _)

/-- An expression. -/
inductive Ex where
  | mk (op num den mu hu du : Int) (name : List UInt8) (count mode : Int) (kids : List Ex) : Ex

/-- Rows of cells, one behind the other, in a block from lo on. -/
def rowsAt (lo : Nat) (w : World) (n : Nat) (A : Option Addr) (rs : List (List Value)) : Prop :=
  rs = [] ∨ ∃ g off, A = some ⟨g, off, none⟩ ∧ lo ≤ g ∧ ∀ (i : Nat) r, rs[i]? = some r → ∀ (j : Nat) u, r[j]? = some u → w.cell? ⟨g, off + i * n + j, none⟩ = some u

mutual
/-- The ten cells of an expression, its kids in memory. -/
def exAt (lo : Nat) (w : World) : Ex → List Value → Prop
  | .mk op num den mu hu du name count mode kids, cs => ∃ A c ks, cs = [.int .i64 op, .int .i64 num, .int .i64 den, .int .i64 mu, .int .i64 hu, .int .i64 du, .string ⟨name.toArray⟩, .int .i64 count, .int .i64 mode, .slice A kids.length c] ∧
      exsAt lo w kids ks ∧ rowsAt lo w 10 A ks
def exsAt (lo : Nat) (w : World) : List Ex → List (List Value) → Prop
  | [], ks => ks = []
  | e :: es, ks => ∃ c cs, ks = c :: cs ∧ exAt lo w e c ∧ exsAt lo w es cs
end

theorem flat_get (rs : List (List Value)) (n : Nat) (h : ∀ r ∈ rs, r.length = n) (i j : Nat) (r : List Value) (hi : rs[i]? = some r) (hj : j < n) : rs.flatten[i * n + j]? = r[j]? := by
  induction rs generalizing i with
  | nil => simp at hi
  | cons a rs ih =>
    have ha := h a (by simp)
    cases i with
    | zero =>
      simp at hi
      subst hi
      rw [List.flatten_cons, List.getElem?_append_left (by omega)]
      simp
    | succ i =>
      simp at hi
      rw [List.flatten_cons, List.getElem?_append_right (by rw [ha, Nat.succ_mul]; omega), ha, show (i + 1) * n + j - n = i * n + j by rw [Nat.succ_mul]; omega]
      exact ih (fun r hr => h r (by simp [hr])) i hi
/-- A block that holds rows, one behind the other. -/
theorem rows_block {lo n g : Nat} {w : World} {T : TypeId} {fr : Nat × Nat} {rs : List (List Value)} (h : w.heap[g]? = some (.cells rs.flatten.toArray T fr)) (hl : ∀ r ∈ rs, r.length = n) (hg : lo ≤ g) : rowsAt lo w n (some ⟨g, 0, none⟩) rs := by
  refine .inr ⟨g, 0, rfl, hg, fun i r hi j u hj => ?_⟩
  have hr := hl r (List.mem_of_getElem? hi)
  have hjn : j < n := by
    rcases Nat.lt_or_ge j r.length with h' | h'
    · omega
    · rw [List.getElem?_eq_none h'] at hj; cases hj
  rw [Lib.cell_of_heap h, List.getElem?_toArray, Nat.zero_add, flat_get rs n hl i j r hi hjn]
  exact hj
/-- All blocks from lo on are as they were. -/
def KeptFrom (lo : Nat) (w w' : World) : Prop := ∀ g, lo ≤ g → g < w.heap.size → w'.heap[g]? = w.heap[g]?
theorem KeptFrom.of_but {b lo : Nat} {w w' : World} (h : But b w w') (hb : b < lo) : KeptFrom lo w w' := fun g hg hs => h.block g hs (by omega)
theorem KeptFrom.of_below {lo : Nat} {w w' : World} (h : Below w.heap.size w w') : KeptFrom lo w w' := fun g _ hs => h.block g hs
theorem KeptFrom.setCell {lo : Nat} {w w' : World} (h : KeptFrom lo w w') {p : Addr} (hp : p.block < lo) (x : Value) : KeptFrom lo w (w'.setCell p x) := fun g hg hs => (Below.heap_setCell _ _ _ _ (by omega)).trans (h g hg hs)
theorem rowsAt.keep {lo n : Nat} {w w' : World} {A : Option Addr} {rs : List (List Value)} (h : rowsAt lo w n A rs) (hb : KeptFrom lo w w') : rowsAt lo w' n A rs := by
  rcases h with h | ⟨g, off, rfl, hg, hc⟩
  · exact .inl h
  · refine .inr ⟨g, off, rfl, hg, fun i r hi j u hj => ?_⟩
    have := hc i r hi j u hj
    rw [World.cell?_of_block (w := w) (hb g hg (World.block_lt_of_cell? w _ this))]
    exact this
theorem rowsAt.mono {lo lo' n : Nat} {w : World} {A : Option Addr} {rs : List (List Value)} (h : rowsAt lo w n A rs) (hl : lo' ≤ lo) : rowsAt lo' w n A rs := by
  rcases h with h | ⟨g, off, rfl, hg, hc⟩
  · exact .inl h
  · exact .inr ⟨g, off, rfl, by omega, hc⟩
mutual
theorem exAt.keep {lo : Nat} {w w' : World} (hb : KeptFrom lo w w') : ∀ (e : Ex) (cs : List Value), exAt lo w e cs → exAt lo w' e cs
  | .mk op num den mu hu du name count mode kids, cs, h => by
    unfold exAt at h ⊢
    obtain ⟨A, c, ks, h1, h2, h3⟩ := h
    exact ⟨A, c, ks, h1, exsAt.keep hb kids ks h2, h3.keep hb⟩
theorem exsAt.keep {lo : Nat} {w w' : World} (hb : KeptFrom lo w w') : ∀ (es : List Ex) (ks : List (List Value)), exsAt lo w es ks → exsAt lo w' es ks
  | [], ks, h => by unfold exsAt at h ⊢; exact h
  | e :: es, ks, h => by
    unfold exsAt at h ⊢
    obtain ⟨c, cs, h1, h2, h3⟩ := h
    exact ⟨c, cs, h1, exAt.keep hb e c h2, exsAt.keep hb es cs h3⟩
end
mutual
theorem exAt.mono {lo lo' : Nat} {w : World} (hl : lo' ≤ lo) : ∀ (e : Ex) (cs : List Value), exAt lo w e cs → exAt lo' w e cs
  | .mk op num den mu hu du name count mode kids, cs, h => by
    unfold exAt at h ⊢
    obtain ⟨A, c, ks, h1, h2, h3⟩ := h
    exact ⟨A, c, ks, h1, exsAt.mono hl kids ks h2, h3.mono hl⟩
theorem exsAt.mono {lo lo' : Nat} {w : World} (hl : lo' ≤ lo) : ∀ (es : List Ex) (ks : List (List Value)), exsAt lo w es ks → exsAt lo' w es ks
  | [], ks, h => by unfold exsAt at h ⊢; exact h
  | e :: es, ks, h => by
    unfold exsAt at h ⊢
    obtain ⟨c, cs, h1, h2, h3⟩ := h
    exact ⟨c, cs, h1, exAt.mono hl e c h2, exsAt.mono hl es cs h3⟩
end
theorem exsAt.length {lo : Nat} {w : World} : ∀ (es : List Ex) (ks : List (List Value)), exsAt lo w es ks → ks.length = es.length
  | [], ks, h => by unfold exsAt at h; rw [h]; rfl
  | e :: es, ks, h => by
    unfold exsAt at h
    obtain ⟨c, cs, h1, _, h3⟩ := h
    rw [h1, List.length_cons, List.length_cons, exsAt.length es cs h3]

theorem exAt.len {lo : Nat} {w : World} {e : Ex} {cs : List Value} (h : exAt lo w e cs) : cs.length = 10 := by
  obtain ⟨op, num, den, mu, hu, du, name, count, mode, kids⟩ := e
  unfold exAt at h
  obtain ⟨A, c, ks, rfl, _⟩ := h
  rfl
/-- An expression put together out of its kids' cells. -/
theorem exAt.mk {lo g c : Nat} {w : World} {T : TypeId} {fr : Nat × Nat} {kids : List Ex} {ks : List (List Value)} (op num den mu hu du : Int) (name : List UInt8) (count mode : Int) (hk : exsAt lo w kids ks)
    (h : w.heap[g]? = some (.cells ks.flatten.toArray T fr)) (hl : ∀ r ∈ ks, r.length = 10) (hg : lo ≤ g) :
    exAt lo w (.mk op num den mu hu du name count mode kids) [.int .i64 op, .int .i64 num, .int .i64 den, .int .i64 mu, .int .i64 hu, .int .i64 du, .string ⟨name.toArray⟩, .int .i64 count, .int .i64 mode, .slice (some ⟨g, 0, none⟩) kids.length c] := by
  unfold exAt
  exact ⟨some ⟨g, 0, none⟩, c, ks, rfl, hk, rows_block h hl hg⟩
/-- An expression without kids. -/
theorem exAt.leaf {lo : Nat} {w : World} (op num den mu hu du : Int) (name : List UInt8) (count mode : Int) :
    exAt lo w (.mk op num den mu hu du name count mode []) [.int .i64 op, .int .i64 num, .int .i64 den, .int .i64 mu, .int .i64 hu, .int .i64 du, .string ⟨name.toArray⟩, .int .i64 count, .int .i64 mode, .slice none 0 0] := by
  unfold exAt
  exact ⟨none, 0, [], rfl, by unfold exsAt; rfl, .inl rfl⟩
theorem exsAt.one {lo : Nat} {w : World} {e : Ex} {c : List Value} (h : exAt lo w e c) : exsAt lo w [e] [c] := by
  unfold exsAt exsAt; exact ⟨c, [], rfl, h, rfl⟩
theorem exsAt.cons {lo : Nat} {w : World} {e : Ex} {es : List Ex} {c : List Value} {cs : List (List Value)} (h : exAt lo w e c) (hs : exsAt lo w es cs) : exsAt lo w (e :: es) (c :: cs) := by
  unfold exsAt; exact ⟨c, cs, rfl, h, hs⟩

mutual
/-- The height of an expression. -/
def Ex.height : Ex → Nat
  | .mk _ _ _ _ _ _ _ _ _ kids => Ex.heights kids + 1
def Ex.heights : List Ex → Nat
  | [] => 0
  | e :: es => max (Ex.height e) (Ex.heights es)
end
end Go.Proofs.YtpdbkbadjgellaaGreatDoor

namespace Go.Proofs.YtpdbkbadjgellaaGreatDoor
open Go.RowKit

/-- A type as a value: bool, money, hours, days. -/
def tyV (t : Bool × Int × Int × Int) : Value := .agg #[.bool t.1, .int .i64 t.2.1, .int .i64 t.2.2.1, .int .i64 t.2.2.2]
def tNumber : Bool × Int × Int × Int := (false, 0, 0, 0)
def tMoney : Bool × Int × Int × Int := (false, 1, 0, 0)
def tHours : Bool × Int × Int × Int := (false, 0, 1, 0)
def tRate : Bool × Int × Int × Int := (false, 1, -1, 0)
def tTruth : Bool × Int × Int × Int := (true, 0, 0, 0)

theorem number_ty (w : World) : Calls Tryz.prog 64 #[] w fun e w' => e = .returned (tyV tNumber) ∧ Below w.heap.size w w' := by
  go_enter Tryz.func64, Tryz.ntmps64
  go_wp2_with fail
  exact bodyPost_ret (v := tyV tNumber) (by simp [results, Tryz.results64, go_sem, tyV, tNumber]) rfl ⟨rfl, (Below.refl _ _).alloc (Nat.le_refl _) _⟩
theorem money_ty (w : World) : Calls Tryz.prog 61 #[] w fun e w' => e = .returned (tyV tMoney) ∧ Below w.heap.size w w' := by
  go_enter Tryz.func61, Tryz.ntmps61
  go_wp2_with fail
  exact bodyPost_ret (v := tyV tMoney) (by simp [results, Tryz.results61, go_sem, tyV, tMoney]) rfl ⟨rfl, (Below.refl _ _).alloc (Nat.le_refl _) _⟩
theorem hours_ty (w : World) : Calls Tryz.prog 59 #[] w fun e w' => e = .returned (tyV tHours) ∧ Below w.heap.size w w' := by
  go_enter Tryz.func59, Tryz.ntmps59
  go_wp2_with fail
  exact bodyPost_ret (v := tyV tHours) (by simp [results, Tryz.results59, go_sem, tyV, tHours]) rfl ⟨rfl, (Below.refl _ _).alloc (Nat.le_refl _) _⟩
theorem rate_ty (w : World) : Calls Tryz.prog 63 #[] w fun e w' => e = .returned (tyV tRate) ∧ Below w.heap.size w w' := by
  go_enter Tryz.func63, Tryz.ntmps63
  go_wp2_with fail
  exact bodyPost_ret (v := tyV tRate) (by simp [results, Tryz.results63, go_sem, tyV, tRate]) rfl ⟨rfl, (Below.refl _ _).alloc (Nat.le_refl _) _⟩
theorem truth_ty (w : World) : Calls Tryz.prog 60 #[] w fun e w' => e = .returned (tyV tTruth) ∧ Below w.heap.size w w' := by
  go_enter Tryz.func60, Tryz.ntmps60
  go_wp2_with fail
  exact bodyPost_ret (v := tyV tTruth) (by simp [results, Tryz.results60, go_sem, tyV, tTruth]) rfl ⟨rfl, (Below.refl _ _).alloc (Nat.le_refl _) _⟩

/-- What Pick leaves. -/
def PickPost (b : Nat) (ns : List Int) (xs : List Int) (w : World) (e : Ending) (w' : World) : Prop :=
  ∃ x, x ∈ xs ∧ e = .returned (.int .i64 x) ∧ TapeOk b ns w' ∧ But b w w'

set_option maxHeartbeats 400000 in
theorem pick_any (b g c : Nat) (ns xs : List Int) (w : World) (h : TapeOk b ns w) (hg : g ≠ b) (hx : 0 < xs.length) (hxm : xs.length ≤ 1000) (hc : ∀ (i : Nat) (x : Int), xs[i]? = some x → w.cell? ⟨g, i, none⟩ = some (.int .i64 x)) :
    Calls Tryz.prog 21 #[.pointer (some ⟨b, 0, none⟩), .slice (some ⟨g, 0, none⟩) xs.length c] w (PickPost b ns xs w) := by
  have HT := Lib.hid h
  have HC := Lib.hid hc
  clear h hc
  go_enter Tryz.func21, Tryz.ntmps21
  go_wp2_with fail
  refine (next_any b ns xs.length w HT.out (by omega) (by omega)).mono ?_
  rintro e w1 ⟨k, hk, rfl, hT1, hb1⟩
  have hkl : k < xs.length := by omega
  obtain ⟨x, hxk⟩ : ∃ x, xs[k]? = some x := ⟨_, List.getElem?_eq_getElem hkl⟩
  have hc0 := HC.out k x hxk
  have hc1 : w1.cell? ⟨g, k, none⟩ = some (.int .i64 x) := by rw [hb1.cell (World.block_lt_of_cell? w _ hc0) hg]; exact hc0
  have HX := Lib.hid (List.mem_of_getElem? hxk)
  have HT1 := Lib.hid hT1
  clear hc0 hxk hT1 hk
  go_wp2_with fail
  go_ret
  exact ⟨x, HX.out, rfl, HT1.out, hb1⟩

def decimals : List (Int × Int) := [(1, 1), (2, 1), (0, 1), (5, 2), (1, 4), (76, 5), (40, 1), (1, 100), (3, 1), (100, 1)]
/-- What Decimal leaves. -/
def DecPost (b : Nat) (ns : List Int) (w : World) (e : Ending) (w' : World) : Prop :=
  ∃ x, x ∈ decimals ∧ e = .returned (.agg #[.int .i64 x.1, .int .i64 x.2]) ∧ TapeOk b ns w' ∧ But b w w'
def ratCells (x : Int × Int) : List Value := [.int .i64 x.1, .int .i64 x.2]
theorem dec_cells (w : World) (k : Nat) (hk : k < 10) : ∃ x, x ∈ decimals ∧ (w.alloc (.cells (decimals.flatMap ratCells).toArray 33)).cell? ⟨w.heap.size, k * 2, none⟩ = some (.int .i64 x.1) ∧ (w.alloc (.cells (decimals.flatMap ratCells).toArray 33)).cell? ⟨w.heap.size, k * 2 + 1, none⟩ = some (.int .i64 x.2) := by
  rw [Lib.cell_of_heap (heap_alloc_new w _), Lib.cell_of_heap (heap_alloc_new w _), List.getElem?_toArray, List.getElem?_toArray]
  have : k = 0 ∨ k = 1 ∨ k = 2 ∨ k = 3 ∨ k = 4 ∨ k = 5 ∨ k = 6 ∨ k = 7 ∨ k = 8 ∨ k = 9 := by omega
  rcases this with rfl | rfl | rfl | rfl | rfl | rfl | rfl | rfl | rfl | rfl
  · exact ⟨(1, 1), by simp [decimals], rfl, rfl⟩
  · exact ⟨(2, 1), by simp [decimals], rfl, rfl⟩
  · exact ⟨(0, 1), by simp [decimals], rfl, rfl⟩
  · exact ⟨(5, 2), by simp [decimals], rfl, rfl⟩
  · exact ⟨(1, 4), by simp [decimals], rfl, rfl⟩
  · exact ⟨(76, 5), by simp [decimals], rfl, rfl⟩
  · exact ⟨(40, 1), by simp [decimals], rfl, rfl⟩
  · exact ⟨(1, 100), by simp [decimals], rfl, rfl⟩
  · exact ⟨(3, 1), by simp [decimals], rfl, rfl⟩
  · exact ⟨(100, 1), by simp [decimals], rfl, rfl⟩

set_option maxHeartbeats 1000000 in
theorem decimal_any (b : Nat) (ns : List Int) (w : World) (h : TapeOk b ns w) :
    Calls Tryz.prog 16 #[.pointer (some ⟨b, 0, none⟩)] w (DecPost b ns w) := by
  have HT := Lib.hid h
  have hlt := h.lt
  clear h
  go_enter Tryz.func16, Tryz.ntmps16
  go_wp2_with fail
  change Calls _ _ _ ((w.alloc (.cells #[.int .i64 0, .int .i64 0] 33)).alloc (.cells (decimals.flatMap ratCells).toArray 33)) _
  have HC := Lib.hid (dec_cells (w.alloc (.cells #[.int .i64 0, .int .i64 0] 33)))
  rw [World.size_alloc] at HC
  have hr : ((w.alloc (.cells #[.int .i64 0, .int .i64 0] 33)).alloc (.cells (decimals.flatMap ratCells).toArray 33)).heap[w.heap.size]? = some (.cells #[.int .i64 0, .int .i64 0] 33 (0, 0)) := (Below.heap_alloc _ _ _ (by simp)).trans (heap_alloc_new w _)
  have hB0 : But b w ((w.alloc (.cells #[.int .i64 0, .int .i64 0] 33)).alloc (.cells (decimals.flatMap ratCells).toArray 33)) := ((But.refl _ _).alloc _).alloc _
  have HT0 : Hid (TapeOk b ns ((w.alloc (.cells #[.int .i64 0, .int .i64 0] 33)).alloc (.cells (decimals.flatMap ratCells).toArray 33))) := HT.out.below (((Below.refl _ _).alloc (Nat.le_refl _) _).alloc (by simp) _)
  generalize (w.alloc (.cells #[.int .i64 0, .int .i64 0] 33)).alloc (.cells (decimals.flatMap ratCells).toArray 33) = w1 at *
  refine (next_any b ns 10 w1 HT0.out (by omega) (by omega)).mono ?_
  rintro e w2 ⟨k, hk, rfl, hT2, hb2⟩
  obtain ⟨⟨x1, x2⟩, hx, d0, d1⟩ := HC.out k (by omega)
  have c0 : w2.cell? ⟨w.heap.size + 1, k * 2, none⟩ = some (.int .i64 x1) := by rw [hb2.cell (World.block_lt_of_cell? w1 _ d0) (by simp; omega)]; exact d0
  have c1 : w2.cell? ⟨w.heap.size + 1, k * 2 + 1, none⟩ = some (.int .i64 x2) := by rw [hb2.cell (World.block_lt_of_cell? w1 _ d1) (by simp; omega)]; exact d1
  have hr2 := (hb2.block _ (heap_lt hr) (by omega)).trans hr
  have r0 := Lib.cell_of_heap hr2 0
  have r1 := Lib.cell_of_heap hr2 1
  simp only [List.getElem?_toArray, List.getElem?_cons_zero, List.getElem?_cons_succ] at r0 r1
  have f0 := Lib.frozen_of_heap hr2 0
  have f1 := Lib.frozen_of_heap hr2 1
  have hbw : But b w w2 := hB0.trans hb2
  have hkk : k < 10 := by omega
  have HX := Lib.hid hx
  have HT2 := Lib.hid hT2
  have hsz2 := heap_lt hr2
  clear hx hT2 d0 d1 HC HT0 HT hr hB0 hr2 hk
  go_wp2_with fail
  refine bodyPost_ret (v := .agg #[.int .i64 x1, .int .i64 x2]) (by simp [results, Tryz.results16, go_sem, r0, r1]) rfl ⟨(x1, x2), HX.out, rfl, ?_, ?_⟩
  · exact (HT2.out.setCell (by simpa using hlt) _).setCell (by simpa using hlt) _
  · exact (hbw.setNew (by simp) _).setNew (by simp) _

theorem alloc_at {w : World} {o : Obj} {g : Nat} (h : g = w.heap.size) : (w.alloc o).heap[g]? = some o := by subst h; exact heap_alloc_new w o
/-- An expression comes back: its cells, its memory. -/
def ExPost (b : Nat) (ns : List Int) (P : Ex → Prop) (w : World) (e : Ending) (w' : World) : Prop :=
  ∃ x cs, P x ∧ exAt w.heap.size w' x cs ∧ e = .returned (.agg cs.toArray) ∧ TapeOk b ns w' ∧ But b w w'

set_option maxHeartbeats 1000000 in
theorem two_any (lo : Nat) (op : Int) (x y : Ex) (cx cy : List Value) (w : World) (hlo : lo ≤ w.heap.size) (hx : exAt lo w x cx) (hy : exAt lo w y cy) :
    Calls Tryz.prog 92 #[.int .i64 op, .agg cx.toArray, .agg cy.toArray] w fun e w' =>
      ∃ cs, exAt lo w' (.mk op 0 0 0 0 0 [] 0 0 [x, y]) cs ∧ e = .returned (.agg cs.toArray) ∧ Below w.heap.size w w' := by
  have HX := Lib.hid hx
  have HY := Lib.hid hy
  obtain ⟨x0, x1, x2, x3, x4, x5, x6, x7, x8, xk⟩ := x
  obtain ⟨y0, y1, y2, y3, y4, y5, y6, y7, y8, yk⟩ := y
  unfold exAt at hx hy
  obtain ⟨A, c, ks, rfl, _, _⟩ := hx
  obtain ⟨B, d, js, rfl, _, _⟩ := hy
  go_enter Tryz.func92, Tryz.ntmps92
  go_wp2_with fail
  refine bodyPost_ret (v := .agg #[.int .i64 op, .int .i64 0, .int .i64 0, .int .i64 0, .int .i64 0, .int .i64 0, .string ⟨#[]⟩, .int .i64 0, .int .i64 0, .slice (some ⟨w.heap.size + 1 + 1 + 1, 0, none⟩) 2 2]) (by simp [results, Tryz.results92, go_sem]) rfl ⟨_, ?_, rfl, ?_⟩
  · have hB4 : KeptFrom lo w ((((w.alloc (.cells #[.int .i64 x0, .int .i64 x1, .int .i64 x2, .int .i64 x3, .int .i64 x4, .int .i64 x5, .string ⟨x6.toArray⟩, .int .i64 x7, .int .i64 x8, .slice A xk.length c] 91)).alloc (.cells #[.int .i64 y0, .int .i64 y1, .int .i64 y2, .int .i64 y3, .int .i64 y4, .int .i64 y5, .string ⟨y6.toArray⟩, .int .i64 y7, .int .i64 y8, .slice B yk.length d] 91)).alloc (.cells #[.int .i64 op, .int .i64 0, .int .i64 0, .int .i64 0, .int .i64 0, .int .i64 0, .string ⟨#[]⟩, .int .i64 0, .int .i64 0, .slice (some ⟨w.heap.size + 1 + 1 + 1, 0, none⟩) 2 2] 91)).alloc (.cells #[.int .i64 x0, .int .i64 x1, .int .i64 x2, .int .i64 x3, .int .i64 x4, .int .i64 x5, .string ⟨x6.toArray⟩, .int .i64 x7, .int .i64 x8, .slice A xk.length c, .int .i64 y0, .int .i64 y1, .int .i64 y2, .int .i64 y3, .int .i64 y4, .int .i64 y5, .string ⟨y6.toArray⟩, .int .i64 y7, .int .i64 y8, .slice B yk.length d] 91)) :=
      .of_below (((((Below.refl _ _).alloc (Nat.le_refl _) _).alloc (by simp) _).alloc (by simp; omega) _).alloc (by simp; omega) _)
    refine exAt.mk (c := 2) (T := 91) (fr := (0, 0)) op 0 0 0 0 0 [] 0 0 (exsAt.cons (exAt.keep hB4 _ _ HX.out) (exsAt.one (exAt.keep hB4 _ _ HY.out))) ?_ (fun r hr => ?_) (by omega)
    · exact alloc_at (by simp)
    · simp only [List.mem_cons, List.not_mem_nil, or_false] at hr
      rcases hr with rfl | rfl <;> rfl
  · exact ((((Below.refl _ _).alloc (Nat.le_refl _) _).alloc (by simp) _).alloc (by simp; omega) _).alloc (by simp; omega) _
end Go.Proofs.YtpdbkbadjgellaaGreatDoor

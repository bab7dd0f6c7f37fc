/-
  What is gathered while an expression is made; the contract of payrollgen's Expr, as a statement.
  What holds from stop to stop: the known memory, the tape, the old blocks.
  Definitions of agreements as they lie in memory; the walk of payrollgen's Scale.
-/
import Derived.Test.YtpdbkbadjgellaaGreatDoorZ12
import Derived.Test.YtpdbkbadjgellaaGreatDoorZ09
import Derived.IntWalk
import Derived.OwnWalk
namespace Go.Proofs.YtpdbkbadjgellaaGreatDoor
open Go.RowKit

theorem GenEx.mono {m n : Nat} {x : Ex} (h : GenEx m x) (hl : m ≤ n) : GenEx n x := ⟨h.1, Nat.le_trans h.2 hl⟩
/-- All of a list are made, no higher than m. -/
def GenAll (m : Nat) : List Ex → Prop
  | [] => True
  | e :: es => GenEx m e ∧ GenAll m es
theorem GenAll.okEs {m : Nat} : ∀ {es : List Ex}, GenAll m es → okEs es ∧ Ex.heights es ≤ m
  | [], _ => by unfold Go.Proofs.YtpdbkbadjgellaaGreatDoor.okEs Ex.heights; exact ⟨trivial, Nat.zero_le _⟩
  | e :: es, h => by
    have h2 := GenAll.okEs h.2
    unfold Go.Proofs.YtpdbkbadjgellaaGreatDoor.okEs Ex.heights
    exact ⟨⟨h.1.1, h2.1⟩, Nat.max_le.2 ⟨h.1.2, h2.2⟩⟩
theorem GenAll.snoc {m : Nat} : ∀ {es : List Ex} {e : Ex}, GenAll m es → GenEx m e → GenAll m (es ++ [e])
  | [], _, _, h => ⟨h, trivial⟩
  | _ :: _, _, hs, h => ⟨hs.1, GenAll.snoc hs.2 h⟩
theorem gen_mk {m : Nat} {op num den mu hu du : Int} {name : List UInt8} {count mode : Int} {kids : List Ex} (h : okLocal op num den mu hu du name count mode kids.length) (hk : GenAll m kids) : GenEx (m + 1) (.mk op num den mu hu du name count mode kids) := by
  have := hk.okEs
  refine ⟨?_, ?_⟩
  · unfold okE; exact ⟨h, this.1⟩
  · unfold Ex.height; omega
theorem exsAt.snoc {lo : Nat} {w : World} {e : Ex} {c : List Value} (h : exAt lo w e c) : ∀ {es : List Ex} {ks : List (List Value)}, exsAt lo w es ks → exsAt lo w (es ++ [e]) (ks ++ [c])
  | [], ks, hs => by unfold exsAt at hs; subst hs; exact exsAt.one h
  | e' :: es, ks, hs => by
    unfold exsAt at hs
    obtain ⟨c', cs, rfl, h1, h2⟩ := hs
    exact exsAt.cons h1 (exsAt.snoc h h2)

/-- The contract of Expr up to a height. -/
def ExprSaid (b : Nat) (ns : List Int) (n : Nat) : Prop :=
  ∀ (tb : Bool) (tm th td h rules : Int) (w : World), TapeOk b ns w → (tb, tm, th, td) ∈ fiveTypes → h ≤ n → h ≤ 100 → -100 ≤ h → 0 ≤ rules → rules ≤ 10 →
    Calls Tryz.prog 65 #[.pointer (some ⟨b, 0, none⟩), .agg #[.bool tb, .int .i64 tm, .int .i64 th, .int .i64 td], .int .i64 h, .int .i64 rules] w (ExPost b ns (GenEx (max 1 n)) w)

/-- What has been gathered: kids, the type, the result, the tape. -/
structure Acc (b : Nat) (ns : List Int) (t s : Bool × Int × Int × Int) (g m lo : Nat) (w : World) (es : List Ex) (ks : List (List Value)) (wx : World) : Prop where
  exs : exsAt lo wx es ks
  gen : GenAll m es
  len : ∀ r ∈ ks, r.length = 10
  st : LeafSt b ns t w wx
  some : wx.heap[g]? = some (.cells #[.bool s.1, .int .i64 s.2.1, .int .i64 s.2.2.1, .int .i64 s.2.2.2] 87 (0, 0))
  lo_le : lo ≤ wx.heap.size
  lo_b : w.heap.size + 2 ≤ lo
  g_lo : g < lo ∧ g ≠ b
theorem Acc.step {b : Nat} {ns : List Int} {t s : Bool × Int × Int × Int} {g m lo : Nat} {w wx wy : World} {es : List Ex} {ks : List (List Value)} (h : Acc b ns t s g m lo w es ks wx) (hlt : b < w.heap.size) (hT : TapeOk b ns wy) (hb : But b wx wy) : Acc b ns t s g m lo w es ks wy :=
  ⟨exsAt.keep (.of_but hb (by have := h.lo_b; omega)) _ _ h.exs, h.gen, h.len, h.st.next hlt hT hb, (hb.block _ (heap_lt h.some) h.g_lo.2).trans h.some, Nat.le_trans h.lo_le hb.size, h.lo_b, h.g_lo⟩
theorem Acc.below {b : Nat} {ns : List Int} {t s : Bool × Int × Int × Int} {g m lo : Nat} {w wx wy : World} {es : List Ex} {ks : List (List Value)} (h : Acc b ns t s g m lo w es ks wx) (hlt : b < w.heap.size) (hb : Below wx.heap.size wx wy) : Acc b ns t s g m lo w es ks wy :=
  h.step hlt (h.st.tape.below hb) (.of_below hb)
theorem Acc.push {b : Nat} {ns : List Int} {t s : Bool × Int × Int × Int} {g m lo : Nat} {w wx wy : World} {es : List Ex} {ks : List (List Value)} (h : Acc b ns t s g m lo w es ks wx) (hlt : b < w.heap.size) {x : Ex} {cs : List Value} (hx : GenEx m x) (hex : exAt wx.heap.size wy x cs) (hT : TapeOk b ns wy) (hb : But b wx wy) :
    Acc b ns t s g m lo w (es ++ [x]) (ks ++ [cs]) wy := by
  have h2 := h.step hlt hT hb
  have hx2 := exAt.mono h.lo_le _ _ hex
  refine ⟨exsAt.snoc hx2 h2.exs, GenAll.snoc h.gen hx, fun r hr => ?_, h2.st, h2.some, h2.lo_le, h2.lo_b, h2.g_lo⟩
  rw [List.mem_append, List.mem_singleton] at hr
  rcases hr with hr | rfl
  · exact h.len r hr
  · exact exAt.len hx2
end Go.Proofs.YtpdbkbadjgellaaGreatDoor

namespace Go.Proofs.YtpdbkbadjgellaaGreatDoor
open Go.RowKit

structure Ph (b : Nat) (ns : List Int) (w : World) (mem : List Ent) (wx : World) : Prop where
  lies : Lies (mem.map (·.id)) wx.heap.size wx ⟨wx.heap.size, mem, (0, 0), []⟩
  tape : TapeOk b ns wx
  but : But b w wx
  lt : b < w.heap.size
  ids : ∀ e ∈ mem, w.heap.size ≤ e.id
theorem TapeOk.kept {b : Nat} {ns : List Int} {w w' : World} {O : List Nat} (h : TapeOk b ns w) (hO : ∀ k ∈ O, b < k) (hk : Kept O w.heap.size w w') : TapeOk b ns w' := by
  have hlt := h.lt
  obtain ⟨v, k, hk1, hc, hi⟩ := h
  have key : ∀ g, g ≤ b → w'.heap[g]? = w.heap[g]? := fun g hg => hk.block g (by omega) (fun hm => by have := hO g hm; omega)
  exact ⟨v, k, hk1, (key b (Nat.le_refl _)).trans hc, hi.keep (fun g hg => key g (by omega))⟩
theorem But.kept {b : Nat} {u w w' : World} {O : List Nat} (h : But b u w) (hO : ∀ k ∈ O, u.heap.size ≤ k) (hk : Kept O w.heap.size w w') : But b u w' :=
  ⟨hk.os.trans h.os, hk.tape.trans h.tape, hk.output.trans h.output, Nat.le_trans h.size hk.size, fun k hk1 hb => (hk.block k (Nat.lt_of_lt_of_le hk1 h.size) (fun hm => by have := hO k hm; omega)).trans (h.block k hk1 hb)⟩
theorem lies_size {O : List Nat} {B : Nat} {w : World} {z : Nat} {mem : List Ent} {x : Nat × Nat} {q : List (Nat × Nat)} (h : Lies O B w ⟨z, mem, x, q⟩) : Lies (mem.map (·.id)) w.heap.size w ⟨w.heap.size, mem, (0, 0), []⟩ :=
  lies_any (show Lies O B w ⟨w.heap.size, mem, (0, 0), []⟩ from ⟨⟨rfl, h.sat.good, h.sat.apart⟩, h.le, h.own⟩)
theorem Ph.start {b : Nat} {ns : List Int} {w : World} (h : TapeOk b ns w) : Ph b ns w [] w :=
  ⟨lies_nil w, h, .refl _ _, h.lt, fun e he => (by cases he)⟩
/-- Behind a run. -/
theorem Ph.run {b : Nat} {ns : List Int} {w wx wy : World} {mem mem' : List Ent} {z : Nat} {O : List Nat} {B : Nat} {x : Nat × Nat} {q : List (Nat × Nat)} (h : Ph b ns w mem wx) (hk : Kept (mem.map (·.id)) wx.heap.size wx wy) (hL : Lies O B wy ⟨z, mem', x, q⟩) (hi : ∀ e ∈ mem', w.heap.size ≤ e.id) : Ph b ns w mem' wy := by
  have hO : ∀ k ∈ mem.map (·.id), w.heap.size ≤ k := fun k hm => by
    obtain ⟨e, he, rfl⟩ := List.mem_map.1 hm
    exact h.ids e he
  exact ⟨lies_size hL, h.tape.kept (fun k hm => by have := hO k hm; have := h.lt; omega) hk, h.but.kept hO hk, h.lt, hi⟩
/-- Behind a call. -/
theorem Ph.call {b : Nat} {ns : List Int} {w wx wy : World} {mem : List Ent} (h : Ph b ns w mem wx) (hT : TapeOk b ns wy) (hb : But b wx wy) : Ph b ns w mem wy :=
  ⟨lies_size (lies_keep h.lies hb.size (fun e he => hb.block e.id (h.lies.sat.good e he).1 (fun hx => by have := h.ids e he; have := h.lt; omega))), hT, h.but.trans hb, h.lt, h.ids⟩
theorem Ph.below {b : Nat} {ns : List Int} {w wx wy : World} {mem : List Ent} (h : Ph b ns w mem wx) (hb : Below wx.heap.size wx wy) : Ph b ns w mem wy := h.call (h.tape.below hb) (.of_below hb)
/-- Behind an append. -/
theorem Ph.grown {b : Nat} {ns : List Int} {w wx wy : World} {mem : List Ent} {row : Option Nat} (h : Ph b ns w mem wx) (hg : wx.grownBy wy row) (hr : ∀ g, row = some g → w.heap.size ≤ g ∧ ∀ e ∈ mem, e.id ≠ g) : Ph b ns w mem wy := by
  have hlt := h.lt
  obtain ⟨v, k, hk1, hc, hi⟩ := h.tape
  have hbl := heap_lt hc
  have key : ∀ g, g < w.heap.size → g < wx.heap.size → wy.heap[g]? = wx.heap[g]? := fun g h1 h2 => hg.block g h2 (fun e => by have := (hr g e.symm).1; omega)
  refine ⟨lies_size (lies_keep h.lies hg.size (fun e he => hg.block e.id (h.lies.sat.good e he).1 (fun e' => (hr e.id e'.symm).2 e he rfl))), ⟨v, k, hk1, (key b hlt hbl).trans hc, hi.keep (fun g hgb => key g (by omega) (by omega))⟩, ?_, h.lt, h.ids⟩
  have hs := h.but.size
  exact ⟨hg.os.trans h.but.os, hg.tape.trans h.but.tape, hg.output.trans h.but.output, Nat.le_trans hs hg.size, fun k hk hb => (key k hk (by omega)).trans (h.but.block k hk hb)⟩
theorem owns_slice {w : World} {base : Nat} {e : TypeId} {size : Nat} {v : Value} {k : Nat} {xs : List Value} (h : w.ownsRow base e size v k xs) : ∃ A c, v = .slice A k c := by
  rcases h.2 with ⟨rfl, rfl⟩ | ⟨g, cap, cur, rfl, _⟩
  · exact ⟨none, 0, rfl⟩
  · exact ⟨_, _, rfl⟩
end Go.Proofs.YtpdbkbadjgellaaGreatDoor

namespace Go.Proofs.YtpdbkbadjgellaaGreatDoor
open Go.RowKit

/-- A definition. -/
structure Df where
  kind : Int
  name : List UInt8
  tb : Bool
  tm : Int
  th : Int
  td : Int
  frm : Int
  ents : List (Int × Int × Int)
  body : Ex
  mode : Int
  num : Int
  den : Int
def entCells (e : Int × Int × Int) : List Value := [.int .i64 e.1, .int .i64 e.2.1, .int .i64 e.2.2]
def Df.head (d : Df) (A : Option Addr) (c : Nat) : List Value := [.int .i64 d.kind, .string ⟨d.name.toArray⟩, .bool d.tb, .int .i64 d.tm, .int .i64 d.th, .int .i64 d.td, .int .i64 d.frm, .slice A d.ents.length c]
def Df.tail (d : Df) : List Value := [.int .i64 d.mode, .int .i64 d.num, .int .i64 d.den]
/-- The twenty-one cells of a definition. -/
def dfAt (lo : Nat) (w : World) (d : Df) (cs : List Value) : Prop :=
  ∃ A c bs, exAt lo w d.body bs ∧ rowsAt lo w 3 A (d.ents.map entCells) ∧ cs = d.head A c ++ bs ++ d.tail
theorem dfAt.keep {lo : Nat} {w w' : World} {d : Df} {cs : List Value} (h : dfAt lo w d cs) (hb : KeptFrom lo w w') : dfAt lo w' d cs := by
  obtain ⟨A, c, bs, h1, h2, h3⟩ := h
  exact ⟨A, c, bs, exAt.keep hb _ _ h1, h2.keep hb, h3⟩
theorem dfAt.mono {lo lo' : Nat} {w : World} {d : Df} {cs : List Value} (h : dfAt lo w d cs) (hl : lo' ≤ lo) : dfAt lo' w d cs := by
  obtain ⟨A, c, bs, h1, h2, h3⟩ := h
  exact ⟨A, c, bs, exAt.mono hl _ _ h1, h2.mono hl, h3⟩
theorem dfAt.len {lo : Nat} {w : World} {d : Df} {cs : List Value} (h : dfAt lo w d cs) : cs.length = 21 := by
  obtain ⟨A, c, bs, h1, _, rfl⟩ := h
  simp [Df.head, Df.tail, exAt.len h1]
def exNone : Ex := .mk 0 0 0 0 0 0 [] 0 0 []
/-- What a made scale holds. -/
def okEnt (e : Int × Int × Int) : Prop := 0 ≤ e.1 ∧ e.1 ≤ 100 ∧ (e.2.1, e.2.2) ∈ decimals
def okScale (d : Df) : Prop := d.kind = 2 ∧ d.body = exNone ∧ d.mode = 0 ∧ d.num = 0 ∧ d.den = 0 ∧ (∀ e ∈ d.ents, okEnt e) ∧ d.ents.length ≤ 3
def ScalePost (b : Nat) (ns : List Int) (P : Df → Prop) (w : World) (e : Ending) (w' : World) : Prop :=
  ∃ d cs, P d ∧ dfAt w.heap.size w' d cs ∧ e = .returned (.agg cs.toArray) ∧ TapeOk b ns w' ∧ But b w w'

noncomputable def code62 : Code := Tryz.f62.body.getD .skip
def pt (b o : Nat) : Value := .pointer (some ⟨b, o, none⟩)
def dfZero : List Value := [.int .i64 0, .string ⟨#[]⟩, .bool false, .int .i64 0, .int .i64 0, .int .i64 0, .int .i64 0, .slice none 0 0, .int .i64 0, .int .i64 0, .int .i64 0, .int .i64 0, .int .i64 0, .int .i64 0, .string ⟨#[]⟩, .int .i64 0, .int .i64 0, .slice none 0 0, .int .i64 0, .int .i64 0, .int .i64 0]
def dfScale (nm : List UInt8) (tb : Bool) (tm th td frm : Int) (v : Value) : List Value := [.int .i64 2, .string ⟨nm.toArray⟩, .bool tb, .int .i64 tm, .int .i64 th, .int .i64 td, .int .i64 frm, v, .int .i64 0, .int .i64 0, .int .i64 0, .int .i64 0, .int .i64 0, .int .i64 0, .string ⟨#[]⟩, .int .i64 0, .int .i64 0, .slice none 0 0, .int .i64 0, .int .i64 0, .int .i64 0]
noncomputable def td62a : List Item := advT 60 [.code code62]
noncomputable def td62b : List Item := advT 60 (popOp td62a)
noncomputable def td62c : List Item := advT 60 (popOp td62b)
noncomputable def td62d : List Item := advT 60 (bodyT td62c)
noncomputable def td62e : List Item := advT 60 (thenT td62d)
noncomputable def td62x : List Item := advT 60 (elseT td62d)
noncomputable def td62f : List Item := advT 60 (tailT td62e)
noncomputable def ops62 : Array Oper := regOf Tryz.f62 6
def W62 : Wr := [(25, 0), (26, 1), (27, 2), (28, 3), (29, 4), (30, 5), (31, 6)]
def saysDec (v : Value) : Prop := ∃ x, x ∈ decimals ∧ v = .agg #[.int .i64 x.1, .int .i64 x.2]
def saysEnt (key : Int) (v : Value) : Prop := ∃ x, x ∈ decimals ∧ v = .agg #[.int .i64 key, .int .i64 x.1, .int .i64 x.2]
def saysRow (b : Nat) (key : Int) (v : Value) (w : World) : Prop := ∃ x B, x ∈ decimals ∧ v = .slice (some ⟨B, 0, none⟩) 1 1 ∧ w.heap[B]? = some (.cells [.int .i64 key, .int .i64 x.1, .int .i64 x.2].toArray 96 (0, 0)) ∧ B ≠ b
def L62 (b : Nat) (w : World) (key : Int) (v : Value) : List Loc :=
  [pureL 0 [] (.pointer (some ⟨w.heap.size + 2, 7, none⟩)), pureL 1 [0] v, pureL 2 [] (.int .i64 key), pureL 3 [] (.pointer (some ⟨b, 0, none⟩)),
   ⟨4, [3], [4], fun vs _ => saysDec (vs.getD 0 undef)⟩, ⟨5, [2, 3, 4], [5], fun vs _ => saysEnt key (vs.getD 0 undef)⟩, ⟨6, [2, 3, 4, 5], [6], fun vs w => saysRow b key (vs.getD 0 undef) w⟩]
theorem ok62 (b : Nat) (w : World) (key : Int) (v : Value) : (locOk .any ops62 W62 (Array.replicate 10 false) 40 (L62 b w key v) && bare ops62 (L62 b w key v)) = true := by kernel_rfl
theorem info96 : (Tryz.prog.info? 96).map (fun i => (i.zero, i.size, i.bytes)) = some (some (.agg #[.int .i64 0, .int .i64 0, .int .i64 0]), 3, 24) := by kernel_rfl
def mem62 (w : World) (nm : List UInt8) (tb : Bool) (tm th td frm : Int) (r : List Value) (v : Value) : List Ent := [⟨w.heap.size, 0, [.bool tb, .int .i64 tm, .int .i64 th, .int .i64 td], 87, true⟩, ⟨w.heap.size + 1, 0, r, 93, true⟩, ⟨w.heap.size + 2, 0, dfScale nm tb tm th td frm v, 93, true⟩]
theorem ids62 {w : World} {nm : List UInt8} {tb : Bool} {tm th td frm : Int} {r : List Value} {v : Value} : ∀ e ∈ mem62 w nm tb tm th td frm r v, w.heap.size ≤ e.id := by
  intro e he
  simp only [mem62, List.mem_cons, List.not_mem_nil, or_false] at he
  rcases he with rfl | rfl | rfl <;> simp
def iv : Value → Int
  | .int _ n => n
  | _ => 0
/-- At the head of the loop. -/
def I62 (b : Nat) (ns : List Int) (w : World) (nm : List UInt8) (tb : Bool) (tm th td frm : Int) (E : Nat → Value) (wx : World) : Prop :=
  ∃ (E' : Nat → Value) (i key : Int) (v : Value) (es : List (Int × Int × Int)), E = updL E' [(0, pt b 0), (8, pt (w.heap.size + 1) 0), (9, pt (w.heap.size + 2) 0), (10, .int .i64 key), (11, .int .i64 i)] ∧ 0 ≤ i ∧ i + es.length ≤ 3 ∧ 0 ≤ key ∧ key ≤ 1 + 4 * es.length ∧ (∀ e ∈ es, okEnt e) ∧
    Ph b ns w (mem62 w nm tb tm th td frm dfZero v) wx ∧ wx.ownsRow (w.heap.size + 3) 96 3 v es.length (es.flatMap entCells)
section
variable {b : Nat} {ns : List Int} {nm : List UInt8} {tb : Bool} {tm th td frm : Int} {w : World}
def env62 (b : Nat) (w : World) (key i : Int) : List (Nat × Value) := [(0, pt b 0), (8, pt (w.heap.size + 1) 0), (9, pt (w.heap.size + 2) 0), (10, .int .i64 key), (11, .int .i64 i)]
def C62 (b : Nat) (ns : List Int) (w : World) (nm : List UInt8) (tb : Bool) (tm th td frm : Int) (v : Value) (es : List (Int × Int × Int)) (wx : World) : Prop :=
  Ph b ns w (mem62 w nm tb tm th td frm dfZero v) wx ∧ wx.ownsRow (w.heap.size + 3) 96 3 v es.length (es.flatMap entCells)
theorem C62.call {v : Value} {es : List (Int × Int × Int)} {wx wy : World} (h : C62 b ns w nm tb tm th td frm v es wx) (hT : TapeOk b ns wy) (hb : But b wx wy) : C62 b ns w nm tb tm th td frm v es wy :=
  ⟨h.1.call hT hb, owns_keep h.2 (fun g hg => by
    have := h.2.lt g hg
    have := h.1.lt
    exact hb.block g (by omega) (by omega))⟩
theorem C62.below {v : Value} {es : List (Int × Int × Int)} {wx wy : World} (h : C62 b ns w nm tb tm th td frm v es wx) (hb : Below wx.heap.size wx wy) : C62 b ns w nm tb tm th td frm v es wy := h.call (h.1.tape.below hb) (.of_below hb)
theorem row_run {r : List Value} {v v0 : Value} {k : Nat} {xs : List Value} {wx wy : World} (h : wx.ownsRow (w.heap.size + 3) 96 3 v k xs) (hk : Kept ((mem62 w nm tb tm th td frm r v0).map (·.id)) wx.heap.size wx wy) : wy.ownsRow (w.heap.size + 3) 96 3 v k xs :=
  owns_keep h (fun g hg => by
    have := h.lt g hg
    refine hk.block g (by omega) (fun hm => ?_)
    simp only [mem62, List.map_cons, List.map_nil, List.mem_cons, List.not_mem_nil, or_false] at hm
    omega)
theorem ent_cells (es : List (Int × Int × Int)) (e : Int × Int × Int) : (es ++ [e]).flatMap entCells = es.flatMap entCells ++ entCells e := by simp
theorem ent_flat (es : List (Int × Int × Int)) : es.flatMap entCells = (es.map entCells).flatten := by rw [List.flatMap_def]
/-- Rows out of what is owned. -/
theorem rows_own {lo size k : Nat} {T : TypeId} {v : Value} {rs : List (List Value)} {wx : World} (h : wx.ownsRow lo T size v k rs.flatten) (hl : ∀ r ∈ rs, r.length = size) (hs : 0 < size) : ∃ A c, v = .slice A rs.length c ∧ rowsAt lo wx size A rs := by
  have hlen : rs.flatten.length = rs.length * size := by
    clear h
    induction rs with
    | nil => simp
    | cons r rs ih => rw [List.flatten_cons, List.length_append, ih (fun r hr => hl r (by simp [hr])), hl r (by simp), List.length_cons, Nat.succ_mul]; omega
  have hk : k = rs.length := by
    have := h.1
    rw [hlen] at this
    exact (Nat.eq_of_mul_eq_mul_right hs this).symm
  subst hk
  rcases h.2 with ⟨rfl, h0⟩ | ⟨g, cap, cur, rfl, hg, hb, hn, hm, hc, ht⟩
  · have : rs = [] := List.eq_nil_of_length_eq_zero h0
    subst this
    exact ⟨none, 0, rfl, .inl rfl⟩
  · refine ⟨some ⟨g, 0, none⟩, cap, rfl, .inr ⟨g, 0, rfl, hg, fun i r hi j u hj => ?_⟩⟩
    have hr := hl r (List.mem_of_getElem? hi)
    have hj' : j < size := by rw [← hr]; exact (List.getElem?_eq_some_iff.1 hj).1
    have hf := flat_get rs size hl i j r hi hj'
    rw [hj, ← ht, List.getElem?_take] at hf
    split at hf
    · unfold World.cell?
      simp only [hb]
      rw [Nat.zero_add]
      simpa using hf
    · cases hf
set_option maxRecDepth 100000 in
theorem parts62 {E : Nat → Value} {key i : Int} {v : Value} {es : List (Int × Int × Int)} :
    PartsE Tryz.prog ops62 40 (updL E (env62 b w key i)) W62 (C62 b ns w nm tb tm th td frm v es) (But b) (L62 b w key v) (L62 b w key v) := by
  refine ⟨part_pureE (But.refl b) (fun _ _ _ _ => by kernel_rfl), ?_, part_pureE (But.refl b) (fun _ _ _ _ => by kernel_rfl), part_pureE (But.refl b) (fun _ _ _ _ => by kernel_rfl), ?_, ?_, ?_, trivial⟩
  · refine ⟨fun _ _ _ _ _ h => h, fun vals u hC hb => ?_⟩
    obtain ⟨h0, _⟩ := hb
    exact OpOk.knownE [(25, 0, .pointer (some ⟨w.heap.size + 2, 7, none⟩))] (by kernel_rfl) ⟨(List.cons.inj h0).1, trivial⟩
      (OpOk.reads ⟨0, mem62 w nm tb tm th td frm dfZero v, (2, 7), []⟩ hC.1.lies.sat.good v (by kernel_rfl) (by kernel_rfl) ⟨hC, .refl _ _, rfl⟩)
  · refine ⟨fun _ _ _ _ _ h => h, fun vals u hC hb => ?_⟩
    obtain ⟨h3, _⟩ := hb
    refine OpOk.call (f := 16) [.tmp 28] (args := [.pointer (some ⟨b, 0, none⟩)]) (ats := #[23]) (by kernel_rfl) rfl ?_ (run_callable (by kernel_rfl) _ _) ?_
    · rw [show [.tmp 28].map (evalVE 40 (updL E (env62 b w key i)) W62 vals) = [vals 3] by kernel_rfl, (List.cons.inj h3).1]
    · refine (decimal_any b ns u hC.1.tape).mono ?_
      rintro e u' ⟨x, hx, rfl, hT, hB⟩
      exact ⟨_, rfl, hC.call hT hB, hB, x, hx, rfl⟩
  · refine ⟨fun _ _ _ _ _ h => h, fun vals u hC hb => ?_⟩
    obtain ⟨h2, _, ⟨x, hx, e4⟩, _⟩ := hb
    exact OpOk.knownE [(27, 2, .int .i64 key), (29, 4, .agg #[.int .i64 x.1, .int .i64 x.2])] (by kernel_rfl) ⟨(List.cons.inj h2).1, e4, trivial⟩
      (OpOk.value (v := .agg #[.int .i64 key, .int .i64 x.1, .int .i64 x.2]) (w' := u) (by kernel_rfl) ⟨hC, .refl _ _, x, hx, rfl⟩)
  · refine ⟨fun vs u u' _ he ⟨x, B, h1, h2, h3, h4⟩ => ⟨x, B, h1, h2, (he.block _ (heap_lt h3) h4).trans h3, h4⟩, fun vals u hC hb => ?_⟩
    obtain ⟨_, _, _, ⟨x, hx, e5⟩, _⟩ := hb
    have hal : Below u.heap.size u (u.alloc (.cells [.int .i64 key, .int .i64 x.1, .int .i64 x.2].toArray 96)) := (Below.refl _ _).alloc (Nat.le_refl _) _
    refine OpOk.knownE [(30, 5, .agg #[.int .i64 key, .int .i64 x.1, .int .i64 x.2])] (by kernel_rfl) ⟨e5, trivial⟩
      (OpOk.value (v := .slice (some ⟨u.heap.size, 0, none⟩) 1 1) (w' := u.alloc (.cells [.int .i64 key, .int .i64 x.1, .int .i64 x.2].toArray 96)) (by kernel_rfl) ⟨hC.below hal, .of_below hal, x, u.heap.size, hx, rfl, heap_alloc_new _ _, ?_⟩)
    have := hC.1.tape.lt
    omega
set_option maxRecDepth 100000 in
theorem scale_any (hT : TapeOk b ns w) : Calls Tryz.prog 62 #[pt b 0, .string ⟨nm.toArray⟩, .agg #[.bool tb, .int .i64 tm, .int .i64 th, .int .i64 td], .int .i64 frm] w (ScalePost b ns (fun d => okScale d ∧ d.name = nm ∧ d.tb = tb ∧ d.tm = tm ∧ d.th = th ∧ d.td = td ∧ d.frm = frm) w) := by
  refine calls_at (args := [pt b 0, .string ⟨nm.toArray⟩, .agg #[.bool tb, .int .i64 tm, .int .i64 th, .int .i64 td], .int .i64 frm]) (fn := Tryz.f62) (c := code62) (n := 40) (by kernel_rfl) (by kernel_rfl) (by kernel_rfl) (by kernel_rfl) ?_
  refine at_run 60 [.code code62] w.heap.size [] [(0, 0), (2, 0)] td62a [(0, pt b 0), (8, pt (w.heap.size + 1) 0), (9, pt (w.heap.size + 2) 0), (16, pt b 0)] (w.heap.size + 3) (mem62 w nm tb tm th td frm dfZero (.slice none 0 0)) (lies_nil w) (by kernel_rfl) fun w1 E1 hL1 hK1 => ?_
  have P1 := (Ph.start hT).run hK1 hL1 ids62
  refine at_call 6 [.tmp 16, .const (.int .i64 2)] (some 17) [pt b 0, .int .i64 2] (by kernel_rfl) (by kernel_rfl) (by kernel_rfl) ?_
  refine (next_any b ns 2 w1 P1.tape (by omega) (by omega)).mono ?_
  rintro e w2 ⟨k, hk, rfl, hT2, hb2⟩
  refine ⟨_, rfl, ?_⟩
  have P2 := P1.call hT2 hb2
  refine at_run 60 (popOp td62a) w2.heap.size _ [] td62b [(0, pt b 0), (8, pt (w.heap.size + 1) 0), (9, pt (w.heap.size + 2) 0), (10, .int .i64 k), (18, pt b 0)] w2.heap.size (mem62 w nm tb tm th td frm dfZero (.slice none 0 0)) P2.lies (by kernel_rfl) fun w3 E3 hL3 hK3 => ?_
  have P3 := P2.run hK3 hL3 ids62
  refine at_call 6 [.tmp 18, .const (.int .i64 3)] (some 19) [pt b 0, .int .i64 3] (by kernel_rfl) (by kernel_rfl) (by kernel_rfl) ?_
  refine (next_any b ns 3 w3 P3.tape (by omega) (by omega)).mono ?_
  rintro e w4 ⟨j, hj, rfl, hT4, hb4⟩
  refine ⟨_, rfl, ?_⟩
  have P4 := P3.call hT4 hb4
  refine at_run 60 (popOp td62b) w4.heap.size _ [] td62c [(0, pt b 0), (8, pt (w.heap.size + 1) 0), (9, pt (w.heap.size + 2) 0), (10, .int .i64 k), (11, .int .i64 (IntKind.i64.wrap (1 + j)))] w4.heap.size (mem62 w nm tb tm th td frm dfZero (.slice none 0 0)) P4.lies (by kernel_rfl) fun w5 E5 hL5 hK5 => ?_
  have P5 := P4.run hK5 hL5 ids62
  have hw : IntKind.i64.wrap (1 + (j : Int)) = 1 + j := IntWalk.i64_in _ (by omega)
  rw [hw]
  refine at_loop (by kernel_rfl) (I62 b ns w nm tb tm th td frm) (fun E _ => (iv (E 11)).toNat) ⟨E5, 1 + j, k, .slice none 0 0, [], rfl, by omega, by simp; omega, by omega, by simp; omega, fun e he => (by cases he), P5, World.ownsRow_nil _ _ _ _⟩ ?_
  clear hw P5 hL5 hK5 P4 hT4 hb4 P3 hL3 hK3 P2 hT2 hb2 P1 hL1 hK1
  rintro E wx ⟨E', i, key, v, es, rfl, hi0, hi3, hk0, hk4, hes, Px, hown⟩ again
  obtain ⟨vA, vc, rfl⟩ := owns_slice hown
  refine at_run 60 (bodyT td62c) wx.heap.size _ [] td62d ((22, .bool (decide (0 < i))) :: env62 b w key i) wx.heap.size (mem62 w nm tb tm th td frm dfZero (.slice vA es.length vc)) Px.lies (by kernel_rfl) fun w6 E6 hL6 hK6 => ?_
  have P6 := Px.run hK6 hL6 ids62
  have O6 := row_run hown hK6
  clear hL6 hK6 Px hown
  refine at_cond (decide (0 < i)) (by kernel_rfl) (fun ht => ?_) (fun hf => ?_)
  · have hi : 0 < i := by simpa using ht
    refine at_run 60 (thenT td62d) w6.heap.size _ [] td62e (env62 b w key i) w6.heap.size (mem62 w nm tb tm th td frm dfZero (.slice vA es.length vc)) P6.lies (by kernel_rfl) fun w7 E7 hL7 hK7 => ?_
    have P7 := P6.run hK7 hL7 ids62
    have O7 := row_run O6 hK7
    clear hL7 hK7 P6 O6
    refine at_draw ops62 (by kernel_rfl) (by kernel_rfl) 10 (by kernel_rfl) ?_
    have C7 : C62 b ns w nm tb tm th td frm (.slice vA es.length vc) es w7.drew := C62.below ⟨P7, O7⟩ (Below.refl _ _).drew
    clear P7 O7
    refine any_partsE (fuel := 3) (L := L62 b w key (.slice vA es.length vc)) (W := W62) (C := C62 b ns w nm tb tm th td frm (.slice vA es.length vc) es) (Ext := But b) (ok62 b w key (.slice vA es.length vc)) C7 (But.refl b) (fun _ _ _ => But.trans) parts62 rfl ?_
    intro vals u hC _ hall
    obtain ⟨_, e1, _, _, _, _, ⟨x, B, hx, e6, hB, _⟩, _⟩ := hall
    have r1 : Region.ready .any ops62 (((L62 b w key (.slice vA es.length vc)).map (·.idx)).foldl (fun b i => b.setIfInBounds i true) (Array.replicate 10 false)) = [7] := by kernel_rfl
    have r2 : Region.ready .any ops62 ((((L62 b w key (.slice vA es.length vc)).map (·.idx)).foldl (fun b i => b.setIfInBounds i true) (Array.replicate 10 false)).setIfInBounds 7 true) = [8] := by kernel_rfl
    have r3 : Region.ready .any ops62 (((((L62 b w key (.slice vA es.length vc)).map (·.idx)).foldl (fun b i => b.setIfInBounds i true) (Array.replicate 10 false)).setIfInBounds 7 true).setIfInBounds 8 true) = [9] := by kernel_rfl
    have r4 : Region.ready .any ops62 ((((((L62 b w key (.slice vA es.length vc)).map (·.idx)).foldl (fun b i => b.setIfInBounds i true) (Array.replicate 10 false)).setIfInBounds 7 true).setIfInBounds 8 true).setIfInBounds 9 true) = [] := by kernel_rfl
    have q26 : evE 40 (finE ops62 vals ((L62 b w key (.slice vA es.length vc)).map (·.idx)) (updL E7 (env62 b w key i))) (.tmp 26) = vals 1 := by kernel_rfl
    have q31 : evE 40 (finE ops62 vals ((L62 b w key (.slice vA es.length vc)).map (·.idx)) (updL E7 (env62 b w key i))) (.tmp 31) = vals 6 := by kernel_rfl
    have qs : (env62 b w key i).map (fun p => finE ops62 vals ((L62 b w key (.slice vA es.length vc)).map (·.idx)) (updL E7 (env62 b w key i)) p.1) = (env62 b w key i).map (·.2) := by kernel_rfl
    generalize ((L62 b w key (.slice vA es.length vc)).map (·.idx)).foldl (fun b i => b.setIfInBounds i true) (Array.replicate 10 false) = lst at *
    generalize finE ops62 vals ((L62 b w key (.slice vA es.length vc)).map (·.idx)) (updL E7 (env62 b w key i)) = E8 at *
    refine any_one (fuel := 2) r1 (show ops62[7]? = some (ops62.getD 7 default) by kernel_rfl) (by kernel_rfl) ?_
    obtain ⟨i0, hi0', hz0, hz1, hz2⟩ := info_parts info96
    have hle : (es.length + 1) * 24 ≤ 140737488355328 := by omega
    refine wp_append_own u (.tmp 26) (.tmp 31) 88 (by kernel_rfl) (w.heap.size + 3) 96 i0 _ 3 24 (by kernel_rfl) hi0' hz0 hz1 hz2 (by rfl) (by decide) (.slice vA es.length vc) es.length (es.flatMap entCells) (by rw [eval_Fr, q26]; exact (List.cons.inj e1).1) hC.2 ⟨B, 0, none⟩ 1 1 (entCells (key, x.1, x.2)) (by rw [eval_Fr, q31]; exact e6) (by rfl) ?_ ?_ (by unfold maxLen; omega) hle ?_ ?_
    · intro jj uu hju
      rw [Addr.add_mid]
      exact rangeAt_all (cs := [.int .i64 key, .int .i64 x.1, .int .i64 x.2]) hB jj uu hju
    · intro uu hu
      simp only [entCells, List.mem_cons, List.not_mem_nil, or_false] at hu
      rcases hu with rfl | rfl | rfl <;> rfl
    · have := (hC.1.lies.sat.good ⟨w.heap.size + 2, 0, dfScale nm tb tm th td frm (.slice vA es.length vc), 93, true⟩ (by simp [mem62])).1
      simp only at this
      omega
    · intro v' u2 O8 hg8 _
      have P8 := hC.1.grown hg8 (fun g hg => by
        have h1 := hC.2.lt g hg
        refine ⟨by omega, fun e he => ?_⟩
        simp only [mem62, List.mem_cons, List.not_mem_nil, or_false] at he
        rcases he with rfl | rfl | rfl <;> simp only <;> omega)
      obtain ⟨wA, wc, rfl⟩ := owns_slice O8
      rw [show (ops62.getD 7 default).dst = some 32 by kernel_rfl, Fr_put, ← updL_same qs]
      refine any_run (fuel := 1) (ops62.getD 8 default) ⟨u2.heap.size, mem62 w nm tb tm th td frm dfZero (.slice vA es.length vc), (0, 0), []⟩ ⟨u2.heap.size, mem62 w nm tb tm th td frm dfZero (.slice vA es.length vc), (0, 0), []⟩ (.value (.pointer (some ⟨w.heap.size + 2, 7, none⟩))) (.pointer (some ⟨w.heap.size + 2, 7, none⟩)) r2 (by kernel_rfl) (by kernel_rfl) (by kernel_rfl) (.inl rfl) P8.lies rfl fun u3 hL9 hK9 => ?_
      have P9 := P8.run hK9 hL9 ids62
      have O9 := row_run O8 hK9
      rw [show (ops62.getD 8 default).dst = some 33 by kernel_rfl]
      refine any_run (fuel := 0) (ops62.getD 9 default) ⟨u3.heap.size, mem62 w nm tb tm th td frm dfZero (.slice vA es.length vc), (2, 7), []⟩ ⟨u3.heap.size, mem62 w nm tb tm th td frm dfZero (.slice wA (es.length + 1) wc), (2, 8), [(w.heap.size + 2, w.heap.size + 2), (7, 7)]⟩ .skip undef r3 (by kernel_rfl) (by kernel_rfl) (by kernel_rfl) (.inr ⟨rfl, rfl⟩) ⟨P9.lies.sat, P9.lies.le, P9.lies.own⟩ rfl fun u4 hL10 hK10 => ?_
      have P10 := P9.run hK10 hL10 ids62
      have O10 := row_run O9 hK10
      rw [show (ops62.getD 9 default).dst = none by kernel_rfl]
      refine any_end r4 ⟨rfl, At.mid ?_⟩
      clear hL9 hK9 P8 O8 hg8 P9 O9 hL10 hK10 r1 r2 r3 r4 q26 q31 hC C7 hi0' hz0 hz1 hz2 hle
      refine at_run 60 (tailT td62e) u4.heap.size _ [] td62f ((34, .int .i64 key) :: (35, pt b 0) :: env62 b w key i) u4.heap.size (mem62 w nm tb tm th td frm dfZero (.slice wA (es.length + 1) wc)) P10.lies (by kernel_rfl) fun u5 E11 hL11 hK11 => ?_
      have P11 := P10.run hK11 hL11 ids62
      have O11 := row_run O10 hK11
      refine at_call 6 [.tmp 35, .const (.int .i64 4)] (some 36) [pt b 0, .int .i64 4] (by kernel_rfl) (by kernel_rfl) (by kernel_rfl) ?_
      refine (next_any b ns 4 u5 P11.tape (by omega) (by omega)).mono ?_
      rintro e u6 ⟨q, hq, rfl, hT12, hb12⟩
      refine ⟨_, rfl, ?_⟩
      have P12 := P11.call hT12 hb12
      have O12 : u6.ownsRow (w.heap.size + 3) 96 3 (.slice wA (es.length + 1) wc) (es.length + 1) (es.flatMap entCells ++ entCells (key, x.1, x.2)) := owns_keep O11 (fun g hg => by
        have h1 := O11.lt g hg
        have h2 := P11.lt
        exact hb12.block g (by omega) (by omega))
      refine at_run 60 (popOp td62f) u6.heap.size _ [] (againT td62c) (env62 b w (IntKind.i64.wrap (key + IntKind.i64.wrap (1 + q))) (IntKind.i64.wrap (i - 1))) u6.heap.size (mem62 w nm tb tm th td frm dfZero (.slice wA (es.length + 1) wc)) P12.lies (by kernel_rfl) fun u7 E13 hL13 hK13 => ?_
      have P13 := P12.run hK13 hL13 ids62
      have O13 := row_run O12 hK13
      have y1 : IntKind.i64.wrap (1 + (q : Int)) = 1 + q := IntWalk.i64_in _ (by omega)
      have y2 : IntKind.i64.wrap (key + (1 + (q : Int))) = key + (1 + q) := IntWalk.i64_in _ (by omega)
      have y3 : IntKind.i64.wrap (i - 1) = i - 1 := IntWalk.i64_in _ (by omega)
      rw [y1, y2, y3]
      clear y1 y2 y3
      refine again _ _ ⟨E13, i - 1, key + (1 + q), _, es ++ [(key, x.1, x.2)], rfl, by omega, by simp; omega, by omega, by simp; omega, fun e he => ?_, P13, ?_⟩ ?_
      · rw [List.mem_append, List.mem_singleton] at he
        rcases he with he | rfl
        · exact hes e he
        · exact ⟨hk0, by omega, hx⟩
      · rw [ent_cells, List.length_append]; exact O13
      · show (i - 1).toNat < i.toNat
        omega
  · have hi : i ≤ 0 := by simpa using hf
    refine at_run 60 (elseT td62d) w6.heap.size _ [(2, 0), (1, 0)] td62x (env62 b w key i) w6.heap.size (mem62 w nm tb tm th td frm (dfScale nm tb tm th td frm (.slice vA es.length vc)) (.slice vA es.length vc)) P6.lies (by kernel_rfl) fun w7 E7 hL7 hK7 => ?_
    have P7 := P6.run hK7 hL7 ids62
    have O7 := row_run O6 hK7
    refine at_ret (fn := Tryz.f62) (by kernel_rfl) (by kernel_rfl) ⟨0, mem62 w nm tb tm th td frm (dfScale nm tb tm th td frm (.slice vA es.length vc)) (.slice vA es.length vc), (1, 0), []⟩ P7.lies.sat.good (.agg (dfScale nm tb tm th td frm (.slice vA es.length vc)).toArray) (by kernel_rfl) (by kernel_rfl) ?_
    rw [ent_flat] at O7
    obtain ⟨A, c, hv, hrows⟩ := rows_own O7 (fun r hr => by obtain ⟨e, _, rfl⟩ := List.mem_map.1 hr; rfl) (by decide)
    rw [List.length_map] at hv
    refine ⟨⟨2, nm, tb, tm, th, td, frm, es, exNone, 0, 0, 0⟩, _, ⟨⟨rfl, rfl, rfl, rfl, rfl, hes, (show es.length ≤ 3 by omega)⟩, rfl, rfl, rfl, rfl, rfl, rfl⟩, ⟨A, c, _, exAt.leaf 0 0 0 0 0 0 [] 0 0, hrows.mono (by omega), ?_⟩, rfl, P7.tape, P7.but⟩
    rw [hv]
    rfl
end
end Go.Proofs.YtpdbkbadjgellaaGreatDoor

/-
  write: a letter's item.
-/
import Derived.Test.YtdcbnkimjhefkaaGreatDoorW22
import Derived.Lib.ItoaLen
namespace Go.Proofs.YtdcbnkimjhefkaaGreatDoor
open Go.RowKit
set_option maxRecDepth 100000
def numP (a : Nat) (c : Cmd) : Int := if a = 69 then c.emp else if a = 68 then c.fr else if a = 86 then c.val else if a = 88 then c.ext else if a = 82 then c.rnk else if a = 80 then c.per else if a = 84 then c.torn else c.stop
def zeroN (a : Nat) (c : Cmd) : Cmd := if a = 69 then { c with emp := 0 } else if a = 68 then { c with fr := 0 } else if a = 86 then { c with val := 0 } else if a = 88 then { c with ext := 0 } else if a = 82 then { c with rnk := 0 } else if a = 80 then { c with per := 0 } else if a = 84 then { c with torn := 0 } else { c with stop := 0 }
def zeroP (a : Nat) (c : Cmd) : Cmd := if a = 78 then { c with nm := [] } else if a = 87 then { c with wh := 0 } else zeroN a c
def itemP (a : Nat) (c : Cmd) : List UInt8 := if a = 78 then c.nm else if a = 87 then Lib.decDigits c.wh else Lib.itoa (numP a c)
def fitsP (n : Int) : Bool := decide (-1000000000000000000 ≤ n) && decide (n ≤ 1000000000000000000)
def okP (a : Nat) (c : Cmd) : Bool := if a = 78 then Tk.isName c.nm else if a = 87 then decide ((c.wh : Int) ≤ 1000000000000000000) else fitsP (numP a c)
structure CmdOk (c : Cmd) : Prop where
  num : ∀ a, -9223372036854775808 ≤ numP a c ∧ numP a c ≤ 9223372036854775807
  wh : c.wh < 18446744073709551616
  nm : c.nm.length ≤ 4294967295
  txt : c.txt.length ≤ 4294967200
noncomputable def tG5 : List Item := advT 60 (bodyT tG4)
noncomputable def tG6 : List Item := advT 60 (popOp tG5)
noncomputable def tG7 : List Item := advT 60 (thenT tG6)
noncomputable def tG8 : List Item := advT 60 (popOp tG7)
noncomputable def tGN : List Item := advG (thenT tG8)
noncomputable def tGN1 : List Item := advT 60 (tailT tGN)
noncomputable def tGm : List Item := advT 60 (elseT tG8)
noncomputable def tGW : List Item := advG (thenT tGm)
noncomputable def tGW1 : List Item := advT 60 (tailT tGW)
noncomputable def tGD : List Item := advT 60 (elseT tGm)
noncomputable def tGD1 : List Item := advG (popOp tGD)
noncomputable def tGD2 : List Item := advT 60 (tailT tGD1)
noncomputable def tGD4 : List Item := advT 60 (popOp (popOp tGD2))
section
variable {w0 : World} {B b kc kf kr ki : Nat} {bs : List UInt8} {c rest : Cmd} {F : Form} {i : Nat} {R : Ending → World → Prop}
abbrev envG (b kc kf kr ki : Nat) (ok : Bool) : List (Nat × Value) := [(0, pt b), (3, pt kc), (5, pt kf), (7, pt kr), (8, .bool ok), (26, pt ki)]
abbrev memG (kc kf kr ki : Nat) (c rest : Cmd) (F : Form) (i : Nat) : List (Nat × Obj) := [(kc, c.obj), (kf, F.obj), (kr, rest.obj), (ki, .stringIter ⟨⟨F.letters⟩⟩ i)]
/-- The engine ran over some of the memory held. -/
theorem WS.ran {bs : List Value} {ms ms' : List (Nat × Obj)} {w w' : World} {mem mem' : List Ent} {z : Nat} (h : WS w0 B b bs ms w) (hL : Lies (mem.map (·.id)) w.heap.size w' ⟨z, mem', (0, 0), []⟩) (hK : Kept (mem.map (·.id)) w.heap.size w w')
    (hin : ∀ e ∈ mem, ∃ o, (e.id, o) ∈ ms) (hms : ∀ p ∈ ms', (p ∈ ms ∧ ∀ e ∈ mem, e.id ≠ p.1) ∨ ∃ cs ty, p.2 = .cells cs.toArray ty (0, 0) ∧ ty ≠ 5 ∧ w0.heap.size ≤ p.1 ∧ (⟨p.1, 0, cs, ty, true⟩ : Ent) ∈ mem') : WS w0 B b bs ms' w' := by
  refine h.kept hK (fun k hk => ?_) (fun p hp => ?_) (fun p hp => ?_)
  · obtain ⟨e, he, rfl⟩ := List.mem_map.1 hk
    exact hin e he
  · rcases hms p hp with ⟨h1, h2⟩ | ⟨cs, ty, e1, _, _, hm⟩
    · refine (hK.block _ (h.lt h1) fun hk => ?_).trans (h.mem p h1)
      obtain ⟨e, he, e2⟩ := List.mem_map.1 hk
      exact h2 e he e2
    · rw [e1]
      exact own_good (hL.sat.good _ hm)
  · rcases hms p hp with ⟨h1, _⟩ | ⟨cs, ty, e1, h2, h3, _⟩
    · exact h.ok p h1
    · refine ⟨h3, fun c fz e => h2 ?_⟩
      rw [e1] at e
      injection e
section
variable (h1 : kc < kf) (h2 : kf < kr) (h3 : kr < ki)
include h1 h2 h3
theorem WS.ranC {bs : List Value} {w w' : World} {z : Nat} (h : WS w0 B b bs (memG kc kf kr ki c rest F i) w) (hL : Lies [kc] w.heap.size w' ⟨z, [⟨kc, 0, c.cells, 64, true⟩], (0, 0), []⟩) (hK : Kept [kc] w.heap.size w w') : WS w0 B b bs (memG kc kf kr ki c rest F i) w' := by
  refine h.ran (mem := [⟨kc, 0, c.cells, 64, true⟩]) hL hK (fun e he => by rw [List.mem_singleton.1 he]; exact ⟨c.obj, by simp⟩) fun p hp => ?_
  have hlo := (h.ok (kc, c.obj) (by simp)).1
  simp only [List.mem_cons, List.not_mem_nil, or_false] at hp
  rcases hp with rfl | rfl | rfl | rfl
  · exact .inr ⟨_, _, rfl, (by decide), hlo, List.mem_singleton.2 rfl⟩
  · exact .inl ⟨by simp, fun e he => by rw [List.mem_singleton.1 he]; show kc ≠ kf; omega⟩
  · exact .inl ⟨by simp, fun e he => by rw [List.mem_singleton.1 he]; show kc ≠ kr; omega⟩
  · exact .inl ⟨by simp, fun e he => by rw [List.mem_singleton.1 he]; show kc ≠ ki; omega⟩
theorem WS.ranF {bs : List Value} {w w' : World} {z : Nat} (h : WS w0 B b bs (memG kc kf kr ki c rest F i) w) (hL : Lies [kf] w.heap.size w' ⟨z, [⟨kf, 0, F.cells, 121, true⟩], (0, 0), []⟩) (hK : Kept [kf] w.heap.size w w') : WS w0 B b bs (memG kc kf kr ki c rest F i) w' := by
  refine h.ran (mem := [⟨kf, 0, F.cells, 121, true⟩]) hL hK (fun e he => by rw [List.mem_singleton.1 he]; exact ⟨F.obj, by simp⟩) fun p hp => ?_
  have hlo := (h.ok (kf, F.obj) (by simp)).1
  simp only [List.mem_cons, List.not_mem_nil, or_false] at hp
  rcases hp with rfl | rfl | rfl | rfl
  · exact .inl ⟨by simp, fun e he => by rw [List.mem_singleton.1 he]; show kf ≠ kc; omega⟩
  · exact .inr ⟨_, _, rfl, (by decide), hlo, List.mem_singleton.2 rfl⟩
  · exact .inl ⟨by simp, fun e he => by rw [List.mem_singleton.1 he]; show kf ≠ kr; omega⟩
  · exact .inl ⟨by simp, fun e he => by rw [List.mem_singleton.1 he]; show kf ≠ ki; omega⟩
theorem WS.ranR {bs : List Value} {w w' : World} {z : Nat} {rest' : Cmd} (h : WS w0 B b bs (memG kc kf kr ki c rest F i) w) (hL : Lies [kr] w.heap.size w' ⟨z, [⟨kr, 0, rest'.cells, 64, true⟩], (0, 0), []⟩) (hK : Kept [kr] w.heap.size w w') : WS w0 B b bs (memG kc kf kr ki c rest' F i) w' := by
  refine h.ran (mem := [⟨kr, 0, rest.cells, 64, true⟩]) hL hK (fun e he => by rw [List.mem_singleton.1 he]; exact ⟨rest.obj, by simp⟩) fun p hp => ?_
  have hlo := (h.ok (kr, rest.obj) (by simp)).1
  simp only [List.mem_cons, List.not_mem_nil, or_false] at hp
  rcases hp with rfl | rfl | rfl | rfl
  · exact .inl ⟨by simp, fun e he => by rw [List.mem_singleton.1 he]; show kr ≠ kc; omega⟩
  · exact .inl ⟨by simp, fun e he => by rw [List.mem_singleton.1 he]; show kr ≠ kf; omega⟩
  · exact .inr ⟨_, _, rfl, (by decide), hlo, List.mem_singleton.2 rfl⟩
  · exact .inl ⟨by simp, fun e he => by rw [List.mem_singleton.1 he]; show kr ≠ ki; omega⟩
end
theorem lies_one {w : World} {k : Nat} {cs : List Value} {ty : TypeId} (h : w.heap[k]? = some (.cells cs.toArray ty (0, 0))) : Lies ([(⟨k, 0, cs, ty, true⟩ : Ent)].map (·.id)) w.heap.size w ⟨w.heap.size, [⟨k, 0, cs, ty, true⟩], (0, 0), []⟩ :=
  lies_mk w _ (fun e he => by rw [List.mem_singleton.1 he]; exact good_own h) (by simp)
theorem WS.cmd {bs : List Value} {w : World} (h : WS w0 B b bs (memG kc kf kr ki c rest F i) w) : w.heap[kc]? = some (.cells c.cells.toArray 64 (0, 0)) := h.mem (kc, c.obj) (by simp)
theorem WS.form {bs : List Value} {w : World} (h : WS w0 B b bs (memG kc kf kr ki c rest F i) w) : w.heap[kf]? = some (.cells F.cells.toArray 121 (0, 0)) := h.mem (kf, F.obj) (by simp)
theorem WS.rst {bs : List Value} {w : World} (h : WS w0 B b bs (memG kc kf kr ki c rest F i) w) : w.heap[kr]? = some (.cells rest.cells.toArray 64 (0, 0)) := h.mem (kr, rest.obj) (by simp)
theorem WS.itr {bs : List Value} {w : World} (h : WS w0 B b bs (memG kc kf kr ki c rest F i) w) : w.heap[ki]? = some (.stringIter ⟨⟨F.letters⟩⟩ i) := h.mem (ki, .stringIter ⟨⟨F.letters⟩⟩ i) (by simp)
/-- A string is written. -/
theorem WS.str {ms : List (Nat × Obj)} {w : World} (h : WS w0 B b (Lib.byteCells bs) ms w) (s : List UInt8) (hl : bs.length + s.length ≤ 140737488355328) : Calls Tryz.prog 37 #[pt b, .string ⟨⟨s⟩⟩] w fun e w' => e = .returned (.tuple #[.int .i64 (s.length : Int), .nilIface]) ∧ WS w0 B b (Lib.byteCells (bs ++ s)) ms w' := by
  refine (Tryz.bldString B b (Lib.byteCells bs) ⟨⟨s⟩⟩ w h.bld (by rw [Lib.byteCells_length]; exact hl) (by have := h.lo; have := h.Bb; have := h.size; omega)).mono fun e w' hh => ?_
  obtain ⟨h1, h2, h3, h4⟩ := hh
  refine ⟨h1, h.wrote (.inr ?_) h3 h4⟩
  rw [Lib.byteCells_append]
  exact h2
theorem WS.byte {ms : List (Nat × Obj)} {w : World} (h : WS w0 B b (Lib.byteCells bs) ms w) (x : UInt8) (hl : bs.length + 1 ≤ 140737488355328) : Calls Tryz.prog 74 #[pt b, .int .u8 (x.toNat : Int)] w fun e w' => e = .returned .nilIface ∧ WS w0 B b (Lib.byteCells (bs ++ [x])) ms w' := by
  refine (Tryz.bldByte B b (Lib.byteCells bs) (x.toNat : Int) w h.bld (by rw [Lib.byteCells_length]; exact hl) (by have := h.lo; have := h.Bb; have := h.size; omega)).mono fun e w' hh => ?_
  obtain ⟨h1, h2, h3, h4⟩ := hh
  refine ⟨h1, h.wrote (.inr ?_) h3 h4⟩
  rw [Lib.byteCells_append]
  exact h2
theorem itoa_len (n : Int) (h0 : -9223372036854775808 ≤ n) (h1 : n ≤ 9223372036854775807) : (Lib.itoa n).length ≤ 21 := by
  unfold Lib.itoa
  have := Lib.nDigits_le20 n.natAbs (by omega)
  have := Lib.nDigits_le20 n.toNat (by omega)
  have := Lib.nDigits_le20 (-n).toNat (by omega)
  split <;> simp [Lib.decDigits_length] <;> omega
/-- Letter N. -/
theorem letter_N {wx : World} {E : Nat → Value} (ok : Bool) (hc : CmdOk c) (h1 : kc < kf) (h2 : kf < kr) (h3 : kr < ki) (hS : WS w0 B b (Lib.byteCells bs) (memG kc kf kr ki c rest F i) wx) (_hB : Tryz.prog.globals.size ≤ B) (hbl : bs.length ≤ 70368744177664)
    (hk : ∀ w' E', WS w0 B b (Lib.byteCells (bs ++ c.nm)) (memG kc kf kr ki c { rest with nm := [] } F i) w' →
      At Tryz.prog 43 R (againT tG4) (Fr 114 (updL E' (envG b kc kf kr ki (ok && Tk.isName c.nm)))) w') :
    At Tryz.prog 43 R tGN (Fr 114 (updL E (envG b kc kf kr ki ok))) wx := by
  refine at_ghost ((curReg tGN).getD #[]) ⟨[⟨kc, 0, c.cells, 64, true⟩], [(4, 0, 4)], [⟨5, [(59, .string ⟨⟨c.nm⟩⟩)], .bool (Tk.isName c.nm), (ok && true)⟩]⟩ (envG b kc kf kr ki (ok && Tk.isName c.nm)) (by kernel_rfl) (by kernel_rfl) (by kernel_rfl)
    (fun e he => by rw [List.mem_singleton.1 he]; exact good_own hS.cmd) (fun sp hsp => ?_) (fun X => by kernel_rfl) (by kernel_rfl) fun w1 E1 B1 => ?_
  · rw [List.mem_singleton.1 hsp]
    exact spec_call 45 [.tmp 59] [.string ⟨⟨c.nm⟩⟩] (by kernel_rfl) (by kernel_rfl) (fun E => by kernel_rfl) fun hc1 u hu => (isName_any c.nm u (by unfold maxLen; have := hc.nm; omega)).mono fun e w' h => ⟨h.1, h.2 ▸ hu⟩
  have S1 := hS.below B1
  refine at_run 60 (tailT tGN) w1.heap.size [⟨kc, 0, c.cells, 64, true⟩] [(0, 4)] tGN1 (envG b kc kf kr ki (ok && Tk.isName c.nm) ++ [(62, pt b), (65, .string ⟨⟨c.nm⟩⟩)]) w1.heap.size [⟨kc, 0, c.cells, 64, true⟩]
    (lies_one S1.cmd) (by kernel_rfl) fun w2 E2 hL2 hK2 => ?_
  have S2 := S1.ranC h1 h2 h3 hL2 hK2
  refine at_call 37 [.tmp 62, .tmp 65] (some 66) [pt b, .string ⟨⟨c.nm⟩⟩] (by kernel_rfl) (by kernel_rfl) (by kernel_rfl) ((S2.str c.nm (by have := hc.nm; omega)).mono fun e w3 hh => ?_)
  obtain ⟨rfl, S3⟩ := hh
  refine ⟨_, rfl, ?_⟩
  refine at_run 60 (popOp tGN1) w3.heap.size [⟨kr, 0, rest.cells, 64, true⟩] [(0, 4)] (againT tG4) (envG b kc kf kr ki (ok && Tk.isName c.nm)) w3.heap.size [⟨kr, 0, { rest with nm := [] }.cells, 64, true⟩]
    (lies_one S3.rst) (by kernel_rfl) fun w4 E4 hL4 hK4 => ?_
  exact hk w4 E4 (S3.ranR h1 h2 h3 hL4 hK4)
/-- Letter W. -/
theorem letter_W {wx : World} {E : Nat → Value} (ok : Bool) (hc : CmdOk c) (h1 : kc < kf) (h2 : kf < kr) (h3 : kr < ki) (hS : WS w0 B b (Lib.byteCells bs) (memG kc kf kr ki c rest F i) wx) (hB : Tryz.prog.globals.size ≤ B) (hC : Con w0) (hbl : bs.length ≤ 70368744177664)
    (hk : ∀ w' E', WS w0 B b (Lib.byteCells (bs ++ Lib.decDigits c.wh)) (memG kc kf kr ki c { rest with wh := 0 } F i) w' →
      At Tryz.prog 43 R (againT tG4) (Fr 114 (updL E' (envG b kc kf kr ki (ok && decide ((c.wh : Int) ≤ 1000000000000000000))))) w') :
    At Tryz.prog 43 R tGW (Fr 114 (updL E (envG b kc kf kr ki ok))) wx := by
  refine at_ghost ((curReg tGW).getD #[]) ⟨[⟨kc, 0, c.cells, 64, true⟩], [(3, 0, 10)], []⟩ (envG b kc kf kr ki (ok && decide ((c.wh : Int) ≤ 1000000000000000000))) (by kernel_rfl) (by kernel_rfl) (by kernel_rfl)
    (fun e he => by rw [List.mem_singleton.1 he]; exact good_own hS.cmd) (fun sp hsp => (by cases hsp)) (fun X => by kernel_rfl) (by kernel_rfl) fun w1 E1 B1 => ?_
  have S1 := hS.below B1
  refine at_run 60 (tailT tGW) w1.heap.size [⟨kc, 0, c.cells, 64, true⟩] [(0, 10)] tGW1 (envG b kc kf kr ki (ok && decide ((c.wh : Int) ≤ 1000000000000000000)) ++ [(77, pt b), (79, .int .u64 c.wh)]) w1.heap.size [⟨kc, 0, c.cells, 64, true⟩]
    (lies_one S1.cmd) (by kernel_rfl) fun w2 E2 hL2 hK2 => ?_
  have S2 := S1.ranC h1 h2 h3 hL2 hK2
  refine at_call 75 [.tmp 79, .const (.int .i64 10)] (some 80) [.int .u64 c.wh, .int .i64 10] (by kernel_rfl) (by kernel_rfl) (by kernel_rfl) ((formatUint_any c.wh hc.wh w2 (con_pow hC.pow hB S2.bel)).mono fun e w3 hh => ?_)
  obtain ⟨rfl, B3⟩ := hh
  refine ⟨_, rfl, ?_⟩
  have S3 := S2.below B3
  have hd : (Lib.decDigits c.wh).length ≤ 20 := by rw [Lib.decDigits_length]; exact Lib.nDigits_le20 _ hc.wh
  refine at_call 37 [.tmp 77, .tmp 80] (some 81) [pt b, .string ⟨⟨Lib.decDigits c.wh⟩⟩] (by kernel_rfl) (by kernel_rfl) (by kernel_rfl) ((S3.str (Lib.decDigits c.wh) (by omega)).mono fun e w4 hh => ?_)
  obtain ⟨rfl, S4⟩ := hh
  refine ⟨_, rfl, ?_⟩
  refine at_run 60 (popOp (popOp tGW1)) w4.heap.size [⟨kr, 0, rest.cells, 64, true⟩] [(0, 10)] (againT tG4) (envG b kc kf kr ki (ok && decide ((c.wh : Int) ≤ 1000000000000000000))) w4.heap.size [⟨kr, 0, { rest with wh := 0 }.cells, 64, true⟩]
    (lies_one S4.rst) (by kernel_rfl) fun w5 E5 hL5 hK5 => ?_
  exact hk w5 E5 (S4.ranR h1 h2 h3 hL5 hK5)
/-- The other letters. -/
theorem letter_D {wx : World} {E : Nat → Value} (ok : Bool) (a : Nat) (ha : a = 69 ∨ a = 68 ∨ a = 86 ∨ a = 88 ∨ a = 82 ∨ a = 80 ∨ a = 84 ∨ a = 83) (hc : CmdOk c) (h1 : kc < kf) (h2 : kf < kr) (h3 : kr < ki) (hS : WS w0 B b (Lib.byteCells bs) (memG kc kf kr ki c rest F i) wx) (hB : Tryz.prog.globals.size ≤ B) (hC : Con w0) (hbl : bs.length ≤ 70368744177664)
    (hk : ∀ w' E', WS w0 B b (Lib.byteCells (bs ++ Lib.itoa (numP a c))) (memG kc kf kr ki c (zeroN a rest) F i) w' →
      At Tryz.prog 43 R (againT tG4) (Fr 114 (updL E' (envG b kc kf kr ki (ok && fitsP (numP a c))))) w') :
    At Tryz.prog 43 R tGD (Fr 114 (updL E (envG b kc kf kr ki ok ++ [(10, .int .i32 (a : Int)), (33, .int .i32 (a : Int))]))) wx := by
  have hco : ∀ w', WS w0 B b (Lib.byteCells bs) (memG kc kf kr ki c rest F i) w' → kc < w'.heap.size := fun w' h => h.lt (p := (kc, c.obj)) (by simp)
  refine at_call 67 [.tmp 3, .tmp 33] (some 34) [pt kc, .int .i32 (a : Int)] (by kernel_rfl) (by kernel_rfl) (by kernel_rfl) ((field_any kc a ha wx).mono fun e w1 hh => ?_)
  obtain ⟨rfl, B1⟩ := hh
  refine ⟨_, rfl, ?_⟩
  have S1 := hS.below B1
  have key : ∀ (hk2 : ∀ w2 E2, Lies [kc] w1.heap.size w2 ⟨w1.heap.size, [⟨kc, 0, c.cells, 64, true⟩], (0, 0), []⟩ → Kept [kc] w1.heap.size w1 w2 → At Tryz.prog 43 R tGD1 (Fr 114 (updL E2 (envG b kc kf kr ki ok ++ [(10, .int .i32 (a : Int)), (11, .int .i64 (numP a c))]))) w2),
      At Tryz.prog 43 R (popOp tGD) (Fr 114 (updO (updL E (envG b kc kf kr ki ok ++ [(10, .int .i32 (a : Int)), (33, .int .i32 (a : Int))])) (some 34) (.pointer (some ⟨kc, fieldOff a, none⟩)))) w1 := by
    intro hk2
    rcases ha with rfl | rfl | rfl | rfl | rfl | rfl | rfl | rfl
    · exact at_run (cntG 90 (popOp tGD)) (popOp tGD) w1.heap.size [⟨kc, 0, c.cells, 64, true⟩] [(0, fieldOff 69)] tGD1 _ w1.heap.size [⟨kc, 0, c.cells, 64, true⟩] (lies_one S1.cmd) (by kernel_rfl) hk2
    · exact at_run (cntG 90 (popOp tGD)) (popOp tGD) w1.heap.size [⟨kc, 0, c.cells, 64, true⟩] [(0, fieldOff 68)] tGD1 _ w1.heap.size [⟨kc, 0, c.cells, 64, true⟩] (lies_one S1.cmd) (by kernel_rfl) hk2
    · exact at_run (cntG 90 (popOp tGD)) (popOp tGD) w1.heap.size [⟨kc, 0, c.cells, 64, true⟩] [(0, fieldOff 86)] tGD1 _ w1.heap.size [⟨kc, 0, c.cells, 64, true⟩] (lies_one S1.cmd) (by kernel_rfl) hk2
    · exact at_run (cntG 90 (popOp tGD)) (popOp tGD) w1.heap.size [⟨kc, 0, c.cells, 64, true⟩] [(0, fieldOff 88)] tGD1 _ w1.heap.size [⟨kc, 0, c.cells, 64, true⟩] (lies_one S1.cmd) (by kernel_rfl) hk2
    · exact at_run (cntG 90 (popOp tGD)) (popOp tGD) w1.heap.size [⟨kc, 0, c.cells, 64, true⟩] [(0, fieldOff 82)] tGD1 _ w1.heap.size [⟨kc, 0, c.cells, 64, true⟩] (lies_one S1.cmd) (by kernel_rfl) hk2
    · exact at_run (cntG 90 (popOp tGD)) (popOp tGD) w1.heap.size [⟨kc, 0, c.cells, 64, true⟩] [(0, fieldOff 80)] tGD1 _ w1.heap.size [⟨kc, 0, c.cells, 64, true⟩] (lies_one S1.cmd) (by kernel_rfl) hk2
    · exact at_run (cntG 90 (popOp tGD)) (popOp tGD) w1.heap.size [⟨kc, 0, c.cells, 64, true⟩] [(0, fieldOff 84)] tGD1 _ w1.heap.size [⟨kc, 0, c.cells, 64, true⟩] (lies_one S1.cmd) (by kernel_rfl) hk2
    · exact at_run (cntG 90 (popOp tGD)) (popOp tGD) w1.heap.size [⟨kc, 0, c.cells, 64, true⟩] [(0, fieldOff 83)] tGD1 _ w1.heap.size [⟨kc, 0, c.cells, 64, true⟩] (lies_one S1.cmd) (by kernel_rfl) hk2
  refine key fun w2 E2 hL2 hK2 => ?_
  clear key
  have S2 := S1.ranC h1 h2 h3 hL2 hK2
  have hn := hc.num a
  generalize hnp : numP a c = n at *
  refine at_ghost ((curReg tGD1).getD #[]) ⟨[], [], []⟩ (envG b kc kf kr ki ((ok && decide (-1000000000000000000 ≤ n)) && decide (n ≤ 1000000000000000000)) ++ [(10, .int .i32 (a : Int)), (11, .int .i64 n)]) (by kernel_rfl) (by kernel_rfl) (by kernel_rfl)
    (fun e he => (by cases he)) (fun sp hsp => (by cases hsp)) (fun X => by kernel_rfl) (by kernel_rfl) fun w3 E3 B3 => ?_
  have S3 := S2.below B3
  rw [Bool.and_assoc]
  change At _ _ _ _ (Fr 114 (updL E3 (envG b kc kf kr ki (ok && fitsP n) ++ [(10, .int .i32 (a : Int)), (11, .int .i64 n)]))) w3
  refine at_run 60 (tailT tGD1) w3.heap.size [] [] tGD2 (envG b kc kf kr ki (ok && fitsP n) ++ [(10, .int .i32 (a : Int)), (46, pt b), (47, .int .i64 n)]) w3.heap.size [] (lies_nil w3) (by kernel_rfl) fun w4 E4 hL4 hK4 => ?_
  have S4 := S3.below (hK4.below (Nat.le_refl _) (fun k hk => by cases hk))
  refine at_call 51 [.tmp 47] (some 48) [.int .i64 n] (by kernel_rfl) (by kernel_rfl) (by kernel_rfl) ((Tryz.strconv_Itoa n hn.1 hn.2 w4 (con_pow hC.pow hB S4.bel)).mono fun e w5 hh => ?_)
  obtain ⟨rfl, q, os, rfl⟩ := hh
  refine ⟨_, rfl, ?_⟩
  have S5 := S4.below (below_growU w4 q os)
  have hd : (Lib.itoa n).length ≤ 21 := itoa_len n hn.1 hn.2
  refine at_call 37 [.tmp 46, .tmp 48] (some 49) [pt b, .string ⟨⟨Lib.itoa n⟩⟩] (by kernel_rfl) (by kernel_rfl) (by kernel_rfl) ((S5.str (Lib.itoa n) (by omega)).mono fun e w6 hh => ?_)
  obtain ⟨rfl, S6⟩ := hh
  refine ⟨_, rfl, ?_⟩
  refine at_run 60 (popOp (popOp tGD2)) w6.heap.size [] [] tGD4 (envG b kc kf kr ki (ok && fitsP n) ++ [(50, .int .i32 (a : Int))]) w6.heap.size [] (lies_nil w6) (by kernel_rfl) fun w7 E7 hL7 hK7 => ?_
  have S7 := S6.below (hK7.below (Nat.le_refl _) (fun k hk => by cases hk))
  refine at_call 67 [.tmp 7, .tmp 50] (some 51) [pt kr, .int .i32 (a : Int)] (by kernel_rfl) (by kernel_rfl) (by kernel_rfl) ((field_any kr a ha w7).mono fun e w8 hh => ?_)
  obtain ⟨rfl, B8⟩ := hh
  refine ⟨_, rfl, ?_⟩
  have S8 := S7.below B8
  have key : ∀ (hk2 : ∀ w9 E9, Lies [kr] w8.heap.size w9 ⟨w8.heap.size, [⟨kr, 0, (zeroN a rest).cells, 64, true⟩], (0, 0), []⟩ → Kept [kr] w8.heap.size w8 w9 → At Tryz.prog 43 R (againT tG4) (Fr 114 (updL E9 (envG b kc kf kr ki (ok && fitsP n)))) w9),
      At Tryz.prog 43 R (popOp tGD4) (Fr 114 (updO (updL E7 (envG b kc kf kr ki (ok && fitsP n) ++ [(50, .int .i32 (a : Int))])) (some 51) (.pointer (some ⟨kr, fieldOff a, none⟩)))) w8 := by
    intro hk2
    rcases ha with rfl | rfl | rfl | rfl | rfl | rfl | rfl | rfl
    · exact at_run 60 (popOp tGD4) w8.heap.size [⟨kr, 0, rest.cells, 64, true⟩] [(0, fieldOff 69)] (againT tG4) _ w8.heap.size [⟨kr, 0, (zeroN 69 rest).cells, 64, true⟩] (lies_one S8.rst) (by kernel_rfl) hk2
    · exact at_run 60 (popOp tGD4) w8.heap.size [⟨kr, 0, rest.cells, 64, true⟩] [(0, fieldOff 68)] (againT tG4) _ w8.heap.size [⟨kr, 0, (zeroN 68 rest).cells, 64, true⟩] (lies_one S8.rst) (by kernel_rfl) hk2
    · exact at_run 60 (popOp tGD4) w8.heap.size [⟨kr, 0, rest.cells, 64, true⟩] [(0, fieldOff 86)] (againT tG4) _ w8.heap.size [⟨kr, 0, (zeroN 86 rest).cells, 64, true⟩] (lies_one S8.rst) (by kernel_rfl) hk2
    · exact at_run 60 (popOp tGD4) w8.heap.size [⟨kr, 0, rest.cells, 64, true⟩] [(0, fieldOff 88)] (againT tG4) _ w8.heap.size [⟨kr, 0, (zeroN 88 rest).cells, 64, true⟩] (lies_one S8.rst) (by kernel_rfl) hk2
    · exact at_run 60 (popOp tGD4) w8.heap.size [⟨kr, 0, rest.cells, 64, true⟩] [(0, fieldOff 82)] (againT tG4) _ w8.heap.size [⟨kr, 0, (zeroN 82 rest).cells, 64, true⟩] (lies_one S8.rst) (by kernel_rfl) hk2
    · exact at_run 60 (popOp tGD4) w8.heap.size [⟨kr, 0, rest.cells, 64, true⟩] [(0, fieldOff 80)] (againT tG4) _ w8.heap.size [⟨kr, 0, (zeroN 80 rest).cells, 64, true⟩] (lies_one S8.rst) (by kernel_rfl) hk2
    · exact at_run 60 (popOp tGD4) w8.heap.size [⟨kr, 0, rest.cells, 64, true⟩] [(0, fieldOff 84)] (againT tG4) _ w8.heap.size [⟨kr, 0, (zeroN 84 rest).cells, 64, true⟩] (lies_one S8.rst) (by kernel_rfl) hk2
    · exact at_run 60 (popOp tGD4) w8.heap.size [⟨kr, 0, rest.cells, 64, true⟩] [(0, fieldOff 83)] (againT tG4) _ w8.heap.size [⟨kr, 0, (zeroN 83 rest).cells, 64, true⟩] (lies_one S8.rst) (by kernel_rfl) hk2
  exact key fun w9 E9 hL9 hK9 => hk w9 E9 (S8.ranR h1 h2 h3 hL9 hK9)
end
end Go.Proofs.YtdcbnkimjhefkaaGreatDoor

/-
  strconv.FormatUint at base 10.
  The shelf's contracts of two methods of strings.Builder, laid over this program by hand.
  The state of a function that writes to a builder: what stays.
  write: the lines of a command.
-/
import Derived.Test.YtdcbnkimjhefkaaGreatDoorShelf
import Derived.Lib.AppendIntMem
import Derived.Shelf.Strconv.Itoa3
import Derived.Shelf.Strings.BuilderK
import Derived.Test.YtdcbnkimjhefkaaGreatDoorProg
import Derived.Test.YtdcbnkimjhefkaaGreatDoorW21
import Derived.Test.YtdcbnkimjhefkaaGreatDoorW18
namespace Go.Proofs.YtdcbnkimjhefkaaGreatDoor
open Go.RowKit Go.Shelf Go.Sort Go.Lib
theorem below_growU (w : World) (n : Nat) (os : Array Obj) : Below w.heap.size w (Sort.grow (w.drewN n) os) :=
  ⟨rfl, rfl, rfl, by simp [Sort.grow], fun k hk => by show (w.heap ++ os)[k]? = _; rw [Array.getElem?_append_left hk]⟩
set_option maxHeartbeats 6400000 in
set_option maxRecDepth 100000 in
theorem formatUint0 (u : Nat) (hu64 : u < 18446744073709551616) (w : World) (htab : Lib.TabIs Tryz.prog w "internal/strconv.uint64pow10" .u64 Lib.pow10Tab) :
    Calls Tryz.prog 118 #[.int .u64 u, .int .i64 10] w fun e w' => e = .returned (.string ⟨(Lib.decDigits u).toArray⟩) ∧ Below w.heap.size w w' := by
  by_cases hs : u < 100
  · have hw1 : IntKind.i64.wrap (u : Int) = u := IntWalk.i64_in _ (by omega)
    have hw2 : IntKind.u64.wrap (u : Int) = u := by rw [IntKind.wrap_u64]; omega
    have hd : decide ((u : Int) < 100) = true := decide_eq_true (by omega)
    go_enter Tryz.func118, Tryz.ntmps118
    go_wp2_with (go_at_call 172; refine (Tryz.internal_strconv_small u hs _).mono ?_; rintro e w' ⟨rfl, rfl⟩)
    go_ret
    exact ⟨rfl, Below.refl _ _⟩
  have hu1 : 1 ≤ u := by omega
  have hd : decide ((u : Int) < 100) = false := decide_eq_false (by omega)
  have hnd20 : Lib.nDigits u ≤ 20 := by have := Lib.numDigits_eq u hu1 hu64; split at this <;> omega
  have hb3 : Lib.nDigits u ≤ 24 := by omega
  have hal : Tryz.prog.arrayLen 255 = 24 := by simp [Program.arrayLen, Tryz.underlying255]
  have hsl1 : ∀ W, (Instr.sliceAt 255 (.pointer (some ⟨w.heap.size, 0, none⟩)) none (some (.int .i64 (Lib.nDigits u : Int))) none).run Tryz.prog W = .ok (.slice (some ⟨w.heap.size, 0, none⟩) (Lib.nDigits u) 24) W := fun W => by
    rw [run_sliceAt_array_h W 255 ⟨w.heap.size, 0, none⟩ (by simp [Program.arrayLen, Program.elem, Tryz.underlying255]) .i64 (Lib.nDigits u : Int) (by omega) (by rw [hal]; omega)]
    go_simp
    try omega
  have hH0 := Lib.holds_zero0 w 255 (Lib.nDigits u) (by omega)
  have hfmt := Tryz.internal_strconv_formatBase10 w.heap.size 0 24 u (Array.replicate (Lib.nDigits u) 0) (w.alloc (.cells Lib.zeros24 255)) hH0 (by rw [Array.size_replicate]; exact Lib.lt_pow_nDigits u) hu64 (by rw [Array.size_replicate]; omega)
  rw [Array.size_replicate] at hfmt
  have HH0 := Lib.hid hH0
  clear hH0 hal
  go_enter Tryz.func118, Tryz.ntmps118
  go_wp2_with (go_at_call 173; refine (Tryz.internal_strconv_numDigits u hu1 hu64 _ (Lib.tabIs_alloc htab _)).mono ?_; rintro e w' ⟨rfl, rfl⟩)
  go_at_call 174
  refine hfmt.mono ?_
  rintro e w' ⟨rfl, k, v', dk, rfl, hF⟩
  have hcv : (convert 68 9 (.slice (some ⟨w.heap.size, 0, none⟩) (Lib.nDigits u) 24)).run Tryz.prog ((putRow (fun (b : UInt8) => Value.int .u8 (b.toNat : Int)) (w.alloc (.cells Lib.zeros24 255)) w.heap.size 0 dk).drewN k) = .ok (.string ⟨(Lib.decDigits u).toArray⟩) ((putRow (fun (b : UInt8) => Value.int .u8 (b.toNat : Int)) (w.alloc (.cells Lib.zeros24 255)) w.heap.size 0 dk).drewN k) := by
    have h := run_convert_bytes_back (P := Tryz.prog) ((putRow (fun (b : UInt8) => Value.int .u8 (b.toNat : Int)) (w.alloc (.cells Lib.zeros24 255)) w.heap.size 0 dk).drewN k) 68 9 5 ⟨w.heap.size, 0, none⟩ 24 (Lib.decDigits u) Tryz.underlying68 Tryz.underlying5 Tryz.underlying9 (fun j hj => by
      rw [Lib.row_is_numeral hF j hj, Lib.add_plain, World.cell?_drewN]
      exact cell?_putRow (fun (b : UInt8) => Value.int .u8 (b.toNat : Int)) _ w.heap.size 0 _ dk HH0.out (by rw [hF.size, Array.size_replicate]) j (by rw [hF.size]; rw [Lib.decDigits_length] at hj; exact hj))
    rw [Lib.decDigits_length] at h
    exact h
  go_wp2
  go_ret
  refine ⟨rfl, ?_⟩
  rw [alloc_eq_grow]
  obtain ⟨os', _, e⟩ := putRow_grow_new (fun (b : UInt8) => Value.int .u8 (b.toNat : Int)) w #[.cells Lib.zeros24 255] w.heap.size 0 dk (Nat.le_refl _)
  rw [e]
  exact below_growU w k os'
theorem formatUint_any (u : Nat) (hu64 : u < 18446744073709551616) (w : World) (htab : Lib.TabIs Tryz.prog w "internal/strconv.uint64pow10" .u64 Lib.pow10Tab) :
    Calls Tryz.prog 75 #[.int .u64 u, .int .i64 10] w fun e w' => e = .returned (.string ⟨(Lib.decDigits u).toArray⟩) ∧ Below w.heap.size w w' := by
  go_enter Tryz.func75, Tryz.ntmps75
  go_wp2_with fail
  go_at_call 118
  refine (formatUint0 u hu64 w htab).mono ?_
  rintro e w' ⟨rfl, hB⟩
  have HB := Lib.hid hB
  clear hB
  go_wp2
  go_ret
  exact ⟨rfl, HB.out⟩
end Go.Proofs.YtdcbnkimjhefkaaGreatDoor

namespace Go.Proofs
open Go.Shelf
def Tryz.bld_ren : Go.Shelf.Ren := ⟨fun | 166 => 37 | 167 => 74 | 240 => 68 | 276 => 115 | n => n, fun | 0 => 0 | 3 => 3 | 4 => 4 | 5 => 5 | 9 => 9 | 20 => 20 | 37 => 68 | 70 => 87 | 72 => 89 | 75 => 91 | 164 => 196 | 80 => 94 | n => n, fun | n => n⟩
theorem Tryz.bld166 : Go.Proofs.Lays.n166 Tryz.prog Tryz.bld_ren := {
  mixed := by kernel_rfl
  f166 := Tryz.func37.trans (congrArg some (by kernel_rfl))
  f240 := Tryz.func68.trans (congrArg some (by kernel_rfl))
  f276 := Tryz.func115.trans (congrArg some (by kernel_rfl))
  t0 := Tryz.underlying0
  a0 := Tryz.isAgg0
  z0 := Tryz.sizeOf0
  v0 := Tryz.zeroValue0
  t3 := Tryz.underlying3
  a3 := Tryz.isAgg3
  z3 := Tryz.sizeOf3
  v3 := Tryz.zeroValue3
  t4 := Tryz.underlying4
  a4 := Tryz.isAgg4
  z4 := Tryz.sizeOf4
  v4 := Tryz.zeroValue4
  t9 := Tryz.underlying9
  a9 := Tryz.isAgg9
  z9 := Tryz.sizeOf9
  v9 := Tryz.zeroValue9
  t20 := Tryz.underlying20
  a20 := Tryz.isAgg20
  z20 := Tryz.sizeOf20
  v20 := Tryz.zeroValue20
  t37 := Tryz.underlying68
  a37 := Tryz.isAgg68
  z37 := Tryz.sizeOf68
  v37 := Tryz.zeroValue68
  t70 := Tryz.underlying87
  a70 := Tryz.isAgg87
  z70 := Tryz.sizeOf87
  v70 := Tryz.zeroValue87
  t72 := Tryz.underlying89
  a72 := Tryz.isAgg89
  z72 := Tryz.sizeOf89
  v72 := Tryz.zeroValue89
  t75 := Tryz.underlying91
  a75 := Tryz.isAgg91
  z75 := Tryz.sizeOf91
  v75 := Tryz.zeroValue91
  t164 := Tryz.underlying196
  a164 := Tryz.isAgg196
  z164 := Tryz.sizeOf196
  v164 := Tryz.zeroValue196 }
theorem Tryz.bld167 : Go.Proofs.Lays.n167 Tryz.prog Tryz.bld_ren := {
  mixed := by kernel_rfl
  f167 := Tryz.func74.trans (congrArg some (by kernel_rfl))
  f240 := Tryz.func68.trans (congrArg some (by kernel_rfl))
  f276 := Tryz.func115.trans (congrArg some (by kernel_rfl))
  t0 := Tryz.underlying0
  a0 := Tryz.isAgg0
  z0 := Tryz.sizeOf0
  v0 := Tryz.zeroValue0
  t4 := Tryz.underlying4
  a4 := Tryz.isAgg4
  z4 := Tryz.sizeOf4
  v4 := Tryz.zeroValue4
  t5 := Tryz.underlying5
  a5 := Tryz.isAgg5
  z5 := Tryz.sizeOf5
  v5 := Tryz.zeroValue5
  t9 := Tryz.underlying9
  a9 := Tryz.isAgg9
  z9 := Tryz.sizeOf9
  v9 := Tryz.zeroValue9
  t20 := Tryz.underlying20
  a20 := Tryz.isAgg20
  z20 := Tryz.sizeOf20
  v20 := Tryz.zeroValue20
  t37 := Tryz.underlying68
  a37 := Tryz.isAgg68
  z37 := Tryz.sizeOf68
  v37 := Tryz.zeroValue68
  t70 := Tryz.underlying87
  a70 := Tryz.isAgg87
  z70 := Tryz.sizeOf87
  v70 := Tryz.zeroValue87
  t72 := Tryz.underlying89
  a72 := Tryz.isAgg89
  z72 := Tryz.sizeOf89
  v72 := Tryz.zeroValue89
  t75 := Tryz.underlying91
  a75 := Tryz.isAgg91
  z75 := Tryz.sizeOf91
  v75 := Tryz.zeroValue91
  t164 := Tryz.underlying196
  a164 := Tryz.isAgg196
  z164 := Tryz.sizeOf196
  v164 := Tryz.zeroValue196 }
theorem Tryz.bldX : Builder.Extra Tryz.prog Tryz.bld_ren := {
  sizeBuilder := by kernel_rfl
  liesBuilder := by kernel_rfl
  t5 := Tryz.underlying5
  a5 := Tryz.isAgg5
  z5 := Tryz.sizeOf5
  v5 := Tryz.zeroValue5
  infoByte := by kernel_rfl
  cellsByte := by kernel_rfl
  sizeByte := by kernel_rfl
  neB5 := by decide }
open Go.RowKit in
theorem Tryz.bldByte (B b : Nat) (bs : List Value) (c : Int) (w : World) (h : Lib.IsBuilderF 89 5 B b bs w) (hlen : bs.length + 1 ≤ 140737488355328) (hBw : B ≤ w.heap.size) :
    Calls Tryz.prog 74 #[.pointer (some ⟨b, 0, none⟩), .int .u8 c] w fun e w' => e = .returned .nilIface ∧ (Lib.BuilderAtF 89 5 B b (.pointer (some ⟨b, 0, none⟩)) (bs ++ [.int .u8 c]) w' ∧ Below B w w' ∧ Lib.OthersKept 5 (some b) w w') := Any.Builder_WriteByte_k Tryz.bld167 Tryz.bldX B b bs c w h hlen hBw
open Go.RowKit in
theorem Tryz.bldString (B b : Nat) (bs : List Value) (s : ByteArray) (w : World) (h : Lib.IsBuilderF 89 5 B b bs w) (hlen : bs.length + s.size ≤ 140737488355328) (hBw : B ≤ w.heap.size) :
    Calls Tryz.prog 37 #[.pointer (some ⟨b, 0, none⟩), .string s] w fun e w' => e = .returned (.tuple #[.int .i64 s.size, .nilIface]) ∧ (Lib.BuilderAtF 89 5 B b (.pointer (some ⟨b, 0, none⟩)) (bs ++ Lib.strCells s) w' ∧ Below B w w' ∧ Lib.OthersKept 5 (some b) w w') := Any.Builder_WriteString_k Tryz.bld166 Tryz.bldX B b bs s w h hlen hBw
end Go.Proofs

namespace Go.Proofs.YtdcbnkimjhefkaaGreatDoor
open Go.RowKit
def notB (o : Obj) : Prop := ∀ c fz, o ≠ .cells c 5 fz
abbrev Bld (B b : Nat) (bs : List Value) (w : World) : Prop := Lib.IsBuilderF 89 5 B b bs w
theorem bldAt_kept {B b : Nat} {p : Value} {bs : List Value} {w w' : World} (h : Lib.BuilderAtF 89 5 B b p bs w) (hk : ∀ k o, w.heap[k]? = some o → (k = b ∨ ∃ c fz, o = .cells c 5 fz) → w'.heap[k]? = some o) :
    Lib.BuilderAtF 89 5 B b p bs w' := by
  obtain ⟨hB, v, hb, hown, hne⟩ := h
  refine ⟨hB, v, hk _ _ hb (.inl rfl), ⟨hown.1, ?_⟩, hne⟩
  rcases hown.2 with hn | ⟨g, cap, cur, fz, hv, hbg, hg, rest⟩
  · exact .inl hn
  · exact .inr ⟨g, cap, cur, fz, hv, hbg, hk _ _ hg (.inr ⟨_, _, rfl⟩), rest⟩
structure WS (w0 : World) (B b : Nat) (bs : List Value) (ms : List (Nat × Obj)) (w : World) : Prop where
  bld : Bld B b bs w
  bel : Below B w0 w
  oth : Lib.OthersKept 5 (some b) w0 w
  mem : ∀ p ∈ ms, w.heap[p.1]? = some p.2
  ok : ∀ p ∈ ms, w0.heap.size ≤ p.1 ∧ notB p.2
  lo : b < w0.heap.size
  Bb : B ≤ b
theorem WS.size {w0 w : World} {B b : Nat} {bs : List Value} {ms : List (Nat × Obj)} (h : WS w0 B b bs ms w) : w0.heap.size ≤ w.heap.size := h.bel.size
theorem WS.lt {w0 w : World} {B b : Nat} {bs : List Value} {ms : List (Nat × Obj)} (h : WS w0 B b bs ms w) {p : Nat × Obj} (hp : p ∈ ms) : p.1 < w.heap.size := (Array.getElem?_eq_some_iff.1 (h.mem p hp)).1
/-- Memory that the call itself holds is turned. -/
theorem WS.kept {w0 w w' : World} {B b : Nat} {bs : List Value} {ms ms' : List (Nat × Obj)} {O : List Nat} (h : WS w0 B b bs ms w) (hK : Kept O w.heap.size w w') (hO : ∀ k ∈ O, ∃ o, (k, o) ∈ ms)
    (hm : ∀ p ∈ ms', w'.heap[p.1]? = some p.2) (hok : ∀ p ∈ ms', w0.heap.size ≤ p.1 ∧ notB p.2) : WS w0 B b bs ms' w' := by
  have hlt : ∀ k o, w.heap[k]? = some o → k < w.heap.size := fun k o hk => (Array.getElem?_eq_some_iff.1 hk).1
  have hkp : ∀ k o, w.heap[k]? = some o → (k = b ∨ ∃ c fz, o = .cells c 5 fz) → w'.heap[k]? = some o := by
    intro k o hk hc
    refine (hK.block k (hlt k o hk) fun hin => ?_).trans hk
    obtain ⟨o', ho'⟩ := hO k hin
    have h1 := h.mem _ ho'
    have h2 := h.ok _ ho'
    simp only at h1 h2
    rw [hk] at h1
    obtain rfl := Option.some.inj h1
    rcases hc with rfl | ⟨c, fz, rfl⟩
    · have := h.lo; omega
    · exact h2.2 c fz rfl
  refine ⟨h.bld.elim (fun x => .inl (bldAt_kept x hkp)) (fun x => .inr (bldAt_kept x hkp)), h.bel.trans (hK.below (by have := h.size; have := h.lo; have := h.Bb; omega) fun k hk => ?_), fun k o hk hb ho => ?_, hm, hok, h.lo, h.Bb⟩
  · obtain ⟨o, ho⟩ := hO k hk
    have := (h.ok _ ho).1
    have := h.lo
    have := h.Bb
    simp only at *
    omega
  · have h1 := h.oth k o hk hb ho
    refine (hK.block k (hlt k o h1) fun hin => ?_).trans h1
    obtain ⟨o', ho'⟩ := hO k hin
    have h2 := (h.ok _ ho').1
    have h3 : k < w0.heap.size := (Array.getElem?_eq_some_iff.1 hk).1
    simp only at h2
    omega
theorem kept_below {w w' : World} (h : Below w.heap.size w w') : Kept [] w.heap.size w w' := ⟨h.os, h.tape, h.output, h.size, fun k hk _ => h.block k hk⟩
theorem WS.below {w0 w w' : World} {B b : Nat} {bs : List Value} {ms : List (Nat × Obj)} (h : WS w0 B b bs ms w) (hb : Below w.heap.size w w') : WS w0 B b bs ms w' :=
  h.kept (kept_below hb) (fun k hk => by cases hk) (fun p hp => (hb.block _ (h.lt hp)).trans (h.mem p hp)) h.ok
/-- The builder is written. -/
theorem WS.wrote {w0 w w' : World} {B b : Nat} {bs bs' : List Value} {ms : List (Nat × Obj)} (h : WS w0 B b bs ms w) (h1 : Bld B b bs' w') (h2 : Below B w w') (h3 : Lib.OthersKept 5 (some b) w w') : WS w0 B b bs' ms w' :=
  ⟨h1, h.bel.trans h2, h.oth.trans h3, fun p hp => h3 _ _ (h.mem p hp) (fun e => by have := (h.ok p hp).1; have := h.lo; have := Option.some.inj e; omega) (h.ok p hp).2, h.ok, h.lo, h.Bb⟩
/-- New memory. -/
theorem WS.more {w0 w : World} {B b : Nat} {bs : List Value} {ms : List (Nat × Obj)} (h : WS w0 B b bs ms w) (k : Nat) (o : Obj) (hk : w.heap[k]? = some o) (hlo : w0.heap.size ≤ k) (ho : notB o) : WS w0 B b bs ((k, o) :: ms) w :=
  ⟨h.bld, h.bel, h.oth, fun p hp => by
    rcases List.mem_cons.1 hp with rfl | hp
    · exact hk
    · exact h.mem p hp, fun p hp => by
    rcases List.mem_cons.1 hp with rfl | hp
    · exact ⟨hlo, ho⟩
    · exact h.ok p hp, h.lo, h.Bb⟩
/-- What the console's functions ask of the listed variables. -/
structure Con (w : World) : Prop where
  forms : FormsAt w
  pow : Lib.TabIs Tryz.prog w "internal/strconv.uint64pow10" .u64 Lib.pow10Tab
  len : LenAt w
theorem gPowC : Tryz.prog.globalNamed "internal/strconv.uint64pow10" = some 4 := by kernel_rfl
theorem con_pow {w w' : World} {B : Nat} (h : Lib.TabIs Tryz.prog w "internal/strconv.uint64pow10" .u64 Lib.pow10Tab) (hB : Tryz.prog.globals.size ≤ B) (hb : Below B w w') : Lib.TabIs Tryz.prog w' "internal/strconv.uint64pow10" .u64 Lib.pow10Tab := by
  have hg : 4 < B := Nat.lt_of_lt_of_le (show 4 < Tryz.prog.globals.size from of_decide_eq_true (by kernel_rfl)) hB
  unfold Lib.TabIs World.var? at h ⊢
  rw [gPowC] at h ⊢
  simp only [Option.bind_some] at h ⊢
  rw [hb.block _ hg]
  exact h
theorem Con.below {w w' : World} {B : Nat} (h : Con w) (hB : Tryz.prog.globals.size ≤ B) (hb : Below B w w') : Con w' := by
  have h1 : 0 < B := Nat.lt_of_lt_of_le (show 0 < Tryz.prog.globals.size from of_decide_eq_true (by kernel_rfl)) hB
  have h2 : 1 < B := Nat.lt_of_lt_of_le (show 1 < Tryz.prog.globals.size from of_decide_eq_true (by kernel_rfl)) hB
  obtain ⟨f1, f2⟩ := h.forms
  obtain ⟨⟨m, hm⟩, l2⟩ := h.len
  exact ⟨⟨fun j v hv => (World.cell?_of_block (hb.block _ h1)).trans (f1 j v hv), Nat.lt_of_lt_of_le f2 hb.size⟩, con_pow h.pow hB hb, ⟨⟨m, (World.cell?_of_block (hb.block _ h2)).trans hm⟩, Nat.lt_of_lt_of_le l2 hb.size⟩⟩
end Go.Proofs.YtdcbnkimjhefkaaGreatDoor

namespace Go.Proofs.YtdcbnkimjhefkaaGreatDoor
open Go.RowKit
set_option maxRecDepth 100000
noncomputable def codeWr : Code := Tryz.f43.body.getD .skip
noncomputable def tG0 : List Item := advT 60 [.code codeWr]
noncomputable def tG1 : List Item := advT 60 (popOp tG0)
noncomputable def tG2 : List Item := advT 60 (elseT tG1)
noncomputable def tG3 : List Item := advT 60 (popOp tG2)
noncomputable def tG4 : List Item := advT 60 (popOp tG3)
abbrev pt (k : Nat) : Value := .pointer (some ⟨k, 0, none⟩)
def Cmd.obj (c : Cmd) : Obj := .cells c.cells.toArray 64 (0, 0)
def Form.obj (F : Form) : Obj := .cells F.cells.toArray 121 (0, 0)
theorem Cmd.notB (c : Cmd) : notB c.obj := fun _ _ h => by cases h
theorem Form.notB (F : Form) : notB F.obj := fun _ _ h => by cases h
theorem iter_notB (s : ByteArray) (i : Nat) : notB (.stringIter s i) := fun _ _ h => by cases h
theorem own_good {w : World} {k : Nat} {cs : List Value} {ty : TypeId} (h : Ent.good w ⟨k, 0, cs, ty, true⟩) : w.heap[k]? = some (.cells cs.toArray ty (0, 0)) := by
  have := h.2
  rw [if_pos rfl] at this
  exact this.1
def formIs (c : Cmd) (F : Form) : Bool := F.kind == c.kind && F.fact == c.fk
def formOf (c : Cmd) : Option Form := forms.find? (formIs c)
/-- The first part: the command and its form lie in memory. -/
theorem write_head {B b : Nat} {bs : List Value} (c : Cmd) (w : World) (hw : Con w) (hb : Bld B b bs w) (hlo : b < w.heap.size) (hBb : B ≤ b) (hg : Tryz.prog.globals.size ≤ B) {R : Ending → World → Prop}
    (hno : formOf c = none → ∀ w', WS w B b bs [] w' → R (.returned (.bool false)) w')
    (hyes : ∀ F, formOf c = some F → ∀ kc kf kr w' E', WS w B b bs [(kc, c.obj), (kf, F.obj), (kr, c.obj)] w' → kc < kf → kf < kr → Con w' →
      At Tryz.prog 43 R tG2 (Fr 114 (updL E' [(0, pt b), (3, pt kc), (5, pt kf), (7, pt kr), (8, .bool true), (20, pt b), (22, .string ⟨⟨F.word⟩⟩)])) w') :
    Calls Tryz.prog 43 #[pt b, .agg ⟨c.cells⟩] w R := by
  refine calls_at (args := [pt b, .agg ⟨c.cells⟩]) (fn := Tryz.f43) (c := codeWr) (n := 114) (by kernel_rfl) (by kernel_rfl) (by kernel_rfl) (by kernel_rfl) ?_
  have S0 : WS w B b bs [] w := ⟨hb, Below.refl _ _, Lib.OthersKept.refl _ _ _, fun p hp => (by cases hp), fun p hp => (by cases hp), hlo, hBb⟩
  refine at_run 60 [.code codeWr] w.heap.size [] [] tG0 [(0, pt b), (3, pt w.heap.size), (13, .func (.func 73) #[] ⟨[pt w.heap.size]⟩)] (w.heap.size + 1) [⟨w.heap.size, 0, c.cells, 64, true⟩] (lies_nil w) (by kernel_rfl) fun w1 E1 hL1 hK1 => ?_
  have g1 := (hL1.sat.good ⟨w.heap.size, 0, c.cells, 64, true⟩ (by simp)).2
  rw [if_pos rfl] at g1
  have S1 : WS w B b bs [(w.heap.size, c.obj)] w1 := S0.kept hK1 (fun k hk => by cases hk) (fun p hp => by rw [List.mem_singleton.1 hp]; exact g1.1) (fun p hp => by rw [List.mem_singleton.1 hp]; exact ⟨Nat.le_refl _, c.notB⟩)
  have C1 : Con w1 := hw.below hg S1.bel
  have hc1 : w.heap.size < w1.heap.size := S1.lt (p := (w.heap.size, c.obj)) (by simp)
  refine at_call 63 [.tmp 13] (some 14) [.func (.func 73) #[] ⟨[pt w.heap.size]⟩] (by kernel_rfl) (by kernel_rfl) (by kernel_rfl) ((find_any 73 [pt w.heap.size] (formIs c) w1 C1.forms (by kernel_rfl) fun F _ w' hB' => ?_).mono fun e w2 hh => ?_)
  · refine wr1_any F w.heap.size c w' (fun j v hv => ?_) (Nat.lt_of_lt_of_le hc1 hB'.size)
    have e1 : w'.heap[w.heap.size]? = some c.obj := (hB'.block _ hc1).trans g1.1
    simp only [World.cell?, e1, Cmd.obj]
    simpa using hv
  obtain ⟨rfl, hB2⟩ := hh
  refine ⟨_, rfl, ?_⟩
  have S2 := S1.below hB2
  have hc2 : w.heap.size < w2.heap.size := S2.lt (p := (w.heap.size, c.obj)) (by simp)
  have m2 := S2.mem (w.heap.size, c.obj) (by simp)
  change At _ _ _ _ (Fr 114 (updO _ _ (.tuple #[.agg ⟨((formOf c).getD .zero).cells⟩, .bool (formOf c).isSome]))) _
  generalize hG : (formOf c).getD .zero = G
  refine at_run 60 (popOp tG0) w2.heap.size [⟨w.heap.size, 0, c.cells, 64, true⟩] [(1, 0)] tG1 [(0, pt b), (3, pt w.heap.size), (5, pt w2.heap.size), (18, .bool (!(formOf c).isSome))] (w2.heap.size + 1) [⟨w.heap.size, 0, c.cells, 64, true⟩, ⟨w2.heap.size, 0, G.cells, 121, true⟩]
    (lies_mk w2 _ (fun e he => by rw [List.mem_singleton.1 he]; exact good_own m2) (by simp)) (by kernel_rfl) fun w3 E3 hL3 hK3 => ?_
  have k3 := hL3.sat.good ⟨w.heap.size, 0, c.cells, 64, true⟩ (by simp)
  have f3 := hL3.sat.good ⟨w2.heap.size, 0, G.cells, 121, true⟩ (by simp)
  have S3 : WS w B b bs [(w.heap.size, c.obj), (w2.heap.size, G.obj)] w3 := S2.kept hK3 (fun k hk => by
      obtain rfl := List.mem_singleton.1 hk
      exact ⟨_, List.mem_singleton.2 rfl⟩) (fun p hp => by
      simp only [List.mem_cons, List.not_mem_nil, or_false] at hp
      rcases hp with rfl | rfl
      · exact own_good k3
      · exact own_good f3) (fun p hp => by
      simp only [List.mem_cons, List.not_mem_nil, or_false] at hp
      rcases hp with rfl | rfl
      · exact ⟨Nat.le_refl _, c.notB⟩
      · exact ⟨Nat.le_of_lt hc2, G.notB⟩)
  have C3 : Con w3 := hw.below hg S3.bel
  cases hf : formOf c with
  | none =>
    refine at_cond true (by kernel_rfl) (fun _ => ?_) (fun h => nomatch h)
    refine at_endT (fn := Tryz.f43) 60 (.bool false) (by kernel_rfl) (by kernel_rfl) fun w4 B4 => hno hf w4 ?_
    have S4 := S3.below B4
    exact ⟨S4.bld, S4.bel, S4.oth, fun p hp => (by cases hp), fun p hp => (by cases hp), hlo, hBb⟩
  | some F =>
    rw [hf] at hG
    obtain rfl : F = G := hG
    refine at_cond false (by kernel_rfl) (fun h => nomatch h) fun _ => ?_
    refine at_run 60 (elseT tG1) w3.heap.size [⟨w.heap.size, 0, c.cells, 64, true⟩, ⟨w2.heap.size, 0, F.cells, 121, true⟩] [(0, 0), (2, 0), (1, 0)] tG2 [(0, pt b), (3, pt w.heap.size), (5, pt w2.heap.size), (7, pt w3.heap.size), (8, .bool true), (20, pt b), (22, .string ⟨⟨F.word⟩⟩)] (w3.heap.size + 1) [⟨w.heap.size, 0, c.cells, 64, true⟩, ⟨w2.heap.size, 0, F.cells, 121, true⟩, ⟨w3.heap.size, 0, c.cells, 64, true⟩]
      (lies_mk w3 _ (fun e he => by
        simp only [List.mem_cons, List.not_mem_nil, or_false] at he
        rcases he with rfl | rfl
        · exact good_own (S3.mem (w.heap.size, c.obj) (by simp))
        · exact good_own (S3.mem (w2.heap.size, F.obj) (by simp))) (by simp; omega)) (by kernel_rfl) fun w4 E4 hL4 hK4 => ?_
    have hf3 : w2.heap.size < w3.heap.size := S3.lt (p := (w2.heap.size, F.obj)) (by simp)
    have S4 : WS w B b bs [(w.heap.size, c.obj), (w2.heap.size, F.obj), (w3.heap.size, c.obj)] w4 := S3.kept hK4 (fun k hk => by
        simp only [List.map_cons, List.map_nil, List.mem_cons, List.not_mem_nil, or_false] at hk
        rcases hk with rfl | rfl
        · exact ⟨c.obj, by simp⟩
        · exact ⟨F.obj, by simp⟩) (fun p hp => by
        simp only [List.mem_cons, List.not_mem_nil, or_false] at hp
        rcases hp with rfl | rfl | rfl
        · exact own_good (hL4.sat.good ⟨w.heap.size, 0, c.cells, 64, true⟩ (by simp))
        · exact own_good (hL4.sat.good ⟨w2.heap.size, 0, F.cells, 121, true⟩ (by simp))
        · exact own_good (hL4.sat.good ⟨w3.heap.size, 0, c.cells, 64, true⟩ (by simp))) (fun p hp => by
        simp only [List.mem_cons, List.not_mem_nil, or_false] at hp
        rcases hp with rfl | rfl | rfl
        · exact ⟨Nat.le_refl _, c.notB⟩
        · exact ⟨Nat.le_of_lt hc2, F.notB⟩
        · exact ⟨Nat.le_of_lt (by omega), c.notB⟩)
    exact hyes F hf w.heap.size w2.heap.size w3.heap.size w4 E4 S4 hc2 hf3 (hw.below hg S4.bel)
end Go.Proofs.YtdcbnkimjhefkaaGreatDoor

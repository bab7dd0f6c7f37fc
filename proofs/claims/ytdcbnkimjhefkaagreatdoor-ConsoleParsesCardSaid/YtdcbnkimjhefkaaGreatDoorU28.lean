/-
 Slices of ints and of commands among the arguments; what the console asks of the listed variables.
 More contracts of library functions, laid over this program.
 The console's number: a word as a canonical decimal.
 What Parse asks of the listed variables.
 The words of a line; the closure with which read looks for a form.
-/
import Derived.Test.YtdcbnkimjhefkaaGreatDoorU14
import Derived.Test.YtdcbnkimjhefkaaGreatDoorU26
import Derived.Test.YtdcbnkimjhefkaaGreatDoorU27
import Derived.Lib.SmallJoins
import Derived.Shelf.Strings.Builder1
import Derived.Shelf.Small.Bits
import Derived.Shelf.Small.Strs
import Derived.Shelf.Strings.BuilderF
import Derived.Shelf.Strings.BuilderK
import Derived.Shelf.Utf8.RuneCount
import Derived.Shelf.Strconv.Atoi
import Derived.Shelf.Strconv.Itoa0
import Derived.Shelf.Strconv.Itoa1
import Derived.Shelf.LaysM
import Derived.Shelf.Strconv.Itoa2
import Derived.Shelf.Strconv.Itoa3
import Derived.Shelf.Strconv.AtoiErrFast
import Derived.Shelf.Strconv.ParseIntEmpty
import Derived.Shelf.Strconv.AtoiFail
import Derived.Shelf.Strconv.Clone
import Derived.Shelf.Strconv.SyntaxError
import Derived.Shelf.LaysC
import Derived.Shelf.Strconv.ToError
import Derived.Shelf.Strconv.Lower
import Derived.Shelf.Strconv.ParseUint10
import Derived.Shelf.Strconv.ParseUint10Empty
import Derived.Shelf.Strconv.ParseUint10Any
import Derived.Shelf.Strconv.ParseInt10
import Derived.Shelf.Strconv.AtoiLong
import Derived.Shelf.Strconv.AtoiInnerAll
import Derived.Shelf.Strconv.RangeError
import Derived.Shelf.Strconv.ToErrorRange
import Derived.Shelf.Strconv.AtoiAll
import Derived.Shelf.Strconv.ErrVarAll
import Derived.Shelf.Strings.Search1
import Derived.Shelf.Strings.Search2
import Derived.Shelf.Strings.Search3
import Derived.Shelf.Strings.Cut
import Derived.Shelf.Strings.Count
import Derived.Shelf.Strings.Shaped
import Derived.Shelf.Strings.Prefix
import Derived.Shelf.Strings.Split
import Derived.Shelf.Strings.SplitShaped
import Derived.Shelf.Unicode.Decode
import Derived.Shelf.Strings.RuneCount
import Derived.Shelf.Strings.Explode
import Derived.Shelf.Bits.Mul64
import Derived.Shelf.Unicode.DecodeSlow
import Derived.Shelf.Unicode.DecodeAny
import Derived.Shelf.Strings.BuilderCap
import Derived.Ground.Names2Prog
import Derived.Shelf.Slices.Clone
import Derived.Shelf.Slices.CompactI
import Derived.Shelf.Slices.SearchI
import Derived.Shelf.Slices.Cells
import Derived.Ground.SlgnProg
import Derived.Shelf.SlicesE.Clone
import Derived.Ground.SlgmProg
import Derived.Shelf.SortM.Plain
import Derived.Shelf.SortM.SortNone
import Derived.Test.YtdcbnkimjhefkaaGreatDoorProg
import Derived.Test.YtdcbnkimjhefkaaGreatDoorUSh
import Derived.Stop.LaidErr
namespace Go.Proofs.YtdcbnkimjhefkaaGreatDoor
open Go.ChangeShapes Go.WideShapes Go.ChangeAt Go.RowKit
set_option maxRecDepth 100000

theorem cellsInt : Tryz.prog.cellsOf 3 = 1 := by kernel_rfl
theorem cellsU64 : Tryz.prog.cellsOf 62 = 1 := by kernel_rfl
theorem cellsPow : Tryz.prog.cellsOf 333 = 20 := by kernel_rfl
theorem gPowType : (Tryz.prog.globals[4]?).map (·.type) = some 333 := by kernel_rfl
theorem pow_of {W : World} {rest : List (String × DataW Unit)} (h : laidMet Tryz.prog (("internal/strconv.uint64pow10", Rows.laid_internal_strconv_uint64pow10) :: rest) W) : Lib.TabIs Tryz.prog W "internal/strconv.uint64pow10" .u64 Lib.pow10Tab :=
 Lib.tabIs_of_head (rest := rest) gPowC gPowType Tryz.underlying333 Tryz.underlying62 cellsU64 cellsPow h
theorem len_of_shape {W : World} (h : W.ShapedOpen Tryz.prog) : LenAt W := by
 obtain ⟨m, hm⟩ := cell_of_shapedOpen_int (P := Tryz.prog) (g := 1) (zero := #[.int .i64 0]) (t := 3) h (of_decide_eq_true (by kernel_rfl)) (by kernel_rfl) rfl (by kernel_rfl) (by kernel_rfl) Tryz.underlying3
 exact ⟨⟨m, hm⟩, World.block_lt_of_cell? W _ hm⟩
theorem forms_of {W : World} {rest : List (String × DataW Unit)} (h : laidMet Tryz.prog (("payroll/console.forms", Rows.laid_payroll_console_forms) :: rest) W) : FormsAt W :=
 ⟨fun j v hj => by rw [Nat.zero_add]; exact formsRow h j v hj, World.block_lt_of_cell? W _ (formsRow h 0 _ rfl)⟩
theorem ints_of {H : Type} {enc : TypeId × Value → H} {W : World} {r : Reach} {b0 : Nat} {v : Value} {d : DataW H} {ps : List MemPlace} (hval : Value.okWide Tryz.prog W r b0 44 v)
  (h : DataW.Trod enc Tryz.prog W 0 (fun _ => true) true 44 v d ps) : ∃ ns, IntsAt W W.heap.size v ns := by
 obtain ⟨a0, len, cap, rfl⟩ := okWide_slice Tryz.underlying44 hval
 obtain ⟨fuel, hf⟩ := h
 rcases open_ints Tryz.underlying44 Tryz.underlying3 cellsInt hf with ⟨hcs, _⟩ | ⟨a, len', cap', zs, hcs, _, hl, hm, hz, _, hcell, hwz⟩
 ·simp [Value.cells] at hcs
  obtain ⟨rfl, rfl, rfl⟩ := hcs
  exact ⟨[], none, 0, rfl, Nat.zero_le _, fun x hx => (by cases hx), fun h => (by cases h)⟩
 ·simp [Value.cells] at hcs
  obtain ⟨rfl, rfl, rfl⟩ := hcs
  rw [if_pos rfl] at hz
  have hlen : (zs.take len).length = len := by simp; omega
  refine ⟨zs.take len, some a, cap, by rw [hlen], by omega, fun x hx => bounds_i64 (hwz x (List.mem_of_mem_take hx)), fun h => ?_⟩
  obtain ⟨b, off, rfl, hc⟩ := Go.ints_at hcell (by omega)
  refine ⟨b, off, rfl, World.block_lt_of_cell? W _ (hc 0 (by omega)), fun i hi => ?_⟩
  rw [hc i (by omega), List.getElem_take, List.getD_eq_getElem?_getD, List.getElem?_eq_getElem (by omega)]
  rfl
section
variable {H : Type} {enc : TypeId × Value → H} {P : Program} {w : World} {base : Nat} {spare : Nat → Bool} {held : Bool}
end
theorem cellsStr : Tryz.prog.cellsOf 9 = 1 := by kernel_rfl
theorem globals_le {W : World} (hs : W.ShapedOpen Tryz.prog) : Tryz.prog.globals.size ≤ W.heap.size := by
 have hsz : Tryz.prog.globals.size = 12 := by kernel_rfl
 have h0 : (((begin Tryz.prog (fun _ _ => 0) default).world.heap[11]?).bind Obj.row?).isSome = true := by kernel_rfl
 rw [Option.isSome_iff_exists] at h0
 obtain ⟨⟨zero, t⟩, h0⟩ := h0
 obtain ⟨cs, hh, _⟩ := hs.1 11 zero t (by rw [hsz]; decide) h0
 have := (Array.getElem?_eq_some_iff.1 hh).1
 omega
theorem con_of {W : World} (hf : FormsAt W) (hp : Lib.TabIs Tryz.prog W "internal/strconv.uint64pow10" .u64 Lib.pow10Tab) (hs : W.ShapedOpen Tryz.prog) : Con W := ⟨hf, hp, len_of_shape hs⟩
end Go.Proofs.YtdcbnkimjhefkaaGreatDoor

namespace Go.Proofs
open Go.Shelf
def Tryz.laysC172_ren : Go.Shelf.Ren := ⟨fun | 172 => 66 | 244 => 113 | 245 => 114 | 247 => 165 | 279 => 166 | 280 => 167 | 281 => 168 | 282 => 169 | 287 => 219 | 316 => 220 | 171 => 51 | 205 => 221 | 321 => 274 | 322 => 275 | 243 => 85 | 246 => 129 | 283 => 172 | 284 => 173 | 285 => 174 | 286 => 175 | 129 => 223 | 317 => 222 | 318 => 224 | 319 => 225 | 320 => 226 | 337 => 276 | 338 => 277 | n => n, fun | 9 => 9 | 3 => 3 | 75 => 91 | 76 => 92 | 4 => 4 | 5 => 5 | 167 => 249 | 37 => 68 | 0 => 0 | 85 => 250 | 2 => 2 | 168 => 252 | 53 => 62 | 175 => 327 | 46 => 190 | 210 => 330 | 127 => 128 | 145 => 401 | 143 => 399 | 21 => 21 | 171 => 255 | 173 => 258 | 212 => 333 | 51 => 322 | 20 => 20 | 213 => 334 | 232 => 222 | 233 => 461 | 80 => 94 | n => n, fun | 15 => 2 | 16 => 3 | 17 => 4 | 18 => 7 | 19 => 8 | n => n⟩
theorem Tryz.laysC172 : Go.Proofs.LaysC.n172 Tryz.prog Tryz.laysC172_ren := {
 mixed := by kernel_rfl
 f129 := Tryz.func223.trans (congrArg some (by kernel_rfl))
 f171 := Tryz.func51.trans (congrArg some (by kernel_rfl))
 f172 := Tryz.func66.trans (congrArg some (by kernel_rfl))
 f205 := Tryz.func221.trans (congrArg some (by kernel_rfl))
 f243 := Tryz.func85.trans (congrArg some (by kernel_rfl))
 f244 := Tryz.func113.trans (congrArg some (by kernel_rfl))
 f245 := Tryz.func114.trans (congrArg some (by kernel_rfl))
 f246 := Tryz.func129.trans (congrArg some (by kernel_rfl))
 f247 := Tryz.func165.trans (congrArg some (by kernel_rfl))
 f279 := Tryz.func166.trans (congrArg some (by kernel_rfl))
 f280 := Tryz.func167.trans (congrArg some (by kernel_rfl))
 f281 := Tryz.func168.trans (congrArg some (by kernel_rfl))
 f282 := Tryz.func169.trans (congrArg some (by kernel_rfl))
 f283 := Tryz.func172.trans (congrArg some (by kernel_rfl))
 f284 := Tryz.func173.trans (congrArg some (by kernel_rfl))
 f285 := Tryz.func174.trans (congrArg some (by kernel_rfl))
 f286 := Tryz.func175.trans (congrArg some (by kernel_rfl))
 f287 := Tryz.func219.trans (congrArg some (by kernel_rfl))
 f316 := Tryz.func220.trans (congrArg some (by kernel_rfl))
 f317 := Tryz.func222.trans (congrArg some (by kernel_rfl))
 f318 := Tryz.func224.trans (congrArg some (by kernel_rfl))
 f319 := Tryz.func225.trans (congrArg some (by kernel_rfl))
 f320 := Tryz.func226.trans (congrArg some (by kernel_rfl))
 f321 := Tryz.func274.trans (congrArg some (by kernel_rfl))
 f322 := Tryz.func275.trans (congrArg some (by kernel_rfl))
 f337 := Tryz.func276.trans (congrArg some (by kernel_rfl))
 f338 := Tryz.func277.trans (congrArg some (by kernel_rfl))
 t0 := Tryz.underlying0
 a0 := Tryz.isAgg0
 z0 := Tryz.sizeOf0
 v0 := Tryz.zeroValue0
 t2 := Tryz.underlying2
 a2 := Tryz.isAgg2
 z2 := Tryz.sizeOf2
 v2 := Tryz.zeroValue2
 t3 := Tryz.underlying3
 a3 := Tryz.isAgg3
 z3 := Tryz.sizeOf3
 v3 := Tryz.zeroValue3
 t4 := Tryz.underlying4
 a4 := Tryz.isAgg4
 z4 := Tryz.sizeOf4
 v4 := Tryz.zeroValue4
 t5 := Tryz.underlying5
 a5 := Tryz.isAgg5
 z5 := Tryz.sizeOf5
 v5 := Tryz.zeroValue5
 t9 := Tryz.underlying9
 a9 := Tryz.isAgg9
 z9 := Tryz.sizeOf9
 v9 := Tryz.zeroValue9
 t20 := Tryz.underlying20
 a20 := Tryz.isAgg20
 z20 := Tryz.sizeOf20
 v20 := Tryz.zeroValue20
 t21 := Tryz.underlying21
 a21 := Tryz.isAgg21
 z21 := Tryz.sizeOf21
 v21 := Tryz.zeroValue21
 t37 := Tryz.underlying68
 a37 := Tryz.isAgg68
 z37 := Tryz.sizeOf68
 v37 := Tryz.zeroValue68
 t46 := Tryz.underlying190
 a46 := Tryz.isAgg190
 z46 := Tryz.sizeOf190
 v46 := Tryz.zeroValue190
 t51 := Tryz.underlying322
 a51 := Tryz.isAgg322
 z51 := Tryz.sizeOf322
 v51 := Tryz.zeroValue322
 t53 := Tryz.underlying62
 a53 := Tryz.isAgg62
 z53 := Tryz.sizeOf62
 v53 := Tryz.zeroValue62
 t75 := Tryz.underlying91
 a75 := Tryz.isAgg91
 z75 := Tryz.sizeOf91
 v75 := Tryz.zeroValue91
 t76 := Tryz.underlying92
 a76 := Tryz.isAgg92
 z76 := Tryz.sizeOf92
 v76 := Tryz.zeroValue92
 t85 := Tryz.underlying250
 a85 := Tryz.isAgg250
 z85 := Tryz.sizeOf250
 v85 := Tryz.zeroValue250
 t127 := Tryz.underlying128
 a127 := Tryz.isAgg128
 z127 := Tryz.sizeOf128
 v127 := Tryz.zeroValue128
 t143 := Tryz.underlying399
 a143 := Tryz.isAgg399
 z143 := Tryz.sizeOf399
 v143 := Tryz.zeroValue399
 t145 := Tryz.underlying401
 a145 := Tryz.isAgg401
 z145 := Tryz.sizeOf401
 v145 := Tryz.zeroValue401
 t167 := Tryz.underlying249
 a167 := Tryz.isAgg249
 z167 := Tryz.sizeOf249
 v167 := Tryz.zeroValue249
 t168 := Tryz.underlying252
 a168 := Tryz.isAgg252
 z168 := Tryz.sizeOf252
 v168 := Tryz.zeroValue252
 t171 := Tryz.underlying255
 a171 := Tryz.isAgg255
 z171 := Tryz.sizeOf255
 v171 := Tryz.zeroValue255
 t173 := Tryz.underlying258
 a173 := Tryz.isAgg258
 z173 := Tryz.sizeOf258
 v173 := Tryz.zeroValue258
 t175 := Tryz.underlying327
 a175 := Tryz.isAgg327
 z175 := Tryz.sizeOf327
 v175 := Tryz.zeroValue327
 t210 := Tryz.underlying330
 a210 := Tryz.isAgg330
 z210 := Tryz.sizeOf330
 v210 := Tryz.zeroValue330
 t212 := Tryz.underlying333
 a212 := Tryz.isAgg333
 z212 := Tryz.sizeOf333
 v212 := Tryz.zeroValue333
 t213 := Tryz.underlying334
 a213 := Tryz.isAgg334
 z213 := Tryz.sizeOf334
 t232 := Tryz.underlying222
 a232 := Tryz.isAgg222
 z232 := Tryz.sizeOf222
 v232 := Tryz.zeroValue222
 t233 := Tryz.underlying461
 a233 := Tryz.isAgg461
 z233 := Tryz.sizeOf461
 v233 := Tryz.zeroValue461
 g15 := by kernel_rfl
 g16 := by kernel_rfl
 g17 := by kernel_rfl
 g18 := by kernel_rfl
 g19 := by kernel_rfl
 t80 := Tryz.underlying94
 a80 := Tryz.isAgg94
 z80 := Tryz.sizeOf94
 v80 := Tryz.zeroValue94
 i0 := by kernel_rfl
 i2 := by kernel_rfl
 i3 := by kernel_rfl
 i4 := by kernel_rfl
 i5 := by kernel_rfl
 i9 := by kernel_rfl
 i20 := by kernel_rfl
 i21 := by kernel_rfl
 i37 := by kernel_rfl
 i46 := by kernel_rfl
 i51 := by kernel_rfl
 i53 := by kernel_rfl
 i75 := by kernel_rfl
 i76 := by kernel_rfl
 i80 := by kernel_rfl
 i85 := by kernel_rfl
 i127 := by kernel_rfl
 i143 := by kernel_rfl
 i145 := by kernel_rfl
 i167 := by kernel_rfl
 i168 := by kernel_rfl
 i171 := by kernel_rfl
 i173 := by kernel_rfl
 i175 := by kernel_rfl
 i210 := by kernel_rfl
 i212 := by kernel_rfl
 i232 := by kernel_rfl
 i233 := by kernel_rfl
 m15 := by kernel_rfl
 m16 := by kernel_rfl
 m17 := by kernel_rfl
 m18 := by kernel_rfl
 m19 := by kernel_rfl
 c0 := by kernel_rfl
 c2 := by kernel_rfl
 c3 := by kernel_rfl
 c4 := by kernel_rfl
 c5 := by kernel_rfl
 c9 := by kernel_rfl
 c20 := by kernel_rfl
 c21 := by kernel_rfl
 c37 := by kernel_rfl
 c46 := by kernel_rfl
 c51 := by kernel_rfl
 c53 := by kernel_rfl
 c75 := by kernel_rfl
 c76 := by kernel_rfl
 c80 := by kernel_rfl
 c85 := by kernel_rfl
 c127 := by kernel_rfl
 c143 := by kernel_rfl
 c145 := by kernel_rfl
 c167 := by kernel_rfl
 c168 := by kernel_rfl
 c171 := by kernel_rfl
 c173 := by kernel_rfl
 c175 := by kernel_rfl
 c210 := by kernel_rfl
 c212 := by kernel_rfl
 c213 := by kernel_rfl
 c232 := by kernel_rfl
 c233 := by kernel_rfl }
open Go.RowKit in
theorem Tryz.strconv_Atoi_ok (s : ByteArray) (hmax : s.size ≤ 9223372036854775806) (v : Int) (h : Lib.atoiAll s.data.toList = .ok v) (w : World) :
  Calls Tryz.prog 66 #[.string s] w fun e w' => e = .returned (.tuple #[.int .i64 v, .nilIface]) ∧ (w' = w ∨ ∃ t, w' = Lib.bytesWorld w 5 t) := Any.strconv_Atoi_ok Tryz.laysC172 s hmax v h w
open Go.RowKit in
theorem Tryz.strconv_Atoi_bad_var (s : ByteArray) (hlim : s.size ≤ 281474976710656) (h1 : ∀ v, Lib.atoiAll s.data.toList ≠ .ok v) (h2 : Lib.atoiAll s.data.toList ≠ .range) (tp : TypeId) (p : Value) (w : World) (hvar : w.var? Tryz.prog "strconv.ErrSyntax" = some #[.iface tp p]) :
  Calls Tryz.prog 66 #[.string s] w fun e w' => ∃ N, e = .returned (.tuple #[.int .i64 0, .iface 252 (.pointer (some ⟨N, 0, none⟩))]) ∧ w.heap.size ≤ N ∧ w'.heap[N]? = some (.cells #[.string ⟨#[65, 116, 111, 105]⟩, .string s, .iface tp p] 330 (0, 0)) ∧ Below w.heap.size w w' := by
 cases h : Lib.atoiAll s.data.toList with
 | ok v => exact absurd h (h1 v)
 | range => exact absurd h h2
 | _ => exact Any.strconv_Atoi_syntax_var Tryz.laysC172 s hlim h tp p w hvar
open Go.RowKit in
theorem Tryz.strconv_Atoi_range_var (s : ByteArray) (hlim : s.size ≤ 281474976710656) (h : Lib.atoiAll s.data.toList = .range) (tp : TypeId) (p : Value) (w : World) (hvar : w.var? Tryz.prog "strconv.ErrRange" = some #[.iface tp p]) :
  Calls Tryz.prog 66 #[.string s] w fun e w' => ∃ N, e = .returned (.tuple #[.int .i64 (Lib.atoiSat s.data.toList), .iface 252 (.pointer (some ⟨N, 0, none⟩))]) ∧ w.heap.size ≤ N ∧ w'.heap[N]? = some (.cells #[.string ⟨#[65, 116, 111, 105]⟩, .string s, .iface tp p] 330 (0, 0)) ∧ Below w.heap.size w w' := Any.strconv_Atoi_range_var Tryz.laysC172 s hlim h tp p w hvar
def Tryz.lays146_ren : Go.Shelf.Ren := ⟨fun | 146 => 62 | 221 => 112 | 268 => 162 | 138 => 163 | 143 => 164 | 195 => 216 | 197 => 217 | 218 => 218 | 219 => 111 | 260 => 273 | 217 => 158 | 225 => 159 | 224 => 160 | 267 => 161 | 266 => 214 | 314 => 215 | n => n, fun | 9 => 9 | 31 => 53 | 3 => 3 | 4 => 4 | 0 => 0 | 105 => 325 | 21 => 21 | 5 => 5 | 46 => 190 | 119 => 457 | 139 => 460 | 138 => 459 | 146 => 323 | 51 => 322 | n => n, fun | 1 => 1 | 3 => 5 | 4 => 6 | n => n⟩
theorem Tryz.lays146 : Go.Proofs.Lays.n146 Tryz.prog Tryz.lays146_ren := {
 mixed := by kernel_rfl
 f138 := Tryz.func163.trans (congrArg some (by kernel_rfl))
 f143 := Tryz.func164.trans (congrArg some (by kernel_rfl))
 f146 := Tryz.func62.trans (congrArg some (by kernel_rfl))
 f195 := Tryz.func216.trans (congrArg some (by kernel_rfl))
 f197 := Tryz.func217.trans (congrArg some (by kernel_rfl))
 f217 := Tryz.func158.trans (congrArg some (by kernel_rfl))
 f218 := Tryz.func218.trans (congrArg some (by kernel_rfl))
 f219 := Tryz.func111.trans (congrArg some (by kernel_rfl))
 f221 := Tryz.func112.trans (congrArg some (by kernel_rfl))
 f224 := Tryz.func160.trans (congrArg some (by kernel_rfl))
 f225 := Tryz.func159.trans (congrArg some (by kernel_rfl))
 f260 := Tryz.func273.trans (congrArg some (by kernel_rfl))
 f266 := Tryz.func214.trans (congrArg some (by kernel_rfl))
 f267 := Tryz.func161.trans (congrArg some (by kernel_rfl))
 f268 := Tryz.func162.trans (congrArg some (by kernel_rfl))
 f314 := Tryz.func215.trans (congrArg some (by kernel_rfl))
 t0 := Tryz.underlying0
 a0 := Tryz.isAgg0
 z0 := Tryz.sizeOf0
 v0 := Tryz.zeroValue0
 t3 := Tryz.underlying3
 a3 := Tryz.isAgg3
 z3 := Tryz.sizeOf3
 v3 := Tryz.zeroValue3
 t4 := Tryz.underlying4
 a4 := Tryz.isAgg4
 z4 := Tryz.sizeOf4
 v4 := Tryz.zeroValue4
 t5 := Tryz.underlying5
 a5 := Tryz.isAgg5
 z5 := Tryz.sizeOf5
 v5 := Tryz.zeroValue5
 t9 := Tryz.underlying9
 a9 := Tryz.isAgg9
 z9 := Tryz.sizeOf9
 v9 := Tryz.zeroValue9
 t21 := Tryz.underlying21
 a21 := Tryz.isAgg21
 z21 := Tryz.sizeOf21
 v21 := Tryz.zeroValue21
 t31 := Tryz.underlying53
 a31 := Tryz.isAgg53
 z31 := Tryz.sizeOf53
 v31 := Tryz.zeroValue53
 t46 := Tryz.underlying190
 a46 := Tryz.isAgg190
 z46 := Tryz.sizeOf190
 v46 := Tryz.zeroValue190
 t51 := Tryz.underlying322
 a51 := Tryz.isAgg322
 z51 := Tryz.sizeOf322
 v51 := Tryz.zeroValue322
 t105 := Tryz.underlying325
 a105 := Tryz.isAgg325
 z105 := Tryz.sizeOf325
 v105 := Tryz.zeroValue325
 t119 := Tryz.underlying457
 a119 := Tryz.isAgg457
 z119 := Tryz.sizeOf457
 t138 := Tryz.underlying459
 a138 := Tryz.isAgg459
 z138 := Tryz.sizeOf459
 v138 := Tryz.zeroValue459
 t139 := Tryz.underlying460
 a139 := Tryz.isAgg460
 z139 := Tryz.sizeOf460
 v139 := Tryz.zeroValue460
 t146 := Tryz.underlying323
 a146 := Tryz.isAgg323
 z146 := Tryz.sizeOf323
 v146 := Tryz.zeroValue323
 g1 := by kernel_rfl
 g3 := by kernel_rfl
 g4 := by kernel_rfl }
open Go.RowKit Go.Lib in
theorem Tryz.strings_Split (s sep : ByteArray) (m : Int) (w : World) (hs : s.size < 4294967281) (hm : w.cell? ⟨1, 0, none⟩ = some (.int .i64 m)) (h1 : 1 ≤ sep.size) :
  Calls Tryz.prog 62 #[.string s, .string sep] w fun e w' =>
   e = .returned (.slice (some ⟨w.heap.size, 0, none⟩) (Lib.countB s sep + 1) (Lib.countB s sep + 1)) ∧ w' = w.alloc (.cells ((Lib.splitB sep 0 (Lib.countB s sep) s).map Value.string).toArray 9) := Any.strings_Split Tryz.lays146 (by kernel_rfl) s sep m w hs hm h1
end Go.Proofs

namespace Go.Proofs.YtdcbnkimjhefkaaGreatDoor
open Go.RowKit
set_option maxRecDepth 100000
structure ConP (w : World) : Prop where
 con : Con w
 errS : ∃ tp p, w.var? Tryz.prog "strconv.ErrSyntax" = some #[.iface tp p]
 errR : ∃ tp p, w.var? Tryz.prog "strconv.ErrRange" = some #[.iface tp p]
theorem gErrS : Tryz.prog.globalNamed "strconv.ErrSyntax" = some 2 := by kernel_rfl
theorem gErrR : Tryz.prog.globalNamed "strconv.ErrRange" = some 3 := by kernel_rfl
theorem var_below {w w' : World} {B g : Nat} {nm : String} (hn : Tryz.prog.globalNamed nm = some g) (hg : g < B) (hb : Below B w w') : w'.var? Tryz.prog nm = w.var? Tryz.prog nm := by
 unfold World.var?
 rw [hn]
 simp only [Option.bind_some]
 rw [hb.block _ hg]
theorem ConP.below {w w' : World} {B : Nat} (h : ConP w) (hB : Tryz.prog.globals.size ≤ B) (hb : Below B w w') : ConP w' := by
 have h1 : 2 < B := Nat.lt_of_lt_of_le (show 2 < Tryz.prog.globals.size from of_decide_eq_true (by kernel_rfl)) hB
 have h2 : 3 < B := Nat.lt_of_lt_of_le (show 3 < Tryz.prog.globals.size from of_decide_eq_true (by kernel_rfl)) hB
 refine ⟨h.con.below hB hb, ?_, ?_⟩
 ·rw [var_below gErrS h1 hb]; exact h.errS
 ·rw [var_below gErrR h2 hb]; exact h.errR
def numO (s : List UInt8) : Option Int := match Lib.atoiAll s with
 | .ok v => if Lib.itoa v = s ∧ -1000000000000000000 ≤ v ∧ v ≤ 1000000000000000000 then some v else none
 | _ => none
theorem below_bytes {w : World} {t : TypeId} {w' : World} (h : w' = w ∨ ∃ s, w' = Lib.bytesWorld w t s) : Below w.heap.size w w' := by
 rcases h with rfl | ⟨s, rfl⟩
 ·exact Below.refl _ _
 ·exact ⟨rfl, rfl, rfl, by rw [Lib.bytesWorld_size]; omega, fun j hj => Lib.bytesWorld_at_old w t s j hj⟩
theorem beq_bytes (a b : List UInt8) : ((⟨⟨a⟩⟩ : ByteArray).toList == (⟨⟨b⟩⟩ : ByteArray).toList) = decide (a = b) := by
 have e : ((⟨⟨a⟩⟩ : ByteArray) == ⟨⟨b⟩⟩) = decide (a = b) := by
  show ((⟨a⟩ : Array UInt8) == ⟨b⟩) = decide (a = b)
  by_cases hab : a = b
  ·subst hab; simp
  ·rw [decide_eq_false hab, beq_eq_false_iff_ne]
   intro h2
   exact hab (by injection h2)
 rw [beq_toListBytes] at e
 exact e
theorem exec_neqs {P : Program} {o : Oper} {ρ : Operand → Value} {w : World} {T T' : TypeId} {x y : Operand} {a b : List UInt8} (hop : o.op = .binOp .neq T x y T') (hx : ρ x = .string ⟨⟨a⟩⟩) (hy : ρ y = .string ⟨⟨b⟩⟩) : (execOp ρ o).run P w = .ok (.value (.bool (!(decide (a = b))))) w := by
 unfold execOp
 simp only [hop, hx, hy]
 unfold binOp Op.stringOp
 have e := beq_bytes a b
 simp only [eqGuard, e]
 rfl
theorem exec_eqs {P : Program} {o : Oper} {ρ : Operand → Value} {w : World} {T T' : TypeId} {x y : Operand} {a b : List UInt8} (hop : o.op = .binOp .eql T x y T') (hx : ρ x = .string ⟨⟨a⟩⟩) (hy : ρ y = .string ⟨⟨b⟩⟩) : (execOp ρ o).run P w = .ok (.value (.bool (decide (a = b)))) w := by
 unfold execOp
 simp only [hop, hx, hy]
 unfold binOp Op.stringOp
 have e := beq_bytes a b
 simp only [eqGuard, e]
 rfl
theorem atoi_in {s : List UInt8} {v : Int} (h : Lib.atoiAll s = .ok v) : inR v := by
 unfold Lib.atoiAll at h
 cases s with
 | nil => cases h
 | cons c r =>
  simp only at h
  split at h
  ·cases h
  ·cases h
  ·split at h
   ·cases h
   ·split at h
    ·cases h
    ·rename_i u _ h1 h2
     have h := Lib.NumEnd.ok.inj h
     by_cases hn : c.toNat = 45
     ·simp only [hn, if_true] at h
      have : ¬ 9223372036854775808 < u := fun h3 => h2 ⟨hn, h3⟩
      exact ⟨by omega, by omega⟩
     ·simp only [hn, if_false] at h
      have : ¬ 9223372036854775808 ≤ u := fun h3 => h1 ⟨hn, h3⟩
      exact ⟨by omega, by omega⟩
theorem sat_in (s : List UInt8) : inR (Lib.atoiSat s) := by
 unfold Lib.atoiSat
 split
 ·exact lit_in _ rfl
 ·exact lit_in _ rfl
noncomputable def codeNu : Code := Tryz.f65.body.getD .skip
noncomputable def tNu0 : List Item := advT 60 [.code codeNu]
noncomputable def tNu1 : List Item := advG (popOp tNu0)
noncomputable def tNu2 : List Item := advT 60 (tailT tNu1)
noncomputable def tNu3 : List Item := advT 60 (thenT tNu2)
def NumPost (k8 : Nat) (b0 : Bool) (s : List UInt8) (w : World) (e : Ending) (w' : World) : Prop :=
 ∃ v : Int, e = .returned (.int .i64 v) ∧ inR v ∧ (∀ n, numO s = some n → v = n) ∧ w'.heap[k8]? = some (.cells [.bool (b0 && (numO s).isSome)].toArray 4 (0, 0)) ∧ But k8 w w'
theorem number_any (s : List UInt8) (k8 : Nat) (b0 : Bool) (w : World) (hk : w.heap[k8]? = some (.cells [.bool b0].toArray 4 (0, 0))) (hs : s.length ≤ 70000) (hC : ConP w) (hg : Tryz.prog.globals.size ≤ w.heap.size) (_hg8 : Tryz.prog.globals.size ≤ k8) :
  Calls Tryz.prog 65 ([.string ⟨⟨s⟩⟩, pb k8] : List Value).toArray w (NumPost k8 b0 s w) := by
 have hl8 := heap_lt hk
 refine calls_at (args := [.string ⟨⟨s⟩⟩, pb k8]) (fn := Tryz.f65) (c := codeNu) (n := 28) (by kernel_rfl) (by kernel_rfl) (by kernel_rfl) (by kernel_rfl) ?_
 refine at_run 60 [.code codeNu] w.heap.size [] [] tNu0 [(0, .string ⟨⟨s⟩⟩), (1, pb k8), (7, .string ⟨⟨s⟩⟩)] w.heap.size [] (lies_nil w) (by kernel_rfl) fun w1 E1 hL1 hK1 => ?_
 have B1 : Below w.heap.size w w1 := hK1.below (Nat.le_refl _) (fun k hk => by cases hk)
 have C1 := hC.below hg B1
 have hsz : (⟨⟨s⟩⟩ : ByteArray).size = s.length := rfl
 have rest : ∀ (v : Int) (er : Value) (bad : Bool) (w2 : World) (E2 : Nat → Value), inR v → Below w.heap.size w w2 → ((bad = true ∧ (∃ tp p, er = .iface tp p) ∧ numO s = none) ∨ (bad = false ∧ er = .nilIface ∧ Lib.atoiAll s = .ok v)) →
   At Tryz.prog 65 (NumPost k8 b0 s w) tNu1 (Fr 28 (updL E2 [(0, .string ⟨⟨s⟩⟩), (1, pb k8), (4, .int .i64 v), (5, er)])) w2 := by
  intro v er bad w2 E2 hv B2 hcase
  have hw8 : w2.heap[k8]? = some (.cells [.bool b0].toArray 4 (0, 0)) := (B2.block _ hl8).trans hk
  have hp := con_pow hC.con.pow hg B2
  have fin : ∀ (x : Bool) (w3 : World) (E3 : Nat → Value), Below w2.heap.size w2 w3 → x = !((numO s).isSome) → (∀ n, numO s = some n → v = n) →
    At Tryz.prog 65 (NumPost k8 b0 s w) (tailT tNu1) (Fr 28 (updL E3 [(1, pb k8), (4, .int .i64 v), (26, .bool x)])) w3 := by
   intro x w3 E3 b3 hx hn
   refine at_run 60 (tailT tNu1) w3.heap.size [] [] tNu2 [(1, pb k8), (4, .int .i64 v), (26, .bool x)] w3.heap.size [] (lies_nil w3) (by kernel_rfl) fun w4 E4 hL4 hK4 => ?_
   have b4 := b3.trans ((hK4.below (Nat.le_refl _) (fun k hk => by cases hk) : Below w3.heap.size w3 w4).mono b3.size)
   have B4 := B2.trans (b4.mono B2.size)
   have hw84 := (b4.block _ (heap_lt hw8)).trans hw8
   refine at_cond x (by kernel_rfl) (fun hx1 => ?_) (fun hx0 => ?_)
   ·refine at_run 60 (thenT tNu2) w4.heap.size [⟨k8, 0, [.bool b0], 4, true⟩] [(0, 0)] tNu3 [(3, .int .i64 v)] w4.heap.size [⟨k8, 0, [.bool false], 4, true⟩] (lies_one hw84) (by kernel_rfl) fun w5 E5 hL5 hK5 => ?_
    have g5 := own_good (hL5.sat.good _ (List.mem_singleton.2 rfl))
    have U5 : But k8 w w5 := ((But.refl k8 w).trans (.of_below B4)).kept (fun k hk => .inl (List.mem_singleton.1 hk)) hK5
    refine at_endT (fn := Tryz.f65) 10 (.int .i64 v) (by kernel_rfl) (by kernel_rfl) fun w6 B6 => ⟨v, rfl, hv, hn, ?_, U5.trans (.of_below B6)⟩
    have h0 : (numO s).isSome = false := by
     rw [hx1] at hx
     cases h : (numO s).isSome with
     | false => rfl
     | true => rw [h] at hx; cases hx
    rw [h0, Bool.and_false]
    exact (B6.block _ (heap_lt g5)).trans g5
   ·refine at_endT (fn := Tryz.f65) 60 (.int .i64 v) (by kernel_rfl) (by kernel_rfl) fun w6 B6 => ⟨v, rfl, hv, hn, ?_, .of_below (B4.trans (B6.mono B4.size))⟩
    have h0 : (numO s).isSome = true := by
     rw [hx0] at hx
     cases h : (numO s).isSome with
     | true => rfl
     | false => rw [h] at hx; cases hx
    rw [h0, Bool.and_true]
    exact (B6.block _ (heap_lt hw84)).trans hw84
  rcases hcase with ⟨rfl, ⟨tp, p, rfl⟩, hno⟩ | ⟨rfl, rfl, hok⟩
  ·refine at_ghost ((curReg tNu1).getD #[]) ⟨[], [], [⟨4, [(14, .int .i64 v)], .string ⟨⟨[]⟩⟩, false⟩, ⟨6, [(15, .string ⟨⟨[]⟩⟩), (16, .string ⟨⟨s⟩⟩)], .bool false, false⟩]⟩ [(1, pb k8), (4, .int .i64 v), (26, .bool true)] (by kernel_rfl) (by kernel_rfl) (by kernel_rfl)
    (fun e he => by cases he) (fun sp hsp => ?_) (fun X => by kernel_rfl) (by kernel_rfl) fun w3 E3 b3 => ?_
   ·simp only [List.mem_cons, List.not_mem_nil, or_false] at hsp
    rcases hsp with rfl | rfl <;> exact fun h => nomatch h
   ·exact fin true w3 E3 b3 (by rw [hno]; rfl) (fun n hn => by rw [hno] at hn; cases hn)
  ·refine at_ghost ((curReg tNu1).getD #[]) ⟨[], [], [⟨4, [(14, .int .i64 v)], .string ⟨⟨Lib.itoa v⟩⟩, true⟩, ⟨6, [(15, .string ⟨⟨Lib.itoa v⟩⟩), (16, .string ⟨⟨s⟩⟩)], .bool (!(decide (Lib.itoa v = s))), true⟩]⟩
    [(1, pb k8), (4, .int .i64 v), (26, .bool (cond (cond (!(decide (Lib.itoa v = s))) true (decide (v < -1000000000000000000))) true (decide ((1000000000000000000 : Int) < v))))] (by kernel_rfl) (by kernel_rfl) (by kernel_rfl)
    (fun e he => by cases he) (fun sp hsp => ?_) (fun X => by kernel_rfl) (by kernel_rfl) fun w3 E3 b3 => ?_
   ·simp only [List.mem_cons, List.not_mem_nil, or_false] at hsp
    rcases hsp with rfl | rfl
    ·exact spec_call 51 [.tmp 14] [.int .i64 v] (by kernel_rfl) (by kernel_rfl) (fun E => by kernel_rfl) fun hc1 u hu => below_call hu ((Tryz.strconv_Itoa v hv.1 hv.2 u (con_pow hp (Nat.le_trans hg B2.size) hu)).mono fun e u' hh => (by
      obtain ⟨rfl, q, os, rfl⟩ := hh
      exact ⟨rfl, below_growU u q os⟩))
    ·refine spec_op fun _ E w _ => ?_
     exact exec_neqs (T := 9) (T' := 9) (x := .tmp 15) (y := .tmp 16) (by kernel_rfl) (by kernel_rfl) (by kernel_rfl)
   ·refine fin _ w3 E3 b3 ?_ ?_
    ·unfold numO
     rw [hok]
     simp only
     by_cases h1 : Lib.itoa v = s
     ·by_cases h2 : v < -1000000000000000000
      ·have : ¬ (Lib.itoa v = s ∧ -1000000000000000000 ≤ v ∧ v ≤ 1000000000000000000) := fun h => by omega
       rw [if_neg this]
       simp [h1, h2]
      ·by_cases h3 : 1000000000000000000 < v
       ·have : ¬ (Lib.itoa v = s ∧ -1000000000000000000 ≤ v ∧ v ≤ 1000000000000000000) := fun h => by omega
        rw [if_neg this]
        simp [h1, h2, h3]
       ·rw [if_pos ⟨h1, by omega, by omega⟩]
        simp [h1, h2, h3]
     ·have : ¬ (Lib.itoa v = s ∧ -1000000000000000000 ≤ v ∧ v ≤ 1000000000000000000) := fun h => h1 h.1
      rw [if_neg this]
      simp [h1]
    ·intro n hn
     unfold numO at hn
     rw [hok] at hn
     simp only at hn
     split at hn
     ·exact Option.some.inj hn
     ·cases hn
 cases ha : Lib.atoiAll s with
 | ok v =>
  have hv : inR v := atoi_in ha
  refine at_call 66 [.tmp 7] (some 8) [.string ⟨⟨s⟩⟩] (by kernel_rfl) (by kernel_rfl) (by kernel_rfl) ((Tryz.strconv_Atoi_ok ⟨⟨s⟩⟩ (by rw [hsz]; omega) v ha w1).mono fun e w2 hh => ?_)
  obtain ⟨rfl, hw2⟩ := hh
  refine ⟨_, rfl, ?_⟩
  have B2 := B1.trans ((below_bytes hw2).mono B1.size)
  refine at_run (cntG 90 (popOp tNu0)) (popOp tNu0) w2.heap.size [] [] tNu1 [(0, .string ⟨⟨s⟩⟩), (1, pb k8), (4, .int .i64 v), (5, .nilIface)] w2.heap.size [] (lies_nil w2) (by kernel_rfl) fun w3 E3 hL3 hK3 => ?_
  exact rest v .nilIface false w3 E3 hv (B2.trans ((hK3.below (Nat.le_refl _) (fun k hk => by cases hk) : Below w2.heap.size w2 w3).mono B2.size)) (.inr ⟨rfl, rfl, ha⟩)
 | range =>
  obtain ⟨tp, p, hvar⟩ := C1.errR
  have hv : inR (Lib.atoiSat s) := sat_in s
  refine at_call 66 [.tmp 7] (some 8) [.string ⟨⟨s⟩⟩] (by kernel_rfl) (by kernel_rfl) (by kernel_rfl) ((Tryz.strconv_Atoi_range_var ⟨⟨s⟩⟩ (by rw [hsz]; omega) ha tp p w1 hvar).mono fun e w2 hh => ?_)
  obtain ⟨n, rfl, _, _, b2⟩ := hh
  refine ⟨_, rfl, ?_⟩
  have B2 := B1.trans (b2.mono B1.size)
  refine at_run (cntG 90 (popOp tNu0)) (popOp tNu0) w2.heap.size [] [] tNu1 [(0, .string ⟨⟨s⟩⟩), (1, pb k8), (4, .int .i64 (Lib.atoiSat s)), (5, .iface 252 (pb n))] w2.heap.size [] (lies_nil w2) (by kernel_rfl) fun w3 E3 hL3 hK3 => ?_
  exact rest _ _ true w3 E3 hv (B2.trans ((hK3.below (Nat.le_refl _) (fun k hk => by cases hk) : Below w2.heap.size w2 w3).mono B2.size)) (.inl ⟨rfl, ⟨_, _, rfl⟩, by unfold numO; rw [ha]⟩)
 | _ =>
  obtain ⟨tp, p, hvar⟩ := C1.errS
  refine at_call 66 [.tmp 7] (some 8) [.string ⟨⟨s⟩⟩] (by kernel_rfl) (by kernel_rfl) (by kernel_rfl) ((Tryz.strconv_Atoi_bad_var ⟨⟨s⟩⟩ (by rw [hsz]; omega) (fun v h => by have h' := ha.symm.trans h; cases h') (fun h => by have h' := ha.symm.trans h; cases h') tp p w1 hvar).mono fun e w2 hh => ?_)
  obtain ⟨n, rfl, _, _, b2⟩ := hh
  refine ⟨_, rfl, ?_⟩
  have B2 := B1.trans (b2.mono B1.size)
  refine at_run (cntG 90 (popOp tNu0)) (popOp tNu0) w2.heap.size [] [] tNu1 [(0, .string ⟨⟨s⟩⟩), (1, pb k8), (4, .int .i64 0), (5, .iface 252 (pb n))] w2.heap.size [] (lies_nil w2) (by kernel_rfl) fun w3 E3 hL3 hK3 => ?_
  exact rest 0 _ true w3 E3 zero_in (B2.trans ((hK3.below (Nat.le_refl _) (fun k hk => by cases hk) : Below w2.heap.size w2 w3).mono B2.size)) (.inl ⟨rfl, ⟨_, _, rfl⟩, by unfold numO; rw [ha]⟩)
end Go.Proofs.YtdcbnkimjhefkaaGreatDoor

namespace Go.Proofs.YtdcbnkimjhefkaaGreatDoor
open Go.RowKit
set_option maxRecDepth 100000
theorem gErrST : (Tryz.prog.globals[2]?).map (·.type) = some 91 := by kernel_rfl
theorem gErrRT : (Tryz.prog.globals[3]?).map (·.type) = some 91 := by kernel_rfl
theorem cellsErr : Tryz.prog.cellsOf 401 = 1 := by kernel_rfl
theorem starE : "*" ++ "errors.errorString" = "*errors.errorString" := by decide
theorem rowErr (u : TypeId) (h : Tryz.prog.typeName? 3 u = some "*errors.errorString") : u = 399 :=
 typeName_ptr_named (nm := "errors.errorString") (by rw [starE]; kernel_rfl) (by kernel_rfl) (by decide) u (by rw [starE]; exact h)
theorem sent_of {n : String} {text : List UInt8} {W : World} {g : Nat} {r : List (String × DataW Unit)} (h : laidMet Tryz.prog ((n, .iface "*errors.errorString" (.ptr (.agg [.lit (.string text)]))) :: r) W) (hg : Tryz.prog.globalNamed n = some g) (ht : (Tryz.prog.globals[g]?).map (·.type) = some 91) :
  ∃ tp p, W.var? Tryz.prog n = some #[.iface tp p] := by
 obtain ⟨a, s, hv, _⟩ := laid_sentinel h hg ht Tryz.underlying91 rowErr Tryz.underlying399 Tryz.underlying401 rfl rfl Tryz.underlying9 cellsErr cellsStr
 exact ⟨_, _, hv⟩
theorem conP_of {W : World} {r r' : List (String × DataW Unit)} (hC : Con W) (h1 : laidMet Tryz.prog (("strconv.ErrSyntax", Rows.laid_strconv_ErrSyntax) :: r) W) (h2 : laidMet Tryz.prog (("strconv.ErrRange", Rows.laid_strconv_ErrRange) :: r') W) : ConP W :=
 ⟨hC, sent_of h1 gErrS gErrST, sent_of h2 gErrR gErrRT⟩
end Go.Proofs.YtdcbnkimjhefkaaGreatDoor

namespace Go.Proofs.YtdcbnkimjhefkaaGreatDoor
open Go.RowKit
set_option maxRecDepth 100000
def spB : ByteArray := ⟨⟨[32]⟩⟩
def wordsB (s : List UInt8) : List ByteArray := Lib.splitB spB 0 (Lib.countB ⟨⟨s⟩⟩ spB) ⟨⟨s⟩⟩
def wordsP (s : List UInt8) : List (List UInt8) := (wordsB s).map (·.data.toList)
theorem wordsP_len (s : List UInt8) : (wordsP s).length = Lib.countB ⟨⟨s⟩⟩ spB + 1 := by
 unfold wordsP
 rw [List.length_map]
 exact Lib.splitB_all spB (by decide) 0 _ _ rfl
theorem wordsP_vals (s : List UInt8) : (wordsB s).map Value.string = (wordsP s).map fun l => .string ⟨⟨l⟩⟩ := by
 unfold wordsP
 rw [List.map_map]
 refine List.map_congr_left fun x _ => ?_
 obtain ⟨⟨l⟩⟩ := x
 rfl
theorem split_any (s : List UInt8) (w : World) (hs : s.length ≤ 70000) (hC : Con w) :
  Calls Tryz.prog 62 #[.string ⟨⟨s⟩⟩, .string ⟨⟨[32]⟩⟩] w fun e w' => e = .returned (.slice (some ⟨w.heap.size, 0, none⟩) (wordsP s).length (wordsP s).length) ∧ w'.heap[w.heap.size]? = some (.cells (strsM (wordsP s)).toArray 9 (0, 0)) ∧ Below w.heap.size w w' := by
 obtain ⟨⟨m, hm⟩, _⟩ := hC.len
 refine (Tryz.strings_Split ⟨⟨s⟩⟩ spB m w (by show s.length < 4294967281; omega) hm (by decide)).mono fun e w' hh => ?_
 obtain ⟨rfl, rfl⟩ := hh
 refine ⟨by rw [wordsP_len], ?_, (Below.refl _ _).alloc (Nat.le_refl _) _⟩
 have h1 := heap_alloc_new w (.cells ((Lib.splitB spB 0 (Lib.countB ⟨⟨s⟩⟩ spB) ⟨⟨s⟩⟩).map Value.string).toArray 9)
 rw [h1]
 have h2 := wordsP_vals s
 unfold wordsB at h2
 rw [h2]
noncomputable def codeR1 : Code := Tryz.f64.body.getD .skip
noncomputable def tR10 : List Item := advT 60 [.code codeR1]
theorem rd1_any (F : Form) (k4 g n : Nat) (x : List UInt8) (w : World) (h4 : w.heap[k4]? = some (.cells [.slice (some ⟨g, 0, none⟩) n n].toArray 53 (0, 0))) (hg : g < w.heap.size) (hn : 0 < n) (hx : w.cell? ⟨g, 0, none⟩ = some (.string ⟨⟨x⟩⟩)) :
  Calls Tryz.prog 64 (.agg ⟨F.cells⟩ :: [pt k4]).toArray w fun e w' => e = .returned (.bool (decide (F.word = x))) ∧ Below w.heap.size w w' := by
 refine calls_at (args := [.agg ⟨F.cells⟩, pt k4]) (fn := Tryz.f64) (c := codeR1) (n := 10) (by kernel_rfl) (by kernel_rfl) (by kernel_rfl) (by kernel_rfl) ?_
 refine at_run 60 [.code codeR1] w.heap.size [] [] tR10 [(1, pt k4), (2, pt w.heap.size)] (w.heap.size + 1) [⟨w.heap.size, 0, F.cells, 121, true⟩] (lies_nil w) (by kernel_rfl) fun w1 E1 hL1 hK1 => ?_
 have B1 : Below w.heap.size w w1 := hK1.below (Nat.le_refl _) (fun k hk => by cases hk)
 have g1 := hL1.sat.good ⟨w.heap.size, 0, F.cells, 121, true⟩ (by simp)
 have h41 := (B1.block _ (heap_lt h4)).trans h4
 have hx1 : w1.cell? ⟨g, 0 + 0 * 1, none⟩ = some (.string ⟨⟨x⟩⟩) := (World.cell?_of_block (B1.block _ hg)).trans hx
 refine at_ghost ((curReg tR10).getD #[]) ⟨[⟨w.heap.size, 0, F.cells, 121, true⟩, ⟨k4, 0, [.slice (some ⟨g, 0, none⟩) n n], 53, true⟩, ⟨g, 0 + 0 * 1, [.string ⟨⟨x⟩⟩], 0, false⟩], [(1, 0, 0), (2, 1, 0), (4, 2, 0)], [⟨3, [(6, .slice (some ⟨g, 0, none⟩) n n)], .pointer (some ⟨g, 0 + 0 * 1, none⟩), true⟩, ⟨5, [(5, .string ⟨⟨F.word⟩⟩), (8, .string ⟨⟨x⟩⟩)], .bool (decide (F.word = x)), true⟩]⟩ [(3, .bool (decide (F.word = x)))] (by kernel_rfl) (by kernel_rfl) (by kernel_rfl)
  (fun e he => ?_) (fun sp hsp => ?_) (fun X => by kernel_rfl) (by kernel_rfl) fun w2 E2 b2 => ?_
 ·simp only [List.mem_cons, List.not_mem_nil, or_false] at he
  rcases he with rfl | rfl | rfl
  ·exact g1
  ·exact good_own h41
  ·refine ⟨Nat.lt_of_lt_of_le hg B1.size, fun j v hj => ?_⟩
   cases j with
   | zero => cases hj; exact hx1
   | succ j => cases hj
 ·simp only [List.mem_cons, List.not_mem_nil, or_false] at hsp
  rcases hsp with rfl | rfl
  ·refine spec_op fun _ E w _ => ?_
   exact exec_index (sz := 1) (cap := n) (k := 0) 53 (.tmp 6) (.const (.int .i64 0)) (by kernel_rfl) (by kernel_rfl) (by kernel_rfl) hn Tryz.underlying53 (by kernel_rfl)
  ·refine spec_op fun _ E w _ => ?_
   exact exec_eqs (T := 9) (T' := 9) (x := .tmp 5) (y := .tmp 8) (by kernel_rfl) (by kernel_rfl) (by kernel_rfl)
 exact at_endT (fn := Tryz.f64) 60 (.bool (decide (F.word = x))) (by kernel_rfl) (by kernel_rfl) fun w3 B3 => ⟨rfl, B1.trans ((b2.trans (B3.mono b2.size)).mono B1.size)⟩
def putN (a : Nat) (n : Int) (c : Cmd) : Cmd := if a = 69 then { c with emp := n } else if a = 68 then { c with fr := n } else if a = 86 then { c with val := n } else if a = 88 then { c with ext := n } else if a = 82 then { c with rnk := n } else if a = 80 then { c with per := n } else if a = 84 then { c with torn := n } else { c with stop := n }
def letP (a : Nat) (s : List UInt8) (c : Cmd) : Option Cmd :=
 if a = 78 then (if Tk.isName s = true then some { c with nm := s } else none) else if a = 87 then (match numO s with | some n => if 0 ≤ n then some { c with wh := n.toNat } else none | none => none) else (numO s).map fun n => putN a n c
def letsP : List UInt8 → List (List UInt8) → Cmd → Option Cmd
 | [], _, c => some c
 | a :: l, s :: r, c => match letP a.toNat s c with
  | some c' => letsP l r c'
  | none => none
 | _ :: _, [], _ => none
def wordIs (x : List UInt8) (F : Form) : Bool := decide (F.word = x)
def readL (s : List UInt8) : Option Cmd := match wordsP s with
 | [] => none
 | x :: r => match forms.find? (wordIs x) with
  | none => none
  | some F => if r.length = F.letters.length then letsP F.letters r (Cmd.of F) else none
end Go.Proofs.YtdcbnkimjhefkaaGreatDoor

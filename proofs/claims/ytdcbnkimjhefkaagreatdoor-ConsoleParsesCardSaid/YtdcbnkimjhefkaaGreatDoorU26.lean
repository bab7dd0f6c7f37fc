/-
  copyCheck of strings.Builder over this program.
  String of strings.Builder over this program.
  maps.Keys, slices.Sorted and slices.Sort, laid over this program.
  slices.Sorted over the keys of a map of at most one entry, over this program.
  The console's example: a contract.
  The walk of paygen.Mod.
  The walk of ConsoleFormats.
-/
import Derived.Shelf.Strings.Builder1
import Derived.Test.YtdcbnkimjhefkaaGreatDoorProg
import Derived.Lib.UnsafeStr
import Derived.Shelf.SlIterI.Nil
import Derived.Shelf.SlIterI.Sorted
import Derived.Shelf.SlIterI.Keys
import Derived.Shelf.SortM.Plain
import Derived.Shelf.SortM.SortNone
import Derived.Ground.GgzProg
import Derived.Ground.SlgmProg
import Derived.Test.YtdcbnkimjhefkaaGreatDoorU25
import Derived.Test.YtdcbnkimjhefkaaGreatDoorU14
namespace Go.Proofs
open Go.Shelf
def Tryz.cc_ren : Go.Shelf.Ren := ⟨fun | 240 => 68 | 276 => 115 | n => n, fun | 0 => 0 | 3 => 3 | 4 => 4 | 5 => 5 | 9 => 9 | 20 => 20 | 37 => 68 | 70 => 87 | 72 => 89 | 164 => 196 | n => n, fun | n => n⟩
theorem Tryz.cc240 : Go.Proofs.Lays.n240 Tryz.prog Tryz.cc_ren := {
  mixed := by kernel_rfl
  f240 := Tryz.func68.trans (congrArg some (by kernel_rfl))
  f276 := Tryz.func115.trans (congrArg some (by kernel_rfl))
  t0 := Tryz.underlying0
  a0 := Tryz.isAgg0
  z0 := Tryz.sizeOf0
  v0 := Tryz.zeroValue0
  t4 := Tryz.underlying4
  a4 := Tryz.isAgg4
  z4 := Tryz.sizeOf4
  v4 := Tryz.zeroValue4
  t9 := Tryz.underlying9
  a9 := Tryz.isAgg9
  z9 := Tryz.sizeOf9
  v9 := Tryz.zeroValue9
  t20 := Tryz.underlying20
  a20 := Tryz.isAgg20
  z20 := Tryz.sizeOf20
  v20 := Tryz.zeroValue20
  t70 := Tryz.underlying87
  a70 := Tryz.isAgg87
  z70 := Tryz.sizeOf87
  v70 := Tryz.zeroValue87
  t72 := Tryz.underlying89
  a72 := Tryz.isAgg89
  z72 := Tryz.sizeOf89
  v72 := Tryz.zeroValue89
  t164 := Tryz.underlying196
  a164 := Tryz.isAgg196
  z164 := Tryz.sizeOf196
  v164 := Tryz.zeroValue196 }
theorem Tryz.ccX : Builder.X72 Tryz.prog Tryz.cc_ren := {
  sizeBuilder := by kernel_rfl
  liesBuilder := by kernel_rfl }
open Go.RowKit in
theorem Tryz.copyCheck_used (b : Nat) (w : World) (h : w.cell? ⟨b, 0, none⟩ = some (.pointer (some ⟨b, 0, none⟩))) : Calls Tryz.prog 68 #[.pointer (some ⟨b, 0, none⟩)] w fun e w' => e = .returned (.tuple #[]) ∧ w' = w := Any.Builder_copyCheck_used Tryz.cc240 Tryz.ccX b w h
open Go.RowKit in
theorem Tryz.copyCheck_fresh (b : Nat) (w : World) (h0 : w.cell? ⟨b, 0, none⟩ = some (.pointer none)) (hsh : w.shape? b = some (89, 2)) (hfz : w.frozen? ⟨b, 0, none⟩ = false) : Calls Tryz.prog 68 #[.pointer (some ⟨b, 0, none⟩)] w fun e w' => e = .returned (.tuple #[]) ∧ w' = w.setCell ⟨b, 0, none⟩ (.pointer (some ⟨b, 0, none⟩)) := Any.Builder_copyCheck_fresh Tryz.cc240 Tryz.ccX b w h0 hsh hfz
end Go.Proofs

namespace Go.Proofs
open Go.Shelf Go.RowKit
set_option maxHeartbeats 1000000 in
set_option maxRecDepth 100000 in
theorem Tryz.bstring_any (b g m : Nat) (l : List UInt8) (w : World) (hc : w.cell? ⟨b, 1, none⟩ = some (.slice (some ⟨g, 0, none⟩) l.length m)) (h0 : l ≠ []) (hm : l.length ≤ m) (hb : ∀ (j : Nat) x, l[j]? = some x → w.cell? ⟨g, j, none⟩ = some (.int .u8 (x.toNat : Int))) (hs : ∃ sz, w.shape? g = some (5, sz) ∧ l.length ≤ sz) (h63 : l.length ≤ 9223372036854775807) :
    Calls Tryz.prog 38 #[.pointer (some ⟨b, 0, none⟩)] w fun e w' => e = .returned (.string ⟨⟨l⟩⟩) ∧ w' = w.drew.freeze ⟨g, 0, none⟩ l.length := by
  have mixed : Tryz.prog.follows .mixedOrders = true := by kernel_rfl
  have hl0 : l.length ≠ 0 := by simpa using h0
  obtain ⟨sz, hs1, hs2⟩ := hs
  have c1 : w.drew.cell? ⟨b, 1, none⟩ = some (.slice (some ⟨g, 0, none⟩) l.length m) := hc
  have hSD : (Builtin.unsafeSliceData_ #[68] 128 #[.slice (some ⟨g, 0, none⟩) l.length m]).run Tryz.prog w.drew = .ok (.pointer (some ⟨g, 0, none⟩)) w.drew :=
    Lib.run_unsafeSliceData_row _ _ _ _ _ _ (by omega)
  have hUS : (Builtin.unsafeString_ #[128, 3] 9 #[.pointer (some ⟨g, 0, none⟩), .int .i64 l.length]).run Tryz.prog w.drew = .ok (.string ⟨l.toArray⟩) (w.drew.freeze ⟨g, 0, none⟩ l.length) := by
    refine Lib.run_unsafeString_row w.drew 128 3 9 5 Tryz.underlying128 (by kernel_rfl) g sz hs1 l h0 hs2 h63 ?_
    intro j x hx
    have := hb j x hx
    cases j with
    | zero => exact this
    | succ j => show w.cell? ⟨g, 0 + (j + 1), none⟩ = _; rw [Nat.zero_add]; exact this
  go_enter Tryz.func38, Tryz.ntmps38
  go_wp2
  go_region_o
  all_goals (go_wp2; go_ret; exact ⟨rfl, rfl⟩)
end Go.Proofs

namespace Go.Proofs
open Go.Shelf
def Tryz.keysA_ren : Go.Shelf.Ren := ⟨fun | 7 => 98 | 10 => 147 | n => n, fun | 23 => 171 | 26 => 3 | 3 => 4 | 28 => 175 | 0 => 0 | 27 => 174 | 33 => 43 | 4 => 4 | n => n, fun | n => n⟩
theorem Tryz.keysA : Go.Proofs.SlLaysZI.n7 Tryz.prog Tryz.keysA_ren := {
  mixed := by kernel_rfl
  f7 := ⟨Tryz.f98.name, by decide, Tryz.func98.trans (congrArg some (by kernel_rfl))⟩
  f10 := ⟨Tryz.f147.name, by decide, Tryz.func147.trans (congrArg some (by kernel_rfl))⟩
  t0 := Tryz.underlying0
  a0 := Tryz.isAgg0
  z0 := Tryz.sizeOf0
  v0 := Tryz.zeroValue0
  t4 := Tryz.underlying4
  a4 := Tryz.isAgg4
  z4 := Tryz.sizeOf4
  v4 := Tryz.zeroValue4
  t23 := Tryz.underlying171
  a23 := Tryz.isAgg171
  z23 := Tryz.sizeOf171
  v23 := Tryz.zeroValue171
  t26 := Tryz.underlying3
  a26 := Tryz.isAgg3
  z26 := Tryz.sizeOf3
  v26 := Tryz.zeroValue3
  t27 := Tryz.underlying174
  a27 := Tryz.isAgg174
  z27 := Tryz.sizeOf174
  v27 := Tryz.zeroValue174
  t28 := Tryz.underlying175
  a28 := Tryz.isAgg175
  z28 := Tryz.sizeOf175
  v28 := Tryz.zeroValue175
  t33 := Tryz.underlying43
  a33 := Tryz.isAgg43
  z33 := Tryz.sizeOf43
  v33 := Tryz.zeroValue43 }
def Tryz.keysB_ren : Go.Shelf.Ren := ⟨fun | 7 => 151 | 10 => 206 | n => n, fun | 23 => 212 | 26 => 3 | 3 => 180 | 28 => 175 | 0 => 0 | 27 => 174 | 33 => 43 | 4 => 4 | n => n, fun | n => n⟩
theorem Tryz.keysB : Go.Proofs.SlLaysZI.n7 Tryz.prog Tryz.keysB_ren := {
  mixed := by kernel_rfl
  f7 := ⟨Tryz.f151.name, by decide, Tryz.func151.trans (congrArg some (by kernel_rfl))⟩
  f10 := ⟨Tryz.f206.name, by decide, Tryz.func206.trans (congrArg some (by kernel_rfl))⟩
  t0 := Tryz.underlying0
  a0 := Tryz.isAgg0
  z0 := Tryz.sizeOf0
  v0 := Tryz.zeroValue0
  t4 := Tryz.underlying4
  a4 := Tryz.isAgg4
  z4 := Tryz.sizeOf4
  v4 := Tryz.zeroValue4
  t23 := Tryz.underlying212
  a23 := Tryz.isAgg212
  z23 := Tryz.sizeOf212
  v23 := Tryz.zeroValue212
  t26 := Tryz.underlying3
  a26 := Tryz.isAgg3
  z26 := Tryz.sizeOf3
  v26 := Tryz.zeroValue3
  t27 := Tryz.underlying174
  a27 := Tryz.isAgg174
  z27 := Tryz.sizeOf174
  v27 := Tryz.zeroValue174
  t28 := Tryz.underlying175
  a28 := Tryz.isAgg175
  z28 := Tryz.sizeOf175
  v28 := Tryz.zeroValue175
  t33 := Tryz.underlying43
  a33 := Tryz.isAgg43
  z33 := Tryz.sizeOf43
  v33 := Tryz.zeroValue43 }
def Tryz.sortedA_ren : Go.Shelf.Ren := ⟨fun | 6 => 97 | 8 => 145 | 9 => 146 | 11 => 202 | 13 => 204 | 12 => 203 | 23 => 266 | 24 => 223 | 14 => 257 | 15 => 258 | 16 => 259 | 17 => 260 | 18 => 261 | 19 => 262 | 20 => 263 | 21 => 264 | 22 => 265 | 25 => 315 | 26 => 316 | 27 => 317 | 28 => 318 | 29 => 319 | 30 => 320 | 31 => 371 | n => n, fun | 26 => 3 | 28 => 175 | 24 => 44 | 0 => 0 | 3 => 3 | 37 => 190 | 48 => 322 | 50 => 62 | 4 => 4 | 40 => 386 | 39 => 385 | 45 => 131 | 5 => 5 | 9 => 9 | 51 => 448 | 55 => 126 | 57 => 537 | 58 => 338 | 33 => 43 | n => n, fun | n => n⟩
theorem Tryz.sortedA : Go.Proofs.SlLaysZI.n6 Tryz.prog Tryz.sortedA_ren := {
  mixed := by kernel_rfl
  f6 := ⟨Tryz.f97.name, by decide, Tryz.func97.trans (congrArg some (by kernel_rfl))⟩
  f8 := ⟨Tryz.f145.name, by decide, Tryz.func145.trans (congrArg some (by kernel_rfl))⟩
  f11 := ⟨Tryz.f202.name, by decide, Tryz.func202.trans (congrArg some (by kernel_rfl))⟩
  t0 := Tryz.underlying0
  a0 := Tryz.isAgg0
  z0 := Tryz.sizeOf0
  v0 := Tryz.zeroValue0
  t24 := Tryz.underlying44
  a24 := Tryz.isAgg44
  z24 := Tryz.sizeOf44
  v24 := Tryz.zeroValue44
  t26 := Tryz.underlying3
  a26 := Tryz.isAgg3
  z26 := Tryz.sizeOf3
  v26 := Tryz.zeroValue3
  t28 := Tryz.underlying175
  a28 := Tryz.isAgg175
  z28 := Tryz.sizeOf175
  v28 := Tryz.zeroValue175
  i26 := by kernel_rfl }
def Tryz.sortA_ren : Go.Shelf.Ren := ⟨fun | 5 => 146 | 8 => 204 | 7 => 203 | 19 => 266 | 20 => 223 | 10 => 257 | 11 => 258 | 12 => 259 | 13 => 260 | 14 => 261 | 15 => 262 | 16 => 263 | 17 => 264 | 18 => 265 | 30 => 315 | 31 => 316 | 32 => 317 | 33 => 318 | 34 => 319 | 35 => 320 | 40 => 371 | n => n, fun | 23 => 44 | 25 => 3 | 3 => 3 | 32 => 190 | 22 => 44 | 0 => 0 | 44 => 322 | 46 => 62 | 4 => 4 | 36 => 386 | 35 => 385 | 41 => 131 | 5 => 5 | 9 => 9 | 53 => 448 | 57 => 126 | 63 => 537 | 64 => 338 | n => n, fun | n => n⟩
theorem Tryz.sortA : Go.Proofs.SlLaysM.n5 Tryz.prog Tryz.sortA_ren := {
  mixed := by kernel_rfl
  f5 := ⟨Tryz.f146.name, by decide, Tryz.func146.trans (congrArg some (by kernel_rfl))⟩
  f7 := ⟨Tryz.f203.name, by decide, Tryz.func203.trans (congrArg some (by kernel_rfl))⟩
  f8 := Tryz.func204.trans (congrArg some (by kernel_rfl))
  f10 := ⟨Tryz.f257.name, by decide, Tryz.func257.trans (congrArg some (by kernel_rfl))⟩
  f11 := ⟨Tryz.f258.name, by decide, Tryz.func258.trans (congrArg some (by kernel_rfl))⟩
  f12 := ⟨Tryz.f259.name, by decide, Tryz.func259.trans (congrArg some (by kernel_rfl))⟩
  f13 := ⟨Tryz.f260.name, by decide, Tryz.func260.trans (congrArg some (by kernel_rfl))⟩
  f14 := ⟨Tryz.f261.name, by decide, Tryz.func261.trans (congrArg some (by kernel_rfl))⟩
  f15 := ⟨Tryz.f262.name, by decide, Tryz.func262.trans (congrArg some (by kernel_rfl))⟩
  f16 := ⟨Tryz.f263.name, by decide, Tryz.func263.trans (congrArg some (by kernel_rfl))⟩
  f17 := ⟨Tryz.f264.name, by decide, Tryz.func264.trans (congrArg some (by kernel_rfl))⟩
  f18 := ⟨Tryz.f265.name, by decide, Tryz.func265.trans (congrArg some (by kernel_rfl))⟩
  f19 := Tryz.func266.trans (congrArg some (by kernel_rfl))
  f20 := Tryz.func223.trans (congrArg some (by kernel_rfl))
  f30 := ⟨Tryz.f315.name, by decide, Tryz.func315.trans (congrArg some (by kernel_rfl))⟩
  f31 := Tryz.func316.trans (congrArg some (by kernel_rfl))
  f32 := Tryz.func317.trans (congrArg some (by kernel_rfl))
  f33 := ⟨Tryz.f318.name, by decide, Tryz.func318.trans (congrArg some (by kernel_rfl))⟩
  f34 := ⟨Tryz.f319.name, by decide, Tryz.func319.trans (congrArg some (by kernel_rfl))⟩
  f35 := ⟨Tryz.f320.name, by decide, Tryz.func320.trans (congrArg some (by kernel_rfl))⟩
  f40 := ⟨Tryz.f371.name, by decide, Tryz.func371.trans (congrArg some (by kernel_rfl))⟩
  t0 := Tryz.underlying0
  a0 := Tryz.isAgg0
  z0 := Tryz.sizeOf0
  v0 := Tryz.zeroValue0
  t3 := Tryz.underlying3
  a3 := Tryz.isAgg3
  z3 := Tryz.sizeOf3
  v3 := Tryz.zeroValue3
  t4 := Tryz.underlying4
  a4 := Tryz.isAgg4
  z4 := Tryz.sizeOf4
  v4 := Tryz.zeroValue4
  t5 := Tryz.underlying5
  a5 := Tryz.isAgg5
  z5 := Tryz.sizeOf5
  v5 := Tryz.zeroValue5
  t9 := Tryz.underlying9
  a9 := Tryz.isAgg9
  z9 := Tryz.sizeOf9
  v9 := Tryz.zeroValue9
  t22 := Tryz.underlying44
  a22 := Tryz.isAgg44
  z22 := Tryz.sizeOf44
  v22 := Tryz.zeroValue44
  t23 := Tryz.underlying44
  a23 := Tryz.isAgg44
  z23 := Tryz.sizeOf44
  v23 := Tryz.zeroValue44
  t25 := Tryz.underlying3
  a25 := Tryz.isAgg3
  z25 := Tryz.sizeOf3
  v25 := Tryz.zeroValue3
  t32 := Tryz.underlying190
  a32 := Tryz.isAgg190
  z32 := Tryz.sizeOf190
  v32 := Tryz.zeroValue190
  t35 := Tryz.underlying385
  a35 := Tryz.isAgg385
  z35 := Tryz.sizeOf385
  v35 := Tryz.zeroValue385
  t36 := Tryz.underlying386
  a36 := Tryz.isAgg386
  z36 := Tryz.sizeOf386
  v36 := Tryz.zeroValue386
  t41 := Tryz.underlying131
  a41 := Tryz.isAgg131
  z41 := Tryz.sizeOf131
  v41 := Tryz.zeroValue131
  t44 := Tryz.underlying322
  a44 := Tryz.isAgg322
  z44 := Tryz.sizeOf322
  v44 := Tryz.zeroValue322
  t46 := Tryz.underlying62
  a46 := Tryz.isAgg62
  z46 := Tryz.sizeOf62
  v46 := Tryz.zeroValue62
  t53 := Tryz.underlying448
  a53 := Tryz.isAgg448
  z53 := Tryz.sizeOf448
  v53 := Tryz.zeroValue448
  t57 := Tryz.underlying126
  a57 := Tryz.isAgg126
  z57 := Tryz.sizeOf126
  v57 := Tryz.zeroValue126
  t63 := Tryz.underlying537
  a63 := Tryz.isAgg537
  z63 := Tryz.sizeOf537
  v63 := Tryz.zeroValue537
  t64 := Tryz.underlying338
  a64 := Tryz.isAgg338
  z64 := Tryz.sizeOf338
  v64 := Tryz.zeroValue338 }
end Go.Proofs

namespace Go.Proofs
open Go.RowKit Go.Maps Go.Sort Go.Shelf
theorem Tryz.sortsC (m : Nat) : AnyZI.SortsIn Tryz.prog Tryz.sortedA_ren Fence.wide m :=
  ⟨fun blk off cap ss W hH hblk hsz => callsIn_wide.2 (AnyM.slices_Sort_int Tryz.sortA blk off cap ss W hH hblk hsz),
   fun p cap W => callsIn_wide.2 (AnyM.slices_Sort_int_none Tryz.sortA p cap W)⟩
abbrev U0 := Unit
def RU : Value → Option (DataW U0 × List MemPlace) := fun _ => some (.lit (.bool true), [])
theorem Tryz.own0 {w : World} {m clock : Nat} (hm : w.heap[m]? = some (.map #[] clock)) : w.ownsMap Tryz.prog 3 RU m 0 (.map []) :=
  ⟨#[], clock, hm, ⟨by simp, MapKept.stamped_empty clock, by simp⟩, Nat.le_refl _, rfl⟩
theorem Tryz.own1 {w : World} {m k : Nat} {x : Bool} (hk : k < 1000000) (hm : w.heap[m]? = some (.map #[⟨.int .i64 (k : Int), .bool x, 0⟩] 1)) : w.ownsMap Tryz.prog 3 RU m 1 (.map [(.int .i64 (k : Int), .lit (.bool true))]) := by
  have hw : (Lit.int .i64 (k : Int)).wf = true := by
    have h1 : IntKind.i64.min = -9223372036854775808 := rfl
    have h2 : IntKind.i64.max = 9223372036854775807 := rfl
    simp [Lit.wf, h1, h2]
    omega
  have hkey : keyOf Tryz.prog 3 (.int .i64 (k : Int)) = some (.int .i64 (k : Int)) := by
    simp [keyOf, Tryz.underlying3, mapKey, hw]
  have hrd : WideElems.rd Tryz.prog 3 RU ⟨.int .i64 (k : Int), .bool x, 0⟩ = some (.int .i64 (k : Int), .lit (.bool true)) := by
    simp [WideElems.rd, hkey, RU]
  refine ⟨#[⟨.int .i64 (k : Int), .bool x, 0⟩], 1, hm, ⟨by simp [maxLen], ?_, ?_⟩, Nat.le_refl _, ?_⟩
  · exact MapKept.stamped_push (MapKept.stamped_empty 0) (key := .int .i64 (k : Int)) (val := .bool x) (by simp)
  · intro y hy
    simp at hy
    subst hy
    exact ⟨_, hrd⟩
  · simp [WideElems.rg, hrd]
    rfl
theorem Tryz.sorted_keys (g : FuncId) (hg : [147, 206].any (Nat.beq g) = true) (c m nn : Nat) (D0 : DataW U0) (w : World) (hc : w.cell? ⟨c, 0, none⟩ = some (.map (some m))) (hown : w.ownsMap Tryz.prog 3 RU m nn D0) (hmax : Maps.size D0 ≤ 1000) :
    Calls Tryz.prog 97 #[.func (.func g) #[] #[.pointer (some ⟨c, 0, none⟩)]] w fun e w' => ∃ (v : Value) (ss : List Int), e = .returned v ∧ ss.Perm (intKeys D0) ∧
      w'.ownsRow w.heap.size 3 1 v ss.length ((ss.mergeSort (fun x y => decide (x ≤ y))).map encZ) ∧ (v = .slice none 0 0 ↔ ss = []) ∧ Below w.heap.size w w' := by
  have hlt : c < w.heap.size := by
    unfold World.cell? at hc
    simp only at hc
    rcases Nat.lt_or_ge c w.heap.size with h | h
    · exact h
    · rw [Array.getElem?_eq_none h] at hc
      cases hc
  have hor : g = 147 ∨ g = 206 := by
    simp only [List.any_cons, List.any_nil, Bool.or_false, Bool.or_eq_true, Nat.beq_eq] at hg
    exact hg
  have hm1 : Maps.size D0 ≤ maxLen := Nat.le_trans hmax (by decide)
  have hm2 : Maps.size D0 * 8 ≤ 140737488355328 := by omega
  refine (callsIn_wide (n := 5)).1 ?_
  rcases hor with rfl | rfl
  · have hseq : SeqGives Fence.wide 2 Tryz.prog 147 #[.pointer (some ⟨c, 0, none⟩)] encZ (fun ss => ss.Perm (intKeys D0)) (Maps.size D0) w :=
      AnyZI.keys_gives (ρ := Tryz.keysA_ren) { Tryz.keysA with } Fence.wide _ trivial rfl (by omega) c m nn D0 w hlt hc hown
    exact AnyZI.sorted_in Tryz.sortedA Fence.wide 5 trivial trivial trivial trivial rfl (by omega) (Tryz.sortsC _) (enters_of Tryz.func146 (by kernel_rfl) rfl) 147 #[.pointer (some ⟨c, 0, none⟩)] trivial (enters_of Tryz.func147 (by kernel_rfl) rfl) _ _ hm1 hm2 _ hseq
  · have hseq : SeqGives Fence.wide 2 Tryz.prog 206 #[.pointer (some ⟨c, 0, none⟩)] encZ (fun ss => ss.Perm (intKeys D0)) (Maps.size D0) w :=
      AnyZI.keys_gives (ρ := Tryz.keysB_ren) { Tryz.keysB with } Fence.wide _ trivial rfl (by omega) c m nn D0 w hlt hc hown
    exact AnyZI.sorted_in Tryz.sortedA Fence.wide 5 trivial trivial trivial trivial rfl (by omega) (Tryz.sortsC _) (enters_of Tryz.func146 (by kernel_rfl) rfl) 206 #[.pointer (some ⟨c, 0, none⟩)] trivial (enters_of Tryz.func206 (by kernel_rfl) rfl) _ _ hm1 hm2 _ hseq
theorem Tryz.sorted0 (g : FuncId) (hg : [147, 206].any (Nat.beq g) = true) (c m clock : Nat) (w : World) (hc : w.cell? ⟨c, 0, none⟩ = some (.map (some m))) (hm : w.heap[m]? = some (.map #[] clock)) :
    Calls Tryz.prog 97 #[.func (.func g) #[] #[.pointer (some ⟨c, 0, none⟩)]] w fun e w' => e = .returned (.slice none 0 0) ∧ Below w.heap.size w w' := by
  refine (Tryz.sorted_keys g hg c m 0 _ w hc (Tryz.own0 hm) (Nat.zero_le _)).mono ?_
  rintro e w' ⟨v, ss, rfl, hp, hrow, hnil, hB⟩
  have : ss = [] := List.perm_nil.1 hp
  rw [hnil.2 this]
  exact ⟨rfl, hB⟩
theorem Tryz.sorted1 (g : FuncId) (hg : [147, 206].any (Nat.beq g) = true) (c m k : Nat) (x : Bool) (w : World) (hk : k < 1000000) (hc : w.cell? ⟨c, 0, none⟩ = some (.map (some m))) (hm : w.heap[m]? = some (.map #[⟨.int .i64 (k : Int), .bool x, 0⟩] 1)) :
    Calls Tryz.prog 97 #[.func (.func g) #[] #[.pointer (some ⟨c, 0, none⟩)]] w fun e w' => Below w.heap.size w w' ∧ ∃ gb cap cur, w.heap.size ≤ gb ∧ 1 ≤ cap ∧ e = .returned (.slice (some ⟨gb, 0, none⟩) 1 cap) ∧ w'.heap[gb]? = some (.cells cur 3 (0, 0)) ∧ cur.size = cap ∧ cur[0]? = some (.int .i64 (k : Int)) := by
  refine (Tryz.sorted_keys g hg c m 1 _ w hc (Tryz.own1 hk hm) (by simp [Maps.size])).mono ?_
  rintro e w' ⟨v, ss, rfl, hp, hrow, hnil, hB⟩
  have hss : ss = [(k : Int)] := List.perm_singleton.1 hp
  subst hss
  have hrow' := hrow.2
  simp only [List.length_cons, List.length_nil] at hrow'
  rcases hrow' with ⟨_, hz⟩ | ⟨gb, cap, cur, rfl, h1, h2, h3, h4, h5, h6⟩
  · cases hz
  · refine ⟨hB, gb, cap, cur, h1, h3, rfl, h2, by simpa using h5, ?_⟩
    have h7 : cur.toList.take 1 = [encZ (k : Int)] := by simpa using h6
    have h8 : (cur.toList.take 1)[0]? = some (encZ (k : Int)) := by rw [h7]; rfl
    rw [List.getElem?_take] at h8
    simpa using h8
end Go.Proofs

namespace Go.Proofs.YtdcbnkimjhefkaaGreatDoor
open Go.RowKit
theorem mixedC : Tryz.prog.follows .mixedOrders = true := by kernel_rfl
theorem orcC_good : OrcGood Tryz.prog orcC := by
  intro g F hF args H v H' hok h
  unfold orcC at hF
  split at hF
  · rename_i hg
    obtain rfl := Option.some.inj hF
    rw [Nat.eq_of_beq_eq_true hg]
    exact copyCheck_good (fun b w h => Tryz.copyCheck_used b w h) (fun b w h1 h2 h3 => Tryz.copyCheck_fresh b w h1 h2 h3) hok h
  · split at hF
    · rename_i hg
      obtain rfl := Option.some.inj hF
      rw [Nat.eq_of_beq_eq_true hg]
      exact string_good (fun b g m l w h1 h2 h3 h4 h5 h6 => Tryz.bstring_any b g m l w h1 h2 h3 h5 h6 (by omega)) hok h
    · split at hF
      · rename_i hg
        obtain rfl := Option.some.inj hF
        rw [Nat.eq_of_beq_eq_true hg]
        exact sorted_good (fun g hg c m clock w h1 h2 => Tryz.sorted0 g hg c m clock w h1 h2) (fun g hg c m k x w h1 h2 h3 => Tryz.sorted1 g hg c m k x w h1 h2 h3) hok h
      · cases hF
theorem H0_ne (b : Nat) (i : Option (Nat × Nat)) (t : TypeId) : H0.get b ≠ some ⟨i, .cells t []⟩ := by
  intro h
  have hlt : b < 12 := by
    rcases Nat.lt_or_ge b 12 with h1 | h1
    · exact h1
    · have := (ok_of (P := Tryz.prog) (H := H0) (by kernel_rfl)).hi b h1
      rw [this] at h; cases h
  have h0 : ((List.range 12).all fun b => match H0.get b with | some ⟨_, .cells _ []⟩ => false | _ => true) = true := by kernel_rfl
  rw [List.all_eq_true] at h0
  have := h0 b (List.mem_range.2 hlt)
  rw [h] at this
  cases this
theorem awake_any (w : World) (hw : Reads0 Tryz.prog H0 w) : Calls Tryz.prog 12 ([] : List Value).toArray w fun e w' => e = .returned (.bool true) ∧ Below w.heap.size w w' :=
  closed_call0 mixedC orcC_good (by kernel_rfl) (by kernel_rfl) awake_run w hw H0_ne
#print axioms awake_any
end Go.Proofs.YtdcbnkimjhefkaaGreatDoor

namespace Go.Proofs.YtdcbnkimjhefkaaGreatDoor
open Go.RowKit

end Go.Proofs.YtdcbnkimjhefkaaGreatDoor

namespace Go.Proofs.YtdcbnkimjhefkaaGreatDoor
open Go.RowKit
set_option maxRecDepth 100000
structure Cmd.WfI (c : Cmd) : Prop where
  kind : inR c.kind
  emp : inR c.emp
  fk : inR c.fk
  fr : inR c.fr
  val : inR c.val
  ext : inR c.ext
  rnk : inR c.rnk
  per : inR c.per
  torn : inR c.torn
  stop : inR c.stop
  wh : c.wh < 18446744073709551616
theorem reads0_below {H : AH} {w w' : World} {B : Nat} (h : Reads0 Tryz.prog H w) (hB : Tryz.prog.globals.size ≤ B) (hb : Below B w w') : Reads0 Tryz.prog H w' :=
  ⟨fun b i x hx hd => let ⟨t, cs, h1, h2, h3, h4, h5⟩ := h.row b i x hx hd
    ⟨t, cs, h1, h2, h3, h4, fun j v hj => (World.cell?_of_block (hb.block b (Nat.lt_of_lt_of_le h2 hB))).trans (h5 j v hj)⟩⟩
theorem IntsAt.more {w : World} {b b' : Nat} {v : Value} {ns : List Int} (h : IntsAt w b v ns) (hb : b ≤ b') : IntsAt w b' v ns := by
  obtain ⟨A, c, rfl, h1, h2, h3⟩ := h
  exact ⟨A, c, rfl, h1, h2, fun hn => let ⟨g, off, e, hg, hc⟩ := h3 hn; ⟨g, off, e, by omega, hc⟩⟩
theorem CmdsAt.below {w w' : World} {lim lim' : Nat} {v : Value} {l : List Cmd} (h : CmdsAt w lim v l) (hl : lim ≤ lim') (hb : Below lim w w') : CmdsAt w' lim' v l := by
  obtain ⟨a, cap, rfl, hc⟩ := h
  exact ⟨a, cap, rfl, fun hne => let ⟨g, off, e, hg, hc⟩ := hc hne; ⟨g, off, e, by omega, fun i hi j u hu => (World.cell?_of_block (hb.block g hg)).trans (hc i hi j u hu)⟩⟩
structure LwS (w0 : World) (g cap : Nat) (l : List Cmd) (w : World) : Prop where
  bel : Below w0.heap.size w0 w
  low : w0.heap.size ≤ g
  lt : g < w.heap.size
  cells : ∀ (i : Nat) (h : i < l.length), w.rangeAt g (0 + i * 13) (l[i]).cells
  fro : ∀ j, w.frozen? ⟨g, j, none⟩ = false
  wf : ∀ c ∈ l, c.Wf
  pos : 1 ≤ l.length
  len : l.length ≤ 1000
abbrev sl (g n cap : Nat) : Value := .slice (some ⟨g, 0, none⟩) n cap
theorem LwS.cmds {w0 w : World} {g cap : Nat} {l : List Cmd} (h : LwS w0 g cap l w) : CmdsAt w w.heap.size (sl g l.length cap) l := ⟨_, cap, rfl, fun _ => ⟨g, 0, rfl, h.lt, h.cells⟩⟩
theorem frozen_block {w w' : World} {p : Addr} (h : w'.heap[p.block]? = w.heap[p.block]?) : w'.frozen? p = w.frozen? p := by
  unfold World.frozen?
  rw [h]
theorem LwS.below {w0 w w' : World} {g cap : Nat} {l : List Cmd} (h : LwS w0 g cap l w) (hb : Below w.heap.size w w') : LwS w0 g cap l w' :=
  ⟨h.bel.trans (hb.mono h.bel.size), h.low, Nat.lt_of_lt_of_le h.lt hb.size, fun i hi j u hu => (World.cell?_of_block (hb.block g h.lt)).trans (h.cells i hi j u hu), fun j => (frozen_block (p := ⟨g, j, none⟩) (hb.block g h.lt)).trans (h.fro j), h.wf, h.pos, h.len⟩
theorem LwS.set {w0 w : World} {g cap : Nat} {l : List Cmd} (h : LwS w0 g cap l w) {k m : Nat} {c' : Cmd} {x : Value} (hk : k < l.length) (hm : m < 13) (hx : c'.cells = (l[k]).cells.set m x) (hw : c'.Wf) : LwS w0 g cap (l.set k c') (w.setCell ⟨g, 0 + k * 13 + m, none⟩ x) := by
  have hc := cmds_set (v := sl g l.length cap) (lim := w.heap.size) (a := some ⟨g, 0, none⟩) (cap := cap) rfl rfl h.lt h.cells hk hm hx
  obtain ⟨a, cap', he, hc⟩ := hc
  obtain ⟨g', off', ha, _, hcells⟩ := hc (by
    intro e
    have h9 : l.length = 0 := by
      have := congrArg List.length e
      rwa [List.length_set] at this
    omega)
  subst ha
  obtain ⟨e1, e2, e3⟩ := Value.slice.inj he
  obtain ⟨rfl, rfl⟩ : g = g' ∧ 0 = off' := by have := Option.some.inj e1; exact ⟨congrArg Addr.block this, congrArg Addr.off this⟩
  have hlow := h.low
  refine ⟨?_, h.low, by simpa [World.setCell] using h.lt, hcells, fun j => by rw [World.frozen?_setCell]; exact h.fro j, fun c hc => ?_, by rw [List.length_set]; exact h.pos, by rw [List.length_set]; exact h.len⟩
  · exact ⟨h.bel.os, h.bel.tape, h.bel.output, by simpa [World.setCell] using h.bel.size, fun k hk => (heap_setCell_other' w ⟨g, 0 + _ * 13 + m, none⟩ x k (by simp only; omega)).trans (h.bel.block k hk)⟩
  · rcases List.mem_or_eq_of_mem_set hc with h1 | h1
    · exact h.wf c h1
    · rw [h1]; exact hw
abbrev LawR (w0 : World) (e : Ending) (w : World) : Prop := e = .returned (.bool true) ∧ Below w0.heap.size w0 w
variable {w0 : World} {g cap : Nat} {l raw : List Cmd} {vr : Value}
structure LwC (w0 : World) (vr : Value) (raw : List Cmd) : Prop where
  con : Con w0
  glob : Tryz.prog.globals.size ≤ w0.heap.size
  reads : Reads0 Tryz.prog H0 w0
  cmds : CmdsAt w0 w0.heap.size vr raw
  wf : ∀ c ∈ raw, c.Wf
  len : raw.length ≤ 20
end Go.Proofs.YtdcbnkimjhefkaaGreatDoor

/-
  paygen: one of some numbers, the agreements' texts, a day, the command that learns a fact.
  paygen: the facts that the deck draws are printable.
  Regions that draw their order, part by part, where what holds of the world may depend on how many operations are still to come (a counter that each call moves on).
-/
import Derived.Test.YtdcbnkimjhefkaaGreatDoorV23
import Derived.Test.YtdcbnkimjhefkaaGreatDoorV17
namespace Go.Proofs.YtdcbnkimjhefkaaGreatDoor
open Go.RowKit
set_option maxRecDepth 100000
theorem DK.refl {b : Nat} {ns : List Int} {lim : Nat} {w : World} (h : DeckOk b ns lim w) : DK b ns lim w w := ⟨h, .refl _ _⟩
theorem DK.below {b : Nat} {ns : List Int} {lim : Nat} {u w w' : World} (h : DK b ns lim u w) (hb : Below w.heap.size w w') : DK b ns lim u w' := ⟨h.deck.below hb, h.but.trans (.of_below hb)⟩
theorem DK.next {b : Nat} {ns : List Int} {lim lim' : Nat} {u w w' : World} (h : DK b ns lim u w) (k : DK b ns lim' w w') : DK b ns lim' u w' := ⟨k.deck, h.but.trans k.but⟩
theorem DK.lt {b : Nat} {ns : List Int} {lim : Nat} {u w : World} (h : DK b ns lim u w) : b < w.heap.size := h.deck.lt
noncomputable def codePk : Code := Tryz.f59.body.getD .skip
noncomputable def tPk0 : List Item := advT 60 [.code codePk]
theorem dpick_any (b : Nat) (ns : List Int) (lim : Nat) (w : World) (h : DeckOk b ns lim w) (hlim : lim ≤ 4611686018427387904) (g cap : Nat) (xs : List Int) (hx : xs ≠ []) (hxl : xs.length ≤ 100) (hg : g ≠ b) (hgl : g < w.heap.size) (hr : w.rangeAt g 0 (xs.map (.int .i64))) :
    Calls Tryz.prog 59 #[.pointer (some ⟨b, 0, none⟩), .slice (some ⟨g, 0, none⟩) xs.length cap] w fun e w' => ∃ x, x ∈ xs ∧ e = .returned (.int .i64 x) ∧ DK b ns (lim + 1) w w' := by
  have hpos : 1 ≤ xs.length := List.length_pos_iff.2 hx
  have hlt := h.lt
  refine calls_at (args := [.pointer (some ⟨b, 0, none⟩), .slice (some ⟨g, 0, none⟩) xs.length cap]) (fn := Tryz.f59) (c := codePk) (n := 12) (by kernel_rfl) (by kernel_rfl) (by kernel_rfl) (by kernel_rfl) ?_
  refine at_run 60 [.code codePk] w.heap.size [] [] tPk0 [(5, .slice (some ⟨g, 0, none⟩) xs.length cap), (6, .pointer (some ⟨b, 0, none⟩)), (8, .int .i64 xs.length)] w.heap.size [] (lies_nil w) (by kernel_rfl) fun w1 E1 hL1 hK1 => ?_
  have b1 : Below w.heap.size w w1 := hK1.below (Nat.le_refl _) (fun k hk => by cases hk)
  have D1 := (DK.refl h).below b1
  refine at_call 32 [.tmp 6, .tmp 8] (some 9) [.pointer (some ⟨b, 0, none⟩), .int .i64 xs.length] (by kernel_rfl) (by kernel_rfl) (by kernel_rfl) ((dnext_any b ns lim xs.length w1 D1.deck hlim (by omega) (by omega)).mono fun e w2 hh => ?_)
  obtain ⟨k, hk, rfl, D2⟩ := hh
  refine ⟨_, rfl, ?_⟩
  have D2 := D1.next D2
  have hkl : k < xs.length := by omega
  refine at_elem (g := g) (off := 0) (cap := cap) (sz := 1) (k := k) (some 10) (by kernel_rfl) hkl Tryz.underlying44 (by kernel_rfl) ?_
  have hc : w2.cell? ⟨g, 0 + k * 1, none⟩ = some (.int .i64 xs[k]) := by
    rw [Nat.mul_one, World.cell?_of_block (w := w) (D2.but.block g hgl hg)]
    exact hr k _ (by simp [hkl])
  generalize hxk : xs[k] = x at hc
  refine at_load1 3 g (0 + k * 1) (.int .i64 x) (some 11) (by kernel_rfl) (by kernel_rfl) hc ?_
  exact at_endT (fn := Tryz.f59) 60 (.int .i64 x) (by kernel_rfl) (by kernel_rfl) fun w3 B3 => ⟨x, hxk ▸ List.getElem_mem hkl, rfl, D2.below B3⟩
def textsL : List (List UInt8) := [[97, 103, 114, 101, 101, 109, 101, 110, 116, 32, 97, 59, 10, 105, 110, 112, 117, 116, 32, 114, 97, 116, 101, 58, 32, 109, 111, 110, 101, 121, 59, 10, 112, 97, 121, 32, 115, 97, 108, 97, 114, 121, 32, 102, 114, 111, 109, 32, 49, 57, 55, 48, 45, 48, 49, 45, 48, 49, 32, 61, 32, 114, 97, 116, 101, 32, 114, 111, 117, 110, 100, 101, 100, 32, 100, 111, 119, 110, 32, 116, 111, 32, 48, 46, 48, 49, 59, 10], [97, 103, 114, 101, 101, 109, 101, 110, 116, 32, 98, 59, 10, 105, 110, 112, 117, 116, 32, 114, 97, 116, 101, 58, 32, 109, 111, 110, 101, 121, 59, 10, 105, 110, 112, 117, 116, 32, 115, 104, 105, 102, 116, 115, 58, 32, 104, 111, 117, 114, 115, 59, 10, 112, 97, 121, 32, 115, 97, 108, 97, 114, 121, 32, 102, 114, 111, 109, 32, 49, 57, 55, 48, 45, 48, 49, 45, 48, 49, 32, 61, 32, 114, 97, 116, 101, 32, 114, 111, 117, 110, 100, 101, 100, 32, 104, 97, 108, 102, 95, 117, 112, 32, 116, 111, 32, 48, 46, 48, 49, 59, 10, 112, 97, 121, 32, 115, 97, 108, 97, 114, 121, 32, 102, 114, 111, 109, 32, 49, 57, 55, 48, 45, 48, 51, 45, 48, 49, 32, 61, 32, 114, 97, 116, 101, 32, 42, 32, 49, 46, 48, 53, 32, 114, 111, 117, 110, 100, 101, 100, 32, 104, 97, 108, 102, 95, 117, 112, 32, 116, 111, 32, 48, 46, 48, 49, 59, 10, 112, 97, 121, 32, 110, 105, 103, 104, 116, 32, 102, 114, 111, 109, 32, 49, 57, 55, 48, 45, 48, 49, 45, 48, 49, 32, 61, 32, 115, 104, 105, 102, 116, 115, 32, 42, 32, 50, 48, 32, 109, 111, 110, 101, 121, 47, 104, 111, 117, 114, 115, 32, 114, 111, 117, 110, 100, 101, 100, 32, 100, 111, 119, 110, 32, 116, 111, 32, 48, 46, 48, 49, 59, 10, 112, 97, 121, 32, 99, 97, 114, 32, 102, 114, 111, 109, 32, 49, 57, 55, 48, 45, 48, 49, 45, 48, 49, 32, 61, 32, 50, 48, 48, 32, 109, 111, 110, 101, 121, 32, 114, 111, 117, 110, 100, 101, 100, 32, 100, 111, 119, 110, 32, 116, 111, 32, 49, 59, 10], [97, 103, 114, 101, 101, 109, 101, 110, 116, 32, 99, 59, 10, 105, 110, 112, 117, 116, 32, 114, 97, 116, 101, 58, 32, 109, 111, 110, 101, 121, 59, 10, 112, 97, 115, 116, 32, 115, 97, 108, 97, 114, 121, 58, 32, 109, 111, 110, 101, 121, 59, 10, 112, 97, 121, 32, 115, 97, 108, 97, 114, 121, 32, 102, 114, 111, 109, 32, 49, 57, 55, 48, 45, 48, 49, 45, 48, 49, 32, 61, 32, 114, 97, 116, 101, 32, 114, 111, 117, 110, 100, 101, 100, 32, 100, 111, 119, 110, 32, 116, 111, 32, 48, 46, 48, 49, 59, 10, 112, 97, 121, 32, 98, 111, 110, 117, 115, 32, 102, 114, 111, 109, 32, 49, 57, 55, 48, 45, 48, 51, 45, 48, 49, 32, 61, 32, 97, 118, 101, 114, 97, 103, 101, 40, 115, 97, 108, 97, 114, 121, 44, 32, 50, 41, 32, 47, 32, 49, 48, 32, 114, 111, 117, 110, 100, 101, 100, 32, 100, 111, 119, 110, 32, 116, 111, 32, 48, 46, 48, 49, 59, 10], [97, 103, 114, 101, 101, 109, 101, 110, 116, 32, 100, 59, 10, 105, 110, 112, 117, 116, 32, 114, 97, 116, 101, 58, 32, 109, 111, 110, 101, 121, 59, 10, 114, 117, 108, 101, 32, 116, 119, 105, 99, 101, 58, 32, 109, 111, 110, 101, 121, 32, 102, 114, 111, 109, 32, 49, 57, 55, 48, 45, 48, 50, 45, 49, 53, 32, 61, 32, 114, 97, 116, 101, 32, 42, 32, 50, 59, 10, 112, 97, 121, 32, 115, 97, 108, 97, 114, 121, 32, 102, 114, 111, 109, 32, 49, 57, 55, 48, 45, 48, 49, 45, 50, 48, 32, 61, 32, 105, 102, 32, 114, 97, 116, 101, 32, 60, 32, 50, 48, 48, 48, 32, 109, 111, 110, 101, 121, 32, 116, 104, 101, 110, 32, 50, 48, 48, 48, 32, 109, 111, 110, 101, 121, 32, 101, 108, 115, 101, 32, 114, 97, 116, 101, 32, 114, 111, 117, 110, 100, 101, 100, 32, 117, 112, 32, 116, 111, 32, 48, 46, 48, 53, 59, 10, 112, 97, 121, 32, 111, 116, 104, 101, 114, 32, 102, 114, 111, 109, 32, 49, 57, 55, 48, 45, 48, 49, 45, 48, 49, 32, 61, 32, 49, 32, 109, 111, 110, 101, 121, 32, 114, 111, 117, 110, 100, 101, 100, 32, 100, 111, 119, 110, 32, 116, 111, 32, 49, 59, 10]]
noncomputable def codeTx : Code := Tryz.f58.body.getD .skip
theorem dtexts_any (w : World) : Calls Tryz.prog 58 #[] w fun e w' => e = .returned (.slice (some ⟨w.heap.size, 0, none⟩) 4 4) ∧ w'.rangeAt w.heap.size 0 (textsL.map fun l => .string ⟨⟨l⟩⟩) ∧ w.heap.size < w'.heap.size ∧ Below w.heap.size w w' := by
  refine calls_at (args := []) (fn := Tryz.f58) (c := codeTx) (n := 2) (by kernel_rfl) (by kernel_rfl) (by kernel_rfl) (by kernel_rfl) ?_
  refine at_run 60 [.code codeTx] w.heap.size [] [] (advT 60 [.code codeTx]) [(0, .slice (some ⟨w.heap.size, 0, none⟩) 4 4)] (w.heap.size + 1) [⟨w.heap.size, 0, textsL.map fun l => .string ⟨⟨l⟩⟩, 9, true⟩] (lies_nil w) (by kernel_rfl) fun w1 E1 hL1 hK1 => ?_
  have hb1 := own_good (hL1.sat.good _ (List.mem_singleton.2 rfl))
  have B1 : Below w.heap.size w w1 := hK1.below (Nat.le_refl _) (fun k hk => by cases hk)
  have hlt := heap_lt hb1
  refine at_endT (fn := Tryz.f58) 10 (.slice (some ⟨w.heap.size, 0, none⟩) 4 4) (by kernel_rfl) (by kernel_rfl) fun w2 B2 => ⟨rfl, ?_, Nat.lt_of_lt_of_le hlt B2.size, B1.trans (B2.mono B1.size)⟩
  intro j v hj
  rw [World.cell?_of_block (B2.block _ hlt)]
  unfold World.cell?
  simp only [hb1, Nat.zero_add]
  rw [List.getElem?_toArray]
  exact hj
noncomputable def codeLn : Code := Tryz.f57.body.getD .skip
noncomputable def tLn0 : List Item := advT 60 [.code codeLn]
theorem dlearn_any (c : Cmd) (hc : learnC c = c) (h1 : c.kind = 1) (w : World) : Calls Tryz.prog 57 #[.agg ⟨c.fact⟩] w fun e w' => e = .returned (.agg ⟨c.cells⟩) ∧ Below w.heap.size w w' := by
  have e1 : c.cells = [.int .i64 1, .int .i64 c.emp, .int .i64 c.fk, .int .i64 c.fr, .string ⟨⟨c.nm⟩⟩, .int .i64 c.val, .int .i64 c.ext, .int .i64 c.rnk, .string ⟨⟨c.txt⟩⟩, .int .i64 0, .int .u64 0, .int .i64 0, .int .i64 0] := by
    have e2 : c.per = 0 ∧ c.wh = 0 ∧ c.torn = 0 ∧ c.stop = 0 := by rw [← hc]; exact ⟨rfl, rfl, rfl, rfl⟩
    simp [Cmd.cells, h1, e2.1, e2.2.1, e2.2.2.1, e2.2.2.2]
  refine calls_at (args := [.agg ⟨c.fact⟩]) (fn := Tryz.f57) (c := codeLn) (n := 5) (by kernel_rfl) (by kernel_rfl) (by kernel_rfl) (by kernel_rfl) ?_
  refine at_run 60 [.code codeLn] w.heap.size [] [(0, 0), (1, 0)] tLn0 [(2, .pointer (some ⟨w.heap.size + 1, 0, none⟩))] (w.heap.size + 1 + 1) [⟨w.heap.size, 0, c.fact, 61, true⟩, ⟨w.heap.size + 1, 0, [.int .i64 1, .int .i64 c.emp, .int .i64 c.fk, .int .i64 c.fr, .string ⟨⟨c.nm⟩⟩, .int .i64 c.val, .int .i64 c.ext, .int .i64 c.rnk, .string ⟨⟨c.txt⟩⟩, .int .i64 0, .int .u64 0, .int .i64 0, .int .i64 0], 64, true⟩] (lies_nil w) (by kernel_rfl) fun w1 E1 hL1 hK1 => ?_
  have B1 : Below w.heap.size w w1 := hK1.below (Nat.le_refl _) (fun k hk => by cases hk)
  have h2 := hL1.sat.good ⟨w.heap.size + 1, 0, _, 64, true⟩ (by simp; rfl)
  rw [← e1] at h2
  exact at_ret (fn := Tryz.f57) (by kernel_rfl) (by kernel_rfl) ⟨0, [⟨w.heap.size + 1, 0, c.cells, 64, true⟩], (0, 0), []⟩ (fun e he => by rw [List.mem_singleton.1 he]; exact h2) (.agg ⟨c.cells⟩) (by kernel_rfl) (by kernel_rfl) ⟨rfl, B1⟩
noncomputable def codeDy : Code := Tryz.f110.body.getD .skip
noncomputable def tDy0 : List Item := advT 60 [.code codeDy]
noncomputable def tDy1 : List Item := advT 60 (popOp tDy0)
theorem dday_any (b : Nat) (ns : List Int) (lim : Nat) (w : World) (h : DeckOk b ns lim w) (hlim : lim ≤ 4611686018427387000) :
    Calls Tryz.prog 110 #[.pointer (some ⟨b, 0, none⟩)] w fun e w' => ∃ x : Int, (0 ≤ x ∧ x ≤ 150) ∧ e = .returned (.int .i64 x) ∧ DK b ns (lim + 2) w w' := by
  refine calls_at (args := [.pointer (some ⟨b, 0, none⟩)]) (fn := Tryz.f110) (c := codeDy) (n := 8) (by kernel_rfl) (by kernel_rfl) (by kernel_rfl) (by kernel_rfl) ?_
  refine at_run 60 [.code codeDy] w.heap.size [] [] tDy0 [(3, .pointer (some ⟨b, 0, none⟩)), (4, .pointer (some ⟨b, 0, none⟩))] w.heap.size [] (lies_nil w) (by kernel_rfl) fun w1 E1 hL1 hK1 => ?_
  have D1 := (DK.refl h).below (hK1.below (Nat.le_refl _) (fun k hk => by cases hk))
  refine at_call 32 [.tmp 4, .const (.int .i64 151)] (some 5) [.pointer (some ⟨b, 0, none⟩), .int .i64 151] (by kernel_rfl) (by kernel_rfl) (by kernel_rfl) ((dnext_any b ns lim 151 w1 D1.deck (by omega) (by omega) (by omega)).mono fun e w2 hh => ?_)
  obtain ⟨k, hk, rfl, D2⟩ := hh
  refine ⟨_, rfl, ?_⟩
  have D2 := D1.next D2
  refine at_run 60 (popOp tDy0) w2.heap.size [] [] tDy1 [(3, .pointer (some ⟨b, 0, none⟩)), (6, .slice (some ⟨w2.heap.size, 0, none⟩) 8 8)] (w2.heap.size + 1) [⟨w2.heap.size, 0, ([0, 31, 59, 90, 30, 58, 120, (k : Int)] : List Int).map (.int .i64), 3, true⟩] (lies_nil w2) (by kernel_rfl) fun w3 E3 hL3 hK3 => ?_
  have D3 := D2.below (hK3.below (Nat.le_refl _) (fun k hk => by cases hk))
  have hb3 := own_good (hL3.sat.good _ (List.mem_singleton.2 rfl))
  have hbl := D2.lt
  refine at_call 59 [.tmp 3, .tmp 6] (some 7) [.pointer (some ⟨b, 0, none⟩), .slice (some ⟨w2.heap.size, 0, none⟩) 8 8] (by kernel_rfl) (by kernel_rfl) (by kernel_rfl) ((dpick_any b ns (lim + 1) w3 D3.deck (by omega) w2.heap.size 8 [0, 31, 59, 90, 30, 58, 120, (k : Int)] (by simp) (by simp) (by omega) (heap_lt hb3) (rangeAt_lit hb3 0 _ rfl)).mono fun e w4 hh => ?_)
  obtain ⟨x, hx, rfl, D4⟩ := hh
  refine ⟨_, rfl, ?_⟩
  have D4 := D3.next D4
  have hx' : 0 ≤ x ∧ x ≤ 150 := by
    simp only [List.mem_cons, List.not_mem_nil, or_false] at hx
    rcases hx with rfl | rfl | rfl | rfl | rfl | rfl | rfl | rfl <;> omega
  exact at_endT (fn := Tryz.f110) 60 (.int .i64 x) (by kernel_rfl) (by kernel_rfl) fun w5 B5 => ⟨x, hx', rfl, D4.below B5⟩
end Go.Proofs.YtdcbnkimjhefkaaGreatDoor

namespace Go.Proofs.YtdcbnkimjhefkaaGreatDoor
set_option maxRecDepth 100000
/-- A fact's command. -/
def fc (e k d : Int) (nm : List UInt8) (v x r : Int) (t : List UInt8) : Cmd := ⟨1, e, k, d, nm, v, x, r, t, 0, 0, 0, 0⟩
/-- What the deck's commands are. -/
structure GenC (c : Cmd) : Prop where
  wf : c.Wf
  ok : okC c = true
  len : (textC c).length ≤ 1000
  nm : c.nm.length ≤ 60
  txt : c.txt.length ≤ 400
structure GenF (c : Cmd) : Prop where
  gen : GenC c
  kind : c.kind = 1
  learn : learnC c = c
theorem gen_of (c : Cmd) (F : Form) (hF : formOf c = some F) (hok : okF c F = true) (wf : c.Wf) (len : (linesP c F).length ≤ 1000) (nm : c.nm.length ≤ 60) (txt : c.txt.length ≤ 400) : GenC c :=
  ⟨wf, by simp only [okC, hF, hok], by simp only [textC, hF]; exact len, nm, txt⟩
theorem fits_of {n : Int} (h : -1000000000000000000 ≤ n ∧ n ≤ 1000000000000000000) : fitsP n = true := by simp [fitsP, h.1, h.2]
theorem in_of {n : Int} (h : -1000000000000000000 ≤ n ∧ n ≤ 1000000000000000000) : inR n := ⟨by omega, by omega⟩
theorem len_of {n : Int} (h : -1000000000000000000 ≤ n ∧ n ≤ 1000000000000000000) : (Lib.itoa n).length ≤ 21 := by have := itoa_len n (by omega) (by omega); omega
theorem lit_in (n : Int) (h : decide (-9223372036854775808 ≤ n ∧ n ≤ 9223372036854775807) = true) : inR n := by
  have h2 : -9223372036854775808 ≤ n ∧ n ≤ 9223372036854775807 := of_decide_eq_true h
  exact h2
abbrev mid (n : Int) : Prop := -1000000000000000000 ≤ n ∧ n ≤ 1000000000000000000
theorem gen1 (e d : Int) (he : mid e) (hd : mid d) : GenF (fc e 1 d [] 0 0 0 []) :=
  ⟨gen_of _ ⟨[104, 105, 114, 101], 1, 1, [69, 68]⟩ (by kernel_rfl) (by
    simp [okF, okL, okP, numP, leftP, restP, zeroP, zeroN, Cmd.of, fc, fits_of he, fits_of hd]) ⟨lit_in 1 rfl, in_of he, lit_in 1 rfl, in_of hd, lit_in 0 rfl, lit_in 0 rfl, lit_in 0 rfl, lit_in 0 rfl, lit_in 0 rfl, lit_in 0 rfl, (by decide : (0 : Nat) < 18446744073709551616), by simp [fc], Nat.zero_le _⟩ (by
    have le := len_of he
    have ld := len_of hd
    simp [linesP, itemsP, itemP, numP, fc]
    omega) (by simp [fc]) (by simp [fc]), rfl, rfl⟩
theorem gen2 (e d : Int) (he : mid e) (hd : mid d) : GenF (fc e 2 d [] 0 0 0 []) :=
  ⟨gen_of _ ⟨[108, 101, 97, 118, 101], 1, 2, [69, 68]⟩ (by kernel_rfl) (by
    simp [okF, okL, okP, numP, leftP, restP, zeroP, zeroN, Cmd.of, fc, fits_of he, fits_of hd]) ⟨lit_in 1 rfl, in_of he, lit_in 2 rfl, in_of hd, lit_in 0 rfl, lit_in 0 rfl, lit_in 0 rfl, lit_in 0 rfl, lit_in 0 rfl, lit_in 0 rfl, (by decide : (0 : Nat) < 18446744073709551616), by simp [fc], Nat.zero_le _⟩ (by
    have le := len_of he
    have ld := len_of hd
    simp [linesP, itemsP, itemP, numP, fc]
    omega) (by simp [fc]) (by simp [fc]), rfl, rfl⟩
theorem gen3rate (e d v : Int) (he : mid e) (hd : mid d) (hv : mid v) : GenF (fc e 3 d [114, 97, 116, 101] v 0 0 []) :=
  ⟨gen_of _ ⟨[105, 110, 112, 117, 116], 1, 3, [69, 78, 68, 86]⟩ (by kernel_rfl) (by
    have hn : Tk.isName [114, 97, 116, 101] = true := by kernel_rfl
    simp [okF, okL, okP, numP, leftP, restP, zeroP, zeroN, Cmd.of, fc, fits_of he, fits_of hd, fits_of hv, hn]) ⟨lit_in 1 rfl, in_of he, lit_in 3 rfl, in_of hd, in_of hv, lit_in 0 rfl, lit_in 0 rfl, lit_in 0 rfl, lit_in 0 rfl, lit_in 0 rfl, (by decide : (0 : Nat) < 18446744073709551616), by simp [fc], Nat.zero_le _⟩ (by
    have le := len_of he
    have ld := len_of hd
    have lv := len_of hv
    simp [linesP, itemsP, itemP, numP, fc]
    omega) (by simp [fc]) (by simp [fc]), rfl, rfl⟩
theorem gen4shifts (e d v : Int) (he : mid e) (hd : mid d) (hv : mid v) : GenF (fc e 4 d [115, 104, 105, 102, 116, 115] v 0 0 []) :=
  ⟨gen_of _ ⟨[104, 111, 117, 114, 115], 1, 4, [69, 78, 68, 86]⟩ (by kernel_rfl) (by
    have hn : Tk.isName [115, 104, 105, 102, 116, 115] = true := by kernel_rfl
    simp [okF, okL, okP, numP, leftP, restP, zeroP, zeroN, Cmd.of, fc, fits_of he, fits_of hd, fits_of hv, hn]) ⟨lit_in 1 rfl, in_of he, lit_in 4 rfl, in_of hd, in_of hv, lit_in 0 rfl, lit_in 0 rfl, lit_in 0 rfl, lit_in 0 rfl, lit_in 0 rfl, (by decide : (0 : Nat) < 18446744073709551616), by simp [fc], Nat.zero_le _⟩ (by
    have le := len_of he
    have ld := len_of hd
    have lv := len_of hv
    simp [linesP, itemsP, itemP, numP, fc]
    omega) (by simp [fc]) (by simp [fc]), rfl, rfl⟩
theorem gen6 (d v : Int) (hd : mid d) (hv : mid v) : GenF (fc 0 6 d [] v 0 0 []) :=
  ⟨gen_of _ ⟨[114, 117, 108, 101, 115], 1, 6, [68, 86]⟩ (by kernel_rfl) (by
    simp [okF, okL, okP, numP, leftP, restP, zeroP, zeroN, Cmd.of, fc, fits_of hd, fits_of hv]) ⟨lit_in 1 rfl, lit_in 0 rfl, lit_in 6 rfl, in_of hd, in_of hv, lit_in 0 rfl, lit_in 0 rfl, lit_in 0 rfl, lit_in 0 rfl, lit_in 0 rfl, (by decide : (0 : Nat) < 18446744073709551616), by simp [fc], Nat.zero_le _⟩ (by
    have ld := len_of hd
    have lv := len_of hv
    simp [linesP, itemsP, itemP, numP, fc]
    omega) (by simp [fc]) (by simp [fc]), rfl, rfl⟩
theorem gen7 (e d v : Int) (he : mid e) (hd : mid d) (hv : mid v) : GenF (fc e 7 d [] v 0 0 []) :=
  ⟨gen_of _ ⟨[100, 101, 112, 101, 110, 100, 101, 110, 116, 115], 1, 7, [69, 68, 86]⟩ (by kernel_rfl) (by
    simp [okF, okL, okP, numP, leftP, restP, zeroP, zeroN, Cmd.of, fc, fits_of he, fits_of hd, fits_of hv]) ⟨lit_in 1 rfl, in_of he, lit_in 7 rfl, in_of hd, in_of hv, lit_in 0 rfl, lit_in 0 rfl, lit_in 0 rfl, lit_in 0 rfl, lit_in 0 rfl, (by decide : (0 : Nat) < 18446744073709551616), by simp [fc], Nat.zero_le _⟩ (by
    have le := len_of he
    have ld := len_of hd
    have lv := len_of hv
    simp [linesP, itemsP, itemP, numP, fc]
    omega) (by simp [fc]) (by simp [fc]), rfl, rfl⟩
theorem gen8city (e d v x r : Int) (he : mid e) (hd : mid d) (hv : mid v) (hx : mid x) (hr : mid r) : GenF (fc e 8 d [99, 105, 116, 121] v x r []) :=
  ⟨gen_of _ ⟨[111, 114, 100, 101, 114], 1, 8, [69, 78, 68, 86, 88, 82]⟩ (by kernel_rfl) (by
    have hn : Tk.isName [99, 105, 116, 121] = true := by kernel_rfl
    simp [okF, okL, okP, numP, leftP, restP, zeroP, zeroN, Cmd.of, fc, fits_of he, fits_of hd, fits_of hv, fits_of hx, fits_of hr, hn]) ⟨lit_in 1 rfl, in_of he, lit_in 8 rfl, in_of hd, in_of hv, in_of hx, in_of hr, lit_in 0 rfl, lit_in 0 rfl, lit_in 0 rfl, (by decide : (0 : Nat) < 18446744073709551616), by simp [fc], Nat.zero_le _⟩ (by
    have le := len_of he
    have ld := len_of hd
    have lv := len_of hv
    have lx := len_of hx
    have lr := len_of hr
    simp [linesP, itemsP, itemP, numP, fc]
    omega) (by simp [fc]) (by simp [fc]), rfl, rfl⟩
theorem gen8court (e d v x r : Int) (he : mid e) (hd : mid d) (hv : mid v) (hx : mid x) (hr : mid r) : GenF (fc e 8 d [99, 111, 117, 114, 116] v x r []) :=
  ⟨gen_of _ ⟨[111, 114, 100, 101, 114], 1, 8, [69, 78, 68, 86, 88, 82]⟩ (by kernel_rfl) (by
    have hn : Tk.isName [99, 111, 117, 114, 116] = true := by kernel_rfl
    simp [okF, okL, okP, numP, leftP, restP, zeroP, zeroN, Cmd.of, fc, fits_of he, fits_of hd, fits_of hv, fits_of hx, fits_of hr, hn]) ⟨lit_in 1 rfl, in_of he, lit_in 8 rfl, in_of hd, in_of hv, in_of hx, in_of hr, lit_in 0 rfl, lit_in 0 rfl, lit_in 0 rfl, (by decide : (0 : Nat) < 18446744073709551616), by simp [fc], Nat.zero_le _⟩ (by
    have le := len_of he
    have ld := len_of hd
    have lv := len_of hv
    have lx := len_of hx
    have lr := len_of hr
    simp [linesP, itemsP, itemP, numP, fc]
    omega) (by simp [fc]) (by simp [fc]), rfl, rfl⟩
theorem gen9club (e d v x r : Int) (he : mid e) (hd : mid d) (hv : mid v) (hx : mid x) (hr : mid r) : GenF (fc e 9 d [99, 108, 117, 98] v x r []) :=
  ⟨gen_of _ ⟨[100, 101, 100, 117, 99, 116, 105, 111, 110], 1, 9, [69, 78, 68, 86, 88, 82]⟩ (by kernel_rfl) (by
    have hn : Tk.isName [99, 108, 117, 98] = true := by kernel_rfl
    simp [okF, okL, okP, numP, leftP, restP, zeroP, zeroN, Cmd.of, fc, fits_of he, fits_of hd, fits_of hv, fits_of hx, fits_of hr, hn]) ⟨lit_in 1 rfl, in_of he, lit_in 9 rfl, in_of hd, in_of hv, in_of hx, in_of hr, lit_in 0 rfl, lit_in 0 rfl, lit_in 0 rfl, (by decide : (0 : Nat) < 18446744073709551616), by simp [fc], Nat.zero_le _⟩ (by
    have le := len_of he
    have ld := len_of hd
    have lv := len_of hv
    have lx := len_of hx
    have lr := len_of hr
    simp [linesP, itemsP, itemP, numP, fc]
    omega) (by simp [fc]) (by simp [fc]), rfl, rfl⟩
theorem gen9loan (e d v x r : Int) (he : mid e) (hd : mid d) (hv : mid v) (hx : mid x) (hr : mid r) : GenF (fc e 9 d [108, 111, 97, 110] v x r []) :=
  ⟨gen_of _ ⟨[100, 101, 100, 117, 99, 116, 105, 111, 110], 1, 9, [69, 78, 68, 86, 88, 82]⟩ (by kernel_rfl) (by
    have hn : Tk.isName [108, 111, 97, 110] = true := by kernel_rfl
    simp [okF, okL, okP, numP, leftP, restP, zeroP, zeroN, Cmd.of, fc, fits_of he, fits_of hd, fits_of hv, fits_of hx, fits_of hr, hn]) ⟨lit_in 1 rfl, in_of he, lit_in 9 rfl, in_of hd, in_of hv, in_of hx, in_of hr, lit_in 0 rfl, lit_in 0 rfl, lit_in 0 rfl, (by decide : (0 : Nat) < 18446744073709551616), by simp [fc], Nat.zero_le _⟩ (by
    have le := len_of he
    have ld := len_of hd
    have lv := len_of hv
    have lx := len_of hx
    have lr := len_of hr
    simp [linesP, itemsP, itemP, numP, fc]
    omega) (by simp [fc]) (by simp [fc]), rfl, rfl⟩
theorem texts_lined : ∀ t ∈ textsL, linedP t = true := by
  intro t ht
  simp only [textsL, List.mem_cons, List.not_mem_nil, or_false] at ht
  rcases ht with rfl | rfl | rfl | rfl <;> kernel_rfl
theorem texts_len : ∀ t ∈ textsL, t.length ≤ 400 := by
  intro t ht
  simp only [textsL, List.mem_cons, List.not_mem_nil, or_false] at ht
  rcases ht with rfl | rfl | rfl | rfl <;> exact Nat.le_of_ble_eq_true (by kernel_rfl)
theorem gen5 (d : Int) (t : List UInt8) (hd : mid d) (ht : t ∈ textsL) : GenF (fc 0 5 d [] 0 0 0 t) :=
  have hl := texts_len t ht
  ⟨gen_of _ ⟨[97, 103, 114, 101, 101, 109, 101, 110, 116], 1, 5, [68]⟩ (by kernel_rfl) (by
    simp [okF, okL, okP, numP, leftP, restP, zeroP, zeroN, Cmd.of, fc, fits_of hd, texts_lined t ht]) ⟨lit_in 1 rfl, lit_in 0 rfl, lit_in 5 rfl, in_of hd, lit_in 0 rfl, lit_in 0 rfl, lit_in 0 rfl, lit_in 0 rfl, lit_in 0 rfl, lit_in 0 rfl, (by decide : (0 : Nat) < 18446744073709551616), Nat.zero_le _, by simp only [fc]; omega⟩ (by
    have ld := len_of hd
    simp [linesP, itemsP, itemP, numP, fc]
    omega) (by simp [fc]) (by simp only [fc]; omega), rfl, rfl⟩
end Go.Proofs.YtdcbnkimjhefkaaGreatDoor

namespace Go.Proofs.YtdcbnkimjhefkaaGreatDoor
section
variable {P : Program} {ops : Array Oper} {Q : Exit → Act → World → Prop} {md : Region.Mode} {W : Wr} {listed0 : Array Bool} {a0 : Act} {C : Nat → World → Prop} {Ext : World → World → Prop} {L : List Loc} {w0 : World}
def Loc.obN (P : Program) (ops : Array Oper) (a0 : Act) (W : Wr) (C C' : World → Prop) (Ext : World → World → Prop) (L : List Loc) (l : Loc) : Prop :=
  ∀ (vals : Nat → Value) (w : World), C w → (∀ m ∈ L, m.idx ∈ l.before → m.holds vals w) → ∀ o, ops[l.idx]? = some o →
    if Region.wanted o (yieldV ops a0 W vals) then OpOk P o (evalV a0 W vals) w (fun v w' => C' w' ∧ Ext w w' ∧ l.holds (upv vals l.idx v) w')
    else l.holds (upv vals l.idx undef) w
/-- In whatever order; what holds of the world may depend on how many operations are still to come. -/
theorem wpAny_locN (hok : locOk md ops W listed0 a0.tmps.size L = true) (hC : C L.length w0) (hdn : ∀ m w, C (m + 1) w → C m w) (hrf' : ∀ w : World, Ext w w) (htr : ∀ a b c : World, Ext a b → Ext b c → Ext a c)
    (hst : ∀ l ∈ L, ∀ vs w w', Ext w w' → l.says vs w → l.says vs w') (hob : ∀ m, ∀ l ∈ L, l.obN P ops a0 W (C (m + 1)) (C m) Ext L) {fuel : Nat}
    (H : ∀ vals w, C 0 w → Ext w0 w → (∀ l ∈ L, l.holds vals w) → wpAny P md ops Q fuel ((L.map (·.idx)).foldl (fun b i => b.setIfInBounds i true) listed0) (fin ops vals (L.map (·.idx)) a0) w) :
    wpAny P md ops Q (L.length + fuel) listed0 a0 w0 := by
  have F := locOk_facts hok
  have key : ∀ (m : Nat) (listed : Array Bool) (vals : Nat → Value) (a : Act) (w : World), LocInv md ops W listed0 a0 (fun _ => True) Ext L w0 listed vals a w → undone listed L = m → C m w → wpAny P md ops Q (m + fuel) listed a w := by
    intro m
    induction m with
    | zero =>
      intro listed vals a w I hu hCm
      have hall := fun l (hl : l ∈ L) => undone_zero hu hl
      have h := H vals w hCm I.ext (fun l hl => I.says l hl (hall l hl))
      have e1 : listed = (L.map (·.idx)).foldl (fun b i => b.setIfInBounds i true) listed0 := by
        refine Array.ext_getElem? fun j => ?_
        rw [fold_listed]
        by_cases hj : j ∈ L.map (·.idx)
        · obtain ⟨l, hl, rfl⟩ := List.mem_map.1 hj
          have hlt : l.idx < listed0.size := getD_lt (F.fresh l hl)
          rw [if_pos ⟨hj, hlt⟩, get_of_getD (by rw [I.size, ← F.size]; exact hlt) false, hall l hl]
        · rw [if_neg (fun h => hj h.1)]; exact I.keep j hj
      have e2 : a = fin ops vals (L.map (·.idx)) a0 := by
        have hs := fin_size ops vals (L.map (·.idx)) a0
        have ht : a.tmps = (fin ops vals (L.map (·.idx)) a0).tmps := by
          refine Array.ext_getElem? fun t => ?_
          cases hw : W.of t with
          | none =>
            rw [I.other t hw, fin_not]
            intro i hi hd
            obtain ⟨l, hl, rfl⟩ := List.mem_map.1 hi
            obtain ⟨o, ho⟩ := F.op l hl
            have hdo : o.dst = some t := by unfold dstOf at hd; rw [ho] at hd; exact hd
            have := (F.dst l hl o ho t hdo).2
            rw [hw] at this; cases this
          | some j =>
            obtain ⟨hjA, hjd⟩ := F.wr t j hw
            obtain ⟨l, hl, rfl⟩ := List.mem_map.1 hjA
            obtain ⟨o, ho⟩ := F.op l hl
            have hdo : o.dst = some t := by unfold dstOf at hjd; rw [ho] at hjd; exact hjd
            rw [I.done t _ hw (hall l hl), fin_at ops vals t l.idx _ _ _ hjA hjd (F.dst l hl o ho t hdo).1]
            intro i hi hd
            obtain ⟨l', hl', rfl⟩ := List.mem_map.1 hi
            obtain ⟨o', ho'⟩ := F.op l' hl'
            have hdo' : o'.dst = some t := by unfold dstOf at hd; rw [ho'] at hd; exact hd
            have := (F.dst l' hl' o' ho' t hdo').2
            rw [hw] at this; exact (Option.some.inj this).symm
        cases a; cases hf : fin ops vals (L.map (·.idx)) a0
        rw [hf] at hs ht
        simp only at hs ht
        have hd := I.defers
        simp only at hd
        subst ht
        rw [hs.2, hd]
      rw [Nat.zero_add, e1, e2]; exact h
    | succ m ih =>
      intro listed vals a w I hu hCm
      rw [Nat.succ_add]
      have some : ∃ l ∈ L, listed.getD l.idx true = false := by
        rcases hx : L.filter (fun l => !listed.getD l.idx false) with _ | ⟨l, r⟩
        · unfold undone at hu; rw [hx] at hu; simp at hu
        · have : l ∈ L.filter (fun l => !listed.getD l.idx false) := by rw [hx]; simp
          rw [List.mem_filter] at this
          refine ⟨l, this.1, ?_⟩
          have hlt : l.idx < listed.size := by rw [I.size, ← F.size]; exact getD_lt (F.fresh l this.1)
          have h2 := this.2
          simp [hlt] at h2 ⊢; exact h2
      refine ⟨fun hr => ?_, fun i hi => ?_⟩
      · exfalso
        have : ∀ (k : Nat) (l : Loc), l ∈ L → l.idx = k → listed.getD l.idx true = true := by
          intro k
          induction k using Nat.strongRecOn with
          | _ k ihk =>
            intro l hl hk
            cases hu : listed.getD l.idx true with
            | true => rfl
            | false =>
              exfalso
              obtain ⟨o, ho⟩ := F.op l hl
              have hm : l.idx ∈ Region.ready md ops listed := by
                rw [mem_ready]
                refine ⟨hu, o, ho, fun e he hb => ?_⟩
                rcases F.edge l hl o ho e he hb with ⟨h1, h2⟩ | ⟨h1, h2⟩
                · have := I.keep _ h2
                  rw [Array.getD_eq_getD_getElem?, this, ← Array.getD_eq_getD_getElem?]; exact h1
                · obtain ⟨m', hm', hme⟩ := List.mem_map.1 h2
                  have g := ihk m'.idx (by omega) m' hm' rfl
                  rw [hme] at g
                  have hlt : e.on < listed.size := by rw [I.size, ← F.size, ← hme]; exact getD_lt (F.fresh m' hm')
                  simp [hlt] at g ⊢; exact g
              rw [hr] at hm; cases hm
        obtain ⟨l, hl, hf⟩ := some
        rw [this _ l hl rfl] at hf; cases hf
      · have hi' := hi
        rw [mem_ready] at hi
        obtain ⟨hui, o, ho, hedges⟩ := hi
        have hA : i ∈ L.map (·.idx) := by
          by_cases hA : i ∈ L.map (·.idx)
          · exact hA
          · exfalso
            have hk := I.keep i hA
            have hu0 : listed0.getD i true = false := by rw [Array.getD_eq_getD_getElem?, ← hk, ← Array.getD_eq_getD_getElem?]; exact hui
            rcases F.tail i o ho hu0 hA with ⟨e, he, hb, hne, hx⟩ | hx
            · have hd := hedges e he hb
              have := I.keep _ hx
              rw [Array.getD_eq_getD_getElem?, this, ← Array.getD_eq_getD_getElem?, hne] at hd; cases hd
            · obtain ⟨l, hl, hf⟩ := some
              have hlf := getD_any hf
              obtain ⟨e, he, hb, hy⟩ := hx l.idx (List.mem_map.2 ⟨l, hl, rfl⟩)
              have hd := hedges e he hb
              rcases hy with h | ⟨m', hm', hme, h⟩
              · rw [← h, hd] at hlf; cases hlf
              · have := I.shut m' hm' (by rw [hme]; exact hd) _ h
                rw [this] at hlf; cases hlf
        obtain ⟨l, hl, rfl⟩ := List.mem_map.1 hA
        have hb : ∀ j ∈ l.before, listed.getD j false = true := by
          intro j hj
          obtain ⟨_, _, e, he, heb, hx⟩ := F.bef l hl o ho j hj
          have hd := hedges e he heb
          rcases hx with rfl | ⟨m', hm', hme, hx⟩
          · exact hd
          · exact I.shut m' hm' (by rw [hme]; exact hd) j hx
        have hlt := getD_lt hui
        have hcount : undone (listed.setIfInBounds l.idx true) L = m := by
          have := undone_set hlt (getD_any hui) F.nodup hA
          omega
        have obl := hob m l hl vals w hCm (fun m' hm' hbm => I.says m' hm' (hb _ hbm)) o ho
        unfold wpOp
        simp only [ho]
        rw [I.wanted F hl ho hb]
        split
        · rename_i hw
          rw [if_pos hw] at obl
          refine .inl ?_
          unfold Oper.wp
          rw [I.exec F hl ho hb]
          unfold OpOk at obl
          cases hr : (execOp (evalV a0 W vals) o).run P w with
          | halt x w' => rw [hr] at obl; exact obl.elim
          | ok n w' =>
            rw [hr] at obl
            cases n <;> simp only at obl <;> simp only [Oper.upon]
            case value v => exact ih _ _ _ _ (I.step F (fun l hl vs w w' _ he h => hst l hl vs w w' he h) htr hl ho hb hui trivial obl.2.1 obl.2.2) hcount obl.1
            case skip => exact ih _ _ _ _ (I.step F (fun l hl vs w w' _ he h => hst l hl vs w w' he h) htr hl ho hb hui trivial obl.2.1 obl.2.2) hcount obl.1
            case enter f args =>
              refine obl.mono fun e w'' he => ?_
              obtain ⟨v, rfl, h1, h2, h3⟩ := he
              exact ih _ _ _ _ (I.step F (fun l hl vs w w' _ he h => hst l hl vs w w' he h) htr hl ho hb hui trivial h2 h3) hcount h1
        · rename_i hw
          rw [if_neg hw] at obl
          exact ih _ _ _ _ (I.step F (fun l hl vs w w' _ he h => hst l hl vs w w' he h) htr hl ho hb hui trivial (hrf' w) obl) hcount (hdn m w hCm)
  refine key L.length listed0 (fun _ => undef) a0 w0 ⟨F.size, fun _ _ => rfl, ?_, rfl, rfl, ?_, fun _ _ _ _ => rfl, fun _ _ => rfl, trivial, hrf' _, ?_⟩ ?_ hC
  · intro l hl hd; rw [getD_any (F.fresh l hl)] at hd; cases hd
  · intro t j hw hd
    obtain ⟨l, hl, rfl⟩ := List.mem_map.1 (F.wr t j hw).1
    rw [getD_any (F.fresh l hl)] at hd; cases hd
  · intro l hl hd; rw [getD_any (F.fresh l hl)] at hd; cases hd
  · unfold undone
    rw [List.filter_eq_self.2]
    intro l hl; rw [getD_any (F.fresh l hl)]; rfl

end
section
variable {P : Program} {ops : Array Oper} {Q : Exit → Act → World → Prop} {md : Region.Mode} {W : Wr} {listed0 : Array Bool} {n : Nat} {E : Nat → Value} {C : Nat → World → Prop} {Ext : World → World → Prop} {L : List Loc} {w0 : World}
def PartN (P : Program) (ops : Array Oper) (n : Nat) (E : Nat → Value) (W : Wr) (C : Nat → World → Prop) (Ext : World → World → Prop) (L : List Loc) (l : Loc) : Prop :=
  (∀ vs w w', Ext w w' → l.says vs w → l.says vs w') ∧
    ∀ (m : Nat) (vals : Nat → Value) (w : World), C (m + 1) w → heldBy l.before vals w L → OpOk P (ops.getD l.idx default) (evalVE n E W vals) w (fun v w' => C m w' ∧ Ext w w' ∧ l.says (l.deps.map (upv vals l.idx v)) w')
def PartsN (P : Program) (ops : Array Oper) (n : Nat) (E : Nat → Value) (W : Wr) (C : Nat → World → Prop) (Ext : World → World → Prop) (L : List Loc) : List Loc → Prop
  | [] => True
  | l :: r => PartN P ops n E W C Ext L l ∧ PartsN P ops n E W C Ext L r
theorem PartsN.all : ∀ {r : List Loc}, PartsN P ops n E W C Ext L r → ∀ l ∈ r, PartN P ops n E W C Ext L l
  | [], _, l, hl => by cases hl
  | m :: r, h, l, hl => by
    rcases List.mem_cons.1 hl with rfl | hl2
    · exact h.1
    · exact PartsN.all h.2 l hl2
theorem any_partsN (hok : (locOk md ops W listed0 n L && bare ops L) = true) (hC : C L.length w0) (hdn : ∀ m w, C (m + 1) w → C m w) (hrf : ∀ w : World, Ext w w) (htr : ∀ a b c : World, Ext a b → Ext b c → Ext a c)
    (hp : PartsN P ops n E W C Ext L L) {fuel k : Nat} (hk : k = L.length + fuel)
    (H : ∀ vals w, C 0 w → Ext w0 w → heldAll vals w L → wpAny P md ops Q fuel ((L.map (·.idx)).foldl (fun b i => b.setIfInBounds i true) listed0) (Fr n (finE ops vals (L.map (·.idx)) E)) w) :
    wpAny P md ops Q k listed0 (Fr n E) w0 := by
  subst hk
  rw [Bool.and_eq_true] at hok
  refine wpAny_locN (a0 := Fr n E) (by rw [Fr_size]; exact hok.1) hC hdn hrf htr (fun l hl => (hp.all l hl).1) (fun m l hl => ?_) (fun vals w h1 h2 h3 => by rw [fin_Fr]; exact H vals w h1 h2 (heldAll_of h3))
  intro vals w hCw hm o ho
  have hb := hok.2
  unfold bare at hb
  rw [List.all_eq_true] at hb
  have hg := hb l hl
  have hx := (hp.all l hl).2 m vals w hCw (heldBy_of hm)
  have ho' : ops.getD l.idx default = o := by rw [Array.getD_eq_getD_getElem?, ho]; rfl
  rw [ho'] at hg hx
  have hw : Region.wanted o (yieldV ops (Fr n E) W vals) = true := by
    unfold Region.wanted
    cases hgg : o.guard with
    | none => rfl
    | some x => rw [hgg] at hg; cases hg
  rw [if_pos hw, evalV_Fr]
  exact hx
theorem partN_pure {i : Nat} {B : List Nat} {v : Value} (hdn : ∀ m w, C (m + 1) w → C m w) (hrf : ∀ w : World, Ext w w)
    (h : ∀ (m : Nat) (vals : Nat → Value) (w : World), C (m + 1) w → heldBy B vals w L → (execOp (evalVE n E W vals) (ops.getD i default)).run P w = .ok (.value v) w) : PartN P ops n E W C Ext L (pureL i B v) :=
  ⟨fun _ _ _ _ h => h, fun m vals w hC hb => OpOk.value (h m vals w hC hb) ⟨hdn m w hC, hrf w, by simp [pureL, upv]⟩⟩
end
end Go.Proofs.YtdcbnkimjhefkaaGreatDoor

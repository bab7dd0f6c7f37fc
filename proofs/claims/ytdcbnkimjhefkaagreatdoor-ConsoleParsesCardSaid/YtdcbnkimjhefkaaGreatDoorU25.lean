/-
 paygen: the commands with which a play begins, and those that follow.
 The console's text of a fact is the reference's.
 Which texts consist of lines none of which is the line end: the program's test and the reference's agree.
 The console's Format is the reference's, for every list of commands.
 A store into a cell at an open place; commands of which one field is changed; small.
 The console's example runs to true.
-/
import Derived.Test.YtdcbnkimjhefkaaGreatDoorU24
import Derived.Test.YtdcbnkimjhefkaaGreatDoorU21
import Derived.Test.YtdcbnkimjhefkaaGreatDoorU22
import Derived.Test.YtdcbnkimjhefkaaGreatDoorU14
import Derived.Test.YtdcbnkimjhefkaaGreatDoorProg
namespace Go.Proofs.YtdcbnkimjhefkaaGreatDoor
open Go.RowKit
set_option maxRecDepth 100000
variable {b : Nat} {ns : List Int} {lim : Nat} {w0 w : World}
theorem own_of_block {w : World} {base g n : Nat} {cs : List Value} (hg : w.heap[g]? = some (.cells cs.toArray 64 (0, 0))) (hb : base ≤ g) (hl : cs.length = n * 13) (hn : n ≤ 100) : w.ownsRow base 64 13 (.slice (some ⟨g, 0, none⟩) n n) n cs :=
 ⟨hl, .inr ⟨g, n, cs.toArray, rfl, hb, hg, Nat.le_refl _, by unfold maxLen; omega, by simpa using hl, by rw [← hl]; simp⟩⟩
theorem dleft_k (b : Nat) (A : Option Addr) (len c k : Nat) (w : World) (hb : w.heap[b]? = some (.cells [.slice A len c, .int .i64 k].toArray 77 (0, 0))) :
  Calls Tryz.prog 31 #[pb b] w fun e w' => e = .returned (.bool (decide ((k : Int) < (len : Int)))) ∧ Below w.heap.size w w' := by
 refine calls_at (args := [pb b]) (fn := Tryz.f31) (c := codeLe) (n := 13) (by kernel_rfl) (by kernel_rfl) (by kernel_rfl) (by kernel_rfl) ?_
 refine at_run 60 [.code codeLe] w.heap.size [] [] tLe0 [(0, pb b)] w.heap.size [] (lies_nil w) (by kernel_rfl) fun w1 E1 hL1 hK1 => ?_
 have B1 : Below w.heap.size w w1 := hK1.below (Nat.le_refl _) (fun k hk => by cases hk)
 have hb1 := (B1.block _ (heap_lt hb)).trans hb
 refine at_ghost ((curReg tLe0).getD #[]) ⟨[deckE b A len c k], [(3, 0, 1), (7, 0, 0)], []⟩ [(2, .bool (decide ((k : Int) < (len : Int))))] (by kernel_rfl) (by kernel_rfl) (by kernel_rfl)
  (fun e he => by rw [List.mem_singleton.1 he]; exact good_own hb1) (fun sp hsp => by cases hsp) (fun X => by kernel_rfl) (by kernel_rfl) fun w2 E2 b2 => ?_
 exact at_endT (fn := Tryz.f31) 60 (.bool (decide ((k : Int) < (len : Int)))) (by kernel_rfl) (by kernel_rfl) fun w3 B3 => ⟨rfl, B1.trans ((b2.trans (B3.mono b2.size)).mono B1.size)⟩
noncomputable def codeBg : Code := Tryz.f30.body.getD .skip
noncomputable def tBg0 : List Item := advT 60 [.code codeBg]
noncomputable def tBg1 : List Item := advT 60 (popOp tBg0)
noncomputable def tBg2 : List Item := advT 60 (popOp (popOp (popOp tBg1)))
noncomputable def tBg3 : List Item := advT 60 (popOp tBg2)
noncomputable def tBl0 : List Item := advT 60 (bodyT tBg3)
noncomputable def tBl1 : List Item := advT 60 (popOp tBl0)
noncomputable def tBl2 : List Item := advT 60 (thenT tBl1)
noncomputable def tBl3 : List Item := advT 60 (popOp tBl2)
noncomputable def tBl4 : List Item := advT 60 (popOp tBl3)
noncomputable def tBl5 : List Item := advT 60 (popOp tBl4)
noncomputable def tBl6 : List Item := advT 60 (popOp tBl5)
noncomputable def tBl7 : List Item := advT 60 (popOp tBl6)
def RowPost (b : Nat) (ns : List Int) (lim m : Nat) (w0 : World) (e : Ending) (w : World) : Prop := ∃ v l, 1 ≤ l.length ∧ l.length ≤ m ∧ e = .returned v ∧ RowC b ns lim w0 v l w
theorem one_cmd (c : Cmd) : c.cells = [c].flatMap Cmd.cells := by simp
theorem dbegin_any (b : Nat) (ns : List Int) (lim : Nat) (w : World) (h : DeckOk b ns lim w) (hlim : lim ≤ 4611686018427360000) :
  Calls Tryz.prog 30 #[pb b] w (RowPost b ns (lim + 20) 5 w) := by
 have hlt := h.lt
 refine calls_at (args := [pb b]) (fn := Tryz.f30) (c := codeBg) (n := 39) (by kernel_rfl) (by kernel_rfl) (by kernel_rfl) (by kernel_rfl) ?_
 refine at_run 60 [.code codeBg] w.heap.size [] [] tBg0 [(0, pb b)] w.heap.size [] (lies_nil w) (by kernel_rfl) fun w1 E1 hL1 hK1 => ?_
 have D1 := (DK.refl h).below (hK1.below (Nat.le_refl _) (fun k hk => by cases hk))
 refine at_call 58 [] (some 5) [] (by kernel_rfl) (by kernel_rfl) (by kernel_rfl) ((dtexts_any w1).mono fun e w2 hh => ?_)
 obtain ⟨rfl, hr2, hl2, b2⟩ := hh
 refine ⟨_, rfl, ?_⟩
 have D2 := D1.below b2
 have hgb : b ≠ w1.heap.size := by have := D1.lt; omega
 generalize w1.heap.size = g1 at *
 refine at_run 60 (popOp tBg0) w2.heap.size [] [] tBg1 [(0, pb b), (5, .slice (some ⟨g1, 0, none⟩) 4 4), (6, pb b)] w2.heap.size [] (lies_nil w2) (by kernel_rfl) fun w3 E3 hL3 hK3 => ?_
 have b3 : Below w2.heap.size w2 w3 := hK3.below (Nat.le_refl _) (fun k hk => by cases hk)
 have D3 := D2.below b3
 refine next_at (n := 4) (dst := some 7) (ops := [.tmp 6, .const (.int .i64 4)]) D3.deck (by omega) (by omega) (by omega) (by kernel_rfl) (by kernel_rfl) fun k w4 hk d4 => ?_
 have D4 := D3.next d4
 have hkl : k < textsL.length := hk
 have hr4 : w4.rangeAt g1 0 (strsM textsL) := fun j v hj => (World.cell?_of_block ((d4.but.block g1 (Nat.lt_of_lt_of_le hl2 b3.size) (fun e => hgb e.symm)).trans (b3.block g1 hl2))).trans (hr2 j v hj)
 have hx := List.getElem_mem hkl
 have hc : (strsM textsL)[k]? = some (.string ⟨⟨textsL[k]⟩⟩) := by simp [hkl]
 generalize textsL[k] = t at hx hc
 refine at_elem (g := g1) (off := 0) (cap := 4) (sz := 1) (k := k) (len := 4) (some 8) (by kernel_rfl) hk Tryz.underlying53 (by kernel_rfl) ?_
 have hcell : w4.cell? ⟨g1, 0 + k * 1, none⟩ = some (.string ⟨⟨t⟩⟩) := by have := hr4 k _ hc; simpa using this
 refine at_load1 9 g1 (0 + k * 1) (.string ⟨⟨t⟩⟩) (some 9) (by kernel_rfl) (by kernel_rfl) hcell ?_
 refine at_run 60 (popOp (popOp (popOp tBg1))) w4.heap.size [] [] tBg2 [(0, pb b), (10, .agg ⟨(fc 0 5 0 [] 0 0 0 t).fact⟩)] w4.heap.size [] (lies_nil w4) (by kernel_rfl) fun w5 E5 hL5 hK5 => ?_
 have D5 := D4.below (hK5.below (Nat.le_refl _) (fun k hk => by cases hk))
 have hG := gen5 0 t ⟨by decide, by decide⟩ hx
 refine at_call 57 [.tmp 10] (some 11) [.agg ⟨(fc 0 5 0 [] 0 0 0 t).fact⟩] (by kernel_rfl) (by kernel_rfl) (by kernel_rfl) ((dlearn_any _ hG.learn hG.kind w5).mono fun e w6 hh => ?_)
 obtain ⟨rfl, b6⟩ := hh
 refine ⟨_, rfl, ?_⟩
 have D6 := D5.below b6
 generalize fc 0 5 0 [] 0 0 0 t = c at hG
 refine at_run 60 (popOp tBg2) w6.heap.size [] [] tBg3 [(0, pb b), (3, .slice (some ⟨w6.heap.size, 0, none⟩) 1 1), (4, .int .i64 1)] (w6.heap.size + 1) [⟨w6.heap.size, 0, c.cells, 64, true⟩] (lies_nil w6) (by kernel_rfl) fun w7 E7 hL7 hK7 => ?_
 have g7 := own_good (hL7.sat.good _ (List.mem_singleton.2 rfl))
 have S7 : RowC b ns (lim + 1) w (.slice (some ⟨w6.heap.size, 0, none⟩) 1 1) [c] w7 := ⟨D6.below (hK7.below (Nat.le_refl _) (fun k hk => by cases hk)), by rw [← one_cmd]; exact own_of_block g7 D6.but.size rfl (by omega), fun x hx => by rw [List.mem_singleton.1 hx]; exact hG.gen, hlt⟩
 generalize Value.slice (some ⟨w6.heap.size, 0, none⟩) 1 1 = v7 at S7
 refine at_loop (by kernel_rfl) (fun E wx => ∃ (e : Nat) (v : Value) (l : List Cmd) (E0 : Nat → Value), 1 ≤ e ∧ e ≤ 3 ∧ E = updL E0 [(0, pb b), (3, v), (4, .int .i64 (e : Int))] ∧ 1 ≤ l.length ∧ l.length ≤ 2 * e - 1 ∧ RowC b ns (lim + 5 * e) w v l wx)
  (fun E _ => 3 - idxOf (E 4)) ⟨1, v7, [c], E7, by omega, by omega, rfl, by simp, by simp, S7.more (by omega)⟩ ?_
 rintro E wx ⟨e, v, l, E0, he1, he3, rfl, hl1, hl5, S⟩ hagain
 refine at_run 60 (bodyT tBg3) wx.heap.size [] [] tBl0 [(0, pb b), (3, v), (4, .int .i64 (e : Int)), (13, .int .i64 (e : Int)), (14, pb b)] wx.heap.size [] (lies_nil wx) (by kernel_rfl) fun w8 E8 hL8 hK8 => ?_
 have S8 := S.below (hK8.below (Nat.le_refl _) (fun k hk => by cases hk))
 refine next_at (n := 2) (dst := some 15) (ops := [.tmp 14, .const (.int .i64 2)]) S8.dk.deck (by omega) (by omega) (by omega) (by kernel_rfl) (by kernel_rfl) fun k w9 hk d9 => ?_
 have S9 := S8.call d9
 refine at_run 60 (popOp tBl0) w9.heap.size [] [] tBl1 [(0, pb b), (3, v), (4, .int .i64 (e : Int)), (17, .bool (decide ((e : Int) ≤ IntKind.i64.wrap (1 + (k : Int)))))] w9.heap.size [] (lies_nil w9) (by kernel_rfl) fun w10 E10 hL10 hK10 => ?_
 have S10 := S9.below (hK10.below (Nat.le_refl _) (fun k hk => by cases hk))
 have hwk : IntKind.i64.wrap (1 + (k : Int)) = 1 + (k : Int) := IntWalk.i64_in _ (by omega)
 rw [hwk]
 refine at_cond (decide ((e : Int) ≤ 1 + (k : Int))) (by kernel_rfl) (fun ht => ?_) (fun hf => ?_)
 ·have he2 : e ≤ 2 := by have := of_decide_eq_true ht; omega
  have hme : mid (e : Int) := ⟨by omega, by omega⟩
  refine at_run 60 (thenT tBl1) w10.heap.size [] [] tBl2 [(0, pb b), (4, .int .i64 (e : Int)), (20, v), (21, .int .i64 (e : Int)), (22, pb b), (23, .slice (some ⟨w10.heap.size, 0, none⟩) 4 4)] (w10.heap.size + 1) [⟨w10.heap.size, 0, intsM [0, 0, 31, 45], 3, true⟩] (lies_nil w10) (by kernel_rfl) fun w11 E11 hL11 hK11 => ?_
  have S11 := S10.below (hK11.below (Nat.le_refl _) (fun k hk => by cases hk))
  have g11 := own_good (hL11.sat.good _ (List.mem_singleton.2 rfl))
  have hb11 := S10.dk.lt
  refine pick_at (cap := 4) (xs := [0, 0, 31, 45]) (dst := some 24) (ops := [.tmp 22, .tmp 23]) S11.dk.deck g11 (by omega) (by simp) (by simp) (by omega) (by kernel_rfl) (by kernel_rfl) fun x w12 hx12 d12 => ?_
  have S12 := S11.call d12
  have hmx : mid x := by
   simp only [List.mem_cons, List.not_mem_nil, or_false] at hx12
   rcases hx12 with rfl | rfl | rfl | rfl <;> exact ⟨by decide, by decide⟩
  refine at_run 60 (popOp tBl2) w12.heap.size [] [] tBl3 [(0, pb b), (4, .int .i64 (e : Int)), (20, v), (25, .agg ⟨(fc e 1 x [] 0 0 0 []).fact⟩)] w12.heap.size [] (lies_nil w12) (by kernel_rfl) fun w13 E13 hL13 hK13 => ?_
  have S13 := S12.below (hK13.below (Nat.le_refl _) (fun k hk => by cases hk))
  have hG1 := gen1 (e : Int) x hme hmx
  refine at_call 57 [.tmp 25] (some 26) [.agg ⟨(fc e 1 x [] 0 0 0 []).fact⟩] (by kernel_rfl) (by kernel_rfl) (by kernel_rfl) ((dlearn_any _ hG1.learn hG1.kind w13).mono fun e' w14 hh => ?_)
  obtain ⟨rfl, b14⟩ := hh
  refine ⟨_, rfl, ?_⟩
  have S14 := S13.below b14
  generalize fc (e : Int) 1 x [] 0 0 0 [] = c1 at hG1
  refine at_run 60 (popOp tBl3) w14.heap.size [] [] tBl4 [(0, pb b), (4, .int .i64 (e : Int)), (20, v), (27, .slice (some ⟨w14.heap.size, 0, none⟩) 1 1)] (w14.heap.size + 1) [⟨w14.heap.size, 0, c1.cells, 64, true⟩] (lies_nil w14) (by kernel_rfl) fun w15 E15 hL15 hK15 => ?_
  have S15 := S14.below (hK15.below (Nat.le_refl _) (fun k hk => by cases hk))
  have g15 := own_good (hL15.sat.good _ (List.mem_singleton.2 rfl))
  refine push_cmd S15 hG1.gen (by omega) g15 (.tmp 20) (.tmp 27) (opAt tBl4) (by kernel_rfl) (by kernel_rfl) (by kernel_rfl) (by kernel_rfl) fun v1 w16 S16 => ?_
  rw [show (opAt tBl4).dst = some 28 by kernel_rfl]
  refine at_run 60 (popOp tBl4) w16.heap.size [] [] tBl5 [(0, pb b), (4, .int .i64 (e : Int)), (29, v1), (30, .int .i64 (e : Int)), (31, pb b), (32, .slice (some ⟨w16.heap.size, 0, none⟩) 3 3)] (w16.heap.size + 1) [⟨w16.heap.size, 0, intsM [3000000, 1800000, 4500000], 3, true⟩] (lies_nil w16) (by kernel_rfl) fun w17 E17 hL17 hK17 => ?_
  have S17 := S16.below (hK17.below (Nat.le_refl _) (fun k hk => by cases hk))
  have g17 := own_good (hL17.sat.good _ (List.mem_singleton.2 rfl))
  have hb17 := S16.dk.lt
  refine pick_at (cap := 3) (xs := [3000000, 1800000, 4500000]) (dst := some 33) (ops := [.tmp 31, .tmp 32]) S17.dk.deck g17 (by omega) (by simp) (by simp) (by omega) (by kernel_rfl) (by kernel_rfl) fun y w18 hy18 d18 => ?_
  have S18 := S17.call d18
  have hmy : mid y := by
   simp only [List.mem_cons, List.not_mem_nil, or_false] at hy18
   rcases hy18 with rfl | rfl | rfl <;> exact ⟨by decide, by decide⟩
  refine at_run 60 (popOp tBl5) w18.heap.size [] [] tBl6 [(0, pb b), (4, .int .i64 (e : Int)), (29, v1), (34, .agg ⟨(fc e 3 0 [114, 97, 116, 101] y 0 0 []).fact⟩)] w18.heap.size [] (lies_nil w18) (by kernel_rfl) fun w19 E19 hL19 hK19 => ?_
  have S19 := S18.below (hK19.below (Nat.le_refl _) (fun k hk => by cases hk))
  have hG2 := gen3rate (e : Int) 0 y hme ⟨by decide, by decide⟩ hmy
  refine at_call 57 [.tmp 34] (some 35) [.agg ⟨(fc e 3 0 [114, 97, 116, 101] y 0 0 []).fact⟩] (by kernel_rfl) (by kernel_rfl) (by kernel_rfl) ((dlearn_any _ hG2.learn hG2.kind w19).mono fun e' w20 hh => ?_)
  obtain ⟨rfl, b20⟩ := hh
  refine ⟨_, rfl, ?_⟩
  have S20 := S19.below b20
  generalize fc (e : Int) 3 0 [114, 97, 116, 101] y 0 0 [] = c2 at hG2
  refine at_run 60 (popOp tBl6) w20.heap.size [] [] tBl7 [(0, pb b), (4, .int .i64 (e : Int)), (29, v1), (36, .slice (some ⟨w20.heap.size, 0, none⟩) 1 1)] (w20.heap.size + 1) [⟨w20.heap.size, 0, c2.cells, 64, true⟩] (lies_nil w20) (by kernel_rfl) fun w21 E21 hL21 hK21 => ?_
  have S21 := S20.below (hK21.below (Nat.le_refl _) (fun k hk => by cases hk))
  have g21 := own_good (hL21.sat.good _ (List.mem_singleton.2 rfl))
  refine push_cmd S21 hG2.gen (by simp; omega) g21 (.tmp 29) (.tmp 36) (opAt tBl7) (by kernel_rfl) (by kernel_rfl) (by kernel_rfl) (by kernel_rfl) fun v2 w22 S22 => ?_
  rw [show (opAt tBl7).dst = some 37 by kernel_rfl]
  have hwe : IntKind.i64.wrap ((e : Int) + 1) = ((e + 1 : Nat) : Int) := by rw [IntWalk.i64_in _ (by omega)]; omega
  refine at_run 60 (popOp tBl7) w22.heap.size [] [] (againT tBg3) [(0, pb b), (3, v2), (4, .int .i64 (IntKind.i64.wrap ((e : Int) + 1)))] w22.heap.size [] (lies_nil w22) (by kernel_rfl) fun w23 E23 hL23 hK23 => ?_
  rw [hwe]
  have S23 := S22.below (hK23.below (Nat.le_refl _) (fun k hk => by cases hk))
  refine hagain _ _ ⟨e + 1, v2, l ++ [c1] ++ [c2], E23, by omega, by omega, rfl, by simp, by simp; omega, S23.more (by omega)⟩ ?_
  show 3 - idxOf (.int .i64 ((e + 1 : Nat) : Int)) < 3 - idxOf (.int .i64 (e : Int))
  simp only [idxOf]
  omega
 ·have he2 : l.length ≤ 5 := by omega
  exact at_endT (fn := Tryz.f30) 60 v (by kernel_rfl) (by kernel_rfl) fun w11 B11 => ⟨v, l, hl1, he2, rfl, (S10.below B11).more (by omega)⟩
noncomputable def codeCs : Code := Tryz.f15.body.getD .skip
noncomputable def tCs0 : List Item := advT 60 [.code codeCs]
noncomputable def tCs1 : List Item := advT 60 (popOp tCs0)
noncomputable def tCs2 : List Item := advG (bodyT tCs1)
noncomputable def tCs3 : List Item := advT 60 (tailT tCs2)
noncomputable def tCs4 : List Item := advT 60 (thenT tCs3)
noncomputable def tCs5 : List Item := advT 60 (popOp tCs4)
noncomputable def tCs6 : List Item := advT 60 (thenT tCs5)
noncomputable def tCs7 : List Item := advT 60 (popOp tCs6)
noncomputable def tCs8 : List Item := advT 60 (popOp tCs7)
noncomputable def tCs9 : List Item := advT 60 (popOp tCs8)
theorem dcommands_any (b : Nat) (ns : List Int) (lim n : Nat) (w : World) (h : DeckOk b ns lim w) (hlim : lim ≤ 4611686018427000000) (hn : n ≤ 10) :
  Calls Tryz.prog 15 #[pb b, .int .i64 n, .bool true] w (RowPost b ns (lim + 20 + 30 * n) (5 + 2 * n) w) := by
 have hlt := h.lt
 refine calls_at (args := [pb b, .int .i64 n, .bool true]) (fn := Tryz.f15) (c := codeCs) (n := 37) (by kernel_rfl) (by kernel_rfl) (by kernel_rfl) (by kernel_rfl) ?_
 refine at_run 60 [.code codeCs] w.heap.size [] [] tCs0 [(0, pb b), (1, .int .i64 n), (2, .bool true), (9, pb b)] w.heap.size [] (lies_nil w) (by kernel_rfl) fun w1 E1 hL1 hK1 => ?_
 have D1 := (DK.refl h).below (hK1.below (Nat.le_refl _) (fun k hk => by cases hk))
 refine at_call 30 [.tmp 9] (some 10) [pb b] (by kernel_rfl) (by kernel_rfl) (by kernel_rfl) ((dbegin_any b ns lim w1 D1.deck (by omega)).mono fun e w2 hh => ?_)
 obtain ⟨v2, l2, hl1, hl5, rfl, S2⟩ := hh
 refine ⟨_, rfl, ?_⟩
 have S2' : RowC b ns (lim + 20) w v2 l2 w2 := ⟨D1.next S2.dk, own_le S2.own D1.but.size, S2.gen, hlt⟩
 refine at_run 60 (popOp tCs0) w2.heap.size [] [] tCs1 [(0, pb b), (1, .int .i64 n), (2, .bool true), (7, v2), (8, .int .i64 0)] w2.heap.size [] (lies_nil w2) (by kernel_rfl) fun w3 E3 hL3 hK3 => ?_
 have S3 := S2'.below (hK3.below (Nat.le_refl _) (fun k hk => by cases hk))
 refine at_loop (by kernel_rfl) (fun E wx => ∃ (i : Nat) (v : Value) (l : List Cmd) (E0 : Nat → Value), i ≤ n ∧ E = updL E0 [(0, pb b), (1, .int .i64 n), (2, .bool true), (7, v), (8, .int .i64 (i : Int))] ∧ 1 ≤ l.length ∧ l.length ≤ 5 + 2 * i ∧ RowC b ns (lim + 20 + 30 * i) w v l wx)
  (fun E _ => n - idxOf (E 8)) ⟨0, v2, l2, E3, by omega, rfl, hl1, by omega, S3⟩ ?_
 rintro E wx ⟨i, v, l, E0, hin, rfl, hl1, hl2, S⟩ hagain
 refine at_run (cntG 90 (bodyT tCs1)) (bodyT tCs1) wx.heap.size [] [] tCs2 [(0, pb b), (1, .int .i64 n), (2, .bool true), (7, v), (8, .int .i64 (i : Int))] wx.heap.size [] (lies_nil wx) (by kernel_rfl) fun w4 E4 hL4 hK4 => ?_
 have S4 := S.below (hK4.below (Nat.le_refl _) (fun k hk => by cases hk))
 obtain ⟨vd, kd, _, hbd, A, cd, rfl, _⟩ := id S4.dk.deck
 refine at_ghost ((curReg tCs2).getD #[]) ⟨[], [], [⟨5, [(15, pb b)], .bool (decide ((kd : Int) < (ns.length : Int))), (decide ((i : Int) < (n : Int)) && true)⟩]⟩ [(0, pb b), (1, .int .i64 n), (2, .bool true), (7, v), (8, .int .i64 (i : Int)), (17, .bool (cond (decide ((i : Int) < (n : Int))) (decide ((kd : Int) < (ns.length : Int))) false))] (by kernel_rfl) (by kernel_rfl) (by kernel_rfl)
  (fun e he => by cases he) (fun sp hsp => ?_) (fun X => by kernel_rfl) (by kernel_rfl) fun w5 E5 b5 => ?_
 ·rw [List.mem_singleton.1 hsp]
  exact spec_call 31 [.tmp 15] [pb b] (by kernel_rfl) (by kernel_rfl) (fun E => by kernel_rfl) fun hc1 u hu => below_call hu (dleft_k b A ns.length cd kd u ((hu.block _ (heap_lt hbd)).trans hbd))
 have S5 := S4.below b5
 generalize hgo : cond (decide ((i : Int) < (n : Int))) (decide ((kd : Int) < (ns.length : Int))) false = go
 refine at_run 60 (tailT tCs2) w5.heap.size [] [] tCs3 [(0, pb b), (1, .int .i64 n), (2, .bool true), (7, v), (8, .int .i64 (i : Int)), (17, .bool go)] w5.heap.size [] (lies_nil w5) (by kernel_rfl) fun w6 E6 hL6 hK6 => ?_
 have S6 := S5.below (hK6.below (Nat.le_refl _) (fun k hk => by cases hk))
 refine at_cond go (by kernel_rfl) (fun ht => ?_) (fun hf => ?_)
 ·have hlt2 : i < n := by
   rw [ht] at hgo
   cases hd : decide ((i : Int) < (n : Int)) with
   | false => rw [hd] at hgo; cases hgo
   | true => have := of_decide_eq_true hd; omega
  refine at_run 60 (thenT tCs3) w6.heap.size [] [] tCs4 [(0, pb b), (1, .int .i64 n), (2, .bool true), (7, v), (8, .int .i64 (i : Int)), (21, .bool true), (22, pb b)] w6.heap.size [] (lies_nil w6) (by kernel_rfl) fun w7 E7 hL7 hK7 => ?_
  have S7 := S6.below (hK7.below (Nat.le_refl _) (fun k hk => by cases hk))
  refine next_at (n := 5) (dst := some 23) (ops := [.tmp 22, .const (.int .i64 5)]) S7.dk.deck (by omega) (by omega) (by omega) (by kernel_rfl) (by kernel_rfl) fun k w8 hk d8 => ?_
  have S8 := S7.call d8
  have rest : ∀ (v1 : Value) (l1 : List Cmd) (wy : World) (Ey : Nat → Value), l1.length ≤ l.length + 1 → 1 ≤ l1.length → RowC b ns (lim + 20 + 30 * i + 4) w v1 l1 wy → At Tryz.prog 15 (RowPost b ns (lim + 20 + 30 * n) (5 + 2 * n) w) tCs8 (Fr 37 (updL Ey [(0, pb b), (1, .int .i64 n), (2, .bool true), (8, .int .i64 (i : Int)), (31, v1), (32, pb b)])) wy := by
   intro v1 l1 wy Ey hl1' hl1'' Sy
   refine at_call 34 [.tmp 32] (some 33) [pb b] (by kernel_rfl) (by kernel_rfl) (by kernel_rfl) ((dcommand_any b ns _ wy Sy.dk.deck (by omega)).mono fun e w10 hh => ?_)
   obtain ⟨c, hG, rfl, d10⟩ := hh
   refine ⟨_, rfl, ?_⟩
   have S10 := Sy.call d10
   refine at_run 60 (popOp tCs8) w10.heap.size [] [] tCs9 [(0, pb b), (1, .int .i64 n), (2, .bool true), (8, .int .i64 (i : Int)), (31, v1), (34, .slice (some ⟨w10.heap.size, 0, none⟩) 1 1)] (w10.heap.size + 1) [⟨w10.heap.size, 0, c.cells, 64, true⟩] (lies_nil w10) (by kernel_rfl) fun w11 E11 hL11 hK11 => ?_
   have S11 := S10.below (hK11.below (Nat.le_refl _) (fun k hk => by cases hk))
   have g11 := own_good (hL11.sat.good _ (List.mem_singleton.2 rfl))
   refine push_cmd S11 hG (by omega) g11 (.tmp 31) (.tmp 34) (opAt tCs9) (by kernel_rfl) (by kernel_rfl) (by kernel_rfl) (by kernel_rfl) fun v3 w12 S12 => ?_
   rw [show (opAt tCs9).dst = some 35 by kernel_rfl]
   have hwe : IntKind.i64.wrap ((i : Int) + 1) = ((i + 1 : Nat) : Int) := by rw [IntWalk.i64_in _ (by omega)]; omega
   refine at_run 60 (popOp tCs9) w12.heap.size [] [] (againT tCs1) [(0, pb b), (1, .int .i64 n), (2, .bool true), (7, v3), (8, .int .i64 (IntKind.i64.wrap ((i : Int) + 1)))] w12.heap.size [] (lies_nil w12) (by kernel_rfl) fun w13 E13 hL13 hK13 => ?_
   rw [hwe]
   have S13 := S12.below (hK13.below (Nat.le_refl _) (fun k hk => by cases hk))
   refine hagain _ _ ⟨i + 1, v3, l1 ++ [c], E13, by omega, rfl, by simp, by simp; omega, S13.more (by omega)⟩ ?_
   show n - idxOf (.int .i64 ((i + 1 : Nat) : Int)) < n - idxOf (.int .i64 (i : Int))
   simp only [idxOf]
   omega
  refine at_run 60 (popOp tCs4) w8.heap.size [] [] tCs5 [(0, pb b), (1, .int .i64 n), (2, .bool true), (7, v), (8, .int .i64 (i : Int)), (25, .bool ((k : Int) == 0))] w8.heap.size [] (lies_nil w8) (by kernel_rfl) fun w9 E9 hL9 hK9 => ?_
  have S9 := S8.below (hK9.below (Nat.le_refl _) (fun k hk => by cases hk))
  refine at_cond ((k : Int) == 0) (by kernel_rfl) (fun _ => ?_) (fun _ => ?_)
  ·refine at_run 60 (thenT tCs5) w9.heap.size [] [] tCs6 [(0, pb b), (1, .int .i64 n), (2, .bool true), (8, .int .i64 (i : Int)), (26, v), (27, pb b)] w9.heap.size [] (lies_nil w9) (by kernel_rfl) fun w10 E10 hL10 hK10 => ?_
   have S10 := S9.below (hK10.below (Nat.le_refl _) (fun k hk => by cases hk))
   refine at_call 33 [.tmp 27] (some 28) [pb b] (by kernel_rfl) (by kernel_rfl) (by kernel_rfl) ((dcrash_any b ns _ w10 S10.dk.deck (by omega)).mono fun e w11 hh => ?_)
   obtain ⟨c, hG, rfl, d11⟩ := hh
   refine ⟨_, rfl, ?_⟩
   have S11 := S10.call d11
   refine at_run 60 (popOp tCs6) w11.heap.size [] [] tCs7 [(0, pb b), (1, .int .i64 n), (2, .bool true), (8, .int .i64 (i : Int)), (26, v), (29, .slice (some ⟨w11.heap.size, 0, none⟩) 1 1)] (w11.heap.size + 1) [⟨w11.heap.size, 0, c.cells, 64, true⟩] (lies_nil w11) (by kernel_rfl) fun w12 E12 hL12 hK12 => ?_
   have S12 := S11.below (hK12.below (Nat.le_refl _) (fun k hk => by cases hk))
   have g12 := own_good (hL12.sat.good _ (List.mem_singleton.2 rfl))
   refine push_cmd S12 hG (by omega) g12 (.tmp 26) (.tmp 29) (opAt tCs7) (by kernel_rfl) (by kernel_rfl) (by kernel_rfl) (by kernel_rfl) fun v3 w13 S13 => ?_
   rw [show (opAt tCs7).dst = some 30 by kernel_rfl]
   refine at_run 60 (popOp tCs7) w13.heap.size [] [] tCs8 [(0, pb b), (1, .int .i64 n), (2, .bool true), (8, .int .i64 (i : Int)), (31, v3), (32, pb b)] w13.heap.size [] (lies_nil w13) (by kernel_rfl) fun w14 E14 hL14 hK14 => ?_
   exact rest v3 (l ++ [c]) w14 E14 (by simp) (by simp) ((S13.below (hK14.below (Nat.le_refl _) (fun k hk => by cases hk))).more (by omega))
  ·refine at_run 60 (elseT tCs5) w9.heap.size [] [] tCs8 [(0, pb b), (1, .int .i64 n), (2, .bool true), (8, .int .i64 (i : Int)), (31, v), (32, pb b)] w9.heap.size [] (lies_nil w9) (by kernel_rfl) fun w14 E14 hL14 hK14 => ?_
   exact rest v l w14 E14 (by omega) hl1 ((S9.below (hK14.below (Nat.le_refl _) (fun k hk => by cases hk))).more (by omega))
 ·exact at_endT (fn := Tryz.f15) 60 v (by kernel_rfl) (by kernel_rfl) fun w11 B11 => ⟨v, l, hl1, by omega, rfl, (S6.below B11).more (by omega)⟩
end Go.Proofs.YtdcbnkimjhefkaaGreatDoor

namespace Go.Proofs.YtdcbnkimjhefkaaGreatDoor
theorem agree_line {c : Cmd} {F : Form} {fs : List UInt8} (hf : formOf c = some F) (h5 : F.fact ≠ 5) (h : c.kind = 1) {k : Int} (hk : c.fk = k) (hk5 : k ≠ 5) (hw : wordP k = (F.word, fs)) (e1 : okL c F.letters = okR c fs) (e2 : itemsP c F.letters = itemsR c fs)
  (e3 : decide (restP c F.letters = Cmd.of F) = (decide ((copyR c fs).factOnly = c.factOnly) && decide (learnC c = c))) (hne : F.word ≠ [] := by decide) : SameC c := by
 have q0 : (F.fact != 5) = true := by simpa using h5
 have ho : okC c = (okR c fs && (decide ((copyR c fs).factOnly = c.factOnly) && decide (learnC c = c))) := by
  simp only [okC, hf, okF, leftP, if_neg h5, e1, q0, e3]
  simp
 have ht : textC c = F.word ++ itemsR c fs ++ [10] := by simp [textC, hf, linesP, h5, e2]
 have hr : commandR c = ((factL c).1, (factL c).2 && decide (learnC c = c)) := by
  have n5 : c.fk ≠ 5 := by rw [hk]; exact hk5
  simp [commandR, plainR, h, factR, n5]
 unfold SameC
 rw [ho, ht, hr]
 unfold factL
 rw [hk, hw]
 simp only
 rw [if_neg hne]
 cases hq : okR c fs with
 | false => simp
 | true => simp
theorem agree_fact1 (c : Cmd) (h : c.kind = 1) (hk : c.fk = 1) : SameC c := by
 have hf : formOf c = some ⟨[104, 105, 114, 101], 1, 1, [69, 68]⟩ := by simp [formOf, forms, formIs, h, hk]
 have e1 : okL c [69, 68] = okR c [101, 100] := by simp [okL, okR, upL, upLetter]
 have e2 : itemsP c [69, 68] = itemsR c [101, 100] := by simp [itemsP, itemsR, upL, upLetter]
 have e3 : decide (restP c [69, 68] = Cmd.of ⟨[104, 105, 114, 101], 1, 1, [69, 68]⟩) = (decide ((copyR c [101, 100]).factOnly = c.factOnly) && decide (learnC c = c)) := by
  rw [← Bool.decide_and]
  refine decide_eq_decide.2 ?_
  obtain ⟨a, b, d, f, g, i, j, k, l, m, n, o, p⟩ := c
  simp only at h hk
  subst h hk
  simp [restP, zeroP, zeroN, copyR, copyN, setN, upL, upLetter, numP, Cmd.of, Cmd.factOnly, learnC, eq_comm]
  try (constructor <;> intro h <;> simp_all)
 exact agree_line hf (by decide) h hk (by decide) rfl e1 e2 e3
theorem agree_fact2 (c : Cmd) (h : c.kind = 1) (hk : c.fk = 2) : SameC c := by
 have hf : formOf c = some ⟨[108, 101, 97, 118, 101], 1, 2, [69, 68]⟩ := by simp [formOf, forms, List.find?, formIs, h, hk]
 have e1 : okL c [69, 68] = okR c [101, 100] := by simp [okL, okR, upL, upLetter]
 have e2 : itemsP c [69, 68] = itemsR c [101, 100] := by simp [itemsP, itemsR, upL, upLetter]
 have e3 : decide (restP c [69, 68] = Cmd.of ⟨[108, 101, 97, 118, 101], 1, 2, [69, 68]⟩) = (decide ((copyR c [101, 100]).factOnly = c.factOnly) && decide (learnC c = c)) := by
  rw [← Bool.decide_and]
  refine decide_eq_decide.2 ?_
  obtain ⟨a, b, d, f, g, i, j, k, l, m, n, o, p⟩ := c
  simp only at h hk
  subst h hk
  simp [restP, zeroP, zeroN, copyR, copyN, setN, upL, upLetter, numP, Cmd.of, Cmd.factOnly, learnC, eq_comm]
  try (constructor <;> intro h <;> simp_all)
 exact agree_line hf (by decide) h hk (by decide) rfl e1 e2 e3
theorem agree_fact3 (c : Cmd) (h : c.kind = 1) (hk : c.fk = 3) : SameC c := by
 have hf : formOf c = some ⟨[105, 110, 112, 117, 116], 1, 3, [69, 78, 68, 86]⟩ := by simp [formOf, forms, List.find?, formIs, h, hk]
 have e1 : okL c [69, 78, 68, 86] = okR c [101, 110, 100, 118] := by simp [okL, okR, upL, upLetter]
 have e2 : itemsP c [69, 78, 68, 86] = itemsR c [101, 110, 100, 118] := by simp [itemsP, itemsR, upL, upLetter]
 have e3 : decide (restP c [69, 78, 68, 86] = Cmd.of ⟨[105, 110, 112, 117, 116], 1, 3, [69, 78, 68, 86]⟩) = (decide ((copyR c [101, 110, 100, 118]).factOnly = c.factOnly) && decide (learnC c = c)) := by
  rw [← Bool.decide_and]
  refine decide_eq_decide.2 ?_
  obtain ⟨a, b, d, f, g, i, j, k, l, m, n, o, p⟩ := c
  simp only at h hk
  subst h hk
  simp [restP, zeroP, zeroN, copyR, copyN, setN, upL, upLetter, numP, Cmd.of, Cmd.factOnly, learnC, eq_comm]
  try (constructor <;> intro h <;> simp_all)
 exact agree_line hf (by decide) h hk (by decide) rfl e1 e2 e3
theorem agree_fact4 (c : Cmd) (h : c.kind = 1) (hk : c.fk = 4) : SameC c := by
 have hf : formOf c = some ⟨[104, 111, 117, 114, 115], 1, 4, [69, 78, 68, 86]⟩ := by simp [formOf, forms, List.find?, formIs, h, hk]
 have e1 : okL c [69, 78, 68, 86] = okR c [101, 110, 100, 118] := by simp [okL, okR, upL, upLetter]
 have e2 : itemsP c [69, 78, 68, 86] = itemsR c [101, 110, 100, 118] := by simp [itemsP, itemsR, upL, upLetter]
 have e3 : decide (restP c [69, 78, 68, 86] = Cmd.of ⟨[104, 111, 117, 114, 115], 1, 4, [69, 78, 68, 86]⟩) = (decide ((copyR c [101, 110, 100, 118]).factOnly = c.factOnly) && decide (learnC c = c)) := by
  rw [← Bool.decide_and]
  refine decide_eq_decide.2 ?_
  obtain ⟨a, b, d, f, g, i, j, k, l, m, n, o, p⟩ := c
  simp only at h hk
  subst h hk
  simp [restP, zeroP, zeroN, copyR, copyN, setN, upL, upLetter, numP, Cmd.of, Cmd.factOnly, learnC, eq_comm]
  try (constructor <;> intro h <;> simp_all)
 exact agree_line hf (by decide) h hk (by decide) rfl e1 e2 e3
theorem agree_fact6 (c : Cmd) (h : c.kind = 1) (hk : c.fk = 6) : SameC c := by
 have hf : formOf c = some ⟨[114, 117, 108, 101, 115], 1, 6, [68, 86]⟩ := by simp [formOf, forms, List.find?, formIs, h, hk]
 have e1 : okL c [68, 86] = okR c [100, 118] := by simp [okL, okR, upL, upLetter]
 have e2 : itemsP c [68, 86] = itemsR c [100, 118] := by simp [itemsP, itemsR, upL, upLetter]
 have e3 : decide (restP c [68, 86] = Cmd.of ⟨[114, 117, 108, 101, 115], 1, 6, [68, 86]⟩) = (decide ((copyR c [100, 118]).factOnly = c.factOnly) && decide (learnC c = c)) := by
  rw [← Bool.decide_and]
  refine decide_eq_decide.2 ?_
  obtain ⟨a, b, d, f, g, i, j, k, l, m, n, o, p⟩ := c
  simp only at h hk
  subst h hk
  simp [restP, zeroP, zeroN, copyR, copyN, setN, upL, upLetter, numP, Cmd.of, Cmd.factOnly, learnC, eq_comm]
  try (constructor <;> intro h <;> simp_all)
 exact agree_line hf (by decide) h hk (by decide) rfl e1 e2 e3
theorem agree_fact7 (c : Cmd) (h : c.kind = 1) (hk : c.fk = 7) : SameC c := by
 have hf : formOf c = some ⟨[100, 101, 112, 101, 110, 100, 101, 110, 116, 115], 1, 7, [69, 68, 86]⟩ := by simp [formOf, forms, List.find?, formIs, h, hk]
 have e1 : okL c [69, 68, 86] = okR c [101, 100, 118] := by simp [okL, okR, upL, upLetter]
 have e2 : itemsP c [69, 68, 86] = itemsR c [101, 100, 118] := by simp [itemsP, itemsR, upL, upLetter]
 have e3 : decide (restP c [69, 68, 86] = Cmd.of ⟨[100, 101, 112, 101, 110, 100, 101, 110, 116, 115], 1, 7, [69, 68, 86]⟩) = (decide ((copyR c [101, 100, 118]).factOnly = c.factOnly) && decide (learnC c = c)) := by
  rw [← Bool.decide_and]
  refine decide_eq_decide.2 ?_
  obtain ⟨a, b, d, f, g, i, j, k, l, m, n, o, p⟩ := c
  simp only at h hk
  subst h hk
  simp [restP, zeroP, zeroN, copyR, copyN, setN, upL, upLetter, numP, Cmd.of, Cmd.factOnly, learnC, eq_comm]
  try (constructor <;> intro h <;> simp_all)
 exact agree_line hf (by decide) h hk (by decide) rfl e1 e2 e3
theorem agree_fact8 (c : Cmd) (h : c.kind = 1) (hk : c.fk = 8) : SameC c := by
 have hf : formOf c = some ⟨[111, 114, 100, 101, 114], 1, 8, [69, 78, 68, 86, 88, 82]⟩ := by simp [formOf, forms, List.find?, formIs, h, hk]
 have e1 : okL c [69, 78, 68, 86, 88, 82] = okR c [101, 110, 100, 118, 120, 114] := by simp [okL, okR, upL, upLetter]
 have e2 : itemsP c [69, 78, 68, 86, 88, 82] = itemsR c [101, 110, 100, 118, 120, 114] := by simp [itemsP, itemsR, upL, upLetter]
 have e3 : decide (restP c [69, 78, 68, 86, 88, 82] = Cmd.of ⟨[111, 114, 100, 101, 114], 1, 8, [69, 78, 68, 86, 88, 82]⟩) = (decide ((copyR c [101, 110, 100, 118, 120, 114]).factOnly = c.factOnly) && decide (learnC c = c)) := by
  rw [← Bool.decide_and]
  refine decide_eq_decide.2 ?_
  obtain ⟨a, b, d, f, g, i, j, k, l, m, n, o, p⟩ := c
  simp only at h hk
  subst h hk
  simp [restP, zeroP, zeroN, copyR, copyN, setN, upL, upLetter, numP, Cmd.of, Cmd.factOnly, learnC, eq_comm]
  try (constructor <;> intro h <;> simp_all)
 exact agree_line hf (by decide) h hk (by decide) rfl e1 e2 e3
theorem agree_fact9 (c : Cmd) (h : c.kind = 1) (hk : c.fk = 9) : SameC c := by
 have hf : formOf c = some ⟨[100, 101, 100, 117, 99, 116, 105, 111, 110], 1, 9, [69, 78, 68, 86, 88, 82]⟩ := by simp [formOf, forms, List.find?, formIs, h, hk]
 have e1 : okL c [69, 78, 68, 86, 88, 82] = okR c [101, 110, 100, 118, 120, 114] := by simp [okL, okR, upL, upLetter]
 have e2 : itemsP c [69, 78, 68, 86, 88, 82] = itemsR c [101, 110, 100, 118, 120, 114] := by simp [itemsP, itemsR, upL, upLetter]
 have e3 : decide (restP c [69, 78, 68, 86, 88, 82] = Cmd.of ⟨[100, 101, 100, 117, 99, 116, 105, 111, 110], 1, 9, [69, 78, 68, 86, 88, 82]⟩) = (decide ((copyR c [101, 110, 100, 118, 120, 114]).factOnly = c.factOnly) && decide (learnC c = c)) := by
  rw [← Bool.decide_and]
  refine decide_eq_decide.2 ?_
  obtain ⟨a, b, d, f, g, i, j, k, l, m, n, o, p⟩ := c
  simp only at h hk
  subst h hk
  simp [restP, zeroP, zeroN, copyR, copyN, setN, upL, upLetter, numP, Cmd.of, Cmd.factOnly, learnC, eq_comm]
  try (constructor <;> intro h <;> simp_all)
 exact agree_line hf (by decide) h hk (by decide) rfl e1 e2 e3
theorem agree_kind (c : Cmd) (h1 : c.kind ≠ 1) (h2 : c.kind ≠ 2) (h3 : c.kind ≠ 3) (h4 : c.kind ≠ 4) (h5 : c.kind ≠ 5) (h6 : c.kind ≠ 6) : SameC c := by
 have q1 : ((1 : Int) == c.kind) = false := by simpa using fun e => h1 e.symm
 have q2 : ((2 : Int) == c.kind) = false := by simpa using fun e => h2 e.symm
 have q3 : ((3 : Int) == c.kind) = false := by simpa using fun e => h3 e.symm
 have q4 : ((4 : Int) == c.kind) = false := by simpa using fun e => h4 e.symm
 have q5 : ((5 : Int) == c.kind) = false := by simpa using fun e => h5 e.symm
 have q6 : ((6 : Int) == c.kind) = false := by simpa using fun e => h6 e.symm
 exact agree_none c (by simp [formOf, forms, List.find?, formIs, q1, q2, q3, q4, q5, q6]) (by simp [commandR, plainR, h1, h2, h3, h4, h5, h6])
theorem agree_fact (c : Cmd) (h : c.kind = 1) (k1 : c.fk ≠ 1) (k2 : c.fk ≠ 2) (k3 : c.fk ≠ 3) (k4 : c.fk ≠ 4) (k5 : c.fk ≠ 5) (k6 : c.fk ≠ 6) (k7 : c.fk ≠ 7) (k8 : c.fk ≠ 8) (k9 : c.fk ≠ 9) : SameC c := by
 have q1 : ((1 : Int) == c.fk) = false := by simpa using fun e => k1 e.symm
 have q2 : ((2 : Int) == c.fk) = false := by simpa using fun e => k2 e.symm
 have q3 : ((3 : Int) == c.fk) = false := by simpa using fun e => k3 e.symm
 have q4 : ((4 : Int) == c.fk) = false := by simpa using fun e => k4 e.symm
 have q5 : ((5 : Int) == c.fk) = false := by simpa using fun e => k5 e.symm
 have q6 : ((6 : Int) == c.fk) = false := by simpa using fun e => k6 e.symm
 have q7 : ((7 : Int) == c.fk) = false := by simpa using fun e => k7 e.symm
 have q8 : ((8 : Int) == c.fk) = false := by simpa using fun e => k8 e.symm
 have q9 : ((9 : Int) == c.fk) = false := by simpa using fun e => k9 e.symm
 exact agree_none c (by simp [formOf, forms, List.find?, formIs, h, q1, q2, q3, q4, q5, q6, q7, q8, q9]) (by simp [commandR, plainR, h, factR, k5, factL, wordP, k1, k2, k3, k4, k6, k7, k8, k9])
theorem agree_all (c : Cmd) (h5 : c.kind = 1 → c.fk ≠ 5) : SameC c := by
 by_cases h1 : c.kind = 1
 ·have k5 := h5 h1
  by_cases k1 : c.fk = 1
  ·exact agree_fact1 c h1 k1
  by_cases k2 : c.fk = 2
  ·exact agree_fact2 c h1 k2
  by_cases k3 : c.fk = 3
  ·exact agree_fact3 c h1 k3
  by_cases k4 : c.fk = 4
  ·exact agree_fact4 c h1 k4
  by_cases k6 : c.fk = 6
  ·exact agree_fact6 c h1 k6
  by_cases k7 : c.fk = 7
  ·exact agree_fact7 c h1 k7
  by_cases k8 : c.fk = 8
  ·exact agree_fact8 c h1 k8
  by_cases k9 : c.fk = 9
  ·exact agree_fact9 c h1 k9
  exact agree_fact c h1 k1 k2 k3 k4 k5 k6 k7 k8 k9
 by_cases hk : c.fk = 0
 ·by_cases h2 : c.kind = 2
  ·exact agree_prepare c h2 hk
  by_cases h3 : c.kind = 3
  ·exact agree_release c h3 hk
  by_cases h4 : c.kind = 4
  ·exact agree_pay c h4 hk
  by_cases h5 : c.kind = 5
  ·exact agree_reverse c h5 hk
  by_cases h6 : c.kind = 6
  ·exact agree_crash c h6 hk
  exact agree_kind c h1 h2 h3 h4 h5 h6
 by_cases h : c.kind = 2 ∨ c.kind = 3 ∨ c.kind = 4 ∨ c.kind = 5 ∨ c.kind = 6
 ·exact fk_other c h hk
 ·exact agree_kind c h1 (fun e => h (.inl e)) (fun e => h (.inr (.inl e))) (fun e => h (.inr (.inr (.inl e)))) (fun e => h (.inr (.inr (.inr (.inl e))))) (fun e => h (.inr (.inr (.inr (.inr e)))))
end Go.Proofs.YtdcbnkimjhefkaaGreatDoor

namespace Go.Proofs.YtdcbnkimjhefkaaGreatDoor
theorem suf_cons (c : UInt8) (r : List UInt8) (h : r ≠ []) : Lib.hasSuffix (c :: r) [10] = Lib.hasSuffix r [10] := by
 unfold Lib.hasSuffix
 rw [Bool.eq_iff_iff, List.isSuffixOf_iff_suffix, List.isSuffixOf_iff_suffix, List.suffix_cons_iff]
 constructor
 ·rintro (h1 | h1)
  ·cases r with
   | nil => exact absurd rfl h
   | cons => simp at h1
  ·exact h1
 ·exact Or.inr
theorem con_cons (c : UInt8) (r p : List UInt8) : Lib.contains (c :: r) p = (p.isPrefixOf (c :: r) || Lib.contains r p) := by
 unfold Lib.contains
 have hg := Lib.index_ge r p
 rw [Lib.index]
 by_cases h : p.isPrefixOf (c :: r) = true
 ·simp [h]
 ·rw [if_neg h]
  simp only [Bool.not_eq_true] at h
  rw [h, Bool.false_or]
  by_cases h1 : Lib.index r p = -1
  ·simp [h1]
  ·have : ¬ ((Lib.index r p == -1) = true) := by simpa using h1
   rw [if_neg this]
   have h2 : 0 ≤ Lib.index r p := by omega
   have h3 : 0 ≤ Lib.index r p + 1 := by omega
   simp [h2, h3]
theorem split_none : ∀ r : List UInt8, (splitL 10 r).1 = [] → (splitL 10 r).2 = r
 | [], _ => rfl
 | c :: r, h => by
  by_cases hc : c = 10
  ·simp [splitL, hc] at h
  ·simp only [splitL, hc, if_false] at h ⊢
   cases h1 : (splitL 10 r).1 with
   | nil => simp [split_none r h1]
   | cons => simp [h1] at h
theorem head_end : ∀ s : List UInt8, Lib.hasPrefix s (endW ++ [10]) = decide ((splitL 10 s).1.head? = some endW) := by
 have key : ∀ (p s : List UInt8), (∀ x ∈ p, x ≠ 10) → (p ++ [10]).isPrefixOf s = decide ((splitL 10 s).1.head? = some p) := by
  intro p
  induction p with
  | nil =>
   intro s _
   cases s with
   | nil => rfl
   | cons c r =>
    by_cases hc : c = 10
    ·simp [splitL, hc]
    ·have hc' : ((10 : UInt8) == c) = false := by simpa using fun e => hc e.symm
     simp only [splitL, hc, if_false, List.nil_append, List.isPrefixOf, hc', Bool.false_and]
     cases h1 : (splitL 10 r).1 <;> simp
  | cons a p ih =>
   intro s hp
   have ha : a ≠ 10 := hp a (by simp)
   have hp' : ∀ x ∈ p, x ≠ 10 := fun x hx => hp x (by simp [hx])
   cases s with
   | nil => rfl
   | cons c r =>
    simp only [List.cons_append, List.isPrefixOf]
    rw [ih r hp']
    by_cases hc : c = 10
    ·subst hc
     have : (a == (10 : UInt8)) = false := by simpa using ha
     simp [splitL, this]
    ·simp only [splitL, hc, if_false]
     by_cases hac : a = c
     ·subst hac
      cases h1 : (splitL 10 r).1 <;> simp
     ·have : (a == c) = false := by simpa using hac
      rw [this]
      have hca : ¬ c = a := fun e => hac e.symm
      cases h1 : (splitL 10 r).1 <;> simp [hca]
 intro s
 exact key endW s (by decide)
theorem con_end (c : UInt8) (r : List UInt8) : Lib.contains (c :: r) (10 :: (endW ++ [10])) = ((decide (c = 10) && Lib.hasPrefix r (endW ++ [10])) || Lib.contains r (10 :: (endW ++ [10]))) := by
 rw [con_cons]
 congr 1
 simp only [List.isPrefixOf, Lib.hasPrefix]
 congr 1
 by_cases h : c = 10
 ·simp [h]
 ·have : ((10 : UInt8) == c) = false := by simpa using fun e => h e.symm
  simp [h, this]
theorem tail_lines : ∀ s : List UInt8, ((s.isEmpty || Lib.hasSuffix s [10]) && !(Lib.contains s (10 :: (endW ++ [10])))) = ((splitL 10 s).2.isEmpty && (splitL 10 s).1.tail.all (fun l => decide (l ≠ endW)))
 | [] => rfl
 | c :: r => by
  have ih := tail_lines r
  have hh := head_end r
  rw [con_end]
  by_cases hc : c = 10
  ·subst hc
   have hs : (((10 : UInt8) :: r).isEmpty || Lib.hasSuffix (10 :: r) [10]) = (r.isEmpty || Lib.hasSuffix r [10]) := by
    cases r with
    | nil => rfl
    | cons a b => rw [suf_cons _ _ (by simp)]; rfl
   rw [hs]
   simp only [splitL, if_true, List.tail_cons, decide_true, Bool.true_and]
   rw [hh]
   cases h1 : (splitL 10 r).1 with
   | nil =>
    rw [h1] at ih
    simp only [List.head?_nil, List.tail_nil, List.all_nil] at ih ⊢
    simpa using ih
   | cons l ls =>
    rw [h1] at ih
    simp only [List.head?_cons, List.tail_cons, List.all_cons] at ih ⊢
    by_cases hl : l = endW
    ·simp [hl]
    ·simp [hl]
     simpa using ih
  ·simp only [splitL, hc, if_false, decide_false, Bool.false_and, Bool.false_or]
   cases r with
   | nil =>
    have h0 : Lib.hasSuffix [c] [10] = false := by
     have : ((10 : UInt8) == c) = false := by simpa using fun e => hc e.symm
     simp only [Lib.hasSuffix]
     rw [Bool.eq_false_iff]
     intro h
     rw [List.isSuffixOf_iff_suffix, List.suffix_cons_iff] at h
     rcases h with h | h
     ·simp at h; exact hc h.symm
     ·simp at h
    simp [splitL, h0]
   | cons a b =>
    rw [suf_cons _ _ (by simp)]
    have h0 : ((a :: b).isEmpty || Lib.hasSuffix (a :: b) [10]) = Lib.hasSuffix (a :: b) [10] := by simp
    rw [h0] at ih
    have h1 : ((c :: a :: b).isEmpty || Lib.hasSuffix (a :: b) [10]) = Lib.hasSuffix (a :: b) [10] := by simp
    rw [h1, ih]
    cases h2 : (splitL 10 (a :: b)).1 with
    | nil =>
     have := split_none _ h2
     rw [this]
     simp
    | cons l ls => simp
theorem linedP_lines (s : List UInt8) : linedP s = ((splitL 10 s).2.isEmpty && (splitL 10 s).1.all (fun l => decide (l ≠ endW))) := by
 have ht := tail_lines s
 have hh := head_end s
 have e1 : ([101, 110, 100, 10] : List UInt8) = endW ++ [10] := rfl
 unfold linedP
 rw [e1, hh]
 cases s with
 | nil => rfl
 | cons c r =>
  have h0 : (c :: r).isEmpty = false := rfl
  rw [h0] at ht ⊢
  simp only [Bool.false_or] at ht ⊢
  generalize Lib.hasSuffix (c :: r) [10] = b1 at *
  generalize Lib.contains (c :: r) (10 :: (endW ++ [10])) = b2 at *
  cases h1 : (splitL 10 (c :: r)).1 with
  | nil =>
   rw [h1] at ht
   simp at ht ⊢
   exact ht
  | cons l ls =>
   rw [h1] at ht
   simp only [List.head?_cons, List.tail_cons, List.all_cons] at ht ⊢
   by_cases hl : l = endW
   ·simp [hl]
   ·simp [hl]
    simpa using ht
end Go.Proofs.YtdcbnkimjhefkaaGreatDoor

namespace Go.Proofs.YtdcbnkimjhefkaaGreatDoor
set_option maxRecDepth 100000
theorem agree_agr (c : Cmd) (h : c.kind = 1) (hk : c.fk = 5) : SameC c := by
 have hf : formOf c = some ⟨[97, 103, 114, 101, 101, 109, 101, 110, 116], 1, 5, [68]⟩ := by simp [formOf, forms, List.find?, formIs, h, hk]
 have e1 : okL c [68] = fitsP c.fr := by simp [okL, okP, numP]
 have e2 : decide (leftP c ⟨[97, 103, 114, 101, 101, 109, 101, 110, 116], 1, 5, [68]⟩ = Cmd.of ⟨[97, 103, 114, 101, 101, 109, 101, 110, 116], 1, 5, [68]⟩) = (decide (c.factOnly = agrC c) && decide (learnC c = c)) := by
  rw [← Bool.decide_and]
  refine decide_eq_decide.2 ?_
  obtain ⟨a, b, d, f, g, i, j, k, l, m, n, o, p⟩ := c
  simp only at h hk
  subst h hk
  simp [leftP, restP, zeroP, zeroN, Cmd.of, Cmd.factOnly, agrC, learnC, eq_comm]
  try (constructor <;> intro h <;> simp_all)
 have ho : okC c = ((fitsP c.fr && ((splitL 10 c.txt).2.isEmpty && (splitL 10 c.txt).1.all (fun l => decide (l ≠ endW)))) && (decide (c.factOnly = agrC c) && decide (learnC c = c))) := by
  simp only [okC, hf, okF, e1, e2, linedP_lines]
  simp
 have ht : textC c = [97, 103, 114, 101, 101, 109, 101, 110, 116, 32] ++ Lib.itoa c.fr ++ [10] ++ c.txt ++ [101, 110, 100, 10] := by simp [textC, hf, linesP, itemsP, itemP, numP]
 have hr : commandR c = ((agrL c).1, (agrL c).2 && decide (learnC c = c)) := by simp [commandR, plainR, h, factR, hk]
 unfold SameC
 rw [ho, ht, hr]
 unfold agrL
 generalize (splitL 10 c.txt).2.isEmpty = b1
 generalize (splitL 10 c.txt).1.all (fun l => decide (l ≠ endW)) = b2
 generalize fitsP c.fr = b3
 generalize decide (c.factOnly = agrC c) = b4
 cases b1 <;> cases b2 <;> cases b3 <;> cases b4 <;> simp
theorem same_all (c : Cmd) : SameC c := by
 by_cases h : c.kind = 1 ∧ c.fk = 5
 ·exact agree_agr c h.1 h.2
 ·exact agree_all c fun h1 h2 => h ⟨h1, h2⟩
theorem fmt_same : ∀ (l : List Cmd) (acc : List UInt8), fmtR commandR acc l = fmtS acc l
 | [], acc => rfl
 | c :: l, acc => by
  obtain ⟨h1, h2⟩ := same_all c
  unfold fmtR fmtS
  rw [h1]
  by_cases ho : okC c = true
  ·rw [h2 ho, List.length_append, fmt_same l]
  ·simp [ho]
theorem factL_len {c : Cmd} (h : c.Wf) : (factL c).1.length ≤ 1000000000000 := by
 unfold factL
 split
 ·simp
 ·split
  ·have h1 := itemsR_len h.ok (wordP c.fk).2
   have h2 : (wordP c.fk).1.length ≤ 10 ∧ (wordP c.fk).2.length ≤ 6 := by
    unfold wordP
    repeat' split
    all_goals exact ⟨by decide, by decide⟩
   simp only [List.length_append, List.length_cons, List.length_nil]
   have h3 := Nat.mul_le_mul_right 4294967296 h2.2
   omega
  ·simp
theorem command_len {c : Cmd} (h : c.Wf) : (commandR c).1.length ≤ 1125899906842624 := by
 have l1 := itoa_len c.fr h.fr.1 h.fr.2
 have l2 := itoa_len c.per h.per.1 h.per.2
 have l3 := itoa_len c.torn h.torn.1 h.torn.2
 have l4 := itoa_len c.stop h.stop.1 h.stop.2
 have h5 := h.txt
 have h6 := factL_len h
 unfold commandR
 split
 ·unfold crashR
  split
  ·rename_i hw
   have ew : Lib.itoa (c.wh : Int) = Lib.decDigits c.wh := by simp [Lib.itoa]
   have l5 := itoa_len (c.wh : Int) (by omega) (by omega)
   rw [ew] at l5
   simp only [List.length_append, List.length_cons, List.length_nil]
   omega
  ·simp
 ·unfold plainR
  split
  ·unfold factR
   split
   ·unfold agrL
    split
    ·simp only [List.length_append, List.length_cons, List.length_nil]
     omega
    ·simp
   ·simp only
    omega
  ·split
   ·simp only [List.length_append, List.length_cons, List.length_nil]
    omega
   ·split
    ·simp
    ·split
     ·simp
     ·split <;> simp
open Go.RowKit in
theorem rformatAll_any (l : List Cmd) (v : Value) (w : World) (hl : ∀ c ∈ l, c.Wf) (hv : CmdsAt w w.heap.size v l) (hn : l.length ≤ 9223372036854775806) :
  Calls Tryz.prog 14 #[v] w fun e w' => e = .returned (fmtV (fmtS [] l)) ∧ Below w.heap.size w w' := by
 rw [← fmt_same l []]
 exact rformat_any commandR (fun c hc => ⟨command_len hc, fun w => rcommand_any c w hc⟩) l v w hl hv hn
end Go.Proofs.YtdcbnkimjhefkaaGreatDoor

namespace Go.Proofs.YtdcbnkimjhefkaaGreatDoor
open Go.RowKit
set_option maxRecDepth 100000
section
variable {P : Program} {f : FuncId} {R : Ending → World → Prop}
end
theorem cell_setCell {w : World} {g i j : Nat} {v : Value} : (w.setCell ⟨g, i, none⟩ v).cell? ⟨g, j, none⟩ = if i = j then (w.cell? ⟨g, j, none⟩).map fun _ => v else w.cell? ⟨g, j, none⟩ := by
 unfold World.setCell World.cell?
 simp only [Array.getElem?_modify]
 simp only [if_true]
 cases h : w.heap[g]? with
 | none => simp
 | some o =>
  cases o with
  | cells C T fr =>
   simp only [Option.map_some]
   by_cases hij : i = j
   ·subst hij
    simp [Array.getElem?_setIfInBounds]
    by_cases hlt : i < C.size
    ·simp [hlt]
    ·simp [hlt]
   ·simp [hij]
  | _ => simp
theorem cmds_set {w : World} {lim g off : Nat} {v : Value} {l : List Cmd} {a : Option Addr} {cap k m : Nat} {c' : Cmd} (hv : v = .slice a l.length cap) (ha : a = some ⟨g, off, none⟩) (hg : g < lim) (hc : ∀ (i : Nat) (h : i < l.length), w.rangeAt g (off + i * 13) (l[i]).cells)
  (hk : k < l.length) (hm : m < 13) {x : Value} (hx : c'.cells = (l[k]).cells.set m x) : CmdsAt (w.setCell ⟨g, off + k * 13 + m, none⟩ x) lim v (l.set k c') := by
 subst hv ha
 refine ⟨_, cap, by rw [List.length_set], fun _ => ⟨g, off, rfl, hg, fun i hi j u hu => ?_⟩⟩
 rw [List.length_set] at hi
 have hl : ∀ c : Cmd, c.cells.length = 13 := fun _ => rfl
 rw [cell_setCell]
 by_cases hik : k = i
 ·subst hik
  rw [List.getElem_set_self, hx] at hu
  have hj : j < 13 := by
   have := (List.getElem?_eq_some_iff.1 hu).1
   rw [List.length_set, hl] at this
   exact this
  by_cases hjm : m = j
  ·subst hjm
   rw [if_pos rfl]
   rw [List.getElem?_set_self (by rw [hl]; exact hm)] at hu
   obtain rfl := Option.some.inj hu
   have := hc k hk m _ (List.getElem?_eq_getElem (by rw [hl]; exact hm))
   rw [this]
   rfl
  ·rw [if_neg (by omega)]
   rw [List.getElem?_set_ne hjm] at hu
   exact hc k hk j u hu
 ·rw [List.getElem_set_ne hik] at hu
  have hj : j < 13 := by
   have := (List.getElem?_eq_some_iff.1 hu).1
   rw [hl] at this
   exact this
  rw [if_neg (by omega)]
  exact hc i hi j u hu
end Go.Proofs.YtdcbnkimjhefkaaGreatDoor

namespace Go.Proofs.YtdcbnkimjhefkaaGreatDoor
set_option maxRecDepth 100000 in
theorem awake_run : (evalK Tryz.prog orcC (drawK Tryz.prog orcC) 60 12 [] H0).map (·.1) = some (.bool true) := by kernel_rfl
end Go.Proofs.YtdcbnkimjhefkaaGreatDoor

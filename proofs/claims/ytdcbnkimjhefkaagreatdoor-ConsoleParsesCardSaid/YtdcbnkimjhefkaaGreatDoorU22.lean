/-
  The reference's command: crash.
-/
import Derived.Test.YtdcbnkimjhefkaaGreatDoorU21
namespace Go.Proofs.YtdcbnkimjhefkaaGreatDoor
open Go.RowKit
set_option maxRecDepth 100000
theorem OpOk.runs {P : Program} {o : Oper} {ρ : Operand → Value} {w : World} {K : Value → World → Prop} {O : List Nat} {B : Nat} (ms ms' : MS) (r : Next) (v : Value) (hm : mrun P (execOp ρ o) ms = some (r, ms')) (hv : r = .value v ∨ (r = .skip ∧ v = undef)) (hL : Lies O B w ms)
    (he : ms'.eqs.map Prod.fst = ms'.eqs.map Prod.snd) (hk : ∀ w', Lies O B w' ms' → Kept O B w w' → K v w') : OpOk P o ρ w K := by
  have he' : ∀ p ∈ ms'.eqs, p.1 = p.2 := fun p hp => by
    obtain ⟨i, hi⟩ := List.mem_iff_getElem?.1 hp
    have h1 : (ms'.eqs.map Prod.fst)[i]? = some p.1 := by rw [List.getElem?_map, hi]; rfl
    have h2 : (ms'.eqs.map Prod.snd)[i]? = some p.2 := by rw [List.getElem?_map, hi]; rfl
    rw [he, h2] at h1
    exact (Option.some.inj h1).symm
  obtain ⟨w', h1, h2, h3, h4⟩ := mrun_sound _ _ _ _ w hm hL.sat hL.le hL.own he'
  have hk' := hk w' ⟨h2, Nat.le_trans hL.le h3.size, h4⟩ h3
  unfold OpOk
  rw [h1]
  rcases hv with rfl | ⟨rfl, rfl⟩
  · exact hk'
  · exact hk'
noncomputable def tCk0 : List Item := advG (thenT tC5)
noncomputable def tCk1 : List Item := advT 60 (tailT tCk0)
noncomputable def tCk2 : List Item := advT 60 (elseT tCk1)
noncomputable def tCk3 : List Item := advT 60 (tailT tCk2)
noncomputable def ops21 : Array Oper := regOf Tryz.f29 21
def stC (b1 b2 b3 : Bool) (c : Cmd) : Cmd := { kindC c with wh := cond b1 c.wh 0, torn := cond b2 c.torn 0, stop := cond b3 c.stop 0 }
def ptO (k o : Nat) : Value := .pointer (some ⟨k, o, none⟩)
def W21 : Wr := [(75, 0), (76, 1), (77, 2), (78, 3), (79, 4), (80, 5), (81, 6), (82, 8), (83, 10)]
def tgC (c : Cmd) (j : Nat) : Value := if j = 0 then .int .u64 c.wh else if j = 1 then .int .i64 c.torn else .int .i64 c.stop
def saysC (c : Cmd) (k4 j : Nat) (w : World) : Prop := w.cell? ⟨k4, 10 + j, none⟩ = some (tgC c j)
def L21 (k1 k4 : Nat) (c : Cmd) : List Loc :=
  [pureL 0 [] (ptO k1 10), pureL 1 [0] (.int .u64 c.wh), pureL 2 [] (ptO k1 11), pureL 3 [2] (.int .i64 c.torn), pureL 4 [] (ptO k1 12), pureL 5 [4] (.int .i64 c.stop),
   pureL 6 [0, 1] (ptO k4 10), ⟨7, [0, 1, 6], [], fun _ w => saysC c k4 0 w⟩, pureL 8 [0, 1, 2, 3, 6, 7] (ptO k4 11), ⟨9, [0, 1, 2, 3, 6, 7, 8], [], fun _ w => saysC c k4 1 w⟩, pureL 10 [0, 1, 2, 3, 4, 5, 6, 7, 8, 9] (ptO k4 12), ⟨11, [0, 1, 2, 3, 4, 5, 6, 7, 8, 9, 10], [], fun _ w => saysC c k4 2 w⟩]
theorem ok21 (k1 k4 : Nat) (c : Cmd) : (locOk .any ops21 W21 (Array.replicate 12 false) 91 (L21 k1 k4 c) && bare ops21 (L21 k1 k4 c)) = true := by kernel_rfl
def Ext21 (c : Cmd) (k4 : Nat) (w w' : World) : Prop := ∀ j, j < 3 → saysC c k4 j w → saysC c k4 j w'
theorem Ext21.refl (c : Cmd) (k4 : Nat) (w : World) : Ext21 c k4 w w := fun _ _ h => h
variable {w0 : World} {k1 k4 : Nat} {c : Cmd} {R : Ending → World → Prop} {E : Nat → Value}
theorem says_cells {x : Cmd} {w : World} {j : Nat} (S : CS w0 k1 k4 c x w) : saysC c k4 j w ↔ x.cells[10 + j]? = some (tgC c j) := by
  unfold saysC
  have : w.cell? ⟨k4, 10 + j, none⟩ = x.cells[10 + j]? := by
    unfold World.cell?
    simp [S.h4]
  rw [this]
def env21 (k1 k4 : Nat) (s : List UInt8) : List (Nat × Value) := [(1, pt k1), (4, pt k4), (5, .string ⟨⟨s⟩⟩), (6, .bool true)]
theorem parts21 (s : List UInt8) : PartsE Tryz.prog ops21 91 (updL E (env21 k1 k4 s)) W21 (fun w => ∃ b1 b2 b3, CS w0 k1 k4 c (stC b1 b2 b3 c) w) (Ext21 c k4) (L21 k1 k4 c) (L21 k1 k4 c) := by
  refine ⟨part_pureE (Ext21.refl c k4) (fun _ _ _ _ => by kernel_rfl), ?_, part_pureE (Ext21.refl c k4) (fun _ _ _ _ => by kernel_rfl), ?_, part_pureE (Ext21.refl c k4) (fun _ _ _ _ => by kernel_rfl), ?_, part_pureE (Ext21.refl c k4) (fun _ _ _ _ => by kernel_rfl), ?_, part_pureE (Ext21.refl c k4) (fun _ _ _ _ => by kernel_rfl), ?_, part_pureE (Ext21.refl c k4) (fun _ _ _ _ => by kernel_rfl), ?_, trivial⟩
  · refine ⟨fun _ _ _ _ _ h => h, fun vals u hC hb => ?_⟩
    obtain ⟨b1, b2, b3, S⟩ := id hC
    obtain ⟨h1, _⟩ := hb
    exact OpOk.knownE [(75, 0, ptO k1 10)] (by kernel_rfl) ⟨(List.cons.inj h1).1, trivial⟩ (OpOk.reads ⟨0, [⟨k1, 0, c.cells, 64, true⟩], (0, 10), []⟩ (fun e he => by rw [List.mem_singleton.1 he]; exact good_own S.h1) (.int .u64 c.wh) (by kernel_rfl) (by kernel_rfl) ⟨hC, .refl _ _ _, rfl⟩)
  · refine ⟨fun _ _ _ _ _ h => h, fun vals u hC hb => ?_⟩
    obtain ⟨b1, b2, b3, S⟩ := id hC
    obtain ⟨h1, _⟩ := hb
    exact OpOk.knownE [(77, 2, ptO k1 11)] (by kernel_rfl) ⟨(List.cons.inj h1).1, trivial⟩ (OpOk.reads ⟨0, [⟨k1, 0, c.cells, 64, true⟩], (0, 11), []⟩ (fun e he => by rw [List.mem_singleton.1 he]; exact good_own S.h1) (.int .i64 c.torn) (by kernel_rfl) (by kernel_rfl) ⟨hC, .refl _ _ _, rfl⟩)
  · refine ⟨fun _ _ _ _ _ h => h, fun vals u hC hb => ?_⟩
    obtain ⟨b1, b2, b3, S⟩ := id hC
    obtain ⟨h1, _⟩ := hb
    exact OpOk.knownE [(79, 4, ptO k1 12)] (by kernel_rfl) ⟨(List.cons.inj h1).1, trivial⟩ (OpOk.reads ⟨0, [⟨k1, 0, c.cells, 64, true⟩], (0, 12), []⟩ (fun e he => by rw [List.mem_singleton.1 he]; exact good_own S.h1) (.int .i64 c.stop) (by kernel_rfl) (by kernel_rfl) ⟨hC, .refl _ _ _, rfl⟩)
  · refine ⟨fun _ u u' _ he h => he 0 (by decide) h, fun vals u hC hb => ?_⟩
    obtain ⟨b1, b2, b3, S⟩ := hC
    obtain ⟨_, ev, ea, _⟩ := hb
    have hne : k1 ≠ k4 := by have := S.l4; omega
    have hl := lies_two S.h1 S.h4 hne
    refine OpOk.knownE [(81, 6, ptO k4 10), (76, 1, .int .u64 c.wh)] (by kernel_rfl) ⟨(List.cons.inj ea).1, (List.cons.inj ev).1, trivial⟩ (OpOk.runs ⟨u.heap.size, [⟨k1, 0, c.cells, 64, true⟩, ⟨k4, 0, (stC b1 b2 b3 c).cells, 64, true⟩], (1, 10), []⟩ ⟨u.heap.size, [⟨k1, 0, c.cells, 64, true⟩, ⟨k4, 0, (stC true b2 b3 c).cells, 64, true⟩], (1, 11), [(k4, k4), (10, 10)]⟩ .skip undef (by kernel_rfl) (.inr ⟨rfl, rfl⟩) ⟨hl.sat, hl.le, hl.own⟩ rfl fun u' hL hK => ?_)
    have S2 : CS w0 k1 k4 c (stC true b2 b3 c) u' := S.ran (z := u.heap.size) ⟨hL.sat, hL.le, hL.own⟩ hK
    refine ⟨⟨true, _, _, S2⟩, fun j hj h => ?_, (says_cells S2).2 rfl⟩
    have hj3 : j = 0 ∨ j = 1 ∨ j = 2 := by omega
    rcases hj3 with rfl | rfl | rfl
    · exact (says_cells S2).2 rfl
    · exact (says_cells S2).2 ((says_cells S).1 h)
    · exact (says_cells S2).2 ((says_cells S).1 h)
  · refine ⟨fun _ u u' _ he h => he 1 (by decide) h, fun vals u hC hb => ?_⟩
    obtain ⟨b1, b2, b3, S⟩ := hC
    obtain ⟨_, _, _, ev, _, _, ea, _⟩ := hb
    have hne : k1 ≠ k4 := by have := S.l4; omega
    have hl := lies_two S.h1 S.h4 hne
    refine OpOk.knownE [(82, 8, ptO k4 11), (78, 3, .int .i64 c.torn)] (by kernel_rfl) ⟨(List.cons.inj ea).1, (List.cons.inj ev).1, trivial⟩ (OpOk.runs ⟨u.heap.size, [⟨k1, 0, c.cells, 64, true⟩, ⟨k4, 0, (stC b1 b2 b3 c).cells, 64, true⟩], (1, 11), []⟩ ⟨u.heap.size, [⟨k1, 0, c.cells, 64, true⟩, ⟨k4, 0, (stC b1 true b3 c).cells, 64, true⟩], (1, 12), [(k4, k4), (11, 11)]⟩ .skip undef (by kernel_rfl) (.inr ⟨rfl, rfl⟩) ⟨hl.sat, hl.le, hl.own⟩ rfl fun u' hL hK => ?_)
    have S2 : CS w0 k1 k4 c (stC b1 true b3 c) u' := S.ran (z := u.heap.size) ⟨hL.sat, hL.le, hL.own⟩ hK
    refine ⟨⟨_, true, _, S2⟩, fun j hj h => ?_, (says_cells S2).2 rfl⟩
    have hj3 : j = 0 ∨ j = 1 ∨ j = 2 := by omega
    rcases hj3 with rfl | rfl | rfl
    · exact (says_cells S2).2 ((says_cells S).1 h)
    · exact (says_cells S2).2 rfl
    · exact (says_cells S2).2 ((says_cells S).1 h)
  · refine ⟨fun _ u u' _ he h => he 2 (by decide) h, fun vals u hC hb => ?_⟩
    obtain ⟨b1, b2, b3, S⟩ := hC
    obtain ⟨_, _, _, _, _, ev, _, _, _, _, ea, _⟩ := hb
    have hne : k1 ≠ k4 := by have := S.l4; omega
    have hl := lies_two S.h1 S.h4 hne
    refine OpOk.knownE [(83, 10, ptO k4 12), (80, 5, .int .i64 c.stop)] (by kernel_rfl) ⟨(List.cons.inj ea).1, (List.cons.inj ev).1, trivial⟩ (OpOk.runs ⟨u.heap.size, [⟨k1, 0, c.cells, 64, true⟩, ⟨k4, 0, (stC b1 b2 b3 c).cells, 64, true⟩], (1, 12), []⟩ ⟨u.heap.size, [⟨k1, 0, c.cells, 64, true⟩, ⟨k4, 0, (stC b1 b2 true c).cells, 64, true⟩], (1, 13), [(k4, k4), (12, 12)]⟩ .skip undef (by kernel_rfl) (.inr ⟨rfl, rfl⟩) ⟨hl.sat, hl.le, hl.own⟩ rfl fun u' hL hK => ?_)
    have S2 : CS w0 k1 k4 c (stC b1 b2 true c) u' := S.ran (z := u.heap.size) ⟨hL.sat, hL.le, hL.own⟩ hK
    refine ⟨⟨_, _, true, S2⟩, fun j hj h => ?_, (says_cells S2).2 rfl⟩
    have hj3 : j = 0 ∨ j = 1 ∨ j = 2 := by omega
    rcases hj3 with rfl | rfl | rfl
    · exact (says_cells S2).2 ((says_cells S).1 h)
    · exact (says_cells S2).2 ((says_cells S).1 h)
    · exact (says_cells S2).2 rfl
theorem region21 {s : List UInt8} {wx : World} (S : CS w0 k1 k4 c (kindC c) wx) {td : List Item} (hd : curDraw td = some ops21)
    (hk : ∀ E' u, CS w0 k1 k4 c (crashC c) u → At Tryz.prog 29 R (tailT td) (Fr 91 (updL E' (env21 k1 k4 s))) u) :
    At Tryz.prog 29 R td (Fr 91 (updL E (env21 k1 k4 s))) wx := by
  refine at_draw ops21 hd (by kernel_rfl) 12 (by kernel_rfl) ?_
  have S1 : CS w0 k1 k4 c (stC false false false c) wx.drew := S.kept (Below.refl _ _).drew
  refine any_partsE (fuel := 0) (L := L21 k1 k4 c) (W := W21) (C := fun w => ∃ b1 b2 b3, CS w0 k1 k4 c (stC b1 b2 b3 c) w) (Ext := Ext21 c k4) (ok21 k1 k4 c) ⟨_, _, _, S1⟩ (Ext21.refl c k4) (fun _ _ _ h1 h2 j hj h => h2 j hj (h1 j hj h)) (parts21 s) rfl ?_
  intro vals u hC _ hall
  obtain ⟨b1, b2, b3, S2⟩ := hC
  obtain ⟨_, _, _, _, _, _, _, s0, _, s1, _, s2, _⟩ := hall
  have q0 : cond b1 c.wh 0 = c.wh := by
    have := (says_cells S2).1 s0
    have h := (Value.int.inj (Option.some.inj this)).2
    exact Int.ofNat.inj h
  have q1 : cond b2 c.torn 0 = c.torn := by have := (says_cells S2).1 s1; simpa [stC, Cmd.cells, tgC] using this
  have q2 : cond b3 c.stop 0 = c.stop := by have := (says_cells S2).1 s2; simpa [stC, Cmd.cells, tgC] using this
  have q : stC b1 b2 b3 c = crashC c := by unfold stC; rw [q0, q1, q2]; rfl
  rw [q] at S2
  refine any_end (by kernel_rfl) ⟨rfl, At.mid ?_⟩
  exact at_known (env21 k1 k4 s) (by kernel_rfl) fun E' => hk E' u S2
theorem crash_wf {c : Cmd} (h : c.Wf) : (crashC c).Wf := ⟨h.kind, zero_in, zero_in, zero_in, zero_in, zero_in, zero_in, zero_in, h.torn, h.stop, h.wh, Nat.zero_le _, Nat.zero_le _⟩
def crashT (c : Cmd) : List UInt8 := [99, 114, 97, 115, 104, 32] ++ Lib.itoa (IntKind.i64.wrap c.wh) ++ [32] ++ Lib.itoa c.torn ++ [32] ++ Lib.itoa c.stop ++ [10]
theorem rcommand_crash (hc : c.Wf) {w : World} (S : CS w0 k1 k4 c (kindC c) w) (hk : ∀ w', Below w0.heap.size w0 w' → R (.returned (.tuple #[.string ⟨⟨(crashR c).1⟩⟩, .bool (crashR c).2])) w') :
    At Tryz.prog 29 R (thenT tC5) (Fr 91 (updL E [(1, pt k1), (4, pt k4), (6, .bool true)])) w := by
  have hne : k1 ≠ k4 := by have := S.l4; omega
  have hw2 := hc.wh
  have htn := hc.torn
  have hsp := hc.stop
  refine at_run (cntG 90 (thenT tC5)) (thenT tC5) w.heap.size [] [] tCk0 [(1, pt k1), (4, pt k4), (6, .bool true)] w.heap.size [] (lies_nil w) (by kernel_rfl) fun w1 E1 hL1 hK1 => ?_
  have S1 := S.kept (hK1.below (Nat.le_refl _) (fun k hk => by cases hk))
  generalize hbad : cond (cond (decide ((1000000000000000000 : Int) < (c.wh : Int))) true (!(fitsP c.torn))) true (!(fitsP c.stop)) = bad
  refine at_ghost ((curReg tCk0).getD #[]) ⟨[⟨k1, 0, c.cells, 64, true⟩], [(1, 0, 10), (5, 0, 11), (11, 0, 12)], [⟨6, [(49, .int .i64 c.torn)], .bool (fitsP c.torn), (!(decide ((1000000000000000000 : Int) < (c.wh : Int))) && true)⟩, ⟨12, [(55, .int .i64 c.stop)], .bool (fitsP c.stop), (!(cond (decide ((1000000000000000000 : Int) < (c.wh : Int))) true (!(fitsP c.torn))) && true)⟩]⟩ [(1, pt k1), (4, pt k4), (6, .bool true), (58, .bool (cond (cond (decide ((1000000000000000000 : Int) < (c.wh : Int))) true (!(fitsP c.torn))) true (!(fitsP c.stop))))] (by kernel_rfl) (by kernel_rfl) (by kernel_rfl)
    (fun e he => by rw [List.mem_singleton.1 he]; exact good_own S1.h1) (fun sp hsp => ?_) (fun X => by kernel_rfl) (by kernel_rfl) fun w2 E2 b2 => ?_
  · simp only [List.mem_cons, List.not_mem_nil, or_false] at hsp
    rcases hsp with rfl | rfl
    · exact spec_call 56 [.tmp 49] [.int .i64 c.torn] (by kernel_rfl) (by kernel_rfl) (fun E => by kernel_rfl) fun hc1 u hu => below_call hu (rfits_any c.torn u)
    · exact spec_call 56 [.tmp 55] [.int .i64 c.stop] (by kernel_rfl) (by kernel_rfl) (fun E => by kernel_rfl) fun hc1 u hu => below_call hu (rfits_any c.stop u)
  rw [hbad]
  have S2 := S1.kept b2
  have hbe : bad = !(decide ((c.wh : Int) ≤ 1000000000000000000) && (fitsP c.torn && fitsP c.stop)) := by
    rw [← hbad]
    have : decide ((1000000000000000000 : Int) < (c.wh : Int)) = !(decide ((c.wh : Int) ≤ 1000000000000000000)) := by
      rw [← decide_not]
      exact decide_eq_decide.2 (by omega)
    rw [this]
    cases decide ((c.wh : Int) ≤ 1000000000000000000) <;> cases fitsP c.torn <;> cases fitsP c.stop <;> rfl
  refine at_run 60 (tailT tCk0) w2.heap.size [] [] tCk1 [(1, pt k1), (4, pt k4), (6, .bool true), (58, .bool bad)] w2.heap.size [] (lies_nil w2) (by kernel_rfl) fun w3 E3 hL3 hK3 => ?_
  have S3 := S2.kept (hK3.below (Nat.le_refl _) (fun k hk => by cases hk))
  refine at_cond bad (by kernel_rfl) (fun hb => ?_) (fun hb => ?_)
  · have hno : ¬ ((c.wh : Int) ≤ 1000000000000000000 ∧ fitsP c.torn = true ∧ fitsP c.stop = true) := fun h => by
      rw [hb] at hbe
      simp [h.1, h.2.1, h.2.2] at hbe
    have hp : crashR c = ([], false) := by unfold crashR; rw [if_neg hno]
    rw [hp] at hk
    exact at_endT (fn := Tryz.f29) 60 (.tuple #[.string ⟨⟨[]⟩⟩, .bool false]) (by kernel_rfl) (by kernel_rfl) fun w7 B7 => hk w7 (S3.kept B7).bel
  · have hyes : (c.wh : Int) ≤ 1000000000000000000 ∧ fitsP c.torn = true ∧ fitsP c.stop = true := by
      rw [hb] at hbe
      simpa using hbe.symm
    have hwr : IntKind.i64.wrap (c.wh : Int) = (c.wh : Int) := IntWalk.i64_in _ (by omega)
    have hit : Lib.itoa (IntKind.i64.wrap (c.wh : Int)) = Lib.decDigits c.wh := by rw [hwr]; simp [Lib.itoa]
    have hp : crashR c = (crashT c, true && decide (crashC c = c)) := by unfold crashR crashT; rw [if_pos hyes, hit]; rfl
    rw [hp] at hk
    have l1 := itoa_len (IntKind.i64.wrap (c.wh : Int)) (by rw [hwr]; omega) (by rw [hwr]; omega)
    have l2 := itoa_len c.torn htn.1 htn.2
    have l3 := itoa_len c.stop hsp.1 hsp.2
    have h3 : IntKind.i64.max = 9223372036854775807 := by decide
    have z1 : (⟨⟨[99, 114, 97, 115, 104, 32]⟩⟩ : ByteArray).size = 6 := rfl
    have z2 : (⟨⟨Lib.itoa (IntKind.i64.wrap (c.wh : Int))⟩⟩ : ByteArray).size = (Lib.itoa (IntKind.i64.wrap (c.wh : Int))).length := rfl
    have z3 : (⟨⟨[32]⟩⟩ : ByteArray).size = 1 := rfl
    have z4 : (⟨⟨Lib.itoa c.torn⟩⟩ : ByteArray).size = (Lib.itoa c.torn).length := rfl
    have z5 : (⟨⟨Lib.itoa c.stop⟩⟩ : ByteArray).size = (Lib.itoa c.stop).length := rfl
    have z6 : (⟨⟨[10]⟩⟩ : ByteArray).size = 1 := rfl
    have hdom : -9223372036854775808 ≤ IntKind.i64.wrap (c.wh : Int) ∧ IntKind.i64.wrap (c.wh : Int) ≤ 9223372036854775807 := by rw [hwr]; omega
    refine at_run 60 (elseT tCk1) w3.heap.size [] [] tCk2 [(1, pt k1), (4, pt k4), (6, .bool true)] w3.heap.size [] (lies_nil w3) (by kernel_rfl) fun w4 E4 hL4 hK4 => ?_
    have S4 := S3.kept (hK4.below (Nat.le_refl _) (fun k hk => by cases hk))
    refine at_ghostS ((curReg tCk2).getD #[]) ⟨[⟨k1, 0, c.cells, 64, true⟩], [(1, 0, 10), (7, 0, 11), (12, 0, 12)], [⟨3, [(61, .int .i64 (IntKind.i64.wrap (c.wh : Int)))], .string ⟨⟨Lib.itoa (IntKind.i64.wrap (c.wh : Int))⟩⟩, true⟩, ⟨8, [(66, .int .i64 c.torn)], .string ⟨⟨Lib.itoa c.torn⟩⟩, true⟩, ⟨13, [(71, .int .i64 c.stop)], .string ⟨⟨Lib.itoa c.stop⟩⟩, true⟩]⟩
      [(1, pt k1), (4, pt k4), (5, .string ((((((⟨⟨[99, 114, 97, 115, 104, 32]⟩⟩ ++ ⟨⟨Lib.itoa (IntKind.i64.wrap (c.wh : Int))⟩⟩) ++ ⟨⟨[32]⟩⟩) ++ ⟨⟨Lib.itoa c.torn⟩⟩) ++ ⟨⟨[32]⟩⟩) ++ ⟨⟨Lib.itoa c.stop⟩⟩) ++ ⟨⟨[10]⟩⟩)), (6, .bool true)] (by kernel_rfl) (by kernel_rfl) (by kernel_rfl)
      (fun e he => by rw [List.mem_singleton.1 he]; exact good_own S4.h1) (fun sp hsp => ?_) (fun X => by kernel_rfl) (by kernel_rfl)
      [(⟨⟨[99, 114, 97, 115, 104, 32]⟩⟩ : ByteArray).size + (⟨⟨Lib.itoa (IntKind.i64.wrap (c.wh : Int))⟩⟩ : ByteArray).size, ((⟨⟨[99, 114, 97, 115, 104, 32]⟩⟩ : ByteArray) ++ ⟨⟨Lib.itoa (IntKind.i64.wrap (c.wh : Int))⟩⟩).size + (⟨⟨[32]⟩⟩ : ByteArray).size,
       (((⟨⟨[99, 114, 97, 115, 104, 32]⟩⟩ : ByteArray) ++ ⟨⟨Lib.itoa (IntKind.i64.wrap (c.wh : Int))⟩⟩) ++ ⟨⟨[32]⟩⟩).size + (⟨⟨Lib.itoa c.torn⟩⟩ : ByteArray).size, ((((⟨⟨[99, 114, 97, 115, 104, 32]⟩⟩ : ByteArray) ++ ⟨⟨Lib.itoa (IntKind.i64.wrap (c.wh : Int))⟩⟩) ++ ⟨⟨[32]⟩⟩) ++ ⟨⟨Lib.itoa c.torn⟩⟩).size + (⟨⟨[32]⟩⟩ : ByteArray).size,
       (((((⟨⟨[99, 114, 97, 115, 104, 32]⟩⟩ : ByteArray) ++ ⟨⟨Lib.itoa (IntKind.i64.wrap (c.wh : Int))⟩⟩) ++ ⟨⟨[32]⟩⟩) ++ ⟨⟨Lib.itoa c.torn⟩⟩) ++ ⟨⟨[32]⟩⟩).size + (⟨⟨Lib.itoa c.stop⟩⟩ : ByteArray).size, ((((((⟨⟨[99, 114, 97, 115, 104, 32]⟩⟩ : ByteArray) ++ ⟨⟨Lib.itoa (IntKind.i64.wrap (c.wh : Int))⟩⟩) ++ ⟨⟨[32]⟩⟩) ++ ⟨⟨Lib.itoa c.torn⟩⟩) ++ ⟨⟨[32]⟩⟩) ++ ⟨⟨Lib.itoa c.stop⟩⟩).size + (⟨⟨[10]⟩⟩ : ByteArray).size]
      (by kernel_rfl) (fun z hz => ?_) fun w5 E5 b5 => ?_
    · simp only [List.mem_cons, List.not_mem_nil, or_false] at hsp
      rcases hsp with rfl | rfl | rfl
      · exact spec_call 55 [.tmp 61] [.int .i64 (IntKind.i64.wrap (c.wh : Int))] (by kernel_rfl) (by kernel_rfl) (fun E => by kernel_rfl) fun hc1 u hu => below_call hu (rdecAll_any _ u hdom.1 hdom.2)
      · exact spec_call 55 [.tmp 66] [.int .i64 c.torn] (by kernel_rfl) (by kernel_rfl) (fun E => by kernel_rfl) fun hc1 u hu => below_call hu (rdecAll_any c.torn u htn.1 htn.2)
      · exact spec_call 55 [.tmp 71] [.int .i64 c.stop] (by kernel_rfl) (by kernel_rfl) (fun E => by kernel_rfl) fun hc1 u hu => below_call hu (rdecAll_any c.stop u hsp.1 hsp.2)
    · simp only [List.mem_cons, List.not_mem_nil, or_false] at hz
      rw [h3]
      rcases hz with rfl | rfl | rfl | rfl | rfl | rfl <;> simp only [ByteArray.size_append, z1, z2, z3, z4, z5, z6] <;> omega
    have e9 : ((((((⟨⟨[99, 114, 97, 115, 104, 32]⟩⟩ ++ ⟨⟨Lib.itoa (IntKind.i64.wrap (c.wh : Int))⟩⟩) ++ ⟨⟨[32]⟩⟩) ++ ⟨⟨Lib.itoa c.torn⟩⟩) ++ ⟨⟨[32]⟩⟩) ++ ⟨⟨Lib.itoa c.stop⟩⟩) ++ ⟨⟨[10]⟩⟩ : ByteArray) = ⟨⟨crashT c⟩⟩ := by
      apply ByteArray.ext
      simp [crashT]
    rw [e9]
    have S5 := S4.kept b5
    refine at_run 60 (tailT tCk2) w5.heap.size [] [] tCk3 (env21 k1 k4 (crashT c)) w5.heap.size [] (lies_nil w5) (by kernel_rfl) fun w6 E6 hL6 hK6 => ?_
    have S6 := S5.kept (hK6.below (Nat.le_refl _) (fun k hk => by cases hk))
    refine region21 S6 (by kernel_rfl) fun E7 w7 S7 => ?_
    refine at_run (cntG 90 (tailT tCk3)) (tailT tCk3) w7.heap.size [] [] tCe (env21 k1 k4 (crashT c)) w7.heap.size [] (lies_nil w7) (by kernel_rfl) fun w8 E8 hL8 hK8 => ?_
    exact cmd_end (x := crashC c) true hc (crash_wf hc) (S7.kept (hK8.below (Nat.le_refl _) (fun k hk => by cases hk))) hk
theorem rcommand_any (c : Cmd) (w : World) (hc : c.Wf) : Calls Tryz.prog 29 #[.agg ⟨c.cells⟩] w fun e w' => e = .returned (.tuple #[.string ⟨⟨(commandR c).1⟩⟩, .bool (commandR c).2]) ∧ Below w.heap.size w w' := by
  refine rcommand_plain c w hc (fun h w' B => ⟨?_, B⟩) (fun h k1 k4 E' w' S => ?_)
  · simp [commandR, h]
  · have e : commandR c = crashR c := by simp [commandR, h]
    rw [e]
    exact rcommand_crash hc S fun w' B => ⟨rfl, B⟩
end Go.Proofs.YtdcbnkimjhefkaaGreatDoor

/-
  paygen: a crash, a command.
-/
import Derived.Test.YtdcbnkimjhefkaaGreatDoorV27
namespace Go.Proofs.YtdcbnkimjhefkaaGreatDoor
open Go.RowKit
set_option maxRecDepth 100000
def zeroC : List Value := [.int .i64 0, .int .i64 0, .int .i64 0, .int .i64 0, .string ⟨⟨[]⟩⟩, .int .i64 0, .int .i64 0, .int .i64 0, .string ⟨⟨[]⟩⟩, .int .i64 0, .int .u64 0, .int .i64 0, .int .i64 0]
def kc (k p : Int) : Cmd := ⟨k, 0, 0, 0, [], 0, 0, 0, [], p, 0, 0, 0⟩
def cr (wh : Nat) (t s : Int) : Cmd := ⟨6, 0, 0, 0, [], 0, 0, 0, [], 0, wh, t, s⟩
theorem kc_wf (k p : Int) (hk : mid k) (hp : mid p) : (kc k p).Wf := ⟨in_of hk, lit_in 0 rfl, lit_in 0 rfl, lit_in 0 rfl, lit_in 0 rfl, lit_in 0 rfl, lit_in 0 rfl, in_of hp, lit_in 0 rfl, lit_in 0 rfl, (by decide : (0 : Nat) < 18446744073709551616), Nat.zero_le _, Nat.zero_le _⟩
theorem genPrepare (p : Int) (hp : mid p) : GenC (kc 2 p) :=
  gen_of _ ⟨[112, 114, 101, 112, 97, 114, 101], 2, 0, [80]⟩ (by kernel_rfl) (by simp [okF, okL, okP, numP, leftP, restP, zeroP, zeroN, Cmd.of, kc, fits_of hp]) (kc_wf 2 p ⟨by decide, by decide⟩ hp) (by
    have lp := len_of hp
    simp [linesP, itemsP, itemP, numP, kc]
    omega) (by simp [kc]) (by simp [kc])
theorem genRelease : GenC (kc 3 0) :=
  gen_of _ ⟨[114, 101, 108, 101, 97, 115, 101], 3, 0, []⟩ (by kernel_rfl) (by simp [okF, okL, leftP, restP, Cmd.of, kc]) (kc_wf 3 0 ⟨by decide, by decide⟩ ⟨by decide, by decide⟩) (by simp [linesP, itemsP, kc]) (by simp [kc]) (by simp [kc])
theorem genPay : GenC (kc 4 0) :=
  gen_of _ ⟨[112, 97, 121], 4, 0, []⟩ (by kernel_rfl) (by simp [okF, okL, leftP, restP, Cmd.of, kc]) (kc_wf 4 0 ⟨by decide, by decide⟩ ⟨by decide, by decide⟩) (by simp [linesP, itemsP, kc]) (by simp [kc]) (by simp [kc])
theorem genReverse : GenC (kc 5 0) :=
  gen_of _ ⟨[114, 101, 118, 101, 114, 115, 101], 5, 0, []⟩ (by kernel_rfl) (by simp [okF, okL, leftP, restP, Cmd.of, kc]) (kc_wf 5 0 ⟨by decide, by decide⟩ ⟨by decide, by decide⟩) (by simp [linesP, itemsP, kc]) (by simp [kc]) (by simp [kc])
theorem genCrash (wh : Nat) (t s : Int) (hw : wh ≤ 1000000000000000000) (ht : mid t) (hs : mid s) : GenC (cr wh t s) := by
  have hw' : decide ((wh : Int) ≤ 1000000000000000000) = true := decide_eq_true (by omega)
  refine gen_of _ ⟨[99, 114, 97, 115, 104], 6, 0, [87, 84, 83]⟩ (by kernel_rfl) (by simp [okF, okL, okP, numP, leftP, restP, zeroP, zeroN, Cmd.of, cr, fits_of ht, fits_of hs]; exact hw') ⟨lit_in 6 rfl, lit_in 0 rfl, lit_in 0 rfl, lit_in 0 rfl, lit_in 0 rfl, lit_in 0 rfl, lit_in 0 rfl, lit_in 0 rfl, in_of ht, in_of hs, by simp only [cr]; omega, Nat.zero_le _, Nat.zero_le _⟩ (by
    have lt := len_of ht
    have ls := len_of hs
    have ew : Lib.itoa (wh : Int) = Lib.decDigits wh := by simp [Lib.itoa]
    have lw : (Lib.decDigits wh).length ≤ 21 := by rw [← ew]; exact len_of (n := (wh : Int)) ⟨by omega, by omega⟩
    simp [linesP, itemsP, itemP, numP, cr]
    omega) (by simp [cr]) (by simp [cr])
variable {b : Nat} {ns : List Int} {lim : Nat} {w0 w : World}
def CmdPost (b : Nat) (ns : List Int) (lim : Nat) (w0 : World) (e : Ending) (w : World) : Prop := ∃ c, GenC c ∧ e = .returned (.agg ⟨c.cells⟩) ∧ DK b ns lim w0 w
theorem CmdPost.more {lim' : Nat} {e : Ending} (h : CmdPost b ns lim w0 e w) (hl : lim ≤ lim') : CmdPost b ns lim' w0 e w := by
  obtain ⟨c, h1, h2, h3⟩ := h
  exact ⟨c, h1, h2, ⟨h3.deck.more hl, h3.but⟩⟩
theorem cmd_ret {f : FuncId} {n : Nat} {fn : Func} {td : List Item} {k2 : Nat} {z : List Value} {O : List Nat} {B zz : Nat} {x : Nat × Nat} {q : List (Nat × Nat)} {w' : World} {E : Nat → Value} {c : Cmd} (hr : isRet td = true) (hf : Tryz.prog.funcs[f]? = some fn) (hG : GenC c) (S : ReS b ns lim w0 k2 z 64 w) (hL : Lies O B w' ⟨zz, [⟨k2, 0, c.cells, 64, true⟩], x, q⟩) (hK : Kept [k2] w.heap.size w w')
    (hv : (lrun Tryz.prog (resultsE fn n E) ⟨0, [⟨k2, 0, c.cells, 64, true⟩], (0, 0), []⟩).map (·.1) = some (.agg ⟨c.cells⟩))
    (he : ((lrun Tryz.prog (resultsE fn n E) ⟨0, [⟨k2, 0, c.cells, 64, true⟩], (0, 0), []⟩).map (·.2.eqs.map Prod.fst)) = ((lrun Tryz.prog (resultsE fn n E) ⟨0, [⟨k2, 0, c.cells, 64, true⟩], (0, 0), []⟩).map (·.2.eqs.map Prod.snd))) :
    At Tryz.prog f (CmdPost b ns lim w0) td (Fr n E) w' := by
  have g2 := hL.sat.good _ (List.mem_singleton.2 rfl)
  have h1 := S.l2
  have h4 := S.lb
  exact at_ret hr hf ⟨0, [⟨k2, 0, c.cells, 64, true⟩], (0, 0), []⟩ (fun e he => by rw [List.mem_singleton.1 he]; exact g2) (.agg ⟨c.cells⟩) hv he ⟨c, hG, rfl, S.dk.deck.kept (fun k hk => by simp at hk; omega) hK, S.dk.but.kept (fun k hk => by simp at hk; omega) hK⟩
noncomputable def codeCr : Code := Tryz.f33.body.getD .skip
noncomputable def tCr0 : List Item := advT 60 [.code codeCr]
noncomputable def tCr1 : List Item := advT 60 (popOp tCr0)
noncomputable def tCr2 : List Item := advT 60 (popOp tCr1)
noncomputable def tCr3 : List Item := advT 60 (popOp tCr2)
abbrev whs : List Int := [0, 1, 2, 3, 5, 7, 576460752303423488, 576460752303423487]
abbrev tns : List Int := [0, 31, 5, -1, 40]
abbrev sts : List Int := [0, 1, 1, 2, 3, 4, 9, -1]
theorem dcrash_any (b : Nat) (ns : List Int) (lim : Nat) (w : World) (h : DeckOk b ns lim w) (hlim : lim ≤ 4611686018427370000) :
    Calls Tryz.prog 33 #[pb b] w (CmdPost b ns (lim + 3) w) := by
  have hlt := h.lt
  refine calls_at (args := [pb b]) (fn := Tryz.f33) (c := codeCr) (n := 14) (by kernel_rfl) (by kernel_rfl) (by kernel_rfl) (by kernel_rfl) ?_
  refine at_run 60 [.code codeCr] w.heap.size [] [] tCr0 [(0, pb b), (2, pb w.heap.size), (3, pb b), (4, .slice (some ⟨w.heap.size + 1, 0, none⟩) 8 8)] (w.heap.size + 1 + 1) [⟨w.heap.size, 0, zeroC, 64, true⟩, ⟨w.heap.size + 1, 0, intsM whs, 3, true⟩] (lies_nil w) (by kernel_rfl) fun w1 E1 hL1 hK1 => ?_
  have S1 : ReS b ns lim w w.heap.size zeroC 64 w1 := ⟨(DK.refl h).below (hK1.below (Nat.le_refl _) (fun k hk => by cases hk)), own_good (hL1.sat.good ⟨w.heap.size, 0, zeroC, 64, true⟩ (by simp)), Nat.le_refl _, hlt⟩
  have g1 := own_good (hL1.sat.good ⟨w.heap.size + 1, 0, intsM whs, 3, true⟩ (by simp))
  generalize hk2 : w.heap.size = k2 at *
  refine pick_at (cap := 8) (dst := some 5) (ops := [.tmp 3, .tmp 4]) S1.dk.deck g1 (by omega) (by simp) (by simp) (by omega) (by kernel_rfl) (by kernel_rfl) fun x1 w2 hx1 d2 => ?_
  have S2 := S1.call d2
  refine at_run 60 (popOp tCr0) w2.heap.size [] [] tCr1 [(0, pb b), (2, pb k2), (6, .int .u64 (IntKind.u64.wrap x1)), (7, pb b), (8, .slice (some ⟨w2.heap.size, 0, none⟩) 5 5)] (w2.heap.size + 1) [⟨w2.heap.size, 0, intsM tns, 3, true⟩] (lies_nil w2) (by kernel_rfl) fun w3 E3 hL3 hK3 => ?_
  have S3 := S2.below (hK3.below (Nat.le_refl _) (fun k hk => by cases hk))
  have g3 := own_good (hL3.sat.good _ (List.mem_singleton.2 rfl))
  have hb3 := S2.dk.lt
  refine pick_at (cap := 5) (dst := some 9) (ops := [.tmp 7, .tmp 8]) S3.dk.deck g3 (by omega) (by simp) (by simp) (by omega) (by kernel_rfl) (by kernel_rfl) fun x2 w4 hx2 d4 => ?_
  have S4 := S3.call d4
  refine at_run 60 (popOp tCr1) w4.heap.size [] [] tCr2 [(0, pb b), (2, pb k2), (6, .int .u64 (IntKind.u64.wrap x1)), (9, .int .i64 x2), (10, pb b), (11, .slice (some ⟨w4.heap.size, 0, none⟩) 8 8)] (w4.heap.size + 1) [⟨w4.heap.size, 0, intsM sts, 3, true⟩] (lies_nil w4) (by kernel_rfl) fun w5 E5 hL5 hK5 => ?_
  have S5 := S4.below (hK5.below (Nat.le_refl _) (fun k hk => by cases hk))
  have g5 := own_good (hL5.sat.good _ (List.mem_singleton.2 rfl))
  have hb5 := S4.dk.lt
  refine pick_at (cap := 8) (dst := some 12) (ops := [.tmp 10, .tmp 11]) S5.dk.deck g5 (by omega) (by simp) (by simp) (by omega) (by kernel_rfl) (by kernel_rfl) fun x3 w6 hx3 d6 => ?_
  have S6 := S5.call d6
  have hv1 : ∃ n : Nat, n ≤ 1000000000000000000 ∧ IntKind.u64.wrap x1 = (n : Int) := by
    simp only [List.mem_cons, List.not_mem_nil, or_false] at hx1
    rcases hx1 with rfl | rfl | rfl | rfl | rfl | rfl | rfl | rfl
    · exact ⟨0, by decide, by decide⟩
    · exact ⟨1, by decide, by decide⟩
    · exact ⟨2, by decide, by decide⟩
    · exact ⟨3, by decide, by decide⟩
    · exact ⟨5, by decide, by decide⟩
    · exact ⟨7, by decide, by decide⟩
    · exact ⟨576460752303423488, by decide, by decide⟩
    · exact ⟨576460752303423487, by decide, by decide⟩
  obtain ⟨n1, hn1, he1⟩ := hv1
  rw [he1]
  have hv2 : mid x2 := by
    simp only [List.mem_cons, List.not_mem_nil, or_false] at hx2
    rcases hx2 with rfl | rfl | rfl | rfl | rfl <;> exact ⟨by decide, by decide⟩
  have hv3 : mid x3 := by
    simp only [List.mem_cons, List.not_mem_nil, or_false] at hx3
    rcases hx3 with rfl | rfl | rfl | rfl | rfl | rfl | rfl | rfl <;> exact ⟨by decide, by decide⟩
  refine at_run 60 (popOp tCr2) w6.heap.size [⟨k2, 0, zeroC, 64, true⟩] [(0, 0)] tCr3 [(2, pb k2)] w6.heap.size [⟨k2, 0, (cr n1 x2 x3).cells, 64, true⟩] (lies_one S6.h2) (by kernel_rfl) fun w7 E7 hL7 hK7 => ?_
  exact cmd_ret (fn := Tryz.f33) (by kernel_rfl) (by kernel_rfl) (genCrash n1 x2 x3 hn1 hv2 hv3) S6 hL7 hK7 (by kernel_rfl) (by kernel_rfl)
noncomputable def codeCm : Code := Tryz.f34.body.getD .skip
noncomputable def tCm0 : List Item := advT 60 [.code codeCm]
noncomputable def tCme : List Item := advT 60 (thenT (advT 60 (popOp tCm0)))
noncomputable def tCmF : List Item := advT 60 (thenT tCme)
noncomputable def tCmL : List Item := advT 60 (popOp tCmF)
noncomputable def tCm1 : List Item := advT 60 (elseT tCme)
noncomputable def tCm2 : List Item := advT 60 (thenT tCm1)
noncomputable def tCmP : List Item := advT 60 (thenT tCm2)
noncomputable def tCm4 : List Item := advT 60 (thenT (advT 60 (elseT tCm2)))
noncomputable def tCm6 : List Item := advT 60 (thenT (advT 60 (elseT tCm4)))
noncomputable def tCmy : List Item := advT 60 (elseT tCm6)
noncomputable def tCmz : List Item := advT 60 (popOp tCmL)
theorem dcommand_any (b : Nat) (ns : List Int) (lim : Nat) (w : World) (h : DeckOk b ns lim w) (hlim : lim ≤ 4611686018427360000) :
    Calls Tryz.prog 34 #[pb b] w (CmdPost b ns (lim + 25) w) := by
  have hlt := h.lt
  refine calls_at (args := [pb b]) (fn := Tryz.f34) (c := codeCm) (n := 27) (by kernel_rfl) (by kernel_rfl) (by kernel_rfl) (by kernel_rfl) ?_
  refine at_run 60 [.code codeCm] w.heap.size [] [] tCm0 [(0, pb b), (2, pb w.heap.size), (3, pb b)] (w.heap.size + 1) [⟨w.heap.size, 0, zeroC, 64, true⟩] (lies_nil w) (by kernel_rfl) fun w1 E1 hL1 hK1 => ?_
  have S1 : ReS b ns lim w w.heap.size zeroC 64 w1 := ⟨(DK.refl h).below (hK1.below (Nat.le_refl _) (fun k hk => by cases hk)), own_good (hL1.sat.good _ (List.mem_singleton.2 rfl)), Nat.le_refl _, hlt⟩
  generalize hk2 : w.heap.size = k2 at *
  refine next_at (n := 10) (dst := some 4) (ops := [.tmp 3, .const (.int .i64 10)]) S1.dk.deck (by omega) (by omega) (by omega) (by kernel_rfl) (by kernel_rfl) fun k w2 hk d2 => ?_
  have S2 := S1.call d2
  refine at_known [(0, pb b), (2, pb k2), (4, .int .i64 k)] (by kernel_rfl) fun E2 => ?_
  have h10 : (k = 0 ∨ k = 1 ∨ k = 2) ∨ (k = 3 ∨ k = 4) ∨ (k = 5 ∨ k = 6) ∨ (k = 7 ∨ k = 8) ∨ k = 9 := by omega
  have fact : ∀ (w3 : World) (E3 : Nat → Value), Below w2.heap.size w2 w3 → At Tryz.prog 34 (CmdPost b ns (lim + 25) w) tCmF (Fr 27 (updL E3 [(2, pb k2), (9, pb b)])) w3 := by
    intro w3 E3 b3
    have S3 := S2.below b3
    refine at_call 60 [.tmp 9] (some 10) [pb b] (by kernel_rfl) (by kernel_rfl) (by kernel_rfl) ((dfact_any b ns (lim + 1) w3 S3.dk.deck (by omega)).mono fun e w4 hh => ?_)
    obtain ⟨c, hG, rfl, d4⟩ := hh
    refine ⟨_, rfl, ?_⟩
    have S4 := S3.call d4
    refine at_run 60 (popOp tCmF) w4.heap.size [] [] tCmL [(2, pb k2), (10, .agg ⟨c.fact⟩)] w4.heap.size [] (lies_nil w4) (by kernel_rfl) fun w5 E5 hL5 hK5 => ?_
    have S5 := S4.below (hK5.below (Nat.le_refl _) (fun k hk => by cases hk))
    refine at_call 57 [.tmp 10] (some 11) [.agg ⟨c.fact⟩] (by kernel_rfl) (by kernel_rfl) (by kernel_rfl) ((dlearn_any c hG.learn hG.kind w5).mono fun e w6 hh => ?_)
    obtain ⟨rfl, b6⟩ := hh
    refine ⟨_, rfl, ?_⟩
    have S6 := S5.below b6
    refine at_run 60 (popOp tCmL) w6.heap.size [⟨k2, 0, zeroC, 64, true⟩] [(0, 0)] tCmz [(2, pb k2)] w6.heap.size [⟨k2, 0, c.cells, 64, true⟩] (lies_one S6.h2) (by kernel_rfl) fun w7 E7 hL7 hK7 => ?_
    exact At.post (cmd_ret (fn := Tryz.f34) (by kernel_rfl) (by kernel_rfl) hG.gen S6 hL7 hK7 (by kernel_rfl) (by kernel_rfl)) fun _ _ h => h.more (by omega)
  have prep : ∀ (w3 : World) (E3 : Nat → Value), Below w2.heap.size w2 w3 → At Tryz.prog 34 (CmdPost b ns (lim + 25) w) tCmP (Fr 27 (updL E3 [(2, pb k2), (15, pb b)])) w3 := by
    intro w3 E3 b3
    have S3 := S2.below b3
    refine next_at (n := 5) (dst := some 16) (ops := [.tmp 15, .const (.int .i64 5)]) S3.dk.deck (by omega) (by omega) (by omega) (by kernel_rfl) (by kernel_rfl) fun p w4 hp d4 => ?_
    have S4 := S3.call d4
    refine at_run 60 (popOp tCmP) w4.heap.size [⟨k2, 0, zeroC, 64, true⟩] [(0, 0)] tCmz [(2, pb k2)] w4.heap.size [⟨k2, 0, (kc 2 p).cells, 64, true⟩] (lies_one S4.h2) (by kernel_rfl) fun w7 E7 hL7 hK7 => ?_
    exact At.post (cmd_ret (fn := Tryz.f34) (by kernel_rfl) (by kernel_rfl) (genPrepare p ⟨by omega, by omega⟩) S4 hL7 hK7 (by kernel_rfl) (by kernel_rfl)) fun _ _ h => h.more (by omega)
  rcases h10 with h | h | h | h | rfl
  · rcases h with rfl | rfl | rfl
    all_goals
      refine at_runC 300 [] (popOp tCm0) w2.heap.size [] tCmF [(2, pb k2), (9, pb b)] w2.heap.size [] (lies_nil w2) (by kernel_rfl) fun w3 E3 hL3 hK3 => ?_
      exact fact w3 E3 (hK3.below (Nat.le_refl _) (fun k hk => by cases hk))
  · rcases h with rfl | rfl
    all_goals
      refine at_runC 300 [] (popOp tCm0) w2.heap.size [] tCmP [(2, pb k2), (15, pb b)] w2.heap.size [] (lies_nil w2) (by kernel_rfl) fun w3 E3 hL3 hK3 => ?_
      exact prep w3 E3 (hK3.below (Nat.le_refl _) (fun k hk => by cases hk))
  · rcases h with rfl | rfl
    all_goals
      refine at_runC 300 [] (popOp tCm0) w2.heap.size [⟨k2, 0, zeroC, 64, true⟩] tCmz [(2, pb k2)] w2.heap.size [⟨k2, 0, (kc 3 0).cells, 64, true⟩] (lies_one S2.h2) (by kernel_rfl) fun w7 E7 hL7 hK7 => ?_
      exact At.post (cmd_ret (fn := Tryz.f34) (by kernel_rfl) (by kernel_rfl) genRelease S2 hL7 hK7 (by kernel_rfl) (by kernel_rfl)) fun _ _ h => h.more (by omega)
  · rcases h with rfl | rfl
    all_goals
      refine at_runC 300 [] (popOp tCm0) w2.heap.size [⟨k2, 0, zeroC, 64, true⟩] tCmz [(2, pb k2)] w2.heap.size [⟨k2, 0, (kc 4 0).cells, 64, true⟩] (lies_one S2.h2) (by kernel_rfl) fun w7 E7 hL7 hK7 => ?_
      exact At.post (cmd_ret (fn := Tryz.f34) (by kernel_rfl) (by kernel_rfl) genPay S2 hL7 hK7 (by kernel_rfl) (by kernel_rfl)) fun _ _ h => h.more (by omega)
  · refine at_runC 300 [] (popOp tCm0) w2.heap.size [⟨k2, 0, zeroC, 64, true⟩] tCmy [(2, pb k2)] w2.heap.size [⟨k2, 0, (kc 5 0).cells, 64, true⟩] (lies_one S2.h2) (by kernel_rfl) fun w7 E7 hL7 hK7 => ?_
    exact At.post (cmd_ret (fn := Tryz.f34) (by kernel_rfl) (by kernel_rfl) genReverse S2 hL7 hK7 (by kernel_rfl) (by kernel_rfl)) fun _ _ h => h.more (by omega)
end Go.Proofs.YtdcbnkimjhefkaaGreatDoor

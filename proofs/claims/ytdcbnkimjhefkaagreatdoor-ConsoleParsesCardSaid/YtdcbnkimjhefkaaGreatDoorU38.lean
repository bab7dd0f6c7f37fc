/-
 The walk of ConsoleParses.
-/
import Derived.Test.YtdcbnkimjhefkaaGreatDoorU37
import Derived.Test.YtdcbnkimjhefkaaGreatDoorU33
namespace Go.Proofs.YtdcbnkimjhefkaaGreatDoor
open Go.RowKit
set_option maxRecDepth 100000
def resP (s : List UInt8) : List Cmd × Int × Int := if 65536 < s.length then ([], 0, 3) else match parB (s.length + 1) s 1 [] with
 | .error ln => ([], (ln : Int), 6)
 | .ok acc => (acc, 0, 0)
def PostP (w : World) (s : List UInt8) (e : Ending) (w' : World) : Prop := Below w.heap.size w w' ∧ ∃ v, e = .returned (.tuple #[v, .int .i64 (resP s).2.1, .int .i64 (resP s).2.2]) ∧ w'.ownsRow w.heap.size 64 13 v (resP s).1.length ((resP s).1.flatMap Cmd.cells)
theorem nil_row (w : World) (b : Nat) : w.ownsRow b 64 13 (.slice none 0 0) ([] : List Cmd).length (([] : List Cmd).flatMap Cmd.cells) := ⟨rfl, .inl ⟨rfl, rfl⟩⟩
theorem post_of {w : World} {s : List UInt8} {e : Ending} {w' : World} (hb : Below w.heap.size w w') (h : if 65536 < s.length then e = .returned (.tuple #[.slice none 0 0, .int .i64 0, .int .i64 3]) else match parB (s.length + 1) s 1 [] with
  | .error ln => e = .returned (badV ln)
  | .ok acc => ∃ v, e = .returned (.tuple #[v, .int .i64 0, .int .i64 0]) ∧ w'.ownsRow w.heap.size 64 13 v acc.length (acc.flatMap Cmd.cells)) : PostP w s e w' := by
 refine ⟨hb, ?_⟩
 unfold resP
 split at h
 ·rename_i hc
  rw [if_pos hc]
  exact ⟨_, h, nil_row _ _⟩
 ·rename_i hc
  rw [if_neg hc]
  cases hq : parB (s.length + 1) s 1 [] with
  | error ln =>
   rw [hq] at h
   exact ⟨_, h, nil_row _ _⟩
  | ok acc =>
   rw [hq] at h
   exact h
theorem res_good (s : List UInt8) : (∀ c ∈ (resP s).1, c.Wf) ∧ (resP s).1.length ≤ 65536 := by
 unfold resP
 split
 ·exact ⟨fun c hc => (by cases hc), Nat.zero_le _⟩
 ·rename_i hc
  cases hq : parB (s.length + 1) s 1 [] with
  | error ln => exact ⟨fun c hc => (by cases hc), Nat.zero_le _⟩
  | ok acc =>
   have h1 := par_fmt (by omega) hq
   have h2 := par_count (by omega) hq
   exact ⟨h1.2, by show acc.length ≤ 65536; omega⟩
theorem parse_post (s : List UInt8) (w : World) (hs : s.length ≤ 4294967296) (hC : ConP w) (hg : Tryz.prog.globals.size ≤ w.heap.size) : Calls Tryz.prog 17 #[.string ⟨⟨s⟩⟩] w (PostP w s) :=
 (parse_any s w (by omega) hC hg).mono fun _ _ h => post_of h.1 h.2
theorem rparse_post (s : List UInt8) (w : World) (hs : s.length ≤ 4294967296) : Calls Tryz.prog 18 #[.string ⟨⟨s⟩⟩] w (PostP w s) :=
 (rparse_any s w hs).mono fun _ _ h => post_of h.1 (by have h2 := h.2; rw [rpar_eq] at h2; exact h2)
noncomputable def codePr : Code := Tryz.f4.body.getD .skip
noncomputable def tPr0 : List Item := advT 60 [.code codePr]
noncomputable def tPra : List Item := advT 60 (thenT tPr0)
noncomputable def tPr1 : List Item := advT 60 (elseT tPr0)
noncomputable def tPr2 : List Item := advT 60 (popOp tPr1)
noncomputable def tPr3 : List Item := advT 60 (popOp tPr2)
noncomputable def tPr4 : List Item := advT 60 (popOp tPr3)
noncomputable def tPr5 : List Item := advT (cntO isAddO 90 (popOp tPr4)) (popOp tPr4)
noncomputable def tPr6 : List Item := advT (cntO isAddO 90 (popOp tPr5)) (popOp tPr5)
noncomputable def tPr7 : List Item := advT (cntO isAddO 90 (popOp tPr6)) (popOp tPr6)
noncomputable def tPr8 : List Item := advT 60 (popOp tPr7)
noncomputable def tPr9 : List Item := advT 60 (bodyT tPr8)
noncomputable def tPrb : List Item := advT (cntO isIdxA 90 (thenT tPr9)) (thenT tPr9)
noncomputable def tPrc : List Item := popOp (popOp tPrb)
noncomputable def tPrd : List Item := advT (cntO isIdxA 90 (popOp tPrc)) (popOp tPrc)
noncomputable def tPre : List Item := popOp (popOp tPrd)
noncomputable def tPrf : List Item := advG (popOp tPre)
noncomputable def tPrg : List Item := advT 60 (tailT tPrf)
noncomputable def tPrh : List Item := advT 60 (elseT tPr9)
abbrev fiveT (text t raw : List UInt8) : List (List UInt8) := [text, t, raw, text ++ raw, raw ++ [10] ++ text]
theorem parses_any (vi : Value) (ns : List Int) (raw : List UInt8) (w : World) (hi : IntsAt w w.heap.size vi ns) (hrl : raw.length ≤ 9223372036854775807) (hC : ConP w) (hg : Tryz.prog.globals.size ≤ w.heap.size) (hR : Reads0 Tryz.prog H0 w) :
  Calls Tryz.prog 4 #[vi, .string ⟨⟨raw⟩⟩] w (LawR w) := by
 obtain ⟨A, ca, rfl, hi1, hi2, hi3⟩ := id hi
 have hI : IntsAt w w.heap.size (.slice A ns.length ca) ns := hi
 have hgg := fun (w' : World) (b : Below w.heap.size w w') => Nat.le_trans hg b.size
 refine calls_at (args := [.slice A ns.length ca, .string ⟨⟨raw⟩⟩]) (fn := Tryz.f4) (c := codePr) (n := 80) (by kernel_rfl) (by kernel_rfl) (by kernel_rfl) (by kernel_rfl) ?_
 refine at_run 60 [.code codePr] w.heap.size [] [] tPr0 [(0, .slice A ns.length ca), (1, .string ⟨⟨raw⟩⟩), (18, .bool (decide ((1000 : Int) < (raw.length : Int))))] w.heap.size [] (lies_nil w) (by kernel_rfl) fun w1 E1 hL1 hK1 => ?_
 have B1 : Below w.heap.size w w1 := hK1.below (Nat.le_refl _) (fun k hk => by cases hk)
 refine at_cond (decide ((1000 : Int) < (raw.length : Int))) (by kernel_rfl) (fun _ => ?_) (fun hf => ?_)
 ·refine at_run 60 (thenT tPr0) w1.heap.size [] [] tPra [] w1.heap.size [] (lies_nil w1) (by kernel_rfl) fun w2 E2 hL2 hK2 => ?_
  have B2 := B1.trans ((hK2.below (Nat.le_refl _) (fun k hk => by cases hk) : Below w1.heap.size w1 w2).mono B1.size)
  refine at_call 12 [] (some 19) [] (by kernel_rfl) (by kernel_rfl) (by kernel_rfl) ((awake_any w2 (reads0_below hR hg B2)).mono fun e w3 hh => ?_)
  obtain ⟨rfl, b3⟩ := hh
  refine ⟨_, rfl, ?_⟩
  have B3 := B2.trans (b3.mono B2.size)
  exact at_endT (fn := Tryz.f4) 60 (.bool true) (by kernel_rfl) (by kernel_rfl) fun w4 B4 => ⟨rfl, B3.trans (B4.mono B3.size)⟩
 have hrw : raw.length ≤ 1000 := by have := of_decide_eq_false hf; omega
 refine at_run 60 (elseT tPr0) w1.heap.size [] [] tPr1 [(1, .string ⟨⟨raw⟩⟩), (20, .slice A ns.length ca)] w1.heap.size [] (lies_nil w1) (by kernel_rfl) fun w4 E4 hL4 hK4 => ?_
 have B4 := B1.trans ((hK4.below (Nat.le_refl _) (fun k hk => by cases hk) : Below w1.heap.size w1 w4).mono B1.size)
 refine at_call 13 [.tmp 20] (some 21) [.slice A ns.length ca] (by kernel_rfl) (by kernel_rfl) (by kernel_rfl) ((dnew_any _ ns w4 ((hI.keep fun g hg => B4.block g hg).more B4.size)).mono fun e w5 hh => ?_)
 obtain ⟨rfl, D5, b5⟩ := hh
 refine ⟨_, rfl, ?_⟩
 have B5 := B4.trans (b5.mono B4.size)
 have hb0 := B4.size
 generalize w4.heap.size = b at *
 refine at_run 60 (popOp tPr1) w5.heap.size [] [] tPr2 [(1, .string ⟨⟨raw⟩⟩), (5, pb b), (23, pb b)] w5.heap.size [] (lies_nil w5) (by kernel_rfl) fun w6 E6 hL6 hK6 => ?_
 have b6 : Below w5.heap.size w5 w6 := hK6.below (Nat.le_refl _) (fun k hk => by cases hk)
 have B6 := B5.trans (b6.mono B5.size)
 have D6 := D5.below b6
 refine at_call 15 [.tmp 23, .const (.int .i64 8), .const (.bool true)] (some 24) [pb b, .int .i64 (8 : Nat), .bool true] (by kernel_rfl) (by kernel_rfl) (by kernel_rfl) ((dcommands_any b ns 0 8 w6 D6 (by omega) (by omega)).mono fun e w7 hh => ?_)
 obtain ⟨vc, l, hl1, hl2, rfl, S7⟩ := hh
 refine ⟨_, rfl, ?_⟩
 have hlb := D6.lt
 have B7 := B6.trans (S7.dk.but.below (by omega) B6.size)
 have hwf : ∀ c ∈ l, c.Wf := fun c hc => (S7.gen c hc).wf
 have hlen : (l.flatMap textC).length ≤ 65536 := by
  have := flat_le 1000 l fun c hc => (S7.gen c hc).len
  omega
 have hfm : fmtS [] l = some (l.flatMap textC) := fmt_all l [] (fun c hc => (S7.gen c hc).ok) hlen
 generalize l.flatMap textC = text at *
 refine at_run 60 (popOp tPr2) w7.heap.size [] [] tPr3 [(1, .string ⟨⟨raw⟩⟩), (5, pb b), (24, vc)] w7.heap.size [] (lies_nil w7) (by kernel_rfl) fun w8 E8 hL8 hK8 => ?_
 have b8 : Below w7.heap.size w7 w8 := hK8.below (Nat.le_refl _) (fun k hk => by cases hk)
 have S8 := S7.below b8
 have B8 := B7.trans (b8.mono B7.size)
 refine at_call 14 [.tmp 24] (some 25) [vc] (by kernel_rfl) (by kernel_rfl) (by kernel_rfl) ((rformatAll_any l vc w8 hwf (own_cmds S8.own) (by omega)).mono fun e w9 hh => ?_)
 obtain ⟨rfl, b9⟩ := hh
 refine ⟨_, rfl, ?_⟩
 rw [hfm]
 have S9 := S8.below b9
 have B9 := B8.trans (b9.mono B8.size)
 refine at_run 60 (popOp tPr3) w9.heap.size [] [] tPr4 [(1, .string ⟨⟨raw⟩⟩), (6, .string ⟨⟨text⟩⟩), (28, .string ⟨⟨text⟩⟩), (29, pb b), (30, .string ⟨⟨text⟩⟩)] w9.heap.size [] (lies_nil w9) (by kernel_rfl) fun w10 E10 hL10 hK10 => ?_
 have b10 : Below w9.heap.size w9 w10 := hK10.below (Nat.le_refl _) (fun k hk => by cases hk)
 have S10 := S9.below b10
 have B10 := B9.trans (b10.mono B9.size)
 refine at_call 16 [.tmp 29, .tmp 30] (some 31) [pb b, .string ⟨⟨text⟩⟩] (by kernel_rfl) (by kernel_rfl) (by kernel_rfl) ((ddamage_any b ns _ text w10 S10.dk.deck (by omega) (by omega)).mono fun e w11 hh => ?_)
 obtain ⟨t, htl, rfl, d11⟩ := hh
 refine ⟨_, rfl, ?_⟩
 have B11 := B10.trans (d11.but.below (by omega) B10.size)
 refine at_run (cntO isAddO 90 (popOp tPr4)) (popOp tPr4) w11.heap.size [] [] tPr5 [(1, .string ⟨⟨raw⟩⟩), (6, .string ⟨⟨text⟩⟩), (28, .string ⟨⟨text⟩⟩), (31, .string ⟨⟨t⟩⟩), (32, .string ⟨⟨raw⟩⟩), (33, .string ⟨⟨text⟩⟩), (34, .string ⟨⟨raw⟩⟩)] w11.heap.size [] (lies_nil w11) (by kernel_rfl) fun w12 E12 hL12 hK12 => ?_
 have B12 := B11.trans ((hK12.below (Nat.le_refl _) (fun k hk => by cases hk) : Below w11.heap.size w11 w12).mono B11.size)
 refine at_op (opAt tPr5) (by kernel_rfl) (v := .string ⟨⟨text ++ raw⟩⟩) (w' := w12) (exec_addS (T := 9) (T' := 9) (x := .tmp 33) (y := .tmp 34) (by kernel_rfl) (by kernel_rfl) (by kernel_rfl) (by omega)) ?_
 have hl4 : (text ++ raw).length = text.length + raw.length := List.length_append
 generalize hx4 : text ++ raw = x4 at *
 refine at_run (cntO isAddO 90 (popOp tPr5)) (popOp tPr5) w12.heap.size [] [] tPr6 [(6, .string ⟨⟨text⟩⟩), (28, .string ⟨⟨text⟩⟩), (31, .string ⟨⟨t⟩⟩), (32, .string ⟨⟨raw⟩⟩), (35, .string ⟨⟨x4⟩⟩), (36, .string ⟨⟨raw⟩⟩)] w12.heap.size [] (lies_nil w12) (by kernel_rfl) fun w13 E13 hL13 hK13 => ?_
 have B13 := B12.trans ((hK13.below (Nat.le_refl _) (fun k hk => by cases hk) : Below w12.heap.size w12 w13).mono B12.size)
 refine at_op (opAt tPr6) (by kernel_rfl) (v := .string ⟨⟨raw ++ [10]⟩⟩) (w' := w13) (exec_addS (T := 9) (T' := 9) (x := .tmp 36) (y := .const (.string ⟨⟨[10]⟩⟩)) (by kernel_rfl) (by kernel_rfl) (by kernel_rfl) (by simp only [List.length_cons, List.length_nil]; omega)) ?_
 have hl5 : (raw ++ [10]).length = raw.length + 1 := by rw [List.length_append]; rfl
 generalize hx5 : raw ++ [10] = x5 at *
 refine at_run (cntO isAddO 90 (popOp tPr6)) (popOp tPr6) w13.heap.size [] [] tPr7 [(28, .string ⟨⟨text⟩⟩), (31, .string ⟨⟨t⟩⟩), (32, .string ⟨⟨raw⟩⟩), (35, .string ⟨⟨x4⟩⟩), (37, .string ⟨⟨x5⟩⟩), (38, .string ⟨⟨text⟩⟩)] w13.heap.size [] (lies_nil w13) (by kernel_rfl) fun w14 E14 hL14 hK14 => ?_
 have B14 := B13.trans ((hK14.below (Nat.le_refl _) (fun k hk => by cases hk) : Below w13.heap.size w13 w14).mono B13.size)
 refine at_op (opAt tPr7) (by kernel_rfl) (v := .string ⟨⟨x5 ++ text⟩⟩) (w' := w14) (exec_addS (T := 9) (T' := 9) (x := .tmp 37) (y := .tmp 38) (by kernel_rfl) (by kernel_rfl) (by kernel_rfl) (by omega)) ?_
 have hl6 : (x5 ++ text).length = x5.length + text.length := List.length_append
 generalize hx6 : x5 ++ text = x6 at *
 have hall : ∀ s ∈ ([text, t, raw, x4, x6] : List (List UInt8)), s.length ≤ 4294967296 := by
  intro s hs
  simp only [List.mem_cons, List.not_mem_nil, or_false] at hs
  rcases hs with rfl | rfl | rfl | rfl | rfl <;> omega
 refine at_run 60 (popOp tPr7) w14.heap.size [] [] tPr8 [(8, .slice (some ⟨w14.heap.size, 0, none⟩) 5 5), (9, .int .i64 ((0 : Nat) : Int))] (w14.heap.size + 1) [⟨w14.heap.size, 0, strsM [text, t, raw, x4, x6], 9, true⟩] (lies_nil w14) (by kernel_rfl) fun w15 E15 hL15 hK15 => ?_
 have B15 := B14.trans ((hK15.below (Nat.le_refl _) (fun k hk => by cases hk) : Below w14.heap.size w14 w15).mono B14.size)
 have g15 := own_good (hL15.sat.good _ (List.mem_singleton.2 rfl))
 generalize w14.heap.size = g8 at *
 have hlen5 : ([text, t, raw, x4, x6] : List (List UInt8)).length = 5 := rfl
 generalize ([text, t, raw, x4, x6] : List (List UInt8)) = T at *
 refine at_loop (by kernel_rfl) (fun E wx => ∃ (i : Nat) (E0 : Nat → Value), i ≤ 5 ∧ E = updL E0 [(8, .slice (some ⟨g8, 0, none⟩) 5 5), (9, .int .i64 (i : Nat))] ∧ Below w.heap.size w wx ∧ wx.heap[g8]? = some (.cells (strsM T).toArray 9 (0, 0)))
  (fun E _ => 5 - idxOf (E 9)) ⟨0, E15, Nat.zero_le _, rfl, B15, g15⟩ ?_
 rintro E wx ⟨i, E0, hi5, rfl, Bx, gx⟩ hagain
 refine at_run 60 (bodyT tPr8) wx.heap.size [] [] tPr9 [(8, .slice (some ⟨g8, 0, none⟩) 5 5), (9, .int .i64 (i : Nat)), (44, .bool (decide ((i : Int) < 5)))] wx.heap.size [] (lies_nil wx) (by kernel_rfl) fun w16 E16 hL16 hK16 => ?_
 have b16 : Below wx.heap.size wx w16 := hK16.below (Nat.le_refl _) (fun k hk => by cases hk)
 have B16 := Bx.trans (b16.mono Bx.size)
 have g16 := (b16.block _ (heap_lt gx)).trans gx
 refine at_cond (decide ((i : Int) < 5)) (by kernel_rfl) (fun ht => ?_) (fun hff => ?_)
 ·have hlt : i < 5 := by have := of_decide_eq_true ht; omega
  have hiT : i < T.length := by omega
  have hsl := hall _ (List.getElem_mem hiT)
  have hsc : (strsM T)[i]? = some (.string ⟨⟨T[i]⟩⟩) := by simp [hiT]
  generalize T[i] = s at hsl hsc
  have hcell : ∀ u : World, u.heap[g8]? = some (.cells (strsM T).toArray 9 (0, 0)) → u.cell? ⟨g8, 0 + i * 1, none⟩ = some (.string ⟨⟨s⟩⟩) := fun u hu => by
   have := rangeAt_lit hu 0 (strsM T) (by rw [List.drop_zero, List.take_length]) i _ hsc
   simpa using this
  obtain ⟨hwfS, hcnt⟩ := res_good s
  refine at_run (cntO isIdxA 90 (thenT tPr9)) (thenT tPr9) w16.heap.size [] [] tPrb [(8, .slice (some ⟨g8, 0, none⟩) 5 5), (9, .int .i64 (i : Nat)), (48, .slice (some ⟨g8, 0, none⟩) 5 5), (49, .int .i64 (i : Nat))] w16.heap.size [] (lies_nil w16) (by kernel_rfl) fun w17 E17 hL17 hK17 => ?_
  have b17 : Below w16.heap.size w16 w17 := hK17.below (Nat.le_refl _) (fun k hk => by cases hk)
  have B17 := B16.trans (b17.mono B16.size)
  have g17 := (b17.block _ (heap_lt g16)).trans g16
  refine at_elem (g := g8) (off := 0) (cap := 5) (sz := 1) (k := i) (len := 5) (some 50) (by kernel_rfl) hlt Tryz.underlying53 (by kernel_rfl) ?_
  refine at_load1 9 g8 (0 + i * 1) (.string ⟨⟨s⟩⟩) (some 51) (by kernel_rfl) (by kernel_rfl) (hcell w17 g17) ?_
  refine at_known [(8, .slice (some ⟨g8, 0, none⟩) 5 5), (9, .int .i64 (i : Nat)), (51, .string ⟨⟨s⟩⟩)] (by kernel_rfl) fun E18 => ?_
  refine at_call 17 [.tmp 51] (some 52) [.string ⟨⟨s⟩⟩] (by kernel_rfl) (by kernel_rfl) (by kernel_rfl) ((parse_post s w17 hsl (hC.below hg B17) (hgg w17 B17)).mono fun e w18 hh => ?_)
  obtain ⟨b18, v1, rfl, o1⟩ := hh
  refine ⟨_, rfl, ?_⟩
  have B18 := B17.trans (b18.mono B17.size)
  have g18 := (b18.block _ (heap_lt g17)).trans g17
  have hpost := fun u => rparse_post s u hsl
  unfold PostP at hpost
  generalize (resP s).2.1 = rn at *
  generalize (resP s).2.2 = re at *
  generalize (resP s).1 = rl at *
  refine at_run (cntO isIdxA 90 (popOp tPrc)) (popOp tPrc) w18.heap.size [] [] tPrd [(8, .slice (some ⟨g8, 0, none⟩) 5 5), (9, .int .i64 (i : Nat)), (10, v1), (11, .int .i64 rn), (12, .int .i64 re), (57, .slice (some ⟨g8, 0, none⟩) 5 5), (58, .int .i64 (i : Nat))] w18.heap.size [] (lies_nil w18) (by kernel_rfl) fun w19 E19 hL19 hK19 => ?_
  have b19 : Below w18.heap.size w18 w19 := hK19.below (Nat.le_refl _) (fun k hk => by cases hk)
  have B19 := B18.trans (b19.mono B18.size)
  have g19 := (b19.block _ (heap_lt g18)).trans g18
  have o19 := owns_below o1 b19
  refine at_elem (g := g8) (off := 0) (cap := 5) (sz := 1) (k := i) (len := 5) (some 59) (by kernel_rfl) hlt Tryz.underlying53 (by kernel_rfl) ?_
  refine at_load1 9 g8 (0 + i * 1) (.string ⟨⟨s⟩⟩) (some 60) (by kernel_rfl) (by kernel_rfl) (hcell w19 g19) ?_
  refine at_known [(8, .slice (some ⟨g8, 0, none⟩) 5 5), (9, .int .i64 (i : Nat)), (10, v1), (11, .int .i64 rn), (12, .int .i64 re), (60, .string ⟨⟨s⟩⟩)] (by kernel_rfl) fun E20 => ?_
  refine at_call 18 [.tmp 60] (some 61) [.string ⟨⟨s⟩⟩] (by kernel_rfl) (by kernel_rfl) (by kernel_rfl) ((hpost w19).mono fun e w20 hh => ?_)
  obtain ⟨b20, v2, rfl, o2⟩ := hh
  refine ⟨_, rfl, ?_⟩
  have B20 := B19.trans (b20.mono B19.size)
  have g20 := (b20.block _ (heap_lt g19)).trans g19
  have o20 := owns_below o19 b20
  refine at_run (cntG 90 (popOp tPre)) (popOp tPre) w20.heap.size [] [] tPrf [(8, .slice (some ⟨g8, 0, none⟩) 5 5), (9, .int .i64 (i : Nat)), (10, v1), (11, .int .i64 rn), (12, .int .i64 re), (13, v2), (14, .int .i64 rn), (15, .int .i64 re)] w20.heap.size [] (lies_nil w20) (by kernel_rfl) fun w21 E21 hL21 hK21 => ?_
  have b21 : Below w20.heap.size w20 w21 := hK21.below (Nat.le_refl _) (fun k hk => by cases hk)
  have B21 := B20.trans (b21.mono B20.size)
  have g21 := (b21.block _ (heap_lt g20)).trans g20
  have o21 := owns_below o20 b21
  have p21 := owns_below o2 b21
  refine at_ghost ((curReg tPrf).getD #[]) ⟨[], [], [⟨11, [(74, v1), (75, v2)], .bool true, (!(cond (!(re == re)) true (!(rn == rn)))) && true⟩]⟩ [(8, .slice (some ⟨g8, 0, none⟩) 5 5), (9, .int .i64 (i : Nat)), (78, .bool (cond (cond (!(re == re)) true (!(rn == rn))) true false))] (by kernel_rfl) (by kernel_rfl) (by kernel_rfl)
   (fun e he => by cases he) (fun sp hsp => ?_) (fun X => by kernel_rfl) (by kernel_rfl) fun w22 E22 b22 => ?_
  ·rw [List.mem_singleton.1 hsp]
   refine spec_call 19 [.tmp 74, .tmp 75] [v1, v2] (by kernel_rfl) (by kernel_rfl) (fun _ => by kernel_rfl) fun _ u hu => ?_
   refine below_call hu ((same_any rl rl v1 v2 u hwfS hwfS ((own_cmds o21).below hu.size hu) ((own_cmds p21).below hu.size hu) (by omega) (by omega)).mono fun e w' hh => ?_)
   rw [decide_eq_true (rfl : rl = rl)] at hh
   exact hh
  have B22 := B21.trans (b22.mono B21.size)
  have g22 := (b22.block _ (heap_lt g21)).trans g21
  have hfalse : cond (cond (!(re == re)) true (!(rn == rn))) true false = false := by rw [beq_self_eq_true, beq_self_eq_true]; rfl
  rw [hfalse]
  refine at_run 60 (tailT tPrf) w22.heap.size [] [] tPrg [(8, .slice (some ⟨g8, 0, none⟩) 5 5), (9, .int .i64 (i : Nat)), (78, .bool false)] w22.heap.size [] (lies_nil w22) (by kernel_rfl) fun w23 E23 hL23 hK23 => ?_
  have b23 : Below w22.heap.size w22 w23 := hK23.below (Nat.le_refl _) (fun k hk => by cases hk)
  have B23 := B22.trans (b23.mono B22.size)
  have g23 := (b23.block _ (heap_lt g22)).trans g22
  refine at_cond false (by kernel_rfl) (fun h => nomatch h) fun _ => ?_
  refine at_run 60 (elseT tPrg) w23.heap.size [] [] (againT tPr8) [(8, .slice (some ⟨g8, 0, none⟩) 5 5), (9, .int .i64 (IntKind.i64.wrap ((i : Int) + 1)))] w23.heap.size [] (lies_nil w23) (by kernel_rfl) fun w24 E24 hL24 hK24 => ?_
  have b24 : Below w23.heap.size w23 w24 := hK24.below (Nat.le_refl _) (fun k hk => by cases hk)
  rw [wrap1 i (by omega)]
  refine hagain _ _ ⟨i + 1, E24, hlt, rfl, B23.trans (b24.mono B23.size), (b24.block _ (heap_lt g23)).trans g23⟩ ?_
  show 5 - idxOf (.int .i64 ((i + 1 : Nat) : Int)) < 5 - idxOf (.int .i64 (i : Int))
  simp only [idxOf]
  omega
 ·refine at_run 60 (elseT tPr9) w16.heap.size [] [] tPrh [] w16.heap.size [] (lies_nil w16) (by kernel_rfl) fun w17 E17 hL17 hK17 => ?_
  have B17 := B16.trans ((hK17.below (Nat.le_refl _) (fun k hk => by cases hk) : Below w16.heap.size w16 w17).mono B16.size)
  refine at_call 12 [] (some 79) [] (by kernel_rfl) (by kernel_rfl) (by kernel_rfl) ((awake_any w17 (reads0_below hR hg B17)).mono fun e w18 hh => ?_)
  obtain ⟨rfl, b18⟩ := hh
  refine ⟨_, rfl, ?_⟩
  have B18 := B17.trans (b18.mono B17.size)
  exact at_endT (fn := Tryz.f4) 60 (.bool true) (by kernel_rfl) (by kernel_rfl) fun w19 B19 => ⟨rfl, B18.trans (B19.mono B18.size)⟩
end Go.Proofs.YtdcbnkimjhefkaaGreatDoor

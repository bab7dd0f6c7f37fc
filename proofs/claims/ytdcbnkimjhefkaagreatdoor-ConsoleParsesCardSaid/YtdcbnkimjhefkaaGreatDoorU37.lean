/-
 payrollref46's Parse: a round, the whole.
 The reference's Parse is the program's.
-/
import Derived.Test.YtdcbnkimjhefkaaGreatDoorU36
import Derived.Test.YtdcbnkimjhefkaaGreatDoorU33
namespace Go.Proofs.YtdcbnkimjhefkaaGreatDoor
open Go.RowKit
set_option maxRecDepth 100000
variable {w0 wl w : World} {g off cap N j k i m : Nat} {v : Value} {b : Bool} {E : Nat → Value} {L : List (List UInt8)} {acc : List Cmd} {A : Option Addr}
theorem rp_simple {out : Except Nat (List Cmd)} {vw : Value} {x0 : List UInt8} {ws : List (List UInt8)} (hw : Below w0.heap.size w0 wl) (hN : L.length = N) (hn : N ≤ 65536) (hi : i < N) (hm : N - i < m + 1) (hal : acc.length ≤ i) (S : PaS wl v acc w)
  (hvw : StrsAt w w.heap.size vw (x0 :: ws)) (hel : ∀ y ∈ x0 :: ws, y.length ≤ 4294967296) (hwn : ws.length ≤ 4294967290)
  (ho : (match simpleR (x0 :: ws) with
   | none => .error (N - (N - (i + 1)))
   | some c => rparB N m (L.drop (i + 1)) (acc ++ [c])) = out) (again : Again w0 wl A cap N b L out i) :
  At Tryz.prog 18 (FinR w0 out b N) (thenT tRp7) (Fr 112 (updL E (envRp A cap N b v i ++ [(9, vw)]))) w := by
 refine at_run 60 (thenT tRp7) w.heap.size [] [] tRp8 (envRp A cap N b v i ++ [(39, vw)]) w.heap.size [] (lies_nil w) (by kernel_rfl) fun w1 E1 hL1 hK1 => ?_
 have b1 : Below w.heap.size w w1 := hK1.below (Nat.le_refl _) (fun k hk => by cases hk)
 have S1 := S.below b1
 refine at_call 41 [.tmp 39] (some 40) [vw] (by kernel_rfl) (by kernel_rfl) (by kernel_rfl) ((simple_any x0 ws vw w1 (hvw.below b1.size b1) hel hwn).mono fun e w2 hh => ?_)
 obtain ⟨rfl, b2⟩ := hh
 refine ⟨_, rfl, ?_⟩
 have S2 := S1.below b2
 unfold simV
 cases hsr : simpleR (x0 :: ws) with
 | none =>
  rw [hsr] at ho
  subst ho
  refine at_run 60 (popOp tRp8) w2.heap.size [] [(0, 0)] tRp9 (envRp A cap N b v i ++ [(44, .bool true)]) (w2.heap.size + 1) [⟨w2.heap.size, 0, zeroC, 64, true⟩] (lies_nil w2) (by kernel_rfl) fun w3 E3 hL3 hK3 => ?_
  have S3 := S2.below (hK3.below (Nat.le_refl _) (fun k hk => by cases hk))
  refine at_cond true (by kernel_rfl) (fun _ => ?_) (fun h => nomatch h)
  exact rp_bad hw S3 hi hn (by kernel_rfl)
 | some c =>
  rw [hsr] at ho
  replace ho : rparB N m (L.drop (i + 1)) (acc ++ [c]) = out := ho
  refine at_run 60 (popOp tRp8) w2.heap.size [] [(0, 0)] tRp9 (envRp A cap N b v i ++ [(10, pt w2.heap.size), (44, .bool false)]) (w2.heap.size + 1) [⟨w2.heap.size, 0, c.cells, 64, true⟩] (lies_nil w2) (by kernel_rfl) fun w3 E3 hL3 hK3 => ?_
  have S3 := S2.below (hK3.below (Nat.le_refl _) (fun k hk => by cases hk))
  have g3 := own_good (hL3.sat.good _ (List.mem_singleton.2 rfl))
  generalize w2.heap.size = k3 at *
  refine at_cond false (by kernel_rfl) (fun h => nomatch h) fun _ => ?_
  refine at_run 60 (elseT tRp9) w3.heap.size [⟨k3, 0, c.cells, 64, true⟩] [(0, 0)] tRpa [(5, aS A cap N), (6, .bool b), (8, .int .i64 (i : Nat)), (47, v), (49, .slice (some ⟨w3.heap.size, 0, none⟩) 1 1)] (w3.heap.size + 1) [⟨k3, 0, c.cells, 64, true⟩, ⟨w3.heap.size, 0, c.cells, 64, true⟩] (lies_one g3) (by kernel_rfl) fun w4 E4 hL4 hK4 => ?_
  have g4 := own_good (hL4.sat.good ⟨w3.heap.size, 0, c.cells, 64, true⟩ (by simp))
  have S4 : PaS wl v acc w4 := S3.below (kept_same hK4 g3 (own_good (hL4.sat.good ⟨k3, 0, c.cells, 64, true⟩ (by simp))))
  generalize w3.heap.size = k4 at *
  refine push_rp S4 (by omega) g4 (.tmp 47) (.tmp 49) (opAt tRpa) (by kernel_rfl) (by kernel_rfl) (by kernel_rfl) (by kernel_rfl) fun v' w5 S5 => ?_
  refine at_run 60 (popOp tRpa) w5.heap.size [] [] (againT tRp2) [(5, aS A cap N), (6, .bool b), (7, v'), (8, .int .i64 (IntKind.i64.wrap ((i : Int) + 1)))] w5.heap.size [] (lies_nil w5) (by kernel_rfl) fun w6 E6 hL6 hK6 => ?_
  rw [wrap1 i (by omega)]
  exact again (i + 1) m v' _ E6 w6 (by omega) hi (by omega) (by rw [List.length_append, List.length_singleton]; omega) ho (S5.below (hK6.below (Nat.le_refl _) (fun k hk => by cases hk)))
theorem rp_begin {out : Except Nat (List Cmd)} {vw : Value} {x0 : List UInt8} {ws : List (List UInt8)} (hw : Below w0.heap.size w0 wl) (H : LnsAt wl A L) (hN : L.length = N) (hi : i < N) (hm : N - i < m + 1) (hal : acc.length ≤ i) (S : PaS wl v acc w)
  (hvw : StrsAt w w.heap.size vw (x0 :: ws)) (hel : ∀ y ∈ x0 :: ws, y.length ≤ 4294967296) (hwn : ws.length ≤ 4294967290)
  (ho : (match numsR ws with
   | some [n] => (match agrR (L.drop (i + 1)) [] with
    | none => .error (N + 1)
    | some (t, r') => rparB N m r' (acc ++ [fc 0 5 n [] 0 0 0 t]))
   | _ => .error (N - (N - (i + 1)))) = out) (again : Again w0 wl A cap N b L out i) :
  At Tryz.prog 18 (FinR w0 out b N) (elseT tRp7) (Fr 112 (updL E (envRp A cap N b v i ++ [(9, vw)]))) w := by
 have hn : N ≤ 65536 := by rw [← hN]; exact H.n
 obtain ⟨gw, ow, cw, rfl, _, hst⟩ := strs_tail hvw
 refine at_run (cntO isSliceO 90 (elseT tRp7)) (elseT tRp7) w.heap.size [] [] tRpb (envRp A cap N b v i ++ [(52, .slice (some ⟨gw, ow, none⟩) (ws.length + 1) cw)]) w.heap.size [] (lies_nil w) (by kernel_rfl) fun w1 E1 hL1 hK1 => ?_
 have b1 : Below w.heap.size w w1 := hK1.below (Nat.le_refl _) (fun k hk => by cases hk)
 have S1 := S.below b1
 have hst1 := hst.below b1.size b1
 refine at_op (opAt tRpb) (by kernel_rfl) (v := sliced (some ⟨gw, ow, none⟩) 1 (ws.length + 1) cw 1) (w' := w1) (exec_slLo (t := 53) (e := 9) (x := .tmp 52) (by kernel_rfl) Tryz.underlying53 (by kernel_rfl) (by kernel_rfl) (by omega) (by kernel_rfl)) ?_
 generalize sliced (some ⟨gw, ow, none⟩) 1 (ws.length + 1) cw 1 = v1 at *
 refine at_run 60 (popOp tRpb) w1.heap.size [] [] tRpc (envRp A cap N b v i ++ [(53, v1)]) w1.heap.size [] (lies_nil w1) (by kernel_rfl) fun w2 E2 hL2 hK2 => ?_
 have b2 : Below w1.heap.size w1 w2 := hK2.below (Nat.le_refl _) (fun k hk => by cases hk)
 have S2 := S1.below b2
 refine at_call 42 [.tmp 53] (some 54) [v1] (by kernel_rfl) (by kernel_rfl) (by kernel_rfl) ((numbers_any ws v1 w2 (hst1.below b2.size b2) (fun y hy => hel y (List.mem_cons_of_mem _ hy)) (by omega)).mono fun e w3 hh => ?_)
 obtain ⟨b3, hr⟩ := hh
 have S3 := S2.below b3
 cases hnr : numsR ws with
 | none =>
  rw [hnr] at hr ho
  simp only at hr
  subst hr
  subst ho
  refine ⟨_, rfl, ?_⟩
  refine at_run (cntG 90 (popOp tRpc)) (popOp tRpc) w3.heap.size [] [] tRpd (envRp A cap N b v i ++ [(12, .slice none 0 0), (13, .bool false)]) w3.heap.size [] (lies_nil w3) (by kernel_rfl) fun w4 E4 hL4 hK4 => ?_
  have S4 := S3.below (hK4.below (Nat.le_refl _) (fun k hk => by cases hk))
  refine at_ghost ((curReg tRpd).getD #[]) ⟨[], [], []⟩ (envRp A cap N b v i ++ [(63, .bool true)]) (by kernel_rfl) (by kernel_rfl) (by kernel_rfl) (fun e he => by cases he) (fun sp hsp => by cases hsp) (fun X => by kernel_rfl) (by kernel_rfl) fun w5 E5 b5 => ?_
  have S5 := S4.below b5
  refine at_run 60 (tailT tRpd) w5.heap.size [] [] tRpe (envRp A cap N b v i ++ [(63, .bool true)]) w5.heap.size [] (lies_nil w5) (by kernel_rfl) fun w6 E6 hL6 hK6 => ?_
  have S6 := S5.below (hK6.below (Nat.le_refl _) (fun k hk => by cases hk))
  refine at_cond true (by kernel_rfl) (fun _ => ?_) (fun h => nomatch h)
  exact rp_bad hw S6 hi hn (by kernel_rfl)
 | some ns =>
  rw [hnr] at hr ho
  obtain ⟨vn, rfl, hown⟩ := hr
  refine ⟨_, rfl, ?_⟩
  obtain ⟨An, cn, rfl⟩ := own_slice hown
  refine at_run (cntG 90 (popOp tRpc)) (popOp tRpc) w3.heap.size [] [] tRpd (envRp A cap N b v i ++ [(12, .slice An ns.length cn), (13, .bool true)]) w3.heap.size [] (lies_nil w3) (by kernel_rfl) fun w4 E4 hL4 hK4 => ?_
  have b4 : Below w3.heap.size w3 w4 := hK4.below (Nat.le_refl _) (fun k hk => by cases hk)
  have S4 := S3.below b4
  refine at_ghost ((curReg tRpd).getD #[]) ⟨[], [], []⟩ (envRp A cap N b v i ++ [(12, .slice An ns.length cn), (63, .bool (cond false true (!((ns.length : Int) == 1))))]) (by kernel_rfl) (by kernel_rfl) (by kernel_rfl) (fun e he => by cases he) (fun sp hsp => by cases hsp) (fun X => by kernel_rfl) (by kernel_rfl) fun w5 E5 b5 => ?_
  have S5 := S4.below b5
  by_cases h1 : ∃ n, ns = [n]
  ·obtain ⟨n, rfl⟩ := h1
   obtain ⟨gn, cp, he, hgb, hgl, hgr⟩ := own_ints hown (by simp)
   obtain ⟨rfl, _, _⟩ := Value.slice.inj he
   refine at_run 60 (tailT tRpd) w5.heap.size [] [] tRpe (envRp A cap N b v i ++ [(12, .slice (some ⟨gn, 0, none⟩) 1 cn), (63, .bool false)]) w5.heap.size [] (lies_nil w5) (by kernel_rfl) fun w6 E6 hL6 hK6 => ?_
   have b6 : Below w5.heap.size w5 w6 := hK6.below (Nat.le_refl _) (fun k hk => by cases hk)
   have S6 := S5.below b6
   refine at_cond false (by kernel_rfl) (fun h => nomatch h) fun _ => ?_
   have b36 : Below w3.heap.size w3 w6 := b4.trans ((b5.trans (b6.mono b5.size)).mono b4.size)
   have ge : Ent.good w6 ⟨gn, 0, [.int .i64 n], 0, false⟩ := ⟨Nat.lt_of_lt_of_le hgl b36.size, fun j u hu => (World.cell?_of_block (b36.block gn hgl)).trans (hgr j u hu)⟩
   refine at_run 60 (elseT tRpe) w6.heap.size [⟨gn, 0, [.int .i64 n], 0, false⟩] [(0, 0), (1, 0)] tRpf [(5, aS A cap N), (6, .bool b), (7, v), (8, .int .i64 (IntKind.i64.wrap ((i : Int) + 1))), (14, pt w6.heap.size)] (w6.heap.size + 1) [⟨gn, 0, [.int .i64 n], 0, false⟩, ⟨w6.heap.size, 0, (fc 0 5 n [] 0 0 0 []).fact, 61, true⟩] (lies_mk w6 _ (fun e he => by rw [List.mem_singleton.1 he]; exact ge) (by simp)) (by kernel_rfl) fun w7 E7 hL7 hK7 => ?_
   rw [wrap1 i (by omega)]
   have g7 := own_good (hL7.sat.good ⟨w6.heap.size, 0, (fc 0 5 n [] 0 0 0 []).fact, 61, true⟩ (by simp))
   have hk7 : PaS wl v acc w7 := by
    have hb : wl.heap.size ≤ gn := by have := S2.bel.size; omega
    have hva : ∀ q, v.ownBlock = some q → q ≠ gn := fun q hq e => by
     have := (own_block S2.own hq).2
     omega
    exact ⟨S6.bel.trans (hK7.below S6.bel.size (fun j hj => by rw [List.mem_singleton.1 hj]; exact hb)), owns_keep S6.own fun q hq => hK7.block q (own_block S6.own hq).2 (fun e => hva q hq (List.mem_singleton.1 e))⟩
   exact rp_agr hw H hN hi hm hal ⟨hk7, g7, S6.bel.size, own_ne S6.own (Nat.le_refl _)⟩ ho again
  ·have hn1 : ((ns.length : Int) == 1) = false := beq_eq_false_iff_ne.2 fun h => h1 (List.length_eq_one_iff.1 (by omega))
   have hbad : .error (N - (N - (i + 1))) = out := by
    rw [← ho]
    match ns, h1 with
    | [], _ => rfl
    | [n], h1 => exact absurd ⟨n, rfl⟩ h1
    | _ :: _ :: _, _ => rfl
   subst hbad
   rw [hn1]
   refine at_run 60 (tailT tRpd) w5.heap.size [] [] tRpe (envRp A cap N b v i ++ [(63, .bool true)]) w5.heap.size [] (lies_nil w5) (by kernel_rfl) fun w6 E6 hL6 hK6 => ?_
   have S6 := S5.below (hK6.below (Nat.le_refl _) (fun k hk => by cases hk))
   refine at_cond true (by kernel_rfl) (fun _ => ?_) (fun h => nomatch h)
   exact rp_bad hw S6 hi hn (by kernel_rfl)
theorem rp_loop {out : Except Nat (List Cmd)} (hw : Below w0.heap.size w0 wl) (H : LnsAt wl A L) (hN : L.length = N) (S0 : PaS wl v [] w) (ho : rparB N (N + 1) L [] = out) :
  At Tryz.prog 18 (FinR w0 out b N) tRp2 (Fr 112 (updL E (envRp A cap N b v 0))) w := by
 have hn : N ≤ 65536 := by rw [← hN]; exact H.n
 refine at_loop (by kernel_rfl) (fun E wx => ∃ (i m : Nat) (v : Value) (acc : List Cmd) (E0 : Nat → Value), i ≤ N ∧ N - i < m ∧ E = updL E0 (envRp A cap N b v i) ∧ rparB N m (L.drop i) acc = out ∧ acc.length ≤ i ∧ PaS wl v acc wx)
  (fun E _ => N - idxOf (E 8)) ⟨0, N + 1, v, [], E, Nat.zero_le _, by omega, rfl, ho, Nat.zero_le _, S0⟩ ?_
 rintro E wx ⟨i, m, v, acc, E0, hi, hm, rfl, ho, hal, S⟩ hagain
 obtain ⟨m, rfl⟩ : ∃ m', m = m' + 1 := ⟨m - 1, by omega⟩
 refine at_run 60 (bodyT tRp2) wx.heap.size [] [] tRp3 (envRp A cap N b v i ++ [(26, .bool (decide ((i : Int) < (N : Int))))]) wx.heap.size [] (lies_nil wx) (by kernel_rfl) fun w1 E1 hL1 hK1 => ?_
 have S1 := S.below (hK1.below (Nat.le_refl _) (fun k hk => by cases hk))
 refine at_cond (decide ((i : Int) < (N : Int))) (by kernel_rfl) (fun ht => ?_) (fun hf => ?_)
 ·have hlt : i < N := by have := of_decide_eq_true ht; omega
  have hil : i < L.length := by omega
  have hne : L ≠ [] := fun e => by rw [e] at hil; exact absurd hil (Nat.not_lt_zero _)
  have again : Again w0 wl A cap N b L out i := fun i' m' v' acc' E' w' h1 h2 h3 h4 h5 h6 => by
   refine hagain _ _ ⟨i', m', v', acc', E', h2, h3, rfl, h5, h4, h6⟩ ?_
   show N - idxOf (.int .i64 (i' : Int)) < N - idxOf (.int .i64 (i : Int))
   simp only [idxOf]
   omega
  obtain ⟨g, off, rfl, HL⟩ := H.h hne
  have hy : L[i]? = some L[i] := List.getElem?_eq_getElem hil
  have hxl := H.el _ (List.getElem_mem hil)
  have hd : L.drop i = L[i] :: L.drop (i + 1) := (List.getElem_cons_drop hil).symm
  rw [hd, rparB] at ho
  have hrl : (L.drop (i + 1)).length = N - (i + 1) := by rw [List.length_drop, hN]
  rw [hrl] at ho
  generalize L[i] = x at *
  obtain ⟨x0, ws, hws⟩ := wordsL_ne x
  obtain ⟨hel, hwn⟩ := wordsL_el x
  rw [hws] at ho hel hwn
  rw [List.length_cons] at hwn
  replace ho : (if x0 = agrW then (match numsR ws with
    | some [n] => (match agrR (L.drop (i + 1)) [] with
     | none => .error (N + 1)
     | some (t, r') => rparB N m r' (acc ++ [fc 0 5 n [] 0 0 0 t]))
    | _ => .error (N - (N - (i + 1))))
   else match simpleR (x0 :: ws) with
    | none => .error (N - (N - (i + 1)))
    | some c => rparB N m (L.drop (i + 1)) (acc ++ [c])) = out := ho
  refine at_run (cntO isIdxA 90 (thenT tRp3)) (thenT tRp3) w1.heap.size [] [] tRp4 (envRp (some ⟨g, off, none⟩) cap N b v i ++ [(29, aS (some ⟨g, off, none⟩) cap N), (30, .int .i64 (i : Nat))]) w1.heap.size [] (lies_nil w1) (by kernel_rfl) fun w2 E2 hL2 hK2 => ?_
  have S2 := S1.below (hK2.below (Nat.le_refl _) (fun k hk => by cases hk))
  refine at_elem (g := g) (off := off) (cap := cap) (sz := 1) (k := i) (len := N) (some 31) (by kernel_rfl) hlt Tryz.underlying53 (by kernel_rfl) ?_
  refine at_load1 9 g (off + i * 1) (.string ⟨⟨x⟩⟩) (some 32) (by kernel_rfl) (by kernel_rfl) (HL.cell S2.bel i x hy) ?_
  refine at_known (envRp (some ⟨g, off, none⟩) cap N b v i ++ [(32, .string ⟨⟨x⟩⟩)]) (by kernel_rfl) fun E3 => ?_
  refine at_call 40 [.tmp 32] (some 33) [.string ⟨⟨x⟩⟩] (by kernel_rfl) (by kernel_rfl) (by kernel_rfl) ((rwords_any x w2 (by omega)).mono fun e w3 hh => ?_)
  obtain ⟨vw, rfl, hown, b3⟩ := hh
  refine ⟨_, rfl, ?_⟩
  have S3 := S2.below b3
  rw [hws] at hown
  have hst : StrsAt w3 w3.heap.size vw (x0 :: ws) := own_strs hown
  obtain ⟨gw, ow, cw, rfl, _, _⟩ := strs_tail hst
  refine at_run (cntO isIdxA 90 (popOp (popOp (popOp tRp4)))) (popOp (popOp (popOp tRp4))) w3.heap.size [] [] tRp5 (envRp (some ⟨g, off, none⟩) cap N b v i ++ [(9, .slice (some ⟨gw, ow, none⟩) (ws.length + 1) cw), (34, .slice (some ⟨gw, ow, none⟩) (ws.length + 1) cw)]) w3.heap.size [] (lies_nil w3) (by kernel_rfl) fun w4 E4 hL4 hK4 => ?_
  have b4 : Below w3.heap.size w3 w4 := hK4.below (Nat.le_refl _) (fun k hk => by cases hk)
  have S4 := S3.below b4
  have hst4 := hst.below b4.size b4
  obtain ⟨gw', ow', cw', he', hc0, _⟩ := strs_tail hst4
  obtain ⟨e1, _, rfl⟩ := Value.slice.inj he'
  obtain ⟨rfl, rfl⟩ : gw = gw' ∧ ow = ow' := by have := Option.some.inj e1; exact ⟨congrArg Addr.block this, congrArg Addr.off this⟩
  refine at_elem (g := gw) (off := ow) (cap := cw) (sz := 1) (k := 0) (len := ws.length + 1) (some 35) (by kernel_rfl) (by omega) Tryz.underlying53 (by kernel_rfl) ?_
  refine at_load1 9 gw (ow + 0 * 1) (.string ⟨⟨x0⟩⟩) (some 36) (by kernel_rfl) (by kernel_rfl) hc0 ?_
  refine at_known (envRp (some ⟨g, off, none⟩) cap N b v i ++ [(9, .slice (some ⟨gw, ow, none⟩) (ws.length + 1) cw), (36, .string ⟨⟨x0⟩⟩)]) (by kernel_rfl) fun E5 => ?_
  refine at_neqs x0 agrW (some 37) (by kernel_rfl) ?_
  generalize hvw : Value.slice (some ⟨gw, ow, none⟩) (ws.length + 1) cw = vw at *
  refine at_run 60 (popOp tRp6) w4.heap.size [] [] tRp7 (envRp (some ⟨g, off, none⟩) cap N b v i ++ [(9, vw), (37, .bool (!(decide (x0 = agrW))))]) w4.heap.size [] (lies_nil w4) (by kernel_rfl) fun w5 E5 hL5 hK5 => ?_
  have b5 : Below w4.heap.size w4 w5 := hK5.below (Nat.le_refl _) (fun k hk => by cases hk)
  have S5 := S4.below b5
  have hst5 := hst4.below b5.size b5
  by_cases hx0 : x0 = agrW
  ·rw [if_pos hx0] at ho
   rw [decide_eq_true hx0]
   refine at_cond false (by kernel_rfl) (fun h => nomatch h) fun _ => ?_
   refine at_known (envRp (some ⟨g, off, none⟩) cap N b v i ++ [(9, vw)]) (by kernel_rfl) fun E6 => ?_
   exact rp_begin hw H hN hlt (by omega) hal S5 hst5 (fun y hy => by have := hel y hy; omega) (by omega) ho again
  ·rw [if_neg hx0] at ho
   rw [decide_eq_false hx0]
   refine at_cond true (by kernel_rfl) (fun _ => ?_) (fun h => nomatch h)
   refine at_known (envRp (some ⟨g, off, none⟩) cap N b v i ++ [(9, vw)]) (by kernel_rfl) fun E6 => ?_
   exact rp_simple hw hN hn hlt (by omega) hal S5 hst5 (fun y hy => by have := hel y hy; omega) (by omega) ho again
 ·have hie : i = N := by have := of_decide_eq_false hf; omega
  have hout : .ok acc = out := by
   rw [← ho, List.drop_eq_nil_of_le (by omega)]
   rfl
  subst hout
  refine at_known (envRp A cap N b v i) (by kernel_rfl) fun E2 => ?_
  exact rp_end hw S1 hn
theorem rparse_any (s : List UInt8) (w : World) (hs : s.length ≤ 4294967296) :
  Calls Tryz.prog 18 #[.string ⟨⟨s⟩⟩] w (RpR w s) := by
 refine calls_at (args := [.string ⟨⟨s⟩⟩]) (fn := Tryz.f18) (c := codeRp) (n := 112) (by kernel_rfl) (by kernel_rfl) (by kernel_rfl) (by kernel_rfl) ?_
 refine at_run 60 [.code codeRp] w.heap.size [] [] tRp0 [(0, .string ⟨⟨s⟩⟩), (17, .bool (decide ((65536 : Int) < (s.length : Int))))] w.heap.size [] (lies_nil w) (by kernel_rfl) fun w1 E1 hL1 hK1 => ?_
 have B1 : Below w.heap.size w w1 := hK1.below (Nat.le_refl _) (fun k hk => by cases hk)
 by_cases hbig : 65536 < s.length
 ·rw [decide_eq_true (by omega : (65536 : Int) < (s.length : Int))]
  refine at_cond true (by kernel_rfl) (fun _ => ?_) (fun h => nomatch h)
  exact at_endT (fn := Tryz.f18) 60 (.tuple #[.slice none 0 0, .int .i64 0, .int .i64 3]) (by kernel_rfl) (by kernel_rfl) fun w2 B2 => ⟨B1.trans (B2.mono B1.size), by rw [if_pos hbig]⟩
 rw [decide_eq_false (by omega : ¬ (65536 : Int) < (s.length : Int))]
 refine at_cond false (by kernel_rfl) (fun h => nomatch h) fun _ => ?_
 refine at_run 60 (elseT tRp0) w1.heap.size [] [] tRp1 [(19, .string ⟨⟨s⟩⟩)] w1.heap.size [] (lies_nil w1) (by kernel_rfl) fun w2 E2 hL2 hK2 => ?_
 have B2 := B1.trans ((hK2.below (Nat.le_refl _) (fun k hk => by cases hk) : Below w1.heap.size w1 w2).mono B1.size)
 have hel := splitL_el 10 s
 have hcl := splitL_len 10 s
 have hR : ∀ e w', FinR w (rparB (splitL 10 s).1.length ((splitL 10 s).1.length + 1) (splitL 10 s).1 []) (splitL 10 s).2.isEmpty (splitL 10 s).1.length e w' → RpR w s e w' := by
  intro e w' ⟨h1, h2⟩
  refine ⟨h1, ?_⟩
  rw [if_neg hbig]
  unfold rpar
  cases hq : rparB (splitL 10 s).1.length ((splitL 10 s).1.length + 1) (splitL 10 s).1 [] with
  | error ln => rw [hq] at h2; exact h2
  | ok acc =>
   rw [hq] at h2
   simp only at h2 ⊢
   split at h2
   ·rename_i hb; rw [if_pos hb]; exact h2
   ·rename_i hb; rw [if_neg hb]; exact h2
 refine at_call 39 [.tmp 19] (some 20) [.string ⟨⟨s⟩⟩] (by kernel_rfl) (by kernel_rfl) (by kernel_rfl) ((rlines_any s w2 hs).mono fun e w3 hh => ?_)
 obtain ⟨vl, rfl, hown, b3⟩ := hh
 refine ⟨_, rfl, ?_⟩
 have B3 := B2.trans (b3.mono B2.size)
 have hst : StrsAt w3 w3.heap.size vl (splitL 10 s).1 := own_strs hown
 generalize (splitL 10 s).1 = L at *
 generalize (splitL 10 s).2.isEmpty = b at *
 obtain ⟨A, cap, rfl, _, hc⟩ := hst
 refine at_run 60 (popOp tRp1) w3.heap.size [] [] tRp2 (envRp A cap L.length b (.slice none 0 0) 0) w3.heap.size [] (lies_nil w3) (by kernel_rfl) fun w4 E4 hL4 hK4 => ?_
 have H : LnsAt w3 A L := ⟨fun hne => let ⟨g, off, e, h1, h2⟩ := hc hne; ⟨g, off, e, h1, h2⟩, fun x hx => by have := hel.1 x hx; omega, by omega⟩
 have S4 : PaS w3 (.slice none 0 0) [] w4 := PaS.below ⟨Below.refl _ _, own_nil w3⟩ (hK4.below (Nat.le_refl _) (fun k hk => by cases hk))
 exact At.post (rp_loop B3 H rfl S4 rfl) hR
end Go.Proofs.YtdcbnkimjhefkaaGreatDoor

namespace Go.Proofs.YtdcbnkimjhefkaaGreatDoor
set_option maxRecDepth 100000
def upB (a : UInt8) : UInt8 := if a.toNat = 110 then 78 else UInt8.ofNat (upLetter a.toNat)
theorem putN_fk (a : Nat) (n : Int) (c : Cmd) : (putN a n c).fk = c.fk := by
 unfold putN
 repeat' split
 all_goals rfl
theorem letsP_fk : ∀ (l : List UInt8) (r : List (List UInt8)) (c c' : Cmd), letsP l r c = some c' → c'.fk = c.fk
 | [], r, c, c', h => by
  rw [letsP] at h
  rw [← Option.some.inj h]
 | a :: l, [], c, c', h => by rw [letsP] at h; cases h
 | a :: l, s :: r, c, c', h => by
  rw [letsP] at h
  cases hq : letP a.toNat s c with
  | none => rw [hq] at h; cases h
  | some d =>
   rw [hq] at h
   have h1 := letsP_fk l r d c' h
   rw [h1]
   unfold letP at hq
   split at hq
   ·split at hq
    ·rw [← Option.some.inj hq]
    ·cases hq
   ·split at hq
    ·cases hn : numO s with
     | none => rw [hn] at hq; cases hq
     | some n =>
      rw [hn] at hq
      replace hq : (if 0 ≤ n then some { c with wh := n.toNat } else none) = some d := hq
      split at hq
      ·rw [← Option.some.inj hq]
      ·cases hq
    ·cases hn : numO s with
     | none => rw [hn] at hq; cases hq
     | some n =>
      rw [hn] at hq
      rw [← Option.some.inj hq]
      exact putN_fk _ _ _
theorem upB_toNat {a : UInt8} (h : a.toNat = 101 ∨ a.toNat = 100 ∨ a.toNat = 118 ∨ a.toNat = 120 ∨ a.toNat = 114) : (upB a).toNat = upLetter a.toNat ∧ (upB a).toNat ≠ 78 ∧ (upB a).toNat ≠ 87 := by
 unfold upB
 rcases h with h | h | h | h | h <;> rw [h] <;> exact ⟨by decide, by decide, by decide⟩
theorem put_set {a : Nat} (h : a = 101 ∨ a = 100 ∨ a = 118 ∨ a = 120 ∨ a = 114) (n : Int) (c : Cmd) (hc : factCmd c = c) : putN (upLetter a) n c = setN (upLetter a) n c ∧ factCmd (setN (upLetter a) n c) = setN (upLetter a) n c := by
 rw [← hc]
 rcases h with rfl | rfl | rfl | rfl | rfl <;> exact ⟨rfl, rfl⟩
theorem fld_eq : ∀ (fs : List UInt8) (r : List (List UInt8)) (c : Cmd), (∀ a ∈ fs, a.toNat = 110 ∨ (a.toNat = 101 ∨ a.toNat = 100 ∨ a.toNat = 118 ∨ a.toNat = 120 ∨ a.toNat = 114)) → factCmd c = c → letsP (fs.map upB) r c = (fldR fs r c).map factCmd
 | [], r, c, _, hc => by
  rw [List.map_nil, letsP, fldR, Option.map_some, hc]
 | a :: fs, [], c, _, _ => by
  rw [List.map_cons, letsP, fldR]
  rfl
 | a :: fs, s :: r, c, h, hc => by
  have ih := fun d hd => fld_eq fs r d (fun x hx => h x (List.mem_cons_of_mem _ hx)) hd
  rw [List.map_cons, letsP, fldR]
  rcases h a (by simp) with ha | ha
  ·have hu : (upB a).toNat = 78 := by unfold upB; rw [if_pos ha]; rfl
   have hl : letP 78 s c = if Tk.isName s = true then some { c with nm := s } else none := rfl
   rw [hu, hl, if_pos ha]
   by_cases hn : Tk.isName s = true
   ·rw [if_pos hn, if_pos hn]
    exact ih _ (by rw [← hc]; rfl)
   ·rw [if_neg hn, if_neg hn]
    rfl
  ·obtain ⟨u1, u2, u3⟩ := upB_toNat ha
   have h110 : ¬ a.toNat = 110 := by omega
   have hl : letP (upB a).toNat s c = (numO s).map fun n => putN (upB a).toNat n c := by
    unfold letP
    rw [if_neg u2, if_neg u3]
   rw [hl, if_neg h110, numR_eq, u1]
   cases numO s with
   | none => rfl
   | some n =>
    obtain ⟨p1, p2⟩ := put_set ha n c hc
    show letsP (fs.map upB) r (putN (upLetter a.toNat) n c) = (fldR fs r (setN (upLetter a.toNat) n c)).map factCmd
    rw [p1]
    exact ih _ p2
theorem readL_words {a x : List UInt8} {r : List (List UInt8)} (h : wordsL a = x :: r) : readL a = match forms.find? (wordIs x) with
  | none => none
  | some F => if r.length = F.letters.length then letsP F.letters r (Cmd.of F) else none := by
 unfold readL
 rw [words_eq, h]
 rfl
theorem line_fact {a x : List UInt8} {r : List (List UInt8)} (h : wordsL a = x :: r) (F : Form) (k : Nat) (hf : forms.find? (wordIs x) = some F) (hk : findK x 9 1 = some k) (hl : F.letters = (wordP (k : Int)).2.map upB) (hc : Cmd.of F = ⟨1, 0, (k : Int), 0, [], 0, 0, 0, [], 0, 0, 0, 0⟩)
  (hd : ∀ a ∈ (wordP (k : Int)).2, a.toNat = 110 ∨ (a.toNat = 101 ∨ a.toNat = 100 ∨ a.toNat = 118 ∨ a.toNat = 120 ∨ a.toNat = 114)) (h5 : (k : Int) ≠ 5) : readL a = simpleR (x :: r) ∧ ∀ c, readL a = some c → c.fk ≠ 5 := by
 have e : readL a = if r.length = F.letters.length then letsP F.letters r (Cmd.of F) else none := by
  rw [readL_words h, hf]
 have e2 : simpleR (x :: r) = if r.length = (wordP (k : Int)).2.length then (fldR (wordP (k : Int)).2 r ⟨1, 0, (k : Int), 0, [], 0, 0, 0, [], 0, 0, 0, 0⟩).map factCmd else none := by
  show simpleS (findK x 9 1) x r = _
  rw [hk]
  rfl
 refine ⟨?_, fun c hc' => ?_⟩
 ·rw [e, e2, hl, hc, List.length_map, fld_eq _ r _ hd rfl]
 ·rw [e] at hc'
  split at hc'
  ·rw [letsP_fk _ _ _ _ hc', hc]
   exact h5
  ·cases hc'
theorem numsR_one (ws : List (List UInt8)) : numsR ws = none ∨ ∃ ns, numsR ws = some ns ∧ ns.length = ws.length := by
 cases h : numsR ws with
 | none => exact .inl rfl
 | some ns => exact .inr ⟨ns, rfl, numsR_len ws ns h⟩
theorem numsR_single (s : List UInt8) : numsR [s] = (numO s).map fun n => [n] := by
 unfold numsR
 rw [numR_eq]
 cases numO s with
 | none => rfl
 | some n => rfl
theorem line_other {a x : List UInt8} {r : List (List UInt8)} (h : wordsL a = x :: r) (hk : findK x 9 1 = none) (hf : forms.find? (wordIs x) = none) (n1 : x ≠ wPrep) (n2 : x ≠ wRel) (n3 : x ≠ wPay) (n4 : x ≠ wRev) (n5 : x ≠ wCrash) : readL a = simpleR (x :: r) := by
 have e2 : simpleR (x :: r) = (match numsR r with | none => none | some ns => tailR x ns) := by
  show simpleS (findK x 9 1) x r = _
  rw [hk]
  rfl
 rw [readL_words h, hf, e2]
 cases numsR r with
 | none => rfl
 | some ns =>
  show none = tailR x ns
  unfold tailR
  rw [if_neg (fun h => n1 h.1), if_neg (fun h => n2 h.1), if_neg (fun h => n3 h.1), if_neg (fun h => n4 h.1)]
  split
  ·rw [if_neg (fun h => n5 h.1)]
  ·rfl
theorem tail_bare {x : List UInt8} {ns : List Int} {k : Int} (hx : (x = wRel ∧ k = 3) ∨ (x = wPay ∧ k = 4) ∨ (x = wRev ∧ k = 5)) : tailR x ns = if ns.length = 0 then some (kc k 0) else none := by
 have hcr : x ≠ wCrash := by rcases hx with ⟨rfl, _⟩ | ⟨rfl, _⟩ | ⟨rfl, _⟩ <;> decide
 have hpr : x ≠ wPrep := by rcases hx with ⟨rfl, _⟩ | ⟨rfl, _⟩ | ⟨rfl, _⟩ <;> decide
 unfold tailR
 rw [if_neg (fun h => hpr h.1)]
 by_cases h0 : ns.length = 0
 ·rw [if_pos h0]
  rcases hx with ⟨rfl, rfl⟩ | ⟨rfl, rfl⟩ | ⟨rfl, rfl⟩
  ·rw [if_pos ⟨rfl, h0⟩]
  ·rw [if_neg (fun h => absurd h.1 (by decide)), if_pos ⟨rfl, h0⟩]
  ·rw [if_neg (fun h => absurd h.1 (by decide)), if_neg (fun h => absurd h.1 (by decide)), if_pos ⟨rfl, h0⟩]
 ·rw [if_neg h0, if_neg (fun h => h0 h.2), if_neg (fun h => h0 h.2), if_neg (fun h => h0 h.2)]
  split
  ·rw [if_neg (fun h => hcr h.1)]
  ·rfl
theorem line_bare {a x : List UInt8} {r : List (List UInt8)} {k : Int} (h : wordsL a = x :: r) (hx : (x = wRel ∧ k = 3) ∨ (x = wPay ∧ k = 4) ∨ (x = wRev ∧ k = 5)) (hk : findK x 9 1 = none) (hf : forms.find? (wordIs x) = some ⟨x, k, 0, []⟩) : readL a = simpleR (x :: r) ∧ ∀ c, readL a = some c → c.fk ≠ 5 := by
 have e : readL a = if r.length = 0 then some (kc k 0) else none := by
  rw [readL_words h, hf]
  show (if r.length = 0 then letsP [] r _ else none) = _
  by_cases h0 : r.length = 0
  ·rw [if_pos h0, if_pos h0, letsP]
   rfl
  ·rw [if_neg h0, if_neg h0]
 have e2 : simpleR (x :: r) = (match numsR r with | none => none | some ns => tailR x ns) := by
  show simpleS (findK x 9 1) x r = _
  rw [hk]
  rfl
 refine ⟨?_, fun c hc => ?_⟩
 ·rw [e, e2]
  rcases numsR_one r with hn | ⟨ns, hn, hl⟩
  ·rw [hn]
   have hr : r.length ≠ 0 := fun h0 => by
    rw [List.length_eq_zero_iff.1 h0] at hn
    cases hn
   rw [if_neg hr]
  ·rw [hn]
   show _ = tailR x ns
   rw [tail_bare hx, hl]
 ·rw [e] at hc
  split at hc
  ·rw [← Option.some.inj hc]
   show (0 : Int) ≠ 5
   decide
  ·cases hc
theorem line_prep {a : List UInt8} {r : List (List UInt8)} (h : wordsL a = wPrep :: r) : readL a = simpleR (wPrep :: r) ∧ ∀ c, readL a = some c → c.fk ≠ 5 := by
 have hf : forms.find? (wordIs wPrep) = some ⟨wPrep, 2, 0, [80]⟩ := by kernel_rfl
 have hk : findK wPrep 9 1 = none := by kernel_rfl
 have e : readL a = if r.length = 1 then letsP [80] r (Cmd.of ⟨wPrep, 2, 0, [80]⟩) else none := by
  rw [readL_words h, hf]
  rfl
 have e2 : simpleR (wPrep :: r) = (match numsR r with | none => none | some ns => tailR wPrep ns) := by
  show simpleS (findK wPrep 9 1) wPrep r = _
  rw [hk]
  rfl
 refine ⟨?_, fun c hc => ?_⟩
 ·rw [e, e2]
  by_cases h1 : r.length = 1
  ·obtain ⟨s, rfl⟩ := List.length_eq_one_iff.1 h1
   rw [if_pos h1, numsR_single, letsP]
   have hl : letP 80 s (Cmd.of ⟨wPrep, 2, 0, [80]⟩) = (numO s).map fun n => kc 2 n := rfl
   show (match letP 80 s (Cmd.of ⟨wPrep, 2, 0, [80]⟩) with | some c' => letsP [] [] c' | none => none) = _
   rw [hl]
   cases numO s with
   | none => rfl
   | some n => rfl
  ·rw [if_neg h1]
   rcases numsR_one r with hn | ⟨ns, hn, hl⟩
   ·rw [hn]
   ·rw [hn]
    show none = tailR wPrep ns
    unfold tailR
    rw [if_neg (fun h => h1 (by rw [← hl]; exact h.2)), if_neg (fun h => absurd h.1 (by decide)), if_neg (fun h => absurd h.1 (by decide)), if_neg (fun h => absurd h.1 (by decide))]
    split
    ·rw [if_neg (fun h => absurd h.1 (by decide))]
    ·rfl
 ·rw [e] at hc
  split at hc
  ·rw [letsP_fk _ _ _ _ hc]
   show (0 : Int) ≠ 5
   decide
  ·cases hc
theorem line_crash {a : List UInt8} {r : List (List UInt8)} (h : wordsL a = wCrash :: r) : readL a = simpleR (wCrash :: r) ∧ ∀ c, readL a = some c → c.fk ≠ 5 := by
 have hf : forms.find? (wordIs wCrash) = some ⟨wCrash, 6, 0, [87, 84, 83]⟩ := by kernel_rfl
 have hk : findK wCrash 9 1 = none := by kernel_rfl
 have e : readL a = if r.length = 3 then letsP [87, 84, 83] r (Cmd.of ⟨wCrash, 6, 0, [87, 84, 83]⟩) else none := by
  rw [readL_words h, hf]
  rfl
 have e2 : simpleR (wCrash :: r) = (match numsR r with | none => none | some ns => tailR wCrash ns) := by
  show simpleS (findK wCrash 9 1) wCrash r = _
  rw [hk]
  rfl
 have e3 : ∀ ns, tailR wCrash ns = match ns with
   | [a, b, c] => if 0 ≤ a then some (cr a.toNat b c) else none
   | _ => none := by
  intro ns
  unfold tailR
  rw [if_neg (fun h => absurd h.1 (by decide)), if_neg (fun h => absurd h.1 (by decide)), if_neg (fun h => absurd h.1 (by decide)), if_neg (fun h => absurd h.1 (by decide))]
  split
  ·rename_i a b c
   by_cases h0 : 0 ≤ a
   ·exact (if_pos ⟨rfl, h0⟩).trans (if_pos h0).symm
   ·exact (if_neg (fun h => h0 h.2)).trans (if_neg h0).symm
  ·rename_i h
   split
   ·exact absurd rfl (h _ _ _)
   ·rfl
 refine ⟨?_, fun c hc => ?_⟩
 ·rw [e, e2]
  by_cases h1 : r.length = 3
  ·rw [if_pos h1]
   match r, h1 with
   | [s1, s2, s3], _ =>
    show (match letP 87 s1 (Cmd.of ⟨wCrash, 6, 0, [87, 84, 83]⟩) with | some c' => letsP [84, 83] [s2, s3] c' | none => none) = _
    have l1 : letP 87 s1 (Cmd.of ⟨wCrash, 6, 0, [87, 84, 83]⟩) = (match numO s1 with | some n => if 0 ≤ n then some (cr n.toNat 0 0) else none | none => none) := rfl
    rw [l1]
    unfold numsR
    rw [numR_eq s1]
    cases numO s1 with
    | none => rfl
    | some a1 =>
     show (match (if 0 ≤ a1 then some (cr a1.toNat 0 0) else none) with | some c' => letsP [84, 83] [s2, s3] c' | none => none) = _
     unfold numsR
     rw [numR_eq s2]
     have l2 : ∀ d, letP 84 s2 d = (numO s2).map fun n => { d with torn := n } := fun d => rfl
     have l3 : ∀ d, letP 83 s3 d = (numO s3).map fun n => { d with stop := n } := fun d => rfl
     have step : ∀ d, letsP [84, 83] [s2, s3] d = match letP 84 s2 d with | some c' => (match letP 83 s3 c' with | some c'' => some c'' | none => none) | none => none := fun d => rfl
     by_cases h0 : 0 ≤ a1
     ·rw [if_pos h0]
      show letsP [84, 83] [s2, s3] (cr a1.toNat 0 0) = _
      rw [step, l2]
      cases numO s2 with
      | none => rfl
      | some a2 =>
       show (match letP 83 s3 (cr a1.toNat a2 0) with | some c'' => some c'' | none => none) = _
       rw [l3]
       unfold numsR
       rw [numR_eq s3]
       cases numO s3 with
       | none => rfl
       | some a3 =>
        show some (cr a1.toNat a2 a3) = tailR wCrash [a1, a2, a3]
        rw [e3]
        exact (if_pos h0).symm
     ·rw [if_neg h0]
      show none = _
      cases numO s2 with
      | none => rfl
      | some a2 =>
       unfold numsR
       rw [numR_eq s3]
       cases numO s3 with
       | none => rfl
       | some a3 =>
        show none = tailR wCrash [a1, a2, a3]
        rw [e3]
        exact (if_neg h0).symm
  ·rw [if_neg h1]
   rcases numsR_one r with hn | ⟨ns, hn, hl⟩
   ·rw [hn]
   ·rw [hn]
    show none = tailR wCrash ns
    rw [e3]
    split
    ·exact absurd hl.symm h1
    ·rfl
 ·rw [e] at hc
  split at hc
  ·rw [letsP_fk _ _ _ _ hc]
   show (0 : Int) ≠ 5
   decide
  ·cases hc
theorem line_eq {a x : List UInt8} {r : List (List UInt8)} (h : wordsL a = x :: r) (hx : x ≠ agrW) : readL a = simpleR (x :: r) ∧ ∀ c, readL a = some c → c.fk ≠ 5 := by
 by_cases h0 : x = [104, 105, 114, 101]
 ·subst h0
  exact line_fact h ⟨[104, 105, 114, 101], 1, 1, [69, 68]⟩ 1 (by kernel_rfl) (by kernel_rfl) (by kernel_rfl) (by kernel_rfl) (by decide) (by decide)
 by_cases h1 : x = [108, 101, 97, 118, 101]
 ·subst h1
  exact line_fact h ⟨[108, 101, 97, 118, 101], 1, 2, [69, 68]⟩ 2 (by kernel_rfl) (by kernel_rfl) (by kernel_rfl) (by kernel_rfl) (by decide) (by decide)
 by_cases h2 : x = [105, 110, 112, 117, 116]
 ·subst h2
  exact line_fact h ⟨[105, 110, 112, 117, 116], 1, 3, [69, 78, 68, 86]⟩ 3 (by kernel_rfl) (by kernel_rfl) (by kernel_rfl) (by kernel_rfl) (by decide) (by decide)
 by_cases h3 : x = [104, 111, 117, 114, 115]
 ·subst h3
  exact line_fact h ⟨[104, 111, 117, 114, 115], 1, 4, [69, 78, 68, 86]⟩ 4 (by kernel_rfl) (by kernel_rfl) (by kernel_rfl) (by kernel_rfl) (by decide) (by decide)
 by_cases h5 : x = [114, 117, 108, 101, 115]
 ·subst h5
  exact line_fact h ⟨[114, 117, 108, 101, 115], 1, 6, [68, 86]⟩ 6 (by kernel_rfl) (by kernel_rfl) (by kernel_rfl) (by kernel_rfl) (by decide) (by decide)
 by_cases h6 : x = [100, 101, 112, 101, 110, 100, 101, 110, 116, 115]
 ·subst h6
  exact line_fact h ⟨[100, 101, 112, 101, 110, 100, 101, 110, 116, 115], 1, 7, [69, 68, 86]⟩ 7 (by kernel_rfl) (by kernel_rfl) (by kernel_rfl) (by kernel_rfl) (by decide) (by decide)
 by_cases h7 : x = [111, 114, 100, 101, 114]
 ·subst h7
  exact line_fact h ⟨[111, 114, 100, 101, 114], 1, 8, [69, 78, 68, 86, 88, 82]⟩ 8 (by kernel_rfl) (by kernel_rfl) (by kernel_rfl) (by kernel_rfl) (by decide) (by decide)
 by_cases h8 : x = [100, 101, 100, 117, 99, 116, 105, 111, 110]
 ·subst h8
  exact line_fact h ⟨[100, 101, 100, 117, 99, 116, 105, 111, 110], 1, 9, [69, 78, 68, 86, 88, 82]⟩ 9 (by kernel_rfl) (by kernel_rfl) (by kernel_rfl) (by kernel_rfl) (by decide) (by decide)
 by_cases n1 : x = wPrep
 ·subst n1
  exact line_prep h
 by_cases n5 : x = wCrash
 ·subst n5
  exact line_crash h
 by_cases n2 : x = wRel
 ·subst n2
  exact line_bare h (.inl ⟨rfl, rfl⟩) (by kernel_rfl) (by kernel_rfl)
 by_cases n3 : x = wPay
 ·subst n3
  exact line_bare h (.inr (.inl ⟨rfl, rfl⟩)) (by kernel_rfl) (by kernel_rfl)
 by_cases n4 : x = wRev
 ·subst n4
  exact line_bare h (.inr (.inr ⟨rfl, rfl⟩)) (by kernel_rfl) (by kernel_rfl)
 have hf : forms.find? (wordIs x) = none := by
  rw [List.find?_eq_none]
  intro F hF
  unfold forms at hF
  simp only [List.mem_cons, List.not_mem_nil, or_false] at hF
  have key : ∀ F : Form, F.word ≠ x → ¬ (wordIs x F = true) := fun F h1 h2 => h1 (of_decide_eq_true h2)
  rcases hF with rfl | rfl | rfl | rfl | rfl | rfl | rfl | rfl | rfl | rfl | rfl | rfl | rfl | rfl
  ·exact key _ fun e => h0 e.symm
  ·exact key _ fun e => h1 e.symm
  ·exact key _ fun e => h2 e.symm
  ·exact key _ fun e => h3 e.symm
  ·exact key _ fun e => hx e.symm
  ·exact key _ fun e => h5 e.symm
  ·exact key _ fun e => h6 e.symm
  ·exact key _ fun e => h7 e.symm
  ·exact key _ fun e => h8 e.symm
  ·exact key _ fun e => n1 e.symm
  ·exact key _ fun e => n2 e.symm
  ·exact key _ fun e => n3 e.symm
  ·exact key _ fun e => n4 e.symm
  ·exact key _ fun e => n5 e.symm
 have hsk : ∀ (k : Nat), x ≠ (wordP (k : Int)).1 → skipK x k = true := fun k hne => by
  unfold skipK
  rw [decide_eq_false hne]
  cases decide ((wordP (k : Int)).1 = []) <;> rfl
 have hk : findK x 9 1 = none := by
  simp only [findK]
  rw [if_pos (hsk 1 h0), if_pos (hsk 2 h1), if_pos (hsk 3 h2), if_pos (hsk 4 h3), if_pos (show skipK x 5 = true from rfl), if_pos (hsk 6 h5), if_pos (hsk 7 h6), if_pos (hsk 8 h7), if_pos (hsk 9 h8)]
 refine ⟨line_other h hk hf n1 n2 n3 n4 n5, fun c hc => ?_⟩
 rw [readL_words h, hf] at hc
 cases hc
theorem line_agr {a : List UInt8} {r : List (List UInt8)} (h : wordsL a = agrW :: r) : readL a = match numsR r with
  | some [n] => some (fc 0 5 n [] 0 0 0 [])
  | _ => none := by
 have hf : forms.find? (wordIs agrW) = some ⟨agrW, 1, 5, [68]⟩ := by kernel_rfl
 have e : readL a = if r.length = 1 then letsP [68] r (Cmd.of ⟨agrW, 1, 5, [68]⟩) else none := by
  rw [readL_words h, hf]
  rfl
 rw [e]
 by_cases h1 : r.length = 1
 ·obtain ⟨s, rfl⟩ := List.length_eq_one_iff.1 h1
  rw [if_pos h1, numsR_single, letsP]
  show (match letP 68 s (Cmd.of ⟨agrW, 1, 5, [68]⟩) with | some c' => letsP [] [] c' | none => none) = _
  have hl : letP 68 s (Cmd.of ⟨agrW, 1, 5, [68]⟩) = (numO s).map fun n => fc 0 5 n [] 0 0 0 [] := rfl
  rw [hl]
  cases numO s with
  | none => rfl
  | some n => rfl
 ·rw [if_neg h1]
  rcases numsR_one r with hn | ⟨ns, hn, hl⟩
  ·rw [hn]
  ·rw [hn]
   match ns, hl with
   | [], _ => rfl
   | [n], hl => exact absurd hl.symm h1
   | _ :: _ :: _, _ => rfl
theorem agr_eq : ∀ (n : Nat) (s t : List UInt8) (k : Nat), s.length < n → (agrR (splitL 10 s).1 t = none ∧ agrB n s t k = (none, k + (splitL 10 s).1.length + 1)) ∨
  ∃ t' X, agrR (splitL 10 s).1 t = some (t', (splitL 10 X).1) ∧ agrB n s t k = (some (t', X), k + ((splitL 10 s).1.length - (splitL 10 X).1.length)) ∧ (splitL 10 X).1.length < (splitL 10 s).1.length ∧ (splitL 10 X).2 = (splitL 10 s).2 ∧ X.length < s.length
 | 0, s, t, k, h => by omega
 | n + 1, s, t, k, h => by
  cases hc : (cutP 10 s).2.2 with
  | false =>
   have hs := splitL_none 10 s hc
   refine .inl ⟨by rw [hs]; rfl, ?_⟩
   rw [hs, agrB, hc, if_neg (by decide)]
   rfl
  | true =>
   have hs := splitL_cut 10 (cutP 10 s).2.1 s hc
   rw [← cutP_some 10 s hc] at hs
   have hl := cutP_lt 10 s hc
   rw [hs, agrB, hc, if_pos rfl]
   generalize (cutP 10 s).1 = a at *
   generalize (cutP 10 s).2.1 = r at *
   have hr : agrR (a :: (splitL 10 r).1) t = if a = endW then some (t, (splitL 10 r).1) else agrR (splitL 10 r).1 (t ++ (a ++ [10])) := rfl
   rw [hr]
   by_cases he : a = endW
   ·rw [if_pos he, if_pos he]
    refine .inr ⟨t, r, rfl, ?_, by simp, rfl, by omega⟩
    simp only [List.length_cons]
    rw [show (splitL 10 r).1.length + 1 - (splitL 10 r).1.length = 1 by omega]
   ·rw [if_neg he, if_neg he]
    rcases agr_eq n r (t ++ (a ++ [10])) (k + 1) (by omega) with ⟨h1, h2⟩ | ⟨t', X, h1, h2, h3, h4, h5⟩
    ·refine .inl ⟨h1, ?_⟩
     rw [h2]
     simp only [List.length_cons]
     rw [show k + 1 + (splitL 10 r).1.length + 1 = k + ((splitL 10 r).1.length + 1) + 1 by omega]
    ·refine .inr ⟨t', X, h1, ?_, by simp only [List.length_cons]; omega, h4, by omega⟩
     rw [h2]
     simp only [List.length_cons]
     rw [show k + 1 + ((splitL 10 r).1.length - (splitL 10 X).1.length) = k + ((splitL 10 r).1.length + 1 - (splitL 10 X).1.length) by omega]
def endR (N : Nat) (b : Bool) (r : Except Nat (List Cmd)) : Except Nat (List Cmd) := match r with
 | .error l => .error l
 | .ok a => if b = true then .ok a else .error (N + 1)
theorem rpar_step : ∀ (n : Nat) (s : List UInt8) (ln : Nat) (acc : List Cmd) (m N : Nat), s.length < n → (splitL 10 s).1.length < m → ln + (splitL 10 s).1.length = N + 1 → endR N (splitL 10 s).2.isEmpty (rparB N m (splitL 10 s).1 acc) = parB n s ln acc
 | 0, s, ln, acc, m, N, h, _, _ => by omega
 | n + 1, s, ln, acc, m, N, h, hm, hN => by
  obtain ⟨m, rfl⟩ : ∃ m', m = m' + 1 := ⟨m - 1, by omega⟩
  by_cases h0 : s = []
  ·subst h0
   rw [parB, if_pos rfl]
   rfl
  rw [parB, if_neg h0]
  cases hc : (cutP 10 s).2.2 with
  | false =>
   have hs := splitL_none 10 s hc
   rw [hs] at hN ⊢
   have hb : s.isEmpty = false := by
    cases s with
    | nil => exact absurd rfl h0
    | cons => rfl
   rw [if_neg (by decide)]
   show endR N s.isEmpty (.ok acc) = _
   rw [hb]
   show Except.error (N + 1) = _
   congr 1
   simp only [List.length_nil] at hN
   omega
  | true =>
   have hs := splitL_cut 10 (cutP 10 s).2.1 s hc
   rw [← cutP_some 10 s hc] at hs
   have hl := cutP_lt 10 s hc
   rw [hs] at hN hm ⊢
   rw [if_pos rfl]
   generalize (cutP 10 s).1 = a at *
   generalize (cutP 10 s).2.1 = r at *
   simp only [List.length_cons] at hN hm
   obtain ⟨w0, ws, hws⟩ := wordsL_ne a
   have hrp : rparB N (m + 1) (a :: (splitL 10 r).1) acc = match wordsL a with
    | [] => .ok acc
    | w0 :: ws => if w0 = agrW then (match numsR ws with
      | some [n] => (match agrR (splitL 10 r).1 [] with
       | none => .error (N + 1)
       | some (t, r') => rparB N m r' (acc ++ [fc 0 5 n [] 0 0 0 t]))
      | _ => .error (N - (splitL 10 r).1.length))
     else match simpleR (w0 :: ws) with
      | none => .error (N - (splitL 10 r).1.length)
      | some c => rparB N m (splitL 10 r).1 (acc ++ [c]) := rfl
   rw [hws] at hrp
   have hln : N - (splitL 10 r).1.length = ln := by omega
   by_cases hw : w0 = agrW
   ·subst hw
    replace hrp : rparB N (m + 1) (a :: (splitL 10 r).1) acc = (match numsR ws with
      | some [n] => (match agrR (splitL 10 r).1 [] with
       | none => .error (N + 1)
       | some (t, r') => rparB N m r' (acc ++ [fc 0 5 n [] 0 0 0 t]))
      | _ => .error (N - (splitL 10 r).1.length)) := hrp.trans (if_pos rfl)
    rw [hrp, line_agr hws]
    by_cases h1 : ∃ n1, numsR ws = some [n1]
    ·obtain ⟨n1, h1⟩ := h1
     rw [h1]
     show endR N _ (match agrR (splitL 10 r).1 [] with
       | none => .error (N + 1)
       | some (t, r') => rparB N m r' (acc ++ [fc 0 5 n1 [] 0 0 0 t])) = (match agrB n r [] 0 with
       | (none, k) => (.error (ln + k) : Except Nat (List Cmd))
       | (some (t, r), k) => parB n r (ln + k + 1) (acc ++ [fc 0 5 n1 [] 0 0 0 t]))
     rcases agr_eq n r [] 0 (by omega) with ⟨e1, e2⟩ | ⟨t', X, e1, e2, e3, e4, e5⟩
     ·rw [e1, e2]
      show Except.error (N + 1) = Except.error _
      congr 1
      omega
     ·rw [e1, e2]
      show endR N _ (rparB N m (splitL 10 X).1 (acc ++ [fc 0 5 n1 [] 0 0 0 t'])) = parB n X _ _
      rw [← e4]
      exact rpar_step n X _ _ m N (by omega) (by omega) (by omega)
    ·have e1 : (match numsR ws with
      | some [n] => (match agrR (splitL 10 r).1 [] with
       | none => .error (N + 1)
       | some (t, r') => rparB N m r' (acc ++ [fc 0 5 n [] 0 0 0 t]))
      | _ => (Except.error (N - (splitL 10 r).1.length) : Except Nat (List Cmd))) = Except.error (N - (splitL 10 r).1.length) := by
      split
      ·rename_i n2 hn2
       exact absurd ⟨n2, hn2⟩ h1
      ·rfl
     have e2 : (match numsR ws with
      | some [n] => some (fc 0 5 n [] 0 0 0 [])
      | _ => none) = none := by
      split
      ·rename_i n2 hn2
       exact absurd ⟨n2, hn2⟩ h1
      ·rfl
     rw [e1, e2, hln]
     rfl
   ·replace hrp : rparB N (m + 1) (a :: (splitL 10 r).1) acc = (match simpleR (w0 :: ws) with
      | none => .error (N - (splitL 10 r).1.length)
      | some c => rparB N m (splitL 10 r).1 (acc ++ [c])) := hrp.trans (if_neg hw)
    obtain ⟨l1, l2⟩ := line_eq hws hw
    rw [hrp, ← l1]
    cases hr : readL a with
    | none =>
     show Except.error (N - (splitL 10 r).1.length) = Except.error ln
     rw [hln]
    | some c =>
     have h5 := l2 c hr
     show endR N _ (rparB N m (splitL 10 r).1 (acc ++ [c])) = (if c.fk = 5 then _ else parB n r (ln + 1) (acc ++ [c]))
     rw [if_neg h5]
     exact rpar_step n r (ln + 1) _ m N (by omega) (by omega) (by omega)
theorem rpar_eq (s : List UInt8) : rpar s = parB (s.length + 1) s 1 [] := by
 rw [← rpar_step (s.length + 1) s 1 [] ((splitL 10 s).1.length + 1) (splitL 10 s).1.length (Nat.lt_succ_self _) (Nat.lt_succ_self _) (by omega)]
 rfl
end Go.Proofs.YtdcbnkimjhefkaaGreatDoor

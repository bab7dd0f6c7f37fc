/-
 payrollref34.Words.
 The words of the reference are those of the program.
 payrollref46's Parse.
 payrollref46's Parse: the whole.
-/
import Derived.Test.YtdcbnkimjhefkaaGreatDoorU28
import Derived.Test.YtdcbnkimjhefkaaGreatDoorU33
import Derived.Test.YtdcbnkimjhefkaaGreatDoorU35
import Derived.Test.YtdcbnkimjhefkaaGreatDoorU15
namespace Go.Proofs.YtdcbnkimjhefkaaGreatDoor
open Go.RowKit
def wordsL (s : List UInt8) : List (List UInt8) := (splitL 32 s).1 ++ [(splitL 32 s).2]
set_option maxHeartbeats 4000000 in
set_option maxRecDepth 100000 in
theorem rwords_any (s : List UInt8) (w : World) (hs : s.length ≤ 4294967296) :
  Calls Tryz.prog 40 #[.string ⟨s.toArray⟩] w fun e w' => ∃ v, e = .returned v ∧ w'.ownsRow w.heap.size 9 1 v (wordsL s).length (strsV (wordsL s)) ∧ Below w.heap.size w w' := by
 obtain ⟨i0, hi, hz0, hz1, hz2⟩ := info_partsC infoStrC
 go_enter Tryz.func40, Tryz.ntmps40
 go_wp2_with fail
 go_loopw [3, 4, 5] (fun v fr i wr => ∃ (k f : Nat), k ≤ s.length + 1 ∧ f ≤ k ∧ fr = .int .i64 (f : Nat) ∧ i = .int .i64 (k : Nat) ∧ (k ≤ s.length → Hid ((splitL 32 (s.take k)).2 = (s.drop f).take (k - f)) ∧ wr.ownsRow w.heap.size 9 1 v (splitL 32 (s.take k)).1.length (strsV (splitL 32 (s.take k)).1)) ∧ (k = s.length + 1 → wr.ownsRow w.heap.size 9 1 v (wordsL s).length (strsV (wordsL s))) ∧ Below w.heap.size w wr) (fun _ _ i _ => s.length + 1 - (intOfC i).toNat)
 case atStart => exact ⟨0, 0, Nat.zero_le _, Nat.le_refl _, rfl, rfl, fun _ => ⟨by show (splitL 32 []).2 = _; simp [splitL], ⟨by simp [splitL, strsV], .inl ⟨rfl, rfl⟩⟩⟩, fun h => by omega, Below.refl _ _⟩
 case round =>
  obtain ⟨k, f, hk, hf, rfl, rfl, hA, hE, hB⟩ := hrel
  by_cases hlt : k < s.length
  ·obtain ⟨HS, hown⟩ := hA (by omega)
   have hget : s.take (k + 1) = s.take k ++ [s[k]] := by rw [List.take_add_one, List.getElem?_eq_getElem hlt]; rfl
   have HN := Lib.hid (splitL_snoc 32 s[k] (s.take k))
   rw [← hget] at HN
   have hdr : (s.drop f).take (k + 1 - f) = (s.drop f).take (k - f) ++ [s[k]] := by
    rw [show k + 1 - f = (k - f) + 1 by omega, List.take_add_one, List.getElem?_drop, show f + (k - f) = k by omega, List.getElem?_eq_getElem hlt]
    rfl
   have HD := Lib.hid hdr
   have hkl : ((k : Int) == (s.length : Int)) = false := beq_eq_false_iff_ne.2 (by omega)
   clear hdr hget hA hE
   by_cases hc : s[k] = 32
   ·have h10 : ((((⟨s.toArray⟩ : ByteArray)[k]'hlt).toNat : Int) == 32) = true := by show (((s[k]'hlt).toNat : Int) == 32) = true; rw [hc]; rfl
    have HN2 : Hid (splitL 32 (s.take (k + 1)) = ((splitL 32 (s.take k)).1 ++ [(s.drop f).take (k - f)], [])) := by show _ = _; rw [HN.out, if_pos hc, HS.out]
    have hex : (⟨s.toArray⟩ : ByteArray).extract f k = ⟨((s.drop f).take (k - f)).toArray⟩ := by
     apply ByteArray.ext
     simp [ByteArray.data_extract, List.take_drop]
    have HEX := Lib.hid hex
    have HBr := Lib.hid hB
    have hBs := hB.size
    clear hc hB hex
    go_wp2_with (at_builtin; refine wpList_append_own _ rfl _ _ 53 rfl w.heap.size 9 i0 (.string ⟨#[]⟩) 1 16 Tryz.underlying53 hi hz0 hz1 hz2 rfl (by decide) _ _ _ rfl (hown.alloc _) ⟨wr.heap.size, 0, none⟩ 1 1 [.string ((⟨s.toArray⟩ : ByteArray).extract f k)] rfl rfl ?c1 ?c2 ?c3 ?c4 ?c5 ?_)
    case c1 => exact cell_one_new _ _ _
    case c2 => exact fun u hu => by simp at hu; subst hu; rfl
    case c3 => unfold maxLen; have := splitL_len 32 (s.take k); simp at this; omega
    case c4 => have := splitL_len 32 (s.take k); simp at this; omega
    case c5 => simp; omega
    intro v2 w2 hown2 hg2 _
    go_wp2_with fail
    go_round
    case rel => exact ⟨k + 1, k + 1, by omega, Nat.le_refl _, by go_num, by go_num, fun _ => ⟨by show _ = _; rw [HN2.out]; simp, by rw [HN2.out]; rw [HEX.out] at hown2; simpa [strsV] using hown2⟩, fun h => by omega, below_grown (HBr.out.alloc HBr.out.size _) hg2 (fun k hk => own_geC hown hk) (by simp; omega)⟩
    case measure => simp [intOfC]; omega
   ·have h10 : ((((⟨s.toArray⟩ : ByteArray)[k]'hlt).toNat : Int) == 32) = false := by
     show (((s[k]'hlt).toNat : Int) == 32) = false
     simp only [beq_eq_false_iff_ne, ne_eq]
     intro e
     exact hc (UInt8.toNat_inj.1 (by show _ = 32; omega))
    have HN2 : Hid (splitL 32 (s.take (k + 1)) = ((splitL 32 (s.take k)).1, (s.drop f).take (k + 1 - f))) := by show _ = _; rw [HN.out, if_neg hc, HS.out, HD.out]
    clear hc
    go_wp2_with fail
    go_round
    case rel => exact ⟨k + 1, f, by omega, by omega, by go_num, by go_num, fun _ => ⟨by show _ = _; rw [HN2.out], by rw [HN2.out]; exact hown⟩, fun h => by omega, hB⟩
    case measure => simp [intOfC]; omega
  ·by_cases hkl : k = s.length
   ·subst hkl
    obtain ⟨HS, hown⟩ := hA (Nat.le_refl _)
    rw [List.take_length] at HS hown
    have hex : (⟨s.toArray⟩ : ByteArray).extract f s.length = ⟨((s.drop f).take (s.length - f)).toArray⟩ := by
     apply ByteArray.ext
     simp [ByteArray.data_extract, List.take_drop]
    have HEX := Lib.hid hex
    have HBr := Lib.hid hB
    have hBs := hB.size
    clear hB hex hA hE
    go_wp2_with (at_builtin; refine wpList_append_own _ rfl _ _ 53 rfl w.heap.size 9 i0 (.string ⟨#[]⟩) 1 16 Tryz.underlying53 hi hz0 hz1 hz2 rfl (by decide) _ _ _ rfl (hown.alloc _) ⟨wr.heap.size, 0, none⟩ 1 1 [.string ((⟨s.toArray⟩ : ByteArray).extract f s.length)] rfl rfl ?c1 ?c2 ?c3 ?c4 ?c5 ?_)
    case c1 => exact cell_one_new _ _ _
    case c2 => exact fun u hu => by simp at hu; subst hu; rfl
    case c3 => unfold maxLen; have := splitL_len 32 s; omega
    case c4 => have := splitL_len 32 s; omega
    case c5 => simp; omega
    intro v2 w2 hown2 hg2 _
    go_wp2_with fail
    go_round
    case rel => exact ⟨s.length + 1, s.length + 1, Nat.le_refl _, Nat.le_refl _, by go_num, by go_num, fun h => by omega, fun _ => by rw [HEX.out, ← HS.out] at hown2; simpa [strsV, wordsL] using hown2, below_grown (HBr.out.alloc HBr.out.size _) hg2 (fun k hk => own_geC hown hk) (by simp; omega)⟩
    case measure => simp [intOfC]
   ·obtain rfl : k = s.length + 1 := by omega
    have hown := hE rfl
    go_wp2_with fail
    go_ret
    exact ⟨_, rfl, hown, hB⟩
end Go.Proofs.YtdcbnkimjhefkaaGreatDoor

namespace Go.Proofs.YtdcbnkimjhefkaaGreatDoor
open Go.RowKit
theorem splitL_free (d : UInt8) : ∀ s : List UInt8, (∀ l ∈ (splitL d s).1, ∀ c ∈ l, c ≠ d) ∧ ∀ c ∈ (splitL d s).2, c ≠ d
 | [] => ⟨fun l hl => (by cases hl), fun c hc => (by cases hc)⟩
 | x :: s => by
  obtain ⟨h1, h2⟩ := splitL_free d s
  unfold splitL
  split
  ·exact ⟨fun l hl => by
    rcases List.mem_cons.1 hl with rfl | hl
    ·exact fun c hc => (by cases hc)
    ·exact h1 l hl, h2⟩
  ·rename_i hx
   cases hs : (splitL d s).1 with
   | nil =>
    refine ⟨fun l hl => (by cases hl), fun c hc => ?_⟩
    rcases List.mem_cons.1 hc with rfl | hc
    ·exact hx
    ·exact h2 c hc
   | cons y ys =>
    rw [hs] at h1
    refine ⟨fun l hl => ?_, h2⟩
    rcases List.mem_cons.1 hl with rfl | hl
    ·intro c hc
     rcases List.mem_cons.1 hc with rfl | hc
     ·exact hx
     ·exact h1 y (by simp) c hc
    ·exact h1 l (List.mem_cons_of_mem _ hl)
theorem wordsL_cons (x : UInt8) (s : List UInt8) (hx : x ≠ 32) : ∃ y ys, wordsL s = y :: ys ∧ wordsL (x :: s) = (x :: y) :: ys := by
 unfold wordsL
 rw [splitL, if_neg hx]
 cases hs : (splitL 32 s).1 with
 | nil => exact ⟨_, [], rfl, rfl⟩
 | cons y ys => exact ⟨y, ys ++ [(splitL 32 s).2], rfl, rfl⟩
theorem joinS_wordsL : ∀ s : List UInt8, joinS (wordsL s) = s
 | [] => rfl
 | x :: s => by
  have ih := joinS_wordsL s
  by_cases hx : x = 32
  ·subst hx
   have e : wordsL (32 :: s) = [] :: wordsL s := by unfold wordsL; rw [splitL, if_pos rfl]; rfl
   rw [e]
   obtain ⟨y, ys, hy⟩ : ∃ y ys, wordsL s = y :: ys := by
    unfold wordsL
    cases (splitL 32 s).1 with
    | nil => exact ⟨_, _, rfl⟩
    | cons y ys => exact ⟨_, _, rfl⟩
   rw [hy] at ih ⊢
   rw [joinS_cons, ih]
   rfl
  ·obtain ⟨y, ys, h1, h2⟩ := wordsL_cons x s hx
   rw [h2]
   rw [h1] at ih
   exact congrArg (x :: ·) ih
theorem words_eq (s : List UInt8) : wordsP s = wordsL s := by
 have h := words_of (ws := wordsL s) (fun w hw c hc => by
  unfold wordsL at hw
  rcases List.mem_append.1 hw with hw | hw
  ·exact (splitL_free 32 s).1 w hw c hc
  ·rw [List.mem_singleton] at hw
   rw [hw] at hc
   exact (splitL_free 32 s).2 c hc) (by unfold wordsL; simp)
 rw [joinS_wordsL] at h
 exact h
end Go.Proofs.YtdcbnkimjhefkaaGreatDoor

namespace Go.Proofs.YtdcbnkimjhefkaaGreatDoor
open Go.RowKit
set_option maxRecDepth 100000
def agrW : List UInt8 := [97, 103, 114, 101, 101, 109, 101, 110, 116]
def agrR : List (List UInt8) → List UInt8 → Option (List UInt8 × List (List UInt8))
 | [], _ => none
 | x :: r, t => if x = endW then some (t, r) else agrR r (t ++ (x ++ [10]))
def rparB (N : Nat) : Nat → List (List UInt8) → List Cmd → Except Nat (List Cmd)
 | 0, _, acc => .ok acc
 | _ + 1, [], acc => .ok acc
 | m + 1, x :: r, acc => match wordsL x with
  | [] => .ok acc
  | w0 :: ws => if w0 = agrW then (match numsR ws with
    | some [n] => (match agrR r [] with
     | none => .error (N + 1)
     | some (t, r') => rparB N m r' (acc ++ [fc 0 5 n [] 0 0 0 t]))
    | _ => .error (N - r.length))
   else match simpleR (w0 :: ws) with
    | none => .error (N - r.length)
    | some c => rparB N m r (acc ++ [c])
def rpar (s : List UInt8) : Except Nat (List Cmd) := match rparB (splitL 10 s).1.length ((splitL 10 s).1.length + 1) (splitL 10 s).1 [] with
 | .error ln => .error ln
 | .ok acc => if (splitL 10 s).2.isEmpty = true then .ok acc else .error ((splitL 10 s).1.length + 1)
def RpR (w : World) (s : List UInt8) (e : Ending) (w' : World) : Prop := Below w.heap.size w w' ∧
 if 65536 < s.length then e = .returned (.tuple #[.slice none 0 0, .int .i64 0, .int .i64 3]) else match rpar s with
  | .error ln => e = .returned (badV ln)
  | .ok acc => ∃ v, e = .returned (.tuple #[v, .int .i64 0, .int .i64 0]) ∧ w'.ownsRow w.heap.size 64 13 v acc.length (acc.flatMap Cmd.cells)
noncomputable def codeRp : Code := Tryz.f18.body.getD .skip
noncomputable def tRp0 : List Item := advT 60 [.code codeRp]
noncomputable def tRp1 : List Item := advT 60 (elseT tRp0)
noncomputable def tRp2 : List Item := advT 60 (popOp tRp1)
noncomputable def tRp3 : List Item := advT 60 (bodyT tRp2)
noncomputable def tRp4 : List Item := advT (cntO isIdxA 90 (thenT tRp3)) (thenT tRp3)
noncomputable def tRp5 : List Item := advT (cntO isIdxA 90 (popOp (popOp (popOp tRp4)))) (popOp (popOp (popOp tRp4)))
noncomputable def tRp6 : List Item := popOp (popOp tRp5)
noncomputable def tRp7 : List Item := advT 60 (popOp tRp6)
noncomputable def tRp8 : List Item := advT 60 (thenT tRp7)
noncomputable def tRp9 : List Item := advT 60 (popOp tRp8)
noncomputable def tRpa : List Item := advT 60 (elseT tRp9)
noncomputable def tRpb : List Item := advT (cntO isSliceO 90 (elseT tRp7)) (elseT tRp7)
noncomputable def tRpc : List Item := advT 60 (popOp tRpb)
noncomputable def tRpd : List Item := advG (popOp tRpc)
noncomputable def tRpe : List Item := advT 60 (tailT tRpd)
noncomputable def tRpf : List Item := advT 60 (elseT tRpe)
noncomputable def tRpg : List Item := advG (bodyT tRpf)
noncomputable def tRph : List Item := advT 60 (tailT tRpg)
noncomputable def tRpi : List Item := advT 60 (thenT tRph)
noncomputable def tRpj : List Item := advT 60 (elseT tRph)
noncomputable def tRpk : List Item := advT 60 (elseT tRpj)
noncomputable def tRpl : List Item := advT 60 (elseT tRp3)
structure LnAt (wl : World) (g off : Nat) (L : List (List UInt8)) : Prop where
 lt : g < wl.heap.size
 cells : wl.rangeAt g off (strsM L)
theorem LnAt.cell {wl u : World} {g off : Nat} {L : List (List UInt8)} (H : LnAt wl g off L) (B : Below wl.heap.size wl u) (i : Nat) (y : List UInt8) (hy : L[i]? = some y) : u.cell? ⟨g, off + i * 1, none⟩ = some (.string ⟨⟨y⟩⟩) := by
 have hc : (strsM L)[i]? = some (.string ⟨⟨y⟩⟩) := by unfold strsM; rw [List.getElem?_map, hy]; rfl
 have := (World.cell?_of_block (B.block g H.lt)).trans (H.cells i _ hc)
 simpa using this
theorem LnAt.good {wl u : World} {g off : Nat} {L : List (List UInt8)} (H : LnAt wl g off L) (B : Below wl.heap.size wl u) (i : Nat) (y : List UInt8) (hy : L[i]? = some y) : Ent.good u ⟨g, off + i * 1, [.string ⟨⟨y⟩⟩], 0, false⟩ :=
 ⟨Nat.lt_of_lt_of_le H.lt B.size, fun j z hj => by
  cases j with
  | zero => cases hj; exact H.cell B i y hy
  | succ j => cases hj⟩
structure RpF (wl : World) (v : Value) (acc : List Cmd) (k : Nat) (c : Cmd) (w : World) : Prop where
 s : PaS wl v acc w
 m : w.heap[k]? = some (.cells c.fact.toArray 61 (0, 0))
 o : wl.heap.size ≤ k
 a : v.ownBlock ≠ some k
theorem RpF.below {wl w w' : World} {v : Value} {acc : List Cmd} {k : Nat} {c : Cmd} (h : RpF wl v acc k c w) (hb : Below w.heap.size w w') : RpF wl v acc k c w' := ⟨h.s.below hb, (hb.block k (heap_lt h.m)).trans h.m, h.o, h.a⟩
theorem RpF.kept {wl w w' : World} {v : Value} {acc : List Cmd} {k : Nat} {c c' : Cmd} (h : RpF wl v acc k c w) (hK : Kept [k] w.heap.size w w') (hm : w'.heap[k]? = some (.cells c'.fact.toArray 61 (0, 0))) : RpF wl v acc k c' w' :=
 ⟨⟨h.s.bel.trans (hK.below h.s.bel.size (fun j hj => by rw [List.mem_singleton.1 hj]; exact h.o)), owns_keep h.s.own fun g hg => hK.block g (own_block h.s.own hg).2 (fun e => h.a (by rw [hg, List.mem_singleton.1 e]))⟩, hm, h.o, h.a⟩
/-! one more line of an agreement -/
noncomputable def opsAg : Array Oper := (curReg tRpi).getD #[]
def WAg : Wr := [(83, 0), (84, 1), (85, 2), (86, 3), (87, 4), (88, 5), (89, 6), (90, 7)]
abbrev lS (g off cap N : Nat) : Value := .slice (some ⟨g, off, none⟩) N cap
abbrev envAg (g off cap N : Nat) (vr : Value) (b : Bool) (j k : Nat) : List (Nat × Value) := [(5, lS g off cap N), (6, .bool b), (7, vr), (8, .int .i64 (j : Nat)), (14, pt k)]
def LAg (g off cap N j k : Nat) (t y : List UInt8) : List Loc :=
 [pureL 0 [] (.pointer (some ⟨k, 7, none⟩)), pureL 1 [0] (.string ⟨⟨t⟩⟩), pureL 2 [] (lS g off cap N), pureL 3 [] (.int .i64 (j : Nat)), pureL 4 [2, 3] (.pointer (some ⟨g, off + j * 1, none⟩)), pureL 5 [4] (.string ⟨⟨y⟩⟩), pureL 6 [5] (.string ⟨⟨y ++ [10]⟩⟩), pureL 7 [1, 6] (.string ⟨⟨t ++ (y ++ [10])⟩⟩)]
theorem okAg (g off cap N j k : Nat) (t y : List UInt8) : (locOk .any opsAg WAg (Array.replicate 10 false) 112 (LAg g off cap N j k t y) && bare opsAg (LAg g off cap N j k t y)) = true := by kernel_rfl
variable {wl w : World} {g off cap N j k : Nat} {t y : List UInt8} {vr : Value} {b : Bool} {E : Nat → Value} {L : List (List UInt8)} {acc : List Cmd}
theorem partsAg {c : Cmd} (hct : c.txt = t) (hm : w.heap[k]? = some (.cells c.fact.toArray 61 (0, 0))) (hj : j < N) (hge : Ent.good w ⟨g, off + j * 1, [.string ⟨⟨y⟩⟩], 0, false⟩) (hyl : y.length ≤ 4294967296) (htl : t.length ≤ 1000000000000000000) :
  PartsE Tryz.prog opsAg 112 (updL E (envAg g off cap N vr b j k)) WAg (fun u => u = w) (fun u u' => u = u') (LAg g off cap N j k t y) (LAg g off cap N j k t y) := by
 subst hct
 have ge := good_own hm
 refine ⟨part_pureE (fun _ => rfl) (fun _ _ _ _ => by kernel_rfl), ?_, part_pureE (fun _ => rfl) (fun _ _ _ _ => by kernel_rfl), part_pureE (fun _ => rfl) (fun _ _ _ _ => by kernel_rfl), ?_, ?_, ?_, ?_, trivial⟩
 ·refine ⟨fun _ _ _ _ _ h => h, fun vals u hC hb => ?_⟩
  subst hC
  obtain ⟨h0, _⟩ := hb
  exact OpOk.knownE [(83, 0, .pointer (some ⟨k, 7, none⟩))] (by kernel_rfl) ⟨(List.cons.inj h0).1, trivial⟩ (OpOk.reads ⟨0, [⟨k, 0, c.fact, 61, true⟩], (0, 7), []⟩ (fun e he => by rw [List.mem_singleton.1 he]; exact ge) (.string ⟨⟨c.txt⟩⟩) (by kernel_rfl) (by kernel_rfl) ⟨rfl, rfl, rfl⟩)
 ·refine ⟨fun _ _ _ _ _ h => h, fun vals u hC hb => ?_⟩
  subst hC
  obtain ⟨h0, h1, _⟩ := hb
  exact OpOk.value (exec_index (sz := 1) (cap := cap) 53 (.tmp 85) (.tmp 86) (by kernel_rfl) ((by kernel_rfl : evalVE 112 (updL E (envAg g off cap N vr b j k)) WAg vals (.tmp 85) = vals 2).trans (List.cons.inj h0).1) ((by kernel_rfl : evalVE 112 (updL E (envAg g off cap N vr b j k)) WAg vals (.tmp 86) = vals 3).trans (List.cons.inj h1).1) hj Tryz.underlying53 (by kernel_rfl)) ⟨rfl, rfl, rfl⟩
 ·refine ⟨fun _ _ _ _ _ h => h, fun vals u hC hb => ?_⟩
  subst hC
  obtain ⟨h0, _⟩ := hb
  exact OpOk.knownE [(87, 4, .pointer (some ⟨g, off + j * 1, none⟩))] (by kernel_rfl) ⟨(List.cons.inj h0).1, trivial⟩ (OpOk.reads ⟨0, [⟨g, off + j * 1, [.string ⟨⟨y⟩⟩], 0, false⟩], (0, 0), []⟩ (fun e he => by rw [List.mem_singleton.1 he]; exact hge) (.string ⟨⟨y⟩⟩) (by kernel_rfl) (by kernel_rfl) ⟨rfl, rfl, rfl⟩)
 ·refine ⟨fun _ _ _ _ _ h => h, fun vals u hC hb => ?_⟩
  subst hC
  obtain ⟨h0, _⟩ := hb
  exact OpOk.value (exec_addS (T := 9) (T' := 9) (x := .tmp 88) (y := .const (.string ⟨⟨[10]⟩⟩)) (by kernel_rfl) ((by kernel_rfl : evalVE 112 (updL E (envAg g off cap N vr b j k)) WAg vals (.tmp 88) = vals 5).trans (List.cons.inj h0).1) (by kernel_rfl) (by simp only [List.length_cons, List.length_nil]; omega)) ⟨rfl, rfl, rfl⟩
 ·refine ⟨fun _ _ _ _ _ h => h, fun vals u hC hb => ?_⟩
  subst hC
  obtain ⟨h0, h1, _⟩ := hb
  exact OpOk.value (exec_addS (T := 9) (T' := 9) (x := .tmp 84) (y := .tmp 89) (by kernel_rfl) ((by kernel_rfl : evalVE 112 (updL E (envAg g off cap N vr b j k)) WAg vals (.tmp 84) = vals 1).trans (List.cons.inj h0).1) ((by kernel_rfl : evalVE 112 (updL E (envAg g off cap N vr b j k)) WAg vals (.tmp 89) = vals 6).trans (List.cons.inj h1).1) (by rw [List.length_append]; simp only [List.length_cons, List.length_nil]; omega)) ⟨rfl, rfl, rfl⟩
theorem rp_line {R : Ending → World → Prop} {c : Cmd} (hct : c.txt = t) (S : RpF wl vr acc k c w) (H : LnAt wl g off L) (hN : L.length = N) (hy : L[j]? = some y) (hyl : y.length ≤ 4294967296) (htl : t.length ≤ 1000000000000000000)
  (h : ∀ w' E', RpF wl vr acc k { c with txt := t ++ (y ++ [10]) } w' → At Tryz.prog 18 R (tailT tRpi) (Fr 112 (updL E' (envAg g off cap N vr b j k))) w') :
  At Tryz.prog 18 R tRpi (Fr 112 (updL E (envAg g off cap N vr b j k))) w := by
 have hj : j < N := by rw [← hN]; exact (List.getElem?_eq_some_iff.1 hy).1
 have S1 := S.below (Below.refl _ _).drew
 refine at_draw opsAg (by kernel_rfl) (by kernel_rfl) 10 (by kernel_rfl) ?_
 generalize w.drew = w1 at *
 refine any_partsE (fuel := 2) (L := LAg g off cap N j k t y) (W := WAg) (C := fun u => u = w1) (Ext := fun u u' => u = u') (okAg g off cap N j k t y) rfl (fun _ => rfl) (fun _ _ _ h k => h.trans k) (partsAg hct S1.m hj (H.good S1.s.bel j y hy) hyl htl) rfl ?_
 intro vals u hC _ hall
 subst hC
 obtain ⟨_, _, _, _, _, _, _, hx, _⟩ := hall
 have r8 : Region.ready .any opsAg (((LAg g off cap N j k t y).map (·.idx)).foldl (fun b i => b.setIfInBounds i true) (Array.replicate 10 false)) = [8] := by kernel_rfl
 have r9 : Region.ready .any opsAg ((((LAg g off cap N j k t y).map (·.idx)).foldl (fun b i => b.setIfInBounds i true) (Array.replicate 10 false)).setIfInBounds 8 true) = [9] := by kernel_rfl
 have r10 : Region.ready .any opsAg (((((LAg g off cap N j k t y).map (·.idx)).foldl (fun b i => b.setIfInBounds i true) (Array.replicate 10 false)).setIfInBounds 8 true).setIfInBounds 9 true) = [] := by kernel_rfl
 have qs : ((90, vals 7) :: envAg g off cap N vr b j k).map (fun p => finE opsAg vals ((LAg g off cap N j k t y).map (·.idx)) (updL E (envAg g off cap N vr b j k)) p.1) = ((90, vals 7) :: envAg g off cap N vr b j k).map (·.2) := by kernel_rfl
 generalize ((LAg g off cap N j k t y).map (·.idx)).foldl (fun b i => b.setIfInBounds i true) (Array.replicate 10 false) = lst at *
 generalize finE opsAg vals ((LAg g off cap N j k t y).map (·.idx)) (updL E (envAg g off cap N vr b j k)) = E8 at *
 rw [← updL_same qs, show vals 7 = .string ⟨⟨t ++ (y ++ [10])⟩⟩ from (List.cons.inj hx).1]
 generalize t ++ (y ++ [10]) = t2 at *
 refine any_run (fuel := 1) (opsAg.getD 8 default) ⟨u.heap.size, [⟨k, 0, c.fact, 61, true⟩], (0, 0), []⟩ ⟨u.heap.size, [⟨k, 0, c.fact, 61, true⟩], (0, 0), []⟩ (.value (.pointer (some ⟨k, 7, none⟩))) (.pointer (some ⟨k, 7, none⟩)) r8 (by kernel_rfl) (by kernel_rfl) (by kernel_rfl) (.inl rfl) (lies_one S1.m) rfl fun u1 hL1 hK1 => ?_
 have S2 := S1.kept hK1 (own_good (hL1.sat.good _ (List.mem_singleton.2 rfl)))
 refine any_run (fuel := 0) (opsAg.getD 9 default) ⟨u1.heap.size, [⟨k, 0, c.fact, 61, true⟩], (0, 7), []⟩ ⟨u1.heap.size, [⟨k, 0, ({ c with txt := t2 } : Cmd).fact, 61, true⟩], (0, 8), [(k, k), (7, 7)]⟩ .skip undef r9 (by kernel_rfl) (by kernel_rfl) (by kernel_rfl) (.inr ⟨rfl, rfl⟩) (by have hl := lies_one S2.m; exact ⟨hl.sat, hl.le, hl.own⟩) rfl fun u2 hL2 hK2 => ?_
 have S3 : RpF wl vr acc k { c with txt := t2 } u2 := S2.kept hK2 (own_good (hL2.sat.good _ (List.mem_singleton.2 rfl)))
 refine any_end r10 ⟨rfl, At.mid ?_⟩
 refine at_known (envAg g off cap N vr b j k) (by kernel_rfl) fun E9 => ?_
 exact h u2 E9 S3
end Go.Proofs.YtdcbnkimjhefkaaGreatDoor

namespace Go.Proofs.YtdcbnkimjhefkaaGreatDoor
open Go.RowKit
set_option maxRecDepth 100000
theorem splitL_el (d : UInt8) : ∀ s : List UInt8, (∀ x ∈ (splitL d s).1, x.length ≤ s.length) ∧ (splitL d s).2.length ≤ s.length
 | [] => ⟨fun x hx => (by cases hx), Nat.le_refl _⟩
 | c :: r => by
  obtain ⟨h1, h2⟩ := splitL_el d r
  unfold splitL
  split
  ·refine ⟨fun x hx => ?_, by simp only [List.length_cons]; omega⟩
   rcases List.mem_cons.1 hx with rfl | hx
   ·simp
   ·have := h1 x hx
    simp only [List.length_cons]
    omega
  ·split
   ·refine ⟨fun x hx => (by cases hx), by simp only [List.length_cons]; omega⟩
   ·rename_i l ls hl
    rw [hl] at h1
    refine ⟨fun x hx => ?_, by simp only [List.length_cons]; omega⟩
    rcases List.mem_cons.1 hx with rfl | hx
    ·have := h1 l (by simp)
     simp only [List.length_cons]
     omega
    ·have := h1 x (by simp [hx])
     simp only [List.length_cons]
     omega
theorem wordsL_ne (x : List UInt8) : ∃ w0 ws, wordsL x = w0 :: ws := by
 unfold wordsL
 cases h : (splitL 32 x).1 with
 | nil => exact ⟨_, _, rfl⟩
 | cons a l => exact ⟨a, l ++ [(splitL 32 x).2], rfl⟩
theorem wordsL_el (x : List UInt8) : (∀ y ∈ wordsL x, y.length ≤ x.length) ∧ (wordsL x).length ≤ x.length + 1 := by
 obtain ⟨h1, h2⟩ := splitL_el 32 x
 have h3 := splitL_len 32 x
 unfold wordsL
 refine ⟨fun y hy => ?_, by rw [List.length_append, List.length_singleton]; omega⟩
 rcases List.mem_append.1 hy with h | h
 ·exact h1 y h
 ·rw [List.mem_singleton.1 h]; exact h2
theorem strs_tail {w : World} {lim : Nat} {v : Value} {x : List UInt8} {r : List (List UInt8)} (h : StrsAt w lim v (x :: r)) :
  ∃ g off cap, v = .slice (some ⟨g, off, none⟩) (r.length + 1) cap ∧ w.cell? ⟨g, off + 0 * 1, none⟩ = some (.string ⟨⟨x⟩⟩) ∧ StrsAt w lim (sliced (some ⟨g, off, none⟩) 1 (r.length + 1) cap 1) r := by
 obtain ⟨a, cap, rfl, hcp, hc⟩ := h
 obtain ⟨g, off, rfl, hgl, hcell⟩ := hc (by simp)
 rw [List.length_cons] at hcp
 refine ⟨g, off, cap, rfl, hcell 0 _ rfl, (if cap = 1 then (some ⟨g, off, none⟩) else (some ⟨g, off, none⟩ : Option Addr).map (·.add (1 * 1))), cap - 1, rfl, by omega, fun hne => ?_⟩
 have hlen : 1 ≤ r.length := by
  cases r with
  | nil => exact absurd rfl hne
  | cons => simp
 refine ⟨g, off + 1, by rw [if_neg (by omega)]; simp [Addr.add], hgl, fun j u hu => ?_⟩
 have h1 := hcell (j + 1) u (by simpa [strsM] using hu)
 rw [show off + 1 + j = off + (j + 1) by omega]
 exact h1
theorem push_rp {f : FuncId} {R : Ending → World → Prop} {wl w : World} {v : Value} {l : List Cmd} {c : Cmd} {n : Nat} {td : List Item} {E : Nat → Value} {g : Nat} (S : PaS wl v l w) (hl : l.length ≤ 70000) (hg : w.heap[g]? = some (.cells c.cells.toArray 64 (0, 0)))
  (s x : Operand) (o : Oper) (hc : curOp n E td = some o) (ho : o.op = .call { callee := .builtin .append, args := #[s, x], argTypes := #[50, 50] }) (hs : evE n E s = v) (hx : evE n E x = .slice (some ⟨g, 0, none⟩) 1 1)
  (hk : ∀ v' w', PaS wl v' (l ++ [c]) w' → At Tryz.prog f R (popOp td) (Fr n (updO E o.dst v')) w') : At Tryz.prog f R td (Fr n E) w := push_pa S hl hg s x o hc ho hs hx hk
def FinR (w : World) (out : Except Nat (List Cmd)) (b : Bool) (N : Nat) (e : Ending) (w' : World) : Prop := Below w.heap.size w w' ∧ match out with
 | .error ln => e = .returned (badV ln)
 | .ok acc => if b = true then (∃ v, e = .returned (.tuple #[v, .int .i64 0, .int .i64 0]) ∧ w'.ownsRow w.heap.size 64 13 v acc.length (acc.flatMap Cmd.cells)) else e = .returned (badV (N + 1))
variable {w0 wl w : World} {g off cap N j k i m : Nat} {v : Value} {b : Bool} {E : Nat → Value} {L : List (List UInt8)} {acc : List Cmd} {A : Option Addr}
structure LnsAt (wl : World) (A : Option Addr) (L : List (List UInt8)) : Prop where
 h : L ≠ [] → ∃ g off, A = some ⟨g, off, none⟩ ∧ LnAt wl g off L
 el : ∀ x ∈ L, x.length ≤ 70000
 n : L.length ≤ 65536
abbrev aS (A : Option Addr) (cap N : Nat) : Value := .slice A N cap
abbrev envRp (A : Option Addr) (cap N : Nat) (b : Bool) (v : Value) (i : Nat) : List (Nat × Value) := [(5, aS A cap N), (6, .bool b), (7, v), (8, .int .i64 (i : Nat))]
theorem wrap1 (i : Nat) (h : i ≤ 4294967296) : IntKind.i64.wrap ((i : Int) + 1) = ((i + 1 : Nat) : Int) := by rw [IntWalk.i64_in _ (by omega)]; omega
theorem rp_end (hw : Below w0.heap.size w0 wl) (S : PaS wl v acc w) (hN : N ≤ 65536) :
  At Tryz.prog 18 (FinR w0 (.ok acc) b N) (elseT tRp3) (Fr 112 (updL E (envRp A cap N b v i))) w := by
 refine at_run 60 (elseT tRp3) w.heap.size [] [] tRpl [(5, aS A cap N), (7, v), (107, .bool (!b))] w.heap.size [] (lies_nil w) (by kernel_rfl) fun w1 E1 hL1 hK1 => ?_
 have S1 := S.below (hK1.below (Nat.le_refl _) (fun k hk => by cases hk))
 cases b with
 | false =>
  refine at_cond true (by kernel_rfl) (fun _ => ?_) (fun h => nomatch h)
  refine at_endT (fn := Tryz.f18) 60 (.tuple #[.slice none 0 0, .int .i64 (IntKind.i64.wrap ((N : Int) + 1)), .int .i64 6]) (by kernel_rfl) (by kernel_rfl) fun w2 B2 => ⟨hw.trans ((S1.below B2).bel.mono hw.size), ?_⟩
  rw [wrap1 N (by omega)]
  rfl
 | true =>
  refine at_cond false (by kernel_rfl) (fun h => nomatch h) fun _ => ?_
  refine at_endT (fn := Tryz.f18) 60 (.tuple #[v, .int .i64 0, .int .i64 0]) (by kernel_rfl) (by kernel_rfl) fun w2 B2 => ?_
  have S2 := S1.below B2
  exact ⟨hw.trans (S2.bel.mono hw.size), v, rfl, own_le S2.own hw.size⟩
theorem rp_bad {td : List Item} {env : List (Nat × Value)} (hw : Below w0.heap.size w0 wl) (S : PaS wl v acc w) (hi : i < N) (hN : N ≤ 65536)
  (he : (fun a : St => (isRet a.todo, a.ms.mem, a.ms.sz, a.ms.eqs, (lrun Tryz.prog (resultsE Tryz.f18 112 a.env) ⟨0, [], (0, 0), []⟩).map (fun r => (r.1, r.2.eqs)))) (adv Tryz.prog 112 60 ⟨td, updL E env, ⟨w.heap.size, [], (0, 0), []⟩, []⟩) = (true, [], w.heap.size, [], some (.tuple #[.slice none 0 0, .int .i64 (IntKind.i64.wrap ((i : Int) + 1)), .int .i64 6], []))) :
  At Tryz.prog 18 (FinR w0 (.error (N - (N - (i + 1)))) b N) td (Fr 112 (updL E env)) w := by
 refine at_endT (fn := Tryz.f18) 60 (.tuple #[.slice none 0 0, .int .i64 (IntKind.i64.wrap ((i : Int) + 1)), .int .i64 6]) (by kernel_rfl) he fun w2 B2 => ⟨hw.trans ((S.below B2).bel.mono hw.size), ?_⟩
 rw [wrap1 i (by omega), show N - (N - (i + 1)) = i + 1 by omega]
 rfl
abbrev Again (w0 wl : World) (A : Option Addr) (cap N : Nat) (b : Bool) (L : List (List UInt8)) (out : Except Nat (List Cmd)) (i : Nat) : Prop := ∀ (i' m' : Nat) (v' : Value) (acc' : List Cmd) (E' : Nat → Value) (w' : World), i < i' → i' ≤ N → N - i' < m' → acc'.length ≤ i' → rparB N m' (L.drop i') acc' = out → PaS wl v' acc' w' →
 At Tryz.prog 18 (FinR w0 out b N) (againT tRp2) (Fr 112 (updL E' (envRp A cap N b v' i'))) w'
theorem own_ne {w : World} {base e size n : Nat} {v : Value} {xs : List Value} {k : Nat} (h : w.ownsRow base e size v n xs) (hk : w.heap.size ≤ k) : v.ownBlock ≠ some k := fun hg => by
 have := (own_block h hg).2
 omega
theorem rp_agr {out : Except Nat (List Cmd)} {n : Int} {A : Option Addr} (hw : Below w0.heap.size w0 wl) (H : LnsAt wl A L) (hN : L.length = N) (hi : i < N) (hm : N - i < m + 1) (hal : acc.length ≤ i) (S : RpF wl v acc k (fc 0 5 n [] 0 0 0 []) w)
  (ho : (match agrR (L.drop (i + 1)) [] with
   | none => .error (N + 1)
   | some (t, r') => rparB N m r' (acc ++ [fc 0 5 n [] 0 0 0 t])) = out) (again : Again w0 wl A cap N b L out i) :
  At Tryz.prog 18 (FinR w0 out b N) tRpf (Fr 112 (updL E (envRp A cap N b v (i + 1) ++ [(14, pt k)]))) w := by
 have hn := H.n
 generalize hag : agrR (L.drop (i + 1)) [] = ag at ho
 refine at_loop (by kernel_rfl) (fun E wx => ∃ (j : Nat) (t : List UInt8) (E0 : Nat → Value), i + 1 ≤ j ∧ j ≤ N ∧ E = updL E0 (envRp A cap N b v j ++ [(14, pt k)]) ∧ agrR (L.drop j) t = ag ∧ t.length ≤ 70001 * j ∧ RpF wl v acc k (fc 0 5 n [] 0 0 0 t) wx)
  (fun E _ => N - idxOf (E 8)) ⟨i + 1, [], E, Nat.le_refl _, hi, rfl, hag, Nat.zero_le _, S⟩ ?_
 rintro E wx ⟨j, t, E0, hj1, hj2, rfl, ha, htl, S⟩ hagain
 refine at_run (cntG 90 (bodyT tRpf)) (bodyT tRpf) wx.heap.size [] [] tRpg (envRp A cap N b v j ++ [(14, pt k)]) wx.heap.size [] (lies_nil wx) (by kernel_rfl) fun w1 E1 hL1 hK1 => ?_
 have S1 := S.below (hK1.below (Nat.le_refl _) (fun k hk => by cases hk))
 by_cases hlt : j < N
 ·have hjl : j < L.length := by omega
  have hne : L ≠ [] := fun e => by rw [e] at hjl; exact absurd hjl (Nat.not_lt_zero _)
  obtain ⟨g, off, rfl, HL⟩ := H.h hne
  have hy : L[j]? = some L[j] := List.getElem?_eq_getElem hjl
  have hyl := H.el _ (List.getElem_mem hjl)
  have hd : L.drop j = L[j] :: L.drop (j + 1) := (List.getElem_cons_drop hjl).symm
  rw [hd, agrR] at ha
  generalize L[j] = y at *
  refine at_ghost ((curReg tRpg).getD #[]) ⟨[⟨g, off + j * 1, [.string ⟨⟨y⟩⟩], 0, false⟩], [(8, 0, 0)], [⟨7, [(77, aS (some ⟨g, off, none⟩) cap N), (78, .int .i64 (j : Nat))], .pointer (some ⟨g, off + j * 1, none⟩), (decide ((j : Int) < (N : Int))) && true⟩, ⟨9, [(80, .string ⟨⟨y⟩⟩)], .bool (!(decide (y = endW))), (decide ((j : Int) < (N : Int))) && true⟩]⟩ (envRp (some ⟨g, off, none⟩) cap N b v j ++ [(14, pt k), (82, .bool (cond (decide ((j : Int) < (N : Int))) (!(decide (y = endW))) false))]) (by kernel_rfl) (by kernel_rfl) (by kernel_rfl) (fun e he => by rw [List.mem_singleton.1 he]; exact HL.good S1.s.bel j y hy) (fun sp hsp => ?_) (fun X => by kernel_rfl) (by kernel_rfl) fun w2 E2 b2 => ?_
  ·simp only [List.mem_cons, List.not_mem_nil, or_false] at hsp
   rcases hsp with rfl | rfl
   ·exact spec_op fun _ E w _ => exec_index (sz := 1) (cap := cap) 53 (.tmp 77) (.tmp 78) (by kernel_rfl) (by kernel_rfl) (by kernel_rfl) hlt Tryz.underlying53 (by kernel_rfl)
   ·exact spec_op fun _ E w _ => exec_neqs (T := 9) (T' := 9) (x := .tmp 80) (y := .const (.string ⟨⟨endW⟩⟩)) (by kernel_rfl) (by kernel_rfl) (by kernel_rfl)
  have S2 := S1.below b2
  rw [decide_eq_true (by omega : (j : Int) < (N : Int))]
  by_cases hye : y = endW
  ·rw [if_pos hye] at ha
   subst ha
   rw [decide_eq_true hye]
   refine at_run 60 (tailT tRpg) w2.heap.size [] [] tRph (envRp (some ⟨g, off, none⟩) cap N b v j ++ [(14, pt k), (82, .bool false)]) w2.heap.size [] (lies_nil w2) (by kernel_rfl) fun w3 E3 hL3 hK3 => ?_
   have S3 := S2.below (hK3.below (Nat.le_refl _) (fun k hk => by cases hk))
   refine at_cond false (by kernel_rfl) (fun h => nomatch h) fun _ => ?_
   refine at_run 60 (elseT tRph) w3.heap.size [] [] tRpj (envRp (some ⟨g, off, none⟩) cap N b v j ++ [(14, pt k), (97, .bool ((j : Int) == (N : Int)))]) w3.heap.size [] (lies_nil w3) (by kernel_rfl) fun w4 E4 hL4 hK4 => ?_
   have S4 := S3.below (hK4.below (Nat.le_refl _) (fun k hk => by cases hk))
   have e97 : ((j : Int) == (N : Int)) = false := beq_eq_false_iff_ne.2 (by omega)
   rw [e97]
   refine at_cond false (by kernel_rfl) (fun h => nomatch h) fun _ => ?_
   refine at_run 60 (elseT tRpj) w4.heap.size [⟨k, 0, (fc 0 5 n [] 0 0 0 t).fact, 61, true⟩] [(0, 0)] tRpk [(5, aS (some ⟨g, off, none⟩) cap N), (6, .bool b), (8, .int .i64 (j : Nat)), (101, v), (104, .slice (some ⟨w4.heap.size, 0, none⟩) 1 1)] (w4.heap.size + 1) [⟨k, 0, (fc 0 5 n [] 0 0 0 t).fact, 61, true⟩, ⟨w4.heap.size, 0, (fc 0 5 n [] 0 0 0 t).cells, 64, true⟩] (lies_one S4.m) (by kernel_rfl) fun w5 E5 hL5 hK5 => ?_
   have g5 := own_good (hL5.sat.good ⟨w4.heap.size, 0, (fc 0 5 n [] 0 0 0 t).cells, 64, true⟩ (by simp))
   have S5 : RpF wl v acc k (fc 0 5 n [] 0 0 0 t) w5 := S4.kept hK5 (own_good (hL5.sat.good ⟨k, 0, (fc 0 5 n [] 0 0 0 t).fact, 61, true⟩ (by simp)))
   generalize w4.heap.size = k5 at *
   refine push_rp S5.s (by omega) g5 (.tmp 101) (.tmp 104) (opAt tRpk) (by kernel_rfl) (by kernel_rfl) (by kernel_rfl) (by kernel_rfl) fun v' w6 S6 => ?_
   refine at_run 60 (popOp tRpk) w6.heap.size [] [] (againT tRp2) [(5, aS (some ⟨g, off, none⟩) cap N), (6, .bool b), (7, v'), (8, .int .i64 (IntKind.i64.wrap ((j : Int) + 1)))] w6.heap.size [] (lies_nil w6) (by kernel_rfl) fun w7 E7 hL7 hK7 => ?_
   rw [wrap1 j (by omega)]
   exact again (j + 1) m v' _ E7 w7 (by omega) hlt (by omega) (by rw [List.length_append, List.length_singleton]; omega) ho (S6.below (hK7.below (Nat.le_refl _) (fun k hk => by cases hk)))
  ·rw [if_neg hye] at ha
   rw [decide_eq_false hye]
   refine at_run 60 (tailT tRpg) w2.heap.size [] [] tRph (envRp (some ⟨g, off, none⟩) cap N b v j ++ [(14, pt k), (82, .bool true)]) w2.heap.size [] (lies_nil w2) (by kernel_rfl) fun w3 E3 hL3 hK3 => ?_
   have S3 := S2.below (hK3.below (Nat.le_refl _) (fun k hk => by cases hk))
   refine at_cond true (by kernel_rfl) (fun _ => ?_) (fun h => nomatch h)
   refine at_run 60 (thenT tRph) w3.heap.size [] [] tRpi (envAg g off cap N v b j k) w3.heap.size [] (lies_nil w3) (by kernel_rfl) fun w4 E4 hL4 hK4 => ?_
   have S4 := S3.below (hK4.below (Nat.le_refl _) (fun k hk => by cases hk))
   refine rp_line (t := t) (y := y) rfl S4 HL hN hy (by omega) (by omega) fun w5 E5 S5 => ?_
   refine at_run 60 (tailT tRpi) w5.heap.size [] [] (againT tRpf) [(5, aS (some ⟨g, off, none⟩) cap N), (6, .bool b), (7, v), (8, .int .i64 (IntKind.i64.wrap ((j : Int) + 1))), (14, pt k)] w5.heap.size [] (lies_nil w5) (by kernel_rfl) fun w6 E6 hL6 hK6 => ?_
   rw [wrap1 j (by omega)]
   refine hagain _ _ ⟨j + 1, t ++ (y ++ [10]), E6, by omega, hlt, rfl, ha, by simp only [List.length_append, List.length_singleton]; omega, S5.below (hK6.below (Nat.le_refl _) (fun k hk => by cases hk))⟩ ?_
   show N - idxOf (.int .i64 ((j + 1 : Nat) : Int)) < N - idxOf (.int .i64 (j : Int))
   simp only [idxOf]
   omega
 ·have hjN : j = N := by omega
  have hnone : none = ag := by
   rw [← ha, List.drop_eq_nil_of_le (by omega)]
   rfl
  subst hnone
  replace ho : .error (N + 1) = out := ho
  subst ho
  refine at_ghost ((curReg tRpg).getD #[]) ⟨[], [], [⟨7, [], .bool false, (decide ((j : Int) < (N : Int))) && true⟩, ⟨8, [], .bool false, (decide ((j : Int) < (N : Int))) && true⟩, ⟨9, [], .bool true, (decide ((j : Int) < (N : Int))) && true⟩]⟩ (envRp A cap N b v j ++ [(14, pt k), (82, .bool (cond (decide ((j : Int) < (N : Int))) true false))]) (by kernel_rfl) (by kernel_rfl) (by kernel_rfl) (fun e he => by cases he) (fun sp hsp => ?_) (fun X => by kernel_rfl) (by kernel_rfl) fun w2 E2 b2 => ?_
  ·have hdf : decide ((j : Int) < (N : Int)) = false := decide_eq_false (by omega)
   simp only [List.mem_cons, List.not_mem_nil, or_false] at hsp
   rcases hsp with rfl | rfl | rfl
   ·exact spec_op fun hc => by rw [hdf] at hc; cases hc
   ·exact spec_op fun hc => by rw [hdf] at hc; cases hc
   ·exact spec_op fun hc => by rw [hdf] at hc; cases hc
  have S2 := S1.below b2
  rw [decide_eq_false (by omega : ¬ (j : Int) < (N : Int))]
  refine at_run 60 (tailT tRpg) w2.heap.size [] [] tRph (envRp A cap N b v j ++ [(14, pt k), (82, .bool false)]) w2.heap.size [] (lies_nil w2) (by kernel_rfl) fun w3 E3 hL3 hK3 => ?_
  have S3 := S2.below (hK3.below (Nat.le_refl _) (fun k hk => by cases hk))
  refine at_cond false (by kernel_rfl) (fun h => nomatch h) fun _ => ?_
  refine at_run 60 (elseT tRph) w3.heap.size [] [] tRpj (envRp A cap N b v j ++ [(14, pt k), (97, .bool ((j : Int) == (N : Int)))]) w3.heap.size [] (lies_nil w3) (by kernel_rfl) fun w4 E4 hL4 hK4 => ?_
  have S4 := S3.below (hK4.below (Nat.le_refl _) (fun k hk => by cases hk))
  have e97 : ((j : Int) == (N : Int)) = true := by rw [hjN]; exact beq_self_eq_true _
  rw [e97]
  refine at_cond true (by kernel_rfl) (fun _ => ?_) (fun h => nomatch h)
  refine at_endT (fn := Tryz.f18) 60 (.tuple #[.slice none 0 0, .int .i64 (IntKind.i64.wrap ((N : Int) + 1)), .int .i64 6]) (by kernel_rfl) (by kernel_rfl) fun w5 B5 => ⟨hw.trans ((S4.below B5).s.bel.mono hw.size), ?_⟩
  rw [wrap1 N (by omega)]
  rfl
end Go.Proofs.YtdcbnkimjhefkaaGreatDoor

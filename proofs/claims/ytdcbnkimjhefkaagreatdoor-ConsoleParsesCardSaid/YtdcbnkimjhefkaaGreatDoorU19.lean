/-
 The reference's fact, but for agreements.
 The reference's fact: agreements.
 The reference's command.
-/
import Derived.Test.YtdcbnkimjhefkaaGreatDoorU18
import Derived.Laws.StructEq
namespace Go.Proofs.YtdcbnkimjhefkaaGreatDoor
open Go.RowKit
set_option maxRecDepth 100000
def isEql : List Item → Bool
 | .inRegion ops (i :: _) :: _ => match ops[i]? with
  | some o => match o.op with
   | .binOp .eql _ _ _ _ => true
   | _ => false
  | none => false
 | _ => false
def cntQ : Nat → List Item → Nat
 | 0, _ => 0
 | m + 1, t => match isEql t with
  | true => 0
  | false => match stepT t with
   | some t' => cntQ m t' + 1
   | none => 0
noncomputable def advQ (t : List Item) : List Item := advT (cntQ 90 t) t
section
variable {P : Program} {f : FuncId} {R : Ending → World → Prop}
def curEqS (n : Nat) (E : Nat → Value) (todo : List Item) : Option (ByteArray × ByteArray × Option Tmp) := match curOp n E todo with
 | some o => match o.op with
  | .binOp .eql _ x y _ => match evE n E x, evE n E y with
   | .string a, .string b => some (a, b, o.dst)
   | _, _ => none
  | _ => none
 | none => none
theorem at_eqs {n : Nat} {todo : List Item} {E : Nat → Value} {w : World} (a b : List UInt8) (dst : Option Tmp) (hc : curEqS n E todo = some (⟨⟨a⟩⟩, ⟨⟨b⟩⟩, dst)) (h : At P f R (popOp todo) (Fr n (updO E dst (.bool (decide (a = b))))) w) : At P f R todo (Fr n E) w := by
 unfold curEqS at hc
 split at hc
 ·rename_i o hcur
  split at hc
  ·rename_i T x y T' ho
   split at hc
   ·rename_i a' b' hx hy
    simp only [Option.some.injEq, Prod.mk.injEq] at hc
    obtain ⟨rfl, rfl, rfl⟩ := hc
    refine at_op o hcur (v := .bool (decide (a = b))) (w' := w) ?_ h
    have e : ((⟨⟨a⟩⟩ : ByteArray) == ⟨⟨b⟩⟩) = decide (a = b) := by
     show ((⟨a⟩ : Array UInt8) == ⟨b⟩) = decide (a = b)
     by_cases hab : a = b
     ·subst hab; simp
     ·rw [decide_eq_false hab, beq_eq_false_iff_ne]
      intro h2
      exact hab (by injection h2)
    unfold execOp
    simp only [ho, hx, hy]
    unfold binOp Op.stringOp
    rw [beq_toListBytes] at e
    simp only [eqGuard, e]
    rfl
   ·cases hc
  ·cases hc
 ·cases hc
end
noncomputable def tAq : List Item := advQ (popOp tA1)
variable {w0 : World} {k1 k9 : Nat} {c x : Cmd} {t fs : List UInt8} {R : Ending → World → Prop}
theorem fact_end {wx : World} {E : Nat → Value} (hc : c.Wf) (hx : x.Wf) (ht : t.length ≤ 1125899906842624) (S : FS w0 k1 k9 c x wx) (i : Int)
  (hk : ∀ w', Below w0.heap.size w0 w' → R (.returned (.tuple #[.string ⟨⟨t ++ [10]⟩⟩, .bool (decide (x.factOnly = c.factOnly))])) w') :
  At Tryz.prog 54 R tAx (Fr 116 (updL E (envA k1 k9 t fs i))) wx := by
 have hlen : (⟨⟨t⟩⟩ : ByteArray).size = t.length := rfl
 have hlen1 : (⟨⟨[10]⟩⟩ : ByteArray).size = 1 := rfl
 refine at_ghostS ((curReg tAx).getD #[]) ⟨[⟨k9, 0, x.fact, 61, true⟩, ⟨k1, 0, c.fact, 61, true⟩], [(2, 0, 0), (3, 1, 0)], [⟨4, [(113, .agg ⟨x.fact⟩), (114, .agg ⟨c.fact⟩)], .bool (decide (x.factOnly = c.factOnly)), true⟩]⟩ [(2, .string (⟨⟨t⟩⟩ ++ ⟨⟨[10]⟩⟩)), (3, .bool (decide (x.factOnly = c.factOnly)))] (by kernel_rfl) (by kernel_rfl) (by kernel_rfl)
  (fun e he => ?_) (fun sp hsp => ?_) (fun X => by kernel_rfl) (by kernel_rfl) [(⟨⟨t⟩⟩ : ByteArray).size + (⟨⟨[10]⟩⟩ : ByteArray).size] (by kernel_rfl) (fun z hz => ?_) fun w1 E1 B1 => ?_
 ·simp only [List.mem_cons, List.not_mem_nil, or_false] at he
  rcases he with rfl | rfl
  ·exact good_own S.h9
  ·exact good_own S.h1
 ·rw [List.mem_singleton.1 hsp]
  refine spec_op fun _ E w _ => ?_
  exact exec_eq (T := 61) (T' := 61) (x := .tmp 113) (y := .tmp 114) (by kernel_rfl) (by kernel_rfl) (by kernel_rfl) (by kernel_rfl) (run_fact_eq x c hx hc w)
 ·rw [List.mem_singleton.1 hz, hlen, hlen1]
  have h3 : IntKind.i64.max = 9223372036854775807 := by decide
  rw [h3]
  omega
 have e9 : (⟨⟨t⟩⟩ : ByteArray) ++ ⟨⟨[10]⟩⟩ = ⟨⟨t ++ [10]⟩⟩ := by
  apply ByteArray.ext
  simp
 rw [e9]
 have S1 := S.kept B1
 exact at_endT (fn := Tryz.f54) 60 (.tuple #[.string ⟨⟨t ++ [10]⟩⟩, .bool (decide (x.factOnly = c.factOnly))]) (by kernel_rfl) (by kernel_rfl) fun w3 B3 => hk w3 (S1.kept B3).bel
def factL (c : Cmd) : List UInt8 × Bool :=
 if (wordP c.fk).1 = [] then ([], false) else if okR c (wordP c.fk).2 = true then ((wordP c.fk).1 ++ itemsR c (wordP c.fk).2 ++ [10], decide ((copyR c (wordP c.fk).2).factOnly = c.factOnly)) else ([], false)
theorem fact_line {wx : World} {E : Nat → Value} (hc : c.Wf) (k1 : Nat) (h1 : wx.heap[k1]? = some (.cells c.fact.toArray 61 (0, 0))) (hl : w0.heap.size ≤ k1) (hB : Below w0.heap.size w0 wx)
  (hk : ∀ w', Below w0.heap.size w0 w' → R (.returned (.tuple #[.string ⟨⟨(factL c).1⟩⟩, .bool (factL c).2])) w') :
  At Tryz.prog 54 R (elseT tA0) (Fr 116 (updL E [(1, pt k1)])) wx := by
 have hlt := (Array.getElem?_eq_some_iff.1 h1).1
 refine at_run 60 (elseT tA0) wx.heap.size [⟨k1, 0, c.fact, 61, true⟩] [(0, 1)] tA1 [(1, pt k1), (62, .int .i64 c.fk)] wx.heap.size [⟨k1, 0, c.fact, 61, true⟩] (lies_one h1) (by kernel_rfl) fun w1 E1 hL1 hK1 => ?_
 have B1 : Below w0.heap.size w0 w1 := hB.trans (hK1.below hB.size (fun k hk => by rw [List.mem_singleton.1 hk]; exact hl))
 have m1 := own_good (hL1.sat.good _ (List.mem_singleton.2 rfl))
 refine at_call 69 [.tmp 62] (some 63) [.int .i64 c.fk] (by kernel_rfl) (by kernel_rfl) (by kernel_rfl) ((rword46_any c.fk w1).mono fun e w2 hh => ?_)
 obtain ⟨rfl, rfl⟩ := hh
 refine ⟨_, rfl, ?_⟩
 have hwf := word_fields c.fk
 obtain ⟨hff, hwl⟩ := hwf
 have hfl : factL c = (if (wordP c.fk).1 = [] then ([], false) else if okR c (wordP c.fk).2 = true then ((wordP c.fk).1 ++ itemsR c (wordP c.fk).2 ++ [10], decide ((copyR c (wordP c.fk).2).factOnly = c.factOnly)) else ([], false)) := rfl
 generalize wordP c.fk = p at *
 obtain ⟨wd, fs⟩ := p
 simp only at hff hwl hfl
 refine at_run (cntQ 90 (popOp tA1)) (popOp tA1) w2.heap.size [] [] tAq [(1, pt k1), (7, .string ⟨⟨wd⟩⟩), (8, .string ⟨⟨fs⟩⟩), (66, .string ⟨⟨wd⟩⟩)] w2.heap.size [] (lies_nil w2) (by kernel_rfl) fun w3 E3 hL3 hK3 => ?_
 have b3 : Below w2.heap.size w2 w3 := hK3.below (Nat.le_refl _) (fun k hk => by cases hk)
 have B3 := B1.trans (b3.mono B1.size)
 have m3 := (b3.block _ (Array.getElem?_eq_some_iff.1 m1).1).trans m1
 refine at_eqs wd [] (some 67) (by kernel_rfl) ?_
 refine at_run 60 (popOp tAq) w3.heap.size [] [] tA2 [(1, pt k1), (7, .string ⟨⟨wd⟩⟩), (8, .string ⟨⟨fs⟩⟩), (67, .bool (decide (wd = [])))] w3.heap.size [] (lies_nil w3) (by kernel_rfl) fun w4 E4 hL4 hK4 => ?_
 have b4 : Below w3.heap.size w3 w4 := hK4.below (Nat.le_refl _) (fun k hk => by cases hk)
 have B4 := B3.trans (b4.mono B3.size)
 have m4 := (b4.block _ (Array.getElem?_eq_some_iff.1 m3).1).trans m3
 by_cases hw : wd = []
 ·rw [decide_eq_true hw]
  rw [if_pos hw] at hfl
  rw [hfl] at hk
  refine at_cond true (by kernel_rfl) (fun _ => ?_) (fun h => nomatch h)
  exact at_endT (fn := Tryz.f54) 60 (.tuple #[.string ⟨⟨[]⟩⟩, .bool false]) (by kernel_rfl) (by kernel_rfl) fun w5 B5 => hk w5 (B4.trans (B5.mono B4.size))
 ·rw [decide_eq_false hw]
  rw [if_neg hw] at hfl
  have hw4 : w0.heap.size ≤ w4.heap.size := B4.size
  refine at_cond false (by kernel_rfl) (fun h => nomatch h) fun _ => ?_
  refine at_run 60 (elseT tA2) w4.heap.size [⟨k1, 0, c.fact, 61, true⟩] [(0, 1), (1, 0)] tA3 (envA k1 w4.heap.size wd fs 0) (w4.heap.size + 1) [⟨k1, 0, c.fact, 61, true⟩, ⟨w4.heap.size, 0, (copyR c []).fact, 61, true⟩] (lies_one m4) (by kernel_rfl) fun w5 E5 hL5 hK5 => ?_
  have S5 : FS w0 k1 w4.heap.size c (copyR c []) w5 := ⟨B4.trans (hK5.below hw4 (fun k hk => by rw [List.mem_singleton.1 hk]; exact hl)), own_good (hL5.sat.good ⟨k1, 0, c.fact, 61, true⟩ (by simp)), own_good (hL5.sat.good ⟨w4.heap.size, 0, (copyR c []).fact, 61, true⟩ (by simp)), hl, (Array.getElem?_eq_some_iff.1 m4).1⟩
  refine fact_loop hc hff hwl S5 (fun hno w' B' => ?_) fun hyes w' E' S' => ?_
  ·rw [hno] at hfl
   rw [hfl] at hk
   exact hk w' B'
  ·rw [if_pos hyes] at hfl
   rw [hfl] at hk
   refine fact_end hc (copyR_wf hc fs) ?_ S' _ hk
   have h1 := itemsR_len hc.ok fs
   have h2 : fs.length * 4294967296 ≤ 6 * 4294967296 := Nat.mul_le_mul_right _ (goodR_len hff)
   have : (itemsR c fs).length ≤ 25769803776 := Nat.le_trans h1 h2
   simp only [List.length_append]
   omega
end Go.Proofs.YtdcbnkimjhefkaaGreatDoor

namespace Go.Proofs.YtdcbnkimjhefkaaGreatDoor
open Go.RowKit
set_option maxRecDepth 100000
theorem exec_neq {P : Program} {o : Oper} {ρ : Operand → Value} {w : World} {T T' : TypeId} {x y : Operand} {a b : Array Value} {r : Bool} (hop : o.op = .binOp .neq T x y T') (hx : ρ x = .agg a) (hy : ρ y = .agg b) (hg : (eqGuard .neq T x y (.agg a) (.agg b)).run P w = .ok () w)
  (he : (Op.equal T (.agg a) (.agg b)).run P w = .ok r w) : (execOp ρ o).run P w = .ok (.value (.bool (!r))) w := by
 unfold execOp
 simp only [hop, hx, hy]
 unfold binOp
 simp [Sem.run_bind, hg, he, Result.andThen]
def isIA : List Item → Bool
 | .inRegion ops (i :: _) :: _ => match ops[i]? with
  | some o => match o.op with
   | .indexAddr _ _ _ => true
   | _ => false
  | none => false
 | _ => false
def cntX : Nat → List Item → Nat
 | 0, _ => 0
 | m + 1, t => match isIA t with
  | true => 0
  | false => match stepT t with
   | some t' => cntX m t' + 1
   | none => 0
noncomputable def advX (t : List Item) : List Item := advT (cntX 90 t) t
noncomputable def tB0 : List Item := advT 60 (thenT tA0)
noncomputable def tB1 : List Item := advG (popOp tB0)
noncomputable def tB2 : List Item := advT 60 (tailT tB1)
noncomputable def tB3 : List Item := advT 60 (elseT tB2)
noncomputable def tB4 : List Item := advT 60 (bodyT tB3)
noncomputable def tB5 : List Item := advX (thenT tB4)
noncomputable def tB6 : List Item := advT 60 (popOp (popOp (popOp tB5)))
noncomputable def tBx : List Item := advT 60 (elseT tB4)
theorem own_str {w : World} {base : Nat} {v : Value} {S : List (List UInt8)} (h : w.ownsRow base 9 1 v S.length (strsV S)) : ∃ a cap, v = .slice a S.length cap ∧ ∀ i (hi : i < S.length), ∃ g, a = some ⟨g, 0, none⟩ ∧ g < w.heap.size ∧ w.cell? ⟨g, i, none⟩ = some (.string ⟨⟨S[i]⟩⟩) := by
 rcases h.2 with ⟨rfl, h0⟩ | ⟨g, cap, cur, rfl, _, hg, h1, _, h3, h4⟩
 ·refine ⟨none, 0, by rw [h0], fun i hi => by omega⟩
 ·refine ⟨some ⟨g, 0, none⟩, cap, rfl, fun i hi => ⟨g, rfl, (Array.getElem?_eq_some_iff.1 hg).1, ?_⟩⟩
  rw [Lib.cell_of_heap hg]
  have h5 : (strsV S)[i]? = some (.string ⟨⟨S[i]⟩⟩) := by simp [strsV, List.getElem?_eq_getElem hi]
  rw [← h4, List.getElem?_take] at h5
  split at h5
  ·rw [← Array.getElem?_toList]; exact h5
  ·cases h5
def agrC (c : Cmd) : Cmd := ⟨0, 0, c.fk, c.fr, [], 0, 0, 0, c.txt, 0, 0, 0, 0⟩
def endW : List UInt8 := [101, 110, 100]
def agrL (c : Cmd) : List UInt8 × Bool :=
 if ((splitL 10 c.txt).2.isEmpty && (fitsP c.fr && decide (c.factOnly = agrC c))) && (splitL 10 c.txt).1.all (fun l => decide (l ≠ endW)) then ([97, 103, 114, 101, 101, 109, 101, 110, 116, 32] ++ Lib.itoa c.fr ++ [10] ++ c.txt ++ [101, 110, 100, 10], true) else ([], false)
theorem agr_wf {c : Cmd} (h : c.Wf) : (agrC c).Wf := ⟨zero_in, zero_in, h.fk, h.fr, zero_in, zero_in, zero_in, zero_in, zero_in, zero_in, (by decide : (0 : Nat) < 18446744073709551616), Nat.zero_le _, h.txt⟩
variable {w0 : World} {c : Cmd} {R : Ending → World → Prop}
theorem fact_agr {wx : World} {E : Nat → Value} (hc : c.Wf) (k1 : Nat) (h1 : wx.heap[k1]? = some (.cells c.fact.toArray 61 (0, 0))) (hl : w0.heap.size ≤ k1) (hB : Below w0.heap.size w0 wx)
  (hk : ∀ w', Below w0.heap.size w0 w' → R (.returned (.tuple #[.string ⟨⟨(agrL c).1⟩⟩, .bool (agrL c).2])) w') :
  At Tryz.prog 54 R (thenT tA0) (Fr 116 (updL E [(1, pt k1)])) wx := by
 have htx := hc.txt
 have hlt := (Array.getElem?_eq_some_iff.1 h1).1
 refine at_run 60 (thenT tA0) wx.heap.size [⟨k1, 0, c.fact, 61, true⟩] [(0, 7)] tB0 [(1, pt k1), (17, .string ⟨⟨c.txt⟩⟩)] wx.heap.size [⟨k1, 0, c.fact, 61, true⟩] (lies_one h1) (by kernel_rfl) fun w1 E1 hL1 hK1 => ?_
 have B1 : Below w0.heap.size w0 w1 := hB.trans (hK1.below hB.size (fun k hk => by rw [List.mem_singleton.1 hk]; exact hl))
 have m1 := own_good (hL1.sat.good _ (List.mem_singleton.2 rfl))
 refine at_call 39 [.tmp 17] (some 18) [.string ⟨⟨c.txt⟩⟩] (by kernel_rfl) (by kernel_rfl) (by kernel_rfl) ((rlines_any c.txt w1 (by omega)).mono fun e w2 hh => ?_)
 obtain ⟨v, rfl, hown, b2⟩ := hh
 refine ⟨_, rfl, ?_⟩
 have B2 := B1.trans (b2.mono B1.size)
 have m2 := (b2.block _ (Array.getElem?_eq_some_iff.1 m1).1).trans m1
 obtain ⟨a, cap, rfl, hcell⟩ := own_str hown
 clear hown
 have hal : agrL c = if ((splitL 10 c.txt).2.isEmpty && (fitsP c.fr && decide (c.factOnly = agrC c))) && (splitL 10 c.txt).1.all (fun l => decide (l ≠ endW)) then ([97, 103, 114, 101, 101, 109, 101, 110, 116, 32] ++ Lib.itoa c.fr ++ [10] ++ c.txt ++ [101, 110, 100, 10], true) else ([], false) := rfl
 have hSl : (splitL 10 c.txt).1.length ≤ 4294967296 := Nat.le_trans (splitL_len 10 c.txt) (by omega)
 generalize (splitL 10 c.txt).1 = S at *
 generalize (splitL 10 c.txt).2.isEmpty = whole at *
 refine at_run (cntG 90 (popOp tB0)) (popOp tB0) w2.heap.size [] [] tB1 [(1, pt k1), (4, .slice a S.length cap), (5, .bool whole)] w2.heap.size [] (lies_nil w2) (by kernel_rfl) fun w3 E3 hL3 hK3 => ?_
 have b3 : Below w2.heap.size w2 w3 := hK3.below (Nat.le_refl _) (fun k hk => by cases hk)
 have B3 := B2.trans (b3.mono B2.size)
 have m3 := (b3.block _ (Array.getElem?_eq_some_iff.1 m2).1).trans m2
 have hfr := hc.fr
 generalize hbad : cond (cond (!whole) true (!(fitsP c.fr))) true (!(decide (c.factOnly = agrC c))) = bad
 refine at_ghost ((curReg tB1).getD #[]) ⟨[⟨k1, 0, c.fact, 61, true⟩], [(4, 0, 2), (9, 0, 0), (11, 0, 1), (13, 0, 2), (15, 0, 7)], [⟨5, [(25, .int .i64 c.fr)], .bool (fitsP c.fr), (!(!whole) && true)⟩, ⟨17, [(30, .agg ⟨c.fact⟩), (37, .agg ⟨(agrC c).fact⟩)], .bool (!(decide (c.factOnly = agrC c))), (!(cond (!whole) true (!(fitsP c.fr))) && true)⟩]⟩ [(1, pt k1), (4, .slice a S.length cap), (39, .bool (cond (cond (!whole) true (!(fitsP c.fr))) true (!(decide (c.factOnly = agrC c)))))] (by kernel_rfl) (by kernel_rfl) (by kernel_rfl)
  (fun e he => by rw [List.mem_singleton.1 he]; exact good_own m3) (fun sp hsp => ?_) (fun X => by kernel_rfl) (by kernel_rfl) fun w4 E4 b4 => ?_
 ·simp only [List.mem_cons, List.not_mem_nil, or_false] at hsp
  rcases hsp with rfl | rfl
  ·exact spec_call 56 [.tmp 25] [.int .i64 c.fr] (by kernel_rfl) (by kernel_rfl) (fun E => by kernel_rfl) fun hc1 u hu => below_call hu (rfits_any c.fr u)
  ·refine spec_op fun _ E w _ => ?_
   exact exec_neq (T := 61) (T' := 61) (x := .tmp 30) (y := .tmp 37) (by kernel_rfl) (by kernel_rfl) (by kernel_rfl) (by kernel_rfl) (run_fact_eq c (agrC c) hc (agr_wf hc) w)
 rw [hbad]
 have B4 := B3.trans (b4.mono B3.size)
 have m4 := (b4.block _ (Array.getElem?_eq_some_iff.1 m3).1).trans m3
 have hbe : bad = !(whole && (fitsP c.fr && decide (c.factOnly = agrC c))) := by
  rw [← hbad]
  cases whole <;> cases fitsP c.fr <;> simp
 refine at_run 60 (tailT tB1) w4.heap.size [] [] tB2 [(1, pt k1), (4, .slice a S.length cap), (39, .bool bad)] w4.heap.size [] (lies_nil w4) (by kernel_rfl) fun w5 E5 hL5 hK5 => ?_
 have b5 : Below w4.heap.size w4 w5 := hK5.below (Nat.le_refl _) (fun k hk => by cases hk)
 have B5 := B4.trans (b5.mono B4.size)
 have m5 := (b5.block _ (Array.getElem?_eq_some_iff.1 m4).1).trans m4
 cases hb : bad with
 | true =>
  have hno : (whole && (fitsP c.fr && decide (c.factOnly = agrC c))) = false := by rw [hb] at hbe; cases h : (whole && (fitsP c.fr && decide (c.factOnly = agrC c))) with
   | false => rfl
   | true => rw [h] at hbe; cases hbe
  rw [hno] at hal
  rw [hal] at hk
  refine at_cond true (by kernel_rfl) (fun _ => ?_) (fun h => nomatch h)
  exact at_endT (fn := Tryz.f54) 60 (.tuple #[.string ⟨⟨[]⟩⟩, .bool false]) (by kernel_rfl) (by kernel_rfl) fun w6 B6 => hk w6 (B5.trans (B6.mono B5.size))
 | false =>
  have hyes : (whole && (fitsP c.fr && decide (c.factOnly = agrC c))) = true := by rw [hb] at hbe; cases h : (whole && (fitsP c.fr && decide (c.factOnly = agrC c))) with
   | true => rfl
   | false => rw [h] at hbe; cases hbe
  rw [hyes, Bool.true_and] at hal
  have hcell5 : ∀ i (hi : i < S.length), ∃ g, a = some ⟨g, 0, none⟩ ∧ g < w5.heap.size ∧ w5.cell? ⟨g, i, none⟩ = some (.string ⟨⟨S[i]⟩⟩) := fun i hi => by
   obtain ⟨g, e, hg, hcl⟩ := hcell i hi
   have bb : Below w2.heap.size w2 w5 := b3.trans ((b4.mono b3.size).trans (b5.mono (Nat.le_trans b3.size b4.size)))
   exact ⟨g, e, Nat.lt_of_lt_of_le hg bb.size, (World.cell?_of_block (bb.block _ hg)).trans hcl⟩
  refine at_cond false (by kernel_rfl) (fun h => nomatch h) fun _ => ?_
  refine at_run 60 (elseT tB2) w5.heap.size [] [] tB3 [(1, pt k1), (4, .slice a S.length cap), (6, .int .i64 0)] w5.heap.size [] (lies_nil w5) (by kernel_rfl) fun w6 E6 hL6 hK6 => ?_
  have b6 : Below w5.heap.size w5 w6 := hK6.below (Nat.le_refl _) (fun k hk => by cases hk)
  refine at_loop (by kernel_rfl) (fun E wx => ∃ (i : Nat) (E0 : Nat → Value), i ≤ S.length ∧ E = updL E0 [(1, pt k1), (4, .slice a S.length cap), (6, .int .i64 (i : Int))] ∧ (∀ l ∈ S.take i, l ≠ endW) ∧ Below w5.heap.size w5 wx) (fun E _ => S.length - idxOf (E 6)) ⟨0, E6, Nat.zero_le _, rfl, by simp, b6⟩ ?_
  rintro E wx ⟨i, E0, hi, rfl, hno, bx⟩ hagain
  refine at_run 60 (bodyT tB3) wx.heap.size [] [] tB4 [(1, pt k1), (4, .slice a S.length cap), (6, .int .i64 (i : Int)), (43, .bool (decide ((i : Int) < (S.length : Int))))] wx.heap.size [] (lies_nil wx) (by kernel_rfl) fun w7 E7 hL7 hK7 => ?_
  have b7 := bx.trans ((hK7.below (Nat.le_refl _) (fun k hk => by cases hk) : Below wx.heap.size wx w7).mono bx.size)
  refine at_cond (decide ((i : Int) < (S.length : Int))) (by kernel_rfl) (fun hlt => ?_) (fun hf => ?_)
  ·have hlt' : i < S.length := by have := of_decide_eq_true hlt; omega
   obtain ⟨g, rfl, hgl, hcl⟩ := hcell5 i hlt'
   have htake : S.take (i + 1) = S.take i ++ [S[i]] := by rw [List.take_add_one, List.getElem?_eq_getElem hlt']; rfl
   have hmem : S[i] ∈ S := List.getElem_mem hlt'
   refine at_run (cntX 90 (thenT tB4)) (thenT tB4) w7.heap.size [] [] tB5 [(1, pt k1), (4, .slice (some ⟨g, 0, none⟩) S.length cap), (6, .int .i64 (i : Int)), (46, .slice (some ⟨g, 0, none⟩) S.length cap), (47, .int .i64 (i : Int))] w7.heap.size [] (lies_nil w7) (by kernel_rfl) fun w8 E8 hL8 hK8 => ?_
   have b8 := b7.trans ((hK8.below (Nat.le_refl _) (fun k hk => by cases hk) : Below w7.heap.size w7 w8).mono b7.size)
   refine at_elem (g := g) (off := 0) (cap := cap) (sz := 1) (k := i) (some 48) (by kernel_rfl) hlt' Tryz.underlying53 (by kernel_rfl) ?_
   have ei : 0 + i * 1 = i := by omega
   rw [ei]
   refine at_load1 9 g i (.string ⟨⟨S[i]⟩⟩) (some 49) (by kernel_rfl) (by kernel_rfl) ((World.cell?_of_block (b8.block _ hgl)).trans hcl) ?_
   refine at_eqs S[i] endW (some 50) (by kernel_rfl) ?_
   refine at_run 60 (popOp (popOp (popOp tB5))) w8.heap.size [] [] tB6 [(1, pt k1), (4, .slice (some ⟨g, 0, none⟩) S.length cap), (6, .int .i64 (i : Int)), (50, .bool (decide (S[i] = endW)))] w8.heap.size [] (lies_nil w8) (by kernel_rfl) fun w9 E9 hL9 hK9 => ?_
   have b9 := b8.trans ((hK9.below (Nat.le_refl _) (fun k hk => by cases hk) : Below w8.heap.size w8 w9).mono b8.size)
   by_cases he : S[i] = endW
   ·rw [decide_eq_true he]
    have hall : S.all (fun l => decide (l ≠ endW)) = false := by
     rw [List.all_eq_false]
     exact ⟨S[i], hmem, by simp [he]⟩
    rw [hall] at hal
    rw [hal] at hk
    refine at_cond true (by kernel_rfl) (fun _ => ?_) (fun h => nomatch h)
    exact at_endT (fn := Tryz.f54) 60 (.tuple #[.string ⟨⟨[]⟩⟩, .bool false]) (by kernel_rfl) (by kernel_rfl) fun w10 B10 => hk w10 (B5.trans ((b9.trans (B10.mono b9.size)).mono B5.size))
   ·rw [decide_eq_false he]
    refine at_cond false (by kernel_rfl) (fun h => nomatch h) fun _ => ?_
    refine at_run 60 (elseT tB6) w9.heap.size [] [] (againT tB3) [(1, pt k1), (4, .slice (some ⟨g, 0, none⟩) S.length cap), (6, .int .i64 (IntKind.i64.wrap ((i : Int) + 1)))] w9.heap.size [] (lies_nil w9) (by kernel_rfl) fun w10 E10 hL10 hK10 => ?_
    have hw : IntKind.i64.wrap ((i : Int) + 1) = ((i + 1 : Nat) : Int) := by
     rw [IntWalk.i64_in _ (by omega)]
     omega
    rw [hw]
    refine hagain _ _ ⟨i + 1, E10, hlt', rfl, fun l hlm => ?_, b9.trans ((hK10.below (Nat.le_refl _) (fun k hk => by cases hk) : Below w9.heap.size w9 w10).mono b9.size)⟩ ?_
    ·rw [htake] at hlm
     rcases List.mem_append.1 hlm with h | h
     ·exact hno l h
     ·rw [List.mem_singleton.1 h]; exact he
    ·show S.length - idxOf (.int .i64 ((i + 1 : Nat) : Int)) < S.length - idxOf (.int .i64 (i : Int))
     simp only [idxOf, Int.toNat_natCast]
     omega
  ·have hil : i = S.length := by have := of_decide_eq_false hf; omega
   subst hil
   rw [List.take_length] at hno
   have hall : S.all (fun l => decide (l ≠ endW)) = true := List.all_eq_true.2 fun l hl => decide_eq_true (hno l hl)
   rw [hall, if_pos rfl] at hal
   rw [hal] at hk
   refine at_run 60 (elseT tB4) w7.heap.size [] [] tBx [(1, pt k1)] w7.heap.size [] (lies_nil w7) (by kernel_rfl) fun w8 E8 hL8 hK8 => ?_
   have b8 := b7.trans ((hK8.below (Nat.le_refl _) (fun k hk => by cases hk) : Below w7.heap.size w7 w8).mono b7.size)
   have m8 := (b8.block _ (Array.getElem?_eq_some_iff.1 m5).1).trans m5
   have hil2 := itoa_len c.fr hfr.1 hfr.2
   have s1 : (⟨⟨[97, 103, 114, 101, 101, 109, 101, 110, 116, 32]⟩⟩ : ByteArray).size = 10 := rfl
   have s2 : (⟨⟨Lib.itoa c.fr⟩⟩ : ByteArray).size = (Lib.itoa c.fr).length := rfl
   have s3 : (⟨⟨[10]⟩⟩ : ByteArray).size = 1 := rfl
   have s4 : (⟨⟨c.txt⟩⟩ : ByteArray).size = c.txt.length := rfl
   have s5 : (⟨⟨[101, 110, 100, 10]⟩⟩ : ByteArray).size = 4 := rfl
   have h3 : IntKind.i64.max = 9223372036854775807 := by decide
   refine at_ghostS ((curReg tBx).getD #[]) ⟨[⟨k1, 0, c.fact, 61, true⟩], [(1, 0, 2), (6, 0, 7)], [⟨2, [(52, .int .i64 c.fr)], .string ⟨⟨Lib.itoa c.fr⟩⟩, true⟩]⟩ [(2, .string ((((⟨⟨[97, 103, 114, 101, 101, 109, 101, 110, 116, 32]⟩⟩ ++ ⟨⟨Lib.itoa c.fr⟩⟩) ++ ⟨⟨[10]⟩⟩) ++ ⟨⟨c.txt⟩⟩) ++ ⟨⟨[101, 110, 100, 10]⟩⟩)), (3, .bool true)] (by kernel_rfl) (by kernel_rfl) (by kernel_rfl)
    (fun e he => by rw [List.mem_singleton.1 he]; exact good_own m8) (fun sp hsp => ?_) (fun X => by kernel_rfl) (by kernel_rfl)
    [(⟨⟨[97, 103, 114, 101, 101, 109, 101, 110, 116, 32]⟩⟩ : ByteArray).size + (⟨⟨Lib.itoa c.fr⟩⟩ : ByteArray).size, ((⟨⟨[97, 103, 114, 101, 101, 109, 101, 110, 116, 32]⟩⟩ : ByteArray) ++ ⟨⟨Lib.itoa c.fr⟩⟩).size + (⟨⟨[10]⟩⟩ : ByteArray).size, (((⟨⟨[97, 103, 114, 101, 101, 109, 101, 110, 116, 32]⟩⟩ : ByteArray) ++ ⟨⟨Lib.itoa c.fr⟩⟩) ++ ⟨⟨[10]⟩⟩).size + (⟨⟨c.txt⟩⟩ : ByteArray).size, ((((⟨⟨[97, 103, 114, 101, 101, 109, 101, 110, 116, 32]⟩⟩ : ByteArray) ++ ⟨⟨Lib.itoa c.fr⟩⟩) ++ ⟨⟨[10]⟩⟩) ++ ⟨⟨c.txt⟩⟩).size + (⟨⟨[101, 110, 100, 10]⟩⟩ : ByteArray).size] (by kernel_rfl) (fun z hz => ?_) fun w9 E9 b9 => ?_
   ·rw [List.mem_singleton.1 hsp]
    exact spec_call 55 [.tmp 52] [.int .i64 c.fr] (by kernel_rfl) (by kernel_rfl) (fun E => by kernel_rfl) fun hc1 u hu => below_call hu (rdecAll_any c.fr u hfr.1 hfr.2)
   ·simp only [List.mem_cons, List.not_mem_nil, or_false] at hz
    rw [h3]
    rcases hz with rfl | rfl | rfl | rfl <;> simp only [ByteArray.size_append, s1, s2, s3, s4, s5] <;> omega
   have e9 : ((((⟨⟨[97, 103, 114, 101, 101, 109, 101, 110, 116, 32]⟩⟩ ++ ⟨⟨Lib.itoa c.fr⟩⟩) ++ ⟨⟨[10]⟩⟩) ++ ⟨⟨c.txt⟩⟩) ++ ⟨⟨[101, 110, 100, 10]⟩⟩ : ByteArray) = ⟨⟨[97, 103, 114, 101, 101, 109, 101, 110, 116, 32] ++ Lib.itoa c.fr ++ [10] ++ c.txt ++ [101, 110, 100, 10]⟩⟩ := by
    apply ByteArray.ext
    simp
   rw [e9]
   exact at_endT (fn := Tryz.f54) 60 (.tuple #[.string ⟨⟨[97, 103, 114, 101, 101, 109, 101, 110, 116, 32] ++ Lib.itoa c.fr ++ [10] ++ c.txt ++ [101, 110, 100, 10]⟩⟩, .bool true]) (by kernel_rfl) (by kernel_rfl) fun w10 B10 => hk w10 (B5.trans ((b8.trans ((b9.mono b8.size).trans (B10.mono (Nat.le_trans b8.size b9.size)))).mono B5.size))
def factR (c : Cmd) : List UInt8 × Bool := if c.fk = 5 then agrL c else factL c
theorem rfact_any (c : Cmd) (w : World) (hc : c.Wf) : Calls Tryz.prog 54 #[.agg ⟨c.fact⟩] w fun e w' => e = .returned (.tuple #[.string ⟨⟨(factR c).1⟩⟩, .bool (factR c).2]) ∧ Below w.heap.size w w' := by
 refine calls_at (args := [.agg ⟨c.fact⟩]) (fn := Tryz.f54) (c := codeFa) (n := 116) (by kernel_rfl) (by kernel_rfl) (by kernel_rfl) (by kernel_rfl) ?_
 refine at_run 60 [.code codeFa] w.heap.size [] [(0, 1)] tA0 [(1, pt w.heap.size), (14, .bool (c.fk == 5))] (w.heap.size + 1) [⟨w.heap.size, 0, c.fact, 61, true⟩] (lies_nil w) (by kernel_rfl) fun w1 E1 hL1 hK1 => ?_
 have B1 : Below w.heap.size w w1 := hK1.below (Nat.le_refl _) (fun k hk => by cases hk)
 have m1 := own_good (hL1.sat.good _ (List.mem_singleton.2 rfl))
 refine at_cond (c.fk == 5) (by kernel_rfl) (fun h5 => ?_) (fun h5 => ?_)
 ·have e5 : c.fk = 5 := by simpa using h5
  refine at_known [(1, pt w.heap.size)] (by kernel_rfl) fun E' => ?_
  refine fact_agr hc w.heap.size m1 (Nat.le_refl _) B1 fun w' B' => ⟨?_, B'⟩
  simp [factR, e5]
 ·have e5 : c.fk ≠ 5 := by simpa using h5
  refine at_known [(1, pt w.heap.size)] (by kernel_rfl) fun E' => ?_
  refine fact_line hc w.heap.size m1 (Nat.le_refl _) B1 fun w' B' => ⟨?_, B'⟩
  simp [factR, e5]
end Go.Proofs.YtdcbnkimjhefkaaGreatDoor

namespace Go.Proofs.YtdcbnkimjhefkaaGreatDoor
open Go.RowKit
set_option maxRecDepth 100000
noncomputable def codeCo : Code := Tryz.f29.body.getD .skip
noncomputable def tC0 : List Item := advT 60 [.code codeCo]
noncomputable def tC1 : List Item := advT 60 (elseT tC0)
noncomputable def tC2 : List Item := advT 60 (elseT tC1)
noncomputable def tC3 : List Item := advT 60 (elseT tC2)
noncomputable def tC4 : List Item := advT 60 (elseT tC3)
noncomputable def tC5 : List Item := advT 60 (elseT tC4)
noncomputable def tCe : List Item := advG (thenT tC2)
noncomputable def tCf : List Item := advT 60 (thenT tC0)
noncomputable def tCp : List Item := advT 60 (thenT tC1)
variable {w0 : World} {k1 k4 : Nat} {c x : Cmd} {s : List UInt8} {R : Ending → World → Prop}
structure CS (w0 : World) (k1 k4 : Nat) (c x : Cmd) (w : World) : Prop where
 bel : Below w0.heap.size w0 w
 h1 : w.heap[k1]? = some (.cells c.cells.toArray 64 (0, 0))
 h4 : w.heap[k4]? = some (.cells x.cells.toArray 64 (0, 0))
 l1 : w0.heap.size ≤ k1
 l4 : k1 < k4
theorem CS.kept {w w' : World} (h : CS w0 k1 k4 c x w) (hb : Below w.heap.size w w') : CS w0 k1 k4 c x w' :=
 ⟨h.bel.trans (hb.mono h.bel.size), (hb.block _ (Array.getElem?_eq_some_iff.1 h.h1).1).trans h.h1, (hb.block _ (Array.getElem?_eq_some_iff.1 h.h4).1).trans h.h4, h.l1, h.l4⟩
theorem CS.ran {w w' : World} {x' : Cmd} {z : Nat} (h : CS w0 k1 k4 c x w) (hL : Lies [k1, k4] w.heap.size w' ⟨z, [⟨k1, 0, c.cells, 64, true⟩, ⟨k4, 0, x'.cells, 64, true⟩], (0, 0), []⟩) (hK : Kept [k1, k4] w.heap.size w w') : CS w0 k1 k4 c x' w' := by
 have := h.l1
 have := h.l4
 exact ⟨h.bel.trans (hK.below h.bel.size (fun k hk => by simp at hk; omega)), own_good (hL.sat.good ⟨k1, 0, c.cells, 64, true⟩ (by simp)), own_good (hL.sat.good ⟨k4, 0, x'.cells, 64, true⟩ (by simp)), h.l1, h.l4⟩
theorem cmd_end {wx : World} {E : Nat → Value} (ok : Bool) (hc : c.Wf) (hx : x.Wf) (S : CS w0 k1 k4 c x wx)
  (hk : ∀ w', Below w0.heap.size w0 w' → R (.returned (.tuple #[.string ⟨⟨s⟩⟩, .bool (ok && decide (x = c))])) w') :
  At Tryz.prog 29 R tCe (Fr 91 (updL E [(1, pt k1), (4, pt k4), (5, .string ⟨⟨s⟩⟩), (6, .bool ok)])) wx := by
 refine at_ghost ((curReg tCe).getD #[]) ⟨[⟨k4, 0, x.cells, 64, true⟩, ⟨k1, 0, c.cells, 64, true⟩], [(3, 0, 0), (4, 1, 0)], [⟨5, [(87, .agg ⟨x.cells⟩), (88, .agg ⟨c.cells⟩)], .bool (decide (x = c)), (ok && true)⟩]⟩ [(2, .string ⟨⟨s⟩⟩), (3, .bool (ok && decide (x = c)))] (by kernel_rfl) (by kernel_rfl) (by kernel_rfl)
  (fun e he => ?_) (fun sp hsp => ?_) (fun X => by kernel_rfl) (by kernel_rfl) fun w1 E1 B1 => ?_
 ·simp only [List.mem_cons, List.not_mem_nil, or_false] at he
  rcases he with rfl | rfl
  ·exact good_own S.h4
  ·exact good_own S.h1
 ·rw [List.mem_singleton.1 hsp]
  refine spec_op fun _ E w _ => ?_
  exact exec_eq (T := 64) (T' := 64) (x := .tmp 87) (y := .tmp 88) (by kernel_rfl) (by kernel_rfl) (by kernel_rfl) (by kernel_rfl) (run_cmd_eq x c hx hc w)
 exact at_endT (fn := Tryz.f29) 60 (.tuple #[.string ⟨⟨s⟩⟩, .bool (ok && decide (x = c))]) (by kernel_rfl) (by kernel_rfl) fun w3 B3 => hk w3 ((S.kept B1).kept B3).bel
def kindC (c : Cmd) : Cmd := ⟨c.kind, 0, 0, 0, [], 0, 0, 0, [], 0, 0, 0, 0⟩
theorem kindC_wf {c : Cmd} (h : c.Wf) : (kindC c).Wf := ⟨h.kind, zero_in, zero_in, zero_in, zero_in, zero_in, zero_in, zero_in, zero_in, zero_in, (by decide : (0 : Nat) < 18446744073709551616), Nat.zero_le _, Nat.zero_le _⟩
def learnC (c : Cmd) : Cmd := { c with per := 0, wh := 0, torn := 0, stop := 0 }
theorem learnC_wf {c : Cmd} (h : c.Wf) : (learnC c).Wf := ⟨h.kind, h.emp, h.fk, h.fr, h.val, h.ext, h.rnk, zero_in, zero_in, zero_in, (by decide : (0 : Nat) < 18446744073709551616), h.nm, h.txt⟩
def perC (c : Cmd) : Cmd := { kindC c with per := c.per }
theorem perC_wf {c : Cmd} (h : c.Wf) : (perC c).Wf := ⟨h.kind, zero_in, zero_in, zero_in, zero_in, zero_in, zero_in, h.per, zero_in, zero_in, (by decide : (0 : Nat) < 18446744073709551616), Nat.zero_le _, Nat.zero_le _⟩
def plainR (c : Cmd) : List UInt8 × Bool :=
 if c.kind = 1 then ((factR c).1, (factR c).2 && decide (learnC c = c)) else if c.kind = 2 then ([112, 114, 101, 112, 97, 114, 101, 32] ++ Lib.itoa c.per ++ [10], fitsP c.per && decide (perC c = c))
 else if c.kind = 3 then ([114, 101, 108, 101, 97, 115, 101, 10], decide (kindC c = c)) else if c.kind = 4 then ([112, 97, 121, 10], decide (kindC c = c)) else if c.kind = 5 then ([114, 101, 118, 101, 114, 115, 101, 10], decide (kindC c = c)) else ([], false)
theorem rcommand_plain (c : Cmd) (w : World) (hc : c.Wf) {R : Ending → World → Prop} (hk : c.kind ≠ 6 → ∀ w', Below w.heap.size w w' → R (.returned (.tuple #[.string ⟨⟨(plainR c).1⟩⟩, .bool (plainR c).2])) w')
  (h6 : c.kind = 6 → ∀ k1 k4 E' w', CS w k1 k4 c (kindC c) w' → At Tryz.prog 29 R (thenT tC5) (Fr 91 (updL E' [(1, pt k1), (4, pt k4), (6, .bool true)])) w') :
  Calls Tryz.prog 29 #[.agg ⟨c.cells⟩] w R := by
 refine calls_at (args := [.agg ⟨c.cells⟩]) (fn := Tryz.f29) (c := codeCo) (n := 91) (by kernel_rfl) (by kernel_rfl) (by kernel_rfl) (by kernel_rfl) ?_
 refine at_run 60 [.code codeCo] w.heap.size [] [(0, 0), (1, 0), (0, 0)] tC0 [(1, pt w.heap.size), (4, pt (w.heap.size + 1)), (6, .bool true), (11, .int .i64 c.kind), (12, .bool (c.kind == 1))] (w.heap.size + 1 + 1) [⟨w.heap.size, 0, c.cells, 64, true⟩, ⟨w.heap.size + 1, 0, (kindC c).cells, 64, true⟩] (lies_nil w) (by kernel_rfl) fun w1 E1 hL1 hK1 => ?_
 have S1 : CS w w.heap.size (w.heap.size + 1) c (kindC c) w1 := ⟨hK1.below (Nat.le_refl _) (fun k hk => by cases hk), own_good (hL1.sat.good ⟨w.heap.size, 0, c.cells, 64, true⟩ (by simp)), own_good (hL1.sat.good ⟨w.heap.size + 1, 0, (kindC c).cells, 64, true⟩ (by simp)), Nat.le_refl _, by omega⟩
 generalize w.heap.size + 1 = k4 at *
 generalize hk1 : w.heap.size = k1 at S1 ⊢
 have hne : k1 ≠ k4 := by have := S1.l4; omega
 refine at_cond (c.kind == 1) (by kernel_rfl) (fun h1 => ?_) (fun h1 => ?_)
 ·have e1 : c.kind = 1 := by simpa using h1
  have hk' := hk (by omega)
  have hp : plainR c = ((factR c).1, (factR c).2 && decide (learnC c = c)) := by simp [plainR, e1]
  rw [hp] at hk'
  refine at_run 60 (thenT tC0) w1.heap.size [⟨k1, 0, c.cells, 64, true⟩, ⟨k4, 0, (kindC c).cells, 64, true⟩] [(0, 1)] tCf [(1, pt k1), (4, pt k4), (16, .agg ⟨c.fact⟩)] w1.heap.size [⟨k1, 0, c.cells, 64, true⟩, ⟨k4, 0, (kindC c).cells, 64, true⟩] (lies_two S1.h1 S1.h4 hne) (by kernel_rfl) fun w2 E2 hL2 hK2 => ?_
  have S2 := S1.ran hL2 hK2
  refine at_call 54 [.tmp 16] (some 17) [.agg ⟨c.fact⟩] (by kernel_rfl) (by kernel_rfl) (by kernel_rfl) ((rfact_any c w2 hc).mono fun e w3 hh => ?_)
  obtain ⟨rfl, B3⟩ := hh
  refine ⟨_, rfl, ?_⟩
  have S3 := S2.kept B3
  refine at_run (cntG 90 (popOp tCf)) (popOp tCf) w3.heap.size [⟨k1, 0, c.cells, 64, true⟩, ⟨k4, 0, (kindC c).cells, 64, true⟩] [(0, 1), (1, 1)] tCe [(1, pt k1), (4, pt k4), (5, .string ⟨⟨(factR c).1⟩⟩), (6, .bool (factR c).2)] w3.heap.size [⟨k1, 0, c.cells, 64, true⟩, ⟨k4, 0, (learnC c).cells, 64, true⟩] (lies_two S3.h1 S3.h4 hne) (by kernel_rfl) fun w4 E4 hL4 hK4 => ?_
  exact cmd_end _ hc (learnC_wf hc) (S3.ran hL4 hK4) hk'
 have n1 : c.kind ≠ 1 := by simpa using h1
 refine at_run 60 (elseT tC0) w1.heap.size [] [] tC1 [(1, pt k1), (4, pt k4), (6, .bool true), (11, .int .i64 c.kind), (23, .bool (c.kind == 2))] w1.heap.size [] (lies_nil w1) (by kernel_rfl) fun w2 E2 hL2 hK2 => ?_
 have S2 := S1.kept (hK2.below (Nat.le_refl _) (fun k hk => by cases hk))
 refine at_cond (c.kind == 2) (by kernel_rfl) (fun h2 => ?_) (fun h2 => ?_)
 ·have e2 : c.kind = 2 := by simpa using h2
  have hk' := hk (by omega)
  have hp : plainR c = ([112, 114, 101, 112, 97, 114, 101, 32] ++ Lib.itoa c.per ++ [10], fitsP c.per && decide (perC c = c)) := by simp [plainR, e2]
  rw [hp] at hk'
  have hpr := hc.per
  have hil := itoa_len c.per hpr.1 hpr.2
  have s1 : (⟨⟨[112, 114, 101, 112, 97, 114, 101, 32]⟩⟩ : ByteArray).size = 8 := rfl
  have s2 : (⟨⟨Lib.itoa c.per⟩⟩ : ByteArray).size = (Lib.itoa c.per).length := rfl
  have s3 : (⟨⟨[10]⟩⟩ : ByteArray).size = 1 := rfl
  have h3 : IntKind.i64.max = 9223372036854775807 := by decide
  refine at_run 60 (thenT tC1) w2.heap.size [] [] tCp [(1, pt k1), (4, pt k4)] w2.heap.size [] (lies_nil w2) (by kernel_rfl) fun w3 E3 hL3 hK3 => ?_
  have S3 := S2.kept (hK3.below (Nat.le_refl _) (fun k hk => by cases hk))
  refine at_ghostS ((curReg tCp).getD #[]) ⟨[⟨k1, 0, c.cells, 64, true⟩], [(1, 0, 9), (6, 0, 9)], [⟨2, [(26, .int .i64 c.per)], .string ⟨⟨Lib.itoa c.per⟩⟩, true⟩, ⟨7, [(31, .int .i64 c.per)], .bool (fitsP c.per), true⟩]⟩ [(1, pt k1), (4, pt k4), (5, .string ((⟨⟨[112, 114, 101, 112, 97, 114, 101, 32]⟩⟩ ++ ⟨⟨Lib.itoa c.per⟩⟩) ++ ⟨⟨[10]⟩⟩)), (6, .bool (fitsP c.per))] (by kernel_rfl) (by kernel_rfl) (by kernel_rfl)
   (fun e he => by rw [List.mem_singleton.1 he]; exact good_own S3.h1) (fun sp hsp => ?_) (fun X => by kernel_rfl) (by kernel_rfl)
   [(⟨⟨[112, 114, 101, 112, 97, 114, 101, 32]⟩⟩ : ByteArray).size + (⟨⟨Lib.itoa c.per⟩⟩ : ByteArray).size, ((⟨⟨[112, 114, 101, 112, 97, 114, 101, 32]⟩⟩ : ByteArray) ++ ⟨⟨Lib.itoa c.per⟩⟩).size + (⟨⟨[10]⟩⟩ : ByteArray).size] (by kernel_rfl) (fun z hz => ?_) fun w4 E4 b4 => ?_
  ·simp only [List.mem_cons, List.not_mem_nil, or_false] at hsp
   rcases hsp with rfl | rfl
   ·exact spec_call 55 [.tmp 26] [.int .i64 c.per] (by kernel_rfl) (by kernel_rfl) (fun E => by kernel_rfl) fun hc1 u hu => below_call hu (rdecAll_any c.per u hpr.1 hpr.2)
   ·exact spec_call 56 [.tmp 31] [.int .i64 c.per] (by kernel_rfl) (by kernel_rfl) (fun E => by kernel_rfl) fun hc1 u hu => below_call hu (rfits_any c.per u)
  ·simp only [List.mem_cons, List.not_mem_nil, or_false] at hz
   rw [h3]
   rcases hz with rfl | rfl <;> simp only [ByteArray.size_append, s1, s2, s3] <;> omega
  have e9 : ((⟨⟨[112, 114, 101, 112, 97, 114, 101, 32]⟩⟩ ++ ⟨⟨Lib.itoa c.per⟩⟩) ++ ⟨⟨[10]⟩⟩ : ByteArray) = ⟨⟨[112, 114, 101, 112, 97, 114, 101, 32] ++ Lib.itoa c.per ++ [10]⟩⟩ := by
   apply ByteArray.ext
   simp
  rw [e9]
  have S4 := S3.kept b4
  refine at_run (cntG 90 (tailT tCp)) (tailT tCp) w4.heap.size [⟨k1, 0, c.cells, 64, true⟩, ⟨k4, 0, (kindC c).cells, 64, true⟩] [(0, 9), (1, 9)] tCe [(1, pt k1), (4, pt k4), (5, .string ⟨⟨[112, 114, 101, 112, 97, 114, 101, 32] ++ Lib.itoa c.per ++ [10]⟩⟩), (6, .bool (fitsP c.per))] w4.heap.size [⟨k1, 0, c.cells, 64, true⟩, ⟨k4, 0, (perC c).cells, 64, true⟩] (lies_two S4.h1 S4.h4 hne) (by kernel_rfl) fun w5 E5 hL5 hK5 => ?_
  exact cmd_end _ hc (perC_wf hc) (S4.ran hL5 hK5) hk'
 have n2 : c.kind ≠ 2 := by simpa using h2
 refine at_run 60 (elseT tC1) w2.heap.size [] [] tC2 [(1, pt k1), (4, pt k4), (6, .bool true), (11, .int .i64 c.kind), (36, .bool (c.kind == 3))] w2.heap.size [] (lies_nil w2) (by kernel_rfl) fun w3 E3 hL3 hK3 => ?_
 have S3 := S2.kept (hK3.below (Nat.le_refl _) (fun k hk => by cases hk))
 refine at_cond (c.kind == 3) (by kernel_rfl) (fun h3 => ?_) (fun h3 => ?_)
 ·have e3 : c.kind = 3 := by simpa using h3
  have hk' := hk (by omega)
  have hp : plainR c = ([114, 101, 108, 101, 97, 115, 101, 10], true && decide (kindC c = c)) := by simp [plainR, e3]
  rw [hp] at hk'
  refine at_run (cntG 90 (thenT tC2)) (thenT tC2) w3.heap.size [] [] tCe [(1, pt k1), (4, pt k4), (5, .string ⟨⟨[114, 101, 108, 101, 97, 115, 101, 10]⟩⟩), (6, .bool true)] w3.heap.size [] (lies_nil w3) (by kernel_rfl) fun w4 E4 hL4 hK4 => ?_
  exact cmd_end _ hc (kindC_wf hc) (S3.kept (hK4.below (Nat.le_refl _) (fun k hk => by cases hk))) hk'
 have n3 : c.kind ≠ 3 := by simpa using h3
 refine at_run 60 (elseT tC2) w3.heap.size [] [] tC3 [(1, pt k1), (4, pt k4), (6, .bool true), (11, .int .i64 c.kind), (38, .bool (c.kind == 4))] w3.heap.size [] (lies_nil w3) (by kernel_rfl) fun w4 E4 hL4 hK4 => ?_
 have S4 := S3.kept (hK4.below (Nat.le_refl _) (fun k hk => by cases hk))
 refine at_cond (c.kind == 4) (by kernel_rfl) (fun h4 => ?_) (fun h4 => ?_)
 ·have e4 : c.kind = 4 := by simpa using h4
  have hk' := hk (by omega)
  have hp : plainR c = ([112, 97, 121, 10], true && decide (kindC c = c)) := by simp [plainR, e4]
  rw [hp] at hk'
  refine at_run (cntG 90 (thenT tC3)) (thenT tC3) w4.heap.size [] [] tCe [(1, pt k1), (4, pt k4), (5, .string ⟨⟨[112, 97, 121, 10]⟩⟩), (6, .bool true)] w4.heap.size [] (lies_nil w4) (by kernel_rfl) fun w5 E5 hL5 hK5 => ?_
  exact cmd_end _ hc (kindC_wf hc) (S4.kept (hK5.below (Nat.le_refl _) (fun k hk => by cases hk))) hk'
 have n4 : c.kind ≠ 4 := by simpa using h4
 refine at_run 60 (elseT tC3) w4.heap.size [] [] tC4 [(1, pt k1), (4, pt k4), (6, .bool true), (11, .int .i64 c.kind), (40, .bool (c.kind == 5))] w4.heap.size [] (lies_nil w4) (by kernel_rfl) fun w5 E5 hL5 hK5 => ?_
 have S5 := S4.kept (hK5.below (Nat.le_refl _) (fun k hk => by cases hk))
 refine at_cond (c.kind == 5) (by kernel_rfl) (fun h5 => ?_) (fun h5 => ?_)
 ·have e5 : c.kind = 5 := by simpa using h5
  have hk' := hk (by omega)
  have hp : plainR c = ([114, 101, 118, 101, 114, 115, 101, 10], true && decide (kindC c = c)) := by simp [plainR, e5]
  rw [hp] at hk'
  refine at_run (cntG 90 (thenT tC4)) (thenT tC4) w5.heap.size [] [] tCe [(1, pt k1), (4, pt k4), (5, .string ⟨⟨[114, 101, 118, 101, 114, 115, 101, 10]⟩⟩), (6, .bool true)] w5.heap.size [] (lies_nil w5) (by kernel_rfl) fun w6 E6 hL6 hK6 => ?_
  exact cmd_end _ hc (kindC_wf hc) (S5.kept (hK6.below (Nat.le_refl _) (fun k hk => by cases hk))) hk'
 have n5 : c.kind ≠ 5 := by simpa using h5
 refine at_run 60 (elseT tC4) w5.heap.size [] [] tC5 [(1, pt k1), (4, pt k4), (6, .bool true), (42, .bool (c.kind == 6))] w5.heap.size [] (lies_nil w5) (by kernel_rfl) fun w6 E6 hL6 hK6 => ?_
 have S6 := S5.kept (hK6.below (Nat.le_refl _) (fun k hk => by cases hk))
 refine at_cond (c.kind == 6) (by kernel_rfl) (fun h6' => ?_) (fun h6' => ?_)
 ·have e6 : c.kind = 6 := by simpa using h6'
  exact at_known [(1, pt k1), (4, pt k4), (6, .bool true)] (by kernel_rfl) fun E' => h6 e6 k1 k4 E' w6 S6
 ·have n6 : c.kind ≠ 6 := by simpa using h6'
  have hk' := hk n6
  have hp : plainR c = ([], false) := by simp [plainR, n1, n2, n3, n4, n5]
  rw [hp] at hk'
  exact at_endT (fn := Tryz.f29) 60 (.tuple #[.string ⟨⟨[]⟩⟩, .bool false]) (by kernel_rfl) (by kernel_rfl) fun w7 B7 => hk' w7 (S6.kept B7).bel
end Go.Proofs.YtdcbnkimjhefkaaGreatDoor

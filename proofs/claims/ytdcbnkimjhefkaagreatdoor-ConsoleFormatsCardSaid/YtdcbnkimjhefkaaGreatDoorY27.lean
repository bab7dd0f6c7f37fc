/-
  The reference's fact: a letter's item.
  The reference's fact: the loop over the fields; the whole, but for agreements.
  The reference's fact, but for agreements.
-/
import Derived.Test.YtdcbnkimjhefkaaGreatDoorY26
import Derived.Laws.StructEq
namespace Go.Proofs.YtdcbnkimjhefkaaGreatDoor
open Go.RowKit
set_option maxRecDepth 100000
section
variable {P : Program} {f : FuncId} {R : Ending → World → Prop}
theorem at_addL {n : Nat} {todo : List Item} {E : Nat → Value} {w : World} (a b : List UInt8) (dst : Option Tmp) (hc : curAdd n E todo = some (⟨⟨a⟩⟩, ⟨⟨b⟩⟩, dst)) (hs : a.length + b.length ≤ 9223372036854775807) (h : At P f R (popOp todo) (Fr n (updO E dst (.string ⟨⟨a ++ b⟩⟩))) w) : At P f R todo (Fr n E) w := by
  refine at_add ⟨⟨a⟩⟩ ⟨⟨b⟩⟩ dst hc ?_ ?_
  · have e1 : (⟨⟨a⟩⟩ : ByteArray).size = a.length := rfl
    have e2 : (⟨⟨b⟩⟩ : ByteArray).size = b.length := rfl
    have h3 : IntKind.i64.max = 9223372036854775807 := by decide
    rw [e1, e2, h3]
    omega
  · have e9 : (⟨⟨a⟩⟩ : ByteArray) ++ ⟨⟨b⟩⟩ = ⟨⟨a ++ b⟩⟩ := by
      apply ByteArray.ext
      simp
    rw [e9]
    exact h
end
abbrev envA (k1 k9 : Nat) (t fs : List UInt8) (i : Int) : List (Nat × Value) := [(1, pt k1), (7, .string ⟨⟨t⟩⟩), (8, .string ⟨⟨fs⟩⟩), (9, pt k9), (10, .int .i64 i)]
theorem lies_two {w : World} {k k' : Nat} {cs cs' : List Value} {ty ty' : TypeId} (h : w.heap[k]? = some (.cells cs.toArray ty (0, 0))) (h' : w.heap[k']? = some (.cells cs'.toArray ty' (0, 0))) (hne : k ≠ k') : Lies ([(⟨k, 0, cs, ty, true⟩ : Ent), ⟨k', 0, cs', ty', true⟩].map (·.id)) w.heap.size w ⟨w.heap.size, [⟨k, 0, cs, ty, true⟩, ⟨k', 0, cs', ty', true⟩], (0, 0), []⟩ :=
  lies_mk w _ (fun e he => by
    simp only [List.mem_cons, List.not_mem_nil, or_false] at he
    rcases he with rfl | rfl
    · exact good_own h
    · exact good_own h') (by simp; exact hne)
def badR : Ending := .returned (.tuple #[.string ⟨⟨[]⟩⟩, .bool false])
variable {w0 : World} {k1 k9 : Nat} {c x : Cmd} {t fs : List UInt8} {i : Nat} {R : Ending → World → Prop}
theorem FS.ran2 {w w' : World} {x' : Cmd} {z : Nat} (h : FS w0 k1 k9 c x w) (hL : Lies [k1, k9] w.heap.size w' ⟨z, [⟨k1, 0, c.fact, 61, true⟩, ⟨k9, 0, x'.fact, 61, true⟩], (0, 0), []⟩) (hK : Kept [k1, k9] w.heap.size w w') : FS w0 k1 k9 c x' w' := by
  have := h.l1
  have := h.l9
  exact ⟨h.bel.trans (hK.below h.bel.size (fun k hk => by simp at hk; omega)), own_good (hL.sat.good ⟨k1, 0, c.fact, 61, true⟩ (by simp)), own_good (hL.sat.good ⟨k9, 0, x'.fact, 61, true⟩ (by simp)), h.l1, h.l9⟩
theorem letterR_N {wx : World} {E : Nat → Value} (S : FS w0 k1 k9 c x wx) (hc : c.Wf) (ht : t.length ≤ 1125899906842624) (hi : i < 4294967296)
    (hbad : okP 78 c = false → ∀ w', Below w0.heap.size w0 w' → R badR w')
    (hgood : okP 78 c = true → ∀ w' E', FS w0 k1 k9 c (copyN 78 c x) w' → At Tryz.prog 54 R (againT tA3) (Fr 116 (updL E' (envA k1 k9 (t ++ 32 :: itemP 78 c) fs ((i + 1 : Nat) : Int)))) w') :
    At Tryz.prog 54 R tA7 (Fr 116 (updL E (envA k1 k9 t fs i ++ [(82, .string ⟨⟨c.nm⟩⟩)]))) wx := by
  have hnm := hc.nm
  refine at_call 70 [.tmp 82] (some 83) [.string ⟨⟨c.nm⟩⟩] (by kernel_rfl) (by kernel_rfl) (by kernel_rfl) ((risName_any c.nm wx (by unfold maxLen; omega)).mono fun e w1 hh => ?_)
  obtain ⟨rfl, B1⟩ := hh
  refine ⟨_, rfl, ?_⟩
  have S1 := S.kept B1
  refine at_run 60 (popOp tA7) w1.heap.size [] [] tA8 (envA k1 k9 t fs i ++ [(84, .bool (!(Tk.isName c.nm)))]) w1.heap.size [] (lies_nil w1) (by kernel_rfl) fun w2 E2 hL2 hK2 => ?_
  have S2 := S1.kept (hK2.below (Nat.le_refl _) (fun k hk => by cases hk))
  cases hok : Tk.isName c.nm with
  | false =>
    refine at_cond true (by kernel_rfl) (fun _ => ?_) (fun h => nomatch h)
    refine at_endT (fn := Tryz.f54) 60 (.tuple #[.string ⟨⟨[]⟩⟩, .bool false]) (by kernel_rfl) (by kernel_rfl) fun w3 B3 => hbad (by simp [okP, hok]) w3 (S2.kept B3).bel
  | true =>
    refine at_cond false (by kernel_rfl) (fun h => nomatch h) fun _ => ?_
    refine at_run (cntP 90 (elseT tA8)) (elseT tA8) w2.heap.size [⟨k1, 0, c.fact, 61, true⟩, ⟨k9, 0, x.fact, 61, true⟩] [(0, 3), (1, 3), (0, 3)] tA9 (envA k1 k9 t fs i ++ [(88, .string ⟨⟨t⟩⟩), (90, .string ⟨⟨c.nm⟩⟩)]) w2.heap.size [⟨k1, 0, c.fact, 61, true⟩, ⟨k9, 0, (copyN 78 c x).fact, 61, true⟩]
      (lies_two S2.h1 S2.h9 (by have := S2.l9; omega)) (by kernel_rfl) fun w3 E3 hL3 hK3 => ?_
    have S3 := S2.ran2 hL3 hK3
    refine at_addL [32] c.nm (some 91) (by kernel_rfl) (by simp; omega) ?_
    refine at_addL t ([32] ++ c.nm) (some 92) (by kernel_rfl) (by simp; omega) ?_
    refine at_run 60 (popOp (popOp tA9)) w3.heap.size [] [] (againT tA3) (envA k1 k9 (t ++ ([32] ++ c.nm)) fs (IntKind.i64.wrap ((i : Int) + 1))) w3.heap.size [] (lies_nil w3) (by kernel_rfl) fun w4 E4 hL4 hK4 => ?_
    have hw : IntKind.i64.wrap ((i : Int) + 1) = ((i + 1 : Nat) : Int) := by
      rw [IntWalk.i64_in _ (by omega)]
      omega
    rw [hw]
    exact hgood (by simp [okP, hok]) w4 E4 (S3.kept (hK4.below (Nat.le_refl _) (fun k hk => by cases hk)))
theorem exec_idx {P : Program} {o : Oper} {ρ : Operand → Value} {w : World} {T : TypeId} {x i : Operand} {v1 v2 v : Value} (hop : o.op = .index T x i) (hx : ρ x = v1) (hi : ρ i = v2) (h : (Instr.index T v1 v2).run P w = .ok v w) : (execOp ρ o).run P w = .ok (.value v) w := by
  simp only [execOp, hop, hx, hi]
  exact run_val h
theorem letterR_D {wx : World} {E : Nat → Value} (S : FS w0 k1 k9 c x wx) (hc : c.Wf) (a : Nat) (ha : a = 101 ∨ a = 100 ∨ a = 118 ∨ a = 120 ∨ a = 114) (hi : i < fs.length) (hfa : (fs[i]).toNat = a) (ht : t.length ≤ 1125899906842624) (hil : i < 4294967296)
    (hbad : okP (upLetter a) c = false → ∀ w', Below w0.heap.size w0 w' → R badR w')
    (hgood : okP (upLetter a) c = true → ∀ w' E', FS w0 k1 k9 c (copyN (upLetter a) c x) w' → At Tryz.prog 54 R (againT tA3) (Fr 116 (updL E' (envA k1 k9 (t ++ 32 :: itemP (upLetter a) c) fs ((i + 1 : Nat) : Int)))) w') :
    At Tryz.prog 54 R tAd0 (Fr 116 (updL E (envA k1 k9 t fs i))) wx := by
  have hup : upLetter a ≠ 78 ∧ upLetter a ≠ 87 := by rcases ha with rfl | rfl | rfl | rfl | rfl <;> decide
  have hn := hc.num (upLetter a)
  have e1 : okP (upLetter a) c = fitsP (numP (upLetter a) c) := by simp [okP, hup]
  have e2 : itemP (upLetter a) c = Lib.itoa (numP (upLetter a) c) := by simp [itemP, hup]
  have e3 : copyN (upLetter a) c x = setN (upLetter a) (numP (upLetter a) c) x := by simp [copyN, hup]
  rw [e1] at hbad hgood
  rw [e2, e3] at hgood
  generalize hnn : numP (upLetter a) c = n at *
  refine at_ghost ((curReg tAd0).getD #[]) ⟨[⟨k1, 0, c.fact, 61, true⟩], [(0, 0, 0)], [⟨3, [(94, .string ⟨⟨fs⟩⟩), (95, .int .i64 (i : Int))], .int .u8 (a : Int), true⟩, ⟨4, [(93, .agg ⟨c.fact⟩), (96, .int .u8 (a : Int))], .int .i64 n, true⟩]⟩ (envA k1 k9 t fs i ++ [(11, .int .i64 n)]) (by kernel_rfl) (by kernel_rfl) (by kernel_rfl)
    (fun e he => by rw [List.mem_singleton.1 he]; exact good_own S.h1) (fun sp hsp => ?_) (fun X => by kernel_rfl) (by kernel_rfl) fun w1 E1 B1 => ?_
  · simp only [List.mem_cons, List.not_mem_nil, or_false] at hsp
    rcases hsp with rfl | rfl
    · refine spec_op fun _ E w _ => ?_
      refine exec_idx (T := 9) (x := .tmp 94) (i := .tmp 95) (v1 := .string ⟨⟨fs⟩⟩) (v2 := .int .i64 (i : Int)) (by kernel_rfl) (by kernel_rfl) (by kernel_rfl) ?_
      rw [← hfa]
      exact idx_str w fs i hi
    · refine spec_call 108 [.tmp 93, .tmp 96] [.agg ⟨c.fact⟩, .int .u8 (a : Int)] (by kernel_rfl) (by kernel_rfl) (fun E => by kernel_rfl) fun hc1 u hu => below_call hu ?_
      rw [← hnn]
      exact rget_any c a ha u
  have S1 := S.kept B1
  refine at_run 60 (tailT tAd0) w1.heap.size [] [] tAd1 (envA k1 k9 t fs i ++ [(11, .int .i64 n), (98, .int .i64 n)]) w1.heap.size [] (lies_nil w1) (by kernel_rfl) fun w2 E2 hL2 hK2 => ?_
  have S2 := S1.kept (hK2.below (Nat.le_refl _) (fun k hk => by cases hk))
  refine at_call 56 [.tmp 98] (some 99) [.int .i64 n] (by kernel_rfl) (by kernel_rfl) (by kernel_rfl) ((rfits_any n w2).mono fun e w3 hh => ?_)
  obtain ⟨rfl, B3⟩ := hh
  refine ⟨_, rfl, ?_⟩
  have S3 := S2.kept B3
  refine at_run 60 (popOp tAd1) w3.heap.size [] [] tAd2 (envA k1 k9 t fs i ++ [(11, .int .i64 n), (100, .bool (!(fitsP n)))]) w3.heap.size [] (lies_nil w3) (by kernel_rfl) fun w4 E4 hL4 hK4 => ?_
  have S4 := S3.kept (hK4.below (Nat.le_refl _) (fun k hk => by cases hk))
  cases hok : fitsP n with
  | false =>
    refine at_cond true (by kernel_rfl) (fun _ => ?_) (fun h => nomatch h)
    exact at_endT (fn := Tryz.f54) 60 (.tuple #[.string ⟨⟨[]⟩⟩, .bool false]) (by kernel_rfl) (by kernel_rfl) fun w5 B5 => hbad hok w5 (S4.kept B5).bel
  | true =>
    refine at_cond false (by kernel_rfl) (fun h => nomatch h) fun _ => ?_
    refine at_run 60 (elseT tAd2) w4.heap.size [] [] tAd3 (envA k1 k9 t fs i ++ [(11, .int .i64 n), (101, .string ⟨⟨fs⟩⟩), (102, .int .i64 (i : Int))]) w4.heap.size [] (lies_nil w4) (by kernel_rfl) fun w5 E5 hL5 hK5 => ?_
    have S5 := S4.kept (hK5.below (Nat.le_refl _) (fun k hk => by cases hk))
    refine at_index 9 (.string ⟨⟨fs⟩⟩) (.int .i64 (i : Int)) (some 103) (.int .u8 (a : Int)) (by kernel_rfl) (by rw [← hfa]; exact idx_str w5 fs i hi) ?_
    refine at_run 60 (popOp tAd3) w5.heap.size [] [] tAd4 (envA k1 k9 t fs i ++ [(11, .int .i64 n), (103, .int .u8 (a : Int)), (104, .int .i64 n)]) w5.heap.size [] (lies_nil w5) (by kernel_rfl) fun w6 E6 hL6 hK6 => ?_
    have S6 := S5.kept (hK6.below (Nat.le_refl _) (fun k hk => by cases hk))
    refine at_call 72 [.tmp 9, .tmp 103, .tmp 104] (some 105) [pt k9, .int .u8 (a : Int), .int .i64 n] (by kernel_rfl) (by kernel_rfl) (by kernel_rfl) ((rset_any k9 x a n ha w6 S6.h9).mono fun e w7 hh => ?_)
    obtain ⟨rfl, h7, hK7⟩ := hh
    refine ⟨_, rfl, ?_⟩
    have S7 := S6.set hK7 h7
    refine at_run 60 (popOp tAd4) w7.heap.size [] [] tAd5 (envA k1 k9 t fs i ++ [(106, .string ⟨⟨t⟩⟩), (107, .int .i64 n)]) w7.heap.size [] (lies_nil w7) (by kernel_rfl) fun w8 E8 hL8 hK8 => ?_
    have S8 := S7.kept (hK8.below (Nat.le_refl _) (fun k hk => by cases hk))
    refine at_call 55 [.tmp 107] (some 108) [.int .i64 n] (by kernel_rfl) (by kernel_rfl) (by kernel_rfl) ((rdecAll_any n w8 hn.1 hn.2).mono fun e w9 hh => ?_)
    obtain ⟨rfl, B9⟩ := hh
    refine ⟨_, rfl, ?_⟩
    have S9 := S8.kept B9
    have hil2 := itoa_len n hn.1 hn.2
    refine at_addL [32] (Lib.itoa n) (some 109) (by kernel_rfl) (by simp; omega) ?_
    refine at_addL t ([32] ++ Lib.itoa n) (some 110) (by kernel_rfl) (by simp; omega) ?_
    refine at_run 60 (popOp (popOp (popOp tAd5))) w9.heap.size [] [] (againT tA3) (envA k1 k9 (t ++ ([32] ++ Lib.itoa n)) fs (IntKind.i64.wrap ((i : Int) + 1))) w9.heap.size [] (lies_nil w9) (by kernel_rfl) fun w10 E10 hL10 hK10 => ?_
    have hw : IntKind.i64.wrap ((i : Int) + 1) = ((i + 1 : Nat) : Int) := by
      rw [IntWalk.i64_in _ (by omega)]
      omega
    rw [hw]
    exact hgood hok w10 E10 (S9.kept (hK10.below (Nat.le_refl _) (fun k hk => by cases hk)))
end Go.Proofs.YtdcbnkimjhefkaaGreatDoor

namespace Go.Proofs.YtdcbnkimjhefkaaGreatDoor
open Go.RowKit
set_option maxRecDepth 100000
theorem goodR_letter {fs : List UInt8} (h : fieldsOk fs = true) {x : UInt8} (hx : x ∈ fs) : x.toNat = 110 ∨ (x.toNat = 101 ∨ x.toNat = 100 ∨ x.toNat = 118 ∨ x.toNat = 120 ∨ x.toNat = 114) := by
  unfold fieldsOk at h
  simp only [Bool.and_eq_true] at h
  have := List.all_eq_true.1 h.1 x hx
  simp only [Bool.or_eq_true, beq_iff_eq] at this
  omega
theorem goodR_len {fs : List UInt8} (h : fieldsOk fs = true) : fs.length ≤ 6 := by
  unfold fieldsOk at h
  simp only [Bool.and_eq_true] at h
  exact Nat.le_of_ble_eq_true h.2
theorem word_fields (k : Int) : fieldsOk (wordP k).2 = true ∧ (wordP k).1.length ≤ 10 := by
  unfold wordP
  repeat' split
  all_goals exact ⟨by decide, by decide⟩
theorem itemsR_len {c : Cmd} (hc : CmdOk c) : ∀ l : List UInt8, (itemsR c l).length ≤ l.length * 4294967296
  | [] => Nat.le_refl _
  | x :: l => by
    have := itemsR_len hc l
    have := item_len hc (upL x)
    simp only [itemsR, List.flatMap_cons, List.length_append, List.length_cons] at *
    omega
theorem setN_wf {x : Cmd} (h : x.Wf) (a : Nat) {v : Int} (hv : inR v) : (setN a v x).Wf := by
  unfold setN
  repeat' split
  all_goals
    refine ⟨?_, ?_, ?_, ?_, ?_, ?_, ?_, ?_, ?_, ?_, ?_, ?_, ?_⟩
    all_goals first
      | exact hv
      | exact h.kind
      | exact h.emp
      | exact h.fk
      | exact h.fr
      | exact h.val
      | exact h.ext
      | exact h.rnk
      | exact h.per
      | exact h.torn
      | exact h.stop
      | exact h.wh
      | exact h.nm
      | exact h.txt
theorem copyN_wf {c x : Cmd} (hc : c.Wf) (h : x.Wf) (a : Nat) : (copyN a c x).Wf := by
  unfold copyN
  split
  · exact ⟨h.kind, h.emp, h.fk, h.fr, h.val, h.ext, h.rnk, h.per, h.torn, h.stop, h.wh, hc.nm, h.txt⟩
  · exact setN_wf h a (hc.num a)
theorem copyR_wf {c : Cmd} (hc : c.Wf) (l : List UInt8) : (copyR c l).Wf := by
  unfold copyR
  have h0 : (⟨0, 0, c.fk, 0, [], 0, 0, 0, [], 0, 0, 0, 0⟩ : Cmd).Wf := ⟨zero_in, zero_in, hc.fk, zero_in, zero_in, zero_in, zero_in, zero_in, zero_in, zero_in, (by decide : (0 : Nat) < 18446744073709551616), Nat.zero_le _, Nat.zero_le _⟩
  generalize (⟨0, 0, c.fk, 0, [], 0, 0, 0, [], 0, 0, 0, 0⟩ : Cmd) = x at h0
  induction l generalizing x with
  | nil => exact h0
  | cons a l ih => exact ih _ (copyN_wf hc h0 _)
theorem itemsR_snoc (c : Cmd) (l : List UInt8) (x : UInt8) : itemsR c (l ++ [x]) = itemsR c l ++ 32 :: itemP (upL x) c := by simp [itemsR]
theorem copyR_snoc (c : Cmd) (l : List UInt8) (x : UInt8) : copyR c (l ++ [x]) = copyN (upL x) c (copyR c l) := by simp [copyR]
theorem okR_snoc (c : Cmd) (l : List UInt8) (x : UInt8) : okR c (l ++ [x]) = (okR c l && okP (upL x) c) := by simp [okR]
variable {w0 : World} {k1 k9 : Nat} {c : Cmd} {t0 fs : List UInt8} {R : Ending → World → Prop}
theorem fact_loop {wx : World} {E : Nat → Value} (hc : c.Wf) (hfs : fieldsOk fs = true) (ht0 : t0.length ≤ 10) (S : FS w0 k1 k9 c (copyR c []) wx)
    (hbad : okR c fs = false → ∀ w', Below w0.heap.size w0 w' → R badR w')
    (hgood : okR c fs = true → ∀ w' E', FS w0 k1 k9 c (copyR c fs) w' → At Tryz.prog 54 R tAx (Fr 116 (updL E' (envA k1 k9 (t0 ++ itemsR c fs) fs fs.length))) w') :
    At Tryz.prog 54 R tA3 (Fr 116 (updL E (envA k1 k9 t0 fs 0))) wx := by
  have hfl := goodR_len hfs
  refine at_loop (by kernel_rfl) (fun E wx => ∃ (i : Nat) (E0 : Nat → Value), i ≤ fs.length ∧ E = updL E0 (envA k1 k9 (t0 ++ itemsR c (fs.take i)) fs (i : Int)) ∧ okR c (fs.take i) = true ∧ FS w0 k1 k9 c (copyR c (fs.take i)) wx)
    (fun E _ => fs.length - idxOf (E 10)) ⟨0, E, Nat.zero_le _, by simp [itemsR], rfl, S⟩ ?_
  rintro E wx ⟨i, E0, hi, rfl, hok, S⟩ hagain
  have htl : (t0 ++ itemsR c (fs.take i)).length ≤ 1125899906842624 := by
    have h1 := itemsR_len hc.ok (fs.take i)
    have h2 : (fs.take i).length * 4294967296 ≤ 6 * 4294967296 := Nat.mul_le_mul_right _ (by simp; omega)
    simp only [List.length_append]
    have : (itemsR c (fs.take i)).length ≤ 25769803776 := Nat.le_trans h1 h2
    omega
  refine at_run 60 (bodyT tA3) wx.heap.size [] [] tA4 (envA k1 k9 (t0 ++ itemsR c (fs.take i)) fs (i : Int) ++ [(74, .bool (decide ((i : Int) < (fs.length : Int))))]) wx.heap.size [] (lies_nil wx) (by kernel_rfl) fun w1 E1 hL1 hK1 => ?_
  have S1 := S.kept (hK1.below (Nat.le_refl _) (fun k hk => by cases hk))
  refine at_cond (decide ((i : Int) < (fs.length : Int))) (by kernel_rfl) (fun hlt => ?_) (fun hf => ?_)
  · have hlt' : i < fs.length := by have := of_decide_eq_true hlt; omega
    have hx : fs[i] ∈ fs := List.getElem_mem hlt'
    have hlet := goodR_letter hfs hx
    have htake : fs.take (i + 1) = fs.take i ++ [fs[i]] := by rw [List.take_add_one, List.getElem?_eq_getElem hlt']; rfl
    have hne0 : okP (upL fs[i]) c = false → okR c fs = false := by
      intro h
      unfold okR
      rw [List.all_eq_false]
      exact ⟨fs[i], hx, by simp [h]⟩
    have hnext : okP (upL fs[i]) c = true → ∀ w' E', FS w0 k1 k9 c (copyN (upL fs[i]) c (copyR c (fs.take i))) w' → At Tryz.prog 54 R (againT tA3) (Fr 116 (updL E' (envA k1 k9 ((t0 ++ itemsR c (fs.take i)) ++ 32 :: itemP (upL fs[i]) c) fs ((i + 1 : Nat) : Int)))) w' := by
      intro h w' E' S'
      refine hagain _ _ ⟨i + 1, E', hlt', ?_, ?_, ?_⟩ ?_
      · rw [htake, itemsR_snoc, List.append_assoc]
      · rw [htake, okR_snoc, hok, h]
        rfl
      · rw [htake, copyR_snoc]
        exact S'
      · show fs.length - idxOf (.int .i64 ((i + 1 : Nat) : Int)) < fs.length - idxOf (.int .i64 (i : Int))
        simp only [idxOf, Int.toNat_natCast]
        omega
    refine at_run 60 (thenT tA4) w1.heap.size [] [] tA5 (envA k1 k9 (t0 ++ itemsR c (fs.take i)) fs (i : Int) ++ [(77, .string ⟨⟨fs⟩⟩), (78, .int .i64 (i : Int))]) w1.heap.size [] (lies_nil w1) (by kernel_rfl) fun w2 E2 hL2 hK2 => ?_
    have S2 := S1.kept (hK2.below (Nat.le_refl _) (fun k hk => by cases hk))
    refine at_index 9 (.string ⟨⟨fs⟩⟩) (.int .i64 (i : Int)) (some 79) (.int .u8 ((fs[i]).toNat : Int)) (by kernel_rfl) (idx_str w2 fs i hlt') ?_
    generalize hfa : (fs[i]).toNat = a at *
    have hup : upL fs[i] = if a = 110 then 78 else upLetter a := by unfold upL; rw [hfa]
    rcases hlet with rfl | ha
    · rw [if_pos rfl] at hup
      rw [hup] at hne0 hnext
      refine at_run 60 (popOp tA5) w2.heap.size [] [] tA6 (envA k1 k9 (t0 ++ itemsR c (fs.take i)) fs (i : Int) ++ [(80, .bool true)]) w2.heap.size [] (lies_nil w2) (by kernel_rfl) fun w3 E3 hL3 hK3 => ?_
      have S3 := S2.kept (hK3.below (Nat.le_refl _) (fun k hk => by cases hk))
      refine at_cond true (by kernel_rfl) (fun _ => ?_) (fun h => nomatch h)
      refine at_run 60 (thenT tA6) w3.heap.size [⟨k1, 0, c.fact, 61, true⟩] [(0, 3)] tA7 (envA k1 k9 (t0 ++ itemsR c (fs.take i)) fs (i : Int) ++ [(82, .string ⟨⟨c.nm⟩⟩)]) w3.heap.size [⟨k1, 0, c.fact, 61, true⟩] (lies_one S3.h1) (by kernel_rfl) fun w4 E4 hL4 hK4 => ?_
      exact letterR_N (S3.ran1 hL4 hK4) hc htl (by omega) (fun h => hbad (hne0 h)) hnext
    · have n1 : a ≠ 110 := by omega
      rw [if_neg n1] at hup
      rw [hup] at hne0 hnext
      have q1 : ((a : Int) == 110) = false := by simpa using (by omega : (a : Int) ≠ 110)
      refine at_run 60 (popOp tA5) w2.heap.size [] [] tA6 (envA k1 k9 (t0 ++ itemsR c (fs.take i)) fs (i : Int) ++ [(80, .bool ((a : Int) == 110))]) w2.heap.size [] (lies_nil w2) (by kernel_rfl) fun w3 E3 hL3 hK3 => ?_
      have S3 := S2.kept (hK3.below (Nat.le_refl _) (fun k hk => by cases hk))
      refine at_cond ((a : Int) == 110) (by kernel_rfl) (fun h => by rw [q1] at h; cases h) fun _ => ?_
      refine at_run 60 (elseT tA6) w3.heap.size [] [] tAd0 (envA k1 k9 (t0 ++ itemsR c (fs.take i)) fs (i : Int)) w3.heap.size [] (lies_nil w3) (by kernel_rfl) fun w4 E4 hL4 hK4 => ?_
      exact letterR_D (S3.kept (hK4.below (Nat.le_refl _) (fun k hk => by cases hk))) hc a ha hlt' hfa htl (by omega) (fun h => hbad (hne0 h)) hnext
  · have hil : i = fs.length := by have := of_decide_eq_false hf; omega
    subst hil
    rw [List.take_length] at hok S1
    refine at_run 60 (elseT tA4) w1.heap.size [] [] tAx (envA k1 k9 (t0 ++ itemsR c (fs.take fs.length)) fs (fs.length : Int)) w1.heap.size [] (lies_nil w1) (by kernel_rfl) fun w2 E2 hL2 hK2 => ?_
    rw [List.take_length]
    exact hgood hok w2 E2 (S1.kept (hK2.below (Nat.le_refl _) (fun k hk => by cases hk)))
end Go.Proofs.YtdcbnkimjhefkaaGreatDoor

namespace Go.Proofs.YtdcbnkimjhefkaaGreatDoor
open Go.RowKit
set_option maxRecDepth 100000
def isEql : List Item → Bool
  | .inRegion ops (i :: _) :: _ => match ops[i]? with
    | some o => match o.op with
      | .binOp .eql _ _ _ _ => true
      | _ => false
    | none => false
  | _ => false
/-- The code's way alone, up to a comparison. -/
def cntQ : Nat → List Item → Nat
  | 0, _ => 0
  | m + 1, t => match isEql t with
    | true => 0
    | false => match stepT t with
      | some t' => cntQ m t' + 1
      | none => 0
noncomputable def advQ (t : List Item) : List Item := advT (cntQ 90 t) t
section
variable {P : Program} {f : FuncId} {R : Ending → World → Prop}
def curEqS (n : Nat) (E : Nat → Value) (todo : List Item) : Option (ByteArray × ByteArray × Option Tmp) := match curOp n E todo with
  | some o => match o.op with
    | .binOp .eql _ x y _ => match evE n E x, evE n E y with
      | .string a, .string b => some (a, b, o.dst)
      | _, _ => none
    | _ => none
  | none => none
theorem at_eqs {n : Nat} {todo : List Item} {E : Nat → Value} {w : World} (a b : List UInt8) (dst : Option Tmp) (hc : curEqS n E todo = some (⟨⟨a⟩⟩, ⟨⟨b⟩⟩, dst)) (h : At P f R (popOp todo) (Fr n (updO E dst (.bool (decide (a = b))))) w) : At P f R todo (Fr n E) w := by
  unfold curEqS at hc
  split at hc
  · rename_i o hcur
    split at hc
    · rename_i T x y T' ho
      split at hc
      · rename_i a' b' hx hy
        simp only [Option.some.injEq, Prod.mk.injEq] at hc
        obtain ⟨rfl, rfl, rfl⟩ := hc
        refine at_op o hcur (v := .bool (decide (a = b))) (w' := w) ?_ h
        have e : ((⟨⟨a⟩⟩ : ByteArray) == ⟨⟨b⟩⟩) = decide (a = b) := by
          show ((⟨a⟩ : Array UInt8) == ⟨b⟩) = decide (a = b)
          by_cases hab : a = b
          · subst hab; simp
          · rw [decide_eq_false hab, beq_eq_false_iff_ne]
            intro h2
            exact hab (by injection h2)
        unfold execOp
        simp only [ho, hx, hy]
        unfold binOp Op.stringOp
        rw [beq_toListBytes] at e
        simp only [eqGuard, e]
        rfl
      · cases hc
    · cases hc
  · cases hc
end
noncomputable def tAq : List Item := advQ (popOp tA1)
variable {w0 : World} {k1 k9 : Nat} {c x : Cmd} {t fs : List UInt8} {R : Ending → World → Prop}
theorem fact_end {wx : World} {E : Nat → Value} (hc : c.Wf) (hx : x.Wf) (ht : t.length ≤ 1125899906842624) (S : FS w0 k1 k9 c x wx) (i : Int)
    (hk : ∀ w', Below w0.heap.size w0 w' → R (.returned (.tuple #[.string ⟨⟨t ++ [10]⟩⟩, .bool (decide (x.factOnly = c.factOnly))])) w') :
    At Tryz.prog 54 R tAx (Fr 116 (updL E (envA k1 k9 t fs i))) wx := by
  have hlen : (⟨⟨t⟩⟩ : ByteArray).size = t.length := rfl
  have hlen1 : (⟨⟨[10]⟩⟩ : ByteArray).size = 1 := rfl
  refine at_ghostS ((curReg tAx).getD #[]) ⟨[⟨k9, 0, x.fact, 61, true⟩, ⟨k1, 0, c.fact, 61, true⟩], [(2, 0, 0), (3, 1, 0)], [⟨4, [(113, .agg ⟨x.fact⟩), (114, .agg ⟨c.fact⟩)], .bool (decide (x.factOnly = c.factOnly)), true⟩]⟩ [(2, .string (⟨⟨t⟩⟩ ++ ⟨⟨[10]⟩⟩)), (3, .bool (decide (x.factOnly = c.factOnly)))] (by kernel_rfl) (by kernel_rfl) (by kernel_rfl)
    (fun e he => ?_) (fun sp hsp => ?_) (fun X => by kernel_rfl) (by kernel_rfl) [(⟨⟨t⟩⟩ : ByteArray).size + (⟨⟨[10]⟩⟩ : ByteArray).size] (by kernel_rfl) (fun z hz => ?_) fun w1 E1 B1 => ?_
  · simp only [List.mem_cons, List.not_mem_nil, or_false] at he
    rcases he with rfl | rfl
    · exact good_own S.h9
    · exact good_own S.h1
  · rw [List.mem_singleton.1 hsp]
    refine spec_op fun _ E w _ => ?_
    exact exec_eq (T := 61) (T' := 61) (x := .tmp 113) (y := .tmp 114) (by kernel_rfl) (by kernel_rfl) (by kernel_rfl) (by kernel_rfl) (run_fact_eq x c hx hc w)
  · rw [List.mem_singleton.1 hz, hlen, hlen1]
    have h3 : IntKind.i64.max = 9223372036854775807 := by decide
    rw [h3]
    omega
  have e9 : (⟨⟨t⟩⟩ : ByteArray) ++ ⟨⟨[10]⟩⟩ = ⟨⟨t ++ [10]⟩⟩ := by
    apply ByteArray.ext
    simp
  rw [e9]
  have S1 := S.kept B1
  exact at_endT (fn := Tryz.f54) 60 (.tuple #[.string ⟨⟨t ++ [10]⟩⟩, .bool (decide (x.factOnly = c.factOnly))]) (by kernel_rfl) (by kernel_rfl) fun w3 B3 => hk w3 (S1.kept B3).bel
/-- The line of a fact that is no agreement, and whether it is printable. -/
def factL (c : Cmd) : List UInt8 × Bool :=
  if (wordP c.fk).1 = [] then ([], false) else if okR c (wordP c.fk).2 = true then ((wordP c.fk).1 ++ itemsR c (wordP c.fk).2 ++ [10], decide ((copyR c (wordP c.fk).2).factOnly = c.factOnly)) else ([], false)
theorem fact_line {wx : World} {E : Nat → Value} (hc : c.Wf) (k1 : Nat) (h1 : wx.heap[k1]? = some (.cells c.fact.toArray 61 (0, 0))) (hl : w0.heap.size ≤ k1) (hB : Below w0.heap.size w0 wx)
    (hk : ∀ w', Below w0.heap.size w0 w' → R (.returned (.tuple #[.string ⟨⟨(factL c).1⟩⟩, .bool (factL c).2])) w') :
    At Tryz.prog 54 R (elseT tA0) (Fr 116 (updL E [(1, pt k1)])) wx := by
  have hlt := (Array.getElem?_eq_some_iff.1 h1).1
  refine at_run 60 (elseT tA0) wx.heap.size [⟨k1, 0, c.fact, 61, true⟩] [(0, 1)] tA1 [(1, pt k1), (62, .int .i64 c.fk)] wx.heap.size [⟨k1, 0, c.fact, 61, true⟩] (lies_one h1) (by kernel_rfl) fun w1 E1 hL1 hK1 => ?_
  have B1 : Below w0.heap.size w0 w1 := hB.trans (hK1.below hB.size (fun k hk => by rw [List.mem_singleton.1 hk]; exact hl))
  have m1 := own_good (hL1.sat.good _ (List.mem_singleton.2 rfl))
  refine at_call 69 [.tmp 62] (some 63) [.int .i64 c.fk] (by kernel_rfl) (by kernel_rfl) (by kernel_rfl) ((rword46_any c.fk w1).mono fun e w2 hh => ?_)
  obtain ⟨rfl, rfl⟩ := hh
  refine ⟨_, rfl, ?_⟩
  have hwf := word_fields c.fk
  obtain ⟨hff, hwl⟩ := hwf
  have hfl : factL c = (if (wordP c.fk).1 = [] then ([], false) else if okR c (wordP c.fk).2 = true then ((wordP c.fk).1 ++ itemsR c (wordP c.fk).2 ++ [10], decide ((copyR c (wordP c.fk).2).factOnly = c.factOnly)) else ([], false)) := rfl
  generalize wordP c.fk = p at *
  obtain ⟨wd, fs⟩ := p
  simp only at hff hwl hfl
  refine at_run (cntQ 90 (popOp tA1)) (popOp tA1) w2.heap.size [] [] tAq [(1, pt k1), (7, .string ⟨⟨wd⟩⟩), (8, .string ⟨⟨fs⟩⟩), (66, .string ⟨⟨wd⟩⟩)] w2.heap.size [] (lies_nil w2) (by kernel_rfl) fun w3 E3 hL3 hK3 => ?_
  have b3 : Below w2.heap.size w2 w3 := hK3.below (Nat.le_refl _) (fun k hk => by cases hk)
  have B3 := B1.trans (b3.mono B1.size)
  have m3 := (b3.block _ (Array.getElem?_eq_some_iff.1 m1).1).trans m1
  refine at_eqs wd [] (some 67) (by kernel_rfl) ?_
  refine at_run 60 (popOp tAq) w3.heap.size [] [] tA2 [(1, pt k1), (7, .string ⟨⟨wd⟩⟩), (8, .string ⟨⟨fs⟩⟩), (67, .bool (decide (wd = [])))] w3.heap.size [] (lies_nil w3) (by kernel_rfl) fun w4 E4 hL4 hK4 => ?_
  have b4 : Below w3.heap.size w3 w4 := hK4.below (Nat.le_refl _) (fun k hk => by cases hk)
  have B4 := B3.trans (b4.mono B3.size)
  have m4 := (b4.block _ (Array.getElem?_eq_some_iff.1 m3).1).trans m3
  by_cases hw : wd = []
  · rw [decide_eq_true hw]
    rw [if_pos hw] at hfl
    rw [hfl] at hk
    refine at_cond true (by kernel_rfl) (fun _ => ?_) (fun h => nomatch h)
    exact at_endT (fn := Tryz.f54) 60 (.tuple #[.string ⟨⟨[]⟩⟩, .bool false]) (by kernel_rfl) (by kernel_rfl) fun w5 B5 => hk w5 (B4.trans (B5.mono B4.size))
  · rw [decide_eq_false hw]
    rw [if_neg hw] at hfl
    have hw4 : w0.heap.size ≤ w4.heap.size := B4.size
    refine at_cond false (by kernel_rfl) (fun h => nomatch h) fun _ => ?_
    refine at_run 60 (elseT tA2) w4.heap.size [⟨k1, 0, c.fact, 61, true⟩] [(0, 1), (1, 0)] tA3 (envA k1 w4.heap.size wd fs 0) (w4.heap.size + 1) [⟨k1, 0, c.fact, 61, true⟩, ⟨w4.heap.size, 0, (copyR c []).fact, 61, true⟩] (lies_one m4) (by kernel_rfl) fun w5 E5 hL5 hK5 => ?_
    have S5 : FS w0 k1 w4.heap.size c (copyR c []) w5 := ⟨B4.trans (hK5.below hw4 (fun k hk => by rw [List.mem_singleton.1 hk]; exact hl)), own_good (hL5.sat.good ⟨k1, 0, c.fact, 61, true⟩ (by simp)), own_good (hL5.sat.good ⟨w4.heap.size, 0, (copyR c []).fact, 61, true⟩ (by simp)), hl, (Array.getElem?_eq_some_iff.1 m4).1⟩
    refine fact_loop hc hff hwl S5 (fun hno w' B' => ?_) fun hyes w' E' S' => ?_
    · rw [hno] at hfl
      rw [hfl] at hk
      exact hk w' B'
    · rw [if_pos hyes] at hfl
      rw [hfl] at hk
      refine fact_end hc (copyR_wf hc fs) ?_ S' _ hk
      have h1 := itemsR_len hc.ok fs
      have h2 : fs.length * 4294967296 ≤ 6 * 4294967296 := Nat.mul_le_mul_right _ (goodR_len hff)
      have : (itemsR c fs).length ≤ 25769803776 := Nat.le_trans h1 h2
      simp only [List.length_append]
      omega
end Go.Proofs.YtdcbnkimjhefkaaGreatDoor

/-
  Which texts consist of lines none of which is the line end: the program's test and the reference's agree.
  The console's Format is the reference's, for every list of commands.
  A store into a cell at an open place; commands of which one field is changed; small.
  The console's example runs to true.
  copyCheck of strings.Builder over this program.
  String of strings.Builder over this program.
-/
import Derived.Test.YtdcbnkimjhefkaaGreatDoorY36
import Derived.Test.YtdcbnkimjhefkaaGreatDoorY32
import Derived.Test.YtdcbnkimjhefkaaGreatDoorY17
import Derived.Test.YtdcbnkimjhefkaaGreatDoorProg
import Derived.Shelf.Strings.Builder1
import Derived.Lib.UnsafeStr
namespace Go.Proofs.YtdcbnkimjhefkaaGreatDoor
theorem pre_self (p r : List UInt8) : p.isPrefixOf (p ++ r) = true := by
  rw [List.isPrefixOf_iff_prefix]
  exact List.prefix_append p r
theorem suf_cons (c : UInt8) (r : List UInt8) (h : r ≠ []) : Lib.hasSuffix (c :: r) [10] = Lib.hasSuffix r [10] := by
  unfold Lib.hasSuffix
  rw [Bool.eq_iff_iff, List.isSuffixOf_iff_suffix, List.isSuffixOf_iff_suffix, List.suffix_cons_iff]
  constructor
  · rintro (h1 | h1)
    · cases r with
      | nil => exact absurd rfl h
      | cons => simp at h1
    · exact h1
  · exact Or.inr
theorem con_cons (c : UInt8) (r p : List UInt8) : Lib.contains (c :: r) p = (p.isPrefixOf (c :: r) || Lib.contains r p) := by
  unfold Lib.contains
  have hg := Lib.index_ge r p
  rw [Lib.index]
  by_cases h : p.isPrefixOf (c :: r) = true
  · simp [h]
  · rw [if_neg h]
    simp only [Bool.not_eq_true] at h
    rw [h, Bool.false_or]
    by_cases h1 : Lib.index r p = -1
    · simp [h1]
    · have : ¬ ((Lib.index r p == -1) = true) := by simpa using h1
      rw [if_neg this]
      have h2 : 0 ≤ Lib.index r p := by omega
      have h3 : 0 ≤ Lib.index r p + 1 := by omega
      simp [h2, h3]
theorem split_none : ∀ r : List UInt8, (splitL 10 r).1 = [] → (splitL 10 r).2 = r
  | [], _ => rfl
  | c :: r, h => by
    by_cases hc : c = 10
    · simp [splitL, hc] at h
    · simp only [splitL, hc, if_false] at h ⊢
      cases h1 : (splitL 10 r).1 with
      | nil => simp [split_none r h1]
      | cons => simp [h1] at h
theorem head_end : ∀ s : List UInt8, Lib.hasPrefix s (endW ++ [10]) = decide ((splitL 10 s).1.head? = some endW) := by
  have key : ∀ (p s : List UInt8), (∀ x ∈ p, x ≠ 10) → (p ++ [10]).isPrefixOf s = decide ((splitL 10 s).1.head? = some p) := by
    intro p
    induction p with
    | nil =>
      intro s _
      cases s with
      | nil => rfl
      | cons c r =>
        by_cases hc : c = 10
        · simp [splitL, hc]
        · have hc' : ((10 : UInt8) == c) = false := by simpa using fun e => hc e.symm
          simp only [splitL, hc, if_false, List.nil_append, List.isPrefixOf, hc', Bool.false_and]
          cases h1 : (splitL 10 r).1 <;> simp
    | cons a p ih =>
      intro s hp
      have ha : a ≠ 10 := hp a (by simp)
      have hp' : ∀ x ∈ p, x ≠ 10 := fun x hx => hp x (by simp [hx])
      cases s with
      | nil => rfl
      | cons c r =>
        simp only [List.cons_append, List.isPrefixOf]
        rw [ih r hp']
        by_cases hc : c = 10
        · subst hc
          have : (a == (10 : UInt8)) = false := by simpa using ha
          simp [splitL, this]
        · simp only [splitL, hc, if_false]
          by_cases hac : a = c
          · subst hac
            cases h1 : (splitL 10 r).1 <;> simp
          · have : (a == c) = false := by simpa using hac
            rw [this]
            have hca : ¬ c = a := fun e => hac e.symm
            cases h1 : (splitL 10 r).1 <;> simp [hca]
  intro s
  exact key endW s (by decide)
theorem con_end (c : UInt8) (r : List UInt8) : Lib.contains (c :: r) (10 :: (endW ++ [10])) = ((decide (c = 10) && Lib.hasPrefix r (endW ++ [10])) || Lib.contains r (10 :: (endW ++ [10]))) := by
  rw [con_cons]
  congr 1
  simp only [List.isPrefixOf, Lib.hasPrefix]
  congr 1
  by_cases h : c = 10
  · simp [h]
  · have : ((10 : UInt8) == c) = false := by simpa using fun e => h e.symm
    simp [h, this]
theorem tail_lines : ∀ s : List UInt8, ((s.isEmpty || Lib.hasSuffix s [10]) && !(Lib.contains s (10 :: (endW ++ [10])))) = ((splitL 10 s).2.isEmpty && (splitL 10 s).1.tail.all (fun l => decide (l ≠ endW)))
  | [] => rfl
  | c :: r => by
    have ih := tail_lines r
    have hh := head_end r
    rw [con_end]
    by_cases hc : c = 10
    · subst hc
      have hs : (((10 : UInt8) :: r).isEmpty || Lib.hasSuffix (10 :: r) [10]) = (r.isEmpty || Lib.hasSuffix r [10]) := by
        cases r with
        | nil => rfl
        | cons a b => rw [suf_cons _ _ (by simp)]; rfl
      rw [hs]
      simp only [splitL, if_true, List.tail_cons, decide_true, Bool.true_and]
      rw [hh]
      cases h1 : (splitL 10 r).1 with
      | nil =>
        rw [h1] at ih
        simp only [List.head?_nil, List.tail_nil, List.all_nil] at ih ⊢
        simpa using ih
      | cons l ls =>
        rw [h1] at ih
        simp only [List.head?_cons, List.tail_cons, List.all_cons] at ih ⊢
        by_cases hl : l = endW
        · simp [hl]
        · simp [hl]
          simpa using ih
    · simp only [splitL, hc, if_false, decide_false, Bool.false_and, Bool.false_or]
      cases r with
      | nil =>
        have h0 : Lib.hasSuffix [c] [10] = false := by
          have : ((10 : UInt8) == c) = false := by simpa using fun e => hc e.symm
          simp only [Lib.hasSuffix]
          rw [Bool.eq_false_iff]
          intro h
          rw [List.isSuffixOf_iff_suffix, List.suffix_cons_iff] at h
          rcases h with h | h
          · simp at h; exact hc h.symm
          · simp at h
        simp [splitL, h0]
      | cons a b =>
        rw [suf_cons _ _ (by simp)]
        have h0 : ((a :: b).isEmpty || Lib.hasSuffix (a :: b) [10]) = Lib.hasSuffix (a :: b) [10] := by simp
        rw [h0] at ih
        have h1 : ((c :: a :: b).isEmpty || Lib.hasSuffix (a :: b) [10]) = Lib.hasSuffix (a :: b) [10] := by simp
        rw [h1, ih]
        cases h2 : (splitL 10 (a :: b)).1 with
        | nil =>
          have := split_none _ h2
          rw [this]
          simp
        | cons l ls => simp
theorem linedP_lines (s : List UInt8) : linedP s = ((splitL 10 s).2.isEmpty && (splitL 10 s).1.all (fun l => decide (l ≠ endW))) := by
  have ht := tail_lines s
  have hh := head_end s
  have e1 : ([101, 110, 100, 10] : List UInt8) = endW ++ [10] := rfl
  unfold linedP
  rw [e1, hh]
  cases s with
  | nil => rfl
  | cons c r =>
    have h0 : (c :: r).isEmpty = false := rfl
    rw [h0] at ht ⊢
    simp only [Bool.false_or] at ht ⊢
    generalize Lib.hasSuffix (c :: r) [10] = b1 at *
    generalize Lib.contains (c :: r) (10 :: (endW ++ [10])) = b2 at *
    cases h1 : (splitL 10 (c :: r)).1 with
    | nil =>
      rw [h1] at ht
      simp at ht ⊢
      exact ht
    | cons l ls =>
      rw [h1] at ht
      simp only [List.head?_cons, List.tail_cons, List.all_cons] at ht ⊢
      by_cases hl : l = endW
      · simp [hl]
      · simp [hl]
        simpa using ht
end Go.Proofs.YtdcbnkimjhefkaaGreatDoor

namespace Go.Proofs.YtdcbnkimjhefkaaGreatDoor
set_option maxRecDepth 100000
theorem agree_agr (c : Cmd) (h : c.kind = 1) (hk : c.fk = 5) : SameC c := by
  have hf : formOf c = some ⟨[97, 103, 114, 101, 101, 109, 101, 110, 116], 1, 5, [68]⟩ := by simp [formOf, forms, List.find?, formIs, h, hk]
  have e1 : okL c [68] = fitsP c.fr := by simp [okL, okP, numP]
  have e2 : decide (leftP c ⟨[97, 103, 114, 101, 101, 109, 101, 110, 116], 1, 5, [68]⟩ = Cmd.of ⟨[97, 103, 114, 101, 101, 109, 101, 110, 116], 1, 5, [68]⟩) = (decide (c.factOnly = agrC c) && decide (learnC c = c)) := by
    rw [← Bool.decide_and]
    refine decide_eq_decide.2 ?_
    obtain ⟨a, b, d, f, g, i, j, k, l, m, n, o, p⟩ := c
    simp only at h hk
    subst h hk
    simp [leftP, restP, zeroP, zeroN, Cmd.of, Cmd.factOnly, agrC, learnC, eq_comm]
    try (constructor <;> intro h <;> simp_all)
  have ho : okC c = ((fitsP c.fr && ((splitL 10 c.txt).2.isEmpty && (splitL 10 c.txt).1.all (fun l => decide (l ≠ endW)))) && (decide (c.factOnly = agrC c) && decide (learnC c = c))) := by
    simp only [okC, hf, okF, e1, e2, linedP_lines]
    simp
  have ht : textC c = [97, 103, 114, 101, 101, 109, 101, 110, 116, 32] ++ Lib.itoa c.fr ++ [10] ++ c.txt ++ [101, 110, 100, 10] := by simp [textC, hf, linesP, itemsP, itemP, numP]
  have hr : commandR c = ((agrL c).1, (agrL c).2 && decide (learnC c = c)) := by simp [commandR, plainR, h, factR, hk]
  unfold SameC
  rw [ho, ht, hr]
  unfold agrL
  generalize (splitL 10 c.txt).2.isEmpty = b1
  generalize (splitL 10 c.txt).1.all (fun l => decide (l ≠ endW)) = b2
  generalize fitsP c.fr = b3
  generalize decide (c.factOnly = agrC c) = b4
  cases b1 <;> cases b2 <;> cases b3 <;> cases b4 <;> simp
/-- For every command. -/
theorem same_all (c : Cmd) : SameC c := by
  by_cases h : c.kind = 1 ∧ c.fk = 5
  · exact agree_agr c h.1 h.2
  · exact agree_all c fun h1 h2 => h ⟨h1, h2⟩
theorem fmt_same : ∀ (l : List Cmd) (acc : List UInt8), fmtR commandR acc l = fmtS acc l
  | [], acc => rfl
  | c :: l, acc => by
    obtain ⟨h1, h2⟩ := same_all c
    unfold fmtR fmtS
    rw [h1]
    by_cases ho : okC c = true
    · rw [h2 ho, List.length_append, fmt_same l]
    · simp [ho]
theorem factL_len {c : Cmd} (h : c.Wf) : (factL c).1.length ≤ 1000000000000 := by
  unfold factL
  split
  · simp
  · split
    · have h1 := itemsR_len h.ok (wordP c.fk).2
      have h2 : (wordP c.fk).1.length ≤ 10 ∧ (wordP c.fk).2.length ≤ 6 := by
        unfold wordP
        repeat' split
        all_goals exact ⟨by decide, by decide⟩
      simp only [List.length_append, List.length_cons, List.length_nil]
      have h3 := Nat.mul_le_mul_right 4294967296 h2.2
      omega
    · simp
theorem command_len {c : Cmd} (h : c.Wf) : (commandR c).1.length ≤ 1125899906842624 := by
  have l1 := itoa_len c.fr h.fr.1 h.fr.2
  have l2 := itoa_len c.per h.per.1 h.per.2
  have l3 := itoa_len c.torn h.torn.1 h.torn.2
  have l4 := itoa_len c.stop h.stop.1 h.stop.2
  have h5 := h.txt
  have h6 := factL_len h
  unfold commandR
  split
  · unfold crashR
    split
    · rename_i hw
      have ew : Lib.itoa (c.wh : Int) = Lib.decDigits c.wh := by simp [Lib.itoa]
      have l5 := itoa_len (c.wh : Int) (by omega) (by omega)
      rw [ew] at l5
      simp only [List.length_append, List.length_cons, List.length_nil]
      omega
    · simp
  · unfold plainR
    split
    · unfold factR
      split
      · unfold agrL
        split
        · simp only [List.length_append, List.length_cons, List.length_nil]
          omega
        · simp
      · simp only
        omega
    · split
      · simp only [List.length_append, List.length_cons, List.length_nil]
        omega
      · split
        · simp
        · split
          · simp
          · split <;> simp
open Go.RowKit in
/-- The reference's Format. -/
theorem rformatAll_any (l : List Cmd) (v : Value) (w : World) (hl : ∀ c ∈ l, c.Wf) (hv : CmdsAt w w.heap.size v l) (hn : l.length ≤ 9223372036854775806) :
    Calls Tryz.prog 14 #[v] w fun e w' => e = .returned (fmtV (fmtS [] l)) ∧ Below w.heap.size w w' := by
  rw [← fmt_same l []]
  exact rformat_any commandR (fun c hc => ⟨command_len hc, fun w => rcommand_any c w hc⟩) l v w hl hv hn
end Go.Proofs.YtdcbnkimjhefkaaGreatDoor

namespace Go.Proofs.YtdcbnkimjhefkaaGreatDoor
open Go.RowKit
set_option maxRecDepth 100000
section
variable {P : Program} {f : FuncId} {R : Ending → World → Prop}
theorem run_store1 {w : World} {a : Addr} {e : TypeId} {v u : Value} (hs : (P.info? e).map (·.size) = some 1) (hv : one v = true) (hc : w.cell? a = some u) (hf : w.frozen? a = false) : (storeVar e a v).run P w = .ok () (w.setCell a v) := by
  have hcs : v.cells = #[v] := by cases v <;> first | rfl | cases hv
  cases hi : P.info? e with
  | none => rw [hi] at hs; cases hs
  | some ie =>
    have hsz : ie.size = 1 := by rw [hi] at hs; exact Option.some.inj hs
    unfold storeVar
    simp only [hcs]
    have h0 : a.add 0 = a := by simp [Addr.add]
    simp [sizeOf, typeInfo, hi, hsz, storeCells, h0, store]
    exact (run_store hv hc hf).trans rfl
theorem at_skip {n : Nat} {todo : List Item} {E : Nat → Value} {w w' : World} (o : Oper) (hc : curOp n E todo = some o) (hd : o.dst = none) (hx : (execOp (evE n E) o).run P w = .ok .skip w') (h : At P f R (popOp todo) (Fr n E) w') : At P f R todo (Fr n E) w := by
  unfold curOp at hc
  split at hc
  · rename_i ops i r k
    split at hc
    · rename_i o' ho
      split at hc
      · rename_i hw
        obtain rfl := Option.some.inj hc
        refine wpOps_some ho (by rw [yielded_Fr]; exact hw) ?_
        unfold Oper.wp
        rw [eval_Fr, hx]
        show wpOps P ops _ r ((Fr n E).put o'.dst undef) w'
        rw [hd]
        exact h
      · cases hc
    · cases hc
  · cases hc
def curStore (n : Nat) (E : Nat → Value) (todo : List Item) : Option (TypeId × Value × Value × Option Tmp) := match curOp n E todo with
  | some o => match o.op with
    | .store t a x => some (t, evE n E a, evE n E x, o.dst)
    | _ => none
  | none => none
theorem at_store {n : Nat} {todo : List Item} {E : Nat → Value} {w : World} (t : TypeId) (g k : Nat) (v u : Value) (hc : curStore n E todo = some (t, .pointer (some ⟨g, k, none⟩), v, none)) (hs : (P.info? t).map (·.size) = some 1) (hv : one v = true) (hcell : w.cell? ⟨g, k, none⟩ = some u) (hf : w.frozen? ⟨g, k, none⟩ = false)
    (h : At P f R (popOp todo) (Fr n E) (w.setCell ⟨g, k, none⟩ v)) : At P f R todo (Fr n E) w := by
  unfold curStore at hc
  split at hc
  · rename_i o hcur
    split at hc
    · rename_i t' a x ho
      simp only [Option.some.injEq, Prod.mk.injEq] at hc
      obtain ⟨rfl, ha, hx, hd⟩ := hc
      refine at_skip o hcur hd ?_ h
      simp [execOp, ho, ha, hx, Instr.storeAt, Instr.sureAddr, run_store1 hs hv hcell hf]
    · cases hc
  · cases hc
end
theorem cell_setCell {w : World} {g i j : Nat} {v : Value} : (w.setCell ⟨g, i, none⟩ v).cell? ⟨g, j, none⟩ = if i = j then (w.cell? ⟨g, j, none⟩).map fun _ => v else w.cell? ⟨g, j, none⟩ := by
  unfold World.setCell World.cell?
  simp only [Array.getElem?_modify]
  simp only [if_true]
  cases h : w.heap[g]? with
  | none => simp
  | some o =>
    cases o with
    | cells C T fr =>
      simp only [Option.map_some]
      by_cases hij : i = j
      · subst hij
        simp [Array.getElem?_setIfInBounds]
        by_cases hlt : i < C.size
        · simp [hlt]
        · simp [hlt]
      · simp [hij]
    | _ => simp
/-- One field of one command, changed. -/
theorem cmds_set {w : World} {lim g off : Nat} {v : Value} {l : List Cmd} {a : Option Addr} {cap k m : Nat} {c' : Cmd} (hv : v = .slice a l.length cap) (ha : a = some ⟨g, off, none⟩) (hg : g < lim) (hc : ∀ (i : Nat) (h : i < l.length), w.rangeAt g (off + i * 13) (l[i]).cells)
    (hk : k < l.length) (hm : m < 13) {x : Value} (hx : c'.cells = (l[k]).cells.set m x) : CmdsAt (w.setCell ⟨g, off + k * 13 + m, none⟩ x) lim v (l.set k c') := by
  subst hv ha
  refine ⟨_, cap, by rw [List.length_set], fun _ => ⟨g, off, rfl, hg, fun i hi j u hu => ?_⟩⟩
  rw [List.length_set] at hi
  have hl : ∀ c : Cmd, c.cells.length = 13 := fun _ => rfl
  rw [cell_setCell]
  by_cases hik : k = i
  · subst hik
    rw [List.getElem_set_self, hx] at hu
    have hj : j < 13 := by
      have := (List.getElem?_eq_some_iff.1 hu).1
      rw [List.length_set, hl] at this
      exact this
    by_cases hjm : m = j
    · subst hjm
      rw [if_pos rfl]
      rw [List.getElem?_set_self (by rw [hl]; exact hm)] at hu
      obtain rfl := Option.some.inj hu
      have := hc k hk m _ (List.getElem?_eq_getElem (by rw [hl]; exact hm))
      rw [this]
      rfl
    · rw [if_neg (by omega)]
      rw [List.getElem?_set_ne hjm] at hu
      exact hc k hk j u hu
  · rw [List.getElem_set_ne hik] at hu
    have hj : j < 13 := by
      have := (List.getElem?_eq_some_iff.1 hu).1
      rw [hl] at this
      exact this
    rw [if_neg (by omega)]
    exact hc i hi j u hu
def smallL (l : List Cmd) : Bool := decide (l.length ≤ 20) && l.all fun c => decide (c.nm.length ≤ 60) && decide (c.txt.length ≤ 400)
noncomputable def codeSm : Code := Tryz.f20.body.getD .skip
noncomputable def tSm0 : List Item := advT 60 [.code codeSm]
noncomputable def tSm1 : List Item := advT 60 (elseT tSm0)
noncomputable def tSm2 : List Item := advT 60 (bodyT tSm1)
noncomputable def tSm3 : List Item := advG (thenT tSm2)
noncomputable def tSm4 : List Item := advT 60 (tailT tSm3)
theorem small_any (l : List Cmd) (v : Value) (w : World) (hv : CmdsAt w w.heap.size v l) (hn : l.length ≤ 9223372036854775807) :
    Calls Tryz.prog 20 #[v] w fun e w' => e = .returned (.bool (smallL l)) ∧ Below w.heap.size w w' := by
  obtain ⟨a, cap, rfl, hcells⟩ := hv
  refine calls_at (args := [.slice a l.length cap]) (fn := Tryz.f20) (c := codeSm) (n := 31) (by kernel_rfl) (by kernel_rfl) (by kernel_rfl) (by kernel_rfl) ?_
  refine at_run 60 [.code codeSm] w.heap.size [] [] tSm0 [(0, .slice a l.length cap), (6, .bool (decide ((20 : Int) < (l.length : Int))))] w.heap.size [] (lies_nil w) (by kernel_rfl) fun w1 E1 hL1 hK1 => ?_
  have B1 : Below w.heap.size w w1 := hK1.below (Nat.le_refl _) (fun k hk => by cases hk)
  refine at_cond (decide ((20 : Int) < (l.length : Int))) (by kernel_rfl) (fun ht => ?_) (fun hf => ?_)
  · have h1 := of_decide_eq_true ht
    have hb : smallL l = false := by
      have : decide (l.length ≤ 20) = false := decide_eq_false (by omega)
      simp [smallL, this]
    rw [hb]
    exact at_endT (fn := Tryz.f20) 60 (.bool false) (by kernel_rfl) (by kernel_rfl) fun w2 B2 => ⟨rfl, B1.trans (B2.mono B1.size)⟩
  have h20 : l.length ≤ 20 := by have := of_decide_eq_false hf; omega
  refine at_run 60 (elseT tSm0) w1.heap.size [] [] tSm1 [(0, .slice a l.length cap), (3, .int .i64 0)] w1.heap.size [] (lies_nil w1) (by kernel_rfl) fun w2 E2 hL2 hK2 => ?_
  have B2 := B1.trans ((hK2.below (Nat.le_refl _) (fun k hk => by cases hk) : Below w1.heap.size w1 w2).mono B1.size)
  refine at_loop (by kernel_rfl) (fun E wx => ∃ (i : Nat) (E0 : Nat → Value), i ≤ l.length ∧ E = updL E0 [(0, .slice a l.length cap), (3, .int .i64 (i : Int))] ∧ smallL l = (l.drop i).all (fun c => decide (c.nm.length ≤ 60) && decide (c.txt.length ≤ 400)) ∧ Below w.heap.size w wx)
    (fun E _ => l.length - idxOf (E 3)) ⟨0, E2, Nat.zero_le _, rfl, by simp [smallL, h20], B2⟩ ?_
  rintro E wx ⟨i, E0, hi, rfl, hsm, B⟩ hagain
  refine at_run 60 (bodyT tSm1) wx.heap.size [] [] tSm2 [(0, .slice a l.length cap), (3, .int .i64 (i : Int)), (10, .bool (decide ((i : Int) < (l.length : Int))))] wx.heap.size [] (lies_nil wx) (by kernel_rfl) fun w3 E3 hL3 hK3 => ?_
  have B3 := B.trans ((hK3.below (Nat.le_refl _) (fun k hk => by cases hk) : Below wx.heap.size wx w3).mono B.size)
  refine at_cond (decide ((i : Int) < (l.length : Int))) (by kernel_rfl) (fun ht => ?_) (fun hff => ?_)
  · have hlt : i < l.length := by have := of_decide_eq_true ht; omega
    have hne : l ≠ [] := fun e => by rw [e] at hlt; exact absurd hlt (Nat.not_lt_zero _)
    obtain ⟨g, off, rfl, hgl, hcell⟩ := hcells hne
    have hci := hcell i hlt
    have hdrop : l.drop i = l[i] :: l.drop (i + 1) := (List.getElem_cons_drop hlt).symm
    generalize l[i] = c at hci hdrop
    rw [hdrop, List.all_cons] at hsm
    refine at_run (cntG 90 (thenT tSm2)) (thenT tSm2) w3.heap.size [] [] tSm3 [(0, .slice (some ⟨g, off, none⟩) l.length cap), (3, .int .i64 (i : Int))] w3.heap.size [] (lies_nil w3) (by kernel_rfl) fun w4 E4 hL4 hK4 => ?_
    have B4 := B3.trans ((hK4.below (Nat.le_refl _) (fun k hk => by cases hk) : Below w3.heap.size w3 w4).mono B3.size)
    have hr4 : w4.rangeAt g (off + i * 13) c.cells := fun j x hj => (World.cell?_of_block (B4.block _ hgl)).trans (hci j x hj)
    have hg4 : g < w4.heap.size := Nat.lt_of_lt_of_le hgl B4.size
    generalize hbad : cond (decide ((60 : Int) < (c.nm.length : Int))) true (decide ((400 : Int) < (c.txt.length : Int))) = bad
    refine at_ghost ((curReg tSm3).getD #[]) ⟨[⟨g, off + i * 13, c.cells, 0, false⟩], [(5, 0, 4), (14, 0, 8)], [⟨2, [(13, .slice (some ⟨g, off, none⟩) l.length cap), (14, .int .i64 (i : Int))], .pointer (some ⟨g, off + i * 13, none⟩), true⟩, ⟨11, [(22, .slice (some ⟨g, off, none⟩) l.length cap), (23, .int .i64 (i : Int))], .pointer (some ⟨g, off + i * 13, none⟩), (!(decide ((60 : Int) < (c.nm.length : Int))) && true)⟩]⟩ [(0, .slice (some ⟨g, off, none⟩) l.length cap), (3, .int .i64 (i : Int)), (30, .bool (cond (decide ((60 : Int) < (c.nm.length : Int))) true (decide ((400 : Int) < (c.txt.length : Int)))))] (by kernel_rfl) (by kernel_rfl) (by kernel_rfl)
      (fun e he => by rw [List.mem_singleton.1 he]; exact ⟨hg4, hr4⟩) (fun sp hsp => ?_) (fun X => by kernel_rfl) (by kernel_rfl) fun w5 E5 b5 => ?_
    · simp only [List.mem_cons, List.not_mem_nil, or_false] at hsp
      rcases hsp with rfl | rfl
      · refine spec_op fun _ E w _ => ?_
        exact exec_index (sz := 13) (cap := cap) 50 (.tmp 13) (.tmp 14) (by kernel_rfl) (by kernel_rfl) (by kernel_rfl) hlt Tryz.underlying50 (by kernel_rfl)
      · refine spec_op fun _ E w _ => ?_
        exact exec_index (sz := 13) (cap := cap) 50 (.tmp 22) (.tmp 23) (by kernel_rfl) (by kernel_rfl) (by kernel_rfl) hlt Tryz.underlying50 (by kernel_rfl)
    rw [hbad]
    have B5 := B4.trans (b5.mono B4.size)
    have hbe : bad = !(decide (c.nm.length ≤ 60) && decide (c.txt.length ≤ 400)) := by
      rw [← hbad]
      have e1 : decide ((60 : Int) < (c.nm.length : Int)) = !(decide (c.nm.length ≤ 60)) := by rw [← decide_not]; exact decide_eq_decide.2 (by omega)
      have e2 : decide ((400 : Int) < (c.txt.length : Int)) = !(decide (c.txt.length ≤ 400)) := by rw [← decide_not]; exact decide_eq_decide.2 (by omega)
      rw [e1, e2]
      cases decide (c.nm.length ≤ 60) <;> cases decide (c.txt.length ≤ 400) <;> rfl
    refine at_run 60 (tailT tSm3) w5.heap.size [] [] tSm4 [(0, .slice (some ⟨g, off, none⟩) l.length cap), (3, .int .i64 (i : Int)), (30, .bool bad)] w5.heap.size [] (lies_nil w5) (by kernel_rfl) fun w6 E6 hL6 hK6 => ?_
    have B6 := B5.trans ((hK6.below (Nat.le_refl _) (fun k hk => by cases hk) : Below w5.heap.size w5 w6).mono B5.size)
    have hgood : (decide (c.nm.length ≤ 60) && decide (c.txt.length ≤ 400)) = !bad := by rw [hbe, Bool.not_not]
    rw [hgood] at hsm
    refine at_cond bad (by kernel_rfl) (fun hb => ?_) (fun hb => ?_)
    · rw [hb] at hsm
      have hb' : smallL l = false := by simpa using hsm
      rw [hb']
      exact at_endT (fn := Tryz.f20) 60 (.bool false) (by kernel_rfl) (by kernel_rfl) fun w7 B7 => ⟨rfl, B6.trans (B7.mono B6.size)⟩
    · rw [hb] at hsm
      have hwi : IntKind.i64.wrap ((i : Int) + 1) = ((i + 1 : Nat) : Int) := by rw [IntWalk.i64_in _ (by omega)]; omega
      refine at_run 60 (elseT tSm4) w6.heap.size [] [] (againT tSm1) [(0, .slice (some ⟨g, off, none⟩) l.length cap), (3, .int .i64 (IntKind.i64.wrap ((i : Int) + 1)))] w6.heap.size [] (lies_nil w6) (by kernel_rfl) fun w7 E7 hL7 hK7 => ?_
      rw [hwi]
      have B7 := B6.trans ((hK7.below (Nat.le_refl _) (fun k hk => by cases hk) : Below w6.heap.size w6 w7).mono B6.size)
      refine hagain _ _ ⟨i + 1, E7, by omega, rfl, by simpa using hsm, B7⟩ ?_
      show l.length - idxOf (.int .i64 ((i + 1 : Nat) : Int)) < l.length - idxOf (.int .i64 (i : Int))
      simp only [idxOf]
      omega
  · have hie : i = l.length := by have := of_decide_eq_false hff; omega
    subst hie
    have hb' : smallL l = true := by rw [hsm]; simp
    rw [hb']
    exact at_endT (fn := Tryz.f20) 60 (.bool true) (by kernel_rfl) (by kernel_rfl) fun w7 B7 => ⟨rfl, B3.trans (B7.mono B3.size)⟩
end Go.Proofs.YtdcbnkimjhefkaaGreatDoor

namespace Go.Proofs.YtdcbnkimjhefkaaGreatDoor
set_option maxRecDepth 100000 in
theorem awake_run : (evalK Tryz.prog orcC (drawK Tryz.prog orcC) 60 12 [] H0).map (·.1) = some (.bool true) := by kernel_rfl
end Go.Proofs.YtdcbnkimjhefkaaGreatDoor

namespace Go.Proofs
open Go.Shelf
def Tryz.cc_ren : Go.Shelf.Ren := ⟨fun | 240 => 68 | 276 => 115 | n => n, fun | 0 => 0 | 3 => 3 | 4 => 4 | 5 => 5 | 9 => 9 | 20 => 20 | 37 => 68 | 70 => 87 | 72 => 89 | 164 => 196 | n => n, fun | n => n⟩
theorem Tryz.cc240 : Go.Proofs.Lays.n240 Tryz.prog Tryz.cc_ren := {
  mixed := by kernel_rfl
  f240 := Tryz.func68.trans (congrArg some (by kernel_rfl))
  f276 := Tryz.func115.trans (congrArg some (by kernel_rfl))
  t0 := Tryz.underlying0
  a0 := Tryz.isAgg0
  z0 := Tryz.sizeOf0
  v0 := Tryz.zeroValue0
  t4 := Tryz.underlying4
  a4 := Tryz.isAgg4
  z4 := Tryz.sizeOf4
  v4 := Tryz.zeroValue4
  t9 := Tryz.underlying9
  a9 := Tryz.isAgg9
  z9 := Tryz.sizeOf9
  v9 := Tryz.zeroValue9
  t20 := Tryz.underlying20
  a20 := Tryz.isAgg20
  z20 := Tryz.sizeOf20
  v20 := Tryz.zeroValue20
  t70 := Tryz.underlying87
  a70 := Tryz.isAgg87
  z70 := Tryz.sizeOf87
  v70 := Tryz.zeroValue87
  t72 := Tryz.underlying89
  a72 := Tryz.isAgg89
  z72 := Tryz.sizeOf89
  v72 := Tryz.zeroValue89
  t164 := Tryz.underlying196
  a164 := Tryz.isAgg196
  z164 := Tryz.sizeOf196
  v164 := Tryz.zeroValue196 }
theorem Tryz.ccX : Builder.X72 Tryz.prog Tryz.cc_ren := {
  sizeBuilder := by kernel_rfl
  liesBuilder := by kernel_rfl }
open Go.RowKit in
theorem Tryz.copyCheck_used (b : Nat) (w : World) (h : w.cell? ⟨b, 0, none⟩ = some (.pointer (some ⟨b, 0, none⟩))) : Calls Tryz.prog 68 #[.pointer (some ⟨b, 0, none⟩)] w fun e w' => e = .returned (.tuple #[]) ∧ w' = w := Any.Builder_copyCheck_used Tryz.cc240 Tryz.ccX b w h
open Go.RowKit in
theorem Tryz.copyCheck_fresh (b : Nat) (w : World) (h0 : w.cell? ⟨b, 0, none⟩ = some (.pointer none)) (hsh : w.shape? b = some (89, 2)) (hfz : w.frozen? ⟨b, 0, none⟩ = false) : Calls Tryz.prog 68 #[.pointer (some ⟨b, 0, none⟩)] w fun e w' => e = .returned (.tuple #[]) ∧ w' = w.setCell ⟨b, 0, none⟩ (.pointer (some ⟨b, 0, none⟩)) := Any.Builder_copyCheck_fresh Tryz.cc240 Tryz.ccX b w h0 hsh hfz
end Go.Proofs

namespace Go.Proofs
open Go.Shelf Go.RowKit
set_option maxHeartbeats 1000000 in
set_option maxRecDepth 100000 in
theorem Tryz.bstring_any (b g m : Nat) (l : List UInt8) (w : World) (hc : w.cell? ⟨b, 1, none⟩ = some (.slice (some ⟨g, 0, none⟩) l.length m)) (h0 : l ≠ []) (hm : l.length ≤ m) (hb : ∀ (j : Nat) x, l[j]? = some x → w.cell? ⟨g, j, none⟩ = some (.int .u8 (x.toNat : Int))) (hs : ∃ sz, w.shape? g = some (5, sz) ∧ l.length ≤ sz) (h63 : l.length ≤ 9223372036854775807) :
    Calls Tryz.prog 38 #[.pointer (some ⟨b, 0, none⟩)] w fun e w' => e = .returned (.string ⟨⟨l⟩⟩) ∧ w' = w.drew.freeze ⟨g, 0, none⟩ l.length := by
  have mixed : Tryz.prog.follows .mixedOrders = true := by kernel_rfl
  have hl0 : l.length ≠ 0 := by simpa using h0
  obtain ⟨sz, hs1, hs2⟩ := hs
  have c1 : w.drew.cell? ⟨b, 1, none⟩ = some (.slice (some ⟨g, 0, none⟩) l.length m) := hc
  have hSD : (Builtin.unsafeSliceData_ #[68] 128 #[.slice (some ⟨g, 0, none⟩) l.length m]).run Tryz.prog w.drew = .ok (.pointer (some ⟨g, 0, none⟩)) w.drew :=
    Lib.run_unsafeSliceData_row _ _ _ _ _ _ (by omega)
  have hUS : (Builtin.unsafeString_ #[128, 3] 9 #[.pointer (some ⟨g, 0, none⟩), .int .i64 l.length]).run Tryz.prog w.drew = .ok (.string ⟨l.toArray⟩) (w.drew.freeze ⟨g, 0, none⟩ l.length) := by
    refine Lib.run_unsafeString_row w.drew 128 3 9 5 Tryz.underlying128 (by kernel_rfl) g sz hs1 l h0 hs2 h63 ?_
    intro j x hx
    have := hb j x hx
    cases j with
    | zero => exact this
    | succ j => show w.cell? ⟨g, 0 + (j + 1), none⟩ = _; rw [Nat.zero_add]; exact this
  go_enter Tryz.func38, Tryz.ntmps38
  go_wp2
  go_region_o
  all_goals (go_wp2; go_ret; exact ⟨rfl, rfl⟩)
end Go.Proofs

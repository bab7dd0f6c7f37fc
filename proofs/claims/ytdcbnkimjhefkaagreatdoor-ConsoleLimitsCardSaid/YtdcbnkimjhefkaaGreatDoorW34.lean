/-
  What is printed is read back.
  payrollref46.Same.
  The walk of ConsoleReturns.
  The longest script: 8192 releases.
  Appending a string to bytes, in the engine.
-/
import Derived.Test.YtdcbnkimjhefkaaGreatDoorW32
import Derived.Test.YtdcbnkimjhefkaaGreatDoorW33
import Derived.Test.YtdcbnkimjhefkaaGreatDoorW29
import Derived.Test.YtdcbnkimjhefkaaGreatDoorW26
import Derived.Lib.AppendStr
namespace Go.Proofs.YtdcbnkimjhefkaaGreatDoor
open Go.RowKit
set_option maxRecDepth 100000
theorem find_word {F : Form} (hF : F ∈ forms) : forms.find? (wordIs F.word) = some F := by
  unfold forms at hF
  simp only [List.mem_cons, List.not_mem_nil, or_false] at hF
  rcases hF with rfl | rfl | rfl | rfl | rfl | rfl | rfl | rfl | rfl | rfl | rfl | rfl | rfl | rfl
  all_goals kernel_rfl
theorem word_free {F : Form} (hF : F ∈ forms) : ∀ x ∈ F.word, x ≠ 32 ∧ x ≠ 10 := by
  have h : forms.all (fun F => F.word.all fun x => !(x.toNat == 32) && !(x.toNat == 10)) = true := by kernel_rfl
  intro x hx
  have := List.all_eq_true.1 (List.all_eq_true.1 h F hF) x hx
  simp only [Bool.and_eq_true, Bool.not_eq_true', beq_eq_false_iff_ne] at this
  exact ⟨fun e => this.1 (by rw [e]; rfl), fun e => this.2 (by rw [e]; rfl)⟩
structure Good (c : Cmd) (F : Form) : Prop where
  mem : F ∈ forms
  fk : c.fk = F.fact
  ok : okL c F.letters = true
  left : restP c F.letters = { Cmd.of F with txt := c.txt }
  txt : F.fact ≠ 5 → c.txt = []
  lined : F.fact = 5 → linedP c.txt = true
theorem good_of {c : Cmd} (h : okC c = true) : ∃ F, formOf c = some F ∧ Good c F := by
  unfold okC at h
  cases hf : formOf c with
  | none => rw [hf] at h; cases h
  | some F =>
    rw [hf] at h
    replace h : ((okL c F.letters && (F.fact != 5 || linedP c.txt)) && decide (leftP c F = Cmd.of F)) = true := h
    simp only [Bool.and_eq_true, decide_eq_true_eq] at h
    obtain ⟨⟨h1, h2⟩, h3⟩ := h
    have hfi : formIs c F = true := List.find?_some hf
    have hfk : c.fk = F.fact := by
      unfold formIs at hfi
      rw [Bool.and_eq_true] at hfi
      exact (beq_iff_eq.1 hfi.2).symm
    have hrt := rest_own_txt F.letters c
    refine ⟨F, rfl, List.mem_of_find?_eq_some hf, hfk, h1, ?_, fun h5 => ?_, fun h5 => ?_⟩
    · unfold leftP at h3
      split at h3
      · rw [← h3, ← hrt]
      · have : c.txt = [] := by rw [← hrt, h3]; rfl
        rw [h3, this]
        rfl
    · unfold leftP at h3
      rw [if_neg h5] at h3
      rw [← hrt, h3]
      rfl
    · rw [h5] at h2
      simpa using h2
def lineP (c : Cmd) (F : Form) : List UInt8 := F.word ++ itemsP c F.letters
theorem line_join (c : Cmd) (F : Form) : lineP c F = joinS (F.word :: F.letters.map fun (x : UInt8) => itemP x.toNat c) := by
  show F.word ++ (F.letters.flatMap fun (x : UInt8) => 32 :: itemP x.toNat c) = F.word ++ ((F.letters.map fun (x : UInt8) => itemP x.toNat c).flatMap fun w => 32 :: w)
  rw [List.flatMap_map]
theorem item_okP {c : Cmd} {F : Form} (G : Good c F) {w : List UInt8} (hw : w ∈ F.letters.map fun (x : UInt8) => itemP x.toNat c) : ∀ x ∈ w, x ≠ 32 ∧ x ≠ 10 := by
  obtain ⟨a, ha, rfl⟩ := List.mem_map.1 hw
  exact item_free (List.all_eq_true.1 G.ok a ha)
theorem line_free {c : Cmd} {F : Form} (G : Good c F) : ∀ x ∈ lineP c F, x ≠ 10 := by
  intro x hx
  unfold lineP itemsP at hx
  rcases List.mem_append.1 hx with h | h
  · exact (word_free G.mem x h).2
  · obtain ⟨a, ha, h⟩ := List.mem_flatMap.1 h
    rcases List.mem_cons.1 h with rfl | h
    · decide
    · exact (item_free (List.all_eq_true.1 G.ok a ha) x h).2
theorem line_reads {c : Cmd} {F : Form} (G : Good c F) : readL (lineP c F) = some { c with txt := [] } := by
  have hw : wordsP (lineP c F) = F.word :: F.letters.map fun (x : UInt8) => itemP x.toNat c := by
    rw [line_join]
    refine words_of (fun w hw x hx => ?_) (by simp)
    rcases List.mem_cons.1 hw with rfl | hw
    · exact (word_free G.mem x hx).1
    · exact (item_okP G hw x hx).1
  unfold readL
  rw [hw]
  show (match forms.find? (wordIs F.word) with
    | none => none
    | some F' => if (F.letters.map fun (x : UInt8) => itemP x.toNat c).length = F'.letters.length then letsP F'.letters (F.letters.map fun (x : UInt8) => itemP x.toNat c) (Cmd.of F') else none) = _
  rw [find_word G.mem]
  show (if (F.letters.map fun (x : UInt8) => itemP x.toNat c).length = F.letters.length then letsP F.letters (F.letters.map fun (x : UInt8) => itemP x.toNat c) (Cmd.of F) else none) = _
  rw [if_pos (List.length_map _), forth_any G.mem G.ok G.left]
theorem cutP_free (d : UInt8) (r : List UInt8) : ∀ x : List UInt8, (∀ c ∈ x, c ≠ d) → cutP d (x ++ d :: r) = (x, r, true)
  | [], _ => by show cutP d (d :: r) = _; unfold cutP; rw [if_pos rfl]
  | c :: x, h => by
    rw [List.cons_append, cutP, if_neg (h c (by simp)), cutP_free d r x (fun y hy => h y (List.mem_cons_of_mem _ hy))]
theorem cutP_app (d : UInt8) (z : List UInt8) : ∀ s : List UInt8, (cutP d s).2.2 = true → cutP d (s ++ z) = ((cutP d s).1, (cutP d s).2.1 ++ z, true)
  | [], h => by cases h
  | c :: r, h => by
    rw [List.cons_append]
    unfold cutP at h ⊢
    split
    · rfl
    · rename_i hc
      rw [if_neg hc] at h
      rw [cutP_app d z r h]
theorem splitL_none (d : UInt8) : ∀ s : List UInt8, (cutP d s).2.2 = false → splitL d s = ([], s)
  | [], _ => rfl
  | c :: r, h => by
    unfold cutP at h
    split at h
    · cases h
    · rename_i hc
      rw [splitL, if_neg hc, splitL_none d r h]
theorem agr_back : ∀ (n : Nat) (t acc r : List UInt8) (k : Nat), t.length < n → linedP t = true → ∃ k', agrB n (t ++ ([101, 110, 100, 10] ++ r)) acc k = (some (acc ++ t, r), k')
  | 0, t, _, _, _, h, _ => by omega
  | n + 1, t, acc, r, k, hn, hl => by
    rw [linedP_lines, Bool.and_eq_true] at hl
    obtain ⟨h1, h2⟩ := hl
    cases hf : (cutP 10 t).2.2 with
    | false =>
      rw [splitL_none 10 t hf] at h1
      have : t = [] := List.isEmpty_iff.1 h1
      subst this
      refine ⟨k + 1, ?_⟩
      have hc : cutP 10 ([] ++ ([101, 110, 100, 10] ++ r)) = (endW, r, true) := cutP_free 10 r endW (by decide)
      rw [agrB, hc]
      simp
    | true =>
      have hs := cutP_some 10 t hf
      have hlt := cutP_lt 10 t hf
      have hcut := splitL_cut 10 (cutP 10 t).2.1 t hf
      rw [← hs] at hcut
      rw [hcut] at h1 h2
      simp only [List.all_cons, Bool.and_eq_true, decide_eq_true_eq] at h2
      obtain ⟨k', hk⟩ := agr_back n (cutP 10 t).2.1 (acc ++ ((cutP 10 t).1 ++ [10])) r (k + 1) (by omega) (by rw [linedP_lines, Bool.and_eq_true]; exact ⟨h1, h2.2⟩)
      refine ⟨k', ?_⟩
      rw [agrB, cutP_app 10 _ t hf]
      show (if true = true then (if (cutP 10 t).1 = endW then _ else agrB n ((cutP 10 t).2.1 ++ ([101, 110, 100, 10] ++ r)) (acc ++ ((cutP 10 t).1 ++ [10])) (k + 1)) else _) = _
      rw [if_pos rfl, if_neg h2.1, hk]
      have : acc ++ ((cutP 10 t).1 ++ [10]) ++ (cutP 10 t).2.1 = acc ++ t := by
        conv => rhs; rw [hs]
        simp
      rw [this]
theorem parB_step {n : Nat} {s a r : List UInt8} {ln : Nat} {acc : List Cmd} {c : Cmd} (hs : s ≠ []) (hc : cutP 10 s = (a, r, true)) (hr : readL a = some c) :
    parB (n + 1) s ln acc = if c.fk = 5 then (match agrB n r [] 0 with
      | (none, k) => (.error (ln + k) : Except Nat (List Cmd))
      | (some (t, r), k) => parB n r (ln + k + 1) (acc ++ [{ c with txt := t }]))
      else parB n r (ln + 1) (acc ++ [c]) := by
  rw [parB, if_neg hs]
  simp only [hc, hr, if_true]
  rfl
/-- One command is read back. -/
theorem par_one {c : Cmd} (h : okC c = true) (n : Nat) (r : List UInt8) (ln : Nat) (acc : List Cmd) (hn : (textC c ++ r).length < n + 1) : ∃ ln', parB (n + 1) (textC c ++ r) ln acc = parB n r ln' (acc ++ [c]) := by
  obtain ⟨F, hf, G⟩ := good_of h
  have ht : textC c = lineP c F ++ [10] ++ (if F.fact = 5 then c.txt ++ [101, 110, 100, 10] else []) := by
    unfold textC
    rw [hf]
    rfl
  by_cases h5 : F.fact = 5
  · rw [if_pos h5] at ht
    have e : textC c ++ r = lineP c F ++ 10 :: (c.txt ++ ([101, 110, 100, 10] ++ r)) := by rw [ht]; simp
    have hlen : c.txt.length < n := by
      rw [e] at hn
      simp at hn
      omega
    rw [e]
    have hcut := cutP_free 10 (c.txt ++ ([101, 110, 100, 10] ++ r)) (lineP c F) (line_free G)
    obtain ⟨k', hk⟩ := agr_back n c.txt [] r 0 hlen (G.lined h5)
    refine ⟨ln + k' + 1, ?_⟩
    rw [parB_step (by simp) hcut (line_reads G), if_pos (G.fk.trans h5), hk]
    rfl
  · rw [if_neg h5, List.append_nil] at ht
    have e : textC c ++ r = lineP c F ++ 10 :: r := by rw [ht]; simp
    rw [e]
    have hcut := cutP_free 10 r (lineP c F) (line_free G)
    refine ⟨ln + 1, ?_⟩
    have hc : ({ c with txt := [] } : Cmd) = c := by
      have := G.txt h5
      cases c
      simp only at this
      subst this
      rfl
    rw [parB_step (by simp) hcut (line_reads G), hc, if_neg (by rw [G.fk]; exact h5)]
theorem par_back : ∀ (l : List Cmd) (n ln : Nat) (acc : List Cmd), (∀ c ∈ l, okC c = true) → (l.flatMap textC).length < n → parB n (l.flatMap textC) ln acc = .ok (acc ++ l)
  | [], n, ln, acc, _, _ => by
    rw [List.append_nil]
    cases n with
    | zero => rfl
    | succ n => show parB (n + 1) [] ln acc = _; rw [parB, if_pos rfl]
  | c :: l, n, ln, acc, h, hn => by
    obtain ⟨n, rfl⟩ : ∃ m, n = m + 1 := ⟨n - 1, by omega⟩
    rw [List.flatMap_cons] at hn ⊢
    have hp : 0 < (textC c).length := by
      obtain ⟨F, hf, _⟩ := good_of (h c (by simp))
      unfold textC
      rw [hf]
      show 0 < (F.word ++ itemsP c F.letters ++ [10] ++ _).length
      simp only [List.length_append, List.length_singleton]
      omega
    obtain ⟨ln', e⟩ := par_one (h c (by simp)) n (l.flatMap textC) ln acc hn
    rw [List.length_append] at hn
    rw [e, par_back l n ln' (acc ++ [c]) (fun x hx => h x (List.mem_cons_of_mem _ hx)) (by omega)]
    simp
theorem fmt_some : ∀ (l : List Cmd) (acc s : List UInt8), fmtS acc l = some s → (∀ c ∈ l, okC c = true) ∧ s = acc ++ l.flatMap textC
  | [], acc, s, h => by
    obtain rfl : acc = s := Option.some.inj h
    exact ⟨fun c hc => (by cases hc), by simp⟩
  | c :: l, acc, s, h => by
    unfold fmtS at h
    split at h
    · rename_i hc
      obtain ⟨h1, h2⟩ := fmt_some l _ s h
      exact ⟨fun x hx => by
        rcases List.mem_cons.1 hx with rfl | hx
        · exact hc.1
        · exact h1 x hx, by rw [h2]; simp⟩
    · cases h
/-- What is printed is read back. -/
theorem fmt_par {s : List UInt8} {l : List Cmd} (h : fmtS [] l = some s) : parB (s.length + 1) s 1 [] = .ok l := by
  obtain ⟨h1, h2⟩ := fmt_some l [] s h
  rw [List.nil_append] at h2
  subst h2
  exact par_back l _ 1 [] h1 (Nat.lt_succ_self _)
end Go.Proofs.YtdcbnkimjhefkaaGreatDoor

namespace Go.Proofs.YtdcbnkimjhefkaaGreatDoor
open Go.RowKit
set_option maxRecDepth 100000
end Go.Proofs.YtdcbnkimjhefkaaGreatDoor

namespace Go.Proofs.YtdcbnkimjhefkaaGreatDoor
open Go.RowKit
set_option maxRecDepth 100000
/-- An own row of commands is a row of commands. -/
theorem own_cmds {w : World} {base : Nat} {v : Value} {l : List Cmd} (h : w.ownsRow base 64 13 v l.length (l.flatMap Cmd.cells)) : CmdsAt w w.heap.size v l := by
  obtain ⟨_, h⟩ := h
  rcases h with ⟨rfl, h0⟩ | ⟨g, cap, cur, rfl, _, hgb, hnc, hcm, hcs, htake⟩
  · refine ⟨none, 0, by rw [h0], fun hne => absurd (List.length_eq_zero_iff.1 h0) hne⟩
  refine ⟨some ⟨g, 0, none⟩, cap, rfl, fun _ => ⟨g, 0, rfl, heap_lt hgb, fun i hi j u hu => ?_⟩⟩
  unfold World.cell?
  simp only [hgb]
  have hj : j < 13 := (List.getElem?_eq_some_iff.1 hu).1
  have h2 : (l.flatMap Cmd.cells)[0 + i * 13 + j]? = some u := by
    rw [Nat.zero_add]
    have key : ∀ (l : List Cmd) (i : Nat) (hi : i < l.length), (l.flatMap Cmd.cells)[i * 13 + j]? = (l[i]).cells[j]? := by
      intro l
      induction l with
      | nil => intro i hi; exact absurd hi (Nat.not_lt_zero _)
      | cons c l ih =>
        intro i hi
        have hcl : c.cells.length = 13 := rfl
        cases i with
        | zero =>
          rw [List.flatMap_cons, Nat.zero_mul, Nat.zero_add, List.getElem?_append_left (by rw [hcl]; exact hj)]
          rfl
        | succ i =>
          rw [List.flatMap_cons, List.getElem?_append_right (by rw [hcl]; omega), hcl]
          have e : (i + 1) * 13 + j - 13 = i * 13 + j := by omega
          rw [e, ih i (by simpa using hi)]
          rfl
    rw [key l i hi]; exact hu
  rw [← htake] at h2
  rw [List.getElem?_take] at h2
  split at h2
  · rw [Array.getElem?_toList] at h2
    simpa using h2
  · cases h2
variable {w0 : World}
end Go.Proofs.YtdcbnkimjhefkaaGreatDoor

namespace Go.Proofs.YtdcbnkimjhefkaaGreatDoor
open Go.RowKit
set_option maxRecDepth 100000
def relC : Cmd := ⟨3, 0, 0, 0, [], 0, 0, 0, [], 0, 0, 0, 0⟩
def payC : Cmd := ⟨4, 0, 0, 0, [], 0, 0, 0, [], 0, 0, 0, 0⟩
/-- 'release' and a new line. -/
def relT : List UInt8 := [114, 101, 108, 101, 97, 115, 101, 10]
theorem rel_ok : okC relC = true := by kernel_rfl
theorem rel_text : textC relC = relT := by kernel_rfl
theorem pay_text : textC payC = [112, 97, 121, 10] := by kernel_rfl
/-- So many lines of it. -/
def relS : Nat → List UInt8
  | 0 => []
  | n + 1 => relS n ++ relT
theorem relS_len : ∀ n, (relS n).length = 8 * n
  | 0 => rfl
  | n + 1 => by
    show (relS n ++ relT).length = _
    rw [List.length_append, relS_len n]
    show 8 * n + 8 = _
    omega
theorem relS_flat : ∀ n, (List.replicate n relC).flatMap textC = relS n
  | 0 => rfl
  | n + 1 => by
    rw [List.replicate_succ', List.flatMap_append, relS_flat n, List.flatMap_singleton, rel_text]
    rfl
theorem rel_fmt (n : Nat) (hn : n ≤ 8192) : fmtS [] (List.replicate n relC) = some (relS n) := by
  have h := fmt_all (List.replicate n relC) [] (fun c hc => by rw [(List.mem_replicate.1 hc).2]; exact rel_ok) (by rw [List.nil_append, relS_flat, relS_len]; omega)
  rw [h, List.nil_append, relS_flat]
theorem rel_par (n : Nat) (hn : n ≤ 8192) : parB ((relS n).length + 1) (relS n) 1 [] = .ok (List.replicate n relC) := fmt_par (rel_fmt n hn)
theorem fmt_le : ∀ (l : List Cmd) (acc s : List UInt8), acc.length ≤ 65536 → fmtS acc l = some s → s.length ≤ 65536
  | [], acc, s, ha, h => by
    obtain rfl : acc = s := Option.some.inj h
    exact ha
  | c :: l, acc, s, _, h => by
    unfold fmtS at h
    split at h
    · rename_i hc
      exact fmt_le l _ s hc.2 h
    · cases h
/-- One more command is too many. -/
theorem rel_pay : fmtS [] (List.replicate 8192 relC ++ [payC]) = none := by
  cases h : fmtS [] (List.replicate 8192 relC ++ [payC]) with
  | none => rfl
  | some s =>
    have h1 := (fmt_some _ _ _ h).2
    have h2 := fmt_le _ [] s (by decide) h
    rw [List.nil_append, List.flatMap_append, relS_flat, List.flatMap_singleton, pay_text] at h1
    rw [h1, List.length_append, relS_len] at h2
    simp at h2
theorem rel_wf : ∀ c ∈ List.replicate 8192 relC ++ [payC], c.Wf := by
  have h1 : relC.Wf := ⟨⟨by decide, by decide⟩, zero_in, zero_in, zero_in, zero_in, zero_in, zero_in, zero_in, zero_in, zero_in, by decide, by decide, by decide⟩
  have h2 : payC.Wf := ⟨⟨by decide, by decide⟩, zero_in, zero_in, zero_in, zero_in, zero_in, zero_in, zero_in, zero_in, zero_in, by decide, by decide, by decide⟩
  intro c hc
  rcases List.mem_append.1 hc with hc | hc
  · rw [(List.mem_replicate.1 hc).2]
    exact h1
  · rw [List.mem_singleton.1 hc]
    exact h2
end Go.Proofs.YtdcbnkimjhefkaaGreatDoor

namespace Go.Proofs.YtdcbnkimjhefkaaGreatDoor
open Go.RowKit
section
variable {P : Program} {f : FuncId} {R : Ending → World → Prop}
theorem at_appendS {n : Nat} {td : List Item} {E : Nat → Value} {w : World} (o : Oper) (hc : curOp n E td = some o) (sl x : Operand) (t u : TypeId)
    (ho : o.op = .call { callee := .builtin .append, args := #[sl, x], argTypes := #[t, u] })
    (base : Nat) (e : TypeId) (i : TypeInfo) (ht : P.underlying t = some (.slice e)) (hu : P.underlying u = some .string) (hi : P.info? e = some i) (hz : i.zero = some (.int .u8 0)) (hsize : i.size = 1) (hby : i.bytes = 1)
    (v : Value) (k : Nat) (xs : List Value) (hs : evE n E sl = v) (hown : w.ownsRow base e 1 v k xs) (s : ByteArray) (hx : evE n E x = .string s)
    (h63 : k + s.size ≤ maxLen) (hbytes : k + s.size ≤ 140737488355328) (hbase : base ≤ w.heap.size)
    (h : ∀ v' w', w'.ownsRow base e 1 v' (k + s.size) (xs ++ Lib.strCells s) → w.grownBy w' v.ownBlock → At P f R (popOp td) (Fr n (updO E o.dst v')) w') : At P f R td (Fr n E) w := by
  obtain ⟨v', w', hr, h2, h3, _⟩ := Lib.run_append_own_string (P := P) w base t u o.type e i ht hu hi hz hsize hby v k xs hown s h63 hbytes hbase
  refine at_op o hc (v := v') (w' := w') ?_ (h v' w' h2 h3)
  unfold execOp
  simp only [ho, resolve, invoke, builtin, Sem.run_bind, Sem.run_pure, Result.andThen_ok, List.map_toArray, List.map_cons, List.map_nil, hs, hx, hr]
end
end Go.Proofs.YtdcbnkimjhefkaaGreatDoor

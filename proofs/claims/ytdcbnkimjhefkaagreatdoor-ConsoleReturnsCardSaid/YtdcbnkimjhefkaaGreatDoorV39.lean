/-
  What is printed is read back.
  payrollref46.Same.
  The walk of ConsoleReturns.
-/
import Derived.Test.YtdcbnkimjhefkaaGreatDoorV37
import Derived.Test.YtdcbnkimjhefkaaGreatDoorV38
import Derived.Test.YtdcbnkimjhefkaaGreatDoorV32
import Derived.Test.YtdcbnkimjhefkaaGreatDoorV36
namespace Go.Proofs.YtdcbnkimjhefkaaGreatDoor
open Go.RowKit
set_option maxRecDepth 100000
theorem find_word {F : Form} (hF : F ∈ forms) : forms.find? (wordIs F.word) = some F := by
  unfold forms at hF
  simp only [List.mem_cons, List.not_mem_nil, or_false] at hF
  rcases hF with rfl | rfl | rfl | rfl | rfl | rfl | rfl | rfl | rfl | rfl | rfl | rfl | rfl | rfl
  all_goals kernel_rfl
theorem word_free {F : Form} (hF : F ∈ forms) : ∀ x ∈ F.word, x ≠ 32 ∧ x ≠ 10 := by
  have h : forms.all (fun F => F.word.all fun x => !(x.toNat == 32) && !(x.toNat == 10)) = true := by kernel_rfl
  intro x hx
  have := List.all_eq_true.1 (List.all_eq_true.1 h F hF) x hx
  simp only [Bool.and_eq_true, Bool.not_eq_true', beq_eq_false_iff_ne] at this
  exact ⟨fun e => this.1 (by rw [e]; rfl), fun e => this.2 (by rw [e]; rfl)⟩
structure Good (c : Cmd) (F : Form) : Prop where
  mem : F ∈ forms
  fk : c.fk = F.fact
  ok : okL c F.letters = true
  left : restP c F.letters = { Cmd.of F with txt := c.txt }
  txt : F.fact ≠ 5 → c.txt = []
  lined : F.fact = 5 → linedP c.txt = true
theorem good_of {c : Cmd} (h : okC c = true) : ∃ F, formOf c = some F ∧ Good c F := by
  unfold okC at h
  cases hf : formOf c with
  | none => rw [hf] at h; cases h
  | some F =>
    rw [hf] at h
    replace h : ((okL c F.letters && (F.fact != 5 || linedP c.txt)) && decide (leftP c F = Cmd.of F)) = true := h
    simp only [Bool.and_eq_true, decide_eq_true_eq] at h
    obtain ⟨⟨h1, h2⟩, h3⟩ := h
    have hfi : formIs c F = true := List.find?_some hf
    have hfk : c.fk = F.fact := by
      unfold formIs at hfi
      rw [Bool.and_eq_true] at hfi
      exact (beq_iff_eq.1 hfi.2).symm
    have hrt := rest_own_txt F.letters c
    refine ⟨F, rfl, List.mem_of_find?_eq_some hf, hfk, h1, ?_, fun h5 => ?_, fun h5 => ?_⟩
    · unfold leftP at h3
      split at h3
      · rw [← h3, ← hrt]
      · have : c.txt = [] := by rw [← hrt, h3]; rfl
        rw [h3, this]
        rfl
    · unfold leftP at h3
      rw [if_neg h5] at h3
      rw [← hrt, h3]
      rfl
    · rw [h5] at h2
      simpa using h2
def lineP (c : Cmd) (F : Form) : List UInt8 := F.word ++ itemsP c F.letters
theorem line_join (c : Cmd) (F : Form) : lineP c F = joinS (F.word :: F.letters.map fun (x : UInt8) => itemP x.toNat c) := by
  show F.word ++ (F.letters.flatMap fun (x : UInt8) => 32 :: itemP x.toNat c) = F.word ++ ((F.letters.map fun (x : UInt8) => itemP x.toNat c).flatMap fun w => 32 :: w)
  rw [List.flatMap_map]
theorem item_okP {c : Cmd} {F : Form} (G : Good c F) {w : List UInt8} (hw : w ∈ F.letters.map fun (x : UInt8) => itemP x.toNat c) : ∀ x ∈ w, x ≠ 32 ∧ x ≠ 10 := by
  obtain ⟨a, ha, rfl⟩ := List.mem_map.1 hw
  exact item_free (List.all_eq_true.1 G.ok a ha)
theorem line_free {c : Cmd} {F : Form} (G : Good c F) : ∀ x ∈ lineP c F, x ≠ 10 := by
  intro x hx
  unfold lineP itemsP at hx
  rcases List.mem_append.1 hx with h | h
  · exact (word_free G.mem x h).2
  · obtain ⟨a, ha, h⟩ := List.mem_flatMap.1 h
    rcases List.mem_cons.1 h with rfl | h
    · decide
    · exact (item_free (List.all_eq_true.1 G.ok a ha) x h).2
theorem line_reads {c : Cmd} {F : Form} (G : Good c F) : readL (lineP c F) = some { c with txt := [] } := by
  have hw : wordsP (lineP c F) = F.word :: F.letters.map fun (x : UInt8) => itemP x.toNat c := by
    rw [line_join]
    refine words_of (fun w hw x hx => ?_) (by simp)
    rcases List.mem_cons.1 hw with rfl | hw
    · exact (word_free G.mem x hx).1
    · exact (item_okP G hw x hx).1
  unfold readL
  rw [hw]
  show (match forms.find? (wordIs F.word) with
    | none => none
    | some F' => if (F.letters.map fun (x : UInt8) => itemP x.toNat c).length = F'.letters.length then letsP F'.letters (F.letters.map fun (x : UInt8) => itemP x.toNat c) (Cmd.of F') else none) = _
  rw [find_word G.mem]
  show (if (F.letters.map fun (x : UInt8) => itemP x.toNat c).length = F.letters.length then letsP F.letters (F.letters.map fun (x : UInt8) => itemP x.toNat c) (Cmd.of F) else none) = _
  rw [if_pos (List.length_map _), forth_any G.mem G.ok G.left]
theorem cutP_free (d : UInt8) (r : List UInt8) : ∀ x : List UInt8, (∀ c ∈ x, c ≠ d) → cutP d (x ++ d :: r) = (x, r, true)
  | [], _ => by show cutP d (d :: r) = _; unfold cutP; rw [if_pos rfl]
  | c :: x, h => by
    rw [List.cons_append, cutP, if_neg (h c (by simp)), cutP_free d r x (fun y hy => h y (List.mem_cons_of_mem _ hy))]
theorem cutP_app (d : UInt8) (z : List UInt8) : ∀ s : List UInt8, (cutP d s).2.2 = true → cutP d (s ++ z) = ((cutP d s).1, (cutP d s).2.1 ++ z, true)
  | [], h => by cases h
  | c :: r, h => by
    rw [List.cons_append]
    unfold cutP at h ⊢
    split
    · rfl
    · rename_i hc
      rw [if_neg hc] at h
      rw [cutP_app d z r h]
theorem splitL_none (d : UInt8) : ∀ s : List UInt8, (cutP d s).2.2 = false → splitL d s = ([], s)
  | [], _ => rfl
  | c :: r, h => by
    unfold cutP at h
    split at h
    · cases h
    · rename_i hc
      rw [splitL, if_neg hc, splitL_none d r h]
theorem agr_back : ∀ (n : Nat) (t acc r : List UInt8) (k : Nat), t.length < n → linedP t = true → ∃ k', agrB n (t ++ ([101, 110, 100, 10] ++ r)) acc k = (some (acc ++ t, r), k')
  | 0, t, _, _, _, h, _ => by omega
  | n + 1, t, acc, r, k, hn, hl => by
    rw [linedP_lines, Bool.and_eq_true] at hl
    obtain ⟨h1, h2⟩ := hl
    cases hf : (cutP 10 t).2.2 with
    | false =>
      rw [splitL_none 10 t hf] at h1
      have : t = [] := List.isEmpty_iff.1 h1
      subst this
      refine ⟨k + 1, ?_⟩
      have hc : cutP 10 ([] ++ ([101, 110, 100, 10] ++ r)) = (endW, r, true) := cutP_free 10 r endW (by decide)
      rw [agrB, hc]
      simp
    | true =>
      have hs := cutP_some 10 t hf
      have hlt := cutP_lt 10 t hf
      have hcut := splitL_cut 10 (cutP 10 t).2.1 t hf
      rw [← hs] at hcut
      rw [hcut] at h1 h2
      simp only [List.all_cons, Bool.and_eq_true, decide_eq_true_eq] at h2
      obtain ⟨k', hk⟩ := agr_back n (cutP 10 t).2.1 (acc ++ ((cutP 10 t).1 ++ [10])) r (k + 1) (by omega) (by rw [linedP_lines, Bool.and_eq_true]; exact ⟨h1, h2.2⟩)
      refine ⟨k', ?_⟩
      rw [agrB, cutP_app 10 _ t hf]
      show (if true = true then (if (cutP 10 t).1 = endW then _ else agrB n ((cutP 10 t).2.1 ++ ([101, 110, 100, 10] ++ r)) (acc ++ ((cutP 10 t).1 ++ [10])) (k + 1)) else _) = _
      rw [if_pos rfl, if_neg h2.1, hk]
      have : acc ++ ((cutP 10 t).1 ++ [10]) ++ (cutP 10 t).2.1 = acc ++ t := by
        conv => rhs; rw [hs]
        simp
      rw [this]
theorem parB_step {n : Nat} {s a r : List UInt8} {ln : Nat} {acc : List Cmd} {c : Cmd} (hs : s ≠ []) (hc : cutP 10 s = (a, r, true)) (hr : readL a = some c) :
    parB (n + 1) s ln acc = if c.fk = 5 then (match agrB n r [] 0 with
      | (none, k) => (.error (ln + k) : Except Nat (List Cmd))
      | (some (t, r), k) => parB n r (ln + k + 1) (acc ++ [{ c with txt := t }]))
      else parB n r (ln + 1) (acc ++ [c]) := by
  rw [parB, if_neg hs]
  simp only [hc, hr, if_true]
  rfl
/-- One command is read back. -/
theorem par_one {c : Cmd} (h : okC c = true) (n : Nat) (r : List UInt8) (ln : Nat) (acc : List Cmd) (hn : (textC c ++ r).length < n + 1) : ∃ ln', parB (n + 1) (textC c ++ r) ln acc = parB n r ln' (acc ++ [c]) := by
  obtain ⟨F, hf, G⟩ := good_of h
  have ht : textC c = lineP c F ++ [10] ++ (if F.fact = 5 then c.txt ++ [101, 110, 100, 10] else []) := by
    unfold textC
    rw [hf]
    rfl
  by_cases h5 : F.fact = 5
  · rw [if_pos h5] at ht
    have e : textC c ++ r = lineP c F ++ 10 :: (c.txt ++ ([101, 110, 100, 10] ++ r)) := by rw [ht]; simp
    have hlen : c.txt.length < n := by
      rw [e] at hn
      simp at hn
      omega
    rw [e]
    have hcut := cutP_free 10 (c.txt ++ ([101, 110, 100, 10] ++ r)) (lineP c F) (line_free G)
    obtain ⟨k', hk⟩ := agr_back n c.txt [] r 0 hlen (G.lined h5)
    refine ⟨ln + k' + 1, ?_⟩
    rw [parB_step (by simp) hcut (line_reads G), if_pos (G.fk.trans h5), hk]
    rfl
  · rw [if_neg h5, List.append_nil] at ht
    have e : textC c ++ r = lineP c F ++ 10 :: r := by rw [ht]; simp
    rw [e]
    have hcut := cutP_free 10 r (lineP c F) (line_free G)
    refine ⟨ln + 1, ?_⟩
    have hc : ({ c with txt := [] } : Cmd) = c := by
      have := G.txt h5
      cases c
      simp only at this
      subst this
      rfl
    rw [parB_step (by simp) hcut (line_reads G), hc, if_neg (by rw [G.fk]; exact h5)]
theorem par_back : ∀ (l : List Cmd) (n ln : Nat) (acc : List Cmd), (∀ c ∈ l, okC c = true) → (l.flatMap textC).length < n → parB n (l.flatMap textC) ln acc = .ok (acc ++ l)
  | [], n, ln, acc, _, _ => by
    rw [List.append_nil]
    cases n with
    | zero => rfl
    | succ n => show parB (n + 1) [] ln acc = _; rw [parB, if_pos rfl]
  | c :: l, n, ln, acc, h, hn => by
    obtain ⟨n, rfl⟩ : ∃ m, n = m + 1 := ⟨n - 1, by omega⟩
    rw [List.flatMap_cons] at hn ⊢
    have hp : 0 < (textC c).length := by
      obtain ⟨F, hf, _⟩ := good_of (h c (by simp))
      unfold textC
      rw [hf]
      show 0 < (F.word ++ itemsP c F.letters ++ [10] ++ _).length
      simp only [List.length_append, List.length_singleton]
      omega
    obtain ⟨ln', e⟩ := par_one (h c (by simp)) n (l.flatMap textC) ln acc hn
    rw [List.length_append] at hn
    rw [e, par_back l n ln' (acc ++ [c]) (fun x hx => h x (List.mem_cons_of_mem _ hx)) (by omega)]
    simp
theorem fmt_some : ∀ (l : List Cmd) (acc s : List UInt8), fmtS acc l = some s → (∀ c ∈ l, okC c = true) ∧ s = acc ++ l.flatMap textC
  | [], acc, s, h => by
    obtain rfl : acc = s := Option.some.inj h
    exact ⟨fun c hc => (by cases hc), by simp⟩
  | c :: l, acc, s, h => by
    unfold fmtS at h
    split at h
    · rename_i hc
      obtain ⟨h1, h2⟩ := fmt_some l _ s h
      exact ⟨fun x hx => by
        rcases List.mem_cons.1 hx with rfl | hx
        · exact hc.1
        · exact h1 x hx, by rw [h2]; simp⟩
    · cases h
/-- What is printed is read back. -/
theorem fmt_par {s : List UInt8} {l : List Cmd} (h : fmtS [] l = some s) : parB (s.length + 1) s 1 [] = .ok l := by
  obtain ⟨h1, h2⟩ := fmt_some l [] s h
  rw [List.nil_append] at h2
  subst h2
  exact par_back l _ 1 [] h1 (Nat.lt_succ_self _)
end Go.Proofs.YtdcbnkimjhefkaaGreatDoor

namespace Go.Proofs.YtdcbnkimjhefkaaGreatDoor
open Go.RowKit
set_option maxRecDepth 100000
noncomputable def codeSame : Code := Tryz.f19.body.getD .skip
noncomputable def tSam0 : List Item := advT 60 [.code codeSame]
noncomputable def tSam1 : List Item := advT 60 (elseT tSam0)
noncomputable def tSam2 : List Item := advT 60 (bodyT tSam1)
noncomputable def tSam3 : List Item := advG (thenT tSam2)
noncomputable def tSam4 : List Item := advT 60 (tailT tSam3)
theorem same_any (l1 l2 : List Cmd) (v1 v2 : Value) (w : World) (h1 : ∀ c ∈ l1, c.Wf) (h2 : ∀ c ∈ l2, c.Wf) (hv1 : CmdsAt w w.heap.size v1 l1) (hv2 : CmdsAt w w.heap.size v2 l2) (hn1 : l1.length ≤ 9223372036854775806) (_hn2 : l2.length ≤ 9223372036854775806) :
    Calls Tryz.prog 19 #[v1, v2] w fun e w' => e = .returned (.bool (decide (l1 = l2))) ∧ Below w.heap.size w w' := by
  obtain ⟨a1, cap1, rfl, hc1⟩ := hv1
  obtain ⟨a2, cap2, rfl, hc2⟩ := hv2
  refine calls_at (args := [.slice a1 l1.length cap1, .slice a2 l2.length cap2]) (fn := Tryz.f19) (c := codeSame) (n := 26) (by kernel_rfl) (by kernel_rfl) (by kernel_rfl) (by kernel_rfl) ?_
  refine at_run 60 [.code codeSame] w.heap.size [] [] tSam0 [(0, .slice a1 l1.length cap1), (1, .slice a2 l2.length cap2), (10, .bool (!((l1.length : Int) == (l2.length : Int))))] w.heap.size [] (lies_nil w) (by kernel_rfl) fun w1 E1 hL1 hK1 => ?_
  have B1 : Below w.heap.size w w1 := hK1.below (Nat.le_refl _) (fun k hk => by cases hk)
  by_cases hlen : l1.length = l2.length
  · have e : (!((l1.length : Int) == (l2.length : Int))) = false := by rw [hlen]; simp
    rw [e]
    refine at_cond false (by kernel_rfl) (fun h => nomatch h) fun _ => ?_
    refine at_run 60 (elseT tSam0) w1.heap.size [] [] tSam1 [(0, .slice a1 l1.length cap1), (1, .slice a2 l2.length cap2), (5, .int .i64 0)] w1.heap.size [] (lies_nil w1) (by kernel_rfl) fun w2 E2 hL2 hK2 => ?_
    have B2 : Below w.heap.size w w2 := B1.trans ((hK2.below (Nat.le_refl _) (fun k hk => by cases hk) : Below w1.heap.size w1 w2).mono B1.size)
    refine at_loop (by kernel_rfl) (fun E wx => ∃ (i : Nat) (E0 : Nat → Value), i ≤ l1.length ∧ E = updL E0 [(0, .slice a1 l1.length cap1), (1, .slice a2 l2.length cap2), (5, .int .i64 (i : Int))] ∧ l1.take i = l2.take i ∧ Below w.heap.size w wx)
      (fun E _ => l1.length - idxOf (E 5)) ⟨0, E2, Nat.zero_le _, rfl, by simp, B2⟩ ?_
    rintro E wx ⟨i, E0, hi, rfl, htk, hB⟩ hagain
    refine at_run 60 (bodyT tSam1) wx.heap.size [] [] tSam2 [(0, .slice a1 l1.length cap1), (1, .slice a2 l2.length cap2), (5, .int .i64 (i : Int)), (14, .bool (decide ((i : Int) < (l1.length : Int))))] wx.heap.size [] (lies_nil wx) (by kernel_rfl) fun w3 E3 hL3 hK3 => ?_
    have B3 : Below w.heap.size w w3 := hB.trans ((hK3.below (Nat.le_refl _) (fun k hk => by cases hk) : Below wx.heap.size wx w3).mono hB.size)
    refine at_cond (decide ((i : Int) < (l1.length : Int))) (by kernel_rfl) (fun ht => ?_) (fun hf => ?_)
    · have hlt : i < l1.length := by have := of_decide_eq_true ht; omega
      have hlt2 : i < l2.length := by omega
      have n1 : l1 ≠ [] := fun e => by rw [e] at hlt; exact absurd hlt (Nat.not_lt_zero _)
      have n2 : l2 ≠ [] := fun e => by rw [e] at hlt2; exact absurd hlt2 (Nat.not_lt_zero _)
      obtain ⟨g1, o1, rfl, hg1, hx1⟩ := hc1 n1
      obtain ⟨g2, o2, rfl, hg2, hx2⟩ := hc2 n2
      have hci1 := hx1 i hlt
      have hci2 := hx2 i hlt2
      have t1 : l1.take (i + 1) = l1.take i ++ [l1[i]] := by rw [List.take_add_one, List.getElem?_eq_getElem hlt]; rfl
      have t2 : l2.take (i + 1) = l2.take i ++ [l2[i]] := by rw [List.take_add_one, List.getElem?_eq_getElem hlt2]; rfl
      have wf1 := h1 l1[i] (List.getElem_mem hlt)
      have wf2 := h2 l2[i] (List.getElem_mem hlt2)
      have hne : l1[i] ≠ l2[i] → l1 ≠ l2 := fun hn e => hn (by simp [e])
      generalize l1[i] = c1 at *
      generalize l2[i] = c2 at *
      refine at_run (cntG 90 (thenT tSam2)) (thenT tSam2) w3.heap.size [] [] tSam3 [(0, .slice (some ⟨g1, o1, none⟩) l1.length cap1), (1, .slice (some ⟨g2, o2, none⟩) l2.length cap2), (5, .int .i64 (i : Int))] w3.heap.size [] (lies_nil w3) (by kernel_rfl) fun w4 E4 hL4 hK4 => ?_
      have B4 : Below w.heap.size w w4 := B3.trans ((hK4.below (Nat.le_refl _) (fun k hk => by cases hk) : Below w3.heap.size w3 w4).mono B3.size)
      refine at_ghost ((curReg tSam3).getD #[]) ⟨[⟨g1, o1 + i * 13, c1.cells, 0, false⟩, ⟨g2, o2 + i * 13, c2.cells, 0, false⟩], [(3, 0, 0), (7, 1, 0)], [⟨2, [(17, .slice (some ⟨g1, o1, none⟩) l1.length cap1), (18, .int .i64 (i : Int))], .pointer (some ⟨g1, o1 + i * 13, none⟩), true⟩, ⟨6, [(21, .slice (some ⟨g2, o2, none⟩) l2.length cap2), (22, .int .i64 (i : Int))], .pointer (some ⟨g2, o2 + i * 13, none⟩), true⟩, ⟨8, [(20, .agg ⟨c1.cells⟩), (24, .agg ⟨c2.cells⟩)], .bool (!(decide (c1 = c2))), true⟩]⟩ [(0, .slice (some ⟨g1, o1, none⟩) l1.length cap1), (1, .slice (some ⟨g2, o2, none⟩) l2.length cap2), (5, .int .i64 (i : Int)), (25, .bool (!(decide (c1 = c2))))] (by kernel_rfl) (by kernel_rfl) (by kernel_rfl)
        (fun e he => ?_) (fun sp hsp => ?_) (fun X => by kernel_rfl) (by kernel_rfl) fun w5 E5 b5 => ?_
      · simp only [List.mem_cons, List.not_mem_nil, or_false] at he
        rcases he with rfl | rfl
        · exact ⟨Nat.lt_of_lt_of_le hg1 B4.size, fun j x hj => (World.cell?_of_block (B4.block _ hg1)).trans (hci1 j x hj)⟩
        · exact ⟨Nat.lt_of_lt_of_le hg2 B4.size, fun j x hj => (World.cell?_of_block (B4.block _ hg2)).trans (hci2 j x hj)⟩
      · simp only [List.mem_cons, List.not_mem_nil, or_false] at hsp
        rcases hsp with rfl | rfl | rfl
        · refine spec_op fun _ E w _ => ?_
          exact exec_index (sz := 13) (cap := cap1) (k := i) 50 (.tmp 17) (.tmp 18) (by kernel_rfl) (by kernel_rfl) (by kernel_rfl) hlt Tryz.underlying50 (by kernel_rfl)
        · refine spec_op fun _ E w _ => ?_
          exact exec_index (sz := 13) (cap := cap2) (k := i) 50 (.tmp 21) (.tmp 22) (by kernel_rfl) (by kernel_rfl) (by kernel_rfl) hlt2 Tryz.underlying50 (by kernel_rfl)
        · refine spec_op fun _ E w _ => ?_
          exact exec_neq (T := 64) (T' := 64) (x := .tmp 20) (y := .tmp 24) (by kernel_rfl) (by kernel_rfl) (by kernel_rfl) (by kernel_rfl) (run_cmd_eq c1 c2 wf1 wf2 w)
      have B5 := B4.trans (b5.mono B4.size)
      refine at_run 60 (tailT tSam3) w5.heap.size [] [] tSam4 [(0, .slice (some ⟨g1, o1, none⟩) l1.length cap1), (1, .slice (some ⟨g2, o2, none⟩) l2.length cap2), (5, .int .i64 (i : Int)), (25, .bool (!(decide (c1 = c2))))] w5.heap.size [] (lies_nil w5) (by kernel_rfl) fun w6 E6 hL6 hK6 => ?_
      have B6 : Below w.heap.size w w6 := B5.trans ((hK6.below (Nat.le_refl _) (fun k hk => by cases hk) : Below w5.heap.size w5 w6).mono B5.size)
      by_cases heq : c1 = c2
      · rw [decide_eq_true heq]
        refine at_cond false (by kernel_rfl) (fun h => nomatch h) fun _ => ?_
        refine at_run 60 (elseT tSam4) w6.heap.size [] [] (againT tSam1) [(0, .slice (some ⟨g1, o1, none⟩) l1.length cap1), (1, .slice (some ⟨g2, o2, none⟩) l2.length cap2), (5, .int .i64 (IntKind.i64.wrap ((i : Int) + 1)))] w6.heap.size [] (lies_nil w6) (by kernel_rfl) fun w7 E7 hL7 hK7 => ?_
        have hw : IntKind.i64.wrap ((i : Int) + 1) = ((i + 1 : Nat) : Int) := by
          rw [IntWalk.i64_in _ (by omega)]
          omega
        rw [hw]
        refine hagain _ _ ⟨i + 1, E7, hlt, rfl, by rw [t1, t2, htk, heq], B6.trans ((hK7.below (Nat.le_refl _) (fun k hk => by cases hk) : Below w6.heap.size w6 w7).mono B6.size)⟩ ?_
        show l1.length - idxOf (.int .i64 ((i + 1 : Nat) : Int)) < l1.length - idxOf (.int .i64 (i : Int))
        simp only [idxOf, Int.toNat_natCast]
        omega
      · rw [decide_eq_false heq]
        refine at_cond true (by kernel_rfl) (fun _ => ?_) (fun h => nomatch h)
        refine at_endT (fn := Tryz.f19) 60 (.bool false) (by kernel_rfl) (by kernel_rfl) fun w7 B7 => ?_
        rw [decide_eq_false (hne heq)]
        exact ⟨rfl, B6.trans (B7.mono B6.size)⟩
    · have hil : i = l1.length := by have := of_decide_eq_false hf; omega
      have heq : l1 = l2 := by rw [hil, List.take_length, hlen, List.take_length] at htk; exact htk
      refine at_endT (fn := Tryz.f19) 60 (.bool true) (by kernel_rfl) (by kernel_rfl) fun w7 B7 => ?_
      rw [decide_eq_true heq]
      exact ⟨rfl, B3.trans (B7.mono B3.size)⟩
  · have e : (!((l1.length : Int) == (l2.length : Int))) = true := by
      have : ((l1.length : Int) == (l2.length : Int)) = false := beq_eq_false_iff_ne.2 (by omega)
      rw [this]
      rfl
    rw [e]
    refine at_cond true (by kernel_rfl) (fun _ => ?_) (fun h => nomatch h)
    refine at_endT (fn := Tryz.f19) 60 (.bool false) (by kernel_rfl) (by kernel_rfl) fun w2 B2 => ?_
    rw [decide_eq_false (fun e => hlen (by rw [e]))]
    exact ⟨rfl, B1.trans (B2.mono B1.size)⟩
end Go.Proofs.YtdcbnkimjhefkaaGreatDoor

namespace Go.Proofs.YtdcbnkimjhefkaaGreatDoor
open Go.RowKit
set_option maxRecDepth 100000
theorem text_pos (c : Cmd) (h : okC c = true) : 1 ≤ (textC c).length := by
  obtain ⟨F, hf, _⟩ := good_of h
  simp only [textC, hf, linesP, List.length_append, List.length_cons, List.length_nil]
  omega
theorem flat_len : ∀ l : List Cmd, (∀ c ∈ l, okC c = true) → l.length ≤ (l.flatMap textC).length
  | [], _ => Nat.zero_le _
  | c :: l, h => by
    have h1 := text_pos c (h c (by simp))
    have h2 := flat_len l fun x hx => h x (by simp [hx])
    rw [List.flatMap_cons, List.length_append, List.length_cons]
    omega
theorem flat_le (m : Nat) : ∀ l : List Cmd, (∀ c ∈ l, (textC c).length ≤ m) → (l.flatMap textC).length ≤ m * l.length
  | [], _ => Nat.le_refl _
  | c :: l, h => by
    have h1 := h c (by simp)
    have h2 := flat_le m l fun x hx => h x (by simp [hx])
    rw [List.flatMap_cons, List.length_append, List.length_cons, Nat.mul_succ]
    omega
theorem par_count {s : List UInt8} {l : List Cmd} (hs : s.length ≤ 65536) (h : parB (s.length + 1) s 1 [] = .ok l) : l.length ≤ s.length := by
  obtain ⟨l2, e, h1, h2⟩ := par_text _ s 1 [] l (Nat.lt_succ_self _) (by omega) h
  rw [List.nil_append] at e
  subst e
  have := flat_len l fun c hc => (h1 c hc).1
  rw [← h2] at this
  exact this
/-- An own row of commands is a row of commands. -/
theorem own_cmds {w : World} {base : Nat} {v : Value} {l : List Cmd} (h : w.ownsRow base 64 13 v l.length (l.flatMap Cmd.cells)) : CmdsAt w w.heap.size v l := by
  obtain ⟨_, h⟩ := h
  rcases h with ⟨rfl, h0⟩ | ⟨g, cap, cur, rfl, _, hgb, hnc, hcm, hcs, htake⟩
  · refine ⟨none, 0, by rw [h0], fun hne => absurd (List.length_eq_zero_iff.1 h0) hne⟩
  refine ⟨some ⟨g, 0, none⟩, cap, rfl, fun _ => ⟨g, 0, rfl, heap_lt hgb, fun i hi j u hu => ?_⟩⟩
  unfold World.cell?
  simp only [hgb]
  have hj : j < 13 := (List.getElem?_eq_some_iff.1 hu).1
  have h2 : (l.flatMap Cmd.cells)[0 + i * 13 + j]? = some u := by
    rw [Nat.zero_add]
    have key : ∀ (l : List Cmd) (i : Nat) (hi : i < l.length), (l.flatMap Cmd.cells)[i * 13 + j]? = (l[i]).cells[j]? := by
      intro l
      induction l with
      | nil => intro i hi; exact absurd hi (Nat.not_lt_zero _)
      | cons c l ih =>
        intro i hi
        have hcl : c.cells.length = 13 := rfl
        cases i with
        | zero =>
          rw [List.flatMap_cons, Nat.zero_mul, Nat.zero_add, List.getElem?_append_left (by rw [hcl]; exact hj)]
          rfl
        | succ i =>
          rw [List.flatMap_cons, List.getElem?_append_right (by rw [hcl]; omega), hcl]
          have e : (i + 1) * 13 + j - 13 = i * 13 + j := by omega
          rw [e, ih i (by simpa using hi)]
          rfl
    rw [key l i hi]; exact hu
  rw [← htake] at h2
  rw [List.getElem?_take] at h2
  split at h2
  · rw [Array.getElem?_toList] at h2
    simpa using h2
  · cases h2
noncomputable def codeRt : Code := Tryz.f6.body.getD .skip
noncomputable def tRt0 : List Item := advT 60 [.code codeRt]
noncomputable def tRt1 : List Item := advT 60 (popOp tRt0)
noncomputable def tRt2 : List Item := advT 60 (popOp tRt1)
noncomputable def tRt3 : List Item := advT 60 (popOp tRt2)
noncomputable def tRt4 : List Item := advG (popOp tRt3)
noncomputable def tRt5 : List Item := advT 60 (tailT tRt4)
noncomputable def tRt6 : List Item := advT 60 (elseT tRt5)
noncomputable def tRt7 : List Item := advT 60 (popOp tRt6)
noncomputable def tRt8 : List Item := advT 60 (popOp tRt7)
noncomputable def tRt9 : List Item := advT 60 (thenT tRt8)
noncomputable def tRta : List Item := advT 60 (elseT tRt8)
noncomputable def tRtb : List Item := advG (popOp tRta)
variable {w0 : World}
theorem rt_awake {w : World} {E : Nat → Value} (hg : Tryz.prog.globals.size ≤ w0.heap.size) (hR : Reads0 Tryz.prog H0 w0) (B : Below w0.heap.size w0 w) :
    At Tryz.prog 6 (LawR w0) tRt8 (Fr 74 (updL E [(57, .bool true)])) w := by
  refine at_cond true (by kernel_rfl) (fun _ => ?_) (fun h => nomatch h)
  refine at_run 60 (thenT tRt8) w.heap.size [] [] tRt9 [] w.heap.size [] (lies_nil w) (by kernel_rfl) fun w1 E1 hL1 hK1 => ?_
  have B1 := B.trans ((hK1.below (Nat.le_refl _) (fun k hk => by cases hk) : Below w.heap.size w w1).mono B.size)
  refine at_call 12 [] (some 58) [] (by kernel_rfl) (by kernel_rfl) (by kernel_rfl) ((awake_any w1 (reads0_below hR hg B1)).mono fun e w2 hh => ?_)
  obtain ⟨rfl, b2⟩ := hh
  refine ⟨_, rfl, ?_⟩
  have B2 := B1.trans (b2.mono B1.size)
  exact at_endT (fn := Tryz.f6) 60 (.bool true) (by kernel_rfl) (by kernel_rfl) fun w3 B3 => ⟨rfl, B2.trans (B3.mono B2.size)⟩
theorem returns_any (vi : Value) (ns : List Int) (w : World) (hi : IntsAt w w.heap.size vi ns) (hC : ConP w) (hg : Tryz.prog.globals.size ≤ w.heap.size) (hR : Reads0 Tryz.prog H0 w) :
    Calls Tryz.prog 6 #[vi] w (LawR w) := by
  obtain ⟨A, ca, rfl, hi1, hi2, hi3⟩ := id hi
  have hI : IntsAt w w.heap.size (.slice A ns.length ca) ns := hi
  have hgg := fun (w' : World) (b : Below w.heap.size w w') => Nat.le_trans hg b.size
  refine calls_at (args := [.slice A ns.length ca]) (fn := Tryz.f6) (c := codeRt) (n := 74) (by kernel_rfl) (by kernel_rfl) (by kernel_rfl) (by kernel_rfl) ?_
  refine at_run 60 [.code codeRt] w.heap.size [] [] tRt0 [(16, .slice A ns.length ca)] w.heap.size [] (lies_nil w) (by kernel_rfl) fun w4 E4 hL4 hK4 => ?_
  have B4 : Below w.heap.size w w4 := hK4.below (Nat.le_refl _) (fun k hk => by cases hk)
  refine at_call 13 [.tmp 16] (some 17) [.slice A ns.length ca] (by kernel_rfl) (by kernel_rfl) (by kernel_rfl) ((dnew_any _ ns w4 ((hI.keep fun g hg => B4.block g hg).more B4.size)).mono fun e w5 hh => ?_)
  obtain ⟨rfl, D5, b5⟩ := hh
  refine ⟨_, rfl, ?_⟩
  have B5 := B4.trans (b5.mono B4.size)
  have hb0 := B4.size
  generalize w4.heap.size = b at *
  refine at_run 60 (popOp tRt0) w5.heap.size [] [] tRt1 [(3, pb b), (18, pb b)] w5.heap.size [] (lies_nil w5) (by kernel_rfl) fun w6 E6 hL6 hK6 => ?_
  have b6 : Below w5.heap.size w5 w6 := hK6.below (Nat.le_refl _) (fun k hk => by cases hk)
  have B6 := B5.trans (b6.mono B5.size)
  have D6 := D5.below b6
  refine at_call 15 [.tmp 18, .const (.int .i64 10), .const (.bool true)] (some 19) [pb b, .int .i64 (10 : Nat), .bool true] (by kernel_rfl) (by kernel_rfl) (by kernel_rfl) ((dcommands_any b ns 0 10 w6 D6 (by omega) (by omega)).mono fun e w7 hh => ?_)
  obtain ⟨vc, l, hl1, hl2, rfl, S7⟩ := hh
  refine ⟨_, rfl, ?_⟩
  have hlb := D6.lt
  have B7 := B6.trans (S7.dk.but.below (by omega) B6.size)
  have hwf : ∀ c ∈ l, c.Wf := fun c hc => (S7.gen c hc).wf
  have hlen : (l.flatMap textC).length ≤ 65536 := by
    have := flat_le 1000 l fun c hc => (S7.gen c hc).len
    omega
  have hfm : fmtS [] l = some (l.flatMap textC) := fmt_all l [] (fun c hc => (S7.gen c hc).ok) hlen
  generalize l.flatMap textC = s at *
  refine at_run 60 (popOp tRt1) w7.heap.size [] [] tRt2 [(3, pb b), (4, vc), (21, vc)] w7.heap.size [] (lies_nil w7) (by kernel_rfl) fun w8 E8 hL8 hK8 => ?_
  have b8 : Below w7.heap.size w7 w8 := hK8.below (Nat.le_refl _) (fun k hk => by cases hk)
  have S8 := S7.below b8
  have B8 := B7.trans (b8.mono B7.size)
  refine at_call 21 [.tmp 21] (some 22) [vc] (by kernel_rfl) (by kernel_rfl) (by kernel_rfl) ((format_any l vc w8 hwf (own_cmds S8.own) ((hC.below hg B8).con) (hgg w8 B8) (by omega)).mono fun e w9 hh => ?_)
  obtain ⟨rfl, b9⟩ := hh
  refine ⟨_, rfl, ?_⟩
  rw [hfm]
  have S9 := S8.below b9
  have B9 := B8.trans (b9.mono B8.size)
  refine at_run 60 (popOp tRt2) w9.heap.size [] [] tRt3 [(3, pb b), (4, vc), (5, .string ⟨⟨s⟩⟩), (6, .int .i64 0), (26, .string ⟨⟨s⟩⟩)] w9.heap.size [] (lies_nil w9) (by kernel_rfl) fun w10 E10 hL10 hK10 => ?_
  have b10 : Below w9.heap.size w9 w10 := hK10.below (Nat.le_refl _) (fun k hk => by cases hk)
  have S10 := S9.below b10
  have B10 := B9.trans (b10.mono B9.size)
  refine at_call 17 [.tmp 26] (some 27) [.string ⟨⟨s⟩⟩] (by kernel_rfl) (by kernel_rfl) (by kernel_rfl) ((parse_any s w10 (by omega) (hC.below hg B10) (hgg w10 B10)).mono fun e w11 hh => ?_)
  obtain ⟨b11, hp⟩ := hh
  rw [if_neg (by omega), fmt_par hfm] at hp
  obtain ⟨vp, rfl, hown⟩ := hp
  refine ⟨_, rfl, ?_⟩
  have S11 := S10.below b11
  have B11 := B10.trans (b11.mono B10.size)
  refine at_run (cntG 90 (popOp tRt3)) (popOp tRt3) w11.heap.size [] [] tRt4 [(3, pb b), (4, vc), (5, .string ⟨⟨s⟩⟩), (6, .int .i64 0), (7, vp), (8, .int .i64 0), (9, .int .i64 0)] w11.heap.size [] (lies_nil w11) (by kernel_rfl) fun w12 E12 hL12 hK12 => ?_
  have b12 : Below w11.heap.size w11 w12 := hK12.below (Nat.le_refl _) (fun k hk => by cases hk)
  have S12 := S11.below b12
  have B12 := B11.trans (b12.mono B11.size)
  have hown12 := owns_below hown b12
  refine at_ghost ((curReg tRt4).getD #[]) ⟨[], [], [⟨13, [(42, vp), (43, vc)], .bool true, true⟩]⟩ [(3, pb b), (5, .string ⟨⟨s⟩⟩), (46, .bool false)] (by kernel_rfl) (by kernel_rfl) (by kernel_rfl)
    (fun e he => by cases he) (fun sp hsp => ?_) (fun X => by kernel_rfl) (by kernel_rfl) fun w13 E13 b13 => ?_
  · rw [List.mem_singleton.1 hsp]
    refine spec_call 19 [.tmp 42, .tmp 43] [vp, vc] (by kernel_rfl) (by kernel_rfl) (fun _ => by kernel_rfl) fun _ u hu => ?_
    refine below_call hu ((same_any l l vp vc u hwf hwf ((own_cmds hown12).below hu.size hu) ((own_cmds S12.own).below hu.size hu) (by omega) (by omega)).mono fun e w' hh => ?_)
    rw [decide_eq_true (rfl : l = l)] at hh
    exact hh
  have S13 := S12.below b13
  have B13 := B12.trans (b13.mono B12.size)
  refine at_run 60 (tailT tRt4) w13.heap.size [] [] tRt5 [(3, pb b), (5, .string ⟨⟨s⟩⟩), (46, .bool false)] w13.heap.size [] (lies_nil w13) (by kernel_rfl) fun w14 E14 hL14 hK14 => ?_
  have b14 : Below w13.heap.size w13 w14 := hK14.below (Nat.le_refl _) (fun k hk => by cases hk)
  have S14 := S13.below b14
  have B14 := B13.trans (b14.mono B13.size)
  refine at_cond false (by kernel_rfl) (fun h => nomatch h) fun _ => ?_
  refine at_run 60 (elseT tRt5) w14.heap.size [] [] tRt6 [(47, pb b), (48, .string ⟨⟨s⟩⟩)] w14.heap.size [] (lies_nil w14) (by kernel_rfl) fun w15 E15 hL15 hK15 => ?_
  have b15 : Below w14.heap.size w14 w15 := hK15.below (Nat.le_refl _) (fun k hk => by cases hk)
  have S15 := S14.below b15
  have B15 := B14.trans (b15.mono B14.size)
  refine at_call 16 [.tmp 47, .tmp 48] (some 49) [pb b, .string ⟨⟨s⟩⟩] (by kernel_rfl) (by kernel_rfl) (by kernel_rfl) ((ddamage_any b ns _ s w15 S15.dk.deck (by omega) (by omega)).mono fun e w16 hh => ?_)
  obtain ⟨t, htl, rfl, d16⟩ := hh
  refine ⟨_, rfl, ?_⟩
  have B16 := B15.trans (d16.but.below (by omega) B15.size)
  refine at_run 60 (popOp tRt6) w16.heap.size [] [] tRt7 [(10, .string ⟨⟨t⟩⟩), (51, .string ⟨⟨t⟩⟩)] w16.heap.size [] (lies_nil w16) (by kernel_rfl) fun w17 E17 hL17 hK17 => ?_
  have B17 := B16.trans ((hK17.below (Nat.le_refl _) (fun k hk => by cases hk) : Below w16.heap.size w16 w17).mono B16.size)
  refine at_call 17 [.tmp 51] (some 52) [.string ⟨⟨t⟩⟩] (by kernel_rfl) (by kernel_rfl) (by kernel_rfl) ((parse_any t w17 (by omega) (hC.below hg B17) (hgg w17 B17)).mono fun e w18 hh => ?_)
  obtain ⟨b18, hp⟩ := hh
  have B18 := B17.trans (b18.mono B17.size)
  have bad : ∀ (ln c : Int) (E : Nat → Value), c = 3 ∨ c = 6 → At Tryz.prog 6 (LawR w) (popOp tRt7) (Fr 74 (updO (updL E [(10, .string ⟨⟨t⟩⟩), (51, .string ⟨⟨t⟩⟩)]) (some 52) (.tuple #[.slice none 0 0, .int .i64 ln, .int .i64 c]))) w18 := by
    intro ln c E hc
    have go : ∀ w19 E19, Below w18.heap.size w18 w19 → At Tryz.prog 6 (LawR w) tRt8 (Fr 74 (updL E19 [(57, .bool true)])) w19 := fun w19 E19 b19 => rt_awake hg hR (B18.trans (b19.mono B18.size))
    rcases hc with rfl | rfl
    · exact at_run 60 (popOp tRt7) w18.heap.size [] [] tRt8 [(57, .bool true)] w18.heap.size [] (lies_nil w18) (by kernel_rfl) fun w19 E19 hL19 hK19 => go w19 E19 (hK19.below (Nat.le_refl _) (fun k hk => by cases hk))
    · exact at_run 60 (popOp tRt7) w18.heap.size [] [] tRt8 [(57, .bool true)] w18.heap.size [] (lies_nil w18) (by kernel_rfl) fun w19 E19 hL19 hK19 => go w19 E19 (hK19.below (Nat.le_refl _) (fun k hk => by cases hk))
  split at hp
  · subst hp
    exact ⟨_, rfl, bad 0 3 E17 (.inl rfl)⟩
  rename_i hbig
  cases hpr : parB (t.length + 1) t 1 [] with
  | error ln =>
    rw [hpr] at hp
    simp only at hp
    subst hp
    exact ⟨_, rfl, bad ln 6 E17 (.inr rfl)⟩
  | ok acc =>
    rw [hpr] at hp
    obtain ⟨vy, rfl, hown2⟩ := hp
    refine ⟨_, rfl, ?_⟩
    obtain ⟨hft, hwf2⟩ := par_fmt (by omega) hpr
    have hacc := par_count (by omega) hpr
    refine at_run 60 (popOp tRt7) w18.heap.size [] [] tRt8 [(10, .string ⟨⟨t⟩⟩), (11, vy), (57, .bool false)] w18.heap.size [] (lies_nil w18) (by kernel_rfl) fun w19 E19 hL19 hK19 => ?_
    have b19 : Below w18.heap.size w18 w19 := hK19.below (Nat.le_refl _) (fun k hk => by cases hk)
    have B19 := B18.trans (b19.mono B18.size)
    refine at_cond false (by kernel_rfl) (fun h => nomatch h) fun _ => ?_
    refine at_run 60 (elseT tRt8) w19.heap.size [] [] tRta [(10, .string ⟨⟨t⟩⟩), (60, vy)] w19.heap.size [] (lies_nil w19) (by kernel_rfl) fun w20 E20 hL20 hK20 => ?_
    have b20 : Below w19.heap.size w19 w20 := hK20.below (Nat.le_refl _) (fun k hk => by cases hk)
    have B20 := B19.trans (b20.mono B19.size)
    have hown20 := owns_below (owns_below hown2 b19) b20
    refine at_call 21 [.tmp 60] (some 61) [vy] (by kernel_rfl) (by kernel_rfl) (by kernel_rfl) ((format_any acc vy w20 hwf2 (own_cmds hown20) ((hC.below hg B20).con) (hgg w20 B20) (by omega)).mono fun e w21 hh => ?_)
    obtain ⟨rfl, b21⟩ := hh
    refine ⟨_, rfl, ?_⟩
    rw [hft]
    have B21 := B20.trans (b21.mono B20.size)
    refine at_run (cntG 90 (popOp tRta)) (popOp tRta) w21.heap.size [] [] tRtb [(10, .string ⟨⟨t⟩⟩), (14, .string ⟨⟨t⟩⟩), (15, .int .i64 0)] w21.heap.size [] (lies_nil w21) (by kernel_rfl) fun w22 E22 hL22 hK22 => ?_
    have B22 := B21.trans ((hK22.below (Nat.le_refl _) (fun k hk => by cases hk) : Below w21.heap.size w21 w22).mono B21.size)
    refine at_ghost ((curReg tRtb).getD #[]) ⟨[], [], [⟨5, [(67, .string ⟨⟨t⟩⟩), (68, .string ⟨⟨t⟩⟩)], .bool true, true⟩, ⟨8, [], .bool true, true⟩]⟩ [(2, .bool true)] (by kernel_rfl) (by kernel_rfl) (by kernel_rfl)
      (fun e he => by cases he) (fun sp hsp => ?_) (fun X => by kernel_rfl) (by kernel_rfl) fun w23 E23 b23 => ?_
    · simp only [List.mem_cons, List.not_mem_nil, or_false] at hsp
      rcases hsp with rfl | rfl
      · refine spec_op fun _ E w _ => ?_
        have h := exec_eqs (P := Tryz.prog) (w := w) (o := ((curReg tRtb).getD #[]).getD 5 default) (ρ := ovr [(67, .string ⟨⟨t⟩⟩), (68, .string ⟨⟨t⟩⟩)] (evE 74 E)) (T := 9) (T' := 9) (x := .tmp 67) (y := .tmp 68) (a := t) (b := t) (by kernel_rfl) (by kernel_rfl) (by kernel_rfl)
        rw [decide_eq_true (rfl : t = t)] at h
        exact h
      · exact spec_call 12 [] [] (by kernel_rfl) (by kernel_rfl) (fun _ => by kernel_rfl) fun _ u hu => below_call hu (awake_any u (reads0_below hR hg (B22.trans (hu.mono B22.size))))
    have B23 := B22.trans (b23.mono B22.size)
    exact at_endT (fn := Tryz.f6) 60 (.bool true) (by kernel_rfl) (by kernel_rfl) fun w24 B24 => ⟨rfl, B23.trans (B24.mono B23.size)⟩
end Go.Proofs.YtdcbnkimjhefkaaGreatDoor

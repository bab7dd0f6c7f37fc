/-
 A script that is read prints to itself.
 Numbers and words that are printed are read back.
 A printable command's line is read as the command.
 What is printed is read back.
 payrollref46.Same.
 The walk of ConsoleReturns.
 The longest script: 8192 releases.
 Appending a string to bytes, in the engine.
 The walk of ConsoleLimits.
-/
import Derived.Test.YtdcbnkimjhefkaaGreatDoorU29
import Derived.Test.YtdcbnkimjhefkaaGreatDoorU32
import Derived.Test.YtdcbnkimjhefkaaGreatDoorU28
import Derived.Test.YtdcbnkimjhefkaaGreatDoorU31
import Derived.Test.YtdcbnkimjhefkaaGreatDoorU24
import Derived.Lib.AppendStr
namespace Go.Proofs.YtdcbnkimjhefkaaGreatDoor
open Go.RowKit
set_option maxRecDepth 100000
def joinW : List (List UInt8) → List UInt8
 | [] => []
 | x :: r => x ++ r.flatMap fun w => 32 :: w
theorem joinW_cons (x y : List UInt8) (l : List (List UInt8)) : joinW (x :: y :: l) = x ++ 32 :: joinW (y :: l) := by
 simp [joinW]
theorem splitK_ne (k : Nat) (s : List UInt8) : ∃ x l, Lib.splitK [32] 0 k s = x :: l := by
 cases k with
 | zero => exact ⟨s, [], rfl⟩
 | succ k =>
  unfold Lib.splitK
  split
  ·exact ⟨s, [], rfl⟩
  ·exact ⟨_, _, rfl⟩
theorem splitK_join : ∀ (k : Nat) (s : List UInt8), joinW (Lib.splitK [32] 0 k s) = s
 | 0, s => by show s ++ [] = s; rw [List.append_nil]
 | k + 1, s => by
  rcases index_cut 32 s with ⟨h1, _⟩ | ⟨i, h1, h2⟩
  ·unfold Lib.splitK
   rw [h1]
   show s ++ [] = s
   rw [List.append_nil]
  ·have hc := cutP_some 32 s (by rw [h2])
   rw [h2] at hc
   have hi : ¬ ((i : Int) == -1) = true := fun e => by have := beq_iff_eq.1 e; omega
   unfold Lib.splitK
   rw [h1, if_neg hi]
   obtain ⟨x, l, hx⟩ := splitK_ne k (s.drop (((i : Int)).toNat + [(32 : UInt8)].length))
   have hj := splitK_join k (s.drop (((i : Int)).toNat + [(32 : UInt8)].length))
   rw [hx] at hj ⊢
   rw [joinW_cons, hj]
   exact hc.symm
theorem words_join (s : List UInt8) : joinW (wordsP s) = s := by
 unfold wordsP wordsB
 rw [Lib.splitB_data]
 exact splitK_join _ _
theorem read_line {s : List UInt8} {c : Cmd} (hs : s.length ≤ 70000) (h : readL s = some c) : ∃ F r, F ∈ forms ∧ Back F r c ∧ s = F.word ++ itemsP c F.letters := by
 have hj := words_join s
 have hw := fun x hx => words_byte s x hx
 unfold readL at h
 generalize wordsP s = ws at *
 cases ws with
 | nil => cases h
 | cons x r =>
 replace h : (match forms.find? (wordIs x) with
  | none => none
  | some F => if r.length = F.letters.length then letsP F.letters r (Cmd.of F) else none) = some c := h
 cases hf : forms.find? (wordIs x) with
 | none => rw [hf] at h; cases h
 | some F =>
  rw [hf] at h
  replace h : (if r.length = F.letters.length then letsP F.letters r (Cmd.of F) else none) = some c := h
  split at h
  ·rename_i hl
   have hF := List.mem_of_find?_eq_some hf
   have hx : F.word = x := of_decide_eq_true (show wordIs x F = true from List.find?_some hf)
   have B := back_any hF hl (fun w hw' => Nat.le_trans (hw w (List.mem_cons_of_mem _ hw')) hs) h
   refine ⟨F, r, hF, B, ?_⟩
   rw [B.items, hx]
   exact hj.symm
  ·cases h
theorem read_okC {s : List UInt8} {c : Cmd} (hs : s.length ≤ 70000) (h : readL s = some c) (hk : c.fk ≠ 5) : okC c = true ∧ textC c = s ++ [10] ∧ c.Wf := by
 obtain ⟨F, r, hF, B, he⟩ := read_line hs h
 have hf : F.fact ≠ 5 := by rw [← B.fk]; exact hk
 refine ⟨?_, ?_, B.wf⟩
 ·unfold okC
  rw [B.form]
  show ((okL c F.letters && (F.fact != 5 || linedP c.txt)) && decide (leftP c F = Cmd.of F)) = true
  have h1 : leftP c F = Cmd.of F := by unfold leftP; rw [if_neg hf]; exact B.left
  have h2 : (F.fact != 5) = true := by rw [bne_iff_ne]; exact hf
  rw [B.ok, h2, decide_eq_true h1]
  rfl
 ·unfold textC
  rw [B.form]
  show F.word ++ itemsP c F.letters ++ [10] ++ (if F.fact = 5 then c.txt ++ [101, 110, 100, 10] else []) = s ++ [10]
  rw [if_neg hf, List.append_nil, ← he]
theorem items_txt (t : List UInt8) (c : Cmd) (l : List UInt8) : itemsP { c with txt := t } l = itemsP c l := by
 unfold itemsP
 congr 1
theorem okL_txt (t : List UInt8) (c : Cmd) (l : List UInt8) : okL { c with txt := t } l = okL c l := by
 unfold okL
 congr 1
theorem zeroP_txt (t : List UInt8) (c : Cmd) (a : Nat) : zeroP a { c with txt := t } = { zeroP a c with txt := t } := by
 unfold zeroP zeroN
 repeat' split
 all_goals rfl
theorem rest_txt (t : List UInt8) : ∀ (l : List UInt8) (c : Cmd), restP { c with txt := t } l = { restP c l with txt := t }
 | [], _ => rfl
 | a :: l, c => by
  show restP (zeroP a.toNat { c with txt := t }) l = { restP (zeroP a.toNat c) l with txt := t }
  rw [zeroP_txt]
  exact rest_txt t l _
theorem rest_own_txt : ∀ (l : List UInt8) (c : Cmd), (restP c l).txt = c.txt
 | [], _ => rfl
 | a :: l, c => by
  show (restP (zeroP a.toNat c) l).txt = c.txt
  rw [rest_own_txt l]
  unfold zeroP zeroN
  repeat' split
  all_goals rfl
theorem read_okC5 {s t : List UInt8} {c : Cmd} (hs : s.length ≤ 70000) (h : readL s = some c) (hk : c.fk = 5) (ht : linedP t = true) (htl : t.length ≤ 70000) :
  okC { c with txt := t } = true ∧ textC { c with txt := t } = s ++ [10] ++ (t ++ [101, 110, 100, 10]) ∧ Cmd.Wf { c with txt := t } := by
 obtain ⟨F, r, hF, B, he⟩ := read_line hs h
 have hf : F.fact = 5 := by rw [← B.fk]; exact hk
 have hform : formOf { c with txt := t } = some F := B.form
 refine ⟨?_, ?_, ⟨B.wf.kind, B.wf.emp, B.wf.fk, B.wf.fr, B.wf.val, B.wf.ext, B.wf.rnk, B.wf.per, B.wf.torn, B.wf.stop, B.wf.wh, B.wf.nm, Nat.le_trans htl (by decide)⟩⟩
 ·unfold okC
  rw [hform]
  show ((okL { c with txt := t } F.letters && (F.fact != 5 || linedP t)) && decide (leftP { c with txt := t } F = Cmd.of F)) = true
  have h1 : leftP { c with txt := t } F = Cmd.of F := by
   unfold leftP
   rw [if_pos hf, rest_txt]
   show { restP c F.letters with txt := [] } = Cmd.of F
   have h2 : (restP c F.letters).txt = [] := by rw [rest_own_txt]; exact B.txt
   rw [← h2]
   exact B.left
  rw [okL_txt, B.ok, ht, decide_eq_true h1, Bool.or_true]
  rfl
 ·unfold textC
  rw [hform]
  show F.word ++ itemsP { c with txt := t } F.letters ++ [10] ++ (if F.fact = 5 then t ++ [101, 110, 100, 10] else []) = s ++ [10] ++ (t ++ [101, 110, 100, 10])
  rw [if_pos hf, items_txt, ← he]
theorem splitL_cut (d : UInt8) (t : List UInt8) : ∀ s : List UInt8, (cutP d s).2.2 = true → splitL d ((cutP d s).1 ++ d :: t) = ((cutP d s).1 :: (splitL d t).1, (splitL d t).2)
 | [], h => by cases h
 | c :: r, h => by
  unfold cutP at h ⊢
  split
  ·show splitL d (d :: t) = ([] :: (splitL d t).1, (splitL d t).2)
   rw [splitL, if_pos rfl]
  ·rename_i hc
   rw [if_neg hc] at h
   show splitL d (c :: ((cutP d r).1 ++ d :: t)) = _
   rw [splitL, if_neg hc, splitL_cut d t r h]
theorem agr_text : ∀ (n : Nat) (s acc t r : List UInt8) (k k' : Nat), agrB n s acc k = (some (t, r), k') → ∃ t2, t = acc ++ t2 ∧ s = t2 ++ ([101, 110, 100, 10] ++ r) ∧ linedP t2 = true ∧ r.length < s.length
 | 0, s, acc, t, r, k, k', h => by cases h
 | n + 1, s, acc, t, r, k, k', h => by
  unfold agrB at h
  split at h
  ·rename_i hf
   have hs := cutP_some 10 s hf
   have hlt := cutP_lt 10 s hf
   split at h
   ·rename_i he
    obtain ⟨h1, _⟩ := Prod.mk.inj h
    obtain ⟨rfl, rfl⟩ := Prod.mk.inj (Option.some.inj h1)
    refine ⟨[], (List.append_nil _).symm, ?_, rfl, by omega⟩
    rw [he] at hs
    exact hs
   ·rename_i he
    obtain ⟨t2, rfl, h2, h3, h4⟩ := agr_text n _ _ _ _ _ _ h
    refine ⟨(cutP 10 s).1 ++ 10 :: t2, by simp, ?_, ?_, by omega⟩
    ·rw [h2] at hs
     exact hs.trans (by simp)
    ·rw [linedP_lines] at h3 ⊢
     rw [splitL_cut 10 t2 s hf]
     simp only [List.all_cons, decide_eq_true he, Bool.true_and]
     exact h3
  ·cases h
theorem par_text : ∀ (n : Nat) (s : List UInt8) (ln : Nat) (acc l : List Cmd), s.length < n → s.length ≤ 70000 → parB n s ln acc = .ok l → ∃ l2, l = acc ++ l2 ∧ (∀ c ∈ l2, okC c = true ∧ c.Wf) ∧ s = l2.flatMap textC
 | 0, s, ln, acc, l, hn, _, _ => by omega
 | n + 1, s, ln, acc, l, hn, hs, h => by
  unfold parB at h
  split at h
  ·rename_i h0
   obtain rfl : acc = l := by injection h
   exact ⟨[], (List.append_nil _).symm, fun c hc => (by cases hc), h0⟩
  ·split at h
   ·rename_i hf
    have hcs := cutP_some 10 s hf
    have hlt := cutP_lt 10 s hf
    generalize (cutP 10 s).1 = a at *
    generalize (cutP 10 s).2.1 = r at *
    cases hr : readL a with
    | none => rw [hr] at h; cases h
    | some c =>
     rw [hr] at h
     replace h : (if c.fk = 5 then (match agrB n r [] 0 with
      | (none, k) => .error (ln + k)
      | (some (t, r), k) => parB n r (ln + k + 1) (acc ++ [{ c with txt := t }]))
      else parB n r (ln + 1) (acc ++ [c])) = .ok l := h
     split at h
     ·rename_i hk
      cases hq : agrB n r [] 0 with
      | mk q k =>
       rw [hq] at h
       cases q with
       | none => cases h
       | some tr =>
        obtain ⟨t, r2⟩ := tr
        replace h : parB n r2 (ln + k + 1) (acc ++ [{ c with txt := t }]) = .ok l := h
        obtain ⟨t2, ht2, h2, h3, h4⟩ := agr_text n r [] t r2 0 k hq
        rw [List.nil_append] at ht2
        subst ht2
        have htl : t.length ≤ 70000 := by
         have := congrArg List.length h2
         rw [List.length_append] at this
         omega
        obtain ⟨l2, rfl, h5, h6⟩ := par_text n r2 _ _ _ (by omega) (by omega) h
        have B := read_okC5 (s := a) (t := t) (by omega) hr hk h3 htl
        refine ⟨{ c with txt := t } :: l2, by simp, fun x hx => ?_, ?_⟩
        ·rcases List.mem_cons.1 hx with rfl | hx
         ·exact ⟨B.1, B.2.2⟩
         ·exact h5 x hx
        ·rw [List.flatMap_cons, B.2.1, ← h6, hcs, h2]
         simp
     ·rename_i hk
      obtain ⟨l2, rfl, h5, h6⟩ := par_text n r _ _ _ (by omega) (by omega) h
      have B := read_okC (by omega) hr hk
      refine ⟨c :: l2, by simp, fun x hx => ?_, ?_⟩
      ·rcases List.mem_cons.1 hx with rfl | hx
       ·exact ⟨B.1, B.2.2⟩
       ·exact h5 x hx
      ·rw [List.flatMap_cons, B.2.1, ← h6, hcs]
       simp
   ·cases h
theorem fmt_all : ∀ (l : List Cmd) (acc : List UInt8), (∀ c ∈ l, okC c = true) → (acc ++ l.flatMap textC).length ≤ 65536 → fmtS acc l = some (acc ++ l.flatMap textC)
 | [], acc, _, _ => by simp [fmtS]
 | c :: l, acc, h, hl => by
  have e : acc ++ (c :: l).flatMap textC = (acc ++ textC c) ++ l.flatMap textC := by simp
  rw [e] at hl ⊢
  unfold fmtS
  rw [if_pos ⟨h c (by simp), by rw [List.length_append] at hl; omega⟩]
  exact fmt_all l _ (fun x hx => h x (List.mem_cons_of_mem _ hx)) hl
theorem par_fmt {s : List UInt8} {l : List Cmd} (hs : s.length ≤ 65536) (h : parB (s.length + 1) s 1 [] = .ok l) : fmtS [] l = some s ∧ ∀ c ∈ l, c.Wf := by
 obtain ⟨l2, he, h1, h2⟩ := par_text _ _ _ _ _ (Nat.lt_succ_self _) (by omega) h
 rw [List.nil_append] at he
 subst he
 refine ⟨?_, fun c hc => (h1 c hc).2⟩
 rw [fmt_all l [] (fun c hc => (h1 c hc).1) (by rw [List.nil_append, ← h2]; exact hs), List.nil_append, ← h2]
end Go.Proofs.YtdcbnkimjhefkaaGreatDoor

namespace Go.Proofs.YtdcbnkimjhefkaaGreatDoor
open Go.RowKit
set_option maxRecDepth 100000
theorem digit_toNat {d : Nat} (h : d < 10) : (UInt8.ofNat (48 + d)).toNat = 48 + d := by
 rw [UInt8.toNat_ofNat']
 omega
theorem parse_snoc (c : UInt8) : ∀ (l : List UInt8) (acc m : Nat), Lib.parseUint10 acc l = .ok m → Lib.parseUint10 acc (l ++ [c]) = Lib.parseUint10 m [c]
 | [], acc, m, h => by
  simp only [Lib.parseUint10] at h
  injection h with h
  subst h
  rfl
 | x :: l, acc, m, h => by
  rw [List.cons_append]
  rw [Lib.parseUint10] at h ⊢
  split at h
  ·rename_i h1
   rw [if_pos h1]
   split at h
   ·cases h
   ·rename_i h2
    rw [if_neg h2]
    split at h
    ·cases h
    ·rename_i h3
     rw [if_neg h3]
     exact parse_snoc c l _ m h
  ·cases h
theorem parse_dec (u : Nat) (hu : u ≤ 1000000000000000000) : Lib.parseUint10 0 (Lib.decDigits u) = .ok u := by
 induction u using Nat.strongRecOn with
 | ind u ih =>
  rw [Lib.decDigits]
  split
  ·rename_i h
   rw [Lib.parseUint10, digit_toNat h, if_pos (by omega), if_neg (by omega), if_neg (by omega), Lib.parseUint10]
   congr 1
   omega
  ·rename_i h
   have h10 : u % 10 < 10 := Nat.mod_lt _ (by decide)
   rw [parse_snoc _ _ _ _ (ih (u / 10) (by omega) (by omega)), Lib.parseUint10, digit_toNat h10, if_pos (by omega), if_neg (by omega), if_neg (by omega), Lib.parseUint10]
   congr 1
   omega
theorem dec_digits (u : Nat) : ∀ c ∈ Lib.decDigits u, 48 ≤ c.toNat ∧ c.toNat ≤ 57 := by
 induction u using Nat.strongRecOn with
 | ind u ih =>
  intro c hc
  rw [Lib.decDigits] at hc
  split at hc
  ·rename_i h
   rw [List.mem_singleton] at hc
   rw [hc, digit_toNat h]
   omega
  ·rename_i h
   rcases List.mem_append.1 hc with hc | hc
   ·exact ih (u / 10) (by omega) c hc
   ·rw [List.mem_singleton] at hc
    rw [hc, digit_toNat (Nat.mod_lt _ (by decide))]
    omega
theorem dec_ne (u : Nat) : ∃ c r, Lib.decDigits u = c :: r := by
 rw [Lib.decDigits]
 split
 ·exact ⟨_, _, rfl⟩
 ·cases h : Lib.decDigits (u / 10) with
  | nil => exact ⟨_, _, rfl⟩
  | cons c r => exact ⟨c, r ++ [UInt8.ofNat (48 + u % 10)], rfl⟩
theorem numO_itoa {n : Int} (h1 : -1000000000000000000 ≤ n) (h2 : n ≤ 1000000000000000000) : numO (Lib.itoa n) = some n := by
 have hat : Lib.atoiAll (Lib.itoa n) = .ok n := by
  unfold Lib.itoa
  split
  ·rename_i hn
   obtain ⟨c, r, hd⟩ := dec_ne n.natAbs
   have hp := parse_dec n.natAbs (by omega)
   unfold Lib.atoiAll
   have e45 : (45 : UInt8).toNat = 45 := rfl
   simp only [e45, or_true, if_true]
   unfold Lib.parseMag
   rw [hp, hd, if_neg (by simp)]
   simp only [not_true_eq_false, false_and, if_false, true_and]
   rw [if_neg (by omega)]
   congr 1
   omega
  ·rename_i hn
   obtain ⟨c, r, hd⟩ := dec_ne n.toNat
   have hp := parse_dec n.toNat (by omega)
   have hc := dec_digits n.toNat c (by rw [hd]; simp)
   rw [hd] at hp ⊢
   unfold Lib.atoiAll
   have e1 : ¬ c.toNat = 43 := by omega
   have e2 : ¬ c.toNat = 45 := by omega
   simp only [e1, e2, or_self, not_false_eq_true, true_and, if_false, false_and]
   unfold Lib.parseMag
   rw [hp, if_neg (by simp)]
   simp only
   rw [if_neg (by omega)]
   congr 1
   omega
 unfold numO
 rw [hat]
 exact if_pos ⟨rfl, h1, h2⟩
theorem index_free (d : UInt8) (r : List UInt8) : ∀ x : List UInt8, (∀ c ∈ x, c ≠ d) → Lib.index (x ++ d :: r) [d] = (x.length : Int)
 | [], _ => by
  show Lib.index (d :: r) [d] = 0
  unfold Lib.index
  rw [if_pos (by simp [List.isPrefixOf])]
 | c :: x, h => by
  have ih := index_free d r x (fun y hy => h y (List.mem_cons_of_mem _ hy))
  have hc : (d == c) = false := beq_eq_false_iff_ne.2 (fun e => h c (by simp) e.symm)
  rw [List.cons_append]
  unfold Lib.index
  rw [if_neg (by simp [List.isPrefixOf, hc]), ih]
  have : ((x.length : Int) == -1) = false := by rw [beq_eq_false_iff_ne]; omega
  simp [this]
theorem index_none' (d : UInt8) : ∀ x : List UInt8, (∀ c ∈ x, c ≠ d) → Lib.index x [d] = -1
 | [], _ => rfl
 | c :: x, h => by
  have ih := index_none' d x (fun y hy => h y (List.mem_cons_of_mem _ hy))
  have hc : (d == c) = false := beq_eq_false_iff_ne.2 (fun e => h c (by simp) e.symm)
  unfold Lib.index
  rw [if_neg (by simp [List.isPrefixOf, hc]), ih]
  rfl
def joinS : List (List UInt8) → List UInt8
 | [] => []
 | x :: r => x ++ r.flatMap fun w => 32 :: w
theorem joinS_cons (x y : List UInt8) (l : List (List UInt8)) : joinS (x :: y :: l) = x ++ 32 :: joinS (y :: l) := by
 simp [joinS]
theorem joinS_one (x : List UInt8) : joinS [x] = x := by simp [joinS]
theorem split_join : ∀ (ws : List (List UInt8)) (k : Nat), (∀ w ∈ ws, ∀ c ∈ w, c ≠ 32) → ws ≠ [] → ws.length ≤ k + 1 → Lib.splitK [32] 0 k (joinS ws) = ws
 | [], _, _, h, _ => absurd rfl h
 | [x], k, hf, _, _ => by
  rw [joinS_one]
  cases k with
  | zero => rfl
  | succ k =>
   unfold Lib.splitK
   rw [index_none' 32 x (hf x (by simp))]
   rfl
 | x :: y :: l, k, hf, _, hk => by
  rw [joinS_cons]
  cases k with
  | zero => simp at hk
  | succ k =>
   unfold Lib.splitK
   rw [index_free 32 _ x (hf x (by simp))]
   have hi : ¬ ((x.length : Int) == -1) = true := fun e => by have := beq_iff_eq.1 e; omega
   rw [if_neg hi]
   have e1 : (x ++ 32 :: joinS (y :: l)).take (((x.length : Int)).toNat + 0) = x := by simp
   have e2 : (x ++ 32 :: joinS (y :: l)).drop (((x.length : Int)).toNat + [(32 : UInt8)].length) = joinS (y :: l) := by
    rw [show ((x.length : Int)).toNat + [(32 : UInt8)].length = (x ++ [32]).length by simp, show x ++ 32 :: joinS (y :: l) = (x ++ [32]) ++ joinS (y :: l) by simp, List.drop_left]
   rw [e1, e2, split_join (y :: l) k (fun w hw => hf w (List.mem_cons_of_mem _ hw)) (by simp) (by simp at hk ⊢; omega)]
theorem count_join : ∀ (ws : List (List UInt8)) (k : Nat), (∀ w ∈ ws, ∀ c ∈ w, c ≠ 32) → ws ≠ [] → (joinS ws).length < k → Lib.countFrom [32] k (joinS ws) + 1 = ws.length
 | [], _, _, h, _ => absurd rfl h
 | [x], k, hf, _, hk => by
  rw [joinS_one] at hk ⊢
  cases k with
  | zero => omega
  | succ k =>
   unfold Lib.countFrom
   rw [index_none' 32 x (hf x (by simp))]
   rfl
 | x :: y :: l, k, hf, _, hk => by
  rw [joinS_cons] at hk ⊢
  cases k with
  | zero => omega
  | succ k =>
   unfold Lib.countFrom
   rw [index_free 32 _ x (hf x (by simp))]
   have hi : ¬ ((x.length : Int) == -1) = true := fun e => by have := beq_iff_eq.1 e; omega
   rw [if_neg hi]
   have e2 : (x ++ 32 :: joinS (y :: l)).drop (((x.length : Int)).toNat + [(32 : UInt8)].length) = joinS (y :: l) := by
    rw [show ((x.length : Int)).toNat + [(32 : UInt8)].length = (x ++ [32]).length by simp, show x ++ 32 :: joinS (y :: l) = (x ++ [32]) ++ joinS (y :: l) by simp, List.drop_left]
   rw [e2]
   have hl : (joinS (y :: l)).length < k := by simp at hk; omega
   have ih := count_join (y :: l) k (fun w hw => hf w (List.mem_cons_of_mem _ hw)) (by simp) hl
   simp only [List.length_cons] at ih ⊢
   omega
theorem words_of {ws : List (List UInt8)} (hf : ∀ w ∈ ws, ∀ c ∈ w, c ≠ 32) (h0 : ws ≠ []) : wordsP (joinS ws) = ws := by
 unfold wordsP wordsB
 rw [Lib.splitB_data]
 have hc : Lib.countB ⟨⟨joinS ws⟩⟩ spB = Lib.countFrom [32] ((joinS ws).length + 1) (joinS ws) := rfl
 have := count_join ws ((joinS ws).length + 1) hf h0 (Nat.lt_succ_self _)
 rw [hc]
 exact split_join ws _ hf h0 (by omega)
end Go.Proofs.YtdcbnkimjhefkaaGreatDoor

namespace Go.Proofs.YtdcbnkimjhefkaaGreatDoor
open Go.RowKit
set_option maxRecDepth 100000
end Go.Proofs.YtdcbnkimjhefkaaGreatDoor

namespace Go.Proofs.YtdcbnkimjhefkaaGreatDoor
open Go.RowKit
set_option maxRecDepth 100000
structure Good (c : Cmd) (F : Form) : Prop where
 mem : F ∈ forms
 fk : c.fk = F.fact
 ok : okL c F.letters = true
 left : restP c F.letters = { Cmd.of F with txt := c.txt }
 txt : F.fact ≠ 5 → c.txt = []
 lined : F.fact = 5 → linedP c.txt = true
theorem good_of {c : Cmd} (h : okC c = true) : ∃ F, formOf c = some F ∧ Good c F := by
 unfold okC at h
 cases hf : formOf c with
 | none => rw [hf] at h; cases h
 | some F =>
  rw [hf] at h
  replace h : ((okL c F.letters && (F.fact != 5 || linedP c.txt)) && decide (leftP c F = Cmd.of F)) = true := h
  simp only [Bool.and_eq_true, decide_eq_true_eq] at h
  obtain ⟨⟨h1, h2⟩, h3⟩ := h
  have hfi : formIs c F = true := List.find?_some hf
  have hfk : c.fk = F.fact := by
   unfold formIs at hfi
   rw [Bool.and_eq_true] at hfi
   exact (beq_iff_eq.1 hfi.2).symm
  have hrt := rest_own_txt F.letters c
  refine ⟨F, rfl, List.mem_of_find?_eq_some hf, hfk, h1, ?_, fun h5 => ?_, fun h5 => ?_⟩
  ·unfold leftP at h3
   split at h3
   ·rw [← h3, ← hrt]
   ·have : c.txt = [] := by rw [← hrt, h3]; rfl
    rw [h3, this]
    rfl
  ·unfold leftP at h3
   rw [if_neg h5] at h3
   rw [← hrt, h3]
   rfl
  ·rw [h5] at h2
   simpa using h2
theorem splitL_none (d : UInt8) : ∀ s : List UInt8, (cutP d s).2.2 = false → splitL d s = ([], s)
 | [], _ => rfl
 | c :: r, h => by
  unfold cutP at h
  split at h
  ·cases h
  ·rename_i hc
   rw [splitL, if_neg hc, splitL_none d r h]
end Go.Proofs.YtdcbnkimjhefkaaGreatDoor

namespace Go.Proofs.YtdcbnkimjhefkaaGreatDoor
open Go.RowKit
set_option maxRecDepth 100000
noncomputable def codeSame : Code := Tryz.f19.body.getD .skip
noncomputable def tSam0 : List Item := advT 60 [.code codeSame]
noncomputable def tSam1 : List Item := advT 60 (elseT tSam0)
noncomputable def tSam2 : List Item := advT 60 (bodyT tSam1)
noncomputable def tSam3 : List Item := advG (thenT tSam2)
noncomputable def tSam4 : List Item := advT 60 (tailT tSam3)
theorem same_any (l1 l2 : List Cmd) (v1 v2 : Value) (w : World) (h1 : ∀ c ∈ l1, c.Wf) (h2 : ∀ c ∈ l2, c.Wf) (hv1 : CmdsAt w w.heap.size v1 l1) (hv2 : CmdsAt w w.heap.size v2 l2) (hn1 : l1.length ≤ 9223372036854775806) (_hn2 : l2.length ≤ 9223372036854775806) :
  Calls Tryz.prog 19 #[v1, v2] w fun e w' => e = .returned (.bool (decide (l1 = l2))) ∧ Below w.heap.size w w' := by
 obtain ⟨a1, cap1, rfl, hc1⟩ := hv1
 obtain ⟨a2, cap2, rfl, hc2⟩ := hv2
 refine calls_at (args := [.slice a1 l1.length cap1, .slice a2 l2.length cap2]) (fn := Tryz.f19) (c := codeSame) (n := 26) (by kernel_rfl) (by kernel_rfl) (by kernel_rfl) (by kernel_rfl) ?_
 refine at_run 60 [.code codeSame] w.heap.size [] [] tSam0 [(0, .slice a1 l1.length cap1), (1, .slice a2 l2.length cap2), (10, .bool (!((l1.length : Int) == (l2.length : Int))))] w.heap.size [] (lies_nil w) (by kernel_rfl) fun w1 E1 hL1 hK1 => ?_
 have B1 : Below w.heap.size w w1 := hK1.below (Nat.le_refl _) (fun k hk => by cases hk)
 by_cases hlen : l1.length = l2.length
 ·have e : (!((l1.length : Int) == (l2.length : Int))) = false := by rw [hlen]; simp
  rw [e]
  refine at_cond false (by kernel_rfl) (fun h => nomatch h) fun _ => ?_
  refine at_run 60 (elseT tSam0) w1.heap.size [] [] tSam1 [(0, .slice a1 l1.length cap1), (1, .slice a2 l2.length cap2), (5, .int .i64 0)] w1.heap.size [] (lies_nil w1) (by kernel_rfl) fun w2 E2 hL2 hK2 => ?_
  have B2 : Below w.heap.size w w2 := B1.trans ((hK2.below (Nat.le_refl _) (fun k hk => by cases hk) : Below w1.heap.size w1 w2).mono B1.size)
  refine at_loop (by kernel_rfl) (fun E wx => ∃ (i : Nat) (E0 : Nat → Value), i ≤ l1.length ∧ E = updL E0 [(0, .slice a1 l1.length cap1), (1, .slice a2 l2.length cap2), (5, .int .i64 (i : Int))] ∧ l1.take i = l2.take i ∧ Below w.heap.size w wx)
   (fun E _ => l1.length - idxOf (E 5)) ⟨0, E2, Nat.zero_le _, rfl, by simp, B2⟩ ?_
  rintro E wx ⟨i, E0, hi, rfl, htk, hB⟩ hagain
  refine at_run 60 (bodyT tSam1) wx.heap.size [] [] tSam2 [(0, .slice a1 l1.length cap1), (1, .slice a2 l2.length cap2), (5, .int .i64 (i : Int)), (14, .bool (decide ((i : Int) < (l1.length : Int))))] wx.heap.size [] (lies_nil wx) (by kernel_rfl) fun w3 E3 hL3 hK3 => ?_
  have B3 : Below w.heap.size w w3 := hB.trans ((hK3.below (Nat.le_refl _) (fun k hk => by cases hk) : Below wx.heap.size wx w3).mono hB.size)
  refine at_cond (decide ((i : Int) < (l1.length : Int))) (by kernel_rfl) (fun ht => ?_) (fun hf => ?_)
  ·have hlt : i < l1.length := by have := of_decide_eq_true ht; omega
   have hlt2 : i < l2.length := by omega
   have n1 : l1 ≠ [] := fun e => by rw [e] at hlt; exact absurd hlt (Nat.not_lt_zero _)
   have n2 : l2 ≠ [] := fun e => by rw [e] at hlt2; exact absurd hlt2 (Nat.not_lt_zero _)
   obtain ⟨g1, o1, rfl, hg1, hx1⟩ := hc1 n1
   obtain ⟨g2, o2, rfl, hg2, hx2⟩ := hc2 n2
   have hci1 := hx1 i hlt
   have hci2 := hx2 i hlt2
   have t1 : l1.take (i + 1) = l1.take i ++ [l1[i]] := by rw [List.take_add_one, List.getElem?_eq_getElem hlt]; rfl
   have t2 : l2.take (i + 1) = l2.take i ++ [l2[i]] := by rw [List.take_add_one, List.getElem?_eq_getElem hlt2]; rfl
   have wf1 := h1 l1[i] (List.getElem_mem hlt)
   have wf2 := h2 l2[i] (List.getElem_mem hlt2)
   have hne : l1[i] ≠ l2[i] → l1 ≠ l2 := fun hn e => hn (by simp [e])
   generalize l1[i] = c1 at *
   generalize l2[i] = c2 at *
   refine at_run (cntG 90 (thenT tSam2)) (thenT tSam2) w3.heap.size [] [] tSam3 [(0, .slice (some ⟨g1, o1, none⟩) l1.length cap1), (1, .slice (some ⟨g2, o2, none⟩) l2.length cap2), (5, .int .i64 (i : Int))] w3.heap.size [] (lies_nil w3) (by kernel_rfl) fun w4 E4 hL4 hK4 => ?_
   have B4 : Below w.heap.size w w4 := B3.trans ((hK4.below (Nat.le_refl _) (fun k hk => by cases hk) : Below w3.heap.size w3 w4).mono B3.size)
   refine at_ghost ((curReg tSam3).getD #[]) ⟨[⟨g1, o1 + i * 13, c1.cells, 0, false⟩, ⟨g2, o2 + i * 13, c2.cells, 0, false⟩], [(3, 0, 0), (7, 1, 0)], [⟨2, [(17, .slice (some ⟨g1, o1, none⟩) l1.length cap1), (18, .int .i64 (i : Int))], .pointer (some ⟨g1, o1 + i * 13, none⟩), true⟩, ⟨6, [(21, .slice (some ⟨g2, o2, none⟩) l2.length cap2), (22, .int .i64 (i : Int))], .pointer (some ⟨g2, o2 + i * 13, none⟩), true⟩, ⟨8, [(20, .agg ⟨c1.cells⟩), (24, .agg ⟨c2.cells⟩)], .bool (!(decide (c1 = c2))), true⟩]⟩ [(0, .slice (some ⟨g1, o1, none⟩) l1.length cap1), (1, .slice (some ⟨g2, o2, none⟩) l2.length cap2), (5, .int .i64 (i : Int)), (25, .bool (!(decide (c1 = c2))))] (by kernel_rfl) (by kernel_rfl) (by kernel_rfl)
    (fun e he => ?_) (fun sp hsp => ?_) (fun X => by kernel_rfl) (by kernel_rfl) fun w5 E5 b5 => ?_
   ·simp only [List.mem_cons, List.not_mem_nil, or_false] at he
    rcases he with rfl | rfl
    ·exact ⟨Nat.lt_of_lt_of_le hg1 B4.size, fun j x hj => (World.cell?_of_block (B4.block _ hg1)).trans (hci1 j x hj)⟩
    ·exact ⟨Nat.lt_of_lt_of_le hg2 B4.size, fun j x hj => (World.cell?_of_block (B4.block _ hg2)).trans (hci2 j x hj)⟩
   ·simp only [List.mem_cons, List.not_mem_nil, or_false] at hsp
    rcases hsp with rfl | rfl | rfl
    ·refine spec_op fun _ E w _ => ?_
     exact exec_index (sz := 13) (cap := cap1) (k := i) 50 (.tmp 17) (.tmp 18) (by kernel_rfl) (by kernel_rfl) (by kernel_rfl) hlt Tryz.underlying50 (by kernel_rfl)
    ·refine spec_op fun _ E w _ => ?_
     exact exec_index (sz := 13) (cap := cap2) (k := i) 50 (.tmp 21) (.tmp 22) (by kernel_rfl) (by kernel_rfl) (by kernel_rfl) hlt2 Tryz.underlying50 (by kernel_rfl)
    ·refine spec_op fun _ E w _ => ?_
     exact exec_neq (T := 64) (T' := 64) (x := .tmp 20) (y := .tmp 24) (by kernel_rfl) (by kernel_rfl) (by kernel_rfl) (by kernel_rfl) (run_cmd_eq c1 c2 wf1 wf2 w)
   have B5 := B4.trans (b5.mono B4.size)
   refine at_run 60 (tailT tSam3) w5.heap.size [] [] tSam4 [(0, .slice (some ⟨g1, o1, none⟩) l1.length cap1), (1, .slice (some ⟨g2, o2, none⟩) l2.length cap2), (5, .int .i64 (i : Int)), (25, .bool (!(decide (c1 = c2))))] w5.heap.size [] (lies_nil w5) (by kernel_rfl) fun w6 E6 hL6 hK6 => ?_
   have B6 : Below w.heap.size w w6 := B5.trans ((hK6.below (Nat.le_refl _) (fun k hk => by cases hk) : Below w5.heap.size w5 w6).mono B5.size)
   by_cases heq : c1 = c2
   ·rw [decide_eq_true heq]
    refine at_cond false (by kernel_rfl) (fun h => nomatch h) fun _ => ?_
    refine at_run 60 (elseT tSam4) w6.heap.size [] [] (againT tSam1) [(0, .slice (some ⟨g1, o1, none⟩) l1.length cap1), (1, .slice (some ⟨g2, o2, none⟩) l2.length cap2), (5, .int .i64 (IntKind.i64.wrap ((i : Int) + 1)))] w6.heap.size [] (lies_nil w6) (by kernel_rfl) fun w7 E7 hL7 hK7 => ?_
    have hw : IntKind.i64.wrap ((i : Int) + 1) = ((i + 1 : Nat) : Int) := by
     rw [IntWalk.i64_in _ (by omega)]
     omega
    rw [hw]
    refine hagain _ _ ⟨i + 1, E7, hlt, rfl, by rw [t1, t2, htk, heq], B6.trans ((hK7.below (Nat.le_refl _) (fun k hk => by cases hk) : Below w6.heap.size w6 w7).mono B6.size)⟩ ?_
    show l1.length - idxOf (.int .i64 ((i + 1 : Nat) : Int)) < l1.length - idxOf (.int .i64 (i : Int))
    simp only [idxOf, Int.toNat_natCast]
    omega
   ·rw [decide_eq_false heq]
    refine at_cond true (by kernel_rfl) (fun _ => ?_) (fun h => nomatch h)
    refine at_endT (fn := Tryz.f19) 60 (.bool false) (by kernel_rfl) (by kernel_rfl) fun w7 B7 => ?_
    rw [decide_eq_false (hne heq)]
    exact ⟨rfl, B6.trans (B7.mono B6.size)⟩
  ·have hil : i = l1.length := by have := of_decide_eq_false hf; omega
   have heq : l1 = l2 := by rw [hil, List.take_length, hlen, List.take_length] at htk; exact htk
   refine at_endT (fn := Tryz.f19) 60 (.bool true) (by kernel_rfl) (by kernel_rfl) fun w7 B7 => ?_
   rw [decide_eq_true heq]
   exact ⟨rfl, B3.trans (B7.mono B3.size)⟩
 ·have e : (!((l1.length : Int) == (l2.length : Int))) = true := by
   have : ((l1.length : Int) == (l2.length : Int)) = false := beq_eq_false_iff_ne.2 (by omega)
   rw [this]
   rfl
  rw [e]
  refine at_cond true (by kernel_rfl) (fun _ => ?_) (fun h => nomatch h)
  refine at_endT (fn := Tryz.f19) 60 (.bool false) (by kernel_rfl) (by kernel_rfl) fun w2 B2 => ?_
  rw [decide_eq_false (fun e => hlen (by rw [e]))]
  exact ⟨rfl, B1.trans (B2.mono B1.size)⟩
end Go.Proofs.YtdcbnkimjhefkaaGreatDoor

namespace Go.Proofs.YtdcbnkimjhefkaaGreatDoor
open Go.RowKit
set_option maxRecDepth 100000
theorem text_pos (c : Cmd) (h : okC c = true) : 1 ≤ (textC c).length := by
 obtain ⟨F, hf, _⟩ := good_of h
 simp only [textC, hf, linesP, List.length_append, List.length_cons, List.length_nil]
 omega
theorem flat_len : ∀ l : List Cmd, (∀ c ∈ l, okC c = true) → l.length ≤ (l.flatMap textC).length
 | [], _ => Nat.zero_le _
 | c :: l, h => by
  have h1 := text_pos c (h c (by simp))
  have h2 := flat_len l fun x hx => h x (by simp [hx])
  rw [List.flatMap_cons, List.length_append, List.length_cons]
  omega
theorem flat_le (m : Nat) : ∀ l : List Cmd, (∀ c ∈ l, (textC c).length ≤ m) → (l.flatMap textC).length ≤ m * l.length
 | [], _ => Nat.le_refl _
 | c :: l, h => by
  have h1 := h c (by simp)
  have h2 := flat_le m l fun x hx => h x (by simp [hx])
  rw [List.flatMap_cons, List.length_append, List.length_cons, Nat.mul_succ]
  omega
theorem par_count {s : List UInt8} {l : List Cmd} (hs : s.length ≤ 65536) (h : parB (s.length + 1) s 1 [] = .ok l) : l.length ≤ s.length := by
 obtain ⟨l2, e, h1, h2⟩ := par_text _ s 1 [] l (Nat.lt_succ_self _) (by omega) h
 rw [List.nil_append] at e
 subst e
 have := flat_len l fun c hc => (h1 c hc).1
 rw [← h2] at this
 exact this
theorem own_cmds {w : World} {base : Nat} {v : Value} {l : List Cmd} (h : w.ownsRow base 64 13 v l.length (l.flatMap Cmd.cells)) : CmdsAt w w.heap.size v l := by
 obtain ⟨_, h⟩ := h
 rcases h with ⟨rfl, h0⟩ | ⟨g, cap, cur, rfl, _, hgb, hnc, hcm, hcs, htake⟩
 ·refine ⟨none, 0, by rw [h0], fun hne => absurd (List.length_eq_zero_iff.1 h0) hne⟩
 refine ⟨some ⟨g, 0, none⟩, cap, rfl, fun _ => ⟨g, 0, rfl, heap_lt hgb, fun i hi j u hu => ?_⟩⟩
 unfold World.cell?
 simp only [hgb]
 have hj : j < 13 := (List.getElem?_eq_some_iff.1 hu).1
 have h2 : (l.flatMap Cmd.cells)[0 + i * 13 + j]? = some u := by
  rw [Nat.zero_add]
  have key : ∀ (l : List Cmd) (i : Nat) (hi : i < l.length), (l.flatMap Cmd.cells)[i * 13 + j]? = (l[i]).cells[j]? := by
   intro l
   induction l with
   | nil => intro i hi; exact absurd hi (Nat.not_lt_zero _)
   | cons c l ih =>
    intro i hi
    have hcl : c.cells.length = 13 := rfl
    cases i with
    | zero =>
     rw [List.flatMap_cons, Nat.zero_mul, Nat.zero_add, List.getElem?_append_left (by rw [hcl]; exact hj)]
     rfl
    | succ i =>
     rw [List.flatMap_cons, List.getElem?_append_right (by rw [hcl]; omega), hcl]
     have e : (i + 1) * 13 + j - 13 = i * 13 + j := by omega
     rw [e, ih i (by simpa using hi)]
     rfl
  rw [key l i hi]; exact hu
 rw [← htake] at h2
 rw [List.getElem?_take] at h2
 split at h2
 ·rw [Array.getElem?_toList] at h2
  simpa using h2
 ·cases h2
variable {w0 : World}
end Go.Proofs.YtdcbnkimjhefkaaGreatDoor

namespace Go.Proofs.YtdcbnkimjhefkaaGreatDoor
open Go.RowKit
set_option maxRecDepth 100000
end Go.Proofs.YtdcbnkimjhefkaaGreatDoor

namespace Go.Proofs.YtdcbnkimjhefkaaGreatDoor
open Go.RowKit
section
variable {P : Program} {f : FuncId} {R : Ending → World → Prop}
end
end Go.Proofs.YtdcbnkimjhefkaaGreatDoor

namespace Go.Proofs.YtdcbnkimjhefkaaGreatDoor
open Go.RowKit
set_option maxRecDepth 100000
theorem own_slice {w : World} {base : Nat} {e : TypeId} {size : Nat} {v : Value} {k : Nat} {xs : List Value} (h : w.ownsRow base e size v k xs) : ∃ A c, v = .slice A k c := by
 rcases h.2 with ⟨rfl, rfl⟩ | ⟨g, cap, cur, rfl, _⟩
 ·exact ⟨none, 0, rfl⟩
 ·exact ⟨_, _, rfl⟩
variable {w0 w : World} {k : Nat} {E : Nat → Value} {v : Value} {S : List UInt8}
structure LmS (w0 : World) (v : Value) (l : List UInt8) (w : World) : Prop where
 bel : Below w0.heap.size w0 w
 own : w.ownsRow w0.heap.size 5 1 v l.length (Lib.strCells ⟨⟨l⟩⟩)
theorem LmS.below {l : List UInt8} {w' : World} (h : LmS w0 v l w) (hb : Below w.heap.size w w') : LmS w0 v l w' :=
 ⟨h.bel.trans (hb.mono h.bel.size), owns_keep h.own fun g hg => hb.block g (own_block h.own hg).2⟩
theorem LmS.grown {l l' : List UInt8} {v' : Value} {w' : World} (h : LmS w0 v l w) (hg : w.grownBy w' v.ownBlock) (ho : w'.ownsRow w0.heap.size 5 1 v' l'.length (Lib.strCells ⟨⟨l'⟩⟩)) : LmS w0 v' l' w' := by
 have hB := h.bel
 refine ⟨⟨hg.os.trans hB.os, hg.tape.trans hB.tape, hg.output.trans hB.output, Nat.le_trans hB.size hg.size, fun k hk => (hg.block k (Nat.lt_of_lt_of_le hk hB.size) (fun e => ?_)).trans (hB.block k hk)⟩, ho⟩
 have := own_block h.own e.symm
 omega
/-! the text -/
def ExtB (w w' : World) : Prop := Below w.heap.size w w'
theorem ExtB.refl (w : World) : ExtB w w := Below.refl _ _
theorem ExtB.trans {a b c : World} (h : ExtB a b) (k : ExtB b c) : ExtB a c := Below.trans h (Below.mono k (Below.size h))
theorem ExtB.range {u u' : World} {g : Nat} {cs : List Value} (he : ExtB u u') (hl : g < u.heap.size) (h : u.rangeAt g 0 cs) : u'.rangeAt g 0 cs := fun j x hj => (World.cell?_of_block (Below.block he g hl)).trans (h j x hj)
abbrev envLm (k : Nat) (v : Value) : List (Nat × Value) := [(3, .int .i64 (k : Nat)), (4, v)]
def lenOf : Value → Nat
 | .slice _ n _ => n
 | _ => 0
end Go.Proofs.YtdcbnkimjhefkaaGreatDoor

/-
  Numbers and words that are printed are read back.
  A printable command's line is read as the command.
-/
import Derived.Test.YtdcbnkimjhefkaaGreatDoorW31
import Derived.Test.YtdcbnkimjhefkaaGreatDoorW32
namespace Go.Proofs.YtdcbnkimjhefkaaGreatDoor
open Go.RowKit
set_option maxRecDepth 100000
theorem digit_toNat {d : Nat} (h : d < 10) : (UInt8.ofNat (48 + d)).toNat = 48 + d := by
  rw [UInt8.toNat_ofNat']
  omega
theorem parse_snoc (c : UInt8) : ∀ (l : List UInt8) (acc m : Nat), Lib.parseUint10 acc l = .ok m → Lib.parseUint10 acc (l ++ [c]) = Lib.parseUint10 m [c]
  | [], acc, m, h => by
    simp only [Lib.parseUint10] at h
    injection h with h
    subst h
    rfl
  | x :: l, acc, m, h => by
    rw [List.cons_append]
    rw [Lib.parseUint10] at h ⊢
    split at h
    · rename_i h1
      rw [if_pos h1]
      split at h
      · cases h
      · rename_i h2
        rw [if_neg h2]
        split at h
        · cases h
        · rename_i h3
          rw [if_neg h3]
          exact parse_snoc c l _ m h
    · cases h
theorem parse_dec (u : Nat) (hu : u ≤ 1000000000000000000) : Lib.parseUint10 0 (Lib.decDigits u) = .ok u := by
  induction u using Nat.strongRecOn with
  | ind u ih =>
    rw [Lib.decDigits]
    split
    · rename_i h
      rw [Lib.parseUint10, digit_toNat h, if_pos (by omega), if_neg (by omega), if_neg (by omega), Lib.parseUint10]
      congr 1
      omega
    · rename_i h
      have h10 : u % 10 < 10 := Nat.mod_lt _ (by decide)
      rw [parse_snoc _ _ _ _ (ih (u / 10) (by omega) (by omega)), Lib.parseUint10, digit_toNat h10, if_pos (by omega), if_neg (by omega), if_neg (by omega), Lib.parseUint10]
      congr 1
      omega
theorem dec_digits (u : Nat) : ∀ c ∈ Lib.decDigits u, 48 ≤ c.toNat ∧ c.toNat ≤ 57 := by
  induction u using Nat.strongRecOn with
  | ind u ih =>
    intro c hc
    rw [Lib.decDigits] at hc
    split at hc
    · rename_i h
      rw [List.mem_singleton] at hc
      rw [hc, digit_toNat h]
      omega
    · rename_i h
      rcases List.mem_append.1 hc with hc | hc
      · exact ih (u / 10) (by omega) c hc
      · rw [List.mem_singleton] at hc
        rw [hc, digit_toNat (Nat.mod_lt _ (by decide))]
        omega
theorem dec_ne (u : Nat) : ∃ c r, Lib.decDigits u = c :: r := by
  rw [Lib.decDigits]
  split
  · exact ⟨_, _, rfl⟩
  · cases h : Lib.decDigits (u / 10) with
    | nil => exact ⟨_, _, rfl⟩
    | cons c r => exact ⟨c, r ++ [UInt8.ofNat (48 + u % 10)], rfl⟩
theorem numO_itoa {n : Int} (h1 : -1000000000000000000 ≤ n) (h2 : n ≤ 1000000000000000000) : numO (Lib.itoa n) = some n := by
  have hat : Lib.atoiAll (Lib.itoa n) = .ok n := by
    unfold Lib.itoa
    split
    · rename_i hn
      obtain ⟨c, r, hd⟩ := dec_ne n.natAbs
      have hp := parse_dec n.natAbs (by omega)
      unfold Lib.atoiAll
      have e45 : (45 : UInt8).toNat = 45 := rfl
      simp only [e45, or_true, if_true]
      unfold Lib.parseMag
      rw [hp, hd, if_neg (by simp)]
      simp only [not_true_eq_false, false_and, if_false, true_and]
      rw [if_neg (by omega)]
      congr 1
      omega
    · rename_i hn
      obtain ⟨c, r, hd⟩ := dec_ne n.toNat
      have hp := parse_dec n.toNat (by omega)
      have hc := dec_digits n.toNat c (by rw [hd]; simp)
      rw [hd] at hp ⊢
      unfold Lib.atoiAll
      have e1 : ¬ c.toNat = 43 := by omega
      have e2 : ¬ c.toNat = 45 := by omega
      simp only [e1, e2, or_self, not_false_eq_true, true_and, if_false, false_and]
      unfold Lib.parseMag
      rw [hp, if_neg (by simp)]
      simp only
      rw [if_neg (by omega)]
      congr 1
      omega
  unfold numO
  rw [hat]
  exact if_pos ⟨rfl, h1, h2⟩
theorem index_free (d : UInt8) (r : List UInt8) : ∀ x : List UInt8, (∀ c ∈ x, c ≠ d) → Lib.index (x ++ d :: r) [d] = (x.length : Int)
  | [], _ => by
    show Lib.index (d :: r) [d] = 0
    unfold Lib.index
    rw [if_pos (by simp [List.isPrefixOf])]
  | c :: x, h => by
    have ih := index_free d r x (fun y hy => h y (List.mem_cons_of_mem _ hy))
    have hc : (d == c) = false := beq_eq_false_iff_ne.2 (fun e => h c (by simp) e.symm)
    rw [List.cons_append]
    unfold Lib.index
    rw [if_neg (by simp [List.isPrefixOf, hc]), ih]
    have : ((x.length : Int) == -1) = false := by rw [beq_eq_false_iff_ne]; omega
    simp [this]
theorem index_none' (d : UInt8) : ∀ x : List UInt8, (∀ c ∈ x, c ≠ d) → Lib.index x [d] = -1
  | [], _ => rfl
  | c :: x, h => by
    have ih := index_none' d x (fun y hy => h y (List.mem_cons_of_mem _ hy))
    have hc : (d == c) = false := beq_eq_false_iff_ne.2 (fun e => h c (by simp) e.symm)
    unfold Lib.index
    rw [if_neg (by simp [List.isPrefixOf, hc]), ih]
    rfl
def joinS : List (List UInt8) → List UInt8
  | [] => []
  | x :: r => x ++ r.flatMap fun w => 32 :: w
theorem joinS_cons (x y : List UInt8) (l : List (List UInt8)) : joinS (x :: y :: l) = x ++ 32 :: joinS (y :: l) := by
  simp [joinS]
theorem joinS_one (x : List UInt8) : joinS [x] = x := by simp [joinS]
theorem split_join : ∀ (ws : List (List UInt8)) (k : Nat), (∀ w ∈ ws, ∀ c ∈ w, c ≠ 32) → ws ≠ [] → ws.length ≤ k + 1 → Lib.splitK [32] 0 k (joinS ws) = ws
  | [], _, _, h, _ => absurd rfl h
  | [x], k, hf, _, _ => by
    rw [joinS_one]
    cases k with
    | zero => rfl
    | succ k =>
      unfold Lib.splitK
      rw [index_none' 32 x (hf x (by simp))]
      rfl
  | x :: y :: l, k, hf, _, hk => by
    rw [joinS_cons]
    cases k with
    | zero => simp at hk
    | succ k =>
      unfold Lib.splitK
      rw [index_free 32 _ x (hf x (by simp))]
      have hi : ¬ ((x.length : Int) == -1) = true := fun e => by have := beq_iff_eq.1 e; omega
      rw [if_neg hi]
      have e1 : (x ++ 32 :: joinS (y :: l)).take (((x.length : Int)).toNat + 0) = x := by simp
      have e2 : (x ++ 32 :: joinS (y :: l)).drop (((x.length : Int)).toNat + [(32 : UInt8)].length) = joinS (y :: l) := by
        rw [show ((x.length : Int)).toNat + [(32 : UInt8)].length = (x ++ [32]).length by simp, show x ++ 32 :: joinS (y :: l) = (x ++ [32]) ++ joinS (y :: l) by simp, List.drop_left]
      rw [e1, e2, split_join (y :: l) k (fun w hw => hf w (List.mem_cons_of_mem _ hw)) (by simp) (by simp at hk ⊢; omega)]
theorem count_join : ∀ (ws : List (List UInt8)) (k : Nat), (∀ w ∈ ws, ∀ c ∈ w, c ≠ 32) → ws ≠ [] → (joinS ws).length < k → Lib.countFrom [32] k (joinS ws) + 1 = ws.length
  | [], _, _, h, _ => absurd rfl h
  | [x], k, hf, _, hk => by
    rw [joinS_one] at hk ⊢
    cases k with
    | zero => omega
    | succ k =>
      unfold Lib.countFrom
      rw [index_none' 32 x (hf x (by simp))]
      rfl
  | x :: y :: l, k, hf, _, hk => by
    rw [joinS_cons] at hk ⊢
    cases k with
    | zero => omega
    | succ k =>
      unfold Lib.countFrom
      rw [index_free 32 _ x (hf x (by simp))]
      have hi : ¬ ((x.length : Int) == -1) = true := fun e => by have := beq_iff_eq.1 e; omega
      rw [if_neg hi]
      have e2 : (x ++ 32 :: joinS (y :: l)).drop (((x.length : Int)).toNat + [(32 : UInt8)].length) = joinS (y :: l) := by
        rw [show ((x.length : Int)).toNat + [(32 : UInt8)].length = (x ++ [32]).length by simp, show x ++ 32 :: joinS (y :: l) = (x ++ [32]) ++ joinS (y :: l) by simp, List.drop_left]
      rw [e2]
      have hl : (joinS (y :: l)).length < k := by simp at hk; omega
      have ih := count_join (y :: l) k (fun w hw => hf w (List.mem_cons_of_mem _ hw)) (by simp) hl
      simp only [List.length_cons] at ih ⊢
      omega
theorem words_of {ws : List (List UInt8)} (hf : ∀ w ∈ ws, ∀ c ∈ w, c ≠ 32) (h0 : ws ≠ []) : wordsP (joinS ws) = ws := by
  unfold wordsP wordsB
  rw [Lib.splitB_data]
  have hc : Lib.countB ⟨⟨joinS ws⟩⟩ spB = Lib.countFrom [32] ((joinS ws).length + 1) (joinS ws) := rfl
  have := count_join ws ((joinS ws).length + 1) hf h0 (Nat.lt_succ_self _)
  rw [hc]
  exact split_join ws _ hf h0 (by omega)
end Go.Proofs.YtdcbnkimjhefkaaGreatDoor

namespace Go.Proofs.YtdcbnkimjhefkaaGreatDoor
open Go.RowKit
set_option maxRecDepth 100000
theorem fits_un {n : Int} (h : fitsP n = true) : -1000000000000000000 ≤ n ∧ n ≤ 1000000000000000000 := by
  unfold fitsP at h
  rw [Bool.and_eq_true] at h
  exact ⟨of_decide_eq_true h.1, of_decide_eq_true h.2⟩
theorem numO_dec {n : Nat} (h : (n : Int) ≤ 1000000000000000000) : numO (Lib.decDigits n) = some (n : Int) := by
  have := numO_itoa (n := (n : Int)) (by omega) h
  rw [Lib.itoa_nonneg] at this
  exact this
theorem itoa_free (n : Int) : ∀ c ∈ Lib.itoa n, c ≠ 32 ∧ c ≠ 10 := by
  have key : ∀ (u : Nat) (c : UInt8), c ∈ Lib.decDigits u → c ≠ 32 ∧ c ≠ 10 := fun u c hc => by
    have := dec_digits u c hc
    exact ⟨fun e => by subst e; simp at this, fun e => by subst e; simp at this⟩
  intro c hc
  unfold Lib.itoa at hc
  split at hc
  · rcases List.mem_cons.1 hc with rfl | hc
    · exact ⟨by decide, by decide⟩
    · exact key _ c hc
  · exact key _ c hc
theorem dec_free (n : Nat) : ∀ c ∈ Lib.decDigits n, c ≠ 32 ∧ c ≠ 10 := by
  have := itoa_free (n : Int)
  rw [Lib.itoa_nonneg] at this
  exact this
theorem name_free {l : List UInt8} (h : Tk.isName l = true) : ∀ c ∈ l, c ≠ 32 ∧ c ≠ 10 := by
  unfold Tk.isName at h
  simp only [Bool.and_eq_true, decide_eq_true_eq] at h
  obtain ⟨⟨⟨h1, _⟩, h2⟩, _⟩ := h
  cases l with
  | nil => exact fun c hc => by cases hc
  | cons x r =>
    replace h2 : (if Tk.isLow x = true then Tk.lead Tk.isWord r + 1 else 0) = r.length + 1 := h2
    split at h2
    · rename_i hx
      have hr : Tk.lead Tk.isWord r = r.length := Nat.succ.inj h2
      intro c hc
      rcases List.mem_cons.1 hc with rfl | hc
      · exact ⟨fun e => by subst e; exact absurd hx (by decide), fun e => by subst e; exact absurd hx (by decide)⟩
      · obtain ⟨j, hj, rfl⟩ := List.getElem_of_mem hc
        have := Tk.lead_all Tk.isWord r j (by omega) hj
        exact ⟨fun e => by rw [e] at this; exact absurd this (by decide), fun e => by rw [e] at this; exact absurd this (by decide)⟩
    · simp at h2
theorem item_free {a : Nat} {c : Cmd} (h : okP a c = true) : ∀ x ∈ itemP a c, x ≠ 32 ∧ x ≠ 10 := by
  unfold okP at h
  unfold itemP
  split
  · rename_i e
    rw [if_pos e] at h
    exact name_free h
  · split
    · exact dec_free _
    · exact itoa_free _
theorem forth0 (c : Cmd) (ok : okL c [69, 68] = true) (left : restP c [69, 68] = { Cmd.of ⟨[104, 105, 114, 101], 1, 1, [69, 68]⟩ with txt := c.txt }) : letsP [69, 68] ([69, 68].map fun (x : UInt8) => itemP x.toNat c) (Cmd.of ⟨[104, 105, 114, 101], 1, 1, [69, 68]⟩) = some { c with txt := [] } := by
  obtain ⟨kind, emp, fk, fr, nm, val, ext, rnk, txt, per, wh, torn, stop⟩ := c
  have e : restP ⟨kind, emp, fk, fr, nm, val, ext, rnk, txt, per, wh, torn, stop⟩ [69, 68] = ⟨kind, 0, fk, 0, nm, val, ext, rnk, txt, per, wh, torn, stop⟩ := by kernel_rfl
  have e2 : ({ Cmd.of ⟨[104, 105, 114, 101], 1, 1, [69, 68]⟩ with txt := txt } : Cmd) = ⟨1, 0, 1, 0, [], 0, 0, 0, txt, 0, 0, 0, 0⟩ := by kernel_rfl
  replace left := e.symm.trans (left.trans e2)
  obtain ⟨q_kind, q_emp, q_fk, q_fr, q_nm, q_val, q_ext, q_rnk, q_txt, q_per, q_wh, q_torn, q_stop⟩ := Cmd.mk.inj left
  subst q_kind q_fk q_nm q_val q_ext q_rnk q_per q_wh q_torn q_stop
  have e3 : okL ⟨1, emp, 1, fr, [], 0, 0, 0, txt, 0, 0, 0, 0⟩ [69, 68] = (fitsP emp && (fitsP fr && true)) := by kernel_rfl
  replace ok := e3.symm.trans ok
  simp only [Bool.and_eq_true, and_true] at ok
  obtain ⟨o1, o2⟩ := ok
  have u1 := fits_un o1
  have u2 := fits_un o2
  have e4 : ([69, 68] : List UInt8).map (fun (x : UInt8) => itemP x.toNat ⟨1, emp, 1, fr, [], 0, 0, 0, txt, 0, 0, 0, 0⟩) = [Lib.itoa emp, Lib.itoa fr] := by kernel_rfl
  rw [e4]
  simp only [letsP, lp69, lp68, numO_itoa u1.1 u1.2, Option.map_some, numO_itoa u2.1 u2.2, Option.map_some]
  rfl
theorem forth1 (c : Cmd) (ok : okL c [69, 68] = true) (left : restP c [69, 68] = { Cmd.of ⟨[108, 101, 97, 118, 101], 1, 2, [69, 68]⟩ with txt := c.txt }) : letsP [69, 68] ([69, 68].map fun (x : UInt8) => itemP x.toNat c) (Cmd.of ⟨[108, 101, 97, 118, 101], 1, 2, [69, 68]⟩) = some { c with txt := [] } := by
  obtain ⟨kind, emp, fk, fr, nm, val, ext, rnk, txt, per, wh, torn, stop⟩ := c
  have e : restP ⟨kind, emp, fk, fr, nm, val, ext, rnk, txt, per, wh, torn, stop⟩ [69, 68] = ⟨kind, 0, fk, 0, nm, val, ext, rnk, txt, per, wh, torn, stop⟩ := by kernel_rfl
  have e2 : ({ Cmd.of ⟨[108, 101, 97, 118, 101], 1, 2, [69, 68]⟩ with txt := txt } : Cmd) = ⟨1, 0, 2, 0, [], 0, 0, 0, txt, 0, 0, 0, 0⟩ := by kernel_rfl
  replace left := e.symm.trans (left.trans e2)
  obtain ⟨q_kind, q_emp, q_fk, q_fr, q_nm, q_val, q_ext, q_rnk, q_txt, q_per, q_wh, q_torn, q_stop⟩ := Cmd.mk.inj left
  subst q_kind q_fk q_nm q_val q_ext q_rnk q_per q_wh q_torn q_stop
  have e3 : okL ⟨1, emp, 2, fr, [], 0, 0, 0, txt, 0, 0, 0, 0⟩ [69, 68] = (fitsP emp && (fitsP fr && true)) := by kernel_rfl
  replace ok := e3.symm.trans ok
  simp only [Bool.and_eq_true, and_true] at ok
  obtain ⟨o1, o2⟩ := ok
  have u1 := fits_un o1
  have u2 := fits_un o2
  have e4 : ([69, 68] : List UInt8).map (fun (x : UInt8) => itemP x.toNat ⟨1, emp, 2, fr, [], 0, 0, 0, txt, 0, 0, 0, 0⟩) = [Lib.itoa emp, Lib.itoa fr] := by kernel_rfl
  rw [e4]
  simp only [letsP, lp69, lp68, numO_itoa u1.1 u1.2, Option.map_some, numO_itoa u2.1 u2.2, Option.map_some]
  rfl
theorem forth2 (c : Cmd) (ok : okL c [69, 78, 68, 86] = true) (left : restP c [69, 78, 68, 86] = { Cmd.of ⟨[105, 110, 112, 117, 116], 1, 3, [69, 78, 68, 86]⟩ with txt := c.txt }) : letsP [69, 78, 68, 86] ([69, 78, 68, 86].map fun (x : UInt8) => itemP x.toNat c) (Cmd.of ⟨[105, 110, 112, 117, 116], 1, 3, [69, 78, 68, 86]⟩) = some { c with txt := [] } := by
  obtain ⟨kind, emp, fk, fr, nm, val, ext, rnk, txt, per, wh, torn, stop⟩ := c
  have e : restP ⟨kind, emp, fk, fr, nm, val, ext, rnk, txt, per, wh, torn, stop⟩ [69, 78, 68, 86] = ⟨kind, 0, fk, 0, [], 0, ext, rnk, txt, per, wh, torn, stop⟩ := by kernel_rfl
  have e2 : ({ Cmd.of ⟨[105, 110, 112, 117, 116], 1, 3, [69, 78, 68, 86]⟩ with txt := txt } : Cmd) = ⟨1, 0, 3, 0, [], 0, 0, 0, txt, 0, 0, 0, 0⟩ := by kernel_rfl
  replace left := e.symm.trans (left.trans e2)
  obtain ⟨q_kind, q_emp, q_fk, q_fr, q_nm, q_val, q_ext, q_rnk, q_txt, q_per, q_wh, q_torn, q_stop⟩ := Cmd.mk.inj left
  subst q_kind q_fk q_ext q_rnk q_per q_wh q_torn q_stop
  have e3 : okL ⟨1, emp, 3, fr, nm, val, 0, 0, txt, 0, 0, 0, 0⟩ [69, 78, 68, 86] = (fitsP emp && (Tk.isName nm && (fitsP fr && (fitsP val && true)))) := by kernel_rfl
  replace ok := e3.symm.trans ok
  simp only [Bool.and_eq_true, and_true] at ok
  obtain ⟨o1, o2, o3, o4⟩ := ok
  have u1 := fits_un o1
  have u3 := fits_un o3
  have u4 := fits_un o4
  have e4 : ([69, 78, 68, 86] : List UInt8).map (fun (x : UInt8) => itemP x.toNat ⟨1, emp, 3, fr, nm, val, 0, 0, txt, 0, 0, 0, 0⟩) = [Lib.itoa emp, nm, Lib.itoa fr, Lib.itoa val] := by kernel_rfl
  rw [e4]
  simp only [letsP, lp69, lp78, lp68, lp86, numO_itoa u1.1 u1.2, Option.map_some, if_pos o2, numO_itoa u3.1 u3.2, Option.map_some, numO_itoa u4.1 u4.2, Option.map_some]
  rfl
theorem forth3 (c : Cmd) (ok : okL c [69, 78, 68, 86] = true) (left : restP c [69, 78, 68, 86] = { Cmd.of ⟨[104, 111, 117, 114, 115], 1, 4, [69, 78, 68, 86]⟩ with txt := c.txt }) : letsP [69, 78, 68, 86] ([69, 78, 68, 86].map fun (x : UInt8) => itemP x.toNat c) (Cmd.of ⟨[104, 111, 117, 114, 115], 1, 4, [69, 78, 68, 86]⟩) = some { c with txt := [] } := by
  obtain ⟨kind, emp, fk, fr, nm, val, ext, rnk, txt, per, wh, torn, stop⟩ := c
  have e : restP ⟨kind, emp, fk, fr, nm, val, ext, rnk, txt, per, wh, torn, stop⟩ [69, 78, 68, 86] = ⟨kind, 0, fk, 0, [], 0, ext, rnk, txt, per, wh, torn, stop⟩ := by kernel_rfl
  have e2 : ({ Cmd.of ⟨[104, 111, 117, 114, 115], 1, 4, [69, 78, 68, 86]⟩ with txt := txt } : Cmd) = ⟨1, 0, 4, 0, [], 0, 0, 0, txt, 0, 0, 0, 0⟩ := by kernel_rfl
  replace left := e.symm.trans (left.trans e2)
  obtain ⟨q_kind, q_emp, q_fk, q_fr, q_nm, q_val, q_ext, q_rnk, q_txt, q_per, q_wh, q_torn, q_stop⟩ := Cmd.mk.inj left
  subst q_kind q_fk q_ext q_rnk q_per q_wh q_torn q_stop
  have e3 : okL ⟨1, emp, 4, fr, nm, val, 0, 0, txt, 0, 0, 0, 0⟩ [69, 78, 68, 86] = (fitsP emp && (Tk.isName nm && (fitsP fr && (fitsP val && true)))) := by kernel_rfl
  replace ok := e3.symm.trans ok
  simp only [Bool.and_eq_true, and_true] at ok
  obtain ⟨o1, o2, o3, o4⟩ := ok
  have u1 := fits_un o1
  have u3 := fits_un o3
  have u4 := fits_un o4
  have e4 : ([69, 78, 68, 86] : List UInt8).map (fun (x : UInt8) => itemP x.toNat ⟨1, emp, 4, fr, nm, val, 0, 0, txt, 0, 0, 0, 0⟩) = [Lib.itoa emp, nm, Lib.itoa fr, Lib.itoa val] := by kernel_rfl
  rw [e4]
  simp only [letsP, lp69, lp78, lp68, lp86, numO_itoa u1.1 u1.2, Option.map_some, if_pos o2, numO_itoa u3.1 u3.2, Option.map_some, numO_itoa u4.1 u4.2, Option.map_some]
  rfl
theorem forth4 (c : Cmd) (ok : okL c [68] = true) (left : restP c [68] = { Cmd.of ⟨[97, 103, 114, 101, 101, 109, 101, 110, 116], 1, 5, [68]⟩ with txt := c.txt }) : letsP [68] ([68].map fun (x : UInt8) => itemP x.toNat c) (Cmd.of ⟨[97, 103, 114, 101, 101, 109, 101, 110, 116], 1, 5, [68]⟩) = some { c with txt := [] } := by
  obtain ⟨kind, emp, fk, fr, nm, val, ext, rnk, txt, per, wh, torn, stop⟩ := c
  have e : restP ⟨kind, emp, fk, fr, nm, val, ext, rnk, txt, per, wh, torn, stop⟩ [68] = ⟨kind, emp, fk, 0, nm, val, ext, rnk, txt, per, wh, torn, stop⟩ := by kernel_rfl
  have e2 : ({ Cmd.of ⟨[97, 103, 114, 101, 101, 109, 101, 110, 116], 1, 5, [68]⟩ with txt := txt } : Cmd) = ⟨1, 0, 5, 0, [], 0, 0, 0, txt, 0, 0, 0, 0⟩ := by kernel_rfl
  replace left := e.symm.trans (left.trans e2)
  obtain ⟨q_kind, q_emp, q_fk, q_fr, q_nm, q_val, q_ext, q_rnk, q_txt, q_per, q_wh, q_torn, q_stop⟩ := Cmd.mk.inj left
  subst q_kind q_emp q_fk q_nm q_val q_ext q_rnk q_per q_wh q_torn q_stop
  have e3 : okL ⟨1, 0, 5, fr, [], 0, 0, 0, txt, 0, 0, 0, 0⟩ [68] = (fitsP fr && true) := by kernel_rfl
  replace ok := e3.symm.trans ok
  simp only [Bool.and_eq_true, and_true] at ok
  have o1 := ok
  have u1 := fits_un o1
  have e4 : ([68] : List UInt8).map (fun (x : UInt8) => itemP x.toNat ⟨1, 0, 5, fr, [], 0, 0, 0, txt, 0, 0, 0, 0⟩) = [Lib.itoa fr] := by kernel_rfl
  rw [e4]
  simp only [letsP, lp68, numO_itoa u1.1 u1.2, Option.map_some]
  rfl
theorem forth5 (c : Cmd) (ok : okL c [68, 86] = true) (left : restP c [68, 86] = { Cmd.of ⟨[114, 117, 108, 101, 115], 1, 6, [68, 86]⟩ with txt := c.txt }) : letsP [68, 86] ([68, 86].map fun (x : UInt8) => itemP x.toNat c) (Cmd.of ⟨[114, 117, 108, 101, 115], 1, 6, [68, 86]⟩) = some { c with txt := [] } := by
  obtain ⟨kind, emp, fk, fr, nm, val, ext, rnk, txt, per, wh, torn, stop⟩ := c
  have e : restP ⟨kind, emp, fk, fr, nm, val, ext, rnk, txt, per, wh, torn, stop⟩ [68, 86] = ⟨kind, emp, fk, 0, nm, 0, ext, rnk, txt, per, wh, torn, stop⟩ := by kernel_rfl
  have e2 : ({ Cmd.of ⟨[114, 117, 108, 101, 115], 1, 6, [68, 86]⟩ with txt := txt } : Cmd) = ⟨1, 0, 6, 0, [], 0, 0, 0, txt, 0, 0, 0, 0⟩ := by kernel_rfl
  replace left := e.symm.trans (left.trans e2)
  obtain ⟨q_kind, q_emp, q_fk, q_fr, q_nm, q_val, q_ext, q_rnk, q_txt, q_per, q_wh, q_torn, q_stop⟩ := Cmd.mk.inj left
  subst q_kind q_emp q_fk q_nm q_ext q_rnk q_per q_wh q_torn q_stop
  have e3 : okL ⟨1, 0, 6, fr, [], val, 0, 0, txt, 0, 0, 0, 0⟩ [68, 86] = (fitsP fr && (fitsP val && true)) := by kernel_rfl
  replace ok := e3.symm.trans ok
  simp only [Bool.and_eq_true, and_true] at ok
  obtain ⟨o1, o2⟩ := ok
  have u1 := fits_un o1
  have u2 := fits_un o2
  have e4 : ([68, 86] : List UInt8).map (fun (x : UInt8) => itemP x.toNat ⟨1, 0, 6, fr, [], val, 0, 0, txt, 0, 0, 0, 0⟩) = [Lib.itoa fr, Lib.itoa val] := by kernel_rfl
  rw [e4]
  simp only [letsP, lp68, lp86, numO_itoa u1.1 u1.2, Option.map_some, numO_itoa u2.1 u2.2, Option.map_some]
  rfl
theorem forth6 (c : Cmd) (ok : okL c [69, 68, 86] = true) (left : restP c [69, 68, 86] = { Cmd.of ⟨[100, 101, 112, 101, 110, 100, 101, 110, 116, 115], 1, 7, [69, 68, 86]⟩ with txt := c.txt }) : letsP [69, 68, 86] ([69, 68, 86].map fun (x : UInt8) => itemP x.toNat c) (Cmd.of ⟨[100, 101, 112, 101, 110, 100, 101, 110, 116, 115], 1, 7, [69, 68, 86]⟩) = some { c with txt := [] } := by
  obtain ⟨kind, emp, fk, fr, nm, val, ext, rnk, txt, per, wh, torn, stop⟩ := c
  have e : restP ⟨kind, emp, fk, fr, nm, val, ext, rnk, txt, per, wh, torn, stop⟩ [69, 68, 86] = ⟨kind, 0, fk, 0, nm, 0, ext, rnk, txt, per, wh, torn, stop⟩ := by kernel_rfl
  have e2 : ({ Cmd.of ⟨[100, 101, 112, 101, 110, 100, 101, 110, 116, 115], 1, 7, [69, 68, 86]⟩ with txt := txt } : Cmd) = ⟨1, 0, 7, 0, [], 0, 0, 0, txt, 0, 0, 0, 0⟩ := by kernel_rfl
  replace left := e.symm.trans (left.trans e2)
  obtain ⟨q_kind, q_emp, q_fk, q_fr, q_nm, q_val, q_ext, q_rnk, q_txt, q_per, q_wh, q_torn, q_stop⟩ := Cmd.mk.inj left
  subst q_kind q_fk q_nm q_ext q_rnk q_per q_wh q_torn q_stop
  have e3 : okL ⟨1, emp, 7, fr, [], val, 0, 0, txt, 0, 0, 0, 0⟩ [69, 68, 86] = (fitsP emp && (fitsP fr && (fitsP val && true))) := by kernel_rfl
  replace ok := e3.symm.trans ok
  simp only [Bool.and_eq_true, and_true] at ok
  obtain ⟨o1, o2, o3⟩ := ok
  have u1 := fits_un o1
  have u2 := fits_un o2
  have u3 := fits_un o3
  have e4 : ([69, 68, 86] : List UInt8).map (fun (x : UInt8) => itemP x.toNat ⟨1, emp, 7, fr, [], val, 0, 0, txt, 0, 0, 0, 0⟩) = [Lib.itoa emp, Lib.itoa fr, Lib.itoa val] := by kernel_rfl
  rw [e4]
  simp only [letsP, lp69, lp68, lp86, numO_itoa u1.1 u1.2, Option.map_some, numO_itoa u2.1 u2.2, Option.map_some, numO_itoa u3.1 u3.2, Option.map_some]
  rfl
theorem forth7 (c : Cmd) (ok : okL c [69, 78, 68, 86, 88, 82] = true) (left : restP c [69, 78, 68, 86, 88, 82] = { Cmd.of ⟨[111, 114, 100, 101, 114], 1, 8, [69, 78, 68, 86, 88, 82]⟩ with txt := c.txt }) : letsP [69, 78, 68, 86, 88, 82] ([69, 78, 68, 86, 88, 82].map fun (x : UInt8) => itemP x.toNat c) (Cmd.of ⟨[111, 114, 100, 101, 114], 1, 8, [69, 78, 68, 86, 88, 82]⟩) = some { c with txt := [] } := by
  obtain ⟨kind, emp, fk, fr, nm, val, ext, rnk, txt, per, wh, torn, stop⟩ := c
  have e : restP ⟨kind, emp, fk, fr, nm, val, ext, rnk, txt, per, wh, torn, stop⟩ [69, 78, 68, 86, 88, 82] = ⟨kind, 0, fk, 0, [], 0, 0, 0, txt, per, wh, torn, stop⟩ := by kernel_rfl
  have e2 : ({ Cmd.of ⟨[111, 114, 100, 101, 114], 1, 8, [69, 78, 68, 86, 88, 82]⟩ with txt := txt } : Cmd) = ⟨1, 0, 8, 0, [], 0, 0, 0, txt, 0, 0, 0, 0⟩ := by kernel_rfl
  replace left := e.symm.trans (left.trans e2)
  obtain ⟨q_kind, q_emp, q_fk, q_fr, q_nm, q_val, q_ext, q_rnk, q_txt, q_per, q_wh, q_torn, q_stop⟩ := Cmd.mk.inj left
  subst q_kind q_fk q_per q_wh q_torn q_stop
  have e3 : okL ⟨1, emp, 8, fr, nm, val, ext, rnk, txt, 0, 0, 0, 0⟩ [69, 78, 68, 86, 88, 82] = (fitsP emp && (Tk.isName nm && (fitsP fr && (fitsP val && (fitsP ext && (fitsP rnk && true)))))) := by kernel_rfl
  replace ok := e3.symm.trans ok
  simp only [Bool.and_eq_true, and_true] at ok
  obtain ⟨o1, o2, o3, o4, o5, o6⟩ := ok
  have u1 := fits_un o1
  have u3 := fits_un o3
  have u4 := fits_un o4
  have u5 := fits_un o5
  have u6 := fits_un o6
  have e4 : ([69, 78, 68, 86, 88, 82] : List UInt8).map (fun (x : UInt8) => itemP x.toNat ⟨1, emp, 8, fr, nm, val, ext, rnk, txt, 0, 0, 0, 0⟩) = [Lib.itoa emp, nm, Lib.itoa fr, Lib.itoa val, Lib.itoa ext, Lib.itoa rnk] := by kernel_rfl
  rw [e4]
  simp only [letsP, lp69, lp78, lp68, lp86, lp88, lp82, numO_itoa u1.1 u1.2, Option.map_some, if_pos o2, numO_itoa u3.1 u3.2, Option.map_some, numO_itoa u4.1 u4.2, Option.map_some, numO_itoa u5.1 u5.2, Option.map_some, numO_itoa u6.1 u6.2, Option.map_some]
  rfl
theorem forth8 (c : Cmd) (ok : okL c [69, 78, 68, 86, 88, 82] = true) (left : restP c [69, 78, 68, 86, 88, 82] = { Cmd.of ⟨[100, 101, 100, 117, 99, 116, 105, 111, 110], 1, 9, [69, 78, 68, 86, 88, 82]⟩ with txt := c.txt }) : letsP [69, 78, 68, 86, 88, 82] ([69, 78, 68, 86, 88, 82].map fun (x : UInt8) => itemP x.toNat c) (Cmd.of ⟨[100, 101, 100, 117, 99, 116, 105, 111, 110], 1, 9, [69, 78, 68, 86, 88, 82]⟩) = some { c with txt := [] } := by
  obtain ⟨kind, emp, fk, fr, nm, val, ext, rnk, txt, per, wh, torn, stop⟩ := c
  have e : restP ⟨kind, emp, fk, fr, nm, val, ext, rnk, txt, per, wh, torn, stop⟩ [69, 78, 68, 86, 88, 82] = ⟨kind, 0, fk, 0, [], 0, 0, 0, txt, per, wh, torn, stop⟩ := by kernel_rfl
  have e2 : ({ Cmd.of ⟨[100, 101, 100, 117, 99, 116, 105, 111, 110], 1, 9, [69, 78, 68, 86, 88, 82]⟩ with txt := txt } : Cmd) = ⟨1, 0, 9, 0, [], 0, 0, 0, txt, 0, 0, 0, 0⟩ := by kernel_rfl
  replace left := e.symm.trans (left.trans e2)
  obtain ⟨q_kind, q_emp, q_fk, q_fr, q_nm, q_val, q_ext, q_rnk, q_txt, q_per, q_wh, q_torn, q_stop⟩ := Cmd.mk.inj left
  subst q_kind q_fk q_per q_wh q_torn q_stop
  have e3 : okL ⟨1, emp, 9, fr, nm, val, ext, rnk, txt, 0, 0, 0, 0⟩ [69, 78, 68, 86, 88, 82] = (fitsP emp && (Tk.isName nm && (fitsP fr && (fitsP val && (fitsP ext && (fitsP rnk && true)))))) := by kernel_rfl
  replace ok := e3.symm.trans ok
  simp only [Bool.and_eq_true, and_true] at ok
  obtain ⟨o1, o2, o3, o4, o5, o6⟩ := ok
  have u1 := fits_un o1
  have u3 := fits_un o3
  have u4 := fits_un o4
  have u5 := fits_un o5
  have u6 := fits_un o6
  have e4 : ([69, 78, 68, 86, 88, 82] : List UInt8).map (fun (x : UInt8) => itemP x.toNat ⟨1, emp, 9, fr, nm, val, ext, rnk, txt, 0, 0, 0, 0⟩) = [Lib.itoa emp, nm, Lib.itoa fr, Lib.itoa val, Lib.itoa ext, Lib.itoa rnk] := by kernel_rfl
  rw [e4]
  simp only [letsP, lp69, lp78, lp68, lp86, lp88, lp82, numO_itoa u1.1 u1.2, Option.map_some, if_pos o2, numO_itoa u3.1 u3.2, Option.map_some, numO_itoa u4.1 u4.2, Option.map_some, numO_itoa u5.1 u5.2, Option.map_some, numO_itoa u6.1 u6.2, Option.map_some]
  rfl
theorem forth9 (c : Cmd) (ok : okL c [80] = true) (left : restP c [80] = { Cmd.of ⟨[112, 114, 101, 112, 97, 114, 101], 2, 0, [80]⟩ with txt := c.txt }) : letsP [80] ([80].map fun (x : UInt8) => itemP x.toNat c) (Cmd.of ⟨[112, 114, 101, 112, 97, 114, 101], 2, 0, [80]⟩) = some { c with txt := [] } := by
  obtain ⟨kind, emp, fk, fr, nm, val, ext, rnk, txt, per, wh, torn, stop⟩ := c
  have e : restP ⟨kind, emp, fk, fr, nm, val, ext, rnk, txt, per, wh, torn, stop⟩ [80] = ⟨kind, emp, fk, fr, nm, val, ext, rnk, txt, 0, wh, torn, stop⟩ := by kernel_rfl
  have e2 : ({ Cmd.of ⟨[112, 114, 101, 112, 97, 114, 101], 2, 0, [80]⟩ with txt := txt } : Cmd) = ⟨2, 0, 0, 0, [], 0, 0, 0, txt, 0, 0, 0, 0⟩ := by kernel_rfl
  replace left := e.symm.trans (left.trans e2)
  obtain ⟨q_kind, q_emp, q_fk, q_fr, q_nm, q_val, q_ext, q_rnk, q_txt, q_per, q_wh, q_torn, q_stop⟩ := Cmd.mk.inj left
  subst q_kind q_emp q_fk q_fr q_nm q_val q_ext q_rnk q_wh q_torn q_stop
  have e3 : okL ⟨2, 0, 0, 0, [], 0, 0, 0, txt, per, 0, 0, 0⟩ [80] = (fitsP per && true) := by kernel_rfl
  replace ok := e3.symm.trans ok
  simp only [Bool.and_eq_true, and_true] at ok
  have o1 := ok
  have u1 := fits_un o1
  have e4 : ([80] : List UInt8).map (fun (x : UInt8) => itemP x.toNat ⟨2, 0, 0, 0, [], 0, 0, 0, txt, per, 0, 0, 0⟩) = [Lib.itoa per] := by kernel_rfl
  rw [e4]
  simp only [letsP, lp80, numO_itoa u1.1 u1.2, Option.map_some]
  rfl
theorem forth10 (c : Cmd) (ok : okL c [] = true) (left : restP c [] = { Cmd.of ⟨[114, 101, 108, 101, 97, 115, 101], 3, 0, []⟩ with txt := c.txt }) : letsP [] ([].map fun (x : UInt8) => itemP x.toNat c) (Cmd.of ⟨[114, 101, 108, 101, 97, 115, 101], 3, 0, []⟩) = some { c with txt := [] } := by
  obtain ⟨kind, emp, fk, fr, nm, val, ext, rnk, txt, per, wh, torn, stop⟩ := c
  have e : restP ⟨kind, emp, fk, fr, nm, val, ext, rnk, txt, per, wh, torn, stop⟩ [] = ⟨kind, emp, fk, fr, nm, val, ext, rnk, txt, per, wh, torn, stop⟩ := by kernel_rfl
  have e2 : ({ Cmd.of ⟨[114, 101, 108, 101, 97, 115, 101], 3, 0, []⟩ with txt := txt } : Cmd) = ⟨3, 0, 0, 0, [], 0, 0, 0, txt, 0, 0, 0, 0⟩ := by kernel_rfl
  replace left := e.symm.trans (left.trans e2)
  obtain ⟨q_kind, q_emp, q_fk, q_fr, q_nm, q_val, q_ext, q_rnk, q_txt, q_per, q_wh, q_torn, q_stop⟩ := Cmd.mk.inj left
  subst q_kind q_emp q_fk q_fr q_nm q_val q_ext q_rnk q_per q_wh q_torn q_stop
  have e4 : ([] : List UInt8).map (fun (x : UInt8) => itemP x.toNat ⟨3, 0, 0, 0, [], 0, 0, 0, txt, 0, 0, 0, 0⟩) = [] := by kernel_rfl
  rw [e4]
  rfl
theorem forth11 (c : Cmd) (ok : okL c [] = true) (left : restP c [] = { Cmd.of ⟨[112, 97, 121], 4, 0, []⟩ with txt := c.txt }) : letsP [] ([].map fun (x : UInt8) => itemP x.toNat c) (Cmd.of ⟨[112, 97, 121], 4, 0, []⟩) = some { c with txt := [] } := by
  obtain ⟨kind, emp, fk, fr, nm, val, ext, rnk, txt, per, wh, torn, stop⟩ := c
  have e : restP ⟨kind, emp, fk, fr, nm, val, ext, rnk, txt, per, wh, torn, stop⟩ [] = ⟨kind, emp, fk, fr, nm, val, ext, rnk, txt, per, wh, torn, stop⟩ := by kernel_rfl
  have e2 : ({ Cmd.of ⟨[112, 97, 121], 4, 0, []⟩ with txt := txt } : Cmd) = ⟨4, 0, 0, 0, [], 0, 0, 0, txt, 0, 0, 0, 0⟩ := by kernel_rfl
  replace left := e.symm.trans (left.trans e2)
  obtain ⟨q_kind, q_emp, q_fk, q_fr, q_nm, q_val, q_ext, q_rnk, q_txt, q_per, q_wh, q_torn, q_stop⟩ := Cmd.mk.inj left
  subst q_kind q_emp q_fk q_fr q_nm q_val q_ext q_rnk q_per q_wh q_torn q_stop
  have e4 : ([] : List UInt8).map (fun (x : UInt8) => itemP x.toNat ⟨4, 0, 0, 0, [], 0, 0, 0, txt, 0, 0, 0, 0⟩) = [] := by kernel_rfl
  rw [e4]
  rfl
theorem forth12 (c : Cmd) (ok : okL c [] = true) (left : restP c [] = { Cmd.of ⟨[114, 101, 118, 101, 114, 115, 101], 5, 0, []⟩ with txt := c.txt }) : letsP [] ([].map fun (x : UInt8) => itemP x.toNat c) (Cmd.of ⟨[114, 101, 118, 101, 114, 115, 101], 5, 0, []⟩) = some { c with txt := [] } := by
  obtain ⟨kind, emp, fk, fr, nm, val, ext, rnk, txt, per, wh, torn, stop⟩ := c
  have e : restP ⟨kind, emp, fk, fr, nm, val, ext, rnk, txt, per, wh, torn, stop⟩ [] = ⟨kind, emp, fk, fr, nm, val, ext, rnk, txt, per, wh, torn, stop⟩ := by kernel_rfl
  have e2 : ({ Cmd.of ⟨[114, 101, 118, 101, 114, 115, 101], 5, 0, []⟩ with txt := txt } : Cmd) = ⟨5, 0, 0, 0, [], 0, 0, 0, txt, 0, 0, 0, 0⟩ := by kernel_rfl
  replace left := e.symm.trans (left.trans e2)
  obtain ⟨q_kind, q_emp, q_fk, q_fr, q_nm, q_val, q_ext, q_rnk, q_txt, q_per, q_wh, q_torn, q_stop⟩ := Cmd.mk.inj left
  subst q_kind q_emp q_fk q_fr q_nm q_val q_ext q_rnk q_per q_wh q_torn q_stop
  have e4 : ([] : List UInt8).map (fun (x : UInt8) => itemP x.toNat ⟨5, 0, 0, 0, [], 0, 0, 0, txt, 0, 0, 0, 0⟩) = [] := by kernel_rfl
  rw [e4]
  rfl
theorem forth13 (c : Cmd) (ok : okL c [87, 84, 83] = true) (left : restP c [87, 84, 83] = { Cmd.of ⟨[99, 114, 97, 115, 104], 6, 0, [87, 84, 83]⟩ with txt := c.txt }) : letsP [87, 84, 83] ([87, 84, 83].map fun (x : UInt8) => itemP x.toNat c) (Cmd.of ⟨[99, 114, 97, 115, 104], 6, 0, [87, 84, 83]⟩) = some { c with txt := [] } := by
  obtain ⟨kind, emp, fk, fr, nm, val, ext, rnk, txt, per, wh, torn, stop⟩ := c
  have e : restP ⟨kind, emp, fk, fr, nm, val, ext, rnk, txt, per, wh, torn, stop⟩ [87, 84, 83] = ⟨kind, emp, fk, fr, nm, val, ext, rnk, txt, per, 0, 0, 0⟩ := by kernel_rfl
  have e2 : ({ Cmd.of ⟨[99, 114, 97, 115, 104], 6, 0, [87, 84, 83]⟩ with txt := txt } : Cmd) = ⟨6, 0, 0, 0, [], 0, 0, 0, txt, 0, 0, 0, 0⟩ := by kernel_rfl
  replace left := e.symm.trans (left.trans e2)
  obtain ⟨q_kind, q_emp, q_fk, q_fr, q_nm, q_val, q_ext, q_rnk, q_txt, q_per, q_wh, q_torn, q_stop⟩ := Cmd.mk.inj left
  subst q_kind q_emp q_fk q_fr q_nm q_val q_ext q_rnk q_per
  have e3 : okL ⟨6, 0, 0, 0, [], 0, 0, 0, txt, 0, wh, torn, stop⟩ [87, 84, 83] = (decide ((wh : Int) ≤ 1000000000000000000) && (fitsP torn && (fitsP stop && true))) := by kernel_rfl
  replace ok := e3.symm.trans ok
  simp only [Bool.and_eq_true, and_true] at ok
  obtain ⟨o1, o2, o3⟩ := ok
  have u1 := numO_dec (of_decide_eq_true o1)
  have u2 := fits_un o2
  have u3 := fits_un o3
  have e4 : ([87, 84, 83] : List UInt8).map (fun (x : UInt8) => itemP x.toNat ⟨6, 0, 0, 0, [], 0, 0, 0, txt, 0, wh, torn, stop⟩) = [Lib.decDigits wh, Lib.itoa torn, Lib.itoa stop] := by kernel_rfl
  rw [e4]
  simp only [letsP, lp87, lp84, lp83, u1, Int.natCast_nonneg, if_true, Int.toNat_natCast, numO_itoa u2.1 u2.2, Option.map_some, numO_itoa u3.1 u3.2, Option.map_some]
  rfl
theorem forth_any {F : Form} {c : Cmd} (hF : F ∈ forms) (ok : okL c F.letters = true) (left : restP c F.letters = { Cmd.of F with txt := c.txt }) : letsP F.letters (F.letters.map fun (x : UInt8) => itemP x.toNat c) (Cmd.of F) = some { c with txt := [] } := by
  unfold forms at hF
  simp only [List.mem_cons, List.not_mem_nil, or_false] at hF
  rcases hF with rfl | rfl | rfl | rfl | rfl | rfl | rfl | rfl | rfl | rfl | rfl | rfl | rfl | rfl
  · exact forth0 c ok left
  · exact forth1 c ok left
  · exact forth2 c ok left
  · exact forth3 c ok left
  · exact forth4 c ok left
  · exact forth5 c ok left
  · exact forth6 c ok left
  · exact forth7 c ok left
  · exact forth8 c ok left
  · exact forth9 c ok left
  · exact forth10 c ok left
  · exact forth11 c ok left
  · exact forth12 c ok left
  · exact forth13 c ok left
end Go.Proofs.YtdcbnkimjhefkaaGreatDoor

/-
 payrollref46's numbers.
 The reference's numbers are the program's.
 payrollref46's simple: the command of a line.
-/
import Derived.Test.YtdcbnkimjhefkaaGreatDoorU32
import Derived.Test.YtdcbnkimjhefkaaGreatDoorU33
import Derived.Test.YtdcbnkimjhefkaaGreatDoorU29
import Derived.Test.YtdcbnkimjhefkaaGreatDoorU15
import Derived.Test.YtdcbnkimjhefkaaGreatDoorU18
namespace Go.Proofs.YtdcbnkimjhefkaaGreatDoor
open Go.RowKit
set_option maxRecDepth 100000
def atRg (q : Nat) : List Item → Bool
 | .code (.region i _ _) :: _ => Nat.beq i q
 | _ => false
def cntRg (q : Nat) : Nat → List Item → Nat
 | 0, _ => 0
 | m + 1, t => match atRg q t with
  | true => 0
  | false => match stepT t with
   | some t' => cntRg q m t' + 1
   | none => 0
noncomputable def advRg (q : Nat) (t : List Item) : List Item := advT (cntRg q 90 t) t
def isIdxA : Op → Bool
 | .indexAddr _ _ _ => true
 | _ => false
theorem exec_slLo {P : Program} {o : Oper} {ρ : Operand → Value} {w : World} {t e : TypeId} {x : Operand} {a : Option Addr} {len cap sz : Nat} (hop : o.op = .slice t x (some (.const (.int .i64 1))) none none) (ht : P.underlying t = some (.slice e)) (hx : ρ x = .slice a len cap) (hc : ρ (.const (.int .i64 1)) = .int .i64 1) (h1 : 1 ≤ len) (hs : (P.info? e).map (·.size) = some sz) : (execOp ρ o).run P w = .ok (.value (sliced a 1 len cap sz)) w := by
 have he : P.underlying t = some (.slice (P.elem t)) := by simp [Program.elem, ht]
 have hee : P.elem t = e := by simp [Program.elem, ht]
 have hl := run_slice_l (P := P) (w := w) t a len cap he .i64 1 (by omega) (by omega)
 have hsz : (sizeOf (P.elem t)).run P w = .ok sz w := by
  rw [hee]
  cases hq : P.info? e with
  | none => rw [hq] at hs; cases hs
  | some inf =>
   have hsz : inf.size = sz := by rw [hq] at hs; exact Option.some.inj hs
   simp [sizeOf, typeInfo, hq, hsz]
 rw [hsz] at hl
 simp [execOp, hop, hx, hc, run_sliceAt_slice, he, hl]
def StrsAt (w : World) (lim : Nat) (v : Value) (ws : List (List UInt8)) : Prop :=
 ∃ a cap, v = .slice a ws.length cap ∧ ws.length ≤ cap ∧ (ws ≠ [] → ∃ g off, a = some ⟨g, off, none⟩ ∧ g < lim ∧ w.rangeAt g off (strsM ws))
theorem StrsAt.below {w w' : World} {lim lim' : Nat} {v : Value} {ws : List (List UInt8)} (h : StrsAt w lim v ws) (hl : lim ≤ lim') (hb : Below lim w w') : StrsAt w' lim' v ws := by
 obtain ⟨a, cap, rfl, hcp, hc⟩ := h
 exact ⟨a, cap, rfl, hcp, fun hne => let ⟨g, off, e, hg, hc⟩ := hc hne; ⟨g, off, e, by omega, fun j u hu => (World.cell?_of_block (hb.block g hg)).trans (hc j u hu)⟩⟩
theorem own_strs {w : World} {base : Nat} {v : Value} {ws : List (List UInt8)} (h : w.ownsRow base 9 1 v ws.length (strsM ws)) : StrsAt w w.heap.size v ws := by
 obtain ⟨_, h⟩ := h
 rcases h with ⟨rfl, h0⟩ | ⟨g, cap, cur, rfl, _, hgb, hnc, hcm, hcs, htake⟩
 ·exact ⟨none, 0, by rw [h0], by omega, fun hne => absurd (List.length_eq_zero_iff.1 h0) hne⟩
 refine ⟨some ⟨g, 0, none⟩, cap, rfl, hnc, fun _ => ⟨g, 0, rfl, heap_lt hgb, fun j u hu => ?_⟩⟩
 unfold World.cell?
 simp only [hgb]
 rw [← htake, List.getElem?_take] at hu
 split at hu
 ·rw [Array.getElem?_toList] at hu
  simpa using hu
 ·cases hu
theorem own_ints {w : World} {base : Nat} {v : Value} {ns : List Int} (h : w.ownsRow base 3 1 v ns.length (intsM ns)) (hne : ns ≠ []) : ∃ g cap, v = .slice (some ⟨g, 0, none⟩) ns.length cap ∧ base ≤ g ∧ g < w.heap.size ∧ w.rangeAt g 0 (intsM ns) := by
 obtain ⟨_, h⟩ := h
 rcases h with ⟨rfl, h0⟩ | ⟨g, cap, cur, rfl, hb, hgb, hnc, hcm, hcs, htake⟩
 ·exact absurd (List.length_eq_zero_iff.1 h0) hne
 refine ⟨g, cap, rfl, hb, heap_lt hgb, fun j u hu => ?_⟩
 unfold World.cell?
 simp only [hgb]
 rw [← htake, List.getElem?_take] at hu
 split at hu
 ·rw [Array.getElem?_toList] at hu
  simpa using hu
 ·cases hu
def numsR : List (List UInt8) → Option (List Int)
 | [] => some []
 | x :: r => match numR x with
  | none => none
  | some n => (numsR r).map (n :: ·)
theorem numsR_snoc (x : List UInt8) (n : Int) (hx : numR x = some n) : ∀ (l : List (List UInt8)) (a : List Int), numsR l = some a → numsR (l ++ [x]) = some (a ++ [n])
 | [], a, h => by
  obtain rfl := Option.some.inj h
  simp [numsR, hx]
 | y :: l, a, h => by
  unfold numsR at h
  rw [List.cons_append, numsR]
  cases hy : numR y with
  | none => rw [hy] at h; cases h
  | some m =>
   rw [hy] at h
   cases hl : numsR l with
   | none => rw [hl] at h; cases h
   | some b =>
    rw [hl] at h
    obtain rfl := Option.some.inj h
    rw [numsR_snoc x n hx l b hl]
    rfl
theorem numsR_none (x : List UInt8) (hx : numR x = none) : ∀ l : List (List UInt8), x ∈ l → numsR l = none
 | [], h => by cases h
 | y :: l, h => by
  unfold numsR
  rcases List.mem_cons.1 h with rfl | h
  ·rw [hx]
  ·cases numR y with
   | none => rfl
   | some m => rw [numsR_none x hx l h]; rfl
theorem numsR_len : ∀ (l : List (List UInt8)) (a : List Int), numsR l = some a → a.length = l.length
 | [], a, h => by
  obtain rfl := Option.some.inj h
  rfl
 | y :: l, a, h => by
  unfold numsR at h
  cases hy : numR y with
  | none => rw [hy] at h; cases h
  | some m =>
   rw [hy] at h
   cases hl : numsR l with
   | none => rw [hl] at h; cases h
   | some b =>
    rw [hl] at h
    obtain rfl := Option.some.inj h
    simp [numsR_len l b hl]
structure OwI (w0 : World) (v : Value) (l : List Int) (w : World) : Prop where
 bel : Below w0.heap.size w0 w
 own : w.ownsRow w0.heap.size 3 1 v l.length (intsM l)
theorem OwI.below {w0 w w' : World} {v : Value} {l : List Int} (h : OwI w0 v l w) (hb : Below w.heap.size w w') : OwI w0 v l w' :=
 ⟨h.bel.trans (hb.mono h.bel.size), owns_keep h.own fun g hg => hb.block g (own_block h.own hg).2⟩
theorem OwI.grown {w0 w w' : World} {v v' : Value} {l l' : List Int} (h : OwI w0 v l w) (hg : w.grownBy w' v.ownBlock) (ho : w'.ownsRow w0.heap.size 3 1 v' l'.length (intsM l')) : OwI w0 v' l' w' := by
 have hB := h.bel
 refine ⟨⟨hg.os.trans hB.os, hg.tape.trans hB.tape, hg.output.trans hB.output, Nat.le_trans hB.size hg.size, fun k hk => (hg.block k (Nat.lt_of_lt_of_le hk hB.size) (fun e => ?_)).trans (hB.block k hk)⟩, ho⟩
 have := own_block h.own e.symm
 omega
theorem infoInt : (Tryz.prog.info? 3).map (fun i => (i.zero, i.size, i.bytes)) = some (some (.int .i64 0), 1, 8) := by kernel_rfl
def NumsR (w0 : World) (r : Option (List Int)) (e : Ending) (w : World) : Prop := Below w0.heap.size w0 w ∧ match r with
 | none => e = .returned (.tuple #[.slice none 0 0, .bool false])
 | some ns => ∃ v, e = .returned (.tuple #[v, .bool true]) ∧ w.ownsRow w0.heap.size 3 1 v ns.length (intsM ns)
noncomputable def codeNs : Code := Tryz.f42.body.getD .skip
noncomputable def tNs0 : List Item := advT 60 [.code codeNs]
noncomputable def tNs1 : List Item := advT 60 (bodyT tNs0)
noncomputable def tNs2 : List Item := advRg 5 (thenT tNs1)
noncomputable def tNs3 : List Item := advT 60 (tailT tNs2)
noncomputable def tNs4 : List Item := advT 60 (elseT tNs3)
theorem numbers_any (ws : List (List UInt8)) (v : Value) (w : World) (hv : StrsAt w w.heap.size v ws) (hl : ∀ x ∈ ws, x.length ≤ 4294967296) (hn : ws.length ≤ 4294967296) :
  Calls Tryz.prog 42 #[v] w (NumsR w (numsR ws)) := by
 obtain ⟨a, cap, rfl, _, hcells⟩ := hv
 generalize hout : numsR ws = out
 refine calls_at (args := [.slice a ws.length cap]) (fn := Tryz.f42) (c := codeNs) (n := 29) (by kernel_rfl) (by kernel_rfl) (by kernel_rfl) (by kernel_rfl) ?_
 refine at_run 60 [.code codeNs] w.heap.size [] [] tNs0 [(0, .slice a ws.length cap), (4, .slice none 0 0), (5, .int .i64 0)] w.heap.size [] (lies_nil w) (by kernel_rfl) fun w1 E1 hL1 hK1 => ?_
 have S1 : OwI w (.slice none 0 0) [] w1 := ⟨hK1.below (Nat.le_refl _) (fun k hk => by cases hk), rfl, .inl ⟨rfl, rfl⟩⟩
 refine at_loop (by kernel_rfl) (fun E wx => ∃ (i : Nat) (va : Value) (acc : List Int) (E0 : Nat → Value), i ≤ ws.length ∧ acc.length = i ∧ E = updL E0 [(0, .slice a ws.length cap), (4, va), (5, .int .i64 (i : Nat))] ∧ numsR (ws.take i) = some acc ∧ OwI w va acc wx)
  (fun E _ => ws.length - idxOf (E 5)) ⟨0, _, [], E1, Nat.zero_le _, rfl, rfl, rfl, S1⟩ ?_
 rintro E wx ⟨i, va, acc, E0, hi, hal, rfl, hacc, S⟩ hagain
 refine at_run 60 (bodyT tNs0) wx.heap.size [] [] tNs1 [(0, .slice a ws.length cap), (4, va), (5, .int .i64 (i : Nat)), (11, .bool (decide ((i : Int) < (ws.length : Int))))] wx.heap.size [] (lies_nil wx) (by kernel_rfl) fun w2 E2 hL2 hK2 => ?_
 have S2 := S.below (hK2.below (Nat.le_refl _) (fun k hk => by cases hk))
 refine at_cond (decide ((i : Int) < (ws.length : Int))) (by kernel_rfl) (fun ht => ?_) (fun hf => ?_)
 ·have hlt : i < ws.length := by have := of_decide_eq_true ht; omega
  have hne : ws ≠ [] := fun e => by rw [e] at hlt; exact absurd hlt (Nat.not_lt_zero _)
  obtain ⟨g, off, rfl, hgl, hcell⟩ := hcells hne
  have hsnoc : ws.take (i + 1) = ws.take i ++ [ws[i]] := by rw [List.take_add_one, List.getElem?_eq_getElem hlt]; rfl
  have hxm := List.getElem_mem hlt
  have hxl := hl _ hxm
  have hxc : (strsM ws)[i]? = some (.string ⟨⟨ws[i]⟩⟩) := by simp [hlt]
  generalize hx : ws[i] = x at *
  refine at_run (cntRg 5 90 (thenT tNs1)) (thenT tNs1) w2.heap.size [] [] tNs2 [(0, .slice (some ⟨g, off, none⟩) ws.length cap), (4, va), (5, .int .i64 (i : Nat))] w2.heap.size [] (lies_nil w2) (by kernel_rfl) fun w3 E3 hL3 hK3 => ?_
  have S3 := S2.below (hK3.below (Nat.le_refl _) (fun k hk => by cases hk))
  have hcx : ∀ u, Below w.heap.size w u → Ent.good u ⟨g, off + i * 1, [.string ⟨⟨x⟩⟩], 0, false⟩ := fun u B => ⟨Nat.lt_of_lt_of_le hgl B.size, fun j y hj => by
   cases j with
   | zero =>
    cases hj
    have := (World.cell?_of_block (B.block g hgl)).trans (hcell i _ hxc)
    simpa using this
   | succ j => cases hj⟩
  generalize hnr : numR x = nr
  refine at_ghost ((curReg tNs2).getD #[]) ⟨[⟨g, off + i * 1, [.string ⟨⟨x⟩⟩], 0, false⟩], [(3, 0, 0)], [⟨2, [(15, .slice (some ⟨g, off, none⟩) ws.length cap), (16, .int .i64 (i : Nat))], .pointer (some ⟨g, off + i * 1, none⟩), true⟩, ⟨4, [(18, .string ⟨⟨x⟩⟩)], .tuple #[.int .i64 (nr.getD 0), .bool nr.isSome], true⟩]⟩
   [(0, .slice (some ⟨g, off, none⟩) ws.length cap), (4, va), (5, .int .i64 (i : Nat)), (6, .int .i64 (nr.getD 0)), (7, .bool nr.isSome)] (by kernel_rfl) (by kernel_rfl) (by kernel_rfl) (fun e he => by rw [List.mem_singleton.1 he]; exact hcx w3 S3.bel) (fun sp hsp => ?_) (fun X => by kernel_rfl) (by kernel_rfl) fun w4 E4 b4 => ?_
  ·simp only [List.mem_cons, List.not_mem_nil, or_false] at hsp
   rcases hsp with rfl | rfl
   ·refine spec_op fun _ E w _ => ?_
    exact exec_index (sz := 1) (cap := cap) 53 (.tmp 15) (.tmp 16) (by kernel_rfl) (by kernel_rfl) (by kernel_rfl) hlt Tryz.underlying53 (by kernel_rfl)
   ·refine spec_call 71 [.tmp 18] [.string ⟨⟨x⟩⟩] (by kernel_rfl) (by kernel_rfl) (fun _ => by kernel_rfl) fun _ u hu => below_call hu ?_
    have h := rnum_any x u hxl
    rw [hnr] at h
    exact h
  have S4 := S3.below b4
  cases nr with
  | none =>
   refine at_run 60 (tailT tNs2) w4.heap.size [] [] tNs3 [(23, .bool true)] w4.heap.size [] (lies_nil w4) (by kernel_rfl) fun w5 E5 hL5 hK5 => ?_
   have S5 := S4.below (hK5.below (Nat.le_refl _) (fun k hk => by cases hk))
   refine at_cond true (by kernel_rfl) (fun _ => ?_) (fun h => nomatch h)
   rw [numsR_none x hnr ws hxm] at hout
   subst hout
   exact at_endT (fn := Tryz.f42) 60 (.tuple #[.slice none 0 0, .bool false]) (by kernel_rfl) (by kernel_rfl) fun w6 B6 => ⟨(S5.below B6).bel, rfl⟩
  | some n =>
   refine at_run 60 (tailT tNs2) w4.heap.size [] [] tNs3 [(0, .slice (some ⟨g, off, none⟩) ws.length cap), (4, va), (5, .int .i64 (i : Nat)), (6, .int .i64 n), (23, .bool false)] w4.heap.size [] (lies_nil w4) (by kernel_rfl) fun w5 E5 hL5 hK5 => ?_
   have S5 := S4.below (hK5.below (Nat.le_refl _) (fun k hk => by cases hk))
   refine at_cond false (by kernel_rfl) (fun h => nomatch h) fun _ => ?_
   refine at_run 60 (elseT tNs3) w5.heap.size [] [] tNs4 [(0, .slice (some ⟨g, off, none⟩) ws.length cap), (5, .int .i64 (i : Nat)), (24, va), (26, .slice (some ⟨w5.heap.size, 0, none⟩) 1 1)] (w5.heap.size + 1) [⟨w5.heap.size, 0, [.int .i64 n], 3, true⟩] (lies_nil w5) (by kernel_rfl) fun w6 E6 hL6 hK6 => ?_
   have S6 := S5.below (hK6.below (Nat.le_refl _) (fun k hk => by cases hk))
   have g6 := own_good (hL6.sat.good _ (List.mem_singleton.2 rfl))
   generalize w5.heap.size = k5 at *
   refine at_append (opAt tNs4) (by kernel_rfl) (.tmp 24) (.tmp 26) 44 (by kernel_rfl) w.heap.size 3 Tryz.underlying44 infoInt (by rfl) (by decide) va acc.length (intsM acc) (by kernel_rfl) S6.own ⟨k5, 0, none⟩ 1 1 [.int .i64 n] (by kernel_rfl) rfl ?_ ?_ (by unfold maxLen; omega) (by omega) S6.bel.size fun va' w7 hown hgr => ?_
   ·intro j u hj
    rw [Addr.add_mid]
    exact rangeAt_lit g6 0 _ rfl j u hj
   ·intro u hu
    rw [List.mem_singleton.1 hu]
    rfl
   have S7 : OwI w va' (acc ++ [n]) w7 := S6.grown hgr (by simpa [List.map_append] using hown)
   have hwi : IntKind.i64.wrap ((i : Int) + 1) = ((i + 1 : Nat) : Int) := by rw [IntWalk.i64_in _ (by omega)]; omega
   refine at_run 60 (popOp tNs4) w7.heap.size [] [] (againT tNs0) [(0, .slice (some ⟨g, off, none⟩) ws.length cap), (4, va'), (5, .int .i64 (IntKind.i64.wrap ((i : Int) + 1)))] w7.heap.size [] (lies_nil w7) (by kernel_rfl) fun w8 E8 hL8 hK8 => ?_
   rw [hwi]
   have S8 := S7.below (hK8.below (Nat.le_refl _) (fun k hk => by cases hk))
   refine hagain _ _ ⟨i + 1, va', acc ++ [n], E8, hlt, by rw [List.length_append, hal]; rfl, rfl, by rw [hsnoc]; exact numsR_snoc x n hnr _ _ hacc, S8⟩ ?_
   show ws.length - idxOf (.int .i64 ((i + 1 : Nat) : Int)) < ws.length - idxOf (.int .i64 (i : Int))
   simp only [idxOf]
   omega
 ·have hie : i = ws.length := by have := of_decide_eq_false hf; omega
  rw [hie, List.take_length, hout] at hacc
  subst hacc
  exact at_endT (fn := Tryz.f42) 60 (.tuple #[va, .bool true]) (by kernel_rfl) (by kernel_rfl) fun w3 B3 => let S3 := S2.below B3; ⟨S3.bel, va, rfl, S3.own⟩
end Go.Proofs.YtdcbnkimjhefkaaGreatDoor

namespace Go.Proofs.YtdcbnkimjhefkaaGreatDoor
set_option maxRecDepth 100000
theorem valN_dec (u : Nat) : valN (Lib.decDigits u) = u := by
 induction u using Nat.strongRecOn with
 | ind u ih =>
  rw [Lib.decDigits]
  split
  ·rename_i h
   have := valN_snoc [] (UInt8.ofNat (48 + u))
   rw [List.nil_append] at this
   rw [this, digit_toNat h]
   show 10 * 0 + _ = u
   omega
  ·rename_i h
   rw [valN_snoc, ih (u / 10) (by omega), digit_toNat (Nat.mod_lt _ (by decide))]
   omega
theorem dec_head (u : Nat) (hu : 1 ≤ u) : ((Lib.decDigits u).headD 0).toNat ≠ 48 := by
 induction u using Nat.strongRecOn with
 | ind u ih =>
  rw [Lib.decDigits]
  split
  ·rename_i h
   show (UInt8.ofNat (48 + u)).toNat ≠ 48
   rw [digit_toNat h]
   omega
  ·rename_i h
   have h1 := ih (u / 10) (by omega) (by omega)
   obtain ⟨c, r, e⟩ := dec_ne (u / 10)
   rw [e] at h1 ⊢
   exact h1
theorem dec_short : ∀ (k u : Nat), u < 10 ^ (k + 1) → (Lib.decDigits u).length ≤ k + 1
 | 0, u, h => by
  rw [Lib.decDigits, dif_pos (by omega)]
  simp
 | k + 1, u, h => by
  rw [Lib.decDigits]
  split
  ·simp
  ·rw [List.length_append]
   have h2 : u / 10 < 10 ^ (k + 1) := by
    rw [Nat.pow_succ] at h
    exact Nat.div_lt_of_lt_mul (by rw [Nat.mul_comm]; exact h)
   have := dec_short k (u / 10) h2
   simp only [List.length_cons, List.length_nil]
   omega
theorem dec_ten18 : Lib.decDigits 1000000000000000000 = ten18 := by simp [Lib.decDigits, ten18]
theorem dec_facts (u : Nat) (hu : u ≤ 1000000000000000000) : (Lib.decDigits u).length ≤ 19 ∧ ((Lib.decDigits u).length = 19 → Lib.decDigits u = ten18) := by
 by_cases h : u = 1000000000000000000
 ·subst h
  rw [dec_ten18]
  exact ⟨by decide, fun _ => rfl⟩
 ·have h1 := dec_short 17 u (by rw [show (10 : Nat) ^ (17 + 1) = 1000000000000000000 from by decide]; omega)
  exact ⟨by omega, fun h2 => by omega⟩
theorem digB_of {c : UInt8} (h : 48 ≤ c.toNat ∧ c.toNat ≤ 57) : digB c = true := by
 unfold digB
 rw [decide_eq_false (by omega : ¬ (c.toNat : Int) < 48), decide_eq_false (by omega : ¬ (57 : Int) < (c.toNat : Int))]
 rfl
theorem dec_all (u : Nat) : (Lib.decDigits u).all digB = true := List.all_eq_true.2 fun c hc => digB_of (dec_digits u c hc)
theorem bad_false (neg : Bool) (d : List UInt8) (h1 : d ≠ []) (h2 : d.length ≤ 19) (h3 : d.length = 19 → d = ten18) (h4 : (d.headD 0).toNat = 48 → d.length = 1 ∧ neg = false) : badN neg d = false := by
 unfold badN
 rw [decide_eq_false h1, decide_eq_false (by omega : ¬ (19 : Int) < (d.length : Int))]
 have e1 : cond ((d.length : Int) == 19) (!(decide (d = ten18))) false = false := by
  by_cases h : d.length = 19
  ·rw [decide_eq_true (h3 h)]
   simp
  ·have : ((d.length : Int) == 19) = false := beq_eq_false_iff_ne.2 (by omega)
   rw [this]
   rfl
 rw [e1]
 by_cases h : (d.headD 0).toNat = 48
 ·obtain ⟨h5, h6⟩ := h4 h
  rw [decide_eq_false (by omega : ¬ (1 : Int) < (d.length : Int)), h6]
  simp
 ·have : (((d.headD 0).toNat : Int) == 48) = false := beq_eq_false_iff_ne.2 (by omega)
  rw [this]
  rfl
theorem numR_itoa {n : Int} (h1 : -1000000000000000000 ≤ n) (h2 : n ≤ 1000000000000000000) : numR (Lib.itoa n) = some n := by
 have len_pos : ∀ u, 1 ≤ (Lib.decDigits u).length := fun u => by
  obtain ⟨c, r, e⟩ := dec_ne u
  rw [e]
  simp
 have ne_nil : ∀ u, Lib.decDigits u ≠ [] := fun u => by
  obtain ⟨c, r, e⟩ := dec_ne u
  rw [e]
  simp
 by_cases hn : n < 0
 ·have e : Lib.itoa n = 45 :: Lib.decDigits n.natAbs := by unfold Lib.itoa; rw [if_pos hn]
  have hneg : negN (45 :: Lib.decDigits n.natAbs) = true := by
   unfold negN
   have := len_pos n.natAbs
   rw [decide_eq_true (by rw [List.length_cons]; omega)]
   rfl
  obtain ⟨f1, f2⟩ := dec_facts n.natAbs (by omega)
  rw [e]
  unfold numR
  rw [hneg, if_pos rfl, List.drop_one, List.tail_cons]
  unfold numRd
  rw [bad_false true _ (ne_nil _) f1 f2 (fun h => absurd h (dec_head _ (by omega))), if_neg (by decide), dec_all, if_pos rfl, if_pos rfl, valN_dec]
  congr 1
  omega
 ·have e : Lib.itoa n = Lib.decDigits n.toNat := by unfold Lib.itoa; rw [if_neg hn]
  have hneg : negN (Lib.decDigits n.toNat) = false := by
   unfold negN
   obtain ⟨c, r, e⟩ := dec_ne n.toNat
   have hc := dec_digits n.toNat c (by rw [e]; simp)
   rw [e]
   have : (((List.headD (c :: r) 0).toNat : Int) == 45) = false := beq_eq_false_iff_ne.2 (by show (c.toNat : Int) ≠ 45; omega)
   rw [this]
   cases decide (1 < (((c :: r).length : Nat) : Int)) <;> rfl
  obtain ⟨f1, f2⟩ := dec_facts n.toNat (by omega)
  rw [e]
  unfold numR
  rw [hneg, if_neg (by decide)]
  unfold numRd
  rw [bad_false false _ (ne_nil _) f1 f2 (fun h => ⟨by
   have h0 : n.toNat = 0 := by
    rcases Nat.eq_zero_or_pos n.toNat with h0 | h0
    ·exact h0
    ·exact absurd h (dec_head _ h0)
   rw [h0, Lib.decDigits, dif_pos (by omega)]
   rfl, rfl⟩), if_neg (by decide), dec_all, if_pos rfl, if_neg (by decide), valN_dec]
  congr 1
  omega
theorem dec_val : ∀ (k : Nat) (d : List UInt8), d.length = k → d ≠ [] → d.all digB = true → ((d.headD 0).toNat = 48 → d.length = 1) → Lib.decDigits (valN d) = d
 | 0, d, hk, hne, _, _ => absurd (List.length_eq_zero_iff.1 hk) hne
 | k + 1, d, hk, hne, hall, hh => by
  obtain ⟨l, c, rfl⟩ : ∃ l c, d = l ++ [c] := ⟨d.dropLast, d.getLast hne, (List.dropLast_concat_getLast hne).symm⟩
  rw [List.all_append, Bool.and_eq_true] at hall
  have hc := dig_of (c := c) (by simpa using hall.2)
  have hcc : UInt8.ofNat (48 + (c.toNat - 48)) = c := UInt8.toNat_inj.1 (by rw [digit_toNat (by omega)]; omega)
  rw [valN_snoc]
  by_cases hl : l = []
  ·subst hl
   show Lib.decDigits (10 * 0 + (c.toNat - 48)) = [c]
   rw [Nat.mul_zero, Nat.zero_add, Lib.decDigits, dif_pos (by omega), hcc]
  ·have hlk : l.length = k := by rw [List.length_append] at hk; simpa using hk
   have hlp : 1 ≤ l.length := by
    cases l with
    | nil => exact absurd rfl hl
    | cons => simp
   have hhd : ((l ++ [c]).headD 0) = l.headD 0 := by
    cases l with
    | nil => exact absurd rfl hl
    | cons => rfl
   have hn48 : (l.headD 0).toNat ≠ 48 := fun h => by
    have := hh (by rw [hhd]; exact h)
    rw [List.length_append, List.length_singleton] at this
    omega
   have ih := dec_val k l hlk hl hall.1 (fun h => absurd h hn48)
   have hv : valN l ≠ 0 := fun h => by
    rw [h, Lib.decDigits, dif_pos (by omega)] at ih
    rw [← ih] at hn48
    exact hn48 rfl
   rw [Lib.decDigits, dif_neg (by omega)]
   have e1 : (10 * valN l + (c.toNat - 48)) / 10 = valN l := by omega
   have e2 : (10 * valN l + (c.toNat - 48)) % 10 = c.toNat - 48 := by omega
   rw [e1, e2, ih, hcc]
theorem bad_head {neg : Bool} {d : List UInt8} (h : badN neg d = false) (h48 : (d.headD 0).toNat = 48) : d.length = 1 ∧ neg = false := by
 obtain ⟨hne, _, _⟩ := bad_facts h
 unfold badN at h
 have e : (((d.headD 0).toNat : Int) == 48) = true := by rw [h48]; rfl
 rw [e] at h
 have hp : 1 ≤ d.length := by
  cases d with
  | nil => exact absurd rfl hne
  | cons => simp
 by_cases h1 : (1 : Int) < (d.length : Int)
 ·rw [decide_eq_true h1] at h
  revert h
  generalize cond (cond (decide (d = [])) true (decide ((19 : Int) < (d.length : Int)))) true (cond ((d.length : Int) == 19) (!(decide (d = ten18))) false) = x
  intro h
  cases x <;> cases h
 ·rw [decide_eq_false h1] at h
  revert h
  generalize cond (cond (decide (d = [])) true (decide ((19 : Int) < (d.length : Int)))) true (cond ((d.length : Int) == 19) (!(decide (d = ten18))) false) = x
  intro h
  refine ⟨by omega, ?_⟩
  cases x with
  | true => cases h
  | false => exact h
theorem numR_some {s : List UInt8} {n : Int} (h : numR s = some n) : Lib.itoa n = s ∧ -1000000000000000000 ≤ n ∧ n ≤ 1000000000000000000 := by
 have key : ∀ (neg : Bool) (d : List UInt8), numRd neg d = some n → badN neg d = false ∧ d.all digB = true ∧ Lib.decDigits (valN d) = d ∧ valN d ≤ 1000000000000000000 ∧ n = (if neg = true then -(valN d : Int) else valN d) := by
  intro neg d h
  unfold numRd at h
  split at h
  ·cases h
  rename_i hb
  split at h
  ·rename_i hd
   have hb' : badN neg d = false := by simpa using hb
   have hle := val_le hb' d.length (Nat.le_refl _) (by rw [List.take_length]; exact hd)
   rw [List.take_length] at hle
   exact ⟨hb', hd, dec_val _ d rfl (bad_facts hb').1 hd (fun h => (bad_head hb' h).1), hle, (Option.some.inj h).symm⟩
  ·cases h
 unfold numR at h
 cases hneg : negN s with
 | true =>
  rw [hneg, if_pos rfl] at h
  obtain ⟨hb, hd, he, hle, hn⟩ := key true _ h
  rw [if_pos rfl] at hn
  have hs : s = 45 :: s.drop 1 := by
   unfold negN at hneg
   cases s with
   | nil => cases hneg
   | cons c r =>
    cases hl : decide ((1 : Int) < (((c :: r).length : Nat) : Int)) with
    | false => rw [hl] at hneg; cases hneg
    | true =>
     rw [hl] at hneg
     have : ((c.toNat : Int) == 45) = true := hneg
     have h45 : (c.toNat : Int) = 45 := by simpa using this
     have : c = 45 := UInt8.toNat_inj.1 (by show c.toNat = 45; omega)
     rw [this]
     rfl
  have hpos : 1 ≤ valN (s.drop 1) := by
   rcases Nat.eq_zero_or_pos (valN (s.drop 1)) with h0 | h0
   ·rw [h0, Lib.decDigits, dif_pos (by omega)] at he
    have := (bad_head hb (by rw [← he]; rfl)).2
    cases this
   ·exact h0
  refine ⟨?_, by omega, by omega⟩
  rw [hn]
  unfold Lib.itoa
  rw [if_pos (by omega), Int.natAbs_neg, Int.natAbs_natCast, he]
  exact hs.symm
 | false =>
  rw [hneg, if_neg (by decide)] at h
  obtain ⟨hb, hd, he, hle, hn⟩ := key false _ h
  rw [if_neg (by decide)] at hn
  refine ⟨?_, by omega, by omega⟩
  rw [hn]
  unfold Lib.itoa
  rw [if_neg (by omega), Int.toNat_natCast, he]
theorem numR_eq (s : List UInt8) : numR s = numO s := by
 cases h : numO s with
 | some n =>
  have hs : Lib.itoa n = s ∧ -1000000000000000000 ≤ n ∧ n ≤ 1000000000000000000 := by
   unfold numO at h
   split at h
   ·split at h
    ·rename_i hc
     obtain rfl := Option.some.inj h
     exact hc
    ·cases h
   ·cases h
  obtain ⟨rfl, h1, h2⟩ := hs
  exact numR_itoa h1 h2
 | none =>
  cases h2 : numR s with
  | none => rfl
  | some n =>
   obtain ⟨rfl, h3, h4⟩ := numR_some h2
   rw [numO_itoa h3 h4] at h
   cases h
end Go.Proofs.YtdcbnkimjhefkaaGreatDoor

namespace Go.Proofs.YtdcbnkimjhefkaaGreatDoor
open Go.RowKit
set_option maxRecDepth 100000
def skipK (x : List UInt8) (k : Nat) : Bool := cond (decide ((wordP (k : Int)).1 = [])) true (!(decide (x = (wordP (k : Int)).1)))
def findK (x : List UInt8) : Nat → Nat → Option Nat
 | 0, _ => none
 | m + 1, k => if skipK x k = true then findK x m (k + 1) else some k
def fldR : List UInt8 → List (List UInt8) → Cmd → Option Cmd
 | [], _, c => some c
 | _ :: _, [], _ => none
 | a :: l, s :: r, c => if a.toNat = 110 then (if Tk.isName s = true then fldR l r { c with nm := s } else none) else match numR s with
  | none => none
  | some n => fldR l r (setN (upLetter a.toNat) n c)
def factCmd (c : Cmd) : Cmd := ⟨1, c.emp, c.fk, c.fr, c.nm, c.val, c.ext, c.rnk, c.txt, 0, 0, 0, 0⟩
def wPrep : List UInt8 := [112, 114, 101, 112, 97, 114, 101]
def wRel : List UInt8 := [114, 101, 108, 101, 97, 115, 101]
def wPay : List UInt8 := [112, 97, 121]
def wRev : List UInt8 := [114, 101, 118, 101, 114, 115, 101]
def wCrash : List UInt8 := [99, 114, 97, 115, 104]
def tailR (x : List UInt8) (ns : List Int) : Option Cmd :=
 if x = wPrep ∧ ns.length = 1 then some (kc 2 (ns.headD 0)) else if x = wRel ∧ ns.length = 0 then some (kc 3 0) else if x = wPay ∧ ns.length = 0 then some (kc 4 0) else if x = wRev ∧ ns.length = 0 then some (kc 5 0) else
 match ns with
 | [a, b, c] => if x = wCrash ∧ 0 ≤ a then some (cr a.toNat b c) else none
 | _ => none
def simpleS (fk : Option Nat) (x : List UInt8) (r : List (List UInt8)) : Option Cmd := match fk with
 | some k => if r.length = (wordP (k : Int)).2.length then (fldR (wordP (k : Int)).2 r ⟨1, 0, (k : Int), 0, [], 0, 0, 0, [], 0, 0, 0, 0⟩).map factCmd else none
 | none => match numsR r with
  | none => none
  | some ns => tailR x ns
def simpleR : List (List UInt8) → Option Cmd
 | [] => none
 | x :: r => simpleS (findK x 9 1) x r
def simV (r : Option Cmd) : Value := .tuple #[.agg ⟨(r.map Cmd.cells).getD zeroC⟩, .bool r.isSome]
abbrev SimR (w0 : World) (r : Option Cmd) (e : Ending) (w : World) : Prop := e = .returned (simV r) ∧ Below w0.heap.size w0 w
structure SiS (w0 : World) (k2 : Nat) (w : World) : Prop where
 bel : Below w0.heap.size w0 w
 m2 : w.heap[k2]? = some (.cells zeroC.toArray 64 (0, 0))
 o2 : w0.heap.size ≤ k2
variable {w0 w : World} {k2 k7 g off cap : Nat} {x : List UInt8} {r : List (List UInt8)} {E : Nat → Value}
theorem SiS.below {w' : World} (h : SiS w0 k2 w) (hb : Below w.heap.size w w') : SiS w0 k2 w' := ⟨h.bel.trans (hb.mono h.bel.size), (hb.block k2 (heap_lt h.m2)).trans h.m2, h.o2⟩
structure SiF (w0 : World) (k2 k7 : Nat) (c : Cmd) (w : World) : Prop where
 s : SiS w0 k2 w
 m7 : w.heap[k7]? = some (.cells c.fact.toArray 61 (0, 0))
 o7 : k2 < k7
theorem SiF.below {c : Cmd} {w' : World} (h : SiF w0 k2 k7 c w) (hb : Below w.heap.size w w') : SiF w0 k2 k7 c w' := ⟨h.s.below hb, (hb.block k7 (heap_lt h.m7)).trans h.m7, h.o7⟩
theorem SiF.kept {c c' : Cmd} {w' : World} (h : SiF w0 k2 k7 c w) (hK : Kept [k7] w.heap.size w w') (hm : w'.heap[k7]? = some (.cells c'.fact.toArray 61 (0, 0))) : SiF w0 k2 k7 c' w' := by
 have h1 := h.s.o2
 have h2 := h.o7
 have h3 := heap_lt h.s.m2
 exact ⟨⟨h.s.bel.trans (hK.below h.s.bel.size (fun k hk => by rw [List.mem_singleton.1 hk]; omega)), (hK.block k2 h3 (by simp; omega)).trans h.s.m2, h1⟩, hm, h2⟩
noncomputable def codeSi : Code := Tryz.f41.body.getD .skip
noncomputable def tSi0 : List Item := advT 60 [.code codeSi]
noncomputable def tSi1 : List Item := advT 60 (bodyT tSi0)
noncomputable def tSi2 : List Item := advT 60 (thenT tSi1)
noncomputable def tSi3 : List Item := advG (popOp tSi2)
noncomputable def tSi4 : List Item := advT 60 (tailT tSi3)
noncomputable def tSi5 : List Item := advT 60 (elseT tSi4)
noncomputable def tSi6 : List Item := advT 60 (thenT tSi5)
noncomputable def tSi7 : List Item := advT 60 (elseT tSi5)
noncomputable def tSi8 : List Item := advT 60 (bodyT tSi7)
noncomputable def tSi9 : List Item := advRg 12 (thenT tSi8)
noncomputable def tSia : List Item := advT 60 (tailT tSi9)
noncomputable def tSib : List Item := advT (cntO isIdxA 90 (thenT tSia)) (thenT tSia)
noncomputable def tSic : List Item := advT 60 (popOp (popOp tSib))
noncomputable def tSid : List Item := advT 60 (popOp tSic)
noncomputable def tSie : List Item := advT 60 (thenT tSid)
noncomputable def tSif : List Item := advT (cntO isIdxA 90 (elseT tSia)) (elseT tSia)
noncomputable def tSig : List Item := popOp (popOp tSif)
noncomputable def tSih : List Item := advT 60 (popOp tSig)
noncomputable def tSihb : List Item := advT 60 (thenT tSih)
noncomputable def tSii : List Item := advT 60 (elseT tSih)
noncomputable def tSij : List Item := advT 60 (popOp tSii)
noncomputable def tSik : List Item := advT 60 (elseT tSi8)
noncomputable def tSil : List Item := advT (cntO isSliceO 90 (elseT tSi1)) (elseT tSi1)
noncomputable def tSim : List Item := advT 60 (popOp tSil)
noncomputable def tSin : List Item := advT 60 (popOp tSim)
noncomputable def tSinb : List Item := advT 60 (thenT tSin)
noncomputable def tSo0 : List Item := advG (elseT tSin)
noncomputable def tSp0 : List Item := advT 60 (tailT tSo0)
noncomputable def tSq0 : List Item := advT 60 (thenT tSp0)
noncomputable def tSo1 : List Item := advG (elseT tSp0)
noncomputable def tSp1 : List Item := advT 60 (tailT tSo1)
noncomputable def tSq1 : List Item := advT 60 (thenT tSp1)
noncomputable def tSo2 : List Item := advG (elseT tSp1)
noncomputable def tSp2 : List Item := advT 60 (tailT tSo2)
noncomputable def tSq2 : List Item := advT 60 (thenT tSp2)
noncomputable def tSo3 : List Item := advG (elseT tSp2)
noncomputable def tSp3 : List Item := advT 60 (tailT tSo3)
noncomputable def tSq3 : List Item := advT 60 (thenT tSp3)
noncomputable def tSo4 : List Item := advG (elseT tSp3)
noncomputable def tSp4 : List Item := advT 60 (tailT tSo4)
noncomputable def tSq4 : List Item := advT 60 (thenT tSp4)
noncomputable def tSz : List Item := advT 60 (elseT tSp4)
abbrev vS (g off cap : Nat) (r : List (List UInt8)) : Value := .slice (some ⟨g, off, none⟩) (r.length + 1) cap
structure WsAt (w0 : World) (g off : Nat) (x : List UInt8) (r : List (List UInt8)) : Prop where
 lt : g < w0.heap.size
 cells : w0.rangeAt g off (strsM (x :: r))
 len : ∀ y ∈ x :: r, y.length ≤ 4294967296
 cnt : r.length ≤ 4294967290
theorem WsAt.good (H : WsAt w0 g off x r) {u : World} (B : Below w0.heap.size w0 u) (i : Nat) (y : List UInt8) (hy : (x :: r)[i]? = some y) : Ent.good u ⟨g, off + i * 1, [.string ⟨⟨y⟩⟩], 0, false⟩ :=
 ⟨Nat.lt_of_lt_of_le H.lt B.size, fun j z hj => by
  cases j with
  | zero =>
   cases hj
   have hc : (strsM (x :: r))[i]? = some (.string ⟨⟨y⟩⟩) := by unfold strsM; rw [List.getElem?_map, hy]; rfl
   have := (World.cell?_of_block (B.block g H.lt)).trans (H.cells i _ hc)
   simpa using this
  | succ j => cases hj⟩
theorem WsAt.cell (H : WsAt w0 g off x r) {u : World} (B : Below w0.heap.size w0 u) (i : Nat) (y : List UInt8) (hy : (x :: r)[i]? = some y) : u.cell? ⟨g, off + i * 1, none⟩ = some (.string ⟨⟨y⟩⟩) := by
 have := (H.good B i y hy).2
 exact this 0 _ rfl
theorem si_fields (H : WsAt w0 g off x r) {fs : List UInt8} (hfs : ∀ a ∈ fs, a.toNat = 110 ∨ (a.toNat = 101 ∨ a.toNat = 100 ∨ a.toNat = 118 ∨ a.toNat = 120 ∨ a.toNat = 114)) (hfl : fs.length ≤ 10) (hrl : r.length = fs.length) {c0 : Cmd} (S0 : SiF w0 k2 k7 c0 w) :
  At Tryz.prog 41 (SimR w0 ((fldR fs r c0).map factCmd)) tSi7 (Fr 164 (updL E [(0, vS g off cap r), (2, pt k2), (6, .string ⟨⟨fs⟩⟩), (7, pt k7), (8, .int .i64 0)])) w := by
 generalize hout : fldR fs r c0 = out
 refine at_loop (by kernel_rfl) (fun E wx => ∃ (i : Nat) (c : Cmd) (E0 : Nat → Value), i ≤ fs.length ∧ E = updL E0 [(0, vS g off cap r), (2, pt k2), (6, .string ⟨⟨fs⟩⟩), (7, pt k7), (8, .int .i64 (i : Nat))] ∧ fldR (fs.drop i) (r.drop i) c = out ∧ SiF w0 k2 k7 c wx)
  (fun E _ => fs.length - idxOf (E 8)) ⟨0, c0, E, Nat.zero_le _, rfl, hout, S0⟩ ?_
 rintro E wx ⟨i, c, E0, hi, rfl, ho, S⟩ hagain
 refine at_run 60 (bodyT tSi7) wx.heap.size [] [] tSi8 ([(0, vS g off cap r), (2, pt k2), (6, .string ⟨⟨fs⟩⟩), (7, pt k7), (8, .int .i64 (i : Nat))] ++ [(43, .bool (decide ((i : Int) < (fs.length : Int))))]) wx.heap.size [] (lies_nil wx) (by kernel_rfl) fun w1 E1 hL1 hK1 => ?_
 have S1 := S.below (hK1.below (Nat.le_refl _) (fun k hk => by cases hk))
 refine at_cond (decide ((i : Int) < (fs.length : Int))) (by kernel_rfl) (fun ht => ?_) (fun hf => ?_)
 ·have hlt : i < fs.length := by have := of_decide_eq_true ht; omega
  have hlr : i < r.length := by omega
  have hwi : IntKind.i64.wrap ((i : Int) + 1) = ((i + 1 : Nat) : Int) := by rw [IntWalk.i64_in _ (by omega)]; omega
  have hget := fun w => idx_str w fs i hlt
  have hfa := hfs _ (List.getElem_mem hlt)
  have hd1 : fs.drop i = fs[i] :: fs.drop (i + 1) := (List.getElem_cons_drop hlt).symm
  have hd2 : r.drop i = r[i] :: r.drop (i + 1) := (List.getElem_cons_drop hlr).symm
  have hy : (x :: r)[i + 1]? = some r[i] := by rw [List.getElem?_cons_succ, List.getElem?_eq_getElem hlr]
  have hyl := H.len r[i] (List.mem_cons_of_mem _ (List.getElem_mem hlr))
  rw [hd1, hd2, fldR] at ho
  generalize fs[i] = a at *
  generalize r[i] = y at *
  refine at_run (cntRg 12 90 (thenT tSi8)) (thenT tSi8) w1.heap.size [] [] tSi9 [(0, vS g off cap r), (2, pt k2), (6, .string ⟨⟨fs⟩⟩), (7, pt k7), (8, .int .i64 (i : Nat))] w1.heap.size [] (lies_nil w1) (by kernel_rfl) fun w2 E2 hL2 hK2 => ?_
  have S2 := S1.below (hK2.below (Nat.le_refl _) (fun k hk => by cases hk))
  refine at_ghost ((curReg tSi9).getD #[]) ⟨[], [], [⟨2, [(46, .string ⟨⟨fs⟩⟩), (47, .int .i64 (i : Nat))], .int .u8 (a.toNat : Int), true⟩]⟩ ([(0, vS g off cap r), (2, pt k2), (6, .string ⟨⟨fs⟩⟩), (7, pt k7), (8, .int .i64 (i : Nat))] ++ [(49, .bool ((a.toNat : Int) == 110))]) (by kernel_rfl) (by kernel_rfl) (by kernel_rfl) (fun e he => by cases he) (fun sp hsp => ?_) (fun X => by kernel_rfl) (by kernel_rfl) fun w3 E3 b3 => ?_
  ·rw [List.mem_singleton.1 hsp]
   refine spec_op fun _ E w _ => ?_
   exact exec_idx (T := 9) (x := .tmp 46) (i := .tmp 47) (v1 := .string ⟨⟨fs⟩⟩) (v2 := .int .i64 (i : Int)) (by kernel_rfl) (by kernel_rfl) (by kernel_rfl) (hget w)
  have S3 := S2.below b3
  by_cases ha : a.toNat = 110
  ·rw [if_pos ha] at ho
   have e49 : ((a.toNat : Int) == 110) = true := by rw [ha]; rfl
   rw [e49]
   refine at_run 60 (tailT tSi9) w3.heap.size [] [] tSia ([(0, vS g off cap r), (2, pt k2), (6, .string ⟨⟨fs⟩⟩), (7, pt k7), (8, .int .i64 (i : Nat))] ++ [(49, .bool true)]) w3.heap.size [] (lies_nil w3) (by kernel_rfl) fun w4 E4 hL4 hK4 => ?_
   have S4 := S3.below (hK4.below (Nat.le_refl _) (fun k hk => by cases hk))
   refine at_cond true (by kernel_rfl) (fun _ => ?_) (fun h => nomatch h)
   refine at_run (cntO isIdxA 90 (thenT tSia)) (thenT tSia) w4.heap.size [] [] tSib ([(0, vS g off cap r), (2, pt k2), (6, .string ⟨⟨fs⟩⟩), (7, pt k7), (8, .int .i64 (i : Nat))] ++ [(50, vS g off cap r), (52, .int .i64 (IntKind.i64.wrap ((i : Int) + 1)))]) w4.heap.size [] (lies_nil w4) (by kernel_rfl) fun w5 E5 hL5 hK5 => ?_
   have S5 := S4.below (hK5.below (Nat.le_refl _) (fun k hk => by cases hk))
   rw [hwi]
   refine at_elem (g := g) (off := off) (cap := cap) (sz := 1) (k := i + 1) (len := r.length + 1) (some 53) (by kernel_rfl) (by omega) Tryz.underlying53 (by kernel_rfl) ?_
   refine at_load1 9 g (off + (i + 1) * 1) (.string ⟨⟨y⟩⟩) (some 54) (by kernel_rfl) (by kernel_rfl) (H.cell S5.s.bel (i + 1) y hy) ?_
   refine at_run 60 (popOp (popOp tSib)) w5.heap.size [⟨k7, 0, c.fact, 61, true⟩] [(0, 3), (0, 3)] tSic ([(0, vS g off cap r), (2, pt k2), (6, .string ⟨⟨fs⟩⟩), (7, pt k7), (8, .int .i64 (i : Nat))] ++ [(57, .string ⟨⟨y⟩⟩)]) w5.heap.size [⟨k7, 0, ({ c with nm := y } : Cmd).fact, 61, true⟩] (lies_one S5.m7) (by kernel_rfl) fun w6 E6 hL6 hK6 => ?_
   have S6 : SiF w0 k2 k7 { c with nm := y } w6 := S5.kept hK6 (own_good (hL6.sat.good _ (List.mem_singleton.2 rfl)))
   refine at_call 70 [.tmp 57] (some 58) [.string ⟨⟨y⟩⟩] (by kernel_rfl) (by kernel_rfl) (by kernel_rfl) ((risName_any y w6 (by unfold maxLen; omega)).mono fun e w7 hh => ?_)
   obtain ⟨rfl, b7⟩ := hh
   refine ⟨_, rfl, ?_⟩
   have S7 := S6.below b7
   generalize Tk.isName y = bn at *
   refine at_run 60 (popOp tSic) w7.heap.size [] [] tSid ([(0, vS g off cap r), (2, pt k2), (6, .string ⟨⟨fs⟩⟩), (7, pt k7), (8, .int .i64 (i : Nat))] ++ [(59, .bool (!bn))]) w7.heap.size [] (lies_nil w7) (by kernel_rfl) fun w8 E8 hL8 hK8 => ?_
   have S8 := S7.below (hK8.below (Nat.le_refl _) (fun k hk => by cases hk))
   cases bn with
   | false =>
    obtain rfl : none = out := ho
    refine at_cond true (by kernel_rfl) (fun _ => ?_) (fun h => nomatch h)
    refine at_run 60 (thenT tSid) w8.heap.size [⟨k2, 0, zeroC, 64, true⟩] [(0, 0)] tSie [(2, pt k2), (3, .bool false)] w8.heap.size [⟨k2, 0, zeroC, 64, true⟩] (lies_one S8.s.m2) (by kernel_rfl) fun wb1 Eb1 hLb1 hKb1 => ?_
    exact at_ret (fn := Tryz.f41) (by kernel_rfl) (by kernel_rfl) ⟨0, [⟨k2, 0, zeroC, 64, true⟩], (0, 0), []⟩ hLb1.sat.good (.tuple #[.agg ⟨zeroC⟩, .bool false]) (by kernel_rfl) (by kernel_rfl) ⟨rfl, S8.s.bel.trans (hKb1.below S8.s.bel.size (fun k hk => by rw [List.mem_singleton.1 hk]; exact S8.s.o2))⟩
   | true =>
    refine at_cond false (by kernel_rfl) (fun h => nomatch h) fun _ => ?_
    refine at_run 60 (elseT tSid) w8.heap.size [] [] (againT tSi7) [(0, vS g off cap r), (2, pt k2), (6, .string ⟨⟨fs⟩⟩), (7, pt k7), (8, .int .i64 (IntKind.i64.wrap ((i : Int) + 1)))] w8.heap.size [] (lies_nil w8) (by kernel_rfl) fun w9 E9 hL9 hK9 => ?_
    rw [hwi]
    refine hagain _ _ ⟨i + 1, { c with nm := y }, E9, hlt, rfl, ho, S8.below (hK9.below (Nat.le_refl _) (fun k hk => by cases hk))⟩ ?_
    show fs.length - idxOf (.int .i64 ((i + 1 : Nat) : Int)) < fs.length - idxOf (.int .i64 (i : Int))
    simp only [idxOf]
    omega
  ·rw [if_neg ha] at ho
   have e49 : ((a.toNat : Int) == 110) = false := beq_eq_false_iff_ne.2 (by omega)
   rw [e49]
   refine at_run 60 (tailT tSi9) w3.heap.size [] [] tSia ([(0, vS g off cap r), (2, pt k2), (6, .string ⟨⟨fs⟩⟩), (7, pt k7), (8, .int .i64 (i : Nat))] ++ [(49, .bool false)]) w3.heap.size [] (lies_nil w3) (by kernel_rfl) fun w4 E4 hL4 hK4 => ?_
   have S4 := S3.below (hK4.below (Nat.le_refl _) (fun k hk => by cases hk))
   refine at_cond false (by kernel_rfl) (fun h => nomatch h) fun _ => ?_
   refine at_run (cntO isIdxA 90 (elseT tSia)) (elseT tSia) w4.heap.size [] [] tSif ([(0, vS g off cap r), (2, pt k2), (6, .string ⟨⟨fs⟩⟩), (7, pt k7), (8, .int .i64 (i : Nat))] ++ [(62, vS g off cap r), (64, .int .i64 (IntKind.i64.wrap ((i : Int) + 1)))]) w4.heap.size [] (lies_nil w4) (by kernel_rfl) fun w5 E5 hL5 hK5 => ?_
   have S5 := S4.below (hK5.below (Nat.le_refl _) (fun k hk => by cases hk))
   rw [hwi]
   refine at_elem (g := g) (off := off) (cap := cap) (sz := 1) (k := i + 1) (len := r.length + 1) (some 65) (by kernel_rfl) (by omega) Tryz.underlying53 (by kernel_rfl) ?_
   refine at_load1 9 g (off + (i + 1) * 1) (.string ⟨⟨y⟩⟩) (some 66) (by kernel_rfl) (by kernel_rfl) (H.cell S5.s.bel (i + 1) y hy) ?_
   refine at_known ([(0, vS g off cap r), (2, pt k2), (6, .string ⟨⟨fs⟩⟩), (7, pt k7), (8, .int .i64 (i : Nat))] ++ [(66, .string ⟨⟨y⟩⟩)]) (by kernel_rfl) fun E6 => ?_
   refine at_call 71 [.tmp 66] (some 67) [.string ⟨⟨y⟩⟩] (by kernel_rfl) (by kernel_rfl) (by kernel_rfl) ((rnum_any y w5 hyl).mono fun e w7 hh => ?_)
   obtain ⟨rfl, b7⟩ := hh
   refine ⟨_, rfl, ?_⟩
   have S7 := S5.below b7
   unfold numV
   cases hn : numR y with
   | none =>
    rw [hn] at ho
    obtain rfl : none = out := ho
    refine at_run 60 (popOp tSig) w7.heap.size [] [] tSih ([(0, vS g off cap r), (2, pt k2), (6, .string ⟨⟨fs⟩⟩), (7, pt k7), (8, .int .i64 (i : Nat))] ++ [(71, .bool true)]) w7.heap.size [] (lies_nil w7) (by kernel_rfl) fun w8 E8 hL8 hK8 => ?_
    have S8 := S7.below (hK8.below (Nat.le_refl _) (fun k hk => by cases hk))
    refine at_cond true (by kernel_rfl) (fun _ => ?_) (fun h => nomatch h)
    refine at_run 60 (thenT tSih) w8.heap.size [⟨k2, 0, zeroC, 64, true⟩] [(0, 0)] tSihb [(2, pt k2), (3, .bool false)] w8.heap.size [⟨k2, 0, zeroC, 64, true⟩] (lies_one S8.s.m2) (by kernel_rfl) fun wb2 Eb2 hLb2 hKb2 => ?_
    exact at_ret (fn := Tryz.f41) (by kernel_rfl) (by kernel_rfl) ⟨0, [⟨k2, 0, zeroC, 64, true⟩], (0, 0), []⟩ hLb2.sat.good (.tuple #[.agg ⟨zeroC⟩, .bool false]) (by kernel_rfl) (by kernel_rfl) ⟨rfl, S8.s.bel.trans (hKb2.below S8.s.bel.size (fun k hk => by rw [List.mem_singleton.1 hk]; exact S8.s.o2))⟩
   | some n =>
    rw [hn] at ho
    replace ho : fldR (fs.drop (i + 1)) (r.drop (i + 1)) (setN (upLetter a.toNat) n c) = out := ho
    refine at_run 60 (popOp tSig) w7.heap.size [] [] tSih ([(0, vS g off cap r), (2, pt k2), (6, .string ⟨⟨fs⟩⟩), (7, pt k7), (8, .int .i64 (i : Nat))] ++ [(9, .int .i64 n), (71, .bool false)]) w7.heap.size [] (lies_nil w7) (by kernel_rfl) fun w8 E8 hL8 hK8 => ?_
    have S8 := S7.below (hK8.below (Nat.le_refl _) (fun k hk => by cases hk))
    refine at_cond false (by kernel_rfl) (fun h => nomatch h) fun _ => ?_
    refine at_run 60 (elseT tSih) w8.heap.size [] [] tSii ([(0, vS g off cap r), (2, pt k2), (6, .string ⟨⟨fs⟩⟩), (7, pt k7), (8, .int .i64 (i : Nat))] ++ [(9, .int .i64 n), (73, .string ⟨⟨fs⟩⟩), (74, .int .i64 (i : Nat))]) w8.heap.size [] (lies_nil w8) (by kernel_rfl) fun w9 E9 hL9 hK9 => ?_
    have S9 := S8.below (hK9.below (Nat.le_refl _) (fun k hk => by cases hk))
    refine at_index 9 (.string ⟨⟨fs⟩⟩) (.int .i64 (i : Int)) (some 75) (.int .u8 (a.toNat : Int)) (by kernel_rfl) (hget w9) ?_
    refine at_run 60 (popOp tSii) w9.heap.size [] [] tSij ([(0, vS g off cap r), (2, pt k2), (6, .string ⟨⟨fs⟩⟩), (7, pt k7), (8, .int .i64 (i : Nat))] ++ [(75, .int .u8 (a.toNat : Int)), (76, .int .i64 n)]) w9.heap.size [] (lies_nil w9) (by kernel_rfl) fun w10 E10 hL10 hK10 => ?_
    have S10 := S9.below (hK10.below (Nat.le_refl _) (fun k hk => by cases hk))
    refine at_call 72 [.tmp 7, .tmp 75, .tmp 76] (some 77) [pt k7, .int .u8 (a.toNat : Int), .int .i64 n] (by kernel_rfl) (by kernel_rfl) (by kernel_rfl) ((rset_any k7 c a.toNat n (hfa.resolve_left ha) w10 S10.m7).mono fun e w11 hh => ?_)
    obtain ⟨rfl, hm11, hK11⟩ := hh
    refine ⟨_, rfl, ?_⟩
    have S11 : SiF w0 k2 k7 (setN (upLetter a.toNat) n c) w11 := S10.kept hK11 hm11
    refine at_run 60 (popOp tSij) w11.heap.size [] [] (againT tSi7) [(0, vS g off cap r), (2, pt k2), (6, .string ⟨⟨fs⟩⟩), (7, pt k7), (8, .int .i64 (IntKind.i64.wrap ((i : Int) + 1)))] w11.heap.size [] (lies_nil w11) (by kernel_rfl) fun w12 E12 hL12 hK12 => ?_
    rw [hwi]
    refine hagain _ _ ⟨i + 1, setN (upLetter a.toNat) n c, E12, hlt, rfl, ho, S11.below (hK12.below (Nat.le_refl _) (fun k hk => by cases hk))⟩ ?_
    show fs.length - idxOf (.int .i64 ((i + 1 : Nat) : Int)) < fs.length - idxOf (.int .i64 (i : Int))
    simp only [idxOf]
    omega
 ·have hie : i = fs.length := by have := of_decide_eq_false hf; omega
  rw [hie, List.drop_length, fldR] at ho
  subst ho
  have n27 : k2 ≠ k7 := by have := S1.o7; omega
  refine at_run 60 (elseT tSi8) w1.heap.size [⟨k2, 0, zeroC, 64, true⟩, ⟨k7, 0, c.fact, 61, true⟩] [(1, 0), (0, 0)] tSik [(2, pt k2), (3, .bool true)] w1.heap.size [⟨k2, 0, (factCmd c).cells, 64, true⟩, ⟨k7, 0, c.fact, 61, true⟩] (lies_two S1.s.m2 S1.m7 n27) (by kernel_rfl) fun w2 E2 hL2 hK2 => ?_
  refine at_ret (fn := Tryz.f41) (by kernel_rfl) (by kernel_rfl) ⟨0, [⟨k2, 0, (factCmd c).cells, 64, true⟩, ⟨k7, 0, c.fact, 61, true⟩], (0, 0), []⟩ hL2.sat.good (.tuple #[.agg ⟨(factCmd c).cells⟩, .bool true]) (by kernel_rfl) (by kernel_rfl) ⟨rfl, S1.s.bel.trans (hK2.below S1.s.bel.size (fun k hk => ?_))⟩
  have h1 := S1.s.o2
  have h2 := S1.o7
  simp only [List.map_cons, List.map_nil, List.mem_cons, List.not_mem_nil, or_false] at hk
  rcases hk with rfl | rfl <;> omega
end Go.Proofs.YtdcbnkimjhefkaaGreatDoor

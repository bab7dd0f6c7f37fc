/-
  The walks of the reference's small functions on texts (payrollref17): IsKeyword, IsName, symbol.
  The reference's Kids and own.
-/
import Derived.Test.YtpdbkbadjgellaaGreatDoorZ14
import Derived.Lib.SlBytesConst
namespace Go.Proofs.YtpdbkbadjgellaaGreatDoor
open Go.RowKit
attribute [local go_sem] ba_get ba_extract take_rest

theorem or_two {p q G : Prop} (h : p ∨ q) (h1 : p → G) (h2 : q → G) : G := h.elim h1 h2
theorem keywords_len : Tk.keywords.length = 34 := by decide
theorem keyBlock (w : World) (k : Nat) (hk : k < 34) : (w.alloc (.cells (Tk.keywords.map fun x => Value.string ⟨x.toArray⟩).toArray 9)).cell? ⟨w.heap.size, k, none⟩ = some (.string ⟨(Tk.keywords[k]'(by rw [keywords_len]; exact hk)).toArray⟩) := by
  rw [Lib.cell_of_heap (heap_alloc_new w _), List.getElem?_toArray, List.getElem?_map, List.getElem?_eq_getElem (by rw [keywords_len]; exact hk)]
  rfl

set_option maxHeartbeats 1000000 in
set_option maxRecDepth 100000 in
theorem risKeyword_any (l : List UInt8) (w : World) :
    Calls Tryz.prog 14 #[.string ⟨l.toArray⟩] w fun e w' => e = .returned (.bool (Tk.isKey l)) ∧ Below w.heap.size w w' := by
  go_enter Tryz.func14, Tryz.ntmps14
  go_wp2_with fail
  change Code.wp _ _ _ _ (w.alloc (.cells (Tk.keywords.map fun x => Value.string ⟨x.toArray⟩).toArray 9))
  have HC := Lib.hid (keyBlock w)
  have hB : Below w.heap.size w (w.alloc (.cells (Tk.keywords.map fun x => Value.string ⟨x.toArray⟩).toArray 9)) := (Below.refl _ _).alloc (Nat.le_refl _) _
  generalize w.alloc (.cells (Tk.keywords.map fun x => Value.string ⟨x.toArray⟩).toArray 9) = w1 at *
  go_loop [4] (fun i => ∃ k : Nat, k ≤ 34 ∧ i = .int .i64 k ∧ Hid (∀ j (h : j < Tk.keywords.length), j < k → Tk.keywords[j] ≠ l)) (fun i => 34 - (intOf i).toNat)
  case atStart => exact ⟨0, Nat.zero_le _, rfl, fun _ _ h => by omega⟩
  case round =>
    obtain ⟨k, hk, rfl, HA⟩ := hrel
    by_cases hlt : k < 34
    · have hc := HC.out k hlt
      have hkl : k < Tk.keywords.length := by rw [keywords_len]; exact hlt
      by_cases he : Tk.keywords[k] = l
      · have HF : Hid (Tk.isKey l = true) := by show _ = _; unfold Tk.isKey; rw [List.contains_iff_mem, ← he]; exact List.getElem_mem _
        rw [he] at hc
        clear he
        go_wp2_with fail
        go_ret
        exact ⟨ret_bool HF.out.symm, hB⟩
      · have HN : Hid (∀ j (h : j < Tk.keywords.length), j < k + 1 → Tk.keywords[j] ≠ l) := fun j h hj => if e : j = k then by subst e; exact he else HA.out j h (by omega)
        generalize Tk.keywords[k] = x at *
        have g : (x == l) = false := by simpa using he
        clear he
        go_wp2_with fail
        go_round
        case rel => exact ⟨k + 1, by omega, by go_num, HN⟩
        case measure => simp [intOf]; omega
    · have HF : Hid (Tk.isKey l = false) := by
        show _ = _
        unfold Tk.isKey
        rw [Bool.eq_false_iff]
        intro h
        obtain ⟨j, hj, e⟩ := List.getElem_of_mem (List.contains_iff_mem.1 h)
        exact HA.out j hj (by rw [keywords_len] at hj; omega) e
      go_wp2_with fail
      go_ret
      exact ⟨ret_bool HF.out.symm, hB⟩

set_option maxHeartbeats 1000000 in
theorem risName_any (l : List UInt8) (w : World) (hs : l.length ≤ maxLen) :
    Calls Tryz.prog 12 #[.string ⟨l.toArray⟩] w fun e w' => e = .returned (.bool (Tk.isName l)) ∧ Below w.heap.size w w' := by
  have hs' := hs
  unfold maxLen at hs
  cases l with
  | nil =>
    go_enter Tryz.func12, Tryz.ntmps12
    go_wp2_with fail
    go_ret
    exact ⟨rfl, Below.refl _ _⟩
  | cons c r =>
    by_cases h1 : (c :: r).length ≤ 24
    · by_cases h2 : Tk.wordLen (c :: r) = (c :: r).length
      · have HN : Hid (Tk.isName (c :: r) = !Tk.isKey (c :: r)) := by show _ = _; simp [Tk.isName, h2]; intro _; simpa using h1
        have H2 := Lib.hid h2
        simp only [List.length_cons] at h1
        clear h2
        go_enter Tryz.func12, Tryz.ntmps12
        go_wp2_with fail
        refine (rword_any (c :: r) 0 _ hs' (Nat.zero_le _)).mono ?_
        rintro e w' ⟨rfl, rfl⟩
        rw [List.drop_zero, H2.out]
        simp only [Nat.zero_add, List.length_cons]
        go_wp2_with fail
        refine (risKeyword_any _ _).mono ?_
        rintro e w' ⟨rfl, hb⟩
        go_wp2_with fail
        go_ret
        exact ⟨ret_bool HN.out.symm, hb⟩
      · have HN : Hid (Tk.isName (c :: r) = false) := by show _ = _; simp only [Tk.isName, h2]; simp
        have h3 : ((Tk.wordLen (c :: r) : Int) == (r.length : Int) + 1) = false := by simp at h2 ⊢; omega
        simp only [List.length_cons] at h1
        clear h2
        generalize hW : Tk.wordLen (c :: r) = W at *
        have HW := Lib.hid hW
        clear hW
        go_enter Tryz.func12, Tryz.ntmps12
        go_wp2_with fail
        refine (rword_any (c :: r) 0 _ hs' (Nat.zero_le _)).mono ?_
        rintro e w' ⟨rfl, rfl⟩
        rw [List.drop_zero, HW.out]
        simp only [Nat.zero_add]
        go_wp2_with fail
        go_ret
        exact ⟨ret_bool HN.out.symm, Below.refl _ _⟩
    · have HN : Hid (Tk.isName (c :: r) = false) := by show _ = _; simp only [Tk.isName, h1]; simp
      simp only [List.length_cons] at h1
      go_enter Tryz.func12, Tryz.ntmps12
      go_wp2_with fail
      go_ret
      exact ⟨ret_bool HN.out.symm, Below.refl _ _⟩

theorem signs_len : Tk.signs.length = 14 := by decide
theorem signBlock (w : World) (k : Nat) (hk : k < 14) : (w.alloc (.cells (Tk.signs.map fun x => Value.int .u8 x.toNat).toArray 5 (14, 15))).cell? ⟨w.heap.size, k, none⟩ = some (.int .u8 ((Tk.signs[k]'(by rw [signs_len]; exact hk)).toNat)) := by
  rw [Lib.cell_of_heap (heap_alloc_new w _), List.getElem?_toArray, List.getElem?_map, List.getElem?_eq_getElem (by rw [signs_len]; exact hk)]
  rfl

/-- The symbol at a place, case by case. -/
theorem sym_case (l : List UInt8) (p : Nat) (hp : p < l.length) :
    (p + 2 ≤ l.length ∧ ((l.drop p).take 2 = [60, 61] ∨ (l.drop p).take 2 = [62, 61] ∨ (l.drop p).take 2 = [60, 62]) ∧ Tk.symLen (l.drop p) = 2) ∨
    ((p + 2 ≤ l.length → (l.drop p).take 2 ≠ [60, 61] ∧ (l.drop p).take 2 ≠ [62, 61] ∧ (l.drop p).take 2 ≠ [60, 62]) ∧ Tk.symLen (l.drop p) = if Tk.signs.contains l[p] = true then 1 else 0) := by
  rw [drop_consR l p hp]
  generalize hc : l[p] = c
  rcases Nat.lt_or_ge (p + 1) l.length with h | h
  · rw [drop_consR l (p + 1) h]
    generalize l[p + 1] = d
    cases hpair : Tk.pair c d
    · refine .inr ⟨fun _ => ?_, ?_⟩
      · have h0 := of_decide_eq_false hpair
        simp only [not_or, not_and] at h0
        simp only [List.take_succ_cons, List.take_zero, ne_eq, List.cons.injEq, and_true, not_and]
        exact h0
      · simp only [Tk.symLen, List.headD_cons, hpair, Bool.false_eq_true, if_false]
    · refine .inl ⟨by omega, ?_, ?_⟩
      · have h0 := of_decide_eq_true hpair
        simp only [List.take_succ_cons, List.take_zero, List.cons.injEq, and_true]
        exact h0
      · simp only [Tk.symLen, List.headD_cons, hpair, if_true]
  · rw [List.drop_of_length_le h]
    refine .inr ⟨fun h' => by omega, ?_⟩
    have hp0 : Tk.pair c 0 = false := by simp [Tk.pair]
    simp only [Tk.symLen, List.headD_nil, hp0, Bool.false_eq_true, if_false]

set_option maxHeartbeats 1000000 in
set_option maxRecDepth 100000 in
theorem rsymbol_any (l : List UInt8) (p : Nat) (w : World) (_hs : l.length ≤ 9223372036854775807) (hp : p < l.length) (hq : p ≤ 20000) :
    Calls Tryz.prog 45 #[.string ⟨l.toArray⟩, .int .i64 p] w fun e w' => e = .returned (.string ⟨((l.drop p).take (Tk.symLen (l.drop p))).toArray⟩) ∧ Below w.heap.size w w' := by
  have kc := fun (w : World) (C : Array Value) (n c : Nat) => Lib.run_convert_bytes_const (P := Tryz.prog) w 73 5 C n c Tryz.underlying73 Tryz.underlying5
  have ht2 : p + 2 ≤ l.length → ((l.drop p).take 2).length = 2 := fun h => by simp; omega
  rcases sym_case l p hp with ⟨h2, h3, hsl⟩ | ⟨h3, hsl⟩
  · rw [hsl]
    clear hsl kc ht2
    have gd : decide ((p : Int) + 2 ≤ (l.length : Int)) = true := by simp; omega
    rcases h3 with h3 | h3 | h3
    · have g1 : ((l.drop p).take 2 == [60, 61]) = true := by rw [h3]; rfl
      clear h3
      go_enter Tryz.func45, Tryz.ntmps45
      go_wp2_with fail
      go_ret
      exact ⟨ret_str (by rw [show p + 2 - p = 2 by omega]), Below.refl _ _⟩
    · have g1 : ((l.drop p).take 2 == [60, 61]) = false := by rw [h3]; rfl
      have g2 : ((l.drop p).take 2 == [62, 61]) = true := by rw [h3]; rfl
      clear h3
      go_enter Tryz.func45, Tryz.ntmps45
      go_wp2_with fail
      go_ret
      exact ⟨ret_str (by rw [show p + 2 - p = 2 by omega]), Below.refl _ _⟩
    · have g1 : ((l.drop p).take 2 == [60, 61]) = false := by rw [h3]; rfl
      have g2 : ((l.drop p).take 2 == [62, 61]) = false := by rw [h3]; rfl
      have g3 : ((l.drop p).take 2 == [60, 62]) = true := by rw [h3]; rfl
      clear h3
      go_enter Tryz.func45, Tryz.ntmps45
      go_wp2_with fail
      go_ret
      exact ⟨ret_str (by rw [show p + 2 - p = 2 by omega]), Below.refl _ _⟩
  · have HS := Lib.hid hsl
    clear hsl ht2
    refine or_two (Nat.lt_or_ge l.length (p + 2)) (fun h2 => ?way1) (fun h2 => ?way2)
    case' way1 =>
      clear h3
      have gd : decide ((p : Int) + 2 ≤ (l.length : Int)) = false := by simp; omega
    case' way2 =>
      have gd : decide ((p : Int) + 2 ≤ (l.length : Int)) = true := by simp; omega
      obtain ⟨n1, n2, n3⟩ := h3 h2
      have g1 : ((l.drop p).take 2 == [60, 61]) = false := by simpa using n1
      have g2 : ((l.drop p).take 2 == [62, 61]) = false := by simpa using n2
      have g3 : ((l.drop p).take 2 == [60, 62]) = false := by simpa using n3
      clear n1 n2 n3 h3
    all_goals
      go_enter Tryz.func45, Tryz.ntmps45
      go_wp2_with fail
      change Code.wp _ _ _ _ (w.alloc (.cells (Tk.signs.map fun x => Value.int .u8 x.toNat).toArray 5 (14, 15)))
      have HC := Lib.hid (signBlock w)
      have hB : Below w.heap.size w (w.alloc (.cells (Tk.signs.map fun x => Value.int .u8 x.toNat).toArray 5 (14, 15))) := (Below.refl _ _).alloc (Nat.le_refl _) _
      generalize w.alloc (.cells (Tk.signs.map fun x => Value.int .u8 x.toNat).toArray 5 (14, 15)) = w1 at *
      clear kc gd
      go_loop [32] (fun i => ∃ k : Nat, k ≤ 14 ∧ i = .int .i64 k ∧ Hid (∀ j (h : j < Tk.signs.length), j < k → Tk.signs[j] ≠ l[p])) (fun i => 14 - (intOf i).toNat)
      case atStart => exact ⟨0, Nat.zero_le _, rfl, fun _ _ h => by omega⟩
      case round =>
        obtain ⟨k, hk, rfl, HA⟩ := hrel
        by_cases hlt : k < 14
        · have hc := HC.out k hlt
          have hkl : k < Tk.signs.length := by rw [signs_len]; exact hlt
          by_cases he : Tk.signs[k] = l[p]
          · have HF : Hid (Tk.symLen (l.drop p) = 1) := by show _ = _; rw [HS.out, if_pos]; rw [List.contains_iff_mem, ← he]; exact List.getElem_mem _
            have hc' : w1.cell? ⟨w.heap.size, k, none⟩ = some (.int .u8 (l[p]).toNat) := by rw [hc, he]
            clear he hc
            go_wp2_with fail
            go_ret
            exact ⟨ret_str (by rw [HF.out]; try rw [show p + 1 - p = 1 by omega]), hB⟩
          · have HN : Hid (∀ j (h : j < Tk.signs.length), j < k + 1 → Tk.signs[j] ≠ l[p]) := fun j h hj => if e : j = k then by subst e; exact he else HA.out j h (by omega)
            generalize Tk.signs[k] = x at *
            have g : ((l[p].toNat : Int) == (x.toNat : Int)) = false := by
              have : l[p].toNat ≠ x.toNat := fun e => he (UInt8.toNat_inj.1 e).symm
              simp; omega
            clear he
            go_wp2_with fail
            go_round
            case rel => first | exact ⟨k + 1, by omega, by go_num, HN⟩ | ((repeat apply Exists.intro); exact ⟨⟨k + 1, by omega, by go_num, HN⟩, rfl⟩)
            case measure => simp [intOf]; omega
        · have HF : Hid (Tk.symLen (l.drop p) = 0) := by
            show _ = _
            rw [HS.out, if_neg]
            intro h
            obtain ⟨j, hj, e⟩ := List.getElem_of_mem (List.contains_iff_mem.1 h)
            exact HA.out j hj (by rw [signs_len] at hj; omega) e
          go_wp2_with fail
          go_ret
          exact ⟨ret_str (by rw [HF.out]; rfl), hB⟩
end Go.Proofs.YtpdbkbadjgellaaGreatDoor

namespace Go.Proofs.YtpdbkbadjgellaaGreatDoor
open Go.RowKit
section
set_option maxRecDepth 100000
/-- The code's way alone, up to a region with guards. -/
def guardedR (ops : Array Oper) : Bool := ops.toList.any (fun o => o.guard.isSome)
def stepG : List Item → Option (List Item)
  | .code (.region i ops false) :: k => match guardedR ops with
    | true => none
    | false => stepT (.code (.region i ops false) :: k)
  | t => stepT t
def cntG : Nat → List Item → Nat
  | 0, _ => 0
  | m + 1, t => match stepG t with
    | some t' => cntG m t' + 1
    | none => 0
noncomputable def advG (t : List Item) : List Item := advT (cntG 90 t) t
noncomputable def codeKids : Code := Tryz.f141.body.getD .skip
noncomputable def tK0 : List Item := advG [.code codeKids]
noncomputable def tK1 : List Item := advG (tailT tK0)
noncomputable def tK2 : List Item := advG (elseT tK1)
noncomputable def tK3 : List Item := advG (tailT tK2)
noncomputable def tK4 : List Item := advG (elseT tK3)
noncomputable def tK5 : List Item := advG (tailT tK4)
noncomputable def tK6 : List Item := advG (elseT tK5)
def kids0 (op : Int) : Bool := (((op == 1 || op == 2) || op == 3) || op == 20) || op == 21
def kids1 (op : Int) : Bool := ((op == 4 || op == 16) || op == 17) || op == 19
def kids2 (op : Int) : Bool := decide (5 ≤ op) && decide (op ≤ 15)
def kidsI (op : Int) : Int := bif kids0 op then 0 else bif kids1 op then 1 else bif kids2 op then 2 else bif op == 18 then 3 else -1
theorem kids_ret {op : Int} {w wx : World} {v : Int} {E : Nat → Value} {todo : List Item} (hB : Below w.heap.size w wx) (hv : kidsI op = v)
    (he : (fun a : St => (isRet a.todo, a.ms.mem, a.ms.sz, a.env 2, a.ms.eqs)) (adv Tryz.prog 47 (cntG 90 todo) ⟨todo, E, ⟨wx.heap.size, [], (0, 0), []⟩, []⟩) = (true, [], wx.heap.size, .int .i64 v, [])) :
    At Tryz.prog 141 (fun e w' => e = .returned (.int .i64 (kidsI op)) ∧ Below w.heap.size w w') todo (Fr 47 E) wx := by
  simp only [Prod.mk.injEq] at he
  obtain ⟨h1, h2, h3, h4, h5⟩ := he
  refine at_adv (O := []) (B := wx.heap.size) (cntG 90 todo) ⟨todo, E, ⟨wx.heap.size, [], (0, 0), []⟩, []⟩ (lies_nil wx) (by rw [h5]; rfl) fun w' hL hK => ?_
  refine at_known [(2, .int .i64 v)] (by simp [h4]) fun E' => ?_
  refine at_ret (fn := Tryz.f141) h1 (by kernel_rfl) ⟨0, [], (0, 0), []⟩ (fun e he => (by cases he)) (.int .i64 v) (by kernel_rfl) (by kernel_rfl) ⟨by rw [hv], ?_⟩
  exact hB.trans ((below_kept hK).mono hB.size)
theorem rkids_any (op : Int) (w : World) : Calls Tryz.prog 141 #[.int .i64 op] w fun e w' => e = .returned (.int .i64 (kidsI op)) ∧ Below w.heap.size w w' := by
  refine calls_at (args := [.int .i64 op]) (fn := Tryz.f141) (c := codeKids) (n := 47) (by kernel_rfl) (by kernel_rfl) (by kernel_rfl) (by kernel_rfl) ?_
  refine at_run (cntG 90 [.code codeKids]) [.code codeKids] w.heap.size [] [] tK0 [(0, .int .i64 op)] w.heap.size [] (lies_nil w) (by kernel_rfl) fun w1 E1 _ hK => ?_
  have B := below_kept hK
  clear hK
  refine at_ghost ((curReg tK0).getD #[]) ⟨[], [], []⟩ [(0, .int .i64 op), (3, .bool (kids0 op))] (by kernel_rfl) (by kernel_rfl) (by kernel_rfl) (fun e he => (by cases he)) (fun e he => (by cases he)) (fun X => by kernel_rfl) (by kernel_rfl) fun w2 E2 hB2 => ?_
  replace B := B.trans (hB2.mono B.size)
  clear hB2
  refine at_run (cntG 90 (tailT tK0)) (tailT tK0) w2.heap.size [] [] tK1 [(0, .int .i64 op), (3, .bool (kids0 op))] w2.heap.size [] (lies_nil w2) (by kernel_rfl) fun w3 E3 _ hK => ?_
  replace B := B.trans ((below_kept hK).mono B.size)
  clear hK
  refine at_cond (kids0 op) (by kernel_rfl) (fun h0 => ?_) (fun h0 => ?_)
  · exact kids_ret B (v := 0) (by simp [kidsI, h0]) (by kernel_rfl)
  refine at_run (cntG 90 (elseT tK1)) (elseT tK1) w3.heap.size [] [] tK2 [(0, .int .i64 op)] w3.heap.size [] (lies_nil w3) (by kernel_rfl) fun w4 E4 _ hK => ?_
  replace B := B.trans ((below_kept hK).mono B.size)
  clear hK
  refine at_ghost ((curReg tK2).getD #[]) ⟨[], [], []⟩ [(0, .int .i64 op), (22, .bool (kids1 op))] (by kernel_rfl) (by kernel_rfl) (by kernel_rfl) (fun e he => (by cases he)) (fun e he => (by cases he)) (fun X => by kernel_rfl) (by kernel_rfl) fun w5 E5 hB2 => ?_
  replace B := B.trans (hB2.mono B.size)
  clear hB2
  refine at_run (cntG 90 (tailT tK2)) (tailT tK2) w5.heap.size [] [] tK3 [(0, .int .i64 op), (22, .bool (kids1 op))] w5.heap.size [] (lies_nil w5) (by kernel_rfl) fun w6 E6 _ hK => ?_
  replace B := B.trans ((below_kept hK).mono B.size)
  clear hK
  refine at_cond (kids1 op) (by kernel_rfl) (fun h1 => ?_) (fun h1 => ?_)
  · exact kids_ret B (v := 1) (by simp [kidsI, h0, h1]) (by kernel_rfl)
  refine at_run (cntG 90 (elseT tK3)) (elseT tK3) w6.heap.size [] [] tK4 [(0, .int .i64 op)] w6.heap.size [] (lies_nil w6) (by kernel_rfl) fun w7 E7 _ hK => ?_
  replace B := B.trans ((below_kept hK).mono B.size)
  clear hK
  refine at_ghost ((curReg tK4).getD #[]) ⟨[], [], []⟩ [(0, .int .i64 op), (37, .bool (kids2 op))] (by kernel_rfl) (by kernel_rfl) (by kernel_rfl) (fun e he => (by cases he)) (fun e he => (by cases he)) (fun X => by kernel_rfl) (by kernel_rfl) fun w8 E8 hB2 => ?_
  replace B := B.trans (hB2.mono B.size)
  clear hB2
  refine at_run (cntG 90 (tailT tK4)) (tailT tK4) w8.heap.size [] [] tK5 [(0, .int .i64 op), (37, .bool (kids2 op))] w8.heap.size [] (lies_nil w8) (by kernel_rfl) fun w9 E9 _ hK => ?_
  replace B := B.trans ((below_kept hK).mono B.size)
  clear hK
  refine at_cond (kids2 op) (by kernel_rfl) (fun h2 => ?_) (fun h2 => ?_)
  · exact kids_ret B (v := 2) (by simp [kidsI, h0, h1, h2]) (by kernel_rfl)
  refine at_run (cntG 90 (elseT tK5)) (elseT tK5) w9.heap.size [] [] tK6 [(44, .bool (op == 18))] w9.heap.size [] (lies_nil w9) (by kernel_rfl) fun wa Ea _ hK => ?_
  replace B := B.trans ((below_kept hK).mono B.size)
  clear hK
  refine at_cond (op == 18) (by kernel_rfl) (fun h3 => ?_) (fun h3 => ?_)
  · exact kids_ret B (v := 3) (by simp only [kidsI, h0, h1, h2, h3]; rfl) (by kernel_rfl)
  · exact kids_ret B (v := -1) (by simp only [kidsI, h0, h1, h2, h3]; rfl) (by kernel_rfl)
end
end Go.Proofs.YtpdbkbadjgellaaGreatDoor

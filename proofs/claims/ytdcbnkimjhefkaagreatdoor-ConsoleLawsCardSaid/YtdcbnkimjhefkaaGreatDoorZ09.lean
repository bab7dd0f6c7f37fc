/-
  Operations that only reckon, further: operators, fields, indices, slices, structs.
-/
import Derived.Test.YtdcbnkimjhefkaaGreatDoorZ08
import Derived.IntWalk
import Derived.Laws.Strings
namespace Go.Proofs.YtdcbnkimjhefkaaGreatDoor
section
variable {P : Program} {env : Env} {H : AH} {β : Type} {o : Oper} {c : Value → AH → Option β} {r : β}
theorem ile_eq (x y : Int) : ile x y = decide (x ≤ y) := by
  rw [Bool.eq_iff_iff, decide_eq_true_iff]
  cases x <;> cases y <;> simp only [ile, Nat.ble_eq, Int.ofNat_eq_natCast, Bool.false_eq_true, true_iff, false_iff] <;> omega
theorem ieq_eq (x y : Int) : ieq x y = (x == y) := by
  rw [Bool.eq_iff_iff, beq_iff_eq]
  cases x <;> cases y <;> simp only [ieq, Nat.beq_eq, Int.ofNat_eq_natCast, Bool.false_eq_true, false_iff] <;> omega
theorem wrapF_eq (k : IntKind) (n : Int) : wrapF k n = k.wrap n := by
  unfold wrapF
  split
  · split
    · rename_i m
      split
      · rename_i hb
        have : m < 9223372036854775808 := Nat.le_of_ble_eq_true hb
        exact (IntWalk.i64_in _ (by constructor <;> simp <;> omega)).symm
      · rfl
    · rename_i m
      split
      · rename_i hb
        have : m < 9223372036854775808 := Nat.le_of_ble_eq_true hb
        exact (IntWalk.i64_in _ (by omega)).symm
      · rfl
  · rfl
theorem boolK_eq (b : Bool) (H : AH) (c : Value → AH → Option β) : boolK b H c = c (.bool b) H := by cases b <;> rfl
theorem beqL_eq : ∀ (x y : List UInt8), beqL x y = (x == y)
  | [], [] => rfl
  | [], _ :: _ => rfl
  | _ :: _, [] => rfl
  | a :: l, b :: r => by
    unfold beqL
    have ih := beqL_eq l r
    split
    · rename_i h
      have h1 : a.toNat = b.toNat := Nat.eq_of_beq_eq_true h
      have h2 : a = b := UInt8.toNat_inj.1 h1
      rw [ih, h2]
      simp
    · rename_i h
      symm
      rw [beq_eq_false_iff_ne]
      intro e
      rw [List.cons.injEq] at e
      rw [e.1] at h
      simp at h
theorem binop_int_good {op : BinOp} {t T : TypeId} {x y : Operand} (hop : o.op = .binOp op t x y T) {a b : Value} (ha : ev1 P env H x = some a) (hb : ev1 P env H y = some b) (hat : atomV a = true) (hbt : atomV b = true) {v : Value} (hc : c v H = some r) (hv : atomV v = true)
    (h : ∀ w, (do eqGuard op t x y a b; binOp op t a b : Sem Value).run P w = .ok v w) : ResC P env H o c r .p := by
  refine ⟨v, hc, fun σ D w ρ hr => ⟨v, ?_, .of_atomV hv⟩⟩
  simp only [execOp, hop, show ρ x = a from (hr x a ha).atomV hat, show ρ y = b from (hr y b hb).atomV hbt]
  exact run_v (h w)
theorem not_ile (x y : Int) : (!decide (x ≤ y)) = decide (y < x) := by
  rw [Bool.eq_iff_iff]
  simp
theorem good_intB {op : BinOp} {t T : TypeId} {x y : Operand} (hop : o.op = .binOp op t x y T) {k k' : IntKind} {m n : Int} (ha : ev1 P env H x = some (.int k m)) (hb : ev1 P env H y = some (.int k' n)) (h : intBK P op t k k' m n H c = some r) : ResC P env H o c r .p := by
  have hg : ∀ w, (eqGuard op t x y (.int k m) (.int k' n)).run P w = .ok () w := fun w => by unfold eqGuard; simp
  unfold intBK at h
  split at h
  all_goals first
    | (split at h
       · rename_i hk
         have hk' : k = k' := by simpa using hk
         subst hk'
         simp only [boolK_eq, intK_eq, ile_eq, ieq_eq, wrapF_eq, not_ile] at h
         refine binop_int_good hop ha hb rfl rfl h rfl fun w => ?_
         simp [hg, binOp, Op.intArith, Op.intCmp, bne]
       · cases h)
    | skip
  obtain ⟨v, h1, h2, h3⟩ := pureK_inv h
  refine binop_int_good hop ha hb rfl rfl h3 h2 fun w => ?_
  simp [hg, prun_sound h1]
theorem toList_data (s : ByteArray) : s.toList = s.data.toList := ByteArray.toList_eq s
theorem good_strB {op : BinOp} {t T : TypeId} {x y : Operand} (hop : o.op = .binOp op t x y T) {m n : ByteArray} (ha : ev1 P env H x = some (.string m)) (hb : ev1 P env H y = some (.string n)) (h : strBK P op t m n H c = some r) : ResC P env H o c r .p := by
  have hg : ∀ w, (eqGuard op t x y (.string m) (.string n)).run P w = .ok () w := fun w => by unfold eqGuard; simp
  unfold strBK at h
  split at h
  · rw [boolK_eq] at h
    refine binop_int_good hop ha hb rfl rfl h rfl fun w => ?_
    simp [hg, binOp, Op.stringOp, beqL_eq, toList_data]
  · rw [boolK_eq] at h
    refine binop_int_good hop ha hb rfl rfl h rfl fun w => ?_
    simp [hg, binOp, Op.stringOp, beqL_eq, toList_data]
  · obtain ⟨v, h1, h2, h3⟩ := pureK_inv h
    refine binop_int_good hop ha hb rfl rfl h3 h2 fun w => ?_
    simp [hg, prun_sound h1]
theorem eqNil_good {t : TypeId} {x y : Operand} {a b : Value} {q : Bool} (h : eqNil (P.underlying t) a b = some q) {op : BinOp} (σ : Ren) (D : Dom) (a' b' : Value) (ha : VR σ D a a') (hb : VR σ D b b') (w : World) :
    (eqGuard op t x y a' b').run P w = .ok () w ∧ (Op.equal t a' b').run P w = .ok q w ∧ binOp .eql t a' b' = (do pure (.bool (← Op.equal t a' b'))) ∧ binOp .neq t a' b' = (do pure (.bool (!(← Op.equal t a' b')))) := by
  unfold eqNil at h
  split at h
  all_goals first
    | (cases h; done)
    | (rename_i hu
       obtain rfl := Option.some.inj h
       cases ha <;> cases hb <;> refine ⟨by unfold eqGuard; simp, ?_, rfl, rfl⟩ <;> (show (Op.equalIn (9999 + 1) t _ _).run P w = _; unfold Op.equalIn; simp [run_underlying hu]))
theorem good_bin {op : BinOp} {t T : TypeId} {x y : Operand} (hop : o.op = .binOp op t x y T) (h : binK P env H op t x y c = some r) : ResC P env H o c r .p := by
  unfold binK at h
  split at h
  · rename_i a b ha hb
    unfold eqK at h
    split at h
    · exact good_intB hop ha hb h
    · exact good_strB hop ha hb h
    · split at h
      · rename_i hat
        rw [Bool.and_eq_true] at hat
        obtain ⟨v, h1, h2, h3⟩ := pureK_inv h
        exact binop_int_good hop ha hb hat.1 hat.2 h3 h2 fun w => prun_sound h1
      · split at h
        · rename_i q hq
          rw [boolK_eq] at h
          refine ⟨_, h, fun σ D w ρ hr => ⟨_, ?_, .bool _⟩⟩
          obtain ⟨g1, g2, g3, g4⟩ := eqNil_good (op := .eql) (x := x) (y := y) hq σ D _ _ (hr x a ha) (hr y b hb) w
          simp only [execOp, hop]
          refine run_v ?_
          simp [g1, g2, g3]
        · rename_i q hq
          rw [boolK_eq] at h
          refine ⟨_, h, fun σ D w ρ hr => ⟨_, ?_, .bool _⟩⟩
          obtain ⟨g1, g2, g3, g4⟩ := eqNil_good (op := .neq) (x := x) (y := y) hq σ D _ _ (hr x a ha) (hr y b hb) w
          simp only [execOp, hop]
          refine run_v ?_
          simp [g1, g2, g4]
        · cases h
  · cases h
/-! ### Places and parts -/
theorem good_fieldAddr {t : TypeId} {x : Operand} {f : Nat} (hop : o.op = .fieldAddr t x f) (h : fieldAddrK P env H t x f c = some r) : ResC P env H o c r .p := by
  unfold fieldAddrK at h
  split at h
  · rename_i b off d hx hd
    rw [natK_eq] at h
    unfold fieldK at hd
    split at hd
    · rename_i fs hu
      split at hd
      · rename_i fd hf
        split at hd
        · rename_i n hn
          obtain rfl := Option.some.inj hd
          refine ⟨_, h, fun σ D w ρ hr => ⟨.pointer (some ⟨σ.blk b, σ.sh b + (off + fd.offset), none⟩), ?_, ?_⟩⟩
          · obtain ⟨_, hv⟩ := (hr x _ hx).ptr_inv
            simp [execOp, hop, hv, Instr.fieldAt, run_underlying hu, hf, Instr.sureAddr, fieldPlace, run_size hn, add_addr, Nat.add_assoc]
          · have hv := hr x _ hx
            generalize ρ x = u at hv
            cases hv with
            | ptr a y h hs => exact .ptr ⟨b, off + fd.offset, none⟩ y h rfl
        · cases hd
      · cases hd
    · cases hd
  · cases h
/-- A part of a struct or an array. -/
theorem aggK_inv {t : TypeId} {cs : List Value} {off : Nat} (h : aggK P t cs off H c = some r) : ∃ v, c v H = some r ∧ ∀ σ D (cs' : List Value) w, VRs σ D cs cs' → ∃ v', (part t ⟨cs'⟩ off).run P w = .ok v' w ∧ VR σ D v v' := by
  unfold aggK at h
  split at h
  · rename_i n h1 h2
    obtain ⟨h3, h4⟩ := rowK_inv h
    refine ⟨_, h4, fun σ D cs' w hv => ⟨.agg ⟨(cs'.drop off).take n⟩, ?_, .agg _ _ ?_⟩⟩
    · have he : (⟨cs'⟩ : Array Value).extract off (off + n) = ⟨(cs'.drop off).take n⟩ := by
        apply Array.ext'
        simp
      simp [part, run_isAgg h1, run_size h2]
    · refine VRs.of_get (by simp [hv.length]) fun j v hj => ?_
      rw [List.getElem?_take] at hj ⊢
      split at hj
      · rename_i hlt
        rw [if_pos hlt]
        rw [List.getElem?_drop] at hj ⊢
        exact hv.get hj
      · cases hj
  · rename_i h1
    split at h
    · rename_i v hv
      rw [nth_eq] at hv
      refine ⟨v, h, fun σ D cs' w hvs => ?_⟩
      obtain ⟨v', g1, g2⟩ := hvs.get hv
      exact ⟨v', by simp [part, run_isAgg h1, g1], g2⟩
    · cases h
  · cases h
theorem good_field {t : TypeId} {x : Operand} {f : Nat} (hop : o.op = .field t x f) (h : field1K P env H t x f c = some r) : ResC P env H o c r .p := by
  unfold field1K at h
  split at h
  · rename_i cs fs hx hu
    split at h
    · rename_i fd hf
      obtain ⟨v, h1, h2⟩ := aggK_inv h
      refine ⟨v, h1, fun σ D w ρ hr => ?_⟩
      have hv := hr x _ hx
      cases hρ : ρ x with
      | agg m =>
        rw [hρ] at hv
        cases hv with
        | agg l l' hl =>
          obtain ⟨v', g1, g2⟩ := h2 σ D l' w hl
          exact ⟨v', by simp [execOp, hop, hρ, Instr.field, run_underlying hu, hf, asAgg, g1], g2⟩
      | _ => rw [hρ] at hv; cases hv
    · cases h
  · cases h
end
end Go.Proofs.YtdcbnkimjhefkaaGreatDoor

/-
  Operations that only reckon, further: operators, fields, indices, slices, structs.
  Operations that only reckon, the rest: indices, slices, lengths, structs that are built, closures, conversions.
-/
import Derived.Test.YtdcbnkimjhefkaaGreatDoorW06
import Derived.IntWalk
import Derived.Laws.Strings
namespace Go.Proofs.YtdcbnkimjhefkaaGreatDoor
section
variable {P : Program} {env : Env} {H : AH} {β : Type} {o : Oper} {c : Value → AH → Option β} {r : β}
theorem ile_eq (x y : Int) : ile x y = decide (x ≤ y) := by
  rw [Bool.eq_iff_iff, decide_eq_true_iff]
  cases x <;> cases y <;> simp only [ile, Nat.ble_eq, Int.ofNat_eq_natCast, Bool.false_eq_true, true_iff, false_iff] <;> omega
theorem ieq_eq (x y : Int) : ieq x y = (x == y) := by
  rw [Bool.eq_iff_iff, beq_iff_eq]
  cases x <;> cases y <;> simp only [ieq, Nat.beq_eq, Int.ofNat_eq_natCast, Bool.false_eq_true, false_iff] <;> omega
theorem wrapF_eq (k : IntKind) (n : Int) : wrapF k n = k.wrap n := by
  unfold wrapF
  split
  · split
    · rename_i m
      split
      · rename_i hb
        have : m < 9223372036854775808 := Nat.le_of_ble_eq_true hb
        exact (IntWalk.i64_in _ (by constructor <;> simp <;> omega)).symm
      · rfl
    · rename_i m
      split
      · rename_i hb
        have : m < 9223372036854775808 := Nat.le_of_ble_eq_true hb
        exact (IntWalk.i64_in _ (by omega)).symm
      · rfl
  · rfl
theorem boolK_eq (b : Bool) (H : AH) (c : Value → AH → Option β) : boolK b H c = c (.bool b) H := by cases b <;> rfl
theorem beqL_eq : ∀ (x y : List UInt8), beqL x y = (x == y)
  | [], [] => rfl
  | [], _ :: _ => rfl
  | _ :: _, [] => rfl
  | a :: l, b :: r => by
    unfold beqL
    have ih := beqL_eq l r
    split
    · rename_i h
      have h1 : a.toNat = b.toNat := Nat.eq_of_beq_eq_true h
      have h2 : a = b := UInt8.toNat_inj.1 h1
      rw [ih, h2]
      simp
    · rename_i h
      symm
      rw [beq_eq_false_iff_ne]
      intro e
      rw [List.cons.injEq] at e
      rw [e.1] at h
      simp at h
theorem binop_int_good {op : BinOp} {t T : TypeId} {x y : Operand} (hop : o.op = .binOp op t x y T) {a b : Value} (ha : ev1 P env H x = some a) (hb : ev1 P env H y = some b) (hat : atomV a = true) (hbt : atomV b = true) {v : Value} (hc : c v H = some r) (hv : atomV v = true)
    (h : ∀ w, (do eqGuard op t x y a b; binOp op t a b : Sem Value).run P w = .ok v w) : ResC P env H o c r .p := by
  refine ⟨v, hc, fun σ D w ρ hr => ⟨v, ?_, .of_atomV hv⟩⟩
  simp only [execOp, hop, show ρ x = a from (hr x a ha).atomV hat, show ρ y = b from (hr y b hb).atomV hbt]
  exact run_v (h w)
theorem not_ile (x y : Int) : (!decide (x ≤ y)) = decide (y < x) := by
  rw [Bool.eq_iff_iff]
  simp
theorem good_intB {op : BinOp} {t T : TypeId} {x y : Operand} (hop : o.op = .binOp op t x y T) {k k' : IntKind} {m n : Int} (ha : ev1 P env H x = some (.int k m)) (hb : ev1 P env H y = some (.int k' n)) (h : intBK P op t k k' m n H c = some r) : ResC P env H o c r .p := by
  have hg : ∀ w, (eqGuard op t x y (.int k m) (.int k' n)).run P w = .ok () w := fun w => by unfold eqGuard; simp
  unfold intBK at h
  split at h
  all_goals first
    | (split at h
       · rename_i hk
         have hk' : k = k' := by simpa using hk
         subst hk'
         simp only [boolK_eq, intK_eq, ile_eq, ieq_eq, wrapF_eq, not_ile] at h
         refine binop_int_good hop ha hb rfl rfl h rfl fun w => ?_
         simp [hg, binOp, Op.intArith, Op.intCmp, bne]
       · cases h)
    | skip
  obtain ⟨v, h1, h2, h3⟩ := pureK_inv h
  refine binop_int_good hop ha hb rfl rfl h3 h2 fun w => ?_
  simp [hg, prun_sound h1]
theorem toList_data (s : ByteArray) : s.toList = s.data.toList := ByteArray.toList_eq s
theorem good_strB {op : BinOp} {t T : TypeId} {x y : Operand} (hop : o.op = .binOp op t x y T) {m n : ByteArray} (ha : ev1 P env H x = some (.string m)) (hb : ev1 P env H y = some (.string n)) (h : strBK P op t m n H c = some r) : ResC P env H o c r .p := by
  have hg : ∀ w, (eqGuard op t x y (.string m) (.string n)).run P w = .ok () w := fun w => by unfold eqGuard; simp
  unfold strBK at h
  split at h
  · rw [boolK_eq] at h
    refine binop_int_good hop ha hb rfl rfl h rfl fun w => ?_
    simp [hg, binOp, Op.stringOp, beqL_eq, toList_data]
  · rw [boolK_eq] at h
    refine binop_int_good hop ha hb rfl rfl h rfl fun w => ?_
    simp [hg, binOp, Op.stringOp, beqL_eq, toList_data]
  · obtain ⟨v, h1, h2, h3⟩ := pureK_inv h
    refine binop_int_good hop ha hb rfl rfl h3 h2 fun w => ?_
    simp [hg, prun_sound h1]
theorem eqNil_good {t : TypeId} {x y : Operand} {a b : Value} {q : Bool} (h : eqNil (P.underlying t) a b = some q) {op : BinOp} (σ : Ren) (D : Dom) (a' b' : Value) (ha : VR σ D a a') (hb : VR σ D b b') (w : World) :
    (eqGuard op t x y a' b').run P w = .ok () w ∧ (Op.equal t a' b').run P w = .ok q w ∧ binOp .eql t a' b' = (do pure (.bool (← Op.equal t a' b'))) ∧ binOp .neq t a' b' = (do pure (.bool (!(← Op.equal t a' b')))) := by
  unfold eqNil at h
  split at h
  all_goals first
    | (cases h; done)
    | (rename_i hu
       obtain rfl := Option.some.inj h
       cases ha <;> cases hb <;> refine ⟨by unfold eqGuard; simp, ?_, rfl, rfl⟩ <;> (show (Op.equalIn (9999 + 1) t _ _).run P w = _; unfold Op.equalIn; simp [run_underlying hu]))
theorem good_bin {op : BinOp} {t T : TypeId} {x y : Operand} (hop : o.op = .binOp op t x y T) (h : binK P env H op t x y c = some r) : ResC P env H o c r .p := by
  unfold binK at h
  split at h
  · rename_i a b ha hb
    unfold eqK at h
    split at h
    · exact good_intB hop ha hb h
    · exact good_strB hop ha hb h
    · split at h
      · rename_i hat
        rw [Bool.and_eq_true] at hat
        obtain ⟨v, h1, h2, h3⟩ := pureK_inv h
        exact binop_int_good hop ha hb hat.1 hat.2 h3 h2 fun w => prun_sound h1
      · split at h
        · rename_i q hq
          rw [boolK_eq] at h
          refine ⟨_, h, fun σ D w ρ hr => ⟨_, ?_, .bool _⟩⟩
          obtain ⟨g1, g2, g3, g4⟩ := eqNil_good (op := .eql) (x := x) (y := y) hq σ D _ _ (hr x a ha) (hr y b hb) w
          simp only [execOp, hop]
          refine run_v ?_
          simp [g1, g2, g3]
        · rename_i q hq
          rw [boolK_eq] at h
          refine ⟨_, h, fun σ D w ρ hr => ⟨_, ?_, .bool _⟩⟩
          obtain ⟨g1, g2, g3, g4⟩ := eqNil_good (op := .neq) (x := x) (y := y) hq σ D _ _ (hr x a ha) (hr y b hb) w
          simp only [execOp, hop]
          refine run_v ?_
          simp [g1, g2, g4]
        · cases h
  · cases h
/-! ### Places and parts -/
theorem good_fieldAddr {t : TypeId} {x : Operand} {f : Nat} (hop : o.op = .fieldAddr t x f) (h : fieldAddrK P env H t x f c = some r) : ResC P env H o c r .p := by
  unfold fieldAddrK at h
  split at h
  · rename_i b off d hx hd
    rw [natK_eq] at h
    unfold fieldK at hd
    split at hd
    · rename_i fs hu
      split at hd
      · rename_i fd hf
        split at hd
        · rename_i n hn
          obtain rfl := Option.some.inj hd
          refine ⟨_, h, fun σ D w ρ hr => ⟨.pointer (some ⟨σ.blk b, σ.sh b + (off + fd.offset), none⟩), ?_, ?_⟩⟩
          · obtain ⟨_, hv⟩ := (hr x _ hx).ptr_inv
            simp [execOp, hop, hv, Instr.fieldAt, run_underlying hu, hf, Instr.sureAddr, fieldPlace, run_size hn, add_addr, Nat.add_assoc]
          · have hv := hr x _ hx
            generalize ρ x = u at hv
            cases hv with
            | ptr a y h hs => exact .ptr ⟨b, off + fd.offset, none⟩ y h rfl
        · cases hd
      · cases hd
    · cases hd
  · cases h
/-- A part of a struct or an array. -/
theorem aggK_inv {t : TypeId} {cs : List Value} {off : Nat} (h : aggK P t cs off H c = some r) : ∃ v, c v H = some r ∧ ∀ σ D (cs' : List Value) w, VRs σ D cs cs' → ∃ v', (part t ⟨cs'⟩ off).run P w = .ok v' w ∧ VR σ D v v' := by
  unfold aggK at h
  split at h
  · rename_i n h1 h2
    obtain ⟨h3, h4⟩ := rowK_inv h
    refine ⟨_, h4, fun σ D cs' w hv => ⟨.agg ⟨(cs'.drop off).take n⟩, ?_, .agg _ _ ?_⟩⟩
    · have he : (⟨cs'⟩ : Array Value).extract off (off + n) = ⟨(cs'.drop off).take n⟩ := by
        apply Array.ext'
        simp
      simp [part, run_isAgg h1, run_size h2]
    · refine VRs.of_get (by simp [hv.length]) fun j v hj => ?_
      rw [List.getElem?_take] at hj ⊢
      split at hj
      · rename_i hlt
        rw [if_pos hlt]
        rw [List.getElem?_drop] at hj ⊢
        exact hv.get hj
      · cases hj
  · rename_i h1
    split at h
    · rename_i v hv
      rw [nth_eq] at hv
      refine ⟨v, h, fun σ D cs' w hvs => ?_⟩
      obtain ⟨v', g1, g2⟩ := hvs.get hv
      exact ⟨v', by simp [part, run_isAgg h1, g1], g2⟩
    · cases h
  · cases h
theorem good_field {t : TypeId} {x : Operand} {f : Nat} (hop : o.op = .field t x f) (h : field1K P env H t x f c = some r) : ResC P env H o c r .p := by
  unfold field1K at h
  split at h
  · rename_i cs fs hx hu
    split at h
    · rename_i fd hf
      obtain ⟨v, h1, h2⟩ := aggK_inv h
      refine ⟨v, h1, fun σ D w ρ hr => ?_⟩
      have hv := hr x _ hx
      cases hρ : ρ x with
      | agg m =>
        rw [hρ] at hv
        cases hv with
        | agg l l' hl =>
          obtain ⟨v', g1, g2⟩ := h2 σ D l' w hl
          exact ⟨v', by simp [execOp, hop, hρ, Instr.field, run_underlying hu, hf, asAgg, g1], g2⟩
      | _ => rw [hρ] at hv; cases hv
    · cases h
  · cases h
end
end Go.Proofs.YtdcbnkimjhefkaaGreatDoor

namespace Go.Proofs.YtdcbnkimjhefkaaGreatDoor
section
variable {P : Program} {env : Env} {H : AH} {β : Type} {o : Oper} {c : Value → AH → Option β} {r : β}
theorem idxK_inv {n : Nat} {v : Value} {i : Nat} (h : idxK n v = some i) : i < n ∧ ∃ k, v = .int k (i : Int) := by
  unfold idxK at h
  split at h
  · rename_i k m
    split at h
    · rename_i hb
      obtain rfl := Option.some.inj h
      exact ⟨Nat.le_of_ble_eq_true hb, k, rfl⟩
    · cases h
  · cases h
theorem VR.int_inv {σ : Ren} {D : Dom} {k : IntKind} {n : Int} {u : Value} (h : VR σ D (.int k n) u) : u = .int k n := by cases h; rfl
theorem VR.str_inv {σ : Ren} {D : Dom} {s : ByteArray} {u : Value} (h : VR σ D (.string s) u) : u = .string s := by cases h; rfl
theorem VR.slice_inv {σ : Ren} {D : Dom} {b off n m : Nat} {u : Value} (h : VR σ D (.slice (some ⟨b, off, none⟩) n m) u) : ∃ x m', D b = some x ∧ m ≤ m' ∧ u = .slice (some ⟨σ.blk b, σ.sh b + off, none⟩) n m' ∧ (m' = m ∨ ∃ sz e, x = some (sz, e) ∧ off + m * sz = e ∧ off + m' * sz = σ.cap b) := by
  cases h with
  | slice a n c x h hs => exact ⟨x, m, h, Nat.le_refl _, rfl, .inl rfl⟩
  | sliceo a n c c' sz e h hs he hc hle => exact ⟨_, c', h, hle, rfl, .inr ⟨sz, e, rfl, he, hc⟩⟩
theorem VR.ptr_at {σ : Ren} {D : Dom} {b off : Nat} (h : D b ≠ none) : VR σ D (.pointer (some ⟨b, off, none⟩)) (.pointer (some ⟨σ.blk b, σ.sh b + off, none⟩)) := by
  cases hd : D b with
  | none => exact (h hd).elim
  | some x => exact .ptr ⟨b, off, none⟩ x hd rfl
theorem good_indexAddr {t : TypeId} {x y : Operand} (hop : o.op = .indexAddr t x y) (h : indexAddrK P env H t x y c = some r) : ResC P env H o c r .p := by
  unfold indexAddrK at h
  split at h
  · rename_i b off n m iv e hx hy hu
    split at h
    · rename_i i sz hi hs
      rw [natK_eq] at h
      obtain ⟨hlt, k, rfl⟩ := idxK_inv hi
      refine ⟨_, h, fun σ D w ρ hr => ?_⟩
      obtain ⟨z, m', hd, _, hv, _⟩ := (hr x _ hx).slice_inv
      have hyv := (hr y _ hy).int_inv
      refine ⟨.pointer (some ⟨σ.blk b, σ.sh b + (off + i * sz), none⟩), ?_, VR.ptr_at (by rw [hd]; simp)⟩
      have hn : ¬ n ≤ 1 ∨ True := .inr trivial
      simp [execOp, hop, hv, hyv, Instr.indexAt, asIntOf, run_underlying hu, hlt, run_size hs, add_addr, Nat.add_assoc]
    · cases h
  · rename_i b off iv n e hx hy hu
    split at h
    · rename_i i sz hi hs
      rw [natK_eq] at h
      obtain ⟨hlt, k, rfl⟩ := idxK_inv hi
      refine ⟨_, h, fun σ D w ρ hr => ?_⟩
      obtain ⟨hd, hv⟩ := (hr x _ hx).ptr_inv
      have hyv := (hr y _ hy).int_inv
      refine ⟨.pointer (some ⟨σ.blk b, σ.sh b + (off + i * sz), none⟩), ?_, VR.ptr_at hd⟩
      simp [execOp, hop, hv, hyv, Instr.indexAt, asIntOf, run_underlying hu, hlt, run_size hs, add_addr, Nat.add_assoc, Instr.sureAddr]
    · cases h
  · cases h
theorem good_index {t : TypeId} {x y : Operand} (hop : o.op = .index t x y) (h : index1K P env H t x y c = some r) : ResC P env H o c r .p := by
  unfold index1K at h
  split at h
  · rename_i cs iv hx hy
    split at h
    · rename_i n e hu
      split at h
      · rename_i i sz hi hs
        obtain ⟨hlt, k, rfl⟩ := idxK_inv hi
        obtain ⟨v, h1, h2⟩ := aggK_inv h
        refine ⟨v, h1, fun σ D w ρ hr => ?_⟩
        have hyv := (hr y _ hy).int_inv
        have hv := hr x _ hx
        cases hρ : ρ x with
        | agg m =>
          rw [hρ] at hv
          cases hv with
          | agg l l' hl =>
            obtain ⟨v', g1, g2⟩ := h2 σ D l' w hl
            exact ⟨v', by simp [execOp, hop, hρ, hyv, Instr.index, asIntOf, run_underlying hu, hlt, run_size hs, g1], g2⟩
        | _ => rw [hρ] at hv; cases hv
      · cases h
    · cases h
  · rename_i s k i hx hy
    split at h
    · rename_i hu
      split at h
      · rename_i b hb
        rw [natK_eq] at h
        rw [nth_eq] at hb
        refine ⟨_, h, fun σ D w ρ hr => ⟨.int .u8 (Int.ofNat b.toNat), ?_, .int _ _⟩⟩
        have hyv := (hr y _ hy).int_inv
        have hv := (hr x _ hx).str_inv
        have hg : s[i]? = some b := by
          have hlt : i < s.data.size := (List.getElem?_eq_some_iff.1 hb).1
          have hlt' : i < s.size := hlt
          rw [getElem?_pos s i hlt']
          rw [List.getElem?_eq_getElem hlt] at hb
          exact hb
        simp [execOp, hop, hv, hyv, Instr.index, asIntOf, run_underlying hu, hg]
      · cases h
    · cases h
  · cases h
/-! ### Slices -/
theorem sliceBound_ok {v : Value} {k : IntKind} {i y : Nat} (hv : v = .int k (i : Int)) (h : i ≤ y) (code : BoundsCode) (w : World) : (Instr.sliceBound v y code).run P w = .ok i w := by
  subst hv
  simp [Instr.sliceBound, asIntOf, h]
theorem boundK_inv {v : Option Value} {d most i : Nat} (h : boundK v d most = some i) : (v = none ∧ i = d) ∨ ∃ k, v = some (.int k (i : Int)) ∧ i ≤ most := by
  unfold boundK at h
  split at h
  · exact .inl ⟨rfl, (Option.some.inj h).symm⟩
  · rename_i k j
    split at h
    · rename_i hb
      obtain rfl := Option.some.inj h
      exact .inr ⟨k, rfl, Nat.le_of_ble_eq_true hb⟩
    · cases h
  · cases h
theorem optK_inv {x : Option Operand} {v : Option Value} (h : optK P env H x = some v) {σ : Ren} {D : Dom} {ρ : Operand → Value} (hr : Rels (ev1 P env H) σ D ρ) : (v = none ∧ x.map ρ = none) ∨ ∃ u, v = some u ∧ ∃ u', x.map ρ = some u' ∧ VR σ D u u' := by
  unfold optK at h
  split at h
  · exact .inl ⟨(Option.some.inj h).symm, rfl⟩
  · rename_i y
    rw [Option.map_eq_some_iff] at h
    obtain ⟨u, h1, rfl⟩ := h
    exact .inr ⟨u, rfl, ρ y, rfl, hr y u h1⟩
/-- The bounds of a slice, the same ones in the abstract and in a world. -/
theorem bounds_ok {lo hi mx : Option Operand} {vl vh vm : Option Value} (hl : optK P env H lo = some vl) (hh : optK P env H hi = some vh) (hm : optK P env H mx = some vm) {n m m' hB lB : Nat} (hb : bounds3 n m vl vh vm = some (lB, hB, m')) {σ : Ren} {D : Dom} {ρ : Operand → Value} (hr : Rels (ev1 P env H) σ D ρ)
    (isSl : Bool) (M : Nat) (hM : m ≤ M) (hn : n ≤ m) (w : World) : (Instr.sliceBounds isSl n M (lo.map ρ) (hi.map ρ) (mx.map ρ)).run P w = .ok (lB, hB, if vm.isSome then m' else M) w ∧ lB ≤ hB ∧ hB ≤ m' ∧ m' ≤ m ∧ (vm = none → m' = m) ∧ (mx.map ρ).isSome = vm.isSome := by
  unfold bounds3 at hb
  split at hb
  · cases hb
  · rename_i hno
    split at hb
    · rename_i m1 e1
      split at hb
      · rename_i h1 e2
        split at hb
        · rename_i l1 e3
          simp only [Option.some.injEq, Prod.mk.injEq] at hb
          obtain ⟨rfl, rfl, rfl⟩ := hb
          have c1 := boundK_inv e1
          have c2 := boundK_inv e2
          have c3 := boundK_inv e3
          have d1 := optK_inv hm hr
          have d2 := optK_inv hh hr
          have d3 := optK_inv hl hr
          unfold Instr.sliceBounds
          rcases c1 with ⟨rfl, rfl⟩ | ⟨k1, rfl, q1⟩
          · rcases d1 with ⟨_, f1⟩ | ⟨u, hu, _⟩
            · rcases c2 with ⟨rfl, rfl⟩ | ⟨k2, rfl, q2⟩
              · rcases d2 with ⟨_, f2⟩ | ⟨u, hu, _⟩
                · rcases c3 with ⟨rfl, rfl⟩ | ⟨k3, rfl, q3⟩
                  · rcases d3 with ⟨_, f3⟩ | ⟨u, hu, _⟩
                    · simp [f1, f2, f3]; omega
                    · cases hu
                  · rcases d3 with ⟨hu, _⟩ | ⟨u, hu, u', f3, f4⟩
                    · cases hu
                    · cases hu
                      cases f4
                      simp [f1, f2, f3, sliceBound_ok rfl q3]; omega
                · cases hu
              · rcases d2 with ⟨hu, _⟩ | ⟨u, hu, u', f2, f4⟩
                · cases hu
                · cases hu
                  cases f4
                  have q2' : h1 ≤ M := Nat.le_trans q2 hM
                  rcases c3 with ⟨rfl, rfl⟩ | ⟨k3, rfl, q3⟩
                  · rcases d3 with ⟨_, f3⟩ | ⟨u, hu, _⟩
                    · simp [f1, f2, f3, sliceBound_ok rfl q2']; omega
                    · cases hu
                  · rcases d3 with ⟨hu, _⟩ | ⟨u, hu, u', f3, f5⟩
                    · cases hu
                    · cases hu
                      cases f5
                      simp [f1, f2, f3, sliceBound_ok rfl q3, sliceBound_ok rfl q2']; omega
            · cases hu
          · rcases d1 with ⟨hu, _⟩ | ⟨u, hu, u', f1, f4⟩
            · cases hu
            · cases hu
              cases f4
              have q1' : m1 ≤ M := Nat.le_trans q1 hM
              rcases c2 with ⟨rfl, rfl⟩ | ⟨k2, rfl, q2⟩
              · exact (hno _ rfl rfl).elim
              · rcases d2 with ⟨hu, _⟩ | ⟨u, hu, u', f2, f4⟩
                · cases hu
                · cases hu
                  cases f4
                  rcases c3 with ⟨rfl, rfl⟩ | ⟨k3, rfl, q3⟩
                  · rcases d3 with ⟨_, f3⟩ | ⟨u, hu, _⟩
                    · simp [f1, f2, f3, sliceBound_ok rfl q1', sliceBound_ok rfl q2]; omega
                    · cases hu
                  · rcases d3 with ⟨hu, _⟩ | ⟨u, hu, u', f3, f5⟩
                    · cases hu
                    · cases hu
                      cases f5
                      simp [f1, f2, f3, sliceBound_ok rfl q1', sliceBound_ok rfl q3, sliceBound_ok rfl q2]; omega
        · cases hb
      · cases hb
    · cases hb
theorem good_sliceS {t e : TypeId} {x : Operand} {lo hi mx : Option Operand} (hop : o.op = .slice t x lo hi mx) (hu : P.underlying t = some (.slice e)) {sz : Nat} (hs : sizeB P e = some sz) {v : Value} {vl vh vm : Option Value} (hx : ev1 P env H x = some v) (hl : optK P env H lo = some vl) (hh : optK P env H hi = some vh) (hm : optK P env H mx = some vm)
    (h : sliceSK sz v vl vh vm H c = some r) : ResC P env H o c r .l := by
  unfold sliceSK at h
  split at h
  · rename_i b off n m
    split at h
    · rename_i i T cs hb
      split at h
      · rename_i hchk
        rw [Bool.and_eq_true] at hchk
        have hnm := Nat.le_of_ble_eq_true hchk.1
        split at h
        · rename_i lB hB m' hbd
          have key : ∀ (off' : Nat), (∀ σ D ρ, Rels (ev1 P env H) σ D ρ → D b = some i → ∀ M, (M = m ∨ ∃ sz' e', i = some (sz', e') ∧ off + m * sz' = e' ∧ off + M * sz' = σ.cap b) → m ≤ M → (if (if vm.isSome then m' else M) = lB then (⟨σ.blk b, σ.sh b + off, none⟩ : Addr) else ⟨σ.blk b, σ.sh b + (off + lB * sz), none⟩) = ⟨σ.blk b, σ.sh b + off', none⟩ ∧
                (off' = off + lB * sz ∨ vm.isSome = true)) → c (.slice (some ⟨b, off', none⟩) (hB - lB) (m' - lB)) H = some r → ResC P env H o c r .l := by
            intro off' hoff hc
            refine ⟨_, hc, .inr ⟨b, i, T, cs, hb, fun σ D ρ hr => ?_⟩⟩
            obtain ⟨z, M, hd, hM, hv, hcase⟩ := (hr x _ hx).slice_inv
            refine ⟨by rw [hd]; simp, fun hdi w C T fr _ _ => ?_⟩
            have hzi : z = i := by rw [hd] at hdi; exact Option.some.inj hdi
            subst hzi
            obtain ⟨g1, g2, g3, g4, g5, g6⟩ := bounds_ok (P := P) hl hh hm hbd hr true M hM hnm w
            obtain ⟨q1, q2⟩ := hoff σ D ρ hr hdi M hcase hM
            refine ⟨.slice (some ⟨σ.blk b, σ.sh b + off', none⟩) (hB - lB) ((if vm.isSome then m' else M) - lB), ?_, ?_⟩
            · simp only [execOp, hop, hv]
              refine run_v ?_
              rw [← q1]
              simp [Instr.sliceAt, Instr.slice, run_underlying hu, g1, run_size hs, add_addr, Nat.add_assoc]
              generalize (if vm.isSome = true then m' else M) = MM
              split <;> rfl
            · cases hvm : vm with
              | some u =>
                simp only [Option.isSome_some, if_true]
                exact .slice ⟨b, off', none⟩ _ _ z hd rfl
              | none =>
                have hmm := g5 hvm
                subst hmm
                simp only [Option.isSome_none, Bool.false_eq_true, if_false]
                rcases hcase with rfl | ⟨sz', e', rfl, he, hc2⟩
                · exact .slice ⟨b, off', none⟩ _ _ z hd rfl
                · have hsz : sz' = sz := by
                    have := hchk.2
                    simp at this
                    exact this
                  subst hsz
                  have hoff' : off' = off + lB * sz' := by
                    rcases q2 with q2 | q2
                    · exact q2
                    · rw [hvm] at q2; cases q2
                  subst hoff'
                  refine .sliceo ⟨b, off + lB * sz', none⟩ _ _ _ sz' e' hd rfl ?_ ?_ (by omega)
                  · show off + lB * sz' + (m' - lB) * sz' = e'
                    rw [← he, Nat.add_assoc, ← Nat.add_mul]
                    congr 2
                    omega
                  · show off + lB * sz' + (M - lB) * sz' = σ.cap b
                    rw [← hc2, Nat.add_assoc, ← Nat.add_mul]
                    congr 2
                    omega
          split at h
          · rename_i l' heq
            refine ⟨_, h, .inr ⟨b, i, T, cs, hb, fun σ D ρ hr => ?_⟩⟩
            obtain ⟨z, M, hd, hM, hv, hcase⟩ := (hr x _ hx).slice_inv
            refine ⟨by rw [hd]; simp, fun hdi w C T fr _ _ => ?_⟩
            obtain ⟨g1, g2, g3, g4, g5, g6⟩ := bounds_ok (P := P) hl hh hm hbd hr true M hM hnm w
            have e1 := Nat.eq_of_beq_eq_true heq
            have e2 : hB - (l' + 1) = 0 := by omega
            refine ⟨_, ?_, .emptyU b 0 0 (if M = l' + 1 then ⟨σ.blk b, σ.sh b + off, none⟩ else ⟨σ.blk b, σ.sh b + (off + (l' + 1) * sz), none⟩) (M - (l' + 1))⟩
            simp only [execOp, hop, hv]
            refine run_v ?_
            simp only [Option.isSome_none, Bool.false_eq_true, if_false] at g1
            simp [Instr.sliceAt, Instr.slice, run_underlying hu, g1, run_size hs, add_addr, Nat.add_assoc, e2]
            split <;> rfl
          · rename_i l' u heq
            rw [val0K_eq] at h
            refine key off (fun σ D ρ hr hdi M hcase hM => ⟨?_, .inr rfl⟩) h
            rw [if_pos]
            simp only [Option.isSome_some, if_true]
            exact Nat.eq_of_beq_eq_true heq
          · rename_i lB vm x0 l0 mx0 hno1 hno2
            rw [val0K_eq] at h
            refine key (off + lB * sz) (fun σ D ρ hr hdi M hcase hM => ⟨?_, .inl rfl⟩) h
            by_cases hz : lB = 0
            · subst hz; simp
            · have hne : Nat.beq m' lB = false := by
                cases hq : Nat.beq m' lB with
                | false => rfl
                | true =>
                  obtain ⟨l', rfl⟩ := Nat.exists_eq_succ_of_ne_zero hz
                  cases hvm : vm with
                  | none => exact (hno1 _ hq rfl hvm).elim
                  | some u => exact (hno2 _ _ hq rfl hvm).elim
              have hm'l : m' ≠ lB := fun e => by rw [e, Nat.beq_refl] at hne; cases hne
              rw [if_neg]
              intro e
              cases hvm : vm with
              | some u => rw [hvm] at e; simp at e; exact hm'l e
              | none =>
                rw [hvm] at e
                simp at e
                obtain ⟨g1, g2, g3, g4, g5, g6⟩ := bounds_ok (P := P) hl hh hm hbd hr true M hM hnm default
                have := g5 hvm
                omega
        · cases h
      · cases h
    · cases h
  · rename_i n m
    split at h
    · rename_i lB hB m' hn hbd
      rw [val0K_eq] at h
      refine ⟨_, h, .inl fun σ D w ρ hr => ⟨.slice none (hB - lB) (m' - lB), ?_, .nilslice _ _⟩⟩
      have hv := hr x _ hx
      cases hρ : ρ x with
      | slice a n2 m2 =>
        rw [hρ] at hv
        cases hv
        obtain ⟨g1, g2, g3, g4, g5, g6⟩ := bounds_ok (P := P) hl hh hm hbd hr true m (Nat.le_refl _) (Nat.le_of_ble_eq_true hn) w
        simp only [execOp, hop, hρ]
        refine run_v ?_
        have hmm : (if vm.isSome then m' else m) = m' := by
          cases hvm : vm with
          | some u => rfl
          | none => simp; exact (g5 hvm).symm
        rw [hmm] at g1
        simp [Instr.sliceAt, Instr.slice, run_underlying hu, g1, run_size hs]
      | _ => rw [hρ] at hv; cases hv
    · cases h
  · cases h
theorem good_sliceA {t e : TypeId} {len : Nat} {x : Operand} {lo hi mx : Option Operand} (hop : o.op = .slice t x lo hi mx) (hu : P.underlying t = some (.array len e)) {sz : Nat} (hs : sizeB P e = some sz) {v : Value} {vl vh vm : Option Value} (hx : ev1 P env H x = some v) (hl : optK P env H lo = some vl) (hh : optK P env H hi = some vh) (hm : optK P env H mx = some vm)
    (h : sliceAK len sz v vl vh vm H c = some r) : ResC P env H o c r .p := by
  unfold sliceAK at h
  split at h
  · rename_i b off
    split at h
    · rename_i lB hB m' hbd
      have key : ∀ (off' : Nat), (∀ A : Nat, (if m' = lB then A + off else A + (off + lB * sz)) = A + off') → c (.slice (some ⟨b, off', none⟩) (hB - lB) (m' - lB)) H = some r → ResC P env H o c r .p := by
        intro off' hoff hc
        refine ⟨_, hc, fun σ D w ρ hr => ?_⟩
        obtain ⟨hd, hv⟩ := (hr x _ hx).ptr_inv
        obtain ⟨g1, g2, g3, g4, g5, g6⟩ := bounds_ok (P := P) hl hh hm hbd hr false len (Nat.le_refl _) (Nat.le_refl _) w
        have hmm : (if vm.isSome then m' else len) = m' := by
          cases hvm : vm with
          | some u => rfl
          | none => simp; exact (g5 hvm).symm
        rw [hmm] at g1
        refine ⟨.slice (some ⟨σ.blk b, σ.sh b + off', none⟩) (hB - lB) (m' - lB), ?_, ?_⟩
        · simp only [execOp, hop, hv]
          refine run_v ?_
          rw [← hoff]
          simp [Instr.sliceAt, Instr.sureAddr, run_underlying hu, g1, run_size hs, add_addr, Nat.add_assoc]
          split <;> rfl
        · cases hdb : D b with
          | none => exact (hd hdb).elim
          | some z => exact .slice ⟨b, off', none⟩ _ _ z hdb rfl
      split at h
      · rename_i hq
        rw [val0K_eq] at h
        exact key off (fun A => by rw [if_pos (Nat.eq_of_beq_eq_true hq)]) h
      · rename_i hq
        rw [val0K_eq] at h
        exact key (off + lB * sz) (fun A => by rw [if_neg (fun e => by rw [e, Nat.beq_refl] at hq; cases hq)]) h
    · cases h
  · cases h
theorem good_sliceT {t : TypeId} {x : Operand} {lo hi mx : Option Operand} (hop : o.op = .slice t x lo hi mx) (hu : P.underlying t = some .string) {v : Value} {vl vh vm : Option Value} (hx : ev1 P env H x = some v) (hl : optK P env H lo = some vl) (hh : optK P env H hi = some vh) (hm : optK P env H mx = some vm)
    (h : sliceTK t v vl vh vm H c = some r) : ResC P env H o c r .p := by
  unfold sliceTK at h
  split at h
  · rename_i s
    split at h
    · rename_i lB hB m' hbd
      rw [strK_eq] at h
      refine ⟨_, h, fun σ D w ρ hr => ⟨_, ?_, .string _⟩⟩
      have hv := (hr x _ hx).str_inv
      obtain ⟨g1, g2, g3, g4, g5, g6⟩ := bounds_ok (P := P) hl hh hm hbd hr false s.size (Nat.le_refl _) (Nat.le_refl _) w
      have hmx : mx.map ρ = none := by
        cases hq : mx.map ρ with
        | none => rfl
        | some u => rw [hq] at g6; cases g6
      rw [hmx] at g1
      simp only [execOp, hop, hv]
      refine run_v ?_
      simp [Instr.sliceAt, Instr.slice, run_underlying hu, hmx, g1]
    · cases h
  · cases h
end
end Go.Proofs.YtdcbnkimjhefkaaGreatDoor

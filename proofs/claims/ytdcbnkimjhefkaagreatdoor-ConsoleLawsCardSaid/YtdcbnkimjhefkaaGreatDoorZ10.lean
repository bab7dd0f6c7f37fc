/-
  Operations that only reckon, the rest: indices, slices, lengths, structs that are built, closures, conversions.
-/
import Derived.Test.YtdcbnkimjhefkaaGreatDoorZ09
namespace Go.Proofs.YtdcbnkimjhefkaaGreatDoor
section
variable {P : Program} {env : Env} {H : AH} {β : Type} {o : Oper} {c : Value → AH → Option β} {r : β}
theorem idxK_inv {n : Nat} {v : Value} {i : Nat} (h : idxK n v = some i) : i < n ∧ ∃ k, v = .int k (i : Int) := by
  unfold idxK at h
  split at h
  · rename_i k m
    split at h
    · rename_i hb
      obtain rfl := Option.some.inj h
      exact ⟨Nat.le_of_ble_eq_true hb, k, rfl⟩
    · cases h
  · cases h
theorem VR.int_inv {σ : Ren} {D : Dom} {k : IntKind} {n : Int} {u : Value} (h : VR σ D (.int k n) u) : u = .int k n := by cases h; rfl
theorem VR.str_inv {σ : Ren} {D : Dom} {s : ByteArray} {u : Value} (h : VR σ D (.string s) u) : u = .string s := by cases h; rfl
theorem VR.slice_inv {σ : Ren} {D : Dom} {b off n m : Nat} {u : Value} (h : VR σ D (.slice (some ⟨b, off, none⟩) n m) u) : ∃ x m', D b = some x ∧ m ≤ m' ∧ u = .slice (some ⟨σ.blk b, σ.sh b + off, none⟩) n m' ∧ (m' = m ∨ ∃ sz e, x = some (sz, e) ∧ off + m * sz = e ∧ off + m' * sz = σ.cap b) := by
  cases h with
  | slice a n c x h hs => exact ⟨x, m, h, Nat.le_refl _, rfl, .inl rfl⟩
  | sliceo a n c c' sz e h hs he hc hle => exact ⟨_, c', h, hle, rfl, .inr ⟨sz, e, rfl, he, hc⟩⟩
theorem VR.ptr_at {σ : Ren} {D : Dom} {b off : Nat} (h : D b ≠ none) : VR σ D (.pointer (some ⟨b, off, none⟩)) (.pointer (some ⟨σ.blk b, σ.sh b + off, none⟩)) := by
  cases hd : D b with
  | none => exact (h hd).elim
  | some x => exact .ptr ⟨b, off, none⟩ x hd rfl
theorem good_indexAddr {t : TypeId} {x y : Operand} (hop : o.op = .indexAddr t x y) (h : indexAddrK P env H t x y c = some r) : ResC P env H o c r .p := by
  unfold indexAddrK at h
  split at h
  · rename_i b off n m iv e hx hy hu
    split at h
    · rename_i i sz hi hs
      rw [natK_eq] at h
      obtain ⟨hlt, k, rfl⟩ := idxK_inv hi
      refine ⟨_, h, fun σ D w ρ hr => ?_⟩
      obtain ⟨z, m', hd, _, hv, _⟩ := (hr x _ hx).slice_inv
      have hyv := (hr y _ hy).int_inv
      refine ⟨.pointer (some ⟨σ.blk b, σ.sh b + (off + i * sz), none⟩), ?_, VR.ptr_at (by rw [hd]; simp)⟩
      have hn : ¬ n ≤ 1 ∨ True := .inr trivial
      simp [execOp, hop, hv, hyv, Instr.indexAt, asIntOf, run_underlying hu, hlt, run_size hs, add_addr, Nat.add_assoc]
    · cases h
  · rename_i b off iv n e hx hy hu
    split at h
    · rename_i i sz hi hs
      rw [natK_eq] at h
      obtain ⟨hlt, k, rfl⟩ := idxK_inv hi
      refine ⟨_, h, fun σ D w ρ hr => ?_⟩
      obtain ⟨hd, hv⟩ := (hr x _ hx).ptr_inv
      have hyv := (hr y _ hy).int_inv
      refine ⟨.pointer (some ⟨σ.blk b, σ.sh b + (off + i * sz), none⟩), ?_, VR.ptr_at hd⟩
      simp [execOp, hop, hv, hyv, Instr.indexAt, asIntOf, run_underlying hu, hlt, run_size hs, add_addr, Nat.add_assoc, Instr.sureAddr]
    · cases h
  · cases h
theorem good_index {t : TypeId} {x y : Operand} (hop : o.op = .index t x y) (h : index1K P env H t x y c = some r) : ResC P env H o c r .p := by
  unfold index1K at h
  split at h
  · rename_i cs iv hx hy
    split at h
    · rename_i n e hu
      split at h
      · rename_i i sz hi hs
        obtain ⟨hlt, k, rfl⟩ := idxK_inv hi
        obtain ⟨v, h1, h2⟩ := aggK_inv h
        refine ⟨v, h1, fun σ D w ρ hr => ?_⟩
        have hyv := (hr y _ hy).int_inv
        have hv := hr x _ hx
        cases hρ : ρ x with
        | agg m =>
          rw [hρ] at hv
          cases hv with
          | agg l l' hl =>
            obtain ⟨v', g1, g2⟩ := h2 σ D l' w hl
            exact ⟨v', by simp [execOp, hop, hρ, hyv, Instr.index, asIntOf, run_underlying hu, hlt, run_size hs, g1], g2⟩
        | _ => rw [hρ] at hv; cases hv
      · cases h
    · cases h
  · rename_i s k i hx hy
    split at h
    · rename_i hu
      split at h
      · rename_i b hb
        rw [natK_eq] at h
        rw [nth_eq] at hb
        refine ⟨_, h, fun σ D w ρ hr => ⟨.int .u8 (Int.ofNat b.toNat), ?_, .int _ _⟩⟩
        have hyv := (hr y _ hy).int_inv
        have hv := (hr x _ hx).str_inv
        have hg : s[i]? = some b := by
          have hlt : i < s.data.size := (List.getElem?_eq_some_iff.1 hb).1
          have hlt' : i < s.size := hlt
          rw [getElem?_pos s i hlt']
          rw [List.getElem?_eq_getElem hlt] at hb
          exact hb
        simp [execOp, hop, hv, hyv, Instr.index, asIntOf, run_underlying hu, hg]
      · cases h
    · cases h
  · cases h
/-! ### Slices -/
theorem sliceBound_ok {v : Value} {k : IntKind} {i y : Nat} (hv : v = .int k (i : Int)) (h : i ≤ y) (code : BoundsCode) (w : World) : (Instr.sliceBound v y code).run P w = .ok i w := by
  subst hv
  simp [Instr.sliceBound, asIntOf, h]
theorem boundK_inv {v : Option Value} {d most i : Nat} (h : boundK v d most = some i) : (v = none ∧ i = d) ∨ ∃ k, v = some (.int k (i : Int)) ∧ i ≤ most := by
  unfold boundK at h
  split at h
  · exact .inl ⟨rfl, (Option.some.inj h).symm⟩
  · rename_i k j
    split at h
    · rename_i hb
      obtain rfl := Option.some.inj h
      exact .inr ⟨k, rfl, Nat.le_of_ble_eq_true hb⟩
    · cases h
  · cases h
theorem optK_inv {x : Option Operand} {v : Option Value} (h : optK P env H x = some v) {σ : Ren} {D : Dom} {ρ : Operand → Value} (hr : Rels (ev1 P env H) σ D ρ) : (v = none ∧ x.map ρ = none) ∨ ∃ u, v = some u ∧ ∃ u', x.map ρ = some u' ∧ VR σ D u u' := by
  unfold optK at h
  split at h
  · exact .inl ⟨(Option.some.inj h).symm, rfl⟩
  · rename_i y
    rw [Option.map_eq_some_iff] at h
    obtain ⟨u, h1, rfl⟩ := h
    exact .inr ⟨u, rfl, ρ y, rfl, hr y u h1⟩
/-- The bounds of a slice, the same ones in the abstract and in a world. -/
theorem bounds_ok {lo hi mx : Option Operand} {vl vh vm : Option Value} (hl : optK P env H lo = some vl) (hh : optK P env H hi = some vh) (hm : optK P env H mx = some vm) {n m m' hB lB : Nat} (hb : bounds3 n m vl vh vm = some (lB, hB, m')) {σ : Ren} {D : Dom} {ρ : Operand → Value} (hr : Rels (ev1 P env H) σ D ρ)
    (isSl : Bool) (M : Nat) (hM : m ≤ M) (hn : n ≤ m) (w : World) : (Instr.sliceBounds isSl n M (lo.map ρ) (hi.map ρ) (mx.map ρ)).run P w = .ok (lB, hB, if vm.isSome then m' else M) w ∧ lB ≤ hB ∧ hB ≤ m' ∧ m' ≤ m ∧ (vm = none → m' = m) ∧ (mx.map ρ).isSome = vm.isSome := by
  unfold bounds3 at hb
  split at hb
  · cases hb
  · rename_i hno
    split at hb
    · rename_i m1 e1
      split at hb
      · rename_i h1 e2
        split at hb
        · rename_i l1 e3
          simp only [Option.some.injEq, Prod.mk.injEq] at hb
          obtain ⟨rfl, rfl, rfl⟩ := hb
          have c1 := boundK_inv e1
          have c2 := boundK_inv e2
          have c3 := boundK_inv e3
          have d1 := optK_inv hm hr
          have d2 := optK_inv hh hr
          have d3 := optK_inv hl hr
          unfold Instr.sliceBounds
          rcases c1 with ⟨rfl, rfl⟩ | ⟨k1, rfl, q1⟩
          · rcases d1 with ⟨_, f1⟩ | ⟨u, hu, _⟩
            · rcases c2 with ⟨rfl, rfl⟩ | ⟨k2, rfl, q2⟩
              · rcases d2 with ⟨_, f2⟩ | ⟨u, hu, _⟩
                · rcases c3 with ⟨rfl, rfl⟩ | ⟨k3, rfl, q3⟩
                  · rcases d3 with ⟨_, f3⟩ | ⟨u, hu, _⟩
                    · simp [f1, f2, f3]; omega
                    · cases hu
                  · rcases d3 with ⟨hu, _⟩ | ⟨u, hu, u', f3, f4⟩
                    · cases hu
                    · cases hu
                      cases f4
                      simp [f1, f2, f3, sliceBound_ok rfl q3]; omega
                · cases hu
              · rcases d2 with ⟨hu, _⟩ | ⟨u, hu, u', f2, f4⟩
                · cases hu
                · cases hu
                  cases f4
                  have q2' : h1 ≤ M := Nat.le_trans q2 hM
                  rcases c3 with ⟨rfl, rfl⟩ | ⟨k3, rfl, q3⟩
                  · rcases d3 with ⟨_, f3⟩ | ⟨u, hu, _⟩
                    · simp [f1, f2, f3, sliceBound_ok rfl q2']; omega
                    · cases hu
                  · rcases d3 with ⟨hu, _⟩ | ⟨u, hu, u', f3, f5⟩
                    · cases hu
                    · cases hu
                      cases f5
                      simp [f1, f2, f3, sliceBound_ok rfl q3, sliceBound_ok rfl q2']; omega
            · cases hu
          · rcases d1 with ⟨hu, _⟩ | ⟨u, hu, u', f1, f4⟩
            · cases hu
            · cases hu
              cases f4
              have q1' : m1 ≤ M := Nat.le_trans q1 hM
              rcases c2 with ⟨rfl, rfl⟩ | ⟨k2, rfl, q2⟩
              · exact (hno _ rfl rfl).elim
              · rcases d2 with ⟨hu, _⟩ | ⟨u, hu, u', f2, f4⟩
                · cases hu
                · cases hu
                  cases f4
                  rcases c3 with ⟨rfl, rfl⟩ | ⟨k3, rfl, q3⟩
                  · rcases d3 with ⟨_, f3⟩ | ⟨u, hu, _⟩
                    · simp [f1, f2, f3, sliceBound_ok rfl q1', sliceBound_ok rfl q2]; omega
                    · cases hu
                  · rcases d3 with ⟨hu, _⟩ | ⟨u, hu, u', f3, f5⟩
                    · cases hu
                    · cases hu
                      cases f5
                      simp [f1, f2, f3, sliceBound_ok rfl q1', sliceBound_ok rfl q3, sliceBound_ok rfl q2]; omega
        · cases hb
      · cases hb
    · cases hb
theorem good_sliceS {t e : TypeId} {x : Operand} {lo hi mx : Option Operand} (hop : o.op = .slice t x lo hi mx) (hu : P.underlying t = some (.slice e)) {sz : Nat} (hs : sizeB P e = some sz) {v : Value} {vl vh vm : Option Value} (hx : ev1 P env H x = some v) (hl : optK P env H lo = some vl) (hh : optK P env H hi = some vh) (hm : optK P env H mx = some vm)
    (h : sliceSK sz v vl vh vm H c = some r) : ResC P env H o c r .l := by
  unfold sliceSK at h
  split at h
  · rename_i b off n m
    split at h
    · rename_i i T cs hb
      split at h
      · rename_i hchk
        rw [Bool.and_eq_true] at hchk
        have hnm := Nat.le_of_ble_eq_true hchk.1
        split at h
        · rename_i lB hB m' hbd
          have key : ∀ (off' : Nat), (∀ σ D ρ, Rels (ev1 P env H) σ D ρ → D b = some i → ∀ M, (M = m ∨ ∃ sz' e', i = some (sz', e') ∧ off + m * sz' = e' ∧ off + M * sz' = σ.cap b) → m ≤ M → (if (if vm.isSome then m' else M) = lB then (⟨σ.blk b, σ.sh b + off, none⟩ : Addr) else ⟨σ.blk b, σ.sh b + (off + lB * sz), none⟩) = ⟨σ.blk b, σ.sh b + off', none⟩ ∧
                (off' = off + lB * sz ∨ vm.isSome = true)) → c (.slice (some ⟨b, off', none⟩) (hB - lB) (m' - lB)) H = some r → ResC P env H o c r .l := by
            intro off' hoff hc
            refine ⟨_, hc, .inr ⟨b, i, T, cs, hb, fun σ D ρ hr => ?_⟩⟩
            obtain ⟨z, M, hd, hM, hv, hcase⟩ := (hr x _ hx).slice_inv
            refine ⟨by rw [hd]; simp, fun hdi w C T fr _ _ => ?_⟩
            have hzi : z = i := by rw [hd] at hdi; exact Option.some.inj hdi
            subst hzi
            obtain ⟨g1, g2, g3, g4, g5, g6⟩ := bounds_ok (P := P) hl hh hm hbd hr true M hM hnm w
            obtain ⟨q1, q2⟩ := hoff σ D ρ hr hdi M hcase hM
            refine ⟨.slice (some ⟨σ.blk b, σ.sh b + off', none⟩) (hB - lB) ((if vm.isSome then m' else M) - lB), ?_, ?_⟩
            · simp only [execOp, hop, hv]
              refine run_v ?_
              rw [← q1]
              simp [Instr.sliceAt, Instr.slice, run_underlying hu, g1, run_size hs, add_addr, Nat.add_assoc]
              generalize (if vm.isSome = true then m' else M) = MM
              split <;> rfl
            · cases hvm : vm with
              | some u =>
                simp only [Option.isSome_some, if_true]
                exact .slice ⟨b, off', none⟩ _ _ z hd rfl
              | none =>
                have hmm := g5 hvm
                subst hmm
                simp only [Option.isSome_none, Bool.false_eq_true, if_false]
                rcases hcase with rfl | ⟨sz', e', rfl, he, hc2⟩
                · exact .slice ⟨b, off', none⟩ _ _ z hd rfl
                · have hsz : sz' = sz := by
                    have := hchk.2
                    simp at this
                    exact this
                  subst hsz
                  have hoff' : off' = off + lB * sz' := by
                    rcases q2 with q2 | q2
                    · exact q2
                    · rw [hvm] at q2; cases q2
                  subst hoff'
                  refine .sliceo ⟨b, off + lB * sz', none⟩ _ _ _ sz' e' hd rfl ?_ ?_ (by omega)
                  · show off + lB * sz' + (m' - lB) * sz' = e'
                    rw [← he, Nat.add_assoc, ← Nat.add_mul]
                    congr 2
                    omega
                  · show off + lB * sz' + (M - lB) * sz' = σ.cap b
                    rw [← hc2, Nat.add_assoc, ← Nat.add_mul]
                    congr 2
                    omega
          split at h
          · rename_i l' heq
            refine ⟨_, h, .inr ⟨b, i, T, cs, hb, fun σ D ρ hr => ?_⟩⟩
            obtain ⟨z, M, hd, hM, hv, hcase⟩ := (hr x _ hx).slice_inv
            refine ⟨by rw [hd]; simp, fun hdi w C T fr _ _ => ?_⟩
            obtain ⟨g1, g2, g3, g4, g5, g6⟩ := bounds_ok (P := P) hl hh hm hbd hr true M hM hnm w
            have e1 := Nat.eq_of_beq_eq_true heq
            have e2 : hB - (l' + 1) = 0 := by omega
            refine ⟨_, ?_, .emptyU b 0 0 (if M = l' + 1 then ⟨σ.blk b, σ.sh b + off, none⟩ else ⟨σ.blk b, σ.sh b + (off + (l' + 1) * sz), none⟩) (M - (l' + 1))⟩
            simp only [execOp, hop, hv]
            refine run_v ?_
            simp only [Option.isSome_none, Bool.false_eq_true, if_false] at g1
            simp [Instr.sliceAt, Instr.slice, run_underlying hu, g1, run_size hs, add_addr, Nat.add_assoc, e2]
            split <;> rfl
          · rename_i l' u heq
            rw [val0K_eq] at h
            refine key off (fun σ D ρ hr hdi M hcase hM => ⟨?_, .inr rfl⟩) h
            rw [if_pos]
            simp only [Option.isSome_some, if_true]
            exact Nat.eq_of_beq_eq_true heq
          · rename_i lB vm x0 l0 mx0 hno1 hno2
            rw [val0K_eq] at h
            refine key (off + lB * sz) (fun σ D ρ hr hdi M hcase hM => ⟨?_, .inl rfl⟩) h
            by_cases hz : lB = 0
            · subst hz; simp
            · have hne : Nat.beq m' lB = false := by
                cases hq : Nat.beq m' lB with
                | false => rfl
                | true =>
                  obtain ⟨l', rfl⟩ := Nat.exists_eq_succ_of_ne_zero hz
                  cases hvm : vm with
                  | none => exact (hno1 _ hq rfl hvm).elim
                  | some u => exact (hno2 _ _ hq rfl hvm).elim
              have hm'l : m' ≠ lB := fun e => by rw [e, Nat.beq_refl] at hne; cases hne
              rw [if_neg]
              intro e
              cases hvm : vm with
              | some u => rw [hvm] at e; simp at e; exact hm'l e
              | none =>
                rw [hvm] at e
                simp at e
                obtain ⟨g1, g2, g3, g4, g5, g6⟩ := bounds_ok (P := P) hl hh hm hbd hr true M hM hnm default
                have := g5 hvm
                omega
        · cases h
      · cases h
    · cases h
  · rename_i n m
    split at h
    · rename_i lB hB m' hn hbd
      rw [val0K_eq] at h
      refine ⟨_, h, .inl fun σ D w ρ hr => ⟨.slice none (hB - lB) (m' - lB), ?_, .nilslice _ _⟩⟩
      have hv := hr x _ hx
      cases hρ : ρ x with
      | slice a n2 m2 =>
        rw [hρ] at hv
        cases hv
        obtain ⟨g1, g2, g3, g4, g5, g6⟩ := bounds_ok (P := P) hl hh hm hbd hr true m (Nat.le_refl _) (Nat.le_of_ble_eq_true hn) w
        simp only [execOp, hop, hρ]
        refine run_v ?_
        have hmm : (if vm.isSome then m' else m) = m' := by
          cases hvm : vm with
          | some u => rfl
          | none => simp; exact (g5 hvm).symm
        rw [hmm] at g1
        simp [Instr.sliceAt, Instr.slice, run_underlying hu, g1, run_size hs]
      | _ => rw [hρ] at hv; cases hv
    · cases h
  · cases h
theorem good_sliceA {t e : TypeId} {len : Nat} {x : Operand} {lo hi mx : Option Operand} (hop : o.op = .slice t x lo hi mx) (hu : P.underlying t = some (.array len e)) {sz : Nat} (hs : sizeB P e = some sz) {v : Value} {vl vh vm : Option Value} (hx : ev1 P env H x = some v) (hl : optK P env H lo = some vl) (hh : optK P env H hi = some vh) (hm : optK P env H mx = some vm)
    (h : sliceAK len sz v vl vh vm H c = some r) : ResC P env H o c r .p := by
  unfold sliceAK at h
  split at h
  · rename_i b off
    split at h
    · rename_i lB hB m' hbd
      have key : ∀ (off' : Nat), (∀ A : Nat, (if m' = lB then A + off else A + (off + lB * sz)) = A + off') → c (.slice (some ⟨b, off', none⟩) (hB - lB) (m' - lB)) H = some r → ResC P env H o c r .p := by
        intro off' hoff hc
        refine ⟨_, hc, fun σ D w ρ hr => ?_⟩
        obtain ⟨hd, hv⟩ := (hr x _ hx).ptr_inv
        obtain ⟨g1, g2, g3, g4, g5, g6⟩ := bounds_ok (P := P) hl hh hm hbd hr false len (Nat.le_refl _) (Nat.le_refl _) w
        have hmm : (if vm.isSome then m' else len) = m' := by
          cases hvm : vm with
          | some u => rfl
          | none => simp; exact (g5 hvm).symm
        rw [hmm] at g1
        refine ⟨.slice (some ⟨σ.blk b, σ.sh b + off', none⟩) (hB - lB) (m' - lB), ?_, ?_⟩
        · simp only [execOp, hop, hv]
          refine run_v ?_
          rw [← hoff]
          simp [Instr.sliceAt, Instr.sureAddr, run_underlying hu, g1, run_size hs, add_addr, Nat.add_assoc]
          split <;> rfl
        · cases hdb : D b with
          | none => exact (hd hdb).elim
          | some z => exact .slice ⟨b, off', none⟩ _ _ z hdb rfl
      split at h
      · rename_i hq
        rw [val0K_eq] at h
        exact key off (fun A => by rw [if_pos (Nat.eq_of_beq_eq_true hq)]) h
      · rename_i hq
        rw [val0K_eq] at h
        exact key (off + lB * sz) (fun A => by rw [if_neg (fun e => by rw [e, Nat.beq_refl] at hq; cases hq)]) h
    · cases h
  · cases h
theorem good_sliceT {t : TypeId} {x : Operand} {lo hi mx : Option Operand} (hop : o.op = .slice t x lo hi mx) (hu : P.underlying t = some .string) {v : Value} {vl vh vm : Option Value} (hx : ev1 P env H x = some v) (hl : optK P env H lo = some vl) (hh : optK P env H hi = some vh) (hm : optK P env H mx = some vm)
    (h : sliceTK t v vl vh vm H c = some r) : ResC P env H o c r .p := by
  unfold sliceTK at h
  split at h
  · rename_i s
    split at h
    · rename_i lB hB m' hbd
      rw [strK_eq] at h
      refine ⟨_, h, fun σ D w ρ hr => ⟨_, ?_, .string _⟩⟩
      have hv := (hr x _ hx).str_inv
      obtain ⟨g1, g2, g3, g4, g5, g6⟩ := bounds_ok (P := P) hl hh hm hbd hr false s.size (Nat.le_refl _) (Nat.le_refl _) w
      have hmx : mx.map ρ = none := by
        cases hq : mx.map ρ with
        | none => rfl
        | some u => rw [hq] at g6; cases g6
      rw [hmx] at g1
      simp only [execOp, hop, hv]
      refine run_v ?_
      simp [Instr.sliceAt, Instr.slice, run_underlying hu, hmx, g1]
    · cases h
  · cases h
end
end Go.Proofs.YtdcbnkimjhefkaaGreatDoor

/-
 Operations that only reckon, the rest: indices, slices, lengths, structs that are built, closures, conversions.
 Lengths, closures, structs that are built.
 Operations that read and write memory.
-/
import Derived.Test.YtdcbnkimjhefkaaGreatDoorU06
namespace Go.Proofs.YtdcbnkimjhefkaaGreatDoor
section
variable {P : Program} {env : Env} {H : AH} {β : Type} {o : Oper} {c : Value → AH → Option β} {r : β}
theorem idxK_inv {n : Nat} {v : Value} {i : Nat} (h : idxK n v = some i) : i < n ∧ ∃ k, v = .int k (i : Int) := by
 unfold idxK at h
 split at h
 ·rename_i k m
  split at h
  ·rename_i hb
   obtain rfl := Option.some.inj h
   exact ⟨Nat.le_of_ble_eq_true hb, k, rfl⟩
  ·cases h
 ·cases h
theorem VR.int_inv {σ : Ren} {D : Dom} {k : IntKind} {n : Int} {u : Value} (h : VR σ D (.int k n) u) : u = .int k n := by cases h; rfl
theorem VR.str_inv {σ : Ren} {D : Dom} {s : ByteArray} {u : Value} (h : VR σ D (.string s) u) : u = .string s := by cases h; rfl
theorem VR.slice_inv {σ : Ren} {D : Dom} {b off n m : Nat} {u : Value} (h : VR σ D (.slice (some ⟨b, off, none⟩) n m) u) : ∃ x m', D b = some x ∧ m ≤ m' ∧ u = .slice (some ⟨σ.blk b, σ.sh b + off, none⟩) n m' ∧ (m' = m ∨ ∃ sz e, x = some (sz, e) ∧ off + m * sz = e ∧ off + m' * sz = σ.cap b) := by
 cases h with
 | slice a n c x h hs => exact ⟨x, m, h, Nat.le_refl _, rfl, .inl rfl⟩
 | sliceo a n c c' sz e h hs he hc hle => exact ⟨_, c', h, hle, rfl, .inr ⟨sz, e, rfl, he, hc⟩⟩
theorem VR.ptr_at {σ : Ren} {D : Dom} {b off : Nat} (h : D b ≠ none) : VR σ D (.pointer (some ⟨b, off, none⟩)) (.pointer (some ⟨σ.blk b, σ.sh b + off, none⟩)) := by
 cases hd : D b with
 | none => exact (h hd).elim
 | some x => exact .ptr ⟨b, off, none⟩ x hd rfl
theorem good_indexAddr {t : TypeId} {x y : Operand} (hop : o.op = .indexAddr t x y) (h : indexAddrK P env H t x y c = some r) : ResC P env H o c r .p := by
 unfold indexAddrK at h
 split at h
 ·rename_i b off n m iv e hx hy hu
  split at h
  ·rename_i i sz hi hs
   rw [natK_eq] at h
   obtain ⟨hlt, k, rfl⟩ := idxK_inv hi
   refine ⟨_, h, fun σ D w ρ hr => ?_⟩
   obtain ⟨z, m', hd, _, hv, _⟩ := (hr x _ hx).slice_inv
   have hyv := (hr y _ hy).int_inv
   refine ⟨.pointer (some ⟨σ.blk b, σ.sh b + (off + i * sz), none⟩), ?_, VR.ptr_at (by rw [hd]; simp)⟩
   have hn : ¬ n ≤ 1 ∨ True := .inr trivial
   simp [execOp, hop, hv, hyv, Instr.indexAt, asIntOf, run_underlying hu, hlt, run_size hs, add_addr, Nat.add_assoc]
  ·cases h
 ·rename_i b off iv n e hx hy hu
  split at h
  ·rename_i i sz hi hs
   rw [natK_eq] at h
   obtain ⟨hlt, k, rfl⟩ := idxK_inv hi
   refine ⟨_, h, fun σ D w ρ hr => ?_⟩
   obtain ⟨hd, hv⟩ := (hr x _ hx).ptr_inv
   have hyv := (hr y _ hy).int_inv
   refine ⟨.pointer (some ⟨σ.blk b, σ.sh b + (off + i * sz), none⟩), ?_, VR.ptr_at hd⟩
   simp [execOp, hop, hv, hyv, Instr.indexAt, asIntOf, run_underlying hu, hlt, run_size hs, add_addr, Nat.add_assoc, Instr.sureAddr]
  ·cases h
 ·cases h
theorem good_index {t : TypeId} {x y : Operand} (hop : o.op = .index t x y) (h : index1K P env H t x y c = some r) : ResC P env H o c r .p := by
 unfold index1K at h
 split at h
 ·rename_i cs iv hx hy
  split at h
  ·rename_i n e hu
   split at h
   ·rename_i i sz hi hs
    obtain ⟨hlt, k, rfl⟩ := idxK_inv hi
    obtain ⟨v, h1, h2⟩ := aggK_inv h
    refine ⟨v, h1, fun σ D w ρ hr => ?_⟩
    have hyv := (hr y _ hy).int_inv
    have hv := hr x _ hx
    cases hρ : ρ x with
    | agg m =>
     rw [hρ] at hv
     cases hv with
     | agg l l' hl =>
      obtain ⟨v', g1, g2⟩ := h2 σ D l' w hl
      exact ⟨v', by simp [execOp, hop, hρ, hyv, Instr.index, asIntOf, run_underlying hu, hlt, run_size hs, g1], g2⟩
    | _ => rw [hρ] at hv; cases hv
   ·cases h
  ·cases h
 ·rename_i s k i hx hy
  split at h
  ·rename_i hu
   split at h
   ·rename_i b hb
    rw [natK_eq] at h
    rw [nth_eq] at hb
    refine ⟨_, h, fun σ D w ρ hr => ⟨.int .u8 (Int.ofNat b.toNat), ?_, .int _ _⟩⟩
    have hyv := (hr y _ hy).int_inv
    have hv := (hr x _ hx).str_inv
    have hg : s[i]? = some b := by
     have hlt : i < s.data.size := (List.getElem?_eq_some_iff.1 hb).1
     have hlt' : i < s.size := hlt
     rw [getElem?_pos s i hlt']
     rw [List.getElem?_eq_getElem hlt] at hb
     exact hb
    simp [execOp, hop, hv, hyv, Instr.index, asIntOf, run_underlying hu, hg]
   ·cases h
  ·cases h
 ·cases h
/-! ### Slices -/
theorem sliceBound_ok {v : Value} {k : IntKind} {i y : Nat} (hv : v = .int k (i : Int)) (h : i ≤ y) (code : BoundsCode) (w : World) : (Instr.sliceBound v y code).run P w = .ok i w := by
 subst hv
 simp [Instr.sliceBound, asIntOf, h]
theorem boundK_inv {v : Option Value} {d most i : Nat} (h : boundK v d most = some i) : (v = none ∧ i = d) ∨ ∃ k, v = some (.int k (i : Int)) ∧ i ≤ most := by
 unfold boundK at h
 split at h
 ·exact .inl ⟨rfl, (Option.some.inj h).symm⟩
 ·rename_i k j
  split at h
  ·rename_i hb
   obtain rfl := Option.some.inj h
   exact .inr ⟨k, rfl, Nat.le_of_ble_eq_true hb⟩
  ·cases h
 ·cases h
theorem optK_inv {x : Option Operand} {v : Option Value} (h : optK P env H x = some v) {σ : Ren} {D : Dom} {ρ : Operand → Value} (hr : Rels (ev1 P env H) σ D ρ) : (v = none ∧ x.map ρ = none) ∨ ∃ u, v = some u ∧ ∃ u', x.map ρ = some u' ∧ VR σ D u u' := by
 unfold optK at h
 split at h
 ·exact .inl ⟨(Option.some.inj h).symm, rfl⟩
 ·rename_i y
  rw [Option.map_eq_some_iff] at h
  obtain ⟨u, h1, rfl⟩ := h
  exact .inr ⟨u, rfl, ρ y, rfl, hr y u h1⟩
theorem bounds_ok {lo hi mx : Option Operand} {vl vh vm : Option Value} (hl : optK P env H lo = some vl) (hh : optK P env H hi = some vh) (hm : optK P env H mx = some vm) {n m m' hB lB : Nat} (hb : bounds3 n m vl vh vm = some (lB, hB, m')) {σ : Ren} {D : Dom} {ρ : Operand → Value} (hr : Rels (ev1 P env H) σ D ρ)
  (isSl : Bool) (M : Nat) (hM : m ≤ M) (hn : n ≤ m) (w : World) : (Instr.sliceBounds isSl n M (lo.map ρ) (hi.map ρ) (mx.map ρ)).run P w = .ok (lB, hB, if vm.isSome then m' else M) w ∧ lB ≤ hB ∧ hB ≤ m' ∧ m' ≤ m ∧ (vm = none → m' = m) ∧ (mx.map ρ).isSome = vm.isSome := by
 unfold bounds3 at hb
 split at hb
 ·cases hb
 ·rename_i hno
  split at hb
  ·rename_i m1 e1
   split at hb
   ·rename_i h1 e2
    split at hb
    ·rename_i l1 e3
     simp only [Option.some.injEq, Prod.mk.injEq] at hb
     obtain ⟨rfl, rfl, rfl⟩ := hb
     have c1 := boundK_inv e1
     have c2 := boundK_inv e2
     have c3 := boundK_inv e3
     have d1 := optK_inv hm hr
     have d2 := optK_inv hh hr
     have d3 := optK_inv hl hr
     unfold Instr.sliceBounds
     rcases c1 with ⟨rfl, rfl⟩ | ⟨k1, rfl, q1⟩
     ·rcases d1 with ⟨_, f1⟩ | ⟨u, hu, _⟩
      ·rcases c2 with ⟨rfl, rfl⟩ | ⟨k2, rfl, q2⟩
       ·rcases d2 with ⟨_, f2⟩ | ⟨u, hu, _⟩
        ·rcases c3 with ⟨rfl, rfl⟩ | ⟨k3, rfl, q3⟩
         ·rcases d3 with ⟨_, f3⟩ | ⟨u, hu, _⟩
          ·simp [f1, f2, f3]; omega
          ·cases hu
         ·rcases d3 with ⟨hu, _⟩ | ⟨u, hu, u', f3, f4⟩
          ·cases hu
          ·cases hu
           cases f4
           simp [f1, f2, f3, sliceBound_ok rfl q3]; omega
        ·cases hu
       ·rcases d2 with ⟨hu, _⟩ | ⟨u, hu, u', f2, f4⟩
        ·cases hu
        ·cases hu
         cases f4
         have q2' : h1 ≤ M := Nat.le_trans q2 hM
         rcases c3 with ⟨rfl, rfl⟩ | ⟨k3, rfl, q3⟩
         ·rcases d3 with ⟨_, f3⟩ | ⟨u, hu, _⟩
          ·simp [f1, f2, f3, sliceBound_ok rfl q2']; omega
          ·cases hu
         ·rcases d3 with ⟨hu, _⟩ | ⟨u, hu, u', f3, f5⟩
          ·cases hu
          ·cases hu
           cases f5
           simp [f1, f2, f3, sliceBound_ok rfl q3, sliceBound_ok rfl q2']; omega
      ·cases hu
     ·rcases d1 with ⟨hu, _⟩ | ⟨u, hu, u', f1, f4⟩
      ·cases hu
      ·cases hu
       cases f4
       have q1' : m1 ≤ M := Nat.le_trans q1 hM
       rcases c2 with ⟨rfl, rfl⟩ | ⟨k2, rfl, q2⟩
       ·exact (hno _ rfl rfl).elim
       ·rcases d2 with ⟨hu, _⟩ | ⟨u, hu, u', f2, f4⟩
        ·cases hu
        ·cases hu
         cases f4
         rcases c3 with ⟨rfl, rfl⟩ | ⟨k3, rfl, q3⟩
         ·rcases d3 with ⟨_, f3⟩ | ⟨u, hu, _⟩
          ·simp [f1, f2, f3, sliceBound_ok rfl q1', sliceBound_ok rfl q2]; omega
          ·cases hu
         ·rcases d3 with ⟨hu, _⟩ | ⟨u, hu, u', f3, f5⟩
          ·cases hu
          ·cases hu
           cases f5
           simp [f1, f2, f3, sliceBound_ok rfl q1', sliceBound_ok rfl q3, sliceBound_ok rfl q2]; omega
    ·cases hb
   ·cases hb
  ·cases hb
theorem good_sliceS {t e : TypeId} {x : Operand} {lo hi mx : Option Operand} (hop : o.op = .slice t x lo hi mx) (hu : P.underlying t = some (.slice e)) {sz : Nat} (hs : sizeB P e = some sz) {v : Value} {vl vh vm : Option Value} (hx : ev1 P env H x = some v) (hl : optK P env H lo = some vl) (hh : optK P env H hi = some vh) (hm : optK P env H mx = some vm)
  (h : sliceSK sz v vl vh vm H c = some r) : ResC P env H o c r .l := by
 unfold sliceSK at h
 split at h
 ·rename_i b off n m
  split at h
  ·rename_i i T cs hb
   split at h
   ·rename_i hchk
    rw [Bool.and_eq_true] at hchk
    have hnm := Nat.le_of_ble_eq_true hchk.1
    split at h
    ·rename_i lB hB m' hbd
     have key : ∀ (off' : Nat), (∀ σ D ρ, Rels (ev1 P env H) σ D ρ → D b = some i → ∀ M, (M = m ∨ ∃ sz' e', i = some (sz', e') ∧ off + m * sz' = e' ∧ off + M * sz' = σ.cap b) → m ≤ M → (if (if vm.isSome then m' else M) = lB then (⟨σ.blk b, σ.sh b + off, none⟩ : Addr) else ⟨σ.blk b, σ.sh b + (off + lB * sz), none⟩) = ⟨σ.blk b, σ.sh b + off', none⟩ ∧
        (off' = off + lB * sz ∨ vm.isSome = true)) → c (.slice (some ⟨b, off', none⟩) (hB - lB) (m' - lB)) H = some r → ResC P env H o c r .l := by
      intro off' hoff hc
      refine ⟨_, hc, .inr ⟨b, i, T, cs, hb, fun σ D ρ hr => ?_⟩⟩
      obtain ⟨z, M, hd, hM, hv, hcase⟩ := (hr x _ hx).slice_inv
      refine ⟨by rw [hd]; simp, fun hdi w C T fr _ _ => ?_⟩
      have hzi : z = i := by rw [hd] at hdi; exact Option.some.inj hdi
      subst hzi
      obtain ⟨g1, g2, g3, g4, g5, g6⟩ := bounds_ok (P := P) hl hh hm hbd hr true M hM hnm w
      obtain ⟨q1, q2⟩ := hoff σ D ρ hr hdi M hcase hM
      refine ⟨.slice (some ⟨σ.blk b, σ.sh b + off', none⟩) (hB - lB) ((if vm.isSome then m' else M) - lB), ?_, ?_⟩
      ·simp only [execOp, hop, hv]
       refine run_v ?_
       rw [← q1]
       simp [Instr.sliceAt, Instr.slice, run_underlying hu, g1, run_size hs, add_addr, Nat.add_assoc]
       generalize (if vm.isSome = true then m' else M) = MM
       split <;> rfl
      ·cases hvm : vm with
       | some u =>
        simp only [Option.isSome_some, if_true]
        exact .slice ⟨b, off', none⟩ _ _ z hd rfl
       | none =>
        have hmm := g5 hvm
        subst hmm
        simp only [Option.isSome_none, Bool.false_eq_true, if_false]
        rcases hcase with rfl | ⟨sz', e', rfl, he, hc2⟩
        ·exact .slice ⟨b, off', none⟩ _ _ z hd rfl
        ·have hsz : sz' = sz := by
          have := hchk.2
          simp at this
          exact this
         subst hsz
         have hoff' : off' = off + lB * sz' := by
          rcases q2 with q2 | q2
          ·exact q2
          ·rw [hvm] at q2; cases q2
         subst hoff'
         refine .sliceo ⟨b, off + lB * sz', none⟩ _ _ _ sz' e' hd rfl ?_ ?_ (by omega)
         ·show off + lB * sz' + (m' - lB) * sz' = e'
          rw [← he, Nat.add_assoc, ← Nat.add_mul]
          congr 2
          omega
         ·show off + lB * sz' + (M - lB) * sz' = σ.cap b
          rw [← hc2, Nat.add_assoc, ← Nat.add_mul]
          congr 2
          omega
     split at h
     ·rename_i l' heq
      refine ⟨_, h, .inr ⟨b, i, T, cs, hb, fun σ D ρ hr => ?_⟩⟩
      obtain ⟨z, M, hd, hM, hv, hcase⟩ := (hr x _ hx).slice_inv
      refine ⟨by rw [hd]; simp, fun hdi w C T fr _ _ => ?_⟩
      obtain ⟨g1, g2, g3, g4, g5, g6⟩ := bounds_ok (P := P) hl hh hm hbd hr true M hM hnm w
      have e1 := Nat.eq_of_beq_eq_true heq
      have e2 : hB - (l' + 1) = 0 := by omega
      refine ⟨_, ?_, .emptyU b 0 0 (if M = l' + 1 then ⟨σ.blk b, σ.sh b + off, none⟩ else ⟨σ.blk b, σ.sh b + (off + (l' + 1) * sz), none⟩) (M - (l' + 1))⟩
      simp only [execOp, hop, hv]
      refine run_v ?_
      simp only [Option.isSome_none, Bool.false_eq_true, if_false] at g1
      simp [Instr.sliceAt, Instr.slice, run_underlying hu, g1, run_size hs, add_addr, Nat.add_assoc, e2]
      split <;> rfl
     ·rename_i l' u heq
      rw [val0K_eq] at h
      refine key off (fun σ D ρ hr hdi M hcase hM => ⟨?_, .inr rfl⟩) h
      rw [if_pos]
      simp only [Option.isSome_some, if_true]
      exact Nat.eq_of_beq_eq_true heq
     ·rename_i lB vm x0 l0 mx0 hno1 hno2
      rw [val0K_eq] at h
      refine key (off + lB * sz) (fun σ D ρ hr hdi M hcase hM => ⟨?_, .inl rfl⟩) h
      by_cases hz : lB = 0
      ·subst hz; simp
      ·have hne : Nat.beq m' lB = false := by
        cases hq : Nat.beq m' lB with
        | false => rfl
        | true =>
         obtain ⟨l', rfl⟩ := Nat.exists_eq_succ_of_ne_zero hz
         cases hvm : vm with
         | none => exact (hno1 _ hq rfl hvm).elim
         | some u => exact (hno2 _ _ hq rfl hvm).elim
       have hm'l : m' ≠ lB := fun e => by rw [e, Nat.beq_refl] at hne; cases hne
       rw [if_neg]
       intro e
       cases hvm : vm with
       | some u => rw [hvm] at e; simp at e; exact hm'l e
       | none =>
        rw [hvm] at e
        simp at e
        obtain ⟨g1, g2, g3, g4, g5, g6⟩ := bounds_ok (P := P) hl hh hm hbd hr true M hM hnm default
        have := g5 hvm
        omega
    ·cases h
   ·cases h
  ·cases h
 ·rename_i n m
  split at h
  ·rename_i lB hB m' hn hbd
   rw [val0K_eq] at h
   refine ⟨_, h, .inl fun σ D w ρ hr => ⟨.slice none (hB - lB) (m' - lB), ?_, .nilslice _ _⟩⟩
   have hv := hr x _ hx
   cases hρ : ρ x with
   | slice a n2 m2 =>
    rw [hρ] at hv
    cases hv
    obtain ⟨g1, g2, g3, g4, g5, g6⟩ := bounds_ok (P := P) hl hh hm hbd hr true m (Nat.le_refl _) (Nat.le_of_ble_eq_true hn) w
    simp only [execOp, hop, hρ]
    refine run_v ?_
    have hmm : (if vm.isSome then m' else m) = m' := by
     cases hvm : vm with
     | some u => rfl
     | none => simp; exact (g5 hvm).symm
    rw [hmm] at g1
    simp [Instr.sliceAt, Instr.slice, run_underlying hu, g1, run_size hs]
   | _ => rw [hρ] at hv; cases hv
  ·cases h
 ·cases h
theorem good_sliceA {t e : TypeId} {len : Nat} {x : Operand} {lo hi mx : Option Operand} (hop : o.op = .slice t x lo hi mx) (hu : P.underlying t = some (.array len e)) {sz : Nat} (hs : sizeB P e = some sz) {v : Value} {vl vh vm : Option Value} (hx : ev1 P env H x = some v) (hl : optK P env H lo = some vl) (hh : optK P env H hi = some vh) (hm : optK P env H mx = some vm)
  (h : sliceAK len sz v vl vh vm H c = some r) : ResC P env H o c r .p := by
 unfold sliceAK at h
 split at h
 ·rename_i b off
  split at h
  ·rename_i lB hB m' hbd
   have key : ∀ (off' : Nat), (∀ A : Nat, (if m' = lB then A + off else A + (off + lB * sz)) = A + off') → c (.slice (some ⟨b, off', none⟩) (hB - lB) (m' - lB)) H = some r → ResC P env H o c r .p := by
    intro off' hoff hc
    refine ⟨_, hc, fun σ D w ρ hr => ?_⟩
    obtain ⟨hd, hv⟩ := (hr x _ hx).ptr_inv
    obtain ⟨g1, g2, g3, g4, g5, g6⟩ := bounds_ok (P := P) hl hh hm hbd hr false len (Nat.le_refl _) (Nat.le_refl _) w
    have hmm : (if vm.isSome then m' else len) = m' := by
     cases hvm : vm with
     | some u => rfl
     | none => simp; exact (g5 hvm).symm
    rw [hmm] at g1
    refine ⟨.slice (some ⟨σ.blk b, σ.sh b + off', none⟩) (hB - lB) (m' - lB), ?_, ?_⟩
    ·simp only [execOp, hop, hv]
     refine run_v ?_
     rw [← hoff]
     simp [Instr.sliceAt, Instr.sureAddr, run_underlying hu, g1, run_size hs, add_addr, Nat.add_assoc]
     split <;> rfl
    ·cases hdb : D b with
     | none => exact (hd hdb).elim
     | some z => exact .slice ⟨b, off', none⟩ _ _ z hdb rfl
   split at h
   ·rename_i hq
    rw [val0K_eq] at h
    exact key off (fun A => by rw [if_pos (Nat.eq_of_beq_eq_true hq)]) h
   ·rename_i hq
    rw [val0K_eq] at h
    exact key (off + lB * sz) (fun A => by rw [if_neg (fun e => by rw [e, Nat.beq_refl] at hq; cases hq)]) h
  ·cases h
 ·cases h
theorem good_sliceT {t : TypeId} {x : Operand} {lo hi mx : Option Operand} (hop : o.op = .slice t x lo hi mx) (hu : P.underlying t = some .string) {v : Value} {vl vh vm : Option Value} (hx : ev1 P env H x = some v) (hl : optK P env H lo = some vl) (hh : optK P env H hi = some vh) (hm : optK P env H mx = some vm)
  (h : sliceTK t v vl vh vm H c = some r) : ResC P env H o c r .p := by
 unfold sliceTK at h
 split at h
 ·rename_i s
  split at h
  ·rename_i lB hB m' hbd
   rw [strK_eq] at h
   refine ⟨_, h, fun σ D w ρ hr => ⟨_, ?_, .string _⟩⟩
   have hv := (hr x _ hx).str_inv
   obtain ⟨g1, g2, g3, g4, g5, g6⟩ := bounds_ok (P := P) hl hh hm hbd hr false s.size (Nat.le_refl _) (Nat.le_refl _) w
   have hmx : mx.map ρ = none := by
    cases hq : mx.map ρ with
    | none => rfl
    | some u => rw [hq] at g6; cases g6
   rw [hmx] at g1
   simp only [execOp, hop, hv]
   refine run_v ?_
   simp [Instr.sliceAt, Instr.slice, run_underlying hu, hmx, g1]
  ·cases h
 ·cases h
end
end Go.Proofs.YtdcbnkimjhefkaaGreatDoor

namespace Go.Proofs.YtdcbnkimjhefkaaGreatDoor
section
variable {P : Program} {env : Env} {H : AH} {β : Type} {o : Oper} {c : Value → AH → Option β} {r : β}
theorem evs_vr {σ : Ren} {D : Dom} {ρ : Operand → Value} (hr : Rels (ev1 P env H) σ D ρ) : ∀ {l : List Operand} {vs : List Value}, l.map (ev1 P env H) = vs.map some → VRs σ D vs (l.map ρ)
 | [], [], _ => .nil
 | [], _ :: _, h => by simp at h
 | _ :: _, [], h => by simp at h
 | x :: l, v :: vs, h => by
  simp only [List.map_cons, List.cons.injEq] at h
  exact .cons _ _ _ _ (hr x v h.1) (evs_vr hr h.2)
def constsOf (args : Array Operand) : Array Bool := args.map fun | .const _ => true | _ => false
theorem exec_builtin {b : Builtin} {args : Array Operand} {ts : Array TypeId} (hop : o.op = .call ⟨.builtin b, args, ts⟩) (ρ : Operand → Value) : execOp ρ o = builtin b ts o.type (constsOf args) (args.map ρ) := by
 simp only [execOp, hop, resolve]
 rfl
theorem good_len {args : Array Operand} {ts : Array TypeId} (hop : o.op = .call ⟨.builtin .len, args, ts⟩) {vs : List Value} (hvs : args.toList.map (ev1 P env H) = vs.map some) (h : len1K P ts.toList vs H c = some r) : ResC P env H o c r .p := by
 unfold len1K at h
 split at h
 ·rename_i t tl v hts
  split at h
  ·rename_i n hn
   rw [natK_eq] at h
   refine ⟨_, h, fun σ D w ρ hr => ⟨.int .i64 (Int.ofNat n), ?_, .int _ _⟩⟩
   have hv := evs_vr hr hvs
   have ht : ts[0]? = some t := by rw [← Array.getElem?_toList, hts]; rfl
   have hargs : ∃ u, args.map ρ = #[u] ∧ VR σ D v u := by
    generalize hm : args.toList.map ρ = m at hv
    cases hv with
    | cons _ u _ l' h1 h2 =>
     cases h2
     refine ⟨u, ?_, h1⟩
     apply Array.ext'
     rw [Array.toList_map, hm]
   obtain ⟨u, hu, hvu⟩ := hargs
   rw [exec_builtin hop, hu]
   show (do pure (.value (← Builtin.len_ ts o.type #[u])) : Sem Next).run P w = _
   refine run_v ?_
   unfold lenT at hn
   split at hn
   ·rename_i d hd
    obtain rfl := Option.some.inj hn
    cases hvu <;> simp [Builtin.len_, ht, run_underlying hd, goInt]
   ·rename_i hd
    obtain rfl := Option.some.inj hn
    cases hvu; simp [Builtin.len_, ht, run_underlying hd, goInt]
   ·rename_i m d hd
    obtain rfl := Option.some.inj hn
    simp [Builtin.len_, ht, run_underlying hd, goInt]
   ·cases hn
  ·cases h
 ·cases h
theorem good_min {b : Builtin} {args : Array Operand} {ts : Array TypeId} (hop : o.op = .call ⟨.builtin b, args, ts⟩) {s : Array Value → Sem Value} (hb : ∀ as, builtin b ts o.type (constsOf args) as = (do pure (.value (← s as)))) {vs : List Value} (hvs : args.toList.map (ev1 P env H) = vs.map some) (h : minK P (s ⟨vs⟩) vs H c = some r) : ResC P env H o c r .p := by
 unfold minK at h
 split at h
 ·rename_i hat
  refine res_pure h fun σ D ρ hr => ?_
  have hv := (evs_vr hr hvs).atoms0 hat
  have : args.map ρ = ⟨vs⟩ := by
   apply Array.ext'
   rw [Array.toList_map, hv]
  rw [exec_builtin hop, this, hb]
 ·cases h
theorem good_makeFunc {fn : Fn} {first captured : Array Operand} (hop : o.op = .makeFunc fn first captured) (h : makeFuncK P env H fn first captured c = some r) : ResC P env H o c r .p := by
 unfold makeFuncK at h
 split at h
 ·rename_i f
  obtain ⟨a, h1, ha⟩ := evsK_inv h
  obtain ⟨b, h2, hb⟩ := evsK_inv h1
  refine ⟨_, h2, fun σ D w ρ hr => ⟨.func (.func f) ⟨first.toList.map ρ⟩ ⟨captured.toList.map ρ⟩, ?_, .func _ _ _ _ _ (evs_vr hr ha) (evs_vr hr hb)⟩⟩
  have e1 : first.map ρ = ⟨first.toList.map ρ⟩ := by apply Array.ext'; simp
  have e2 : captured.map ρ = ⟨captured.toList.map ρ⟩ := by apply Array.ext'; simp
  simp only [execOp, hop, Instr.makeFunc, e1, e2]
  rfl
 ·cases h
/-! ### Structs and arrays that are built -/
inductive PR (σ : Ren) (D : Dom) : List (Nat × Value) → List (Nat × Value) → Prop
 | nil : PR σ D [] []
 | cons (i : Nat) (v v' : Value) (l l' : List (Nat × Value)) (h : VR σ D v v') (h2 : PR σ D l l') : PR σ D ((i, v) :: l) ((i, v') :: l')
theorem partsK_inv {β : Type} {r : β} : ∀ {l : List (Nat × Operand)} {c : List (Nat × Value) → Option β}, partsK P env H l c = some r → ∃ ps, c ps = some r ∧ ∀ σ D ρ, Rels (ev1 P env H) σ D ρ → PR σ D ps (l.map fun p => (p.1, ρ p.2))
 | [], c, h => ⟨[], h, fun _ _ _ _ => .nil⟩
 | (i, x) :: l, c, h => by
  unfold partsK at h
  split at h
  ·rename_i v hv
   obtain ⟨ps, h1, h2⟩ := partsK_inv h
   exact ⟨_, h1, fun σ D ρ hr => .cons _ _ _ _ _ (hr x v hv) (h2 σ D ρ hr)⟩
  ·cases h
theorem foldl_set (off : Nat) : ∀ (l : List Value) (k : Nat) (A : Array Value), off + k + l.length ≤ A.size → ((l.zipIdx k).foldl (fun cs p => cs.setIfInBounds (off + p.2) p.1) A).size = A.size ∧ ∀ j, ((l.zipIdx k).foldl (fun cs p => cs.setIfInBounds (off + p.2) p.1) A)[j]? = if off + k ≤ j ∧ j < off + k + l.length then l[j - (off + k)]? else A[j]?
 | [], k, A, _ => ⟨rfl, fun j => by rw [if_neg (by simp)]; rfl⟩
 | v :: l, k, A, h => by
  simp only [List.length_cons] at h
  obtain ⟨h1, h2⟩ := foldl_set off l (k + 1) (A.setIfInBounds (off + k) v) (by simp; omega)
  rw [List.zipIdx_cons, List.foldl_cons]
  refine ⟨by rw [h1]; simp, fun j => ?_⟩
  rw [h2]
  simp only [List.length_cons]
  by_cases e : j = off + k
  ·subst e
   rw [if_neg (by omega), if_pos (by omega), Nat.sub_self, Array.getElem?_setIfInBounds_self_of_lt (by omega)]
   rfl
  ·by_cases e2 : off + (k + 1) ≤ j ∧ j < off + (k + 1) + l.length
   ·rw [if_pos e2, if_pos (by omega), show j - (off + k) = (j - (off + (k + 1))) + 1 by omega]
    simp
   ·rw [if_neg e2, if_neg (by omega)]
    rw [Array.getElem?_setIfInBounds_ne (fun e' => e e'.symm)]
theorem fillK_inv {β : Type} {r : β} {place : Nat → Option (Nat × Nat)} : ∀ {ps : List (Nat × Value)} {cs : List Value} {c : List Value → Option β}, fillK place ps cs c = some r → ∃ cs', c cs' = some r ∧ cs'.length = cs.length ∧ ∀ σ D (A : Array Value) qs, VRs σ D cs A.toList → PR σ D ps qs → ∃ B : Array Value, Instr.fill place A qs = some B ∧ VRs σ D cs' B.toList
 | [], cs, c, h => ⟨cs, h, rfl, fun σ D A qs hv hp => by cases hp; exact ⟨A, rfl, hv⟩⟩
 | (i, v) :: ps, cs, c, h => by
  unfold fillK at h
  split at h
  ·rename_i off size hpl
   split at h
   ·rename_i hsz
    obtain ⟨h1, cs2, h2, h3, h4⟩ := putK_inv h
    obtain ⟨cs', h5, h6, h7⟩ := fillK_inv h2
    refine ⟨cs', h5, h6.trans h3, fun σ D A qs hv hp => ?_⟩
    cases hp with
    | cons _ _ v' _ qs' hvv hpp =>
     have hvc := hvv.cells
     rw [Bool.and_eq_true] at hsz
     have hsize : v'.cells.size = size := by rw [cellsL_eq]; simp [hvc.length, Nat.eq_of_beq_eq_true hsz.1]
     have hl' : (cellsL v').length = size := by rw [hvc.length]; exact (Nat.eq_of_beq_eq_true hsz.1).symm
     have hAl : A.size = cs.length := by rw [← Array.length_toList]; exact hv.length
     have hroom : off + size ≤ A.size := by rw [hAl]; exact Nat.le_of_ble_eq_true hsz.2
     obtain ⟨g1, g2⟩ := foldl_set off (cellsL v') 0 A (by omega)
     have hfold : v'.cells.zipIdx.foldl (fun cs (p : Value × Nat) => cs.setIfInBounds (off + p.2) p.1) A = ((cellsL v').zipIdx 0).foldl (fun cs p => cs.setIfInBounds (off + p.2) p.1) A := by
      rw [cellsL_eq, ← Array.foldl_toList]
      simp
     have hv2 : VRs σ D cs2 (((cellsL v').zipIdx 0).foldl (fun cs p => cs.setIfInBounds (off + p.2) p.1) A).toList := by
      refine VRs.of_get (by rw [Array.length_toList, g1, hAl, h3]) fun j x hj => ?_
      rw [Array.getElem?_toList, g2]
      rw [h4] at hj
      have hll := hvc.length
      split at hj
      ·rename_i hjj
       rw [if_pos (by omega)]
       obtain ⟨x', q1, q2⟩ := hvc.get hj
       exact ⟨x', by simpa using q1, q2⟩
      ·rename_i hjj
       rw [if_neg (by omega)]
       obtain ⟨x', q1, q2⟩ := hv.get hj
       exact ⟨x', by simpa using q1, q2⟩
     obtain ⟨B, q1, q2⟩ := h7 σ D _ qs' hv2 hpp
     refine ⟨B, ?_, q2⟩
     unfold Instr.fill
     simp only [hpl]
     rw [if_neg (by simp [hsize]; omega)]
     rw [← q1]
     congr 1
   ·cases h
  ·cases h
theorem run_places : ∀ {l : List Field} {r : List (Nat × Nat)}, placesL P l = some r → ∀ w, (l.mapM (fun f => Prod.mk f.offset <$> sizeOf f.type : Field → Sem (Nat × Nat))).run P w = .ok r w
 | [], r, h, w => by simp [placesL] at h; subst h; rfl
 | f :: l, r, h, w => by
  unfold placesL at h
  split at h
  ·rename_i n r' h1 h2
   obtain rfl := Option.some.inj h
   have ih := run_places h2 w
   rw [List.mapM_cons]
   simp [run_size h1, ih]
  ·cases h
theorem good_build {t : TypeId} {parts : Array (Nat × Operand)} (hop : o.op = .build t parts) (h : buildK P env H t parts c = some r) : ResC P env H o c r .p := by
 unfold buildK at h
 obtain ⟨ps, h1, h2⟩ := partsK_inv h
 split at h1
 ·rename_i z place hz hp
  split at h1
  ·rename_i hat
   obtain ⟨cs', h3, h4, h5⟩ := fillK_inv h1
   refine ⟨_, h3, fun σ D w ρ hr => ?_⟩
   obtain ⟨B, g1, g2⟩ := h5 σ D z.cells _ (by rw [cellsL_eq]; exact (VR.of_atomV hat).cells) (h2 σ D ρ hr)
   refine ⟨.agg B, ?_, .agg _ _ g2⟩
   have hparts : (parts.map fun (p : Nat × Operand) => (p.1, ρ p.2)).toList = parts.toList.map fun p => (p.1, ρ p.2) := by simp
   simp only [execOp, hop]
   refine run_v ?_
   unfold placesOf at hp
   split at hp
   ·rename_i fs hu
    split at hp
    ·rename_i l hl
     obtain rfl := Option.some.inj hp
     have hm : (fs.mapM (fun f => Prod.mk f.offset <$> sizeOf f.type : Field → Sem (Nat × Nat))).run P w = .ok l.toArray w := by
      rw [Array.mapM_eq_mapM_toList]
      simp [run_places hl w]
     have hfun : (fun i => l[i]?) = nth l := by funext i; rw [nth_eq]
     simp [Instr.build, run_zero hz, run_underlying hu, hm]
     rw [hfun, g1]
     rfl
    ·cases hp
   ·rename_i n e hu
    split at hp
    ·rename_i sz hs
     obtain rfl := Option.some.inj hp
     simp [Instr.build, run_zero hz, run_underlying hu, run_size hs]
     rw [g1]
     rfl
    ·cases hp
   ·cases hp
  ·cases h1
 ·cases h1
/-! ### New rows -/
theorem alloc_res {t : TypeId} {cs : List Value} {i : Option (Nat × Nat)} {f : Addr → Value} (hi : ∀ sz e, i = some (sz, e) → cs.length = e) (h : H.newK ⟨i, .cells t cs⟩ (fun b H => c (f ⟨b, 0, none⟩) H) = some r)
  (hs : ∀ σ D w ρ, Rels (ev1 P env H) σ D ρ → ∃ cs' rest fr v' w', (i = none → rest = []) ∧ VRs σ D cs cs' ∧ (execOp ρ o).run P w = .ok (.value v') w' ∧ Push w w' (cs' ++ rest) t fr ∧
   ∀ (σ' : Ren) (D' : Dom), D' H.next = some i → σ'.blk H.next = w.heap.size → σ'.sh H.next = 0 → σ'.cap H.next = (cs' ++ rest).length → VR σ' D' (f ⟨H.next, 0, none⟩) v') : ResC P env H o c r .a := by
 obtain ⟨H', h1, h2, h3⟩ := AH.newK_inv h
 exact ⟨_, H', i, t, cs, h1, h2, h3, hi, hs⟩
theorem ptr_new {σ' : Ren} {D' : Dom} {id : Nat} {n : Nat} {i : Option (Nat × Nat)} (h1 : D' id = some i) (h2 : σ'.blk id = n) (h3 : σ'.sh id = 0) : VR σ' D' (.pointer (some ⟨id, 0, none⟩)) (.pointer (some ⟨n, 0, none⟩)) := by
 have := VR.ptr (σ := σ') (D := D') ⟨id, 0, none⟩ i h1 rfl
 unfold Ren.addr at this
 simp only [h2, h3] at this
 exact this
theorem slice_new {σ' : Ren} {D' : Dom} {id n k m : Nat} {i : Option (Nat × Nat)} (h1 : D' id = some i) (h2 : σ'.blk id = n) (h3 : σ'.sh id = 0) : VR σ' D' (.slice (some ⟨id, 0, none⟩) k m) (.slice (some ⟨n, 0, none⟩) k m) := by
 have := VR.slice (σ := σ') (D := D') ⟨id, 0, none⟩ k m i h1 rfl
 unfold Ren.addr at this
 simp only [h2, h3] at this
 exact this
theorem gd_alloc {t : TypeId} (hop : o.op = .alloc t) (h : allocK P H t c = some r) : ResC P env H o c r .a := by
 unfold allocK at h
 split at h
 ·rename_i z hz
  split at h
  ·rename_i hat
   refine alloc_res (f := fun a => .pointer (some a)) (by simp) h fun σ D w ρ hr => ⟨cellsL z, [], (0, 0), .pointer (some ⟨w.heap.size, 0, none⟩), _, fun _ => rfl, (VR.of_atomV hat).cells, ?_, by rw [List.append_nil]; exact Push.plain w _ t, fun σ' D' h1 h2 h3 _ => ptr_new h1 h2 h3⟩
   simp only [execOp, hop]
   show (do pure (.value (← Instr.alloc t true (.tuple #[]))) : Sem Next).run P w = _
   simp [Instr.alloc, run_zero hz, newVar, newRow, newObj, cellsL_eq, Sem.run]
  ·cases h
 ·cases h
theorem good_box {t : TypeId} {x : Operand} (hop : o.op = .box t x) (h : boxK P env H t x c = some r) : ResC P env H o c r .a := by
 unfold boxK at h
 split at h
 ·rename_i v hv
  refine alloc_res (f := fun a => .pointer (some a)) (by simp) h fun σ D w ρ hr => ⟨cellsL (ρ x), [], (0, 0), .pointer (some ⟨w.heap.size, 0, none⟩), _, fun _ => rfl, (hr x v hv).cells, ?_, by rw [List.append_nil]; exact Push.plain w _ t, fun σ' D' h1 h2 h3 _ => ptr_new h1 h2 h3⟩
  simp only [execOp, hop]
  show (do pure (.value (← Instr.box t (ρ x))) : Sem Next).run P w = _
  simp [Instr.box, newVar, newRow, newObj, cellsL_eq, Sem.run]
 ·cases h
theorem repL_length (z : List Value) : ∀ n, (repL n z).length = n * z.length
 | 0 => by simp [repL]
 | n + 1 => by simp [repL, repL_length z n, Nat.succ_mul, Nat.add_comm]
theorem repL_get (z : List Value) : ∀ (n j : Nat), j < n * z.length → (repL n z)[j]? = z[j % z.length]?
 | 0, j, h => by simp at h
 | n + 1, j, h => by
  unfold repL
  rw [List.getElem?_append]
  by_cases hj : j < z.length
  ·rw [if_pos hj, Nat.mod_eq_of_lt hj]
  ·rw [if_neg hj, repL_get z n (j - z.length) (by rw [Nat.succ_mul] at h; omega)]
   rw [Nat.mod_eq_sub_mod (Nat.le_of_not_lt hj)]
theorem repL_array (z : List Value) (n : Nat) : ((Array.range (n * z.length)).map (fun j => (z.toArray)[j % z.toArray.size]!)) = (repL n z).toArray := by
 apply Array.ext'
 apply List.ext_getElem?
 intro j
 simp only [Array.toList_map, Array.toList_range, List.getElem?_map, List.size_toArray]
 by_cases hj : j < n * z.length
 ·rw [repL_get z n j hj]
  have hz : 0 < z.length := by
   rcases Nat.eq_zero_or_pos z.length with e | e
   ·rw [e] at hj; simp at hj
   ·exact e
  have hlt : j % z.length < z.length := Nat.mod_lt _ hz
  rw [List.getElem?_range hj]
  simp [hlt]
 ·rw [List.getElem?_eq_none (by simp; omega), List.getElem?_eq_none (by rw [repL_length]; omega)]
  rfl
theorem VRs.rep {σ : Ren} {D : Dom} {z z' : List Value} (h : VRs σ D z z') : ∀ n, VRs σ D (repL n z) (repL n z')
 | 0 => .nil
 | n + 1 => h.append (VRs.rep h n)
theorem good_buildSlice {t : TypeId} {n : Nat} {parts : Array (Nat × Operand)} (hop : o.op = .buildSlice t n parts) (h : buildSliceK P env H t n parts c = some r) : ResC P env H o c r .a := by
 unfold buildSliceK at h
 obtain ⟨ps, h1, h2⟩ := partsK_inv h
 split at h1
 ·rename_i e hu
  split at h1
  ·rename_i sz z hs hz
   split at h1
   ·rename_i hchk
    rw [Bool.and_eq_true, Bool.and_eq_true] at hchk
    obtain ⟨hat, hlen, hle⟩ := hchk
    have hlen' := Nat.eq_of_beq_eq_true hlen
    have hle' := Nat.le_of_ble_eq_true hle
    obtain ⟨cs', h3, h4, h5⟩ := fillK_inv h1
    refine alloc_res (f := fun a => .slice (some a) n n) (by simp) h3 fun σ D w ρ hr => ?_
    obtain ⟨B, g1, g2⟩ := h5 σ D (repL n (cellsL z)).toArray _ (VRs.rep (VR.of_atomV hat).cells n) (h2 σ D ρ hr)
    refine ⟨B.toList, [], (0, 0), .slice (some ⟨w.heap.size, 0, none⟩) n n, _, fun _ => rfl, g2, ?_, by rw [List.append_nil]; exact Push.plain w _ e, fun σ' D' q1 q2 q3 _ => slice_new q1 q2 q3⟩
    have hle2 : ¬ n * sz > 2 ^ 24 := by omega
    simp only [execOp, hop]
    show (do pure (.value (← Instr.buildSlice t n _)) : Sem Next).run P w = _
    simp [Instr.buildSlice, run_underlying hu, run_size hs, hle2]
    have fin : ((match some B with | some cells => (fun a => Value.slice (some a) n n) <$> newRow e cells | _ => stuck "buildSlice: a part of the wrong size" : Sem Value).run P w).andThen (fun a w' => Result.ok (Next.value a) w') = Result.ok (Next.value (.slice (some ⟨w.heap.size, 0, none⟩) n n)) { w with heap := w.heap.push (.cells B e (0, 0)) } := by
     simp [newRow, newObj, Sem.run]
    by_cases h0 : n * sz = 0
    ·have e0 : (Array.range (n * sz)).map (fun _ => (default : Value)) = (repL n (cellsL z)).toArray := by
      have : repL n (cellsL z) = [] := List.length_eq_zero_iff.1 (by rw [repL_length, hlen', h0])
      rw [this, h0]
      simp
     rw [if_pos h0, e0, g1]
     exact fin
    ·rw [if_neg h0, run_zero hz]
     simp only [Result.andThen_ok]
     have e1 : (Array.range (n * sz)).map (fun x => z.cells[x % z.cells.size]!) = (repL n (cellsL z)).toArray := by
      rw [cellsL_eq, ← hlen']
      exact repL_array (cellsL z) n
     rw [e1, g1]
     exact fin
   ·cases h1
  ·cases h1
 ·cases h1
end
end Go.Proofs.YtdcbnkimjhefkaaGreatDoor

namespace Go.Proofs.YtdcbnkimjhefkaaGreatDoor
section
variable {P : Program} {env : Env} {H : AH} {β : Type} {o : Oper} {c : Value → AH → Option β} {r : β}
theorem good_load {t : TypeId} {x : Operand} (hop : o.op = .load t x) (h : ld1K P env H t x c = some r) : ResC P env H o c r .l := by
 unfold ld1K at h
 split at h
 ·rename_i v hv
  unfold loadK at h
  split at h
  ·rename_i b off
   split at h
   ·rename_i i T cs hb
    split at h
    ·rename_i n h1 h2
     obtain ⟨h3, h4⟩ := rowK_inv h
     refine ⟨_, h4, .inr ⟨b, i, T, cs, hb, fun σ D ρ hr => ?_⟩⟩
     obtain ⟨hd, hx⟩ := (hr x _ hv).ptr_inv
     refine ⟨hd, fun _ w C T fr q1 q2 => ?_⟩
     obtain ⟨row, g1, g2⟩ := Row.cells (P := P) q1 q2 h3
     refine ⟨.agg ⟨row⟩, ?_, .agg _ _ g2⟩
     simp [execOp, hop, hx, Instr.loadAt, Instr.sureAddr, loadVar, run_isAgg h1, run_size h2, g1]
    ·rename_i h1
     split at h
     ·rename_i u hu
      rw [nth_eq] at hu
      refine ⟨_, h, .inr ⟨b, i, T, cs, hb, fun σ D ρ hr => ?_⟩⟩
      obtain ⟨hd, hx⟩ := (hr x _ hv).ptr_inv
      refine ⟨hd, fun _ w C T fr q1 q2 => ?_⟩
      obtain ⟨u', g1, g2⟩ := Row.at q1 q2 hu
      refine ⟨u', ?_, g2⟩
      simp [execOp, hop, hx, Instr.loadAt, Instr.sureAddr, loadVar, run_isAgg h1, load, Sem.run, g1]
     ·cases h
    ·cases h
   ·cases h
  ·cases h
 ·cases h
theorem storeRow_inv {b o2 : Nat} {row : List Value} {c : AH → Option β} {r : β} (hok : AH.ok P H) (h : storeRow b o2 row H c = some r) : ∃ H' i t cs cs2, c H' = some r ∧ AH.ok P H' ∧ H'.next = H.next ∧ H.get b = some ⟨i, .cells t cs⟩ ∧ H'.get = Hp.set H.get b ⟨i, .cells t cs2⟩ ∧ (row = [] ∨ o2 + row.length ≤ cs.length) ∧ cs2.length = cs.length ∧
  (∀ j : Nat, cs2[j]? = if o2 ≤ j ∧ j < o2 + row.length then row[j - o2]? else cs[j]?) ∧ ones row = true ∧ ∀ e, i ≠ some (0, e) := by
 unfold storeRow at h
 split at h
 ·rename_i i t cs hb ho
  split at h
  ·cases h
  ·rename_i hro
   obtain ⟨h1, cs2, h2, h3, h4⟩ := putK_inv h
   obtain ⟨H', h5, h6, h7⟩ := AH.setK_inv h2
   exact ⟨H', i, t, cs, cs2, h5, AH.ok_set hok hb h6 h7, h6, hb, h7, h1, h3, h4, ho, roB_false hro⟩
 ·cases h
theorem Sim.write {σ : Ren} {h : Hp} {w : World} (s : Sim P σ h w) {b o2 : Nat} {i : Option (Nat × Nat)} {t : TypeId} {cs cs2 row row' : List Value} (hro : ∀ e, i ≠ some (0, e)) (hb : h b = some ⟨i, .cells t cs⟩) (hr : row = [] ∨ o2 + row.length ≤ cs.length) (hl : cs2.length = cs.length)
  (hg : ∀ j : Nat, cs2[j]? = if o2 ≤ j ∧ j < o2 + row.length then row[j - o2]? else cs[j]?) (ho : ones row = true) (hv : VRs σ h.dom row row') :
  ∃ w', (storeCells ⟨σ.blk b, σ.sh b + o2, none⟩ row').run P w = .ok () w' ∧ Sim P σ (h.set b ⟨i, .cells t cs2⟩) w' ∧ Fwd σ h w σ (h.set b ⟨i, .cells t cs2⟩) w' := by
 obtain ⟨h1, h2⟩ := s.put hro hb hr hv hl hg
 refine ⟨_, ?_, h1, h2⟩
 have hrl := hv.length
 have hlt : ∀ j, j < row'.length → o2 + j < cs.length := fun j hj => by
  rcases hr with rfl | hr
  ·rw [List.length_nil] at hrl; omega
  ·omega
 have := run_storeCells_cells (P := P) (σ.blk b) (σ.sh b + o2) row' 0 w (fun j hj => by
   obtain ⟨v', g1, _⟩ := s.cell hb (List.getElem?_eq_getElem (hlt j hj))
   rw [show σ.sh b + o2 + 0 + j = σ.sh b + (o2 + j) by omega, g1]; rfl) (fun j hj => by
   rw [show σ.sh b + o2 + 0 + j = σ.sh b + (o2 + j) by omega]
   exact s.unfrozen hro hb (hlt j hj)) (ones_vr hv ho)
 simpa using this
theorem good_store (hok : AH.ok P H) {t : TypeId} {x y : Operand} (hop : o.op = .store t x y) (h : st1K P env H t x y c = some r) : ResC P env H o c r .w := by
 unfold st1K at h
 split at h
 ·rename_i v u hv hu
  unfold storeK at h
  split at h
  ·rename_i b off
   split at h
   ·rename_i n hn
    split at h
    ·rename_i hl
     obtain ⟨H', i, T, cs, cs2, h1, h2, h3, h4, h5, h6, h7, h8, h9, hro⟩ := storeRow_inv hok h
     refine ⟨_, H', h1, h2, by omega, fun σ w ρ hS hr => ?_⟩
     obtain ⟨_, hx⟩ := (hr x _ hv).ptr_inv
     have hy := (hr y _ hu)
     obtain ⟨w', g1, g2, g3⟩ := hS.write hro h4 h6 h7 h8 h9 hy.cells
     have hlen : (ρ y).cells.size = n := by rw [cellsL_eq]; simp [hy.cells.length, Nat.eq_of_beq_eq_true hl]
     unfold OpOk
     have : (execOp ρ o).run P w = .ok .skip w' := by
      simp only [execOp, hop, hx, Instr.storeAt, Instr.sureAddr, storeVar]
      have hlen' : (cellsL (ρ y)).length = n := by rw [cellsL_eq] at hlen; simpa using hlen
      simp [run_size hn, cellsL_eq, hlen', g1]
     rw [this]
     exact ⟨σ, by rw [h5]; exact g2, by rw [h5]; exact g3, .tuple _ _ .nil⟩
    ·cases h
   ·cases h
  ·cases h
 ·cases h
end
end Go.Proofs.YtdcbnkimjhefkaaGreatDoor

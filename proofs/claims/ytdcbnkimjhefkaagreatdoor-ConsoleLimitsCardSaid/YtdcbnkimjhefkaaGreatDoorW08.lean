/-
  Lengths, closures, structs that are built.
  Operations that read and write memory.
  Conversions.
-/
import Derived.Test.YtdcbnkimjhefkaaGreatDoorW07
import Derived.Laws.BytesString
import Derived.Laws.IdiomStrings
import Derived.Laws.AppendOwn
namespace Go.Proofs.YtdcbnkimjhefkaaGreatDoor
section
variable {P : Program} {env : Env} {H : AH} {β : Type} {o : Oper} {c : Value → AH → Option β} {r : β}
theorem evs_vr {σ : Ren} {D : Dom} {ρ : Operand → Value} (hr : Rels (ev1 P env H) σ D ρ) : ∀ {l : List Operand} {vs : List Value}, l.map (ev1 P env H) = vs.map some → VRs σ D vs (l.map ρ)
  | [], [], _ => .nil
  | [], _ :: _, h => by simp at h
  | _ :: _, [], h => by simp at h
  | x :: l, v :: vs, h => by
    simp only [List.map_cons, List.cons.injEq] at h
    exact .cons _ _ _ _ (hr x v h.1) (evs_vr hr h.2)
def constsOf (args : Array Operand) : Array Bool := args.map fun | .const _ => true | _ => false
theorem exec_builtin {b : Builtin} {args : Array Operand} {ts : Array TypeId} (hop : o.op = .call ⟨.builtin b, args, ts⟩) (ρ : Operand → Value) : execOp ρ o = builtin b ts o.type (constsOf args) (args.map ρ) := by
  simp only [execOp, hop, resolve]
  rfl
theorem good_len {args : Array Operand} {ts : Array TypeId} (hop : o.op = .call ⟨.builtin .len, args, ts⟩) {vs : List Value} (hvs : args.toList.map (ev1 P env H) = vs.map some) (h : len1K P ts.toList vs H c = some r) : ResC P env H o c r .p := by
  unfold len1K at h
  split at h
  · rename_i t tl v hts
    split at h
    · rename_i n hn
      rw [natK_eq] at h
      refine ⟨_, h, fun σ D w ρ hr => ⟨.int .i64 (Int.ofNat n), ?_, .int _ _⟩⟩
      have hv := evs_vr hr hvs
      have ht : ts[0]? = some t := by rw [← Array.getElem?_toList, hts]; rfl
      have hargs : ∃ u, args.map ρ = #[u] ∧ VR σ D v u := by
        generalize hm : args.toList.map ρ = m at hv
        cases hv with
        | cons _ u _ l' h1 h2 =>
          cases h2
          refine ⟨u, ?_, h1⟩
          apply Array.ext'
          rw [Array.toList_map, hm]
      obtain ⟨u, hu, hvu⟩ := hargs
      rw [exec_builtin hop, hu]
      show (do pure (.value (← Builtin.len_ ts o.type #[u])) : Sem Next).run P w = _
      refine run_v ?_
      unfold lenT at hn
      split at hn
      · rename_i d hd
        obtain rfl := Option.some.inj hn
        cases hvu <;> simp [Builtin.len_, ht, run_underlying hd, goInt]
      · rename_i hd
        obtain rfl := Option.some.inj hn
        cases hvu; simp [Builtin.len_, ht, run_underlying hd, goInt]
      · rename_i m d hd
        obtain rfl := Option.some.inj hn
        simp [Builtin.len_, ht, run_underlying hd, goInt]
      · cases hn
    · cases h
  · cases h
theorem good_min {b : Builtin} {args : Array Operand} {ts : Array TypeId} (hop : o.op = .call ⟨.builtin b, args, ts⟩) {s : Array Value → Sem Value} (hb : ∀ as, builtin b ts o.type (constsOf args) as = (do pure (.value (← s as)))) {vs : List Value} (hvs : args.toList.map (ev1 P env H) = vs.map some) (h : minK P (s ⟨vs⟩) vs H c = some r) : ResC P env H o c r .p := by
  unfold minK at h
  split at h
  · rename_i hat
    refine res_pure h fun σ D ρ hr => ?_
    have hv := (evs_vr hr hvs).atoms0 hat
    have : args.map ρ = ⟨vs⟩ := by
      apply Array.ext'
      rw [Array.toList_map, hv]
    rw [exec_builtin hop, this, hb]
  · cases h
theorem good_makeFunc {fn : Fn} {first captured : Array Operand} (hop : o.op = .makeFunc fn first captured) (h : makeFuncK P env H fn first captured c = some r) : ResC P env H o c r .p := by
  unfold makeFuncK at h
  split at h
  · rename_i f
    obtain ⟨a, h1, ha⟩ := evsK_inv h
    obtain ⟨b, h2, hb⟩ := evsK_inv h1
    refine ⟨_, h2, fun σ D w ρ hr => ⟨.func (.func f) ⟨first.toList.map ρ⟩ ⟨captured.toList.map ρ⟩, ?_, .func _ _ _ _ _ (evs_vr hr ha) (evs_vr hr hb)⟩⟩
    have e1 : first.map ρ = ⟨first.toList.map ρ⟩ := by apply Array.ext'; simp
    have e2 : captured.map ρ = ⟨captured.toList.map ρ⟩ := by apply Array.ext'; simp
    simp only [execOp, hop, Instr.makeFunc, e1, e2]
    rfl
  · cases h
/-! ### Structs and arrays that are built -/
inductive PR (σ : Ren) (D : Dom) : List (Nat × Value) → List (Nat × Value) → Prop
  | nil : PR σ D [] []
  | cons (i : Nat) (v v' : Value) (l l' : List (Nat × Value)) (h : VR σ D v v') (h2 : PR σ D l l') : PR σ D ((i, v) :: l) ((i, v') :: l')
theorem partsK_inv {β : Type} {r : β} : ∀ {l : List (Nat × Operand)} {c : List (Nat × Value) → Option β}, partsK P env H l c = some r → ∃ ps, c ps = some r ∧ ∀ σ D ρ, Rels (ev1 P env H) σ D ρ → PR σ D ps (l.map fun p => (p.1, ρ p.2))
  | [], c, h => ⟨[], h, fun _ _ _ _ => .nil⟩
  | (i, x) :: l, c, h => by
    unfold partsK at h
    split at h
    · rename_i v hv
      obtain ⟨ps, h1, h2⟩ := partsK_inv h
      exact ⟨_, h1, fun σ D ρ hr => .cons _ _ _ _ _ (hr x v hv) (h2 σ D ρ hr)⟩
    · cases h
theorem foldl_set (off : Nat) : ∀ (l : List Value) (k : Nat) (A : Array Value), off + k + l.length ≤ A.size → ((l.zipIdx k).foldl (fun cs p => cs.setIfInBounds (off + p.2) p.1) A).size = A.size ∧ ∀ j, ((l.zipIdx k).foldl (fun cs p => cs.setIfInBounds (off + p.2) p.1) A)[j]? = if off + k ≤ j ∧ j < off + k + l.length then l[j - (off + k)]? else A[j]?
  | [], k, A, _ => ⟨rfl, fun j => by rw [if_neg (by simp)]; rfl⟩
  | v :: l, k, A, h => by
    simp only [List.length_cons] at h
    obtain ⟨h1, h2⟩ := foldl_set off l (k + 1) (A.setIfInBounds (off + k) v) (by simp; omega)
    rw [List.zipIdx_cons, List.foldl_cons]
    refine ⟨by rw [h1]; simp, fun j => ?_⟩
    rw [h2]
    simp only [List.length_cons]
    by_cases e : j = off + k
    · subst e
      rw [if_neg (by omega), if_pos (by omega), Nat.sub_self, Array.getElem?_setIfInBounds_self_of_lt (by omega)]
      rfl
    · by_cases e2 : off + (k + 1) ≤ j ∧ j < off + (k + 1) + l.length
      · rw [if_pos e2, if_pos (by omega), show j - (off + k) = (j - (off + (k + 1))) + 1 by omega]
        simp
      · rw [if_neg e2, if_neg (by omega)]
        rw [Array.getElem?_setIfInBounds_ne (fun e' => e e'.symm)]
theorem fillK_inv {β : Type} {r : β} {place : Nat → Option (Nat × Nat)} : ∀ {ps : List (Nat × Value)} {cs : List Value} {c : List Value → Option β}, fillK place ps cs c = some r → ∃ cs', c cs' = some r ∧ cs'.length = cs.length ∧ ∀ σ D (A : Array Value) qs, VRs σ D cs A.toList → PR σ D ps qs → ∃ B : Array Value, Instr.fill place A qs = some B ∧ VRs σ D cs' B.toList
  | [], cs, c, h => ⟨cs, h, rfl, fun σ D A qs hv hp => by cases hp; exact ⟨A, rfl, hv⟩⟩
  | (i, v) :: ps, cs, c, h => by
    unfold fillK at h
    split at h
    · rename_i off size hpl
      split at h
      · rename_i hsz
        obtain ⟨h1, cs2, h2, h3, h4⟩ := putK_inv h
        obtain ⟨cs', h5, h6, h7⟩ := fillK_inv h2
        refine ⟨cs', h5, h6.trans h3, fun σ D A qs hv hp => ?_⟩
        cases hp with
        | cons _ _ v' _ qs' hvv hpp =>
          have hvc := hvv.cells
          rw [Bool.and_eq_true] at hsz
          have hsize : v'.cells.size = size := by rw [cellsL_eq]; simp [hvc.length, Nat.eq_of_beq_eq_true hsz.1]
          have hl' : (cellsL v').length = size := by rw [hvc.length]; exact (Nat.eq_of_beq_eq_true hsz.1).symm
          have hAl : A.size = cs.length := by rw [← Array.length_toList]; exact hv.length
          have hroom : off + size ≤ A.size := by rw [hAl]; exact Nat.le_of_ble_eq_true hsz.2
          obtain ⟨g1, g2⟩ := foldl_set off (cellsL v') 0 A (by omega)
          have hfold : v'.cells.zipIdx.foldl (fun cs (p : Value × Nat) => cs.setIfInBounds (off + p.2) p.1) A = ((cellsL v').zipIdx 0).foldl (fun cs p => cs.setIfInBounds (off + p.2) p.1) A := by
            rw [cellsL_eq, ← Array.foldl_toList]
            simp
          have hv2 : VRs σ D cs2 (((cellsL v').zipIdx 0).foldl (fun cs p => cs.setIfInBounds (off + p.2) p.1) A).toList := by
            refine VRs.of_get (by rw [Array.length_toList, g1, hAl, h3]) fun j x hj => ?_
            rw [Array.getElem?_toList, g2]
            rw [h4] at hj
            have hll := hvc.length
            split at hj
            · rename_i hjj
              rw [if_pos (by omega)]
              obtain ⟨x', q1, q2⟩ := hvc.get hj
              exact ⟨x', by simpa using q1, q2⟩
            · rename_i hjj
              rw [if_neg (by omega)]
              obtain ⟨x', q1, q2⟩ := hv.get hj
              exact ⟨x', by simpa using q1, q2⟩
          obtain ⟨B, q1, q2⟩ := h7 σ D _ qs' hv2 hpp
          refine ⟨B, ?_, q2⟩
          unfold Instr.fill
          simp only [hpl]
          rw [if_neg (by simp [hsize]; omega)]
          rw [← q1]
          congr 1
      · cases h
    · cases h
theorem run_places : ∀ {l : List Field} {r : List (Nat × Nat)}, placesL P l = some r → ∀ w, (l.mapM (fun f => Prod.mk f.offset <$> sizeOf f.type : Field → Sem (Nat × Nat))).run P w = .ok r w
  | [], r, h, w => by simp [placesL] at h; subst h; rfl
  | f :: l, r, h, w => by
    unfold placesL at h
    split at h
    · rename_i n r' h1 h2
      obtain rfl := Option.some.inj h
      have ih := run_places h2 w
      rw [List.mapM_cons]
      simp [run_size h1, ih]
    · cases h
theorem good_build {t : TypeId} {parts : Array (Nat × Operand)} (hop : o.op = .build t parts) (h : buildK P env H t parts c = some r) : ResC P env H o c r .p := by
  unfold buildK at h
  obtain ⟨ps, h1, h2⟩ := partsK_inv h
  split at h1
  · rename_i z place hz hp
    split at h1
    · rename_i hat
      obtain ⟨cs', h3, h4, h5⟩ := fillK_inv h1
      refine ⟨_, h3, fun σ D w ρ hr => ?_⟩
      obtain ⟨B, g1, g2⟩ := h5 σ D z.cells _ (by rw [cellsL_eq]; exact (VR.of_atomV hat).cells) (h2 σ D ρ hr)
      refine ⟨.agg B, ?_, .agg _ _ g2⟩
      have hparts : (parts.map fun (p : Nat × Operand) => (p.1, ρ p.2)).toList = parts.toList.map fun p => (p.1, ρ p.2) := by simp
      simp only [execOp, hop]
      refine run_v ?_
      unfold placesOf at hp
      split at hp
      · rename_i fs hu
        split at hp
        · rename_i l hl
          obtain rfl := Option.some.inj hp
          have hm : (fs.mapM (fun f => Prod.mk f.offset <$> sizeOf f.type : Field → Sem (Nat × Nat))).run P w = .ok l.toArray w := by
            rw [Array.mapM_eq_mapM_toList]
            simp [run_places hl w]
          have hfun : (fun i => l[i]?) = nth l := by funext i; rw [nth_eq]
          simp [Instr.build, run_zero hz, run_underlying hu, hm]
          rw [hfun, g1]
          rfl
        · cases hp
      · rename_i n e hu
        split at hp
        · rename_i sz hs
          obtain rfl := Option.some.inj hp
          simp [Instr.build, run_zero hz, run_underlying hu, run_size hs]
          rw [g1]
          rfl
        · cases hp
      · cases hp
    · cases h1
  · cases h1
/-! ### New rows -/
theorem alloc_res {t : TypeId} {cs : List Value} {i : Option (Nat × Nat)} {f : Addr → Value} (hi : ∀ sz e, i = some (sz, e) → cs.length = e) (h : H.newK ⟨i, .cells t cs⟩ (fun b H => c (f ⟨b, 0, none⟩) H) = some r)
    (hs : ∀ σ D w ρ, Rels (ev1 P env H) σ D ρ → ∃ cs' rest fr v' w', (i = none → rest = []) ∧ VRs σ D cs cs' ∧ (execOp ρ o).run P w = .ok (.value v') w' ∧ Push w w' (cs' ++ rest) t fr ∧
      ∀ (σ' : Ren) (D' : Dom), D' H.next = some i → σ'.blk H.next = w.heap.size → σ'.sh H.next = 0 → σ'.cap H.next = (cs' ++ rest).length → VR σ' D' (f ⟨H.next, 0, none⟩) v') : ResC P env H o c r .a := by
  obtain ⟨H', h1, h2, h3⟩ := AH.newK_inv h
  exact ⟨_, H', i, t, cs, h1, h2, h3, hi, hs⟩
theorem ptr_new {σ' : Ren} {D' : Dom} {id : Nat} {n : Nat} {i : Option (Nat × Nat)} (h1 : D' id = some i) (h2 : σ'.blk id = n) (h3 : σ'.sh id = 0) : VR σ' D' (.pointer (some ⟨id, 0, none⟩)) (.pointer (some ⟨n, 0, none⟩)) := by
  have := VR.ptr (σ := σ') (D := D') ⟨id, 0, none⟩ i h1 rfl
  unfold Ren.addr at this
  simp only [h2, h3] at this
  exact this
theorem slice_new {σ' : Ren} {D' : Dom} {id n k m : Nat} {i : Option (Nat × Nat)} (h1 : D' id = some i) (h2 : σ'.blk id = n) (h3 : σ'.sh id = 0) : VR σ' D' (.slice (some ⟨id, 0, none⟩) k m) (.slice (some ⟨n, 0, none⟩) k m) := by
  have := VR.slice (σ := σ') (D := D') ⟨id, 0, none⟩ k m i h1 rfl
  unfold Ren.addr at this
  simp only [h2, h3] at this
  exact this
theorem gd_alloc {t : TypeId} (hop : o.op = .alloc t) (h : allocK P H t c = some r) : ResC P env H o c r .a := by
  unfold allocK at h
  split at h
  · rename_i z hz
    split at h
    · rename_i hat
      refine alloc_res (f := fun a => .pointer (some a)) (by simp) h fun σ D w ρ hr => ⟨cellsL z, [], (0, 0), .pointer (some ⟨w.heap.size, 0, none⟩), _, fun _ => rfl, (VR.of_atomV hat).cells, ?_, by rw [List.append_nil]; exact Push.plain w _ t, fun σ' D' h1 h2 h3 _ => ptr_new h1 h2 h3⟩
      simp only [execOp, hop]
      show (do pure (.value (← Instr.alloc t true (.tuple #[]))) : Sem Next).run P w = _
      simp [Instr.alloc, run_zero hz, newVar, newRow, newObj, cellsL_eq, Sem.run]
    · cases h
  · cases h
theorem good_box {t : TypeId} {x : Operand} (hop : o.op = .box t x) (h : boxK P env H t x c = some r) : ResC P env H o c r .a := by
  unfold boxK at h
  split at h
  · rename_i v hv
    refine alloc_res (f := fun a => .pointer (some a)) (by simp) h fun σ D w ρ hr => ⟨cellsL (ρ x), [], (0, 0), .pointer (some ⟨w.heap.size, 0, none⟩), _, fun _ => rfl, (hr x v hv).cells, ?_, by rw [List.append_nil]; exact Push.plain w _ t, fun σ' D' h1 h2 h3 _ => ptr_new h1 h2 h3⟩
    simp only [execOp, hop]
    show (do pure (.value (← Instr.box t (ρ x))) : Sem Next).run P w = _
    simp [Instr.box, newVar, newRow, newObj, cellsL_eq, Sem.run]
  · cases h
theorem repL_length (z : List Value) : ∀ n, (repL n z).length = n * z.length
  | 0 => by simp [repL]
  | n + 1 => by simp [repL, repL_length z n, Nat.succ_mul, Nat.add_comm]
theorem repL_get (z : List Value) : ∀ (n j : Nat), j < n * z.length → (repL n z)[j]? = z[j % z.length]?
  | 0, j, h => by simp at h
  | n + 1, j, h => by
    unfold repL
    rw [List.getElem?_append]
    by_cases hj : j < z.length
    · rw [if_pos hj, Nat.mod_eq_of_lt hj]
    · rw [if_neg hj, repL_get z n (j - z.length) (by rw [Nat.succ_mul] at h; omega)]
      rw [Nat.mod_eq_sub_mod (Nat.le_of_not_lt hj)]
theorem repL_array (z : List Value) (n : Nat) : ((Array.range (n * z.length)).map (fun j => (z.toArray)[j % z.toArray.size]!)) = (repL n z).toArray := by
  apply Array.ext'
  apply List.ext_getElem?
  intro j
  simp only [Array.toList_map, Array.toList_range, List.getElem?_map, List.size_toArray]
  by_cases hj : j < n * z.length
  · rw [repL_get z n j hj]
    have hz : 0 < z.length := by
      rcases Nat.eq_zero_or_pos z.length with e | e
      · rw [e] at hj; simp at hj
      · exact e
    have hlt : j % z.length < z.length := Nat.mod_lt _ hz
    rw [List.getElem?_range hj]
    simp [hlt]
  · rw [List.getElem?_eq_none (by simp; omega), List.getElem?_eq_none (by rw [repL_length]; omega)]
    rfl
theorem VRs.rep {σ : Ren} {D : Dom} {z z' : List Value} (h : VRs σ D z z') : ∀ n, VRs σ D (repL n z) (repL n z')
  | 0 => .nil
  | n + 1 => h.append (VRs.rep h n)
theorem good_buildSlice {t : TypeId} {n : Nat} {parts : Array (Nat × Operand)} (hop : o.op = .buildSlice t n parts) (h : buildSliceK P env H t n parts c = some r) : ResC P env H o c r .a := by
  unfold buildSliceK at h
  obtain ⟨ps, h1, h2⟩ := partsK_inv h
  split at h1
  · rename_i e hu
    split at h1
    · rename_i sz z hs hz
      split at h1
      · rename_i hchk
        rw [Bool.and_eq_true, Bool.and_eq_true] at hchk
        obtain ⟨hat, hlen, hle⟩ := hchk
        have hlen' := Nat.eq_of_beq_eq_true hlen
        have hle' := Nat.le_of_ble_eq_true hle
        obtain ⟨cs', h3, h4, h5⟩ := fillK_inv h1
        refine alloc_res (f := fun a => .slice (some a) n n) (by simp) h3 fun σ D w ρ hr => ?_
        obtain ⟨B, g1, g2⟩ := h5 σ D (repL n (cellsL z)).toArray _ (VRs.rep (VR.of_atomV hat).cells n) (h2 σ D ρ hr)
        refine ⟨B.toList, [], (0, 0), .slice (some ⟨w.heap.size, 0, none⟩) n n, _, fun _ => rfl, g2, ?_, by rw [List.append_nil]; exact Push.plain w _ e, fun σ' D' q1 q2 q3 _ => slice_new q1 q2 q3⟩
        have hle2 : ¬ n * sz > 2 ^ 24 := by omega
        simp only [execOp, hop]
        show (do pure (.value (← Instr.buildSlice t n _)) : Sem Next).run P w = _
        simp [Instr.buildSlice, run_underlying hu, run_size hs, hle2]
        have fin : ((match some B with | some cells => (fun a => Value.slice (some a) n n) <$> newRow e cells | _ => stuck "buildSlice: a part of the wrong size" : Sem Value).run P w).andThen (fun a w' => Result.ok (Next.value a) w') = Result.ok (Next.value (.slice (some ⟨w.heap.size, 0, none⟩) n n)) { w with heap := w.heap.push (.cells B e (0, 0)) } := by
          simp [newRow, newObj, Sem.run]
        by_cases h0 : n * sz = 0
        · have e0 : (Array.range (n * sz)).map (fun _ => (default : Value)) = (repL n (cellsL z)).toArray := by
            have : repL n (cellsL z) = [] := List.length_eq_zero_iff.1 (by rw [repL_length, hlen', h0])
            rw [this, h0]
            simp
          rw [if_pos h0, e0, g1]
          exact fin
        · rw [if_neg h0, run_zero hz]
          simp only [Result.andThen_ok]
          have e1 : (Array.range (n * sz)).map (fun x => z.cells[x % z.cells.size]!) = (repL n (cellsL z)).toArray := by
            rw [cellsL_eq, ← hlen']
            exact repL_array (cellsL z) n
          rw [e1, g1]
          exact fin
      · cases h1
    · cases h1
  · cases h1
end
end Go.Proofs.YtdcbnkimjhefkaaGreatDoor

namespace Go.Proofs.YtdcbnkimjhefkaaGreatDoor
section
variable {P : Program} {env : Env} {H : AH} {β : Type} {o : Oper} {c : Value → AH → Option β} {r : β}
theorem good_load {t : TypeId} {x : Operand} (hop : o.op = .load t x) (h : ld1K P env H t x c = some r) : ResC P env H o c r .l := by
  unfold ld1K at h
  split at h
  · rename_i v hv
    unfold loadK at h
    split at h
    · rename_i b off
      split at h
      · rename_i i T cs hb
        split at h
        · rename_i n h1 h2
          obtain ⟨h3, h4⟩ := rowK_inv h
          refine ⟨_, h4, .inr ⟨b, i, T, cs, hb, fun σ D ρ hr => ?_⟩⟩
          obtain ⟨hd, hx⟩ := (hr x _ hv).ptr_inv
          refine ⟨hd, fun _ w C T fr q1 q2 => ?_⟩
          obtain ⟨row, g1, g2⟩ := Row.cells (P := P) q1 q2 h3
          refine ⟨.agg ⟨row⟩, ?_, .agg _ _ g2⟩
          simp [execOp, hop, hx, Instr.loadAt, Instr.sureAddr, loadVar, run_isAgg h1, run_size h2, g1]
        · rename_i h1
          split at h
          · rename_i u hu
            rw [nth_eq] at hu
            refine ⟨_, h, .inr ⟨b, i, T, cs, hb, fun σ D ρ hr => ?_⟩⟩
            obtain ⟨hd, hx⟩ := (hr x _ hv).ptr_inv
            refine ⟨hd, fun _ w C T fr q1 q2 => ?_⟩
            obtain ⟨u', g1, g2⟩ := Row.at q1 q2 hu
            refine ⟨u', ?_, g2⟩
            simp [execOp, hop, hx, Instr.loadAt, Instr.sureAddr, loadVar, run_isAgg h1, load, Sem.run, g1]
          · cases h
        · cases h
      · cases h
    · cases h
  · cases h
/-- Cells are written. -/
theorem storeRow_inv {b o2 : Nat} {row : List Value} {c : AH → Option β} {r : β} (hok : AH.ok P H) (h : storeRow b o2 row H c = some r) : ∃ H' i t cs cs2, c H' = some r ∧ AH.ok P H' ∧ H'.next = H.next ∧ H.get b = some ⟨i, .cells t cs⟩ ∧ H'.get = Hp.set H.get b ⟨i, .cells t cs2⟩ ∧ (row = [] ∨ o2 + row.length ≤ cs.length) ∧ cs2.length = cs.length ∧
    (∀ j : Nat, cs2[j]? = if o2 ≤ j ∧ j < o2 + row.length then row[j - o2]? else cs[j]?) ∧ ones row = true ∧ ∀ e, i ≠ some (0, e) := by
  unfold storeRow at h
  split at h
  · rename_i i t cs hb ho
    split at h
    · cases h
    · rename_i hro
      obtain ⟨h1, cs2, h2, h3, h4⟩ := putK_inv h
      obtain ⟨H', h5, h6, h7⟩ := AH.setK_inv h2
      exact ⟨H', i, t, cs, cs2, h5, AH.ok_set hok hb h6 h7, h6, hb, h7, h1, h3, h4, ho, roB_false hro⟩
  · cases h
theorem Sim.write {σ : Ren} {h : Hp} {w : World} (s : Sim P σ h w) {b o2 : Nat} {i : Option (Nat × Nat)} {t : TypeId} {cs cs2 row row' : List Value} (hro : ∀ e, i ≠ some (0, e)) (hb : h b = some ⟨i, .cells t cs⟩) (hr : row = [] ∨ o2 + row.length ≤ cs.length) (hl : cs2.length = cs.length)
    (hg : ∀ j : Nat, cs2[j]? = if o2 ≤ j ∧ j < o2 + row.length then row[j - o2]? else cs[j]?) (ho : ones row = true) (hv : VRs σ h.dom row row') :
    ∃ w', (storeCells ⟨σ.blk b, σ.sh b + o2, none⟩ row').run P w = .ok () w' ∧ Sim P σ (h.set b ⟨i, .cells t cs2⟩) w' ∧ Fwd σ h w σ (h.set b ⟨i, .cells t cs2⟩) w' := by
  obtain ⟨h1, h2⟩ := s.put hro hb hr hv hl hg
  refine ⟨_, ?_, h1, h2⟩
  have hrl := hv.length
  have hlt : ∀ j, j < row'.length → o2 + j < cs.length := fun j hj => by
    rcases hr with rfl | hr
    · rw [List.length_nil] at hrl; omega
    · omega
  have := run_storeCells_cells (P := P) (σ.blk b) (σ.sh b + o2) row' 0 w (fun j hj => by
      obtain ⟨v', g1, _⟩ := s.cell hb (List.getElem?_eq_getElem (hlt j hj))
      rw [show σ.sh b + o2 + 0 + j = σ.sh b + (o2 + j) by omega, g1]; rfl) (fun j hj => by
      rw [show σ.sh b + o2 + 0 + j = σ.sh b + (o2 + j) by omega]
      exact s.unfrozen hro hb (hlt j hj)) (ones_vr hv ho)
  simpa using this
theorem good_store (hok : AH.ok P H) {t : TypeId} {x y : Operand} (hop : o.op = .store t x y) (h : st1K P env H t x y c = some r) : ResC P env H o c r .w := by
  unfold st1K at h
  split at h
  · rename_i v u hv hu
    unfold storeK at h
    split at h
    · rename_i b off
      split at h
      · rename_i n hn
        split at h
        · rename_i hl
          obtain ⟨H', i, T, cs, cs2, h1, h2, h3, h4, h5, h6, h7, h8, h9, hro⟩ := storeRow_inv hok h
          refine ⟨_, H', h1, h2, by omega, fun σ w ρ hS hr => ?_⟩
          obtain ⟨_, hx⟩ := (hr x _ hv).ptr_inv
          have hy := (hr y _ hu)
          obtain ⟨w', g1, g2, g3⟩ := hS.write hro h4 h6 h7 h8 h9 hy.cells
          have hlen : (ρ y).cells.size = n := by rw [cellsL_eq]; simp [hy.cells.length, Nat.eq_of_beq_eq_true hl]
          unfold OpOk
          have : (execOp ρ o).run P w = .ok .skip w' := by
            simp only [execOp, hop, hx, Instr.storeAt, Instr.sureAddr, storeVar]
            have hlen' : (cellsL (ρ y)).length = n := by rw [cellsL_eq] at hlen; simpa using hlen
            simp [run_size hn, cellsL_eq, hlen', g1]
          rw [this]
          exact ⟨σ, by rw [h5]; exact g2, by rw [h5]; exact g3, .tuple _ _ .nil⟩
        · cases h
      · cases h
    · cases h
  · cases h
end
end Go.Proofs.YtdcbnkimjhefkaaGreatDoor

namespace Go.Proofs.YtdcbnkimjhefkaaGreatDoor
section
variable {P : Program} {env : Env} {H : AH} {β : Type} {o : Oper} {c : Value → AH → Option β} {r : β}
theorem bytesV_inv : ∀ {l : List Value} {r : List UInt8}, bytesV l = some r → ∃ ns : List Int, l = ns.map (Value.int .u8) ∧ r = ns.map fun n => UInt8.ofNat n.toNat
  | [], r, h => by simp [bytesV] at h; subst h; exact ⟨[], rfl, rfl⟩
  | v :: l, r, h => by
    unfold bytesV at h
    split at h
    · rename_i hh; cases hh
    · rename_i n l2 hh
      rw [List.cons.injEq] at hh
      obtain ⟨rfl, rfl⟩ := hh
      split at h
      · rename_i r' hr
        obtain rfl := Option.some.inj h
        obtain ⟨ns, h1, h2⟩ := bytesV_inv hr
        exact ⟨n :: ns, by rw [h1]; rfl, by rw [h2]; rfl⟩
      · cases h
    · cases h
theorem push_fold : ∀ (ns : List Int) (s : ByteArray), ns.foldl (fun r n => r.push (UInt8.ofNat n.toNat)) s = ⟨⟨s.data.toList ++ ns.map fun n => UInt8.ofNat n.toNat⟩⟩
  | [], s => by simp
  | n :: ns, s => by
    rw [List.foldl_cons, push_fold ns]
    simp [ByteArray.push]
theorem atoms_u8 : ∀ (ns : List Int), atoms0 (ns.map (Value.int .u8)) = true
  | [] => rfl
  | n :: ns => by unfold atoms0; simp only [List.map_cons, atom0]; exact atoms_u8 ns
theorem good_convB {src dst e : TypeId} {x : Operand} (hop : o.op = .convert src dst x) (hs : P.underlying src = some (.slice e)) (hd : P.underlying dst = some .string) {v : Value} (hv : ev1 P env H x = some v) (h : convBK P e v H c = some r) : ResC P env H o c r .l := by
  unfold convBK at h
  split at h
  · rename_i n m he
    refine ⟨_, h, .inl fun σ D w ρ hr => ⟨.string ⟨⟨[]⟩⟩, ?_, .string _⟩⟩
    have hx := hr x _ hv
    cases hρ : ρ x with
    | slice a n2 m2 =>
      rw [hρ] at hx
      cases hx
      simp only [execOp, hop, hρ]
      refine run_v ?_
      simp [convert, run_underlying hs, run_underlying hd, run_underlying he, Conv.bytesToString]
      rfl
    | _ => rw [hρ] at hx; cases hx
  · rename_i b off n m he
    split at h
    · rename_i i T cs hb
      obtain ⟨h1, h2⟩ := rowK_inv h
      split at h2
      · rename_i l hl
        rw [bytesK_eq] at h2
        obtain ⟨ns, e1, e2⟩ := bytesV_inv hl
        refine ⟨_, h2, .inr ⟨b, i, T, cs, hb, fun σ D ρ hr => ?_⟩⟩
        obtain ⟨z, m', q1, q2, hx, _⟩ := (hr x _ hv).slice_inv
        refine ⟨by rw [q1]; simp, fun _ w C T fr q3 q4 => ⟨.string ⟨⟨l⟩⟩, ?_, .string _⟩⟩
        obtain ⟨row, g1, g2⟩ := Row.cells (P := P) q3 q4 h1
        rw [e1] at g2
        have := g2.atoms0 (atoms_u8 ns)
        subst this
        simp only [execOp, hop, hx]
        refine run_v ?_
        simp [convert, run_underlying hs, run_underlying hd, run_underlying he]
        rw [run_bytesToString w _ n m' ns g1, push_fold, e2]
        rfl
      · cases h2
    · cases h
  · cases h
theorem good_convP {src dst : TypeId} {x : Operand} (hop : o.op = .convert src dst x) {v : Value} (hv : ev1 P env H x = some v) (hat : atomV v = true) (h : pureK P (convert src dst v) H c = some r) : ResC P env H o c r .p :=
  res_pure h fun σ D ρ hr => by simp only [execOp, hop, show ρ x = v from (hr x v hv).atomV hat]
theorem good_convS {src dst e : TypeId} {x : Operand} (hop : o.op = .convert src dst x) (hs : P.underlying src = some .string) (hd : P.underlying dst = some (.slice e)) {v : Value} (hv : ev1 P env H x = some v) (h : convSK P e v H c = some r) : ResC P env H o c r .a := by
  unfold convSK at h
  split at h
  · rename_i s he
    rw [natK_eq, vals0K_eq] at h
    obtain ⟨H', h1, h2, h3⟩ := AH.newK_inv h
    refine ⟨_, H', _, _, _, h1, h2, h3, fun sz e' hie => ?_, fun σ D w ρ hr => ?_⟩
    · simp only [Option.some.injEq, Prod.mk.injEq] at hie
      rw [← hie.2]
      simp
    · have hx := (hr x _ hv).str_inv
      have hg := grownCap_ge w s.size 0 e
      have hl : (s.data.toList.map fun b => Value.int .u8 (b.toNat : Int)).length = s.size := by simp
      refine ⟨s.data.toList.map fun b => .int .u8 b.toNat, List.replicate (grownCap w s.size 0 e - s.size) (.int .u8 0), ((bytesRow s (grownCap w s.size 0 e)).size, (bytesRow s (grownCap w s.size 0 e)).size + 1), .slice (some ⟨w.heap.size, 0, none⟩) s.size (grownCap w s.size 0 e), w.drew.alloc (.cells (bytesRow s (grownCap w s.size 0 e)) e ((bytesRow s (grownCap w s.size 0 e)).size, (bytesRow s (grownCap w s.size 0 e)).size + 1)), nofun, ?_, ?_, ⟨?_, ?_, rfl, rfl, rfl⟩, fun σ' D' q1 q2 q3 q4 => ?_⟩
      · have := VRs.of_atoms0 (σ := σ) (D := D) (atoms_u8 (s.data.toList.map fun b => (b.toNat : Int)))
        rw [List.map_map] at this
        exact this
      · simp only [execOp, hop, hx]
        exact run_v2 (run_bytes_of_string w src dst e s hs hd he)
      · show w.heap.push _ = _
        congr 2
        apply Array.ext'
        simp [bytesRow]
      · intro j hj _
        simp only [List.length_append, hl, List.length_replicate]
        have : (bytesRow s (grownCap w s.size 0 e)).size = s.size + (grownCap w s.size 0 e - s.size) := by simp [bytesRow]
        omega
      · have := VR.sliceo (σ := σ') (D := D') ⟨H.next, 0, none⟩ s.size s.size (grownCap w s.size 0 e) 1 s.size q1 rfl (by simp) (by simp only [q4, List.length_append, hl, List.length_replicate]; omega) hg
        unfold Ren.addr at this
        simp only [q2, q3, Nat.zero_add] at this
        exact this
  · cases h
theorem good_conv {src dst : TypeId} {x : Operand} (hop : o.op = .convert src dst x) (h : cv1K P env H src dst x c = some r) : ResC P env H o c r (clsCv (P.underlying src) (P.underlying dst)) := by
  unfold cv1K at h
  split at h
  · rename_i v hv
    unfold convK at h
    split at h
    · rename_i e hs hd
      rw [hs]
      exact good_convB hop hs hd hv h
    · rename_i e hs hd
      rw [hs, hd]
      exact good_convS hop hs hd hv h
    · cases h
    · cases h
    · rename_i h1 h2 h3 h4
      split at h
      · rename_i hat
        have := good_convP hop hv hat h
        unfold clsCv
        split
        · rename_i e hs; exact (h1 _ hs).elim
        · rename_i hs2 hd2; first | exact (h2 _ hd2).elim | exact (h2 _ hs2).elim
        · exact this
      · cases h
  · cases h
/-! ### Append -/
theorem firstK_inv {sz n : Nat} {x : Value} {c : List Value → Option β} {r : β} (h : firstK sz n x H c = some r) (hn : lenK x = some n ∨ ∃ a m, x = .slice a n m) : ∃ row, c row = some r ∧ ∀ σ w x', Sim P σ H.get w → VR σ (Hp.dom H.get) x x' → ∃ row', (Builtin.firstCells sz n x').run P w = .ok ⟨row'⟩ w ∧ VRs σ (Hp.dom H.get) row row' := by
  unfold firstK at h
  split at h
  · refine ⟨[], h, fun σ w x' hS hv => ⟨[], ?_, .nil⟩⟩
    cases hv
    rfl
  · rename_i b off l m
    split at h
    · rename_i i T cs hb
      obtain ⟨h1, h2⟩ := rowK_inv h
      refine ⟨_, h2, fun σ w x' hS hv => ?_⟩
      obtain ⟨z, m', q1, q2, rfl, _⟩ := hv.slice_inv
      obtain ⟨row, g1, g2⟩ := hS.cells hb h1
      exact ⟨row, by simp [Builtin.firstCells, g1], g2⟩
    · cases h
  · rename_i s
    rw [vals0K_eq] at h
    refine ⟨_, h, fun σ w x' hS hv => ⟨(s.data.toList.take n).map fun b => Value.int .u8 (b.toNat : Int), ?_, ?_⟩⟩
    · rw [hv.str_inv]
      have hns : n = s.size := by
        rcases hn with hn | ⟨a, m, hn⟩
        · simp [lenK] at hn; exact hn.symm
        · cases hn
      subst hns
      have hx : s.extract 0 s.size = s := by simp
      have ht : s.data.toList.take s.size = s.data.toList := List.take_of_length_le (Nat.le_refl _)
      rw [ht]
      simp only [Builtin.firstCells, hx]
      show Result.ok _ w = _
      congr 1
      apply Array.ext'
      simp
    · have := VRs.of_atoms0 (σ := σ) (D := Hp.dom H.get) (atoms_u8 ((s.data.toList.take n).map fun b => (b.toNat : Int)))
      rw [List.map_map] at this
      exact this
  · cases h
/-- What an append asks of its types. -/
structure AppT (P : Program) (ts : Array TypeId) (t u e : TypeId) (i : TypeInfo) (z : Value) : Prop where
  t0 : ts[0]? = some t
  t1 : ts[1]? = some u
  st : P.underlying t = some (.slice e)
  xt : plainArg (P.underlying u) = true
  info : P.info? e = some i
  zero : i.zero = some z
theorem run_app_room {ts : Array TypeId} {ty t u e : TypeId} {i : TypeInfo} {z : Value} (T : AppT P ts t u e i z) {w : World} {a : Addr} {sLen sCap n : Nat} {x : Value} (hn : (Builtin.lenOf x).run P w = .ok n w) {news : List Value} (hx : (Builtin.firstCells i.size n x).run P w = .ok ⟨news⟩ w) (hroom : sLen + n ≤ sCap) {w' : World} (hst : (storeCells (a.add (sLen * i.size)) news).run P w = .ok () w') :
    (Builtin.append_ ts ty #[.slice (some a) sLen sCap, x]).run P w = .ok (.slice (some a) (sLen + n) sCap) w' := by
  have hu := T.xt
  unfold plainArg at hu
  split at hu
  · rename_i e' hu'
    simp [Builtin.append_, T.t0, T.t1, run_underlying T.st, run_underlying hu', sizeOf, typeInfo, T.info, hn, hroom, hx, hst]
  · rename_i hu'
    simp [Builtin.append_, T.t0, T.t1, run_underlying T.st, run_underlying hu', sizeOf, typeInfo, T.info, hn, hroom, hx, hst]
  · cases hu
theorem run_app_grow {ts : Array TypeId} {ty t u e : TypeId} {i : TypeInfo} {z : Value} (T : AppT P ts t u e i z) {w : World} {a : Option Addr} {sLen sCap n : Nat} {x : Value} (hn : (Builtin.lenOf x).run P w = .ok n w) {olds news : List Value} (ho : (Builtin.firstCells i.size sLen (.slice a sLen sCap)).run P w.drew = .ok ⟨olds⟩ w.drew) (hx : (Builtin.firstCells i.size n x).run P w.drew = .ok ⟨news⟩ w.drew)
    (hroom : ¬ sLen + n ≤ sCap) (h63 : sLen + n ≤ 16777216) (hb : i.bytes ≤ 1048576) :
    ∃ cap rest, sLen + n ≤ cap ∧ rest.length = (cap - (sLen + n)) * z.cells.size ∧ (Builtin.append_ ts ty #[.slice a sLen sCap, x]).run P w = .ok (.slice (some ⟨w.heap.size, 0, none⟩) (sLen + n) cap) { w with heap := w.heap.push (.cells (olds ++ news ++ rest).toArray e (0, 0)), drawn := w.drawn + 1 } := by
  have h63' : ¬ (9223372036854775807 < ((sLen : Int) + (n : Int))) := by omega
  have hbb : (sLen + n) * i.bytes ≤ 140737488355328 := Nat.le_trans (Nat.mul_le_mul h63 hb) (by decide)
  have h48 := growslice_fits (old := sCap) (need := sLen + n) (bytes := i.bytes) (by omega) hbb
  have h48' : ¬ (281474976710656 < Builtin.nextslicecap (sLen + n) sCap * i.bytes) := by omega
  refine ⟨grownCap w (sLen + n) sCap e, (Builtin.zeroCells z.cells (grownCap w (sLen + n) sCap e - (sLen + n))).toList, grownCap_ge w _ _ e, by rw [Array.length_toList, size_zeroCells], ?_⟩
  have hu := T.xt
  unfold plainArg at hu
  split at hu
  · rename_i e' hu'
    simp [Builtin.append_, T.t0, T.t1, run_underlying T.st, run_underlying hu', sizeOf, typeInfo, zeroValue, T.info, T.zero, hn, hroom, h63', h48', Question.forced, ho, hx, newRow, grownCap]
    generalize Builtin.zeroCells z.cells _ = Z
    have earr : (⟨olds⟩ : Array Value) ++ (⟨news⟩ ++ Z) = (olds ++ (news ++ Z.toList)).toArray := by
      apply Array.ext'
      simp
    rw [earr]
    rfl
  · rename_i hu'
    simp [Builtin.append_, T.t0, T.t1, run_underlying T.st, run_underlying hu', sizeOf, typeInfo, zeroValue, T.info, T.zero, hn, hroom, h63', h48', Question.forced, ho, hx, newRow, grownCap]
    generalize Builtin.zeroCells z.cells _ = Z
    have earr : (⟨olds⟩ : Array Value) ++ (⟨news⟩ ++ Z) = (olds ++ (news ++ Z.toList)).toArray := by
      apply Array.ext'
      simp
    rw [earr]
    rfl
  · cases hu
end
end Go.Proofs.YtdcbnkimjhefkaaGreatDoor

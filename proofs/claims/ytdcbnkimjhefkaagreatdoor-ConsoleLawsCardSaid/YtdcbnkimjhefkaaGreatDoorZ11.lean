/-
  Lengths, closures, structs that are built.
-/
import Derived.Test.YtdcbnkimjhefkaaGreatDoorZ10
namespace Go.Proofs.YtdcbnkimjhefkaaGreatDoor
section
variable {P : Program} {env : Env} {H : AH} {β : Type} {o : Oper} {c : Value → AH → Option β} {r : β}
theorem evs_vr {σ : Ren} {D : Dom} {ρ : Operand → Value} (hr : Rels (ev1 P env H) σ D ρ) : ∀ {l : List Operand} {vs : List Value}, l.map (ev1 P env H) = vs.map some → VRs σ D vs (l.map ρ)
  | [], [], _ => .nil
  | [], _ :: _, h => by simp at h
  | _ :: _, [], h => by simp at h
  | x :: l, v :: vs, h => by
    simp only [List.map_cons, List.cons.injEq] at h
    exact .cons _ _ _ _ (hr x v h.1) (evs_vr hr h.2)
def constsOf (args : Array Operand) : Array Bool := args.map fun | .const _ => true | _ => false
theorem exec_builtin {b : Builtin} {args : Array Operand} {ts : Array TypeId} (hop : o.op = .call ⟨.builtin b, args, ts⟩) (ρ : Operand → Value) : execOp ρ o = builtin b ts o.type (constsOf args) (args.map ρ) := by
  simp only [execOp, hop, resolve]
  rfl
theorem good_len {args : Array Operand} {ts : Array TypeId} (hop : o.op = .call ⟨.builtin .len, args, ts⟩) {vs : List Value} (hvs : args.toList.map (ev1 P env H) = vs.map some) (h : len1K P ts.toList vs H c = some r) : ResC P env H o c r .p := by
  unfold len1K at h
  split at h
  · rename_i t tl v hts
    split at h
    · rename_i n hn
      rw [natK_eq] at h
      refine ⟨_, h, fun σ D w ρ hr => ⟨.int .i64 (Int.ofNat n), ?_, .int _ _⟩⟩
      have hv := evs_vr hr hvs
      have ht : ts[0]? = some t := by rw [← Array.getElem?_toList, hts]; rfl
      have hargs : ∃ u, args.map ρ = #[u] ∧ VR σ D v u := by
        generalize hm : args.toList.map ρ = m at hv
        cases hv with
        | cons _ u _ l' h1 h2 =>
          cases h2
          refine ⟨u, ?_, h1⟩
          apply Array.ext'
          rw [Array.toList_map, hm]
      obtain ⟨u, hu, hvu⟩ := hargs
      rw [exec_builtin hop, hu]
      show (do pure (.value (← Builtin.len_ ts o.type #[u])) : Sem Next).run P w = _
      refine run_v ?_
      unfold lenT at hn
      split at hn
      · rename_i d hd
        obtain rfl := Option.some.inj hn
        cases hvu <;> simp [Builtin.len_, ht, run_underlying hd, goInt]
      · rename_i hd
        obtain rfl := Option.some.inj hn
        cases hvu; simp [Builtin.len_, ht, run_underlying hd, goInt]
      · rename_i m d hd
        obtain rfl := Option.some.inj hn
        simp [Builtin.len_, ht, run_underlying hd, goInt]
      · cases hn
    · cases h
  · cases h
theorem good_min {b : Builtin} {args : Array Operand} {ts : Array TypeId} (hop : o.op = .call ⟨.builtin b, args, ts⟩) {s : Array Value → Sem Value} (hb : ∀ as, builtin b ts o.type (constsOf args) as = (do pure (.value (← s as)))) {vs : List Value} (hvs : args.toList.map (ev1 P env H) = vs.map some) (h : minK P (s ⟨vs⟩) vs H c = some r) : ResC P env H o c r .p := by
  unfold minK at h
  split at h
  · rename_i hat
    refine res_pure h fun σ D ρ hr => ?_
    have hv := (evs_vr hr hvs).atoms0 hat
    have : args.map ρ = ⟨vs⟩ := by
      apply Array.ext'
      rw [Array.toList_map, hv]
    rw [exec_builtin hop, this, hb]
  · cases h
theorem good_makeFunc {fn : Fn} {first captured : Array Operand} (hop : o.op = .makeFunc fn first captured) (h : makeFuncK P env H fn first captured c = some r) : ResC P env H o c r .p := by
  unfold makeFuncK at h
  split at h
  · rename_i f
    obtain ⟨a, h1, ha⟩ := evsK_inv h
    obtain ⟨b, h2, hb⟩ := evsK_inv h1
    refine ⟨_, h2, fun σ D w ρ hr => ⟨.func (.func f) ⟨first.toList.map ρ⟩ ⟨captured.toList.map ρ⟩, ?_, .func _ _ _ _ _ (evs_vr hr ha) (evs_vr hr hb)⟩⟩
    have e1 : first.map ρ = ⟨first.toList.map ρ⟩ := by apply Array.ext'; simp
    have e2 : captured.map ρ = ⟨captured.toList.map ρ⟩ := by apply Array.ext'; simp
    simp only [execOp, hop, Instr.makeFunc, e1, e2]
    rfl
  · cases h
/-! ### Structs and arrays that are built -/
inductive PR (σ : Ren) (D : Dom) : List (Nat × Value) → List (Nat × Value) → Prop
  | nil : PR σ D [] []
  | cons (i : Nat) (v v' : Value) (l l' : List (Nat × Value)) (h : VR σ D v v') (h2 : PR σ D l l') : PR σ D ((i, v) :: l) ((i, v') :: l')
theorem partsK_inv {β : Type} {r : β} : ∀ {l : List (Nat × Operand)} {c : List (Nat × Value) → Option β}, partsK P env H l c = some r → ∃ ps, c ps = some r ∧ ∀ σ D ρ, Rels (ev1 P env H) σ D ρ → PR σ D ps (l.map fun p => (p.1, ρ p.2))
  | [], c, h => ⟨[], h, fun _ _ _ _ => .nil⟩
  | (i, x) :: l, c, h => by
    unfold partsK at h
    split at h
    · rename_i v hv
      obtain ⟨ps, h1, h2⟩ := partsK_inv h
      exact ⟨_, h1, fun σ D ρ hr => .cons _ _ _ _ _ (hr x v hv) (h2 σ D ρ hr)⟩
    · cases h
theorem foldl_set (off : Nat) : ∀ (l : List Value) (k : Nat) (A : Array Value), off + k + l.length ≤ A.size → ((l.zipIdx k).foldl (fun cs p => cs.setIfInBounds (off + p.2) p.1) A).size = A.size ∧ ∀ j, ((l.zipIdx k).foldl (fun cs p => cs.setIfInBounds (off + p.2) p.1) A)[j]? = if off + k ≤ j ∧ j < off + k + l.length then l[j - (off + k)]? else A[j]?
  | [], k, A, _ => ⟨rfl, fun j => by rw [if_neg (by simp)]; rfl⟩
  | v :: l, k, A, h => by
    simp only [List.length_cons] at h
    obtain ⟨h1, h2⟩ := foldl_set off l (k + 1) (A.setIfInBounds (off + k) v) (by simp; omega)
    rw [List.zipIdx_cons, List.foldl_cons]
    refine ⟨by rw [h1]; simp, fun j => ?_⟩
    rw [h2]
    simp only [List.length_cons]
    by_cases e : j = off + k
    · subst e
      rw [if_neg (by omega), if_pos (by omega), Nat.sub_self, Array.getElem?_setIfInBounds_self_of_lt (by omega)]
      rfl
    · by_cases e2 : off + (k + 1) ≤ j ∧ j < off + (k + 1) + l.length
      · rw [if_pos e2, if_pos (by omega), show j - (off + k) = (j - (off + (k + 1))) + 1 by omega]
        simp
      · rw [if_neg e2, if_neg (by omega)]
        rw [Array.getElem?_setIfInBounds_ne (fun e' => e e'.symm)]
theorem fillK_inv {β : Type} {r : β} {place : Nat → Option (Nat × Nat)} : ∀ {ps : List (Nat × Value)} {cs : List Value} {c : List Value → Option β}, fillK place ps cs c = some r → ∃ cs', c cs' = some r ∧ cs'.length = cs.length ∧ ∀ σ D (A : Array Value) qs, VRs σ D cs A.toList → PR σ D ps qs → ∃ B : Array Value, Instr.fill place A qs = some B ∧ VRs σ D cs' B.toList
  | [], cs, c, h => ⟨cs, h, rfl, fun σ D A qs hv hp => by cases hp; exact ⟨A, rfl, hv⟩⟩
  | (i, v) :: ps, cs, c, h => by
    unfold fillK at h
    split at h
    · rename_i off size hpl
      split at h
      · rename_i hsz
        obtain ⟨h1, cs2, h2, h3, h4⟩ := putK_inv h
        obtain ⟨cs', h5, h6, h7⟩ := fillK_inv h2
        refine ⟨cs', h5, h6.trans h3, fun σ D A qs hv hp => ?_⟩
        cases hp with
        | cons _ _ v' _ qs' hvv hpp =>
          have hvc := hvv.cells
          rw [Bool.and_eq_true] at hsz
          have hsize : v'.cells.size = size := by rw [cellsL_eq]; simp [hvc.length, Nat.eq_of_beq_eq_true hsz.1]
          have hl' : (cellsL v').length = size := by rw [hvc.length]; exact (Nat.eq_of_beq_eq_true hsz.1).symm
          have hAl : A.size = cs.length := by rw [← Array.length_toList]; exact hv.length
          have hroom : off + size ≤ A.size := by rw [hAl]; exact Nat.le_of_ble_eq_true hsz.2
          obtain ⟨g1, g2⟩ := foldl_set off (cellsL v') 0 A (by omega)
          have hfold : v'.cells.zipIdx.foldl (fun cs (p : Value × Nat) => cs.setIfInBounds (off + p.2) p.1) A = ((cellsL v').zipIdx 0).foldl (fun cs p => cs.setIfInBounds (off + p.2) p.1) A := by
            rw [cellsL_eq, ← Array.foldl_toList]
            simp
          have hv2 : VRs σ D cs2 (((cellsL v').zipIdx 0).foldl (fun cs p => cs.setIfInBounds (off + p.2) p.1) A).toList := by
            refine VRs.of_get (by rw [Array.length_toList, g1, hAl, h3]) fun j x hj => ?_
            rw [Array.getElem?_toList, g2]
            rw [h4] at hj
            have hll := hvc.length
            split at hj
            · rename_i hjj
              rw [if_pos (by omega)]
              obtain ⟨x', q1, q2⟩ := hvc.get hj
              exact ⟨x', by simpa using q1, q2⟩
            · rename_i hjj
              rw [if_neg (by omega)]
              obtain ⟨x', q1, q2⟩ := hv.get hj
              exact ⟨x', by simpa using q1, q2⟩
          obtain ⟨B, q1, q2⟩ := h7 σ D _ qs' hv2 hpp
          refine ⟨B, ?_, q2⟩
          unfold Instr.fill
          simp only [hpl]
          rw [if_neg (by simp [hsize]; omega)]
          rw [← q1]
          congr 1
      · cases h
    · cases h
theorem run_places : ∀ {l : List Field} {r : List (Nat × Nat)}, placesL P l = some r → ∀ w, (l.mapM (fun f => Prod.mk f.offset <$> sizeOf f.type : Field → Sem (Nat × Nat))).run P w = .ok r w
  | [], r, h, w => by simp [placesL] at h; subst h; rfl
  | f :: l, r, h, w => by
    unfold placesL at h
    split at h
    · rename_i n r' h1 h2
      obtain rfl := Option.some.inj h
      have ih := run_places h2 w
      rw [List.mapM_cons]
      simp [run_size h1, ih]
    · cases h
theorem good_build {t : TypeId} {parts : Array (Nat × Operand)} (hop : o.op = .build t parts) (h : buildK P env H t parts c = some r) : ResC P env H o c r .p := by
  unfold buildK at h
  obtain ⟨ps, h1, h2⟩ := partsK_inv h
  split at h1
  · rename_i z place hz hp
    split at h1
    · rename_i hat
      obtain ⟨cs', h3, h4, h5⟩ := fillK_inv h1
      refine ⟨_, h3, fun σ D w ρ hr => ?_⟩
      obtain ⟨B, g1, g2⟩ := h5 σ D z.cells _ (by rw [cellsL_eq]; exact (VR.of_atomV hat).cells) (h2 σ D ρ hr)
      refine ⟨.agg B, ?_, .agg _ _ g2⟩
      have hparts : (parts.map fun (p : Nat × Operand) => (p.1, ρ p.2)).toList = parts.toList.map fun p => (p.1, ρ p.2) := by simp
      simp only [execOp, hop]
      refine run_v ?_
      unfold placesOf at hp
      split at hp
      · rename_i fs hu
        split at hp
        · rename_i l hl
          obtain rfl := Option.some.inj hp
          have hm : (fs.mapM (fun f => Prod.mk f.offset <$> sizeOf f.type : Field → Sem (Nat × Nat))).run P w = .ok l.toArray w := by
            rw [Array.mapM_eq_mapM_toList]
            simp [run_places hl w]
          have hfun : (fun i => l[i]?) = nth l := by funext i; rw [nth_eq]
          simp [Instr.build, run_zero hz, run_underlying hu, hm]
          rw [hfun, g1]
          rfl
        · cases hp
      · rename_i n e hu
        split at hp
        · rename_i sz hs
          obtain rfl := Option.some.inj hp
          simp [Instr.build, run_zero hz, run_underlying hu, run_size hs]
          rw [g1]
          rfl
        · cases hp
      · cases hp
    · cases h1
  · cases h1
/-! ### New rows -/
theorem alloc_res {t : TypeId} {cs : List Value} {i : Option (Nat × Nat)} {f : Addr → Value} (hi : ∀ sz e, i = some (sz, e) → cs.length = e) (h : H.newK ⟨i, .cells t cs⟩ (fun b H => c (f ⟨b, 0, none⟩) H) = some r)
    (hs : ∀ σ D w ρ, Rels (ev1 P env H) σ D ρ → ∃ cs' rest fr v' w', (i = none → rest = []) ∧ VRs σ D cs cs' ∧ (execOp ρ o).run P w = .ok (.value v') w' ∧ Push w w' (cs' ++ rest) t fr ∧
      ∀ (σ' : Ren) (D' : Dom), D' H.next = some i → σ'.blk H.next = w.heap.size → σ'.sh H.next = 0 → σ'.cap H.next = (cs' ++ rest).length → VR σ' D' (f ⟨H.next, 0, none⟩) v') : ResC P env H o c r .a := by
  obtain ⟨H', h1, h2, h3⟩ := AH.newK_inv h
  exact ⟨_, H', i, t, cs, h1, h2, h3, hi, hs⟩
theorem ptr_new {σ' : Ren} {D' : Dom} {id : Nat} {n : Nat} {i : Option (Nat × Nat)} (h1 : D' id = some i) (h2 : σ'.blk id = n) (h3 : σ'.sh id = 0) : VR σ' D' (.pointer (some ⟨id, 0, none⟩)) (.pointer (some ⟨n, 0, none⟩)) := by
  have := VR.ptr (σ := σ') (D := D') ⟨id, 0, none⟩ i h1 rfl
  unfold Ren.addr at this
  simp only [h2, h3] at this
  exact this
theorem slice_new {σ' : Ren} {D' : Dom} {id n k m : Nat} {i : Option (Nat × Nat)} (h1 : D' id = some i) (h2 : σ'.blk id = n) (h3 : σ'.sh id = 0) : VR σ' D' (.slice (some ⟨id, 0, none⟩) k m) (.slice (some ⟨n, 0, none⟩) k m) := by
  have := VR.slice (σ := σ') (D := D') ⟨id, 0, none⟩ k m i h1 rfl
  unfold Ren.addr at this
  simp only [h2, h3] at this
  exact this
theorem gd_alloc {t : TypeId} (hop : o.op = .alloc t) (h : allocK P H t c = some r) : ResC P env H o c r .a := by
  unfold allocK at h
  split at h
  · rename_i z hz
    split at h
    · rename_i hat
      refine alloc_res (f := fun a => .pointer (some a)) (by simp) h fun σ D w ρ hr => ⟨cellsL z, [], (0, 0), .pointer (some ⟨w.heap.size, 0, none⟩), _, fun _ => rfl, (VR.of_atomV hat).cells, ?_, by rw [List.append_nil]; exact Push.plain w _ t, fun σ' D' h1 h2 h3 _ => ptr_new h1 h2 h3⟩
      simp only [execOp, hop]
      show (do pure (.value (← Instr.alloc t true (.tuple #[]))) : Sem Next).run P w = _
      simp [Instr.alloc, run_zero hz, newVar, newRow, newObj, cellsL_eq, Sem.run]
    · cases h
  · cases h
theorem good_box {t : TypeId} {x : Operand} (hop : o.op = .box t x) (h : boxK P env H t x c = some r) : ResC P env H o c r .a := by
  unfold boxK at h
  split at h
  · rename_i v hv
    refine alloc_res (f := fun a => .pointer (some a)) (by simp) h fun σ D w ρ hr => ⟨cellsL (ρ x), [], (0, 0), .pointer (some ⟨w.heap.size, 0, none⟩), _, fun _ => rfl, (hr x v hv).cells, ?_, by rw [List.append_nil]; exact Push.plain w _ t, fun σ' D' h1 h2 h3 _ => ptr_new h1 h2 h3⟩
    simp only [execOp, hop]
    show (do pure (.value (← Instr.box t (ρ x))) : Sem Next).run P w = _
    simp [Instr.box, newVar, newRow, newObj, cellsL_eq, Sem.run]
  · cases h
theorem repL_length (z : List Value) : ∀ n, (repL n z).length = n * z.length
  | 0 => by simp [repL]
  | n + 1 => by simp [repL, repL_length z n, Nat.succ_mul, Nat.add_comm]
theorem repL_get (z : List Value) : ∀ (n j : Nat), j < n * z.length → (repL n z)[j]? = z[j % z.length]?
  | 0, j, h => by simp at h
  | n + 1, j, h => by
    unfold repL
    rw [List.getElem?_append]
    by_cases hj : j < z.length
    · rw [if_pos hj, Nat.mod_eq_of_lt hj]
    · rw [if_neg hj, repL_get z n (j - z.length) (by rw [Nat.succ_mul] at h; omega)]
      rw [Nat.mod_eq_sub_mod (Nat.le_of_not_lt hj)]
theorem repL_array (z : List Value) (n : Nat) : ((Array.range (n * z.length)).map (fun j => (z.toArray)[j % z.toArray.size]!)) = (repL n z).toArray := by
  apply Array.ext'
  apply List.ext_getElem?
  intro j
  simp only [Array.toList_map, Array.toList_range, List.getElem?_map, List.size_toArray]
  by_cases hj : j < n * z.length
  · rw [repL_get z n j hj]
    have hz : 0 < z.length := by
      rcases Nat.eq_zero_or_pos z.length with e | e
      · rw [e] at hj; simp at hj
      · exact e
    have hlt : j % z.length < z.length := Nat.mod_lt _ hz
    rw [List.getElem?_range hj]
    simp [hlt]
  · rw [List.getElem?_eq_none (by simp; omega), List.getElem?_eq_none (by rw [repL_length]; omega)]
    rfl
theorem VRs.rep {σ : Ren} {D : Dom} {z z' : List Value} (h : VRs σ D z z') : ∀ n, VRs σ D (repL n z) (repL n z')
  | 0 => .nil
  | n + 1 => h.append (VRs.rep h n)
theorem good_buildSlice {t : TypeId} {n : Nat} {parts : Array (Nat × Operand)} (hop : o.op = .buildSlice t n parts) (h : buildSliceK P env H t n parts c = some r) : ResC P env H o c r .a := by
  unfold buildSliceK at h
  obtain ⟨ps, h1, h2⟩ := partsK_inv h
  split at h1
  · rename_i e hu
    split at h1
    · rename_i sz z hs hz
      split at h1
      · rename_i hchk
        rw [Bool.and_eq_true, Bool.and_eq_true] at hchk
        obtain ⟨hat, hlen, hle⟩ := hchk
        have hlen' := Nat.eq_of_beq_eq_true hlen
        have hle' := Nat.le_of_ble_eq_true hle
        obtain ⟨cs', h3, h4, h5⟩ := fillK_inv h1
        refine alloc_res (f := fun a => .slice (some a) n n) (by simp) h3 fun σ D w ρ hr => ?_
        obtain ⟨B, g1, g2⟩ := h5 σ D (repL n (cellsL z)).toArray _ (VRs.rep (VR.of_atomV hat).cells n) (h2 σ D ρ hr)
        refine ⟨B.toList, [], (0, 0), .slice (some ⟨w.heap.size, 0, none⟩) n n, _, fun _ => rfl, g2, ?_, by rw [List.append_nil]; exact Push.plain w _ e, fun σ' D' q1 q2 q3 _ => slice_new q1 q2 q3⟩
        have hle2 : ¬ n * sz > 2 ^ 24 := by omega
        simp only [execOp, hop]
        show (do pure (.value (← Instr.buildSlice t n _)) : Sem Next).run P w = _
        simp [Instr.buildSlice, run_underlying hu, run_size hs, hle2]
        have fin : ((match some B with | some cells => (fun a => Value.slice (some a) n n) <$> newRow e cells | _ => stuck "buildSlice: a part of the wrong size" : Sem Value).run P w).andThen (fun a w' => Result.ok (Next.value a) w') = Result.ok (Next.value (.slice (some ⟨w.heap.size, 0, none⟩) n n)) { w with heap := w.heap.push (.cells B e (0, 0)) } := by
          simp [newRow, newObj, Sem.run]
        by_cases h0 : n * sz = 0
        · have e0 : (Array.range (n * sz)).map (fun _ => (default : Value)) = (repL n (cellsL z)).toArray := by
            have : repL n (cellsL z) = [] := List.length_eq_zero_iff.1 (by rw [repL_length, hlen', h0])
            rw [this, h0]
            simp
          rw [if_pos h0, e0, g1]
          exact fin
        · rw [if_neg h0, run_zero hz]
          simp only [Result.andThen_ok]
          have e1 : (Array.range (n * sz)).map (fun x => z.cells[x % z.cells.size]!) = (repL n (cellsL z)).toArray := by
            rw [cellsL_eq, ← hlen']
            exact repL_array (cellsL z) n
          rw [e1, g1]
          exact fin
      · cases h1
    · cases h1
  · cases h1
end
end Go.Proofs.YtdcbnkimjhefkaaGreatDoor

/-
 Maps, iterators, slices that are made, copies.
 Calls; every operation.
 Regions in their order, frames, code: the machine is sound.
-/
import Derived.Test.YtdcbnkimjhefkaaGreatDoorU09
import Derived.Laws.MakeOwn
import Derived.MapKept
import Derived.Below
namespace Go.Proofs.YtdcbnkimjhefkaaGreatDoor
section
variable {P : Program} {env : Env} {H : AH} {β : Type} {o : Oper} {c : Value → AH → Option β} {r : β}
theorem prun_bind {α γ : Type} {f : α → Sem γ} {y : γ} : ∀ {s : Sem α}, prun P (s.bind f) = some y → ∃ a, prun P s = some a ∧ prun P (f a) = some y := by
 intro s
 induction s with
 | pure a => intro h; exact ⟨a, rfl, h⟩
 | program k ih => intro h; exact ih _ (by unfold prun Sem.bind at h; exact h)
 | mark m k ih => intro h; exact ih (by unfold prun Sem.bind at h; exact h)
 | _ => intro h; unfold prun Sem.bind at h; cases h
def objB : Obj → Bool
 | .cells .. => false
 | _ => true
theorem run_getObj1 {w : World} {b : Nat} {X : Obj} (h : w.heap[b]? = some X) (hX : objB X = true) : (getObj b).run P w = .ok X w := by
 cases X with
 | cells c t f => cases hX
 | _ => simp [getObj, Sem.run, h]
theorem run_setObj1 {w : World} {b : Nat} {X : Obj} (h : w.heap[b]? = some X) (hX : objB X = true) (Y : Obj) : (setObj b Y).run P w = .ok () { w with heap := w.heap.setIfInBounds b Y } := by
 cases X with
 | cells c t f => cases hX
 | _ => simp [setObj, Sem.run, h]
theorem Sim.turn1 {σ : Ren} {h : Hp} {w : World} (s : Sim P σ h w) {b : Nat} {i : Option (Nat × Nat)} {x y : Body} (hro : ∀ e, i ≠ some (0, e)) (hb : h b = some ⟨i, x⟩) (hx : x ≠ .dead) {X : Obj} (hy : BodyR σ h.dom b i y X) :
  Sim P σ (h.set b ⟨i, y⟩) { w with heap := w.heap.setIfInBounds (σ.blk b) X } ∧ Fwd σ h w σ (h.set b ⟨i, y⟩) { w with heap := w.heap.setIfInBounds (σ.blk b) X } := by
 have hlt := s.lt ⟨i, x, hb, hx⟩
 refine s.turn hro hb hx (X' := X) ?_ (fun k hk => ?_) (by simp) rfl rfl rfl fun _ => hy
 ·exact Array.getElem?_setIfInBounds_self_of_lt hlt
 ·exact Array.getElem?_setIfInBounds_ne (Ne.symm hk)
theorem good_makeMap (hok : AH.ok P H) {t : TypeId} (hop : o.op = .makeMap t none) (h : makeMapK H c = some r) : ResC P env H o c r .w := by
 unfold makeMapK at h
 obtain ⟨H', h1, h2, h3⟩ := AH.newK_inv h
 refine ⟨_, H', h1, AH.ok_new hok h2 h3, by omega, fun σ w ρ hS hr => ?_⟩
 obtain ⟨σ', g1, g2, g3, g4, g5⟩ := hS.lay H.next (hok.2 _ (Nat.le_refl _)) hok.1 none (.map [] 0) (.map #[] 0) 0 (w' := w.alloc (.map #[] 0)) rfl rfl rfl rfl fun σ' hle q1 q2 q3 => ⟨q2, rfl⟩
 refine OpOk.value (v := .map (some w.heap.size)) (w' := w.alloc (.map #[] 0)) ?_ ⟨σ', by rw [h3]; exact g1, by rw [h3]; exact g2, ?_⟩
 ·simp only [execOp, hop]; exact run_v2 rfl
 ·rw [h3]
  have := VR.mapv (σ := σ') (D := Hp.dom (Hp.set H.get H.next ⟨none, .map [] 0⟩)) H.next none (by simp [Hp.dom, Hp.set_same])
  rw [g3] at this
  exact this
theorem good_iter (hok : AH.ok P H) {t : TypeId} {x : Operand} (hop : o.op = .range t x) {y : Body} (h : H.newK ⟨none, y⟩ (fun b H => c (.pointer (some ⟨b, 0, none⟩)) H) = some r)
  (hy : ∀ σ w ρ, Sim P σ H.get w → Rels (ev1 P env H) σ (Hp.dom H.get) ρ → ∃ X, (∀ σ' : Ren, Ren.le σ (Hp.dom H.get) σ' (Hp.dom (Hp.set H.get H.next ⟨none, y⟩)) → σ'.sh H.next = 0 → BodyR σ' (Hp.dom (Hp.set H.get H.next ⟨none, y⟩)) H.next none y X) ∧ (Instr.range t (ρ x)).run P w = .ok (.pointer (some ⟨w.heap.size, 0, none⟩)) (w.alloc X)) : ResC P env H o c r .w := by
 obtain ⟨H', h1, h2, h3⟩ := AH.newK_inv h
 refine ⟨_, H', h1, AH.ok_new hok h2 h3, by omega, fun σ w ρ hS hr => ?_⟩
 obtain ⟨X, hX, hrun⟩ := hy σ w ρ hS hr
 obtain ⟨σ', g1, g2, g3, g4, g5⟩ := hS.lay H.next (hok.2 _ (Nat.le_refl _)) hok.1 none y X 0 (w' := w.alloc X) rfl rfl rfl rfl fun σ' hle q1 q2 q3 => hX σ' hle q2
 refine OpOk.value (v := .pointer (some ⟨w.heap.size, 0, none⟩)) (w' := w.alloc X) ?_ ⟨σ', by rw [h3]; exact g1, by rw [h3]; exact g2, ?_⟩
 ·simp only [execOp, hop]; exact run_v2 hrun
 ·rw [h3]
  have := VR.ptr (σ := σ') (D := Hp.dom (Hp.set H.get H.next ⟨none, y⟩)) ⟨H.next, 0, none⟩ none (by simp [Hp.dom, Hp.set_same]) rfl
  unfold Ren.addr at this
  simp only [g3, g4] at this
  exact this
theorem good_range (hok : AH.ok P H) {t : TypeId} {x : Operand} (hop : o.op = .range t x) (h : rangeK P env H t x c = some r) : ResC P env H o c r .w := by
 unfold rangeK at h
 split at h
 ·rename_i s hu hx
  refine good_iter hok hop h fun σ w ρ hS hr => ⟨.stringIter s 0, fun σ' _ q => ⟨q, rfl⟩, ?_⟩
  rw [(hr x _ hx).str_inv]
  simp only [Instr.range, Sem.run_bind, run_underlying hu, Result.andThen]
  rfl
 ·rename_i k e hu hx
  refine good_iter hok hop h fun σ w ρ hS hr => ⟨.mapIter none 0 #[] 0, fun σ' _ q => ⟨q, rfl⟩, ?_⟩
  have hv := hr x _ hx
  generalize ρ x = u at hv
  cases hv
  simp only [Instr.range, Sem.run_bind, run_underlying hu, Result.andThen]
  rfl
 ·rename_i k e m hu hx
  split at h
  ·rename_i i es clock hm
   refine good_iter hok hop h fun σ w ρ hS hr => ⟨.mapIter (some (σ.blk m)) clock #[] clock, fun σ' hle q => ?_, ?_⟩
   ·have hd : Hp.dom H.get m = some i := Hp.dom_some hm
    exact ⟨q, ⟨_, hle.dom _ _ hd⟩, by rw [(hle.ren _ _ hd).1]⟩
   ·obtain ⟨X, q1, q2, rfl⟩ := hS.body m i _ hm nofun
    have hv := hr x _ hx
    generalize ρ x = u at hv
    cases hv
    simp only [Instr.range, Sem.run_bind, run_underlying hu, Result.andThen, run_getObj1 q1 rfl]
    rfl
  ·cases h
 ·cases h
theorem good_next (hok : AH.ok P H) {x : Operand} {isS : Bool} (hop : o.op = .next x isS) (h : nextK P env H x isS c = some r) : ResC P env H o c r .w := by
 unfold nextK at h
 split at h
 ·rename_i b hx
  split at h
  ·rename_i s pos hb
   have key : ∀ σ w ρ, Sim P σ H.get w → Rels (ev1 P env H) σ (Hp.dom H.get) ρ → w.heap[σ.blk b]? = some (.stringIter s pos) ∧ ρ x = .pointer (some ⟨σ.blk b, 0, none⟩) := fun σ w ρ hS hr => by
    obtain ⟨X, q1, q2, rfl⟩ := hS.body b none _ hb nofun
    obtain ⟨_, hv⟩ := (hr x _ hx).ptr_inv
    rw [q2] at hv
    exact ⟨q1, hv⟩
   unfold nextSK at h
   split at h
   ·rename_i hlt
    have hlt' : pos < s.size := Nat.le_of_ble_eq_true hlt
    split at h
    rename_i ch width hdec
    rw [natK_eq, natK_eq, natK_eq] at h
    obtain ⟨H', h1, h2, h3⟩ := AH.setK_inv h
    have hro' : ∀ e, (none : Option (Nat × Nat)) ≠ some (0, e) := fun e => nofun
    refine ⟨_, H', h1, AH.ok_set hok hb h2 h3, by omega, fun σ w ρ hS hr => ?_⟩
    obtain ⟨q1, q2⟩ := key σ w ρ hS hr
    have hsh : σ.sh b = 0 := by
     obtain ⟨X, _, q3, _⟩ := hS.body b none _ hb nofun
     exact q3
    obtain ⟨g1, g2⟩ := hS.turn1 hro' hb nofun (y := .siter s (pos + width)) (X := .stringIter s (pos + width)) ⟨hsh, rfl⟩
    refine OpOk.value (v := .tuple ⟨[.bool true, .int .i64 (.ofNat pos), .int .i32 (.ofNat ch)]⟩) (w' := { w with heap := w.heap.setIfInBounds (σ.blk b) (.stringIter s (pos + width)) }) ?_ ⟨σ, by rw [h3]; exact g1, by rw [h3]; exact g2, .tuple _ _ (.cons _ _ _ _ (.bool _) (.cons _ _ _ _ (.int _ _) (.cons _ _ _ _ (.int _ _) .nil)))⟩
    simp only [execOp, hop, q2]
    refine run_v2 ?_
    simp only [Instr.next, Sem.run_bind, run_getObj1 q1 rfl, Result.andThen, hlt', if_true, hdec, run_setObj1 q1 rfl]
    rfl
   ·rename_i hlt
    have hlt' : ¬ pos < s.size := fun hh => by
     have : Nat.blt pos s.size = true := Nat.ble_eq_true_of_le hh
     rw [this] at hlt
     cases hlt
    refine ⟨_, H, h, hok, Nat.le_refl _, fun σ w ρ hS hr => ?_⟩
    obtain ⟨q1, q2⟩ := key σ w ρ hS hr
    refine OpOk.value (v := .tuple ⟨[.bool false]⟩) (w' := w) ?_ ⟨σ, hS, .refl _ _ _, .tuple _ _ (.cons _ _ _ _ (.bool _) .nil)⟩
    simp only [execOp, hop, q2]
    refine run_v2 ?_
    simp only [Instr.next, Sem.run_bind, run_getObj1 q1 rfl, Result.andThen, hlt', if_false]
    rfl
  ·rename_i i since seen last hb
   refine ⟨_, H, h, hok, Nat.le_refl _, fun σ w ρ hS hr => ?_⟩
   obtain ⟨X, q1, q2, rfl⟩ := hS.body b i _ hb nofun
   obtain ⟨_, hv⟩ := (hr x _ hx).ptr_inv
   rw [q2] at hv
   refine OpOk.value (v := .tuple ⟨[.bool false]⟩) (w' := w) ?_ ⟨σ, hS, .refl _ _ _, .tuple _ _ (.cons _ _ _ _ (.bool _) .nil)⟩
   simp only [execOp, hop, hv]
   refine run_v2 ?_
   simp only [Instr.next, Sem.run_bind, run_getObj1 q1 rfl, Result.andThen]
   rfl
  ·rename_i i m since seen last hb
   split at h
   ·rename_i i2 clock hm
    refine ⟨_, H, h, hok, Nat.le_refl _, fun σ w ρ hS hr => ?_⟩
    obtain ⟨X, q1, q2, _, rfl⟩ := hS.body b i _ hb nofun
    obtain ⟨X2, q3, q4, rfl⟩ := hS.body m i2 _ hm nofun
    obtain ⟨_, hv⟩ := (hr x _ hx).ptr_inv
    rw [q2] at hv
    refine OpOk.value (v := .tuple ⟨[.bool false]⟩) (w' := w) ?_ ⟨σ, hS, .refl _ _ _, .tuple _ _ (.cons _ _ _ _ (.bool _) .nil)⟩
    simp only [execOp, hop, hv]
    refine run_v2 ?_
    simp [Instr.next, run_getObj1 q1 rfl, run_getObj1 q3 rfl, Question.forced]
   ·cases h
  ·cases h
 ·cases h
theorem good_mapUpd (hok : AH.ok P H) {t : TypeId} {m k x : Operand} (hop : o.op = .mapUpdate t m k x) (h : mapUpdK P env H t m k x c = some r) : ResC P env H o c r .w := by
 unfold mapUpdK at h
 split at h
 ·rename_i b kv xv hm hk hx
  split at h
  ·rename_i kt et es clock hu hb hat
   rw [Bool.and_eq_true] at hat
   split at h
   ·rename_i es' clock' hst
    rw [natK_eq] at h
    obtain ⟨H', h1, h2, h3⟩ := AH.setK_inv h
    refine ⟨_, H', h1, AH.ok_set hok hb h2 h3, by omega, fun σ w ρ hS hr => ?_⟩
    obtain ⟨X, q1, q2, rfl⟩ := hS.body b none _ hb nofun
    have hv : ρ m = .map (some (σ.blk b)) := by
     have hv := hr m _ hm
     generalize ρ m = u at hv
     cases hv
     rfl
    have hkv := (hr k _ hk).atomV hat.1
    have hxv := (hr x _ hx).atomV hat.2
    obtain ⟨g1, g2⟩ := hS.turn1 (i := none) (fun e => nofun) hb nofun (y := .map es' clock') (X := .map ⟨es'⟩ clock') ⟨q2, rfl⟩
    unfold OpOk
    have : (execOp ρ o).run P w = .ok .skip { w with heap := w.heap.setIfInBounds (σ.blk b) (.map ⟨es'⟩ clock') } := by
     simp only [execOp, hop, hv, hkv, hxv]
     refine run_u2 ?_
     have hst' := hst
     unfold mapStep at hst'
     obtain ⟨u1, p1, p2⟩ := prun_bind hst'
     obtain ⟨u2, p3, p4⟩ := prun_bind p2
     have r1 := fun w => prun_sound (w := w) p1
     have r2 := fun w => prun_sound (w := w) p3
     cases u2 with
     | none =>
      have p5 : some (es ++ [{ key := kv, val := xv, born := clock }], clock + 1) = some (es', clock') := p4
      simp only [Option.some.injEq, Prod.mk.injEq] at p5
      obtain ⟨rfl, rfl⟩ := p5
      simp [Instr.mapUpdate, run_underlying hu, run_getObj1 q1 rfl, r1, r2, run_setObj1 q1 rfl]
     | some iv =>
      obtain ⟨j, v0⟩ := iv
      obtain ⟨u3, p5, p6⟩ := prun_bind p4
      have r3 := fun w => prun_sound (w := w) p5
      have p7 : some ((es.toArray.modify j fun e => { e with key := u3, val := xv }).toList, clock) = some (es', clock') := p6
      simp only [Option.some.injEq, Prod.mk.injEq] at p7
      obtain ⟨rfl, rfl⟩ := p7
      have r3' : ∀ w, (Instr.keyThatStays (((es[j]?).map (·.key)).getD kv) kv).run P w = .ok u3 w := r3
      simp [Instr.mapUpdate, run_underlying hu, run_getObj1 q1 rfl, r1, r2, r3', run_setObj1 q1 rfl]
    rw [this]
    exact ⟨σ, by rw [h3]; exact g1, by rw [h3]; exact g2, .tuple _ _ .nil⟩
   ·cases h
  ·cases h
 ·cases h
theorem repL_ln (z : List Value) : ∀ n, (repL n z).length = n * z.length
 | 0 => by simp [repL]
 | n + 1 => by rw [repL, List.length_append, repL_ln z n, Nat.succ_mul, Nat.add_comm]
theorem repL_at (z : List Value) : ∀ (n j : Nat), j < n * z.length → (repL n z)[j]? = z[j % z.length]?
 | 0, j, h => by simp at h
 | n + 1, j, h => by
  rw [repL, List.getElem?_append]
  split
  ·rename_i hj
   rw [Nat.mod_eq_of_lt hj]
  ·rename_i hj
   have hz : z.length ≤ j := by omega
   rw [repL_at z n (j - z.length) (by rw [Nat.succ_mul] at h; omega), Nat.mod_eq_sub_mod hz]
theorem atoms_cellsL {z : Value} (h : atomV z = true) : atoms0 (cellsL z) = true := by
 unfold atomV at h
 split at h
 ·exact h
 ·rename_i hn
  have : cellsL z = [z] := by
   unfold cellsL
   split
   ·rename_i l hl; exact (hn _ rfl).elim
   ·rfl
  rw [this]
  unfold atoms0
  rw [h]
  rfl
theorem atoms_app : ∀ {l r : List Value}, atoms0 l = true → atoms0 r = true → atoms0 (l ++ r) = true
 | [], _, _, h => h
 | v :: l, r, h, h2 => by
  unfold atoms0 at h
  split at h
  ·rename_i hv
   rw [List.cons_append]
   unfold atoms0
   rw [hv]
   exact atoms_app h h2
  ·cases h
theorem atoms_rep {z : List Value} (h : atoms0 z = true) : ∀ n, atoms0 (repL n z) = true
 | 0 => rfl
 | n + 1 => atoms_app h (atoms_rep h n)
theorem natOf_inv {v : Option Value} {n : Nat} (h : v.bind natOf = some n) : v = some (.int .i64 (n : Int)) := by
 cases v with
 | none => cases h
 | some v =>
  change natOf v = some n at h
  unfold natOf at h
  split at h
  ·obtain rfl := Option.some.inj h
   rfl
  ·cases h
theorem madeCells_rep (z : List Value) (n : Nat) : (madeCells z.toArray (n * z.length)).toList = repL n z := by
 apply List.ext_getElem?
 intro j
 by_cases hj : j < n * z.length
 ·rw [repL_at z n j hj]
  have hz : 0 < z.length := Nat.pos_of_ne_zero fun e => by rw [e] at hj; simp at hj
  have hm : j % z.length < z.length := Nat.mod_lt _ hz
  rw [List.getElem?_eq_getElem hm]
  simp [madeCells, hj, hm]
 ·rw [List.getElem?_eq_none (by rw [Array.length_toList, size_madeCells]; omega), List.getElem?_eq_none (by rw [repL_ln]; omega)]
theorem good_makeSlice (hok : AH.ok P H) {t : TypeId} {x y : Operand} (hop : o.op = .makeSlice t x y) (h : makeSliceK P env H t x y c = some r) : ResC P env H o c r .w := by
 unfold makeSliceK at h
 split at h
 ·rename_i e n m hu hn hm
  have hx := natOf_inv hn
  have hy := natOf_inv hm
  split at h
  ·rename_i ti hti
   split at h
   ·rename_i z hz
    split at h
    ·rename_i hc
     rw [Bool.and_eq_true, Bool.and_eq_true, Bool.and_eq_true, Bool.and_eq_true] at hc
     obtain ⟨c1, c2, c3, c4, c5⟩ := hc
     have c2 := Nat.eq_of_beq_eq_true c2
     have c3 := Nat.le_of_ble_eq_true c3
     have c4 := Nat.le_of_ble_eq_true c4
     have c5 := Nat.le_of_ble_eq_true c5
     unfold newRowK at h
     obtain ⟨H', h1, h2, h3⟩ := AH.newK_inv h
     rw [val0K_eq] at h1
     refine ⟨_, H', h1, AH.ok_new hok h2 h3, by omega, ?_⟩
     refine AllocGood.op hok h3 ⟨fun sz e' he => (by cases he), fun σ D w ρ hr => ?_⟩
     have hbytes : (ti.bytes : Int) * (m : Int) ≤ 281474976710656 := by
      have : ti.bytes * m ≤ 1048576 * 16777216 := Nat.mul_le_mul c5 c4
      have h4 : ((ti.bytes * m : Nat) : Int) ≤ 281474976710656 := by omega
      rwa [Int.natCast_mul] at h4
     have hrun := run_make (P := P) w t e ti z hu hti hz .i64 .i64 (n : Int) (m : Int) (by omega) (by omega) hbytes (by omega)
     refine ⟨repL m (cellsL z), [], (0, 0), .slice (some ⟨w.heap.size, 0, none⟩) n m, w.alloc (.cells (madeCells z.cells ((m : Int).toNat * ti.size)) e), fun _ => rfl, .of_atoms0 (atoms_rep (atoms_cellsL c1) m), ?_, ⟨?_, fun j _ hj => (by cases hj), rfl, rfl, rfl⟩, fun σ' D' q1 q2 q3 q4 => ?_⟩
     ·simp only [execOp, hop, (hr x _ hx).int_inv, (hr y _ hy).int_inv]
      have := run_v2 hrun
      simpa using this
     ·show w.heap.push _ = _
      congr 2
      apply Array.ext'
      rw [Int.toNat_natCast, ← c2, cellsL_eq, madeCells_rep]
      simp
     ·have := VR.slice (σ := σ') (D := D') ⟨H.next, 0, none⟩ n m none q1 rfl
      unfold Ren.addr at this
      simp only [q2, q3, Nat.zero_add] at this
      exact this
    ·cases h
   ·cases h
  ·cases h
 ·cases h
theorem good_lenM (hok : AH.ok P H) {args : Array Operand} {ts : Array TypeId} (hop : o.op = .call ⟨.builtin .len, args, ts⟩) {vs : List Value} (hvs : args.toList.map (ev1 P env H) = vs.map some) (hts : lenMap P ts.toList = true) (h : lenMK vs H c = some r) : ResC P env H o c r .w := by
 have hk : ∃ t k e, ts[0]? = some t ∧ P.underlying t = some (.map k e) := by
  unfold lenMap at hts
  split at hts
  ·rename_i t l hl
   split at hts
   ·rename_i k e hu
    exact ⟨t, k, e, by rw [← Array.getElem?_toList, hl]; rfl, hu⟩
   ·cases hts
  ·cases hts
 obtain ⟨t, k, e, ht0, hu⟩ := hk
 have hargs : ∀ v σ ρ, vs = [v] → Rels (ev1 P env H) σ (Hp.dom H.get) ρ → ∃ v', args.map ρ = #[v'] ∧ VR σ (Hp.dom H.get) v v' := by
  intro v σ ρ hvs' hr
  subst hvs'
  have hv := evs_vr hr hvs
  generalize hm : args.toList.map ρ = m at hv
  cases hv with
  | cons _ v' _ l' h1 h2 =>
   cases h2
   refine ⟨v', ?_, h1⟩
   apply Array.ext'
   rw [Array.toList_map, hm]
 unfold lenMK at h
 split at h
 ·refine ⟨_, H, h, hok, Nat.le_refl _, fun σ w ρ hS hr => ?_⟩
  obtain ⟨v', e1, e2⟩ := hargs _ σ ρ rfl hr
  cases e2
  refine OpOk.value (v := .int .i64 (.ofNat 0)) (w' := w) ?_ ⟨σ, hS, .refl _ _ _, .int _ _⟩
  rw [exec_builtin hop, e1]
  show (do pure (.value (← Builtin.len_ ts o.type #[_])) : Sem Next).run P w = _
  refine run_v2 ?_
  simp [Builtin.len_, ht0, run_underlying hu, goInt]
 ·rename_i b
  split at h
  ·rename_i i es clock hb
   rw [natK_eq] at h
   refine ⟨_, H, h, hok, Nat.le_refl _, fun σ w ρ hS hr => ?_⟩
   obtain ⟨v', e1, e2⟩ := hargs _ σ ρ rfl hr
   cases e2
   obtain ⟨X, q1, q2, rfl⟩ := hS.body b i _ hb nofun
   refine OpOk.value (v := .int .i64 (.ofNat es.length)) (w' := w) ?_ ⟨σ, hS, .refl _ _ _, .int _ _⟩
   rw [exec_builtin hop, e1]
   show (do pure (.value (← Builtin.len_ ts o.type #[_])) : Sem Next).run P w = _
   refine run_v2 ?_
   simp [Builtin.len_, ht0, run_underlying hu, run_getObj1 q1 rfl, goInt]
  ·cases h
 ·cases h
theorem firstK_copy {sz n m : Nat} {x : Value} {c : List Value → Option β} {r : β} (h : firstK sz (Nat.min m n) x H c = some r) (hm : lenK x = some m) : ∃ row, c row = some r ∧ ∀ σ w x', Sim P σ H.get w → VR σ (Hp.dom H.get) x x' → ∃ row', (Builtin.firstCells sz (Nat.min m n) x').run P w = .ok ⟨row'⟩ w ∧ VRs σ (Hp.dom H.get) row row' := by
 unfold firstK at h
 split at h
 ·refine ⟨[], h, fun σ w x' hS hv => ⟨[], ?_, .nil⟩⟩
  cases hv
  rfl
 ·rename_i b off l m2
  split at h
  ·rename_i i T cs hb
   obtain ⟨h1, h2⟩ := rowK_inv h
   refine ⟨_, h2, fun σ w x' hS hv => ?_⟩
   obtain ⟨z, m', q1, q2, rfl, _⟩ := hv.slice_inv
   obtain ⟨row, g1, g2⟩ := hS.cells hb h1
   exact ⟨row, by simp [Builtin.firstCells, g1], g2⟩
  ·cases h
 ·rename_i s
  rw [vals0K_eq] at h
  refine ⟨_, h, fun σ w x' hS hv => ⟨(s.data.toList.take (Nat.min m n)).map fun b => Value.int .u8 (b.toNat : Int), ?_, ?_⟩⟩
  ·rw [hv.str_inv]
   show Result.ok _ w = _
   congr 1
   apply Array.ext'
   simp
  ·have := VRs.of_atoms0 (σ := σ) (D := Hp.dom H.get) (atoms_u8 ((s.data.toList.take (Nat.min m n)).map fun b => (b.toNat : Int)))
   rw [List.map_map] at this
   exact this
 ·cases h
theorem good_copy (hok : AH.ok P H) {args : Array Operand} {ts : Array TypeId} (hop : o.op = .call ⟨.builtin .copy, args, ts⟩) {d s : Value} (hvs : args.toList.map (ev1 P env H) = [d, s].map some) {t u : TypeId} (hts : ts.toList = [t, u]) (h : copyK P t d s H c = some r) : ResC P env H o c r .w := by
 unfold copyK at h
 split at h
 ·rename_i e m base n cap hu hm
  split at h
  ·rename_i sz hs
   rw [natK_eq] at h
   have ht0 : ts[0]? = some t := by rw [← Array.getElem?_toList, hts]; rfl
   have hargs : ∀ σ ρ, Rels (ev1 P env H) σ (Hp.dom H.get) ρ → ∃ d' s', args.map ρ = #[d', s'] ∧ VR σ (Hp.dom H.get) (.slice base n cap) d' ∧ VR σ (Hp.dom H.get) s s' := by
    intro σ ρ hr
    have hv := evs_vr hr hvs
    generalize hmm : args.toList.map ρ = mm at hv
    cases hv with
    | cons _ d' _ l' h1 h2 =>
     cases h2 with
     | cons _ s' _ l'' h3 h4 =>
      cases h4
      refine ⟨d', s', ?_, h1, h3⟩
      apply Array.ext'
      rw [Array.toList_map, hmm]
   have hlen : ∀ σ s' w, VR σ (Hp.dom H.get) s s' → (Builtin.lenOf s').run P w = .ok m w := by
    intro σ s' w hv
    unfold lenK at hm
    split at hm
    ·obtain rfl := Option.some.inj hm
     cases hv <;> rfl
    ·obtain rfl := Option.some.inj hm
     cases hv; rfl
    ·cases hm
   obtain ⟨row, h1, h2⟩ := firstK_copy h hm
   split at h1
   ·split at h1
    ·rename_i hz
     have hz := Nat.eq_of_beq_eq_true hz
     refine ⟨_, H, h1, hok, Nat.le_refl _, fun σ w ρ hS hr => ?_⟩
     obtain ⟨d', s', e1, e2, e3⟩ := hargs σ ρ hr
     obtain ⟨row', g1, g2⟩ := h2 σ w s' hS e3
     refine OpOk.value (v := .int .i64 (.ofNat (Nat.min m n))) (w' := w) ?_ ⟨σ, hS, .refl _ _ _, .int _ _⟩
     rw [exec_builtin hop, e1]
     cases e2
     show (do pure (.value (← Builtin.copy_ ts o.type #[_, s'])) : Sem Next).run P w = _
     refine run_v2 ?_
     simp [Builtin.copy_, ht0, run_underlying hu, hlen σ s' w e3, run_size hs, g1, goInt]
    ·cases h1
   ·rename_i b off
    obtain ⟨H', i, T, cs, cs2, q1, q2, q3, q4, q5, q6, q7, q8, q9, hro⟩ := storeRow_inv hok h1
    refine ⟨_, H', q1, q2, by omega, fun σ w ρ hS hr => ?_⟩
    obtain ⟨d', s', e1, e2, e3⟩ := hargs σ ρ hr
    obtain ⟨row', g1, g2⟩ := h2 σ w s' hS e3
    obtain ⟨w', g3, g4, g5⟩ := hS.write hro q4 q6 q7 q8 q9 g2
    obtain ⟨x, m', p1, p2, rfl, _⟩ := e2.slice_inv
    refine OpOk.value (v := .int .i64 (.ofNat (Nat.min m n))) (w' := w') ?_ ⟨σ, by rw [q5]; exact g4, by rw [q5]; exact g5, .int _ _⟩
    rw [exec_builtin hop, e1]
    show (do pure (.value (← Builtin.copy_ ts o.type #[_, s'])) : Sem Next).run P w = _
    refine run_v2 ?_
    simp [Builtin.copy_, ht0, run_underlying hu, hlen σ s' w e3, run_size hs, g1, g3, goInt]
   ·cases h1
  ·cases h
 ·cases h
end
end Go.Proofs.YtdcbnkimjhefkaaGreatDoor

namespace Go.Proofs.YtdcbnkimjhefkaaGreatDoor
open Go.RowKit
section
variable {P : Program} {env : Env} {H : AH} {β : Type} {o : Oper} {c : Value → AH → Option β} {r : β}
def Left (P : Program) (σ : Ren) (H : AH) (w : World) (v : Value) (H' : AH) (e : Ending) (w' : World) : Prop := ∃ v', e = .returned v' ∧ ∃ σ', Sim P σ' H'.get w' ∧ Fwd σ H.get w σ' H'.get w' ∧ VR σ' (Hp.dom H'.get) v v'
def RecGood (P : Program) (rec : Rec) : Prop := ∀ f args H v H', AH.ok P H → rec f args H = some (v, H') → AH.ok P H' ∧ H.next ≤ H'.next ∧ ∀ σ w args', Sim P σ H.get w → VRs σ (Hp.dom H.get) args args' → Calls P f args'.toArray w (Left P σ H w v H')
def OrcGood (P : Program) (orc : Orc) : Prop := ∀ g F, orc g = some F → ∀ args H v H', AH.ok P H → F args H = some (v, H') → AH.ok P H' ∧ H.next ≤ H'.next ∧ ∀ σ w args', Sim P σ H.get w → VRs σ (Hp.dom H.get) args args' → Calls P g args'.toArray w (Left P σ H w v H')
theorem Sim.below {σ : Ren} {h : Hp} {w w' : World} (s : Sim P σ h w) (hb : Below w.heap.size w w') : Sim P σ h w' ∧ Fwd σ h w σ h w' := by
 refine ⟨⟨fun b i x e hd => ?_, s.apart, s.glob⟩, ⟨.refl _ _, fun k hk _ => hb.block k hk, fun b e hl => (hl.not_none e).elim, fun _ h _ => h, hb.size, hb.os, hb.tape, hb.output, fun b e t cs h1 => ⟨h1, hb.block _ (s.lt (.row h1))⟩⟩⟩
 obtain ⟨X, h1, h2⟩ := s.body b i x e hd
 exact ⟨X, by rw [hb.block _ (s.lt ⟨_, _, e, hd⟩)]; exact h1, h2⟩
theorem exec_callv {f : Operand} {args : Array Operand} {ts : Array TypeId} (hop : o.op = .call ⟨.value f, args, ts⟩) {ρ : Operand → Value} {g : FuncId} {first captured : List Value} (hf : ρ f = .func (.func g) ⟨first⟩ ⟨captured⟩) (w : World) : (execOp ρ o).run P w = (callFunc g ⟨first ++ (args.toList.map ρ ++ captured)⟩).run P w := by
 have e : ((⟨first⟩ : Array Value) ++ args.map ρ) ++ (⟨captured⟩ : Array Value) = ⟨first ++ (args.toList.map ρ ++ captured)⟩ := by
  apply Array.ext'
  simp
 rw [← e]
 simp only [execOp, hop, resolve, hf]
 rfl
theorem hasBody_callable {g : FuncId} (h : hasBody P g = some true) : callable P g = true := by
 unfold hasBody at h
 unfold callable
 split at h
 ·rename_i fn hfn
  simp only [hfn]
  split at h
  ·cases h
  ·rename_i hn
   have := Option.some.inj h
   simp [hn, this]
 ·cases h
theorem good_call (hok : AH.ok P H) {orc : Orc} {rec : Rec} (ho : OrcGood P orc) (hrec : RecGood P rec) {f : Operand} {args : Array Operand} {ts : Array TypeId} (hop : o.op = .call ⟨.value f, args, ts⟩) {fv : Value} (hf : ev1 P env H f = some fv) {vs : List Value} (hvs : args.toList.map (ev1 P env H) = vs.map some) (h : callK P orc rec fv vs H c = some r) : ResC P env H o c r .w := by
 unfold callK at h
 split at h
 ·rename_i g first captured
  have hρ : ∀ σ ρ, Rels (ev1 P env H) σ (Hp.dom H.get) ρ → ∃ first' captured', ρ f = .func (.func g) ⟨first'⟩ ⟨captured'⟩ ∧ VRs σ (Hp.dom H.get) (first ++ (vs ++ captured)) (first' ++ (args.toList.map ρ ++ captured')) := by
   intro σ ρ hr
   have hv := hr f _ hf
   generalize ρ f = u at hv
   cases hv with
   | func fn f1 f2 c1 c2 h1 h2 => exact ⟨f2, c2, rfl, h1.append ((evs_vr hr hvs).append h2)⟩
  split at h
  ·rename_i hb
   have hcal := hasBody_callable hb
   split at h
   ·rename_i F hF
    split at h
    ·rename_i v H' hv
     obtain ⟨h1, h2, h3⟩ := ho g F hF _ H v H' hok hv
     refine ⟨v, H', h, h1, h2, fun σ w ρ hS hr => ?_⟩
     obtain ⟨first', captured', e1, e2⟩ := hρ σ ρ hr
     refine OpOk.enter (by rw [exec_callv hop e1, run_callable hcal]) ?_
     refine (h3 σ w _ hS e2).mono fun e w' hh => ?_
     obtain ⟨v', rfl, hh⟩ := hh
     exact ⟨v', rfl, hh⟩
    ·cases h
   ·split at h
    ·rename_i v H' hv
     obtain ⟨h1, h2, h3⟩ := hrec _ _ _ _ _ hok hv
     refine ⟨v, H', h, h1, h2, fun σ w ρ hS hr => ?_⟩
     obtain ⟨first', captured', e1, e2⟩ := hρ σ ρ hr
     refine OpOk.enter (by rw [exec_callv hop e1, run_callable hcal]) ?_
     refine (h3 σ w _ hS e2).mono fun e w' hh => ?_
     obtain ⟨v', rfl, hh⟩ := hh
     exact ⟨v', rfl, hh⟩
    ·cases h
  ·unfold externK at h
   split at h
   ·rename_i hat
    split at h
    ·rename_i v hv
     split at h
     ·rename_i hav
      rw [val1K_eq] at h
      refine ⟨v, H, h, hok, Nat.le_refl _, fun σ w ρ hS hr => ?_⟩
      obtain ⟨first', captured', e1, e2⟩ := hρ σ ρ hr
      refine OpOk.value (v := v) (w' := w) ?_ ⟨σ, hS, .refl _ _ _, .of_atomV hav⟩
      rw [exec_callv hop e1, e2.atoms0 hat]
      exact prun_sound hv
     ·cases h
    ·cases h
   ·cases h
  ·cases h
 ·cases h
theorem opK_res (hok : AH.ok P H) {orc : Orc} {rec : Rec} (ho : OrcGood P orc) (hrec : RecGood P rec) (h : opK P orc rec o.op o.type env H c = some r) : ResC P env H o c r (clsO P o.op) := by
 unfold opK at h
 split at h
 case h_1 x hop => rw [hop]; exact good_move (.inl hop) h
 case h_2 x hop => rw [hop]; exact good_move (.inr hop) h
 case h_3 b x y hop => rw [hop]; exact good_pick hop h
 case h_4 t hop => rw [hop]; exact gd_alloc hop h
 case h_5 t x hop => rw [hop]; exact good_box hop h
 case h_6 t parts hop => rw [hop]; exact good_build hop h
 case h_7 t n parts hop => rw [hop]; exact good_buildSlice hop h
 case h_8 t a hop => rw [hop]; exact good_load hop h
 case h_9 t a x hop => rw [hop]; exact good_store hok hop h
 case h_10 x hop => rw [hop]; exact good_nilCheck hop h
 case h_11 op t x y u hop => rw [hop]; exact good_bin hop h
 case h_12 op t x hop => rw [hop]; exact good_un hop h
 case h_13 s d x hop => rw [hop]; exact good_conv hop h
 case h_14 fn first captured hop => rw [hop]; exact good_makeFunc hop h
 case h_15 t x lo hi mx hop =>
  rw [hop]
  unfold sl1K at h
  split at h
  ·rename_i v l hh m hx hl hhi hm
   unfold sliceK at h
   show ResC P env H o c r (clsSl (P.underlying t))
   split at h
   ·rename_i e hu
    split at h
    ·rename_i sz hs
     rw [hu]
     exact good_sliceS hop hu hs hx hl hhi hm h
    ·cases h
   ·rename_i n e hu
    split at h
    ·rename_i sz hs
     rw [hu]
     exact good_sliceA hop hu hs hx hl hhi hm h
    ·cases h
   ·rename_i hu
    rw [hu]
    exact good_sliceT hop hu hx hl hhi hm h
   ·cases h
  ·cases h
 case h_16 t x f hop => rw [hop]; exact good_fieldAddr hop h
 case h_17 t x f hop => rw [hop]; exact good_field hop h
 case h_18 t x i hop => rw [hop]; exact good_indexAddr hop h
 case h_19 t x i hop => rw [hop]; exact good_index hop h
 case h_20 x i hop => rw [hop]; exact good_extract hop h
 case h_21 k args ts hop =>
  rw [hop]
  show ResC P env H o c r (clsC2 P k ts)
  unfold call1K at h
  split at h
  ·rename_i f
   split at h
   ·rename_i fv hfv
    obtain ⟨vs, h1, h2⟩ := evsK_inv h
    exact good_call hok ho hrec hop hfv h2 h1
   ·cases h
  ·rename_i b
   obtain ⟨vs, h1, h2⟩ := evsK_inv h
   unfold builtK at h1
   split at h1
   ·show ResC P env H o c r (match lenMap P ts.toList with | true => .w | false => .p)
    cases hl : lenMap P ts.toList with
    | true => rw [hl] at h1; exact good_lenM hok hop h2 hl h1
    | false => rw [hl] at h1; exact good_len hop h2 h1
   ·unfold two1K at h1
    split at h1
    ·rename_i s x t u hts
     exact good_append hok hop h2 hts h1
    ·cases h1
   ·unfold two1K at h1
    split at h1
    ·rename_i s x t u hts
     exact good_copy hok hop h2 hts h1
    ·cases h1
   ·exact good_min (s := fun as => Builtin.min_ ts o.type as) hop (fun as => rfl) h2 h1
   ·exact good_min (s := fun as => Builtin.max_ ts o.type as) hop (fun as => rfl) h2 h1
   ·cases h1
  ·cases h
 case h_22 t hop => rw [hop]; exact good_makeMap hok hop h
 case h_23 t m k x hop => rw [hop]; exact good_mapUpd hok hop h
 case h_24 t x hop => rw [hop]; exact good_range hok hop h
 case h_25 x b hop => rw [hop]; exact good_next hok hop h
 case h_26 t x y hop => rw [hop]; exact good_makeSlice hok hop h
 case h_27 => cases h
end
end Go.Proofs.YtdcbnkimjhefkaaGreatDoor

namespace Go.Proofs.YtdcbnkimjhefkaaGreatDoor
open Go.RowKit
section
variable {P : Program}
structure ActR (σ : Ren) (D : Dom) (env : Env) (n : Nat) (a : Act) : Prop where
 defers : a.defers = []
 size : a.tmps.size = n
 slot : ∀ t v, env.get t = some v → ∃ v', a.tmps[t]? = some v' ∧ VR σ D v v'
theorem ActR.mono {σ σ' : Ren} {D D' : Dom} {env : Env} {n : Nat} {a : Act} (h : ActR σ D env n a) (hle : Ren.le σ D σ' D') : ActR σ' D' env n a :=
 ⟨h.defers, h.size, fun t v hv => let ⟨v', h1, h2⟩ := h.slot t v hv; ⟨v', h1, h2.mono hle⟩⟩
theorem ActR.rels {σ : Ren} {env : Env} {H : AH} {w : World} {n : Nat} {a : Act} (hS : Sim P σ H.get w) (h : ActR σ (Hp.dom H.get) env n a) : Rels (ev1 P env H) σ (Hp.dom H.get) a.eval := by
 intro x u hx
 unfold ev1 at hx
 split at hx
 ·rename_i t
  obtain ⟨v', h1, h2⟩ := h.slot t u hx
  show VR σ _ u (a.tmps.getD t undef)
  rw [Array.getD_eq_getD_getElem?, h1]
  exact h2
 ·rename_i v
  split at hx
  ·rename_i hat
   obtain rfl := Option.some.inj hx
   exact .of_atomV hat
  ·cases hx
 ·rename_i g
  split at hx
  ·rename_i b hb hlt
   obtain rfl := Option.some.inj hx
   have hg := hS.glob g (Nat.le_of_ble_eq_true hlt) (by rw [hb]; simp)
   have := VR.ptr (σ := σ) (D := Hp.dom H.get) ⟨g, 0, none⟩ b.opn (Hp.dom_some hb) rfl
   unfold Ren.addr at this
   simp only [hg.1, hg.2] at this
   exact this
  ·cases hx
 ·obtain rfl := Option.some.inj hx
  exact .func _ _ _ _ _ .nil .nil
theorem OpOk.wp {o : Oper} {a : Act} {w : World} {K : Value → World → Prop} {next : Act → World → Prop} {Q : Exit → Act → World → Prop} (h : OpOk P o a.eval w K) (hn : ∀ v w', K v w' → next (a.put o.dst v) w') : o.wp P a w next Q := by
 unfold OpOk at h
 unfold Oper.wp
 generalize (execOp a.eval o).run P w = res at h ⊢
 cases res with
 | ok x w' =>
  cases x with
  | value v => exact hn v w' h
  | skip => exact hn undef w' h
  | enter f args =>
   refine Calls.mono h fun e w'' hh => ?_
   obtain ⟨v, rfl, hk⟩ := hh
   exact hn v w'' hk
  | _ => exact h.elim
 | halt hh w' => exact h.elim
theorem dec_run (orc : Orc) (o : Op) (ty : TypeId) (rec : Rec) (env : Env) (H : AH) (c : Value → AH → Option Ans) : (dec P orc o ty).run rec env H c = opK P orc rec o ty env H c := by
 cases o with
 | makeMap t res => cases res <;> rfl
 | _ => rfl
theorem dstK_inv {d : Option Tmp} {v : Value} {env : Env} {β : Type} {c : Env → Option β} {r : β} (h : dstK d v env c = some r) : ∃ env', c env' = some r ∧ ∀ t, env'.get t = if d = some t then some v else env.get t := by
 unfold dstK at h
 split at h
 ·exact ⟨env, h, fun t => by simp⟩
 ·rename_i t0
  obtain ⟨t', h1, h2⟩ := Tr.setK_inv h
  refine ⟨t', h1, fun t => ?_⟩
  rw [h2]
  by_cases e : t = t0
  ·subst e; simp
  ·rw [if_neg e, if_neg (fun e' => e (Option.some.inj e').symm)]
theorem ActR.put {σ : Ren} {D : Dom} {env env' : Env} {n : Nat} {a : Act} (h : ActR σ D env n a) {d : Option Tmp} {v v' : Value} (hd : decDst n d = true) (he : ∀ t, env'.get t = if d = some t then some v else env.get t) (hv : VR σ D v v') : ActR σ D env' n (a.put d v') := by
 refine ⟨by rw [put_def]; exact h.defers, by rw [put_size]; exact h.size, fun t u hu => ?_⟩
 rw [he] at hu
 rw [put_get]
 split at hu
 ·rename_i hdt
  obtain rfl := Option.some.inj hu
  have hlt : t < a.tmps.size := by
   rw [h.size]
   rw [hdt] at hd
   exact Nat.le_of_ble_eq_true hd
  rw [if_pos ⟨hdt, hlt⟩]
  exact ⟨v', rfl, hv⟩
 ·rename_i hdt
  rw [if_neg (fun e => hdt e.1)]
  exact h.slot t u hu
theorem wantK_inv {σ : Ren} {D : Dom} {env : Env} {n : Nat} {a : Act} (h : ActR σ D env n a) {ops : Array Oper} {o : Oper} {g : Option (Tmp × Bool)} (hg : (o.guard = none ∧ g = none) ∨ ∃ j want t, o.guard = some (j, want) ∧ (ops[j]?).bind (·.dst) = some t ∧ g = some (t, want)) {b : Bool} (hw : wantK g env = some b) : Region.wanted o (yielded ops a.tmps) = b := by
 unfold Region.wanted
 rcases hg with ⟨h1, rfl⟩ | ⟨j, want, t, h1, h2, rfl⟩
 ·simp only [h1]
  exact Option.some.inj hw
 ·simp only [h1]
  unfold wantK at hw
  simp only at hw
  split at hw
  ·rename_i b' hb
   obtain rfl := Option.some.inj hw
   obtain ⟨v', q1, q2⟩ := h.slot t _ hb
   cases q2
   simp [yielded, h2, q1]
  ·rename_i l hb
   obtain rfl := Option.some.inj hw
   obtain ⟨v', q1, q2⟩ := h.slot t _ hb
   cases q2
   simp [yielded, h2, q1]
  ·cases hw
theorem decO_inv {orc : Orc} {n : Nat} {ops : Array Oper} {o : Oper} {g : Option (Tmp × Bool)} {d : Option Tmp} {f : Dec} (h : decO P orc n ops o = .mk g d f) : decDst n o.dst = true ∧ d = o.dst ∧ f = dec P orc o.op o.type ∧ ((o.guard = none ∧ g = none) ∨ ∃ j want t, o.guard = some (j, want) ∧ (ops[j]?).bind (·.dst) = some t ∧ g = some (t, want)) := by
 unfold decO at h
 split at h
 ·rename_i hd
  split at h
  ·rename_i hg
   cases h
   exact ⟨hd, rfl, rfl, .inl ⟨hg, rfl⟩⟩
  ·rename_i j want hg
   split at h
   ·rename_i t ht
    cases h
    exact ⟨hd, rfl, rfl, .inr ⟨j, want, t, hg, ht, rfl⟩⟩
   ·cases h
 ·cases h
theorem stepO_inv {orc : Orc} {rec : Rec} (ho : OrcGood P orc) (hrec : RecGood P rec) {n : Nat} {ops : Array Oper} {o : Oper} {env : Env} {H : AH} (hok : AH.ok P H) {c : Env → AH → Option Ans} {r : Ans} (h : stepO (decO P orc n ops o) rec env H c = some r) :
  ∃ (b : Bool) (v : Value) (env' : Env) (H' : AH), c env' H' = some r ∧ AH.ok P H' ∧ H.next ≤ H'.next ∧ decDst n o.dst = true ∧ (∀ t, env'.get t = if o.dst = some t then some v else env.get t) ∧
   (∀ σ D a, ActR σ D env n a → Region.wanted o (yielded ops a.tmps) = b) ∧ (b = false → v = undef ∧ H' = H) ∧ (b = true → OpGood P (ev1 P env H) H o v H') := by
 unfold stepO at h
 split at h
 ·cases h
 ·rename_i g d f hd
  obtain ⟨h1, rfl, rfl, h4⟩ := decO_inv hd
  split at h
  ·rename_i hw
   rw [dec_run] at h
   obtain ⟨v, H', q1, q2, q3, q4⟩ := (opK_res hok ho hrec h).op hok
   obtain ⟨env', q5, q6⟩ := dstK_inv q1
   exact ⟨true, v, env', H', q5, q2, q3, h1, q6, fun σ D a ha => wantK_inv ha h4 hw, fun e => (by cases e), fun _ => q4⟩
  ·rename_i hw
   obtain ⟨env', q5, q6⟩ := dstK_inv h
   exact ⟨false, undef, env', H, q5, hok, Nat.le_refl _, h1, q6, fun σ D a ha => wantK_inv ha h4 hw, fun _ => ⟨rfl, rfl⟩, fun e => (by cases e)⟩
  ·cases h
theorem opsK_cons (rec : Rec) (o : DOp) (l : List DOp) (env : Env) (H : AH) (c : Env → AH → Option Ans) : opsK rec (o :: l) env H c = stepO o rec env H fun env H => opsK rec l env H c := rfl
theorem ops_sound {orc : Orc} {rec : Rec} (ho : OrcGood P orc) (hrec : RecGood P rec) {n : Nat} {ops : Array Oper} {c : Env → AH → Option Ans} {r : Ans} {Q : Exit → Act → World → Prop} : ∀ (l : List Oper) (k : Nat) (env : Env) (H : AH) (σ : Ren) (a : Act) (w : World), (∀ j : Nat, l[j]? = ops[k + j]?) → AH.ok P H → opsK rec (decL P orc n ops l) env H c = some r → Sim P σ H.get w → ActR σ (Hp.dom H.get) env n a →
  (∀ env' H' σ' a' w', c env' H' = some r → AH.ok P H' → H.next ≤ H'.next → Sim P σ' H'.get w' → Fwd σ H.get w σ' H'.get w' → ActR σ' (Hp.dom H'.get) env' n a' → Q .normal a' w') → wpOps P ops Q (List.range' k l.length) a w
 | [], k, env, H, σ, a, w, _, hok, h, hS, hA, hc => hc env H σ a w h hok (Nat.le_refl _) hS (.refl _ _ _) hA
 | o :: l, k, env, H, σ, a, w, hl, hok, h, hS, hA, hc => by
  have hk : ops[k]? = some o := by have := hl 0; simpa using this.symm
  have hl' : ∀ j : Nat, l[j]? = ops[k + 1 + j]? := fun j => by
   have := hl (j + 1)
   rw [List.getElem?_cons_succ] at this
   rw [this, show k + (j + 1) = k + 1 + j by omega]
  unfold decL at h
  rw [opsK_cons] at h
  obtain ⟨b, v, env', H', q1, q2, q3, q4, q5, q6, q7, q8⟩ := stepO_inv ho hrec hok h
  rw [List.length_cons, List.range'_succ]
  have hwt := q6 σ _ a hA
  cases b with
  | false =>
   obtain ⟨rfl, rfl⟩ := q7 rfl
   refine wpOps_not hk hwt ?_
   exact ops_sound ho hrec l (k + 1) env' H' σ _ w hl' hok q1 hS (hA.put q4 q5 (.tuple _ _ .nil)) hc
  | true =>
   refine wpOps_some hk hwt ?_
   refine OpOk.wp (q8 rfl σ w a.eval hS (hA.rels hS)) fun v' w' hh => ?_
   obtain ⟨σ', g1, g2, g3⟩ := hh
   refine ops_sound ho hrec l (k + 1) env' H' σ' _ w' hl' q2 q1 g1 ((hA.mono g2.le).put q4 q5 g3) fun env2 H2 σ2 a2 w2 e1 e2 en e3 e4 e5 => ?_
   exact hc env2 H2 σ2 a2 w2 e1 e2 (Nat.le_trans q3 en) e3 (Fwd.trans hS g2 e4) e5
end
end Go.Proofs.YtdcbnkimjhefkaaGreatDoor

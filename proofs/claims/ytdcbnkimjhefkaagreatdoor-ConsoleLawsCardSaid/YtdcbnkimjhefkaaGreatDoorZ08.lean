/-
  Each operation, in the abstract and in a world: those that only reckon, those that read, those that lay a new row.
-/
import Derived.Test.YtdcbnkimjhefkaaGreatDoorZ07
namespace Go.Proofs.YtdcbnkimjhefkaaGreatDoor
section
variable {P : Program} {env : Env} {H : AH} {β : Type}
structure AH.ok (P : Program) (H : AH) : Prop where
  lo : P.globals.size ≤ H.next
  hi : ∀ b, H.next ≤ b → H.get b = none
  gl : ∀ g, g < P.globals.size → H.get g ≠ none
theorem AH.setK_inv {b : Nat} {x : Blk} {c : AH → Option β} {r : β} (h : H.setK b x c = some r) : ∃ H', c H' = some r ∧ H'.next = H.next ∧ H'.get = Hp.set H.get b x := by
  obtain ⟨t', h1, h2⟩ := Tr.setK_inv h
  exact ⟨⟨t', H.next⟩, h1, rfl, funext fun j => h2 j⟩
theorem AH.newK_inv {x : Blk} {c : Nat → AH → Option β} {r : β} (h : H.newK x c = some r) : ∃ H', c H.next H' = some r ∧ H'.next = H.next + 1 ∧ H'.get = Hp.set H.get H.next x := by
  obtain ⟨t', h1, h2⟩ := Tr.setK_inv h
  rw [natK_eq] at h1
  exact ⟨⟨t', H.next + 1⟩, h1, rfl, funext fun j => h2 j⟩
theorem AH.ok_set (hok : AH.ok P H) {H' : AH} {b : Nat} {x y : Blk} (hb : H.get b = some y) (hn : H'.next = H.next) (hg : H'.get = Hp.set H.get b x) : AH.ok P H' := by
  refine ⟨by rw [hn]; exact hok.1, fun j hj => ?_, fun g hlt => ?_⟩
  · rw [hg, Hp.set_other]
    · exact hok.2 j (by rw [hn] at hj; exact hj)
    · intro e; subst e; rw [hok.2 j (by rw [hn] at hj; exact hj)] at hb; cases hb
  · rw [hg]
    by_cases e : g = b
    · subst e; rw [Hp.set_same]; simp
    · rw [Hp.set_other e]; exact hok.gl g hlt
theorem AH.ok_new (hok : AH.ok P H) {H' : AH} {x : Blk} (hn : H'.next = H.next + 1) (hg : H'.get = Hp.set H.get H.next x) : AH.ok P H' := by
  refine ⟨by rw [hn]; exact Nat.le_succ_of_le hok.1, fun j hj => ?_, fun g hlt => ?_⟩
  · rw [hn] at hj
    rw [hg, Hp.set_other (by omega)]
    exact hok.2 j (by omega)
  · have := hok.1
    rw [hg, Hp.set_other (by omega)]
    exact hok.gl g hlt

/-! ### What is shown of an operation -/
/-- The operands stand for those of a frame. -/
def Rels (ρa : Operand → Option Value) (σ : Ren) (D : Dom) (ρ : Operand → Value) : Prop := ∀ x u, ρa x = some u → VR σ D u (ρ x)
def PureGood (P : Program) (ρa : Operand → Option Value) (o : Oper) (v : Value) : Prop :=
  ∀ σ D w ρ, Rels ρa σ D ρ → ∃ v', (execOp ρ o).run P w = .ok (.value v') w ∧ VR σ D v v'
def LoadGood (P : Program) (ρa : Operand → Option Value) (h : Hp) (o : Oper) (v : Value) : Prop :=
  ∃ b i t cs, h b = some ⟨i, .cells t cs⟩ ∧ ∀ σ D ρ, Rels ρa σ D ρ → D b ≠ none ∧ (D b = some i → ∀ w C T fr, w.heap[σ.blk b]? = some (.cells C T fr) → Row σ D b i t cs C T fr → ∃ v', (execOp ρ o).run P w = .ok (.value v') w ∧ VR σ D v v')
def AllocGood (P : Program) (ρa : Operand → Option Value) (id : Nat) (o : Oper) (v : Value) (i : Option (Nat × Nat)) (t : TypeId) (cs : List Value) : Prop :=
  (∀ sz e, i = some (sz, e) → cs.length = e) ∧ ∀ σ D w ρ, Rels ρa σ D ρ → ∃ cs' rest fr v' w', (i = none → rest = []) ∧ VRs σ D cs cs' ∧ (execOp ρ o).run P w = .ok (.value v') w' ∧ Push w w' (cs' ++ rest) t fr ∧
    ∀ (σ' : Ren) (D' : Dom), D' id = some i → σ'.blk id = w.heap.size → σ'.sh id = 0 → σ'.cap id = (cs' ++ rest).length → VR σ' D' v v'
def OpGood (P : Program) (ρa : Operand → Option Value) (H : AH) (o : Oper) (v : Value) (H' : AH) : Prop :=
  ∀ σ w ρ, Sim P σ H.get w → Rels ρa σ (Hp.dom H.get) ρ → OpOk P o ρ w (fun v' w' => ∃ σ', Sim P σ' H'.get w' ∧ Fwd σ H.get w σ' H'.get w' ∧ VR σ' (Hp.dom H'.get) v v')
def ResC (P : Program) (env : Env) (H : AH) (o : Oper) (c : Value → AH → Option β) (r : β) : Cls → Prop
  | .p => ∃ v, c v H = some r ∧ PureGood P (ev1 P env H) o v
  | .l => ∃ v, c v H = some r ∧ (PureGood P (ev1 P env H) o v ∨ LoadGood P (ev1 P env H) H.get o v)
  | .a => ∃ v H' i t cs, c v H' = some r ∧ H'.next = H.next + 1 ∧ H'.get = Hp.set H.get H.next ⟨i, .cells t cs⟩ ∧ AllocGood P (ev1 P env H) H.next o v i t cs
  | .w => ∃ v H', c v H' = some r ∧ AH.ok P H' ∧ H.next ≤ H'.next ∧ OpGood P (ev1 P env H) H o v H'
variable {o : Oper} {c : Value → AH → Option β} {r : β}
theorem PureGood.op {ρa : Operand → Option Value} {v : Value} (h : PureGood P ρa o v) : OpGood P ρa H o v H := fun σ w ρ hs hr =>
  let ⟨_, h1, h2⟩ := h σ _ w ρ hr
  OpOk.value h1 ⟨σ, hs, .refl _ _ _, h2⟩
theorem LoadGood.op {ρa : Operand → Option Value} {v : Value} (h : LoadGood P ρa H.get o v) : OpGood P ρa H o v H := fun σ w ρ hs hr => by
  obtain ⟨b, i, t, cs, hb, hh⟩ := h
  obtain ⟨C, T, fr, h1, h2⟩ := hs.row _ _ _ _ hb
  obtain ⟨v', h3, h4⟩ := (hh σ _ ρ hr).2 (Hp.dom_some hb) w C T fr h1 h2
  exact OpOk.value h3 ⟨σ, hs, .refl _ _ _, h4⟩
theorem AllocGood.op {ρa : Operand → Option Value} (hok : AH.ok P H) {H' : AH} {v : Value} {i : Option (Nat × Nat)} {t : TypeId} {cs : List Value} (hg : H'.get = Hp.set H.get H.next ⟨i, .cells t cs⟩) (h : AllocGood P ρa H.next o v i t cs) : OpGood P ρa H o v H' := fun σ w ρ hs hr => by
  obtain ⟨hi, hh⟩ := h
  obtain ⟨cs', rest, fr, v', w', gr, g1, g2, gp, g3⟩ := hh σ _ w ρ hr
  obtain ⟨σ', g4, g5, g6, g7, g8⟩ := hs.new H.next (hok.2 _ (Nat.le_refl _)) hok.1 i t t cs cs' rest g1 hi rfl gr gp
  refine OpOk.value g2 ⟨σ', by rw [hg]; exact g4, by rw [hg]; exact g5, ?_⟩
  rw [hg]
  exact g3 σ' _ (by simp [Hp.dom, Hp.set_same]) g6 g7 g8
/-- Whatever it is: the operation, in memory. -/
theorem ResC.op (hok : AH.ok P H) : ∀ {k : Cls}, ResC P env H o c r k → ∃ v H', c v H' = some r ∧ AH.ok P H' ∧ H.next ≤ H'.next ∧ OpGood P (ev1 P env H) H o v H'
  | .p, ⟨v, h1, h2⟩ => ⟨v, H, h1, hok, Nat.le_refl _, h2.op⟩
  | .l, ⟨v, h1, h2⟩ => ⟨v, H, h1, hok, Nat.le_refl _, h2.elim PureGood.op LoadGood.op⟩
  | .a, ⟨v, H', i, t, cs, h1, h2, h3, h4⟩ => ⟨v, H', h1, AH.ok_new hok h2 h3, by omega, h4.op hok h3⟩
  | .w, h => h

/-! ### Small things -/
theorem pureK_inv {s : Sem Value} (h : pureK P s H c = some r) : ∃ v, prun P s = some v ∧ atomV v = true ∧ c v H = some r := by
  unfold pureK at h
  split at h
  · rename_i v hv
    split at h
    · rename_i ha; exact ⟨v, hv, ha, by simpa using h⟩
    · cases h
  · cases h
theorem run_v {s : Sem Value} {v : Value} {w : World} (h : s.run P w = .ok v w) : (do let x ← s; pure (Next.value x) : Sem Next).run P w = .ok (.value v) w := by
  show (s.bind fun v => Sem.pure (Next.value v)).run P w = _
  rw [Sem.run_bind', h]
  rfl
theorem run_v2 {s : Sem Value} {v : Value} {w w' : World} (h : s.run P w = .ok v w') : (do let x ← s; pure (Next.value x) : Sem Next).run P w = .ok (.value v) w' := by
  show (s.bind fun v => Sem.pure (Next.value v)).run P w = _
  rw [Sem.run_bind', h]
  rfl
theorem run_u2 {s : Sem Unit} {w w' : World} (h : s.run P w = .ok () w') : (do s; pure Next.skip : Sem Next).run P w = .ok .skip w' := by
  show (s.bind fun _ => Sem.pure Next.skip).run P w = _
  rw [Sem.run_bind', h]
  rfl
theorem res_pure {s : Sem Value} (h : pureK P s H c = some r) (hs : ∀ σ D ρ, Rels (ev1 P env H) σ D ρ → execOp ρ o = (do let x ← s; pure (.value x))) : ResC P env H o c r .p := by
  obtain ⟨v, h1, ha, h2⟩ := pureK_inv h
  refine ⟨v, h2, fun σ D w ρ hr => ⟨v, ?_, .of_atomV ha⟩⟩
  rw [hs σ D ρ hr]
  exact run_v (prun_sound h1)
theorem cellsL_eq (v : Value) : v.cells = (cellsL v).toArray := by
  unfold Value.cells cellsL
  cases v <;> rfl
theorem VR.cells {σ : Ren} {D : Dom} {v v' : Value} (h : VR σ D v v') : VRs σ D (cellsL v) (cellsL v') := by
  cases h with
  | agg l l' hl => exact hl
  | bool b => exact .cons _ _ _ _ (.bool b) .nil
  | int k n => exact .cons _ _ _ _ (.int k n) .nil
  | float k n => exact .cons _ _ _ _ (.float k n) .nil
  | complex k n m => exact .cons _ _ _ _ (.complex k n m) .nil
  | string s => exact .cons _ _ _ _ (.string s) .nil
  | nilptr => exact .cons _ _ _ _ .nilptr .nil
  | ptr a x h hs => exact .cons _ _ _ _ (.ptr a x h hs) .nil
  | nilslice n c => exact .cons _ _ _ _ (.nilslice n c) .nil
  | slice a n c x h hs => exact .cons _ _ _ _ (.slice a n c x h hs) .nil
  | sliceo a n c c' sz e h hs he hc hle => exact .cons _ _ _ _ (.sliceo a n c c' sz e h hs he hc hle) .nil
  | emptyU b o s a' c' => exact .cons _ _ _ _ (.emptyU b o s a' c') .nil
  | nilmap => exact .cons _ _ _ _ .nilmap .nil
  | mapv b x h => exact .cons _ _ _ _ (.mapv b x h) .nil
  | nilchan => exact .cons _ _ _ _ .nilchan .nil
  | nilFunc => exact .cons _ _ _ _ .nilFunc .nil
  | nilIface => exact .cons _ _ _ _ .nilIface .nil
  | func fn f f' c c' h1 h2 => exact .cons _ _ _ _ (.func fn f f' c c' h1 h2) .nil
  | iface t v v' h => exact .cons _ _ _ _ (.iface t v v' h) .nil
  | tuple l l' h => exact .cons _ _ _ _ (.tuple l l' h) .nil
theorem ones_vr {σ : Ren} {D : Dom} : ∀ {l l' : List Value}, VRs σ D l l' → ones l = true → ∀ v ∈ l', v.oneCell' = true
  | [], _, h, _ => by cases h; simp
  | v :: l, _, h, ho => by
    cases h with
    | cons _ v' _ l' h1 h2 =>
      unfold ones at ho
      split at ho
      · rename_i hv
        intro u hu
        rcases List.mem_cons.1 hu with rfl | hu
        · cases h1 <;> first | rfl | (cases hv; done)
        · exact ones_vr h2 ho u hu
      · cases ho
theorem run_zero {t : TypeId} {z : Value} (h : zeroB P t = some z) (w : World) : (zeroValue t).run P w = .ok z w := by
  unfold zeroB at h
  rw [Option.bind_eq_some_iff] at h
  obtain ⟨i, h1, h2⟩ := h
  simp [zeroValue, typeInfo, h1, h2]
theorem run_size {t : TypeId} {n : Nat} (h : sizeB P t = some n) (w : World) : (sizeOf t).run P w = .ok n w := by
  unfold sizeB at h
  rw [Option.map_eq_some_iff] at h
  obtain ⟨i, h1, h2⟩ := h
  simp [sizeOf, typeInfo, h1, h2]
theorem run_isAgg {t : TypeId} {b : Bool} (h : isAggB P t = some b) (w : World) : (isAgg t).run P w = .ok b w := by
  unfold isAggB at h
  split at h
  · rename_i fs hu; obtain rfl := Option.some.inj h; simp [isAgg, run_underlying hu]
  · rename_i n e hu; obtain rfl := Option.some.inj h; simp [isAgg, run_underlying hu]
  · rename_i d h1 h2 hu
    obtain rfl := Option.some.inj h
    cases d <;> first | (exact (h1 _ rfl).elim) | (exact (h2 _ _ rfl).elim) | simp [isAgg, run_underlying hu]
  · cases h
theorem add_addr (a : Addr) (n : Nat) (hs : a.spot = none) : a.add n = ⟨a.block, a.off + n, none⟩ := by
  unfold Addr.add
  split
  · rename_i e; subst e; cases a; simp_all
  · simp
theorem VR.ptr_inv {σ : Ren} {D : Dom} {b off : Nat} {u : Value} (h : VR σ D (.pointer (some ⟨b, off, none⟩)) u) : D b ≠ none ∧ u = .pointer (some ⟨σ.blk b, σ.sh b + off, none⟩) := by
  cases h with
  | ptr a x h hs => exact ⟨fun e => (by rw [show (⟨b, off, none⟩ : Addr).block = b from rfl, e] at h; cases h), rfl⟩

/-! ### Operations that only reckon -/
theorem good_move {x : Operand} (hop : o.op = .move x ∨ o.op = .assign x) (h : moveK P env H x c = some r) : ResC P env H o c r .p := by
  unfold moveK at h
  split at h
  · rename_i v hv
    refine ⟨v, h, fun σ D w ρ hr => ⟨ρ x, ?_, hr x v hv⟩⟩
    rcases hop with hop | hop <;> (simp only [execOp, hop]; rfl)
  · cases h
theorem good_pick {b x y : Operand} (hop : o.op = .pick b x y) (h : pickK P env H b x y c = some r) : ResC P env H o c r .p := by
  unfold pickK at h
  split at h
  · rename_i hb
    unfold moveK at h
    split at h
    · rename_i v hv
      refine ⟨v, h, fun σ D w ρ hr => ⟨ρ x, ?_, hr x v hv⟩⟩
      have hbv := hr b _ hb
      cases hρ : ρ b with
      | bool t => rw [hρ] at hbv; cases hbv; simp [execOp, hop, hρ, asBool]
      | _ => rw [hρ] at hbv; cases hbv
    · cases h
  · rename_i hb
    unfold moveK at h
    split at h
    · rename_i v hv
      refine ⟨v, h, fun σ D w ρ hr => ⟨ρ y, ?_, hr y v hv⟩⟩
      have hbv := hr b _ hb
      cases hρ : ρ b with
      | bool t => rw [hρ] at hbv; cases hbv; simp [execOp, hop, hρ, asBool]
      | _ => rw [hρ] at hbv; cases hbv
    · cases h
  · cases h
theorem good_nilCheck {x : Operand} (hop : o.op = .nilCheck x) (h : nilCheckK P env H x c = some r) : ResC P env H o c r .p := by
  unfold nilCheckK at h
  split at h
  · rename_i a ha
    refine ⟨_, h, fun σ D w ρ hr => ⟨ρ x, ?_, hr x _ ha⟩⟩
    have hv := hr x _ ha
    cases hρ : ρ x with
    | pointer b => rw [hρ] at hv; cases hv with | ptr a y h hs => simp [execOp, hop, hρ]
    | _ => rw [hρ] at hv; cases hv
  · rename_i g f d ha
    refine ⟨_, h, fun σ D w ρ hr => ⟨ρ x, ?_, hr x _ ha⟩⟩
    have hv := hr x _ ha
    cases hρ : ρ x with
    | func fn f c => rw [hρ] at hv; cases hv with | func fn f f' c c' h1 h2 => simp [execOp, hop, hρ]
    | _ => rw [hρ] at hv; cases hv
  · cases h
theorem good_un {op : UnOp} {T : TypeId} {x : Operand} (hop : o.op = .unOp op T x) (h : unK P env H op x c = some r) : ResC P env H o c r .p := by
  unfold unK at h
  split at h
  · rename_i a ha
    split at h
    · rename_i hat
      exact res_pure h fun σ D ρ hr => by simp only [execOp, hop, show ρ x = a from (hr x a ha).atomV hat]
    · cases h
  · cases h
theorem good_extract {x : Operand} {i : Nat} (hop : o.op = .extract x i) (h : extractK P env H x i c = some r) : ResC P env H o c r .p := by
  unfold extractK at h
  split at h
  · rename_i l hl
    split at h
    · rename_i v hv
      rw [nth_eq] at hv
      refine ⟨v, h, fun σ D w ρ hr => ?_⟩
      have hx := hr x _ hl
      cases hρ : ρ x with
      | tuple m =>
        rw [hρ] at hx
        cases hx with
        | tuple l l' hll =>
          obtain ⟨v', h1, h2⟩ := hll.get hv
          exact ⟨v', by simp [execOp, hop, hρ, Instr.extract, h1], h2⟩
      | _ => rw [hρ] at hx; cases hx
    · cases h
  · cases h
end
end Go.Proofs.YtdcbnkimjhefkaaGreatDoor

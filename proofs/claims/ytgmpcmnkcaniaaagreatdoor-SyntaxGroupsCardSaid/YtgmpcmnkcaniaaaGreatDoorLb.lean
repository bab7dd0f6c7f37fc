/-
  Closed runs: what a run of the machine says of calls in worlds.
-/
import Derived.Test.YtgmpcmnkcaniaaaGreatDoorLa
namespace Go.Proofs.YtgmpcmnkcaniaaaGreatDoor
open Go.RowKit
/-! ### Memory written out -/
noncomputable def Tr.lt {α : Type} : Tr α → Nat → Bool
  | .lf, _ => true
  | .nd l v r, n => (v.isNone || Nat.blt 0 n) && (l.lt (n / 2) && r.lt ((n - 1) / 2))
theorem Tr.get_of_lt {α : Type} : ∀ {t : Tr α} {n k : Nat}, t.lt n = true → n ≤ k → t.get k = none
  | .lf, _, _, _, _ => rfl
  | .nd l v r, n, k, h, hk => by
    unfold Tr.lt at h
    rw [Bool.and_eq_true, Bool.and_eq_true] at h
    obtain ⟨h1, h2, h3⟩ := h
    cases k with
    | zero =>
      have : n = 0 := by omega
      subst this
      rw [Tr.get_zero]
      cases v with
      | none => rfl
      | some x => cases h1
    | succ k =>
      rw [Tr.get_succ]
      cases hb : Nat.beq (Nat.mod k 2) 0 with
      | true =>
        have hm : k % 2 = 0 := Nat.eq_of_beq_eq_true hb
        refine Tr.get_of_lt h2 ?_
        show n / 2 ≤ k / 2
        omega
      | false =>
        have hm : k % 2 ≠ 0 := fun e => by
          have : Nat.beq (Nat.mod k 2) 0 = true := by rw [Nat.beq_eq]; exact e
          rw [this] at hb; cases hb
        refine Tr.get_of_lt h3 ?_
        show (n - 1) / 2 ≤ k / 2
        omega
noncomputable def okB (P : Program) (H : AH) : Bool := Nat.ble P.globals.size H.next && (H.m.lt H.next && (List.range P.globals.size).all fun g => (H.get g).isSome)
theorem ok_of {P : Program} {H : AH} (h : okB P H = true) : AH.ok P H := by
  unfold okB at h
  rw [Bool.and_eq_true, Bool.and_eq_true, List.all_eq_true] at h
  obtain ⟨h1, h2, h3⟩ := h
  refine ⟨Nat.le_of_ble_eq_true h1, fun b hb => Tr.get_of_lt h2 hb, fun g hg => ?_⟩
  have := h3 g (List.mem_range.2 hg)
  intro e
  rw [e] at this
  cases this
def idR : Ren := ⟨fun b => b, fun _ => 0, fun _ => 0⟩
/-- No row is known. -/
noncomputable def deadB : Tr Blk → Bool
  | .lf => true
  | .nd l v r => (match v with
    | some ⟨_, .cells _ _⟩ => false
    | _ => true) && (deadB l && deadB r)
theorem dead_get : ∀ {t : Tr Blk} {k : Nat} {i : Option (Nat × Nat)} {T : TypeId} {cs : List Value}, deadB t = true → t.get k = some ⟨i, .cells T cs⟩ → False
  | .lf, _, _, _, _, _, h => by cases h
  | .nd l v r, k, i, T, cs, hd, h => by
    unfold deadB at hd
    rw [Bool.and_eq_true, Bool.and_eq_true] at hd
    obtain ⟨h1, h2, h3⟩ := hd
    cases k with
    | zero =>
      rw [Tr.get_zero] at h
      subst h
      cases h1
    | succ k =>
      rw [Tr.get_succ] at h
      cases hb : Nat.beq (Nat.mod k 2) 0 with
      | true => rw [hb] at h; exact dead_get h2 h
      | false => rw [hb] at h; exact dead_get h3 h
theorem sim_dead {P : Program} {H : AH} (hd : deadB H.m = true) (w : World) : Sim P idR H.get w :=
  ⟨fun _ _ _ _ h => (dead_get hd h).elim, fun _ _ ⟨_, _, _, h⟩ => (dead_get hd h).elim, fun _ _ _ => ⟨rfl, rfl⟩⟩
/-- Where no old row was known, all old blocks are as they were. -/
theorem Fwd.below {σ σ' : Ren} {h h' : Hp} {w w' : World} (F : Fwd σ h w σ' h' w') {B : Nat} (hB : B ≤ w.heap.size) (hl : ∀ b, h.live b → B ≤ σ.blk b) : Below B w w' :=
  ⟨F.os, F.tape, F.output, F.size, fun k hk => F.old k (Nat.lt_of_lt_of_le hk hB) fun b hb e => by have := hl b hb; omega⟩
/-- A closed call. -/
theorem closed_call {P : Program} {orc : Orc} (hm : P.follows .mixedOrders = true) (ho : OrcGood P orc) {d : Nat} {f : FuncId} {args : List Value} {H : AH} {v : Value} (hd : deadB H.m = true) (hok : okB P H = true) (ha : (args.all atomV && atomV v) = true) (h : (evalK P orc (drawK P orc) d f args H).map (·.1) = some v) (w : World) :
    Calls P f args.toArray w fun e w' => e = .returned v ∧ Below w.heap.size w w' := by
  rw [Option.map_eq_some_iff] at h
  obtain ⟨⟨v1, H'⟩, h1, h2⟩ := h
  simp only at h2
  subst h2
  rw [Bool.and_eq_true, List.all_eq_true] at ha
  have hargs : ∀ l : List Value, (∀ u ∈ l, atomV u = true) → VRs idR (Hp.dom H.get) l l := by
    intro l
    induction l with
    | nil => exact fun _ => .nil
    | cons u l ih => exact fun hu => .cons _ _ _ _ (.of_atomV (hu u (by simp))) (ih fun x hx => hu x (by simp [hx]))
  refine ((eval_sound ho (draw_good hm ho) d f args H v1 H' (ok_of hok) h1).2.2 idR w args (sim_dead hd w) (hargs args ha.1)).mono fun e w' hL => ?_
  obtain ⟨v', rfl, σ', hS, hF, hv⟩ := hL
  exact ⟨by rw [hv.atomV ha.2], hF.below (Nat.le_refl _) fun b ⟨_, _, _, hb⟩ => (dead_get hd hb).elim⟩
/-! ### strings.Join -/
noncomputable def joinG : List Value → AH → Option Value := fun args H => match args with
  | [.slice (some ⟨b, o, none⟩) n m, .string sep] => match Nat.ble n m && Nat.ble n 1000000 with
    | true => match joinF [.slice (some ⟨b, o, none⟩) n m, .string sep] H with
      | some (.string s) => match Nat.ble s.data.toList.length 140737488355328 with
        | true => some (.string s)
        | false => none
      | _ => none
    | false => none
  | _ => none
theorem strsOf_inv : ∀ {l : List Value} {r : List (List UInt8)}, strsOf l = some r → l = r.map fun x => .string ⟨⟨x⟩⟩
  | [], r, h => by obtain rfl := Option.some.inj h; rfl
  | v :: l, r, h => by
    unfold strsOf at h
    split at h
    · rename_i e; cases e
    · rename_i s l' e
      obtain ⟨rfl, rfl⟩ := List.cons.inj e
      split at h
      · rename_i r' hr
        obtain rfl := Option.some.inj h
        rw [List.map_cons, ← strsOf_inv hr]
      · cases h
    · cases h
theorem joinL_eq (sep : List UInt8) : ∀ l : List (List UInt8), joinL sep l = List.intercalate sep l
  | [] => rfl
  | [x] => by simp [joinL, List.intercalate]
  | x :: y :: l => by
    have ih := joinL_eq sep (y :: l)
    unfold joinL
    simp only
    rw [ih]
    simp [List.intercalate, List.intersperse]
theorem join_good {P : Program} {g : FuncId}
    (hj : ∀ (bk o c : Nat) (xs : List ByteArray) (sep : ByteArray) (w : World), (∀ (j : Nat) x, xs[j]? = some x → w.cell? ⟨bk, o + j, none⟩ = some (.string x)) → bk < w.heap.size → xs.length ≤ 140737488355328 → xs.length ≤ c → (sep.data.toList.intercalate (xs.map (·.data.toList))).length ≤ 140737488355328 →
      Calls P g #[.slice (some ⟨bk, o, none⟩) xs.length c, .string sep] w fun e w' => e = .returned (.string ⟨(sep.data.toList.intercalate (xs.map (·.data.toList))).toArray⟩) ∧ Below w.heap.size w w')
    {args : List Value} {H : AH} {v : Value} (h : joinG args H = some v) {σ : Ren} {w : World} {args' : List Value} (hS : Sim P σ H.get w) (hv : VRs σ (Hp.dom H.get) args args') : Calls P g args'.toArray w fun e w' => e = .returned v ∧ Below w.heap.size w w' := by
  unfold joinG at h
  split at h
  · rename_i b o n m sep
    split at h
    · rename_i hnm
      rw [Bool.and_eq_true] at hnm
      have hnm1 := Nat.le_of_ble_eq_true hnm.1
      have hn2 := Nat.le_of_ble_eq_true hnm.2
      split at h
      · rename_i s hF
        split at h
        · rename_i hlen
          obtain rfl := Option.some.inj h
          unfold joinF at hF
          simp only at hF
          split at hF
          · rename_i i T cs hb
            obtain ⟨h1, h2⟩ := rowK_inv hF
            split at h2
            · rename_i l hl
              have hs : s = ⟨⟨joinL sep.data.toList l⟩⟩ := by
                have := Option.some.inj h2
                simp only [Value.string.injEq] at this
                exact this.symm
              have hl2 := strsOf_inv hl
              have hlen2 : ((cs.drop o).take n).length = n := by
                rw [List.length_take, List.length_drop]
                omega
              have hll : l.length = n := by rw [hl2] at hlen2; simpa using hlen2
              cases hv with
              | cons _ u1 _ r1 hv1 hv2 =>
                cases hv2 with
                | cons _ u2 _ r2 hv3 hv4 =>
                  cases hv4
                  obtain rfl := hv3.atomV rfl
                  have hsl : ∃ c', m ≤ c' ∧ u1 = .slice (some ⟨σ.blk b, σ.sh b + o, none⟩) n c' := by
                    cases hv1 with
                    | slice a _ _ x hx hs => exact ⟨m, Nat.le_refl _, rfl⟩
                    | sliceo a _ _ c' sz e hx hs he hc hle => exact ⟨c', hle, rfl⟩
                  obtain ⟨c', hc', rfl⟩ := hsl
                  have hlt := hS.lt ⟨_, _, _, hb⟩
                  have hmap : (l.map fun x => (⟨⟨x⟩⟩ : ByteArray)).map (·.data.toList) = l := by simp [Function.comp_def]
                  have key := hj (σ.blk b) (σ.sh b + o) c' (l.map fun x => ⟨⟨x⟩⟩) sep w (fun j x hx => ?_) hlt (by simp; omega) (by simp; omega) ?_
                  · rw [hmap] at key
                    have he : (l.map fun x => (⟨⟨x⟩⟩ : ByteArray)).length = n := by simp [hll]
                    rw [he] at key
                    refine key.mono fun e w' hh => ⟨?_, hh.2⟩
                    rw [hh.1, hs, joinL_eq]
                  · have hx2 : l[j]? = some x.data.toList := by
                      rw [List.getElem?_map] at hx
                      cases hlj : l[j]? with
                      | none => rw [hlj] at hx; cases hx
                      | some y => rw [hlj] at hx; obtain rfl := Option.some.inj hx; rfl
                    have hj2 : ((cs.drop o).take n)[j]? = some (.string x) := by
                      rw [hl2, List.getElem?_map, hx2]
                      rfl
                    rw [List.getElem?_take] at hj2
                    split at hj2
                    · rw [List.getElem?_drop] at hj2
                      obtain ⟨v', q1, q2⟩ := hS.cell hb hj2
                      obtain rfl := q2.atomV rfl
                      rw [Nat.add_assoc]
                      exact q1
                    · cases hj2
                  · rw [hmap, ← joinL_eq]
                    have := Nat.le_of_ble_eq_true hlen
                    rw [hs] at this
                    exact this
            · cases h2
          · cases hF
        · cases h
      · cases h
    · cases h
  · cases h
end Go.Proofs.YtgmpcmnkcaniaaaGreatDoor

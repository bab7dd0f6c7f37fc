/-
  Closed runs: what a run of the machine says of calls in worlds.
  Functions that are told by a contract: strings.Builder's copyCheck and String, slices.Sorted over the keys of a map.
-/
import Derived.Test.YtdcbnkimjhefkaaGreatDoorZ27
namespace Go.Proofs.YtdcbnkimjhefkaaGreatDoor
open Go.RowKit
/-! ### Memory written out -/
noncomputable def Tr.lt {α : Type} : Tr α → Nat → Bool
  | .lf, _ => true
  | .nd l v r, n => (v.isNone || Nat.blt 0 n) && (l.lt (n / 2) && r.lt ((n - 1) / 2))
theorem Tr.get_of_lt {α : Type} : ∀ {t : Tr α} {n k : Nat}, t.lt n = true → n ≤ k → t.get k = none
  | .lf, _, _, _, _ => rfl
  | .nd l v r, n, k, h, hk => by
    unfold Tr.lt at h
    rw [Bool.and_eq_true, Bool.and_eq_true] at h
    obtain ⟨h1, h2, h3⟩ := h
    cases k with
    | zero =>
      have : n = 0 := by omega
      subst this
      rw [Tr.get_zero]
      cases v with
      | none => rfl
      | some x => cases h1
    | succ k =>
      rw [Tr.get_succ]
      cases hb : Nat.beq (Nat.mod k 2) 0 with
      | true =>
        have hm : k % 2 = 0 := Nat.eq_of_beq_eq_true hb
        refine Tr.get_of_lt h2 ?_
        show n / 2 ≤ k / 2
        omega
      | false =>
        have hm : k % 2 ≠ 0 := fun e => by
          have : Nat.beq (Nat.mod k 2) 0 = true := by rw [Nat.beq_eq]; exact e
          rw [this] at hb; cases hb
        refine Tr.get_of_lt h3 ?_
        show (n - 1) / 2 ≤ k / 2
        omega
noncomputable def okB (P : Program) (H : AH) : Bool := Nat.ble P.globals.size H.next && (H.m.lt H.next && (List.range P.globals.size).all fun g => (H.get g).isSome)
theorem ok_of {P : Program} {H : AH} (h : okB P H = true) : AH.ok P H := by
  unfold okB at h
  rw [Bool.and_eq_true, Bool.and_eq_true, List.all_eq_true] at h
  obtain ⟨h1, h2, h3⟩ := h
  refine ⟨Nat.le_of_ble_eq_true h1, fun b hb => Tr.get_of_lt h2 hb, fun g hg => ?_⟩
  have := h3 g (List.mem_range.2 hg)
  intro e
  rw [e] at this
  cases this
def idR : Ren := ⟨fun b => b, fun _ => 0, fun _ => 0⟩
/-- No row is known. -/
noncomputable def deadB : Tr Blk → Bool
  | .lf => true
  | .nd l v r => (match v with
    | some ⟨_, .dead⟩ => true
    | none => true
    | _ => false) && (deadB l && deadB r)
theorem dead_get : ∀ {t : Tr Blk} {k : Nat} {i : Option (Nat × Nat)} {x : Body}, deadB t = true → t.get k = some ⟨i, x⟩ → x = .dead
  | .lf, _, _, _, _, h => by cases h
  | .nd l v r, k, i, x, hd, h => by
    unfold deadB at hd
    rw [Bool.and_eq_true, Bool.and_eq_true] at hd
    obtain ⟨h1, h2, h3⟩ := hd
    cases k with
    | zero =>
      rw [Tr.get_zero] at h
      subst h
      cases x with
      | dead => rfl
      | _ => cases h1
    | succ k =>
      rw [Tr.get_succ] at h
      cases hb : Nat.beq (Nat.mod k 2) 0 with
      | true => rw [hb] at h; exact dead_get h2 h
      | false => rw [hb] at h; exact dead_get h3 h
theorem sim_dead {P : Program} {H : AH} (hd : deadB H.m = true) (w : World) : Sim P idR H.get w :=
  ⟨fun _ _ _ h hx => (hx (dead_get hd h)).elim, fun _ _ ⟨_, _, h, hx⟩ => (hx (dead_get hd h)).elim, fun _ _ _ => ⟨rfl, rfl⟩⟩
/-- Where no old row was known but those that are only read, all old blocks are as they were. -/
theorem Fwd.below {σ σ' : Ren} {h h' : Hp} {w w' : World} (F : Fwd σ h w σ' h' w') {B : Nat} (hB : B ≤ w.heap.size) (hl : ∀ b, h.live b → B ≤ σ.blk b ∨ ∃ e t cs, h b = some ⟨some (0, e), .cells t cs⟩) : Below B w w' := by
  refine ⟨F.os, F.tape, F.output, F.size, fun k hk => ?_⟩
  by_cases hx : ∃ b, h.live b ∧ σ.blk b = k
  · obtain ⟨b, hb, rfl⟩ := hx
    rcases hl b hb with h1 | ⟨e, t, cs, h2⟩
    · omega
    · exact (F.ro b e t cs h2).2
  · exact F.old k (Nat.lt_of_lt_of_le hk hB) fun b hb e => hx ⟨b, hb, e⟩
/-- Variables that are only read: each row known lies in the world, under its own number. -/
structure Reads0 (P : Program) (H : AH) (w : World) : Prop where
  row : ∀ b i x, H.get b = some ⟨i, x⟩ → x ≠ .dead → ∃ t cs, x = .cells t cs ∧ b < P.globals.size ∧ i = some (0, cs.length) ∧ atoms0 cs = true ∧ ∀ j v, cs[j]? = some v → w.cell? ⟨b, j, none⟩ = some v
theorem Reads0.dead {P : Program} {H : AH} (hd : deadB H.m = true) (w : World) : Reads0 P H w := ⟨fun _ _ _ h hx => (hx (dead_get hd h)).elim⟩
theorem cell_size {w : World} {b j : Nat} {v : Value} (h : w.cell? ⟨b, j, none⟩ = some v) : ∃ C T fr, w.heap[b]? = some (.cells C T fr) ∧ C[j]? = some v := by
  unfold World.cell? at h
  simp only at h
  split at h
  · rename_i C T fr hb; exact ⟨C, T, fr, hb, h⟩
  · cases h
noncomputable def capR (H : AH) : Ren := ⟨fun b => b, fun _ => 0, fun b => match H.get b with
  | some ⟨_, .cells _ cs⟩ => cs.length
  | _ => 0⟩
theorem atoms_get {σ : Ren} {D : Dom} {cs : List Value} (h : atoms0 cs = true) {j : Nat} {v : Value} (hj : cs[j]? = some v) : VR σ D v v := by
  obtain ⟨v', h1, h2⟩ := (VRs.of_atoms0 (σ := σ) (D := D) h).get hj
  rw [hj] at h1
  obtain rfl := Option.some.inj h1
  exact h2
theorem Reads0.sim {P : Program} {H : AH} {w : World} (h : Reads0 P H w) (hne : ∀ b i t, H.get b ≠ some ⟨i, .cells t []⟩) : Sim P (capR H) H.get w := by
  refine ⟨fun b i x hb hx => ?_, fun b b' _ _ hne => hne, fun _ _ _ => ⟨rfl, rfl⟩⟩
  obtain ⟨t, cs, rfl, h1, h2, h3, h4⟩ := h.row b i x hb hx
  cases cs with
  | nil => exact (hne b i t hb).elim
  | cons v0 r =>
    obtain ⟨C, T, fr, q1, q2⟩ := cell_size (h4 0 v0 rfl)
    have hall : ∀ j v, (v0 :: r)[j]? = some v → C[j]? = some v := fun j v hj => by
      obtain ⟨C', T', fr', q3, q4⟩ := cell_size (h4 j v hj)
      rw [q1] at q3
      obtain ⟨rfl, _, _⟩ := by simpa using q3
      exact q4
    have hsz : (v0 :: r).length ≤ C.size := by
      have hlast : (v0 :: r)[r.length]? = some ((v0 :: r)[r.length]'(by simp)) := List.getElem?_eq_getElem _
      have := (Array.getElem?_eq_some_iff.1 (hall _ _ hlast)).1
      simp only [List.length_cons]
      omega
    have hcap : (capR H).cap b = (v0 :: r).length := by
      show (match H.get b with
        | some ⟨_, .cells _ cs⟩ => cs.length
        | _ => 0) = _
      rw [hb]
    refine ⟨_, q1, C, T, fr, rfl, ⟨fun hn => (hn _ h2).elim, ?_, fun j v hj => ⟨v, ?_, atoms_get h3 hj⟩, fun sz e he => ?_, fun hn => (hn _ h2).elim, rfl, fun hn => by rw [h2] at hn; cases hn⟩⟩
    · show 0 + (v0 :: r).length ≤ C.size
      omega
    · show C[0 + j]? = some v
      rw [Nat.zero_add]; exact hall j v hj
    · rw [h2] at he
      simp only [Option.some.injEq, Prod.mk.injEq] at he
      rw [hcap]
      show _ ∧ _ ∧ 0 + _ ≤ _
      omega
/-- A closed call, variables being read. -/
theorem closed_call0 {P : Program} {orc : Orc} (hm : P.follows .mixedOrders = true) (ho : OrcGood P orc) {d : Nat} {f : FuncId} {args : List Value} {H : AH} {v : Value} (hok : okB P H = true) (ha : (args.all atomV && atomV v) = true) (h : (evalK P orc (drawK P orc) d f args H).map (·.1) = some v) (w : World) (hw : Reads0 P H w) (hne : ∀ b i t, H.get b ≠ some ⟨i, .cells t []⟩) :
    Calls P f args.toArray w fun e w' => e = .returned v ∧ Below w.heap.size w w' := by
  rw [Option.map_eq_some_iff] at h
  obtain ⟨⟨v1, H'⟩, h1, h2⟩ := h
  simp only at h2
  subst h2
  rw [Bool.and_eq_true, List.all_eq_true] at ha
  have hargs : ∀ l : List Value, (∀ u ∈ l, atomV u = true) → VRs (capR H) (Hp.dom H.get) l l := by
    intro l
    induction l with
    | nil => exact fun _ => .nil
    | cons u l ih => exact fun hu => .cons _ _ _ _ (.of_atomV (hu u (by simp))) (ih fun x hx => hu x (by simp [hx]))
  refine ((eval_sound ho (draw_good hm ho) d f args H v1 H' (ok_of hok) h1).2.2 (capR H) w args (hw.sim hne) (hargs args ha.1)).mono fun e w' hL => ?_
  obtain ⟨v', rfl, σ', hS, hF, hv⟩ := hL
  refine ⟨by rw [hv.atomV ha.2], hF.below (Nat.le_refl _) fun b ⟨i, x, hb, hx⟩ => .inr ?_⟩
  obtain ⟨t, cs, rfl, _, rfl, _, _⟩ := hw.row b i x hb hx
  exact ⟨_, _, _, hb⟩
/-- A closed call. -/
theorem closed_call {P : Program} {orc : Orc} (hm : P.follows .mixedOrders = true) (ho : OrcGood P orc) {d : Nat} {f : FuncId} {args : List Value} {H : AH} {v : Value} (hd : deadB H.m = true) (hok : okB P H = true) (ha : (args.all atomV && atomV v) = true) (h : (evalK P orc (drawK P orc) d f args H).map (·.1) = some v) (w : World) :
    Calls P f args.toArray w fun e w' => e = .returned v ∧ Below w.heap.size w w' :=
  closed_call0 hm ho hok ha h w (.dead hd w) (fun _ _ _ h => nomatch dead_get hd h)
end Go.Proofs.YtdcbnkimjhefkaaGreatDoor

namespace Go.Proofs.YtdcbnkimjhefkaaGreatDoor
noncomputable def bytesE : List Value → Option (List UInt8)
  | [] => some []
  | .int .u8 (.ofNat n) :: l => match Nat.blt n 256 with
    | true => match bytesE l with
      | some r => some (UInt8.ofNat n :: r)
      | none => none
    | false => none
  | _ => none
noncomputable def copyCheckF (tB : TypeId) : List Value → AH → Option (Value × AH)
  | [.pointer (some ⟨b, 0, none⟩)], H => match H.get b with
    | some ⟨none, .cells t [.pointer none, v]⟩ => match one0 v && Nat.beq t tB with
      | true => H.setK b ⟨none, .cells t [.pointer (some ⟨b, 0, none⟩), v]⟩ fun H => some (.tuple ⟨[]⟩, H)
      | false => none
    | some ⟨none, .cells _ [.pointer (some ⟨b', 0, none⟩), _]⟩ => match Nat.beq b b' with
      | true => some (.tuple ⟨[]⟩, H)
      | false => none
    | _ => none
  | _, _ => none
noncomputable def stringF (tU : TypeId) : List Value → AH → Option (Value × AH)
  | [.pointer (some ⟨b, 0, none⟩)], H => match H.get b with
    | some ⟨none, .cells _ [_, .slice (some ⟨g, 0, none⟩) (n + 1) m]⟩ => match H.get g with
      | some ⟨some (sz, e), .cells t cs⟩ => match roB (some (sz, e)) || !(Nat.beq t tU && Nat.ble (Nat.succ n) m && Nat.ble n 16777216) with
        | true => none
        | false => takeK (Nat.succ n) cs fun r => match bytesE r with
          | some l => bytesK l fun l => H.setK g ⟨some (sz, e), .dead⟩ fun H => some (.string ⟨⟨l⟩⟩, H)
          | none => none
      | _ => none
    | _ => none
  | _, _ => none
noncomputable def sortedF (it : TypeId) (ks : List FuncId) : List Value → AH → Option (Value × AH)
  | [.func (.func g) ⟨[]⟩ ⟨[.pointer (some ⟨c, 0, none⟩)]⟩], H => match ks.any (Nat.beq g), H.get c with
    | true, some ⟨_, .cells _ [.map (some m)]⟩ => match H.get m with
      | some ⟨_, .map [] _⟩ => some (.slice none 0 0, H)
      | some ⟨_, .map [⟨.int .i64 (.ofNat k), .bool _, 0⟩] 1⟩ => match Nat.blt k 1000000 with
        | true => H.newK ⟨some (1, 1), .cells it [.int .i64 (.ofNat k)]⟩ fun b H => some (.slice (some ⟨b, 0, none⟩) 1 1, H)
        | false => none
      | _ => none
    | _, _ => none
  | _, _ => none
end Go.Proofs.YtdcbnkimjhefkaaGreatDoor

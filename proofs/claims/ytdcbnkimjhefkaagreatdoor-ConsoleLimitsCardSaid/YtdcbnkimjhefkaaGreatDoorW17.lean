/-
  Closed runs: what a run of the machine says of calls in worlds.
  Functions that are told by a contract: strings.Builder's copyCheck and String, slices.Sorted over the keys of a map.
  Functions that are told by a contract: the machine's word is good where the contract holds.
  Memory where the console's laws begin, and the functions that are told by contracts.
-/
import Derived.Test.YtdcbnkimjhefkaaGreatDoorW16
namespace Go.Proofs.YtdcbnkimjhefkaaGreatDoor
open Go.RowKit
/-! ### Memory written out -/
noncomputable def Tr.lt {α : Type} : Tr α → Nat → Bool
  | .lf, _ => true
  | .nd l v r, n => (v.isNone || Nat.blt 0 n) && (l.lt (n / 2) && r.lt ((n - 1) / 2))
theorem Tr.get_of_lt {α : Type} : ∀ {t : Tr α} {n k : Nat}, t.lt n = true → n ≤ k → t.get k = none
  | .lf, _, _, _, _ => rfl
  | .nd l v r, n, k, h, hk => by
    unfold Tr.lt at h
    rw [Bool.and_eq_true, Bool.and_eq_true] at h
    obtain ⟨h1, h2, h3⟩ := h
    cases k with
    | zero =>
      have : n = 0 := by omega
      subst this
      rw [Tr.get_zero]
      cases v with
      | none => rfl
      | some x => cases h1
    | succ k =>
      rw [Tr.get_succ]
      cases hb : Nat.beq (Nat.mod k 2) 0 with
      | true =>
        have hm : k % 2 = 0 := Nat.eq_of_beq_eq_true hb
        refine Tr.get_of_lt h2 ?_
        show n / 2 ≤ k / 2
        omega
      | false =>
        have hm : k % 2 ≠ 0 := fun e => by
          have : Nat.beq (Nat.mod k 2) 0 = true := by rw [Nat.beq_eq]; exact e
          rw [this] at hb; cases hb
        refine Tr.get_of_lt h3 ?_
        show (n - 1) / 2 ≤ k / 2
        omega
noncomputable def okB (P : Program) (H : AH) : Bool := Nat.ble P.globals.size H.next && (H.m.lt H.next && (List.range P.globals.size).all fun g => (H.get g).isSome)
theorem ok_of {P : Program} {H : AH} (h : okB P H = true) : AH.ok P H := by
  unfold okB at h
  rw [Bool.and_eq_true, Bool.and_eq_true, List.all_eq_true] at h
  obtain ⟨h1, h2, h3⟩ := h
  refine ⟨Nat.le_of_ble_eq_true h1, fun b hb => Tr.get_of_lt h2 hb, fun g hg => ?_⟩
  have := h3 g (List.mem_range.2 hg)
  intro e
  rw [e] at this
  cases this
/-- No row is known. -/
noncomputable def deadB : Tr Blk → Bool
  | .lf => true
  | .nd l v r => (match v with
    | some ⟨_, .dead⟩ => true
    | none => true
    | _ => false) && (deadB l && deadB r)
theorem dead_get : ∀ {t : Tr Blk} {k : Nat} {i : Option (Nat × Nat)} {x : Body}, deadB t = true → t.get k = some ⟨i, x⟩ → x = .dead
  | .lf, _, _, _, _, h => by cases h
  | .nd l v r, k, i, x, hd, h => by
    unfold deadB at hd
    rw [Bool.and_eq_true, Bool.and_eq_true] at hd
    obtain ⟨h1, h2, h3⟩ := hd
    cases k with
    | zero =>
      rw [Tr.get_zero] at h
      subst h
      cases x with
      | dead => rfl
      | _ => cases h1
    | succ k =>
      rw [Tr.get_succ] at h
      cases hb : Nat.beq (Nat.mod k 2) 0 with
      | true => rw [hb] at h; exact dead_get h2 h
      | false => rw [hb] at h; exact dead_get h3 h
/-- Where no old row was known but those that are only read, all old blocks are as they were. -/
theorem Fwd.below {σ σ' : Ren} {h h' : Hp} {w w' : World} (F : Fwd σ h w σ' h' w') {B : Nat} (hB : B ≤ w.heap.size) (hl : ∀ b, h.live b → B ≤ σ.blk b ∨ ∃ e t cs, h b = some ⟨some (0, e), .cells t cs⟩) : Below B w w' := by
  refine ⟨F.os, F.tape, F.output, F.size, fun k hk => ?_⟩
  by_cases hx : ∃ b, h.live b ∧ σ.blk b = k
  · obtain ⟨b, hb, rfl⟩ := hx
    rcases hl b hb with h1 | ⟨e, t, cs, h2⟩
    · omega
    · exact (F.ro b e t cs h2).2
  · exact F.old k (Nat.lt_of_lt_of_le hk hB) fun b hb e => hx ⟨b, hb, e⟩
/-- Variables that are only read: each row known lies in the world, under its own number. -/
structure Reads0 (P : Program) (H : AH) (w : World) : Prop where
  row : ∀ b i x, H.get b = some ⟨i, x⟩ → x ≠ .dead → ∃ t cs, x = .cells t cs ∧ b < P.globals.size ∧ i = some (0, cs.length) ∧ atoms0 cs = true ∧ ∀ j v, cs[j]? = some v → w.cell? ⟨b, j, none⟩ = some v
theorem Reads0.dead {P : Program} {H : AH} (hd : deadB H.m = true) (w : World) : Reads0 P H w := ⟨fun _ _ _ h hx => (hx (dead_get hd h)).elim⟩
theorem cell_size {w : World} {b j : Nat} {v : Value} (h : w.cell? ⟨b, j, none⟩ = some v) : ∃ C T fr, w.heap[b]? = some (.cells C T fr) ∧ C[j]? = some v := by
  unfold World.cell? at h
  simp only at h
  split at h
  · rename_i C T fr hb; exact ⟨C, T, fr, hb, h⟩
  · cases h
noncomputable def capR (H : AH) : Ren := ⟨fun b => b, fun _ => 0, fun b => match H.get b with
  | some ⟨_, .cells _ cs⟩ => cs.length
  | _ => 0⟩
theorem atoms_get {σ : Ren} {D : Dom} {cs : List Value} (h : atoms0 cs = true) {j : Nat} {v : Value} (hj : cs[j]? = some v) : VR σ D v v := by
  obtain ⟨v', h1, h2⟩ := (VRs.of_atoms0 (σ := σ) (D := D) h).get hj
  rw [hj] at h1
  obtain rfl := Option.some.inj h1
  exact h2
theorem Reads0.sim {P : Program} {H : AH} {w : World} (h : Reads0 P H w) (hne : ∀ b i t, H.get b ≠ some ⟨i, .cells t []⟩) : Sim P (capR H) H.get w := by
  refine ⟨fun b i x hb hx => ?_, fun b b' _ _ hne => hne, fun _ _ _ => ⟨rfl, rfl⟩⟩
  obtain ⟨t, cs, rfl, h1, h2, h3, h4⟩ := h.row b i x hb hx
  cases cs with
  | nil => exact (hne b i t hb).elim
  | cons v0 r =>
    obtain ⟨C, T, fr, q1, q2⟩ := cell_size (h4 0 v0 rfl)
    have hall : ∀ j v, (v0 :: r)[j]? = some v → C[j]? = some v := fun j v hj => by
      obtain ⟨C', T', fr', q3, q4⟩ := cell_size (h4 j v hj)
      rw [q1] at q3
      obtain ⟨rfl, _, _⟩ := by simpa using q3
      exact q4
    have hsz : (v0 :: r).length ≤ C.size := by
      have hlast : (v0 :: r)[r.length]? = some ((v0 :: r)[r.length]'(by simp)) := List.getElem?_eq_getElem _
      have := (Array.getElem?_eq_some_iff.1 (hall _ _ hlast)).1
      simp only [List.length_cons]
      omega
    have hcap : (capR H).cap b = (v0 :: r).length := by
      show (match H.get b with
        | some ⟨_, .cells _ cs⟩ => cs.length
        | _ => 0) = _
      rw [hb]
    refine ⟨_, q1, C, T, fr, rfl, ⟨fun hn => (hn _ h2).elim, ?_, fun j v hj => ⟨v, ?_, atoms_get h3 hj⟩, fun sz e he => ?_, fun hn => (hn _ h2).elim, rfl, fun hn => by rw [h2] at hn; cases hn⟩⟩
    · show 0 + (v0 :: r).length ≤ C.size
      omega
    · show C[0 + j]? = some v
      rw [Nat.zero_add]; exact hall j v hj
    · rw [h2] at he
      simp only [Option.some.injEq, Prod.mk.injEq] at he
      rw [hcap]
      show _ ∧ _ ∧ 0 + _ ≤ _
      omega
/-- A closed call, variables being read. -/
theorem closed_call0 {P : Program} {orc : Orc} (hm : P.follows .mixedOrders = true) (ho : OrcGood P orc) {d : Nat} {f : FuncId} {args : List Value} {H : AH} {v : Value} (hok : okB P H = true) (ha : (args.all atomV && atomV v) = true) (h : (evalK P orc (drawK P orc) d f args H).map (·.1) = some v) (w : World) (hw : Reads0 P H w) (hne : ∀ b i t, H.get b ≠ some ⟨i, .cells t []⟩) :
    Calls P f args.toArray w fun e w' => e = .returned v ∧ Below w.heap.size w w' := by
  rw [Option.map_eq_some_iff] at h
  obtain ⟨⟨v1, H'⟩, h1, h2⟩ := h
  simp only at h2
  subst h2
  rw [Bool.and_eq_true, List.all_eq_true] at ha
  have hargs : ∀ l : List Value, (∀ u ∈ l, atomV u = true) → VRs (capR H) (Hp.dom H.get) l l := by
    intro l
    induction l with
    | nil => exact fun _ => .nil
    | cons u l ih => exact fun hu => .cons _ _ _ _ (.of_atomV (hu u (by simp))) (ih fun x hx => hu x (by simp [hx]))
  refine ((eval_sound ho (draw_good hm ho) d f args H v1 H' (ok_of hok) h1).2.2 (capR H) w args (hw.sim hne) (hargs args ha.1)).mono fun e w' hL => ?_
  obtain ⟨v', rfl, σ', hS, hF, hv⟩ := hL
  refine ⟨by rw [hv.atomV ha.2], hF.below (Nat.le_refl _) fun b ⟨i, x, hb, hx⟩ => .inr ?_⟩
  obtain ⟨t, cs, rfl, _, rfl, _, _⟩ := hw.row b i x hb hx
  exact ⟨_, _, _, hb⟩
end Go.Proofs.YtdcbnkimjhefkaaGreatDoor

namespace Go.Proofs.YtdcbnkimjhefkaaGreatDoor
noncomputable def bytesE : List Value → Option (List UInt8)
  | [] => some []
  | .int .u8 (.ofNat n) :: l => match Nat.blt n 256 with
    | true => match bytesE l with
      | some r => some (UInt8.ofNat n :: r)
      | none => none
    | false => none
  | _ => none
noncomputable def copyCheckF (tB : TypeId) : List Value → AH → Option (Value × AH)
  | [.pointer (some ⟨b, 0, none⟩)], H => match H.get b with
    | some ⟨none, .cells t [.pointer none, v]⟩ => match one0 v && Nat.beq t tB with
      | true => H.setK b ⟨none, .cells t [.pointer (some ⟨b, 0, none⟩), v]⟩ fun H => some (.tuple ⟨[]⟩, H)
      | false => none
    | some ⟨none, .cells _ [.pointer (some ⟨b', 0, none⟩), _]⟩ => match Nat.beq b b' with
      | true => some (.tuple ⟨[]⟩, H)
      | false => none
    | _ => none
  | _, _ => none
noncomputable def stringF (tU : TypeId) : List Value → AH → Option (Value × AH)
  | [.pointer (some ⟨b, 0, none⟩)], H => match H.get b with
    | some ⟨none, .cells _ [_, .slice (some ⟨g, 0, none⟩) (n + 1) m]⟩ => match H.get g with
      | some ⟨some (sz, e), .cells t cs⟩ => match roB (some (sz, e)) || !(Nat.beq t tU && Nat.ble (Nat.succ n) m && Nat.ble n 16777216) with
        | true => none
        | false => takeK (Nat.succ n) cs fun r => match bytesE r with
          | some l => bytesK l fun l => H.setK g ⟨some (sz, e), .dead⟩ fun H => some (.string ⟨⟨l⟩⟩, H)
          | none => none
      | _ => none
    | _ => none
  | _, _ => none
noncomputable def sortedF (it : TypeId) (ks : List FuncId) : List Value → AH → Option (Value × AH)
  | [.func (.func g) ⟨[]⟩ ⟨[.pointer (some ⟨c, 0, none⟩)]⟩], H => match ks.any (Nat.beq g), H.get c with
    | true, some ⟨_, .cells _ [.map (some m)]⟩ => match H.get m with
      | some ⟨_, .map [] _⟩ => some (.slice none 0 0, H)
      | some ⟨_, .map [⟨.int .i64 (.ofNat k), .bool _, 0⟩] 1⟩ => match Nat.blt k 1000000 with
        | true => H.newK ⟨some (1, 1), .cells it [.int .i64 (.ofNat k)]⟩ fun b H => some (.slice (some ⟨b, 0, none⟩) 1 1, H)
        | false => none
      | _ => none
    | _, _ => none
  | _, _ => none
end Go.Proofs.YtdcbnkimjhefkaaGreatDoor

namespace Go.Proofs.YtdcbnkimjhefkaaGreatDoor
open Go.RowKit
section
variable {P : Program}
theorem bytesE_inv : ∀ {l : List Value} {r : List UInt8}, bytesE l = some r → l = r.map fun b => Value.int .u8 (b.toNat : Int)
  | [], r, h => by simp [bytesE] at h; subst h; rfl
  | v :: l, r, h => by
    unfold bytesE at h
    split at h
    · rename_i hh; cases hh
    · rename_i n l2 hh
      rw [List.cons.injEq] at hh
      obtain ⟨rfl, rfl⟩ := hh
      split at h
      · rename_i hb
        have hlt : n < 256 := Nat.le_of_ble_eq_true hb
        split at h
        · rename_i r' hr
          obtain rfl := Option.some.inj h
          rw [List.map_cons, ← bytesE_inv hr]
          congr 2
          show Int.ofNat n = ((UInt8.ofNat n).toNat : Int)
          simp [Nat.mod_eq_of_lt hlt]
        · cases h
      · cases h
    · cases h
theorem VRs.one {σ : Ren} {D : Dom} {v : Value} {l : List Value} (h : VRs σ D [v] l) : ∃ u, l = [u] ∧ VR σ D v u := by
  cases h with
  | cons _ u _ l' h1 h2 => cases h2; exact ⟨u, rfl, h1⟩
theorem Sim.found {σ : Ren} {h : Hp} {w : World} (s : Sim P σ h w) (id : Nat) (hid : h id = none) (hg : P.globals.size ≤ id) (i : Option (Nat × Nat)) (x : Body) (X : Obj) (cap gb : Nat) {w' : World} (hB : Below w.heap.size w w') (hge : w.heap.size ≤ gb) (hX : w'.heap[gb]? = some X)
    (hx : ∀ σ' : Ren, Ren.le σ h.dom σ' (h.set id ⟨i, x⟩).dom → σ'.blk id = gb → σ'.sh id = 0 → σ'.cap id = cap → BodyR σ' (h.set id ⟨i, x⟩).dom id i x X) :
    ∃ σ', Sim P σ' (h.set id ⟨i, x⟩) w' ∧ Fwd σ h w σ' (h.set id ⟨i, x⟩) w' ∧ σ'.blk id = gb ∧ σ'.sh id = 0 ∧ σ'.cap id = cap := by
  let σ' : Ren := ⟨fun b => if b = id then gb else σ.blk b, fun b => if b = id then 0 else σ.sh b, fun b => if b = id then cap else σ.cap b⟩
  have hlt : ∀ b, h.live b → σ.blk b < w.heap.size := fun b hb => s.lt hb
  have hle : Ren.le σ h.dom σ' (h.set id ⟨i, x⟩).dom := by
    refine ⟨fun b x hb => ?_, fun b x hb => ?_⟩
    · have hne : b ≠ id := fun e => by subst e; simp [Hp.dom, hid] at hb
      unfold Hp.dom at hb ⊢
      rw [Hp.set_other hne]; exact hb
    · have hne : b ≠ id := fun e => by subst e; simp [Hp.dom, hid] at hb
      simp [σ', hne]
  have hlive : ∀ b, (h.set id ⟨i, x⟩).live b → b ≠ id → h.live b := fun b hb hne => by
    obtain ⟨i', x', e, hd⟩ := hb
    rw [Hp.set_other hne] at e
    exact ⟨i', x', e, hd⟩
  refine ⟨σ', ⟨?_, ?_, ?_⟩, ⟨hle, ?_, ?_, ?_, hB.size, hB.os, hB.tape, hB.output, ?_⟩, by simp [σ'], by simp [σ'], by simp [σ']⟩
  · intro b i' x' hb hd
    by_cases e : b = id
    · subst e
      rw [Hp.set_same] at hb
      simp only [Option.some.injEq, Blk.mk.injEq] at hb
      obtain ⟨rfl, rfl⟩ := hb
      exact ⟨X, by simp only [σ', if_true]; exact hX, hx σ' hle (by simp [σ']) (by simp [σ']) (by simp [σ'])⟩
    · rw [Hp.set_other e] at hb
      obtain ⟨X', q1, q2⟩ := s.body b i' x' hb hd
      refine ⟨X', ?_, q2.mono hle (Hp.dom_some hb)⟩
      simp only [σ', e, if_false]
      rw [hB.block _ (hlt b ⟨_, _, hb, hd⟩)]
      exact q1
  · intro b b' hb hb' hne
    by_cases e : b = id
    · subst e
      have e' : b' ≠ b := fun e' => hne e'.symm
      have := hlt b' (hlive b' hb' e')
      simp only [σ', if_true, e', if_false]
      omega
    · by_cases e' : b' = id
      · subst e'
        have := hlt b (hlive b hb e)
        simp only [σ', if_true, e, if_false]
        omega
      · simp only [σ', e, e', if_false]
        exact s.apart b b' (hlive b hb e) (hlive b' hb' e') hne
  · intro g hg' hn
    have e : g ≠ id := by omega
    rw [Hp.set_other e] at hn
    simpa [σ', e] using s.glob g hg' hn
  · intro k hk _
    exact hB.block k hk
  · intro b hb hl
    by_cases e : b = id
    · subst e; left; simp only [σ', if_true]; exact hge
    · exact ((hlive b hl e).not_none hb).elim
  · intro b hl hn
    by_cases e : b = id
    · subst e; exact (hn hid).elim
    · exact hlive b hl e
  · intro b e t2 cs2 hb
    have hne : b ≠ id := fun e => by subst e; rw [hid] at hb; cases hb
    exact ⟨by rw [Hp.set_other hne]; exact hb, hB.block _ (hlt b (.row hb))⟩
/-- copyCheck. -/
theorem copyCheck_good {f : FuncId} {tB : TypeId}
    (hu : ∀ b w, w.cell? ⟨b, 0, none⟩ = some (.pointer (some ⟨b, 0, none⟩)) → Calls P f #[.pointer (some ⟨b, 0, none⟩)] w fun e w' => e = .returned (.tuple #[]) ∧ w' = w)
    (hf : ∀ b w, w.cell? ⟨b, 0, none⟩ = some (.pointer none) → w.shape? b = some (tB, 2) → w.frozen? ⟨b, 0, none⟩ = false → Calls P f #[.pointer (some ⟨b, 0, none⟩)] w fun e w' => e = .returned (.tuple #[]) ∧ w' = w.setCell ⟨b, 0, none⟩ (.pointer (some ⟨b, 0, none⟩)))
    {args : List Value} {H : AH} {v : Value} {H' : AH} (hok : AH.ok P H) (h : copyCheckF tB args H = some (v, H')) : AH.ok P H' ∧ H.next ≤ H'.next ∧ ∀ σ w args', Sim P σ H.get w → VRs σ (Hp.dom H.get) args args' → Calls P f args'.toArray w (Left P σ H w v H') := by
  unfold copyCheckF at h
  split at h
  · rename_i b
    split at h
    · rename_i t x hb
      split at h
      · rename_i hx
        rw [Bool.and_eq_true] at hx
        obtain rfl := Nat.eq_of_beq_eq_true hx.2
        obtain ⟨H1, h1, h2, h3⟩ := AH.setK_inv h
        simp only [Option.some.injEq, Prod.mk.injEq] at h1
        obtain ⟨rfl, rfl⟩ := h1
        refine ⟨AH.ok_set hok hb h2 h3, by omega, fun σ w args' hS hv => ?_⟩
        obtain ⟨u, rfl, hu'⟩ := hv.one
        obtain ⟨hd, rfl⟩ := hu'.ptr_inv
        obtain ⟨C, T, fr, q1, q2⟩ := hS.row b none t _ hb
        have hsh := q2.sh0
        have hsz : C.size = 2 := q2.plain rfl
        have hT : T = t := q2.elem fun e => nofun
        obtain ⟨v0, c1, c2⟩ := hS.cell hb (j := 0) (v := .pointer none) rfl
        cases c2
        rw [hsh] at c1
        have hfz := hS.unfrozen (i := none) (fun e => nofun) hb (j := 0) (by simp)
        rw [hsh] at hfz ⊢
        refine (hf (σ.blk b) w c1 (by simp [World.shape?, q1, hsz, hT]) hfz).mono fun e w' hh => ?_
        obtain ⟨rfl, rfl⟩ := hh
        obtain ⟨g1, g2⟩ := hS.put (i := none) (fun e => nofun) hb (cs2 := [.pointer (some ⟨b, 0, none⟩), x]) (o := 0) (r := [.pointer (some ⟨b, 0, none⟩)]) (r' := [.pointer (some ⟨σ.blk b, σ.sh b + 0, none⟩)]) (.inr (by simp)) (.cons _ _ _ _ hu' .nil) rfl (fun j => by
          cases j with
          | zero => rfl
          | succ j => rw [if_neg (by simp)]; rfl)
        rw [hsh] at g1 g2
        exact ⟨_, rfl, σ, by rw [h3]; exact g1, by rw [h3]; exact g2, .tuple _ _ .nil⟩
      · cases h
    · rename_i t b' x hb
      split at h
      · rename_i hx
        obtain rfl := Nat.eq_of_beq_eq_true hx
        simp only [Option.some.injEq, Prod.mk.injEq] at h
        obtain ⟨rfl, rfl⟩ := h
        refine ⟨hok, Nat.le_refl _, fun σ w args' hS hv => ?_⟩
        obtain ⟨u, rfl, hu'⟩ := hv.one
        obtain ⟨hd, rfl⟩ := hu'.ptr_inv
        obtain ⟨C, T, fr, q1, q2⟩ := hS.row b none t _ hb
        have hsh := q2.sh0
        obtain ⟨v0, c1, c2⟩ := hS.cell hb (j := 0) (v := .pointer (some ⟨b, 0, none⟩)) rfl
        obtain ⟨_, rfl⟩ := c2.ptr_inv
        rw [hsh] at c1 ⊢
        refine (hu (σ.blk b) w c1).mono fun e w' hh => ?_
        obtain ⟨rfl, rfl⟩ := hh
        exact ⟨_, rfl, σ, hS, .refl _ _ _, .tuple _ _ .nil⟩
      · cases h
    · cases h
  · cases h
theorem freeze_at (w : World) (g n : Nat) : (∀ k, k ≠ g → (w.drew.freeze ⟨g, 0, none⟩ n).heap[k]? = w.heap[k]?) ∧ (w.drew.freeze ⟨g, 0, none⟩ n).heap.size = w.heap.size ∧ (w.drew.freeze ⟨g, 0, none⟩ n).os = w.os ∧ (w.drew.freeze ⟨g, 0, none⟩ n).tape = w.tape ∧ (w.drew.freeze ⟨g, 0, none⟩ n).output = w.output := by
  unfold World.freeze
  split
  · exact ⟨fun _ _ => rfl, rfl, rfl, rfl, rfl⟩
  · refine ⟨fun k hk => ?_, ?_, rfl, rfl, rfl⟩
    · show (w.heap.modify g _)[k]? = _
      rw [Array.getElem?_modify, if_neg (Ne.symm hk)]
    · show (w.heap.modify g _).size = _
      simp
/-- String. -/
theorem string_good {f : FuncId} {tU : TypeId}
    (hs : ∀ b g m (l : List UInt8) w, w.cell? ⟨b, 1, none⟩ = some (.slice (some ⟨g, 0, none⟩) l.length m) → l ≠ [] → l.length ≤ m → l.length ≤ 16777217 → (∀ (j : Nat) x, l[j]? = some x → w.cell? ⟨g, j, none⟩ = some (.int .u8 (x.toNat : Int))) → (∃ sz, w.shape? g = some (tU, sz) ∧ l.length ≤ sz) →
      Calls P f #[.pointer (some ⟨b, 0, none⟩)] w fun e w' => e = .returned (.string ⟨⟨l⟩⟩) ∧ w' = w.drew.freeze ⟨g, 0, none⟩ l.length)
    {args : List Value} {H : AH} {v : Value} {H' : AH} (hok : AH.ok P H) (h : stringF tU args H = some (v, H')) : AH.ok P H' ∧ H.next ≤ H'.next ∧ ∀ σ w args', Sim P σ H.get w → VRs σ (Hp.dom H.get) args args' → Calls P f args'.toArray w (Left P σ H w v H') := by
  unfold stringF at h
  split at h
  · rename_i b
    split at h
    · rename_i t x g n m hb
      split at h
      · rename_i sz e t2 cs hg
        split at h
        · cases h
        · rename_i hro
          rw [Bool.or_eq_false_iff, Bool.not_eq_false', Bool.and_eq_true] at hro
          rw [Bool.and_eq_true] at hro
          obtain ⟨hr1, ⟨hr2, hr3⟩, hr4⟩ := hro
          have hr4 := Nat.le_of_ble_eq_true hr4
          obtain rfl := Nat.eq_of_beq_eq_true hr2
          have hnm := Nat.le_of_ble_eq_true hr3
          obtain ⟨h1, h2⟩ := takeK_inv h
          split at h2
          · rename_i l hl
            rw [bytesK_eq] at h2
            obtain ⟨H1, h3, h4, h5⟩ := AH.setK_inv h2
            simp only [Option.some.injEq, Prod.mk.injEq] at h3
            obtain ⟨rfl, rfl⟩ := h3
            have hlv := bytesE_inv hl
            have hll : l.length = n + 1 := by
              have := congrArg List.length hlv
              rw [List.length_take, List.length_map] at this
              omega
            refine ⟨AH.ok_set hok hg h4 h5, by omega, fun σ w args' hS hv => ?_⟩
            obtain ⟨u, rfl, hu'⟩ := hv.one
            obtain ⟨hd, rfl⟩ := hu'.ptr_inv
            obtain ⟨C, T, fr, q1, q2⟩ := hS.row b none t _ hb
            obtain ⟨C2, T2, fr2, p1, p2⟩ := hS.row g _ _ _ hg
            obtain ⟨v0, c1, c2⟩ := hS.cell hb (j := 1) (v := .slice (some ⟨g, 0, none⟩) (n + 1) m) rfl
            obtain ⟨z, m', d1, d2, rfl, _⟩ := c2.slice_inv
            rw [q2.sh0, p2.sh0] at c1
            rw [q2.sh0]
            have hT : T2 = t2 := p2.elem (roB_false hr1)
            have hfit := p2.fits
            rw [p2.sh0] at hfit
            refine (hs (σ.blk b) (σ.blk g) m' l w (by rw [hll]; exact c1) (fun e => by rw [e] at hll; cases hll) (by omega) (by omega) (fun j y hy => ?_) ⟨C2.size, by simp [World.shape?, p1, hT], by omega⟩).mono fun e w' hh => ?_
            · have hj : ((cs.take (n + 1)))[j]? = some (.int .u8 (y.toNat : Int)) := by rw [show cs.take (n + 1) = cs.take (Nat.succ n) from rfl, hlv, List.getElem?_map, hy]; rfl
              rw [List.getElem?_take] at hj
              split at hj
              · obtain ⟨u, k1, k2⟩ := hS.cell hg hj
                rw [p2.sh0, Nat.zero_add] at k1
                rw [k2.int_inv] at k1
                exact k1
              · cases hj
            · obtain ⟨rfl, rfl⟩ := hh
              obtain ⟨f1, f2, f3, f4, f5⟩ := freeze_at w (σ.blk g) l.length
              have hlt := (Array.getElem?_eq_some_iff.1 p1).1
              obtain ⟨g1, g2⟩ := hS.turn (roB_false hr1) hg nofun (y := .dead) (w' := w.drew.freeze ⟨σ.blk g, 0, none⟩ l.length) (X' := (w.drew.freeze ⟨σ.blk g, 0, none⟩ l.length).heap[σ.blk g]'(by rw [f2]; exact hlt)) (Array.getElem?_eq_getElem _) f1 f2 f3 f4 f5 fun hn => (hn rfl).elim
              exact ⟨_, rfl, σ, by rw [h5]; exact g1, by rw [h5]; exact g2, .string _⟩
          · cases h2
      · cases h
    · cases h
  · cases h
/-- Sorted, over the keys of a map of at most one entry. -/
theorem sorted_good {f : FuncId} {tI : TypeId} {ks : List FuncId}
    (h0 : ∀ g, ks.any (Nat.beq g) = true → ∀ c m clock w, w.cell? ⟨c, 0, none⟩ = some (.map (some m)) → w.heap[m]? = some (.map #[] clock) → Calls P f #[.func (.func g) #[] #[.pointer (some ⟨c, 0, none⟩)]] w fun e w' => e = .returned (.slice none 0 0) ∧ Below w.heap.size w w')
    (h1 : ∀ g, ks.any (Nat.beq g) = true → ∀ c m (k : Nat) x w, k < 1000000 → w.cell? ⟨c, 0, none⟩ = some (.map (some m)) → w.heap[m]? = some (.map #[⟨.int .i64 (k : Int), .bool x, 0⟩] 1) → Calls P f #[.func (.func g) #[] #[.pointer (some ⟨c, 0, none⟩)]] w fun e w' => Below w.heap.size w w' ∧ ∃ gb cap cur, w.heap.size ≤ gb ∧ 1 ≤ cap ∧ e = .returned (.slice (some ⟨gb, 0, none⟩) 1 cap) ∧ w'.heap[gb]? = some (.cells cur tI (0, 0)) ∧ cur.size = cap ∧ cur[0]? = some (.int .i64 (k : Int)))
    {args : List Value} {H : AH} {v : Value} {H' : AH} (hok : AH.ok P H) (h : sortedF tI ks args H = some (v, H')) : AH.ok P H' ∧ H.next ≤ H'.next ∧ ∀ σ w args', Sim P σ H.get w → VRs σ (Hp.dom H.get) args args' → Calls P f args'.toArray w (Left P σ H w v H') := by
  unfold sortedF at h
  split at h
  · rename_i g c
    have hargs : ∀ σ (args' : List Value), VRs σ (Hp.dom H.get) [.func (.func g) ⟨[]⟩ ⟨[.pointer (some ⟨c, 0, none⟩)]⟩] args' → Hp.dom H.get c ≠ none ∧ args' = [.func (.func g) #[] #[.pointer (some ⟨σ.blk c, σ.sh c + 0, none⟩)]] := fun σ args' hv => by
      obtain ⟨u, rfl, hu⟩ := hv.one
      cases hu with
      | func _ _ f' _ c' q1 q2 =>
        cases q1
        obtain ⟨y, rfl, hy⟩ := q2.one
        obtain ⟨q3, rfl⟩ := hy.ptr_inv
        exact ⟨q3, rfl⟩
    split at h
    · rename_i i t m hg hc
      have hcell : ∀ σ w, Sim P σ H.get w → σ.sh c = 0 ∧ w.cell? ⟨σ.blk c, 0, none⟩ = some (.map (some (σ.blk m))) := fun σ w hS => by
        obtain ⟨C, T, fr, q1, q2⟩ := hS.row c i t _ hc
        obtain ⟨v0, c1, c2⟩ := hS.cell hc (j := 0) (v := .map (some m)) rfl
        rw [q2.sh0] at c1
        cases c2
        exact ⟨q2.sh0, c1⟩
      split at h
      · rename_i i2 clock hm
        simp only [Option.some.injEq, Prod.mk.injEq] at h
        obtain ⟨rfl, rfl⟩ := h
        refine ⟨hok, Nat.le_refl _, fun σ w args' hS hv => ?_⟩
        obtain ⟨_, rfl⟩ := hargs σ args' hv
        obtain ⟨q1, q2⟩ := hcell σ w hS
        obtain ⟨X, q3, q4, rfl⟩ := hS.body m i2 _ hm nofun
        rw [q1]
        refine (h0 g hg (σ.blk c) (σ.blk m) clock w q2 q3).mono fun e w' hh => ?_
        obtain ⟨rfl, hB⟩ := hh
        obtain ⟨g1, g2⟩ := hS.below hB
        exact ⟨_, rfl, σ, g1, g2, .nilslice _ _⟩
      · rename_i i2 k x hm
        split at h
        case h_2 => cases h
        rename_i hk
        have hk : k < 1000000 := Nat.le_of_ble_eq_true hk
        obtain ⟨H1, r1, r2, r3⟩ := AH.newK_inv h
        simp only [Option.some.injEq, Prod.mk.injEq] at r1
        obtain ⟨rfl, rfl⟩ := r1
        refine ⟨AH.ok_new hok r2 r3, by omega, fun σ w args' hS hv => ?_⟩
        obtain ⟨_, rfl⟩ := hargs σ args' hv
        obtain ⟨q1, q2⟩ := hcell σ w hS
        obtain ⟨X, q3, q4, rfl⟩ := hS.body m i2 _ hm nofun
        rw [q1]
        refine (h1 g hg (σ.blk c) (σ.blk m) k x w hk q2 q3).mono fun e w' hh => ?_
        obtain ⟨hB, gb, cap, cur, k1, k2, rfl, k3, k4, k5⟩ := hh
        obtain ⟨σ', g1, g2, g3, g4, g5⟩ := hS.found H.next (hok.2 _ (Nat.le_refl _)) hok.1 (some (1, 1)) (.cells tI [.int .i64 (.ofNat k)]) (.cells cur tI (0, 0)) cap gb hB k1 k3 fun σ' hle p1 p2 p3 => by
          refine ⟨cur, tI, (0, 0), rfl, ⟨fun _ j _ hj => (by cases hj), ?_, ?_, ?_, fun _ => rfl, p2, nofun⟩⟩
          · rw [p2]; simp; omega
          · intro j u hj
            cases j with
            | zero =>
              rw [p2]
              simp only [List.getElem?_cons_zero, Option.some.injEq] at hj
              subst hj
              exact ⟨_, k5, .int _ _⟩
            | succ j => simp at hj
          · intro sz e he
            simp only [Option.some.injEq, Prod.mk.injEq] at he
            rw [p2, p3, k4]
            simp
            omega
        refine ⟨_, rfl, σ', by rw [r3]; exact g1, by rw [r3]; exact g2, ?_⟩
        rw [r3]
        have := VR.sliceo (σ := σ') (D := Hp.dom (Hp.set H.get H.next ⟨some (1, 1), .cells tI [.int .i64 (.ofNat k)]⟩)) ⟨H.next, 0, none⟩ 1 1 cap 1 1 (by simp [Hp.dom, Hp.set_same]) rfl (by simp) (by simp [g5]) k2
        unfold Ren.addr at this
        simp only [g3, g4, Nat.zero_add] at this
        exact this
      · cases h
    · cases h
  · cases h
end
end Go.Proofs.YtdcbnkimjhefkaaGreatDoor

namespace Go.Proofs.YtdcbnkimjhefkaaGreatDoor
noncomputable def formsL : List Value := [.string ⟨⟨[104, 105, 114, 101]⟩⟩, .int .i64 1, .int .i64 1, .string ⟨⟨[69, 68]⟩⟩, .string ⟨⟨[108, 101, 97, 118, 101]⟩⟩, .int .i64 1, .int .i64 2, .string ⟨⟨[69, 68]⟩⟩, .string ⟨⟨[105, 110, 112, 117, 116]⟩⟩, .int .i64 1, .int .i64 3, .string ⟨⟨[69, 78, 68, 86]⟩⟩, .string ⟨⟨[104, 111, 117, 114, 115]⟩⟩, .int .i64 1, .int .i64 4, .string ⟨⟨[69, 78, 68, 86]⟩⟩, .string ⟨⟨[97, 103, 114, 101, 101, 109, 101, 110, 116]⟩⟩, .int .i64 1, .int .i64 5, .string ⟨⟨[68]⟩⟩, .string ⟨⟨[114, 117, 108, 101, 115]⟩⟩, .int .i64 1, .int .i64 6, .string ⟨⟨[68, 86]⟩⟩, .string ⟨⟨[100, 101, 112, 101, 110, 100, 101, 110, 116, 115]⟩⟩, .int .i64 1, .int .i64 7, .string ⟨⟨[69, 68, 86]⟩⟩, .string ⟨⟨[111, 114, 100, 101, 114]⟩⟩, .int .i64 1, .int .i64 8, .string ⟨⟨[69, 78, 68, 86, 88, 82]⟩⟩, .string ⟨⟨[100, 101, 100, 117, 99, 116, 105, 111, 110]⟩⟩, .int .i64 1, .int .i64 9, .string ⟨⟨[69, 78, 68, 86, 88, 82]⟩⟩, .string ⟨⟨[112, 114, 101, 112, 97, 114, 101]⟩⟩, .int .i64 2, .int .i64 0, .string ⟨⟨[80]⟩⟩, .string ⟨⟨[114, 101, 108, 101, 97, 115, 101]⟩⟩, .int .i64 3, .int .i64 0, .string ⟨⟨[]⟩⟩, .string ⟨⟨[112, 97, 121]⟩⟩, .int .i64 4, .int .i64 0, .string ⟨⟨[]⟩⟩, .string ⟨⟨[114, 101, 118, 101, 114, 115, 101]⟩⟩, .int .i64 5, .int .i64 0, .string ⟨⟨[]⟩⟩, .string ⟨⟨[99, 114, 97, 115, 104]⟩⟩, .int .i64 6, .int .i64 0, .string ⟨⟨[87, 84, 83]⟩⟩]
noncomputable def H0 : AH := ⟨(.nd (.nd (.nd (.nd .lf (some ⟨none, .dead⟩) .lf) (some ⟨none, .dead⟩) (.nd .lf (some ⟨none, .dead⟩) .lf)) (some ⟨none, .dead⟩) (.nd (.nd .lf (some ⟨none, .dead⟩) .lf) (some ⟨none, .dead⟩) .lf)) (some ⟨some (0, 56), .cells 194 formsL⟩) (.nd (.nd (.nd .lf (some ⟨none, .dead⟩) .lf) (some ⟨none, .dead⟩) .lf) (some ⟨none, .dead⟩) (.nd (.nd .lf (some ⟨none, .dead⟩) .lf) (some ⟨none, .dead⟩) .lf))), 12⟩
noncomputable def orcC : Orc := fun g => match Nat.beq g 68 with
  | true => some (copyCheckF 89)
  | false => match Nat.beq g 38 with
    | true => some (stringF 5)
    | false => match Nat.beq g 97 with
      | true => some (sortedF 3 [147, 206])
      | false => none
end Go.Proofs.YtdcbnkimjhefkaaGreatDoor

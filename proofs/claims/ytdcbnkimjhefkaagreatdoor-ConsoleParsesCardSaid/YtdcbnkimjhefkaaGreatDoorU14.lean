/-
 Functions that are told by a contract: the machine's word is good where the contract holds.
 Memory where the console's laws begin, and the functions that are told by contracts.
 What a listed variable of numbers and texts lays into memory, cell for cell.
 Rows of the console's laws: a world for a witness, the last step, what the listed variables give.
 The plain functions behind package token: what a text's tokens are. No program in sight.
 Small lemmas for the walks over package token.
 The walks of package token's small functions.
-/
import Derived.Test.YtdcbnkimjhefkaaGreatDoorU13
import Derived.Lib.LaidTab
import Derived.Stop.LaidErr
import Derived.Test.YtdcbnkimjhefkaaGreatDoorCards
import Derived.Test.YtdcbnkimjhefkaaGreatDoorU02
import Derived.WalkKit
import Derived.ProofKit
import Derived.OpenShut
import Derived.Deep.DeepHandedRow
import Derived.Test.YtdcbnkimjhefkaaGreatDoorProg
import Derived.WalkSpells
import Derived.WalkLawsBesides
import Derived.Outline
import Derived.Lib.Hide
import Derived.Deep.DeepFit
import Derived.Deep.QuietTactic
import Derived.BigQuiet
namespace Go.Proofs.YtdcbnkimjhefkaaGreatDoor
open Go.RowKit
section
variable {P : Program}
theorem bytesE_inv : ∀ {l : List Value} {r : List UInt8}, bytesE l = some r → l = r.map fun b => Value.int .u8 (b.toNat : Int)
 | [], r, h => by simp [bytesE] at h; subst h; rfl
 | v :: l, r, h => by
  unfold bytesE at h
  split at h
  ·rename_i hh; cases hh
  ·rename_i n l2 hh
   rw [List.cons.injEq] at hh
   obtain ⟨rfl, rfl⟩ := hh
   split at h
   ·rename_i hb
    have hlt : n < 256 := Nat.le_of_ble_eq_true hb
    split at h
    ·rename_i r' hr
     obtain rfl := Option.some.inj h
     rw [List.map_cons, ← bytesE_inv hr]
     congr 2
     show Int.ofNat n = ((UInt8.ofNat n).toNat : Int)
     simp [Nat.mod_eq_of_lt hlt]
    ·cases h
   ·cases h
  ·cases h
theorem VRs.one {σ : Ren} {D : Dom} {v : Value} {l : List Value} (h : VRs σ D [v] l) : ∃ u, l = [u] ∧ VR σ D v u := by
 cases h with
 | cons _ u _ l' h1 h2 => cases h2; exact ⟨u, rfl, h1⟩
theorem Sim.found {σ : Ren} {h : Hp} {w : World} (s : Sim P σ h w) (id : Nat) (hid : h id = none) (hg : P.globals.size ≤ id) (i : Option (Nat × Nat)) (x : Body) (X : Obj) (cap gb : Nat) {w' : World} (hB : Below w.heap.size w w') (hge : w.heap.size ≤ gb) (hX : w'.heap[gb]? = some X)
  (hx : ∀ σ' : Ren, Ren.le σ h.dom σ' (h.set id ⟨i, x⟩).dom → σ'.blk id = gb → σ'.sh id = 0 → σ'.cap id = cap → BodyR σ' (h.set id ⟨i, x⟩).dom id i x X) :
  ∃ σ', Sim P σ' (h.set id ⟨i, x⟩) w' ∧ Fwd σ h w σ' (h.set id ⟨i, x⟩) w' ∧ σ'.blk id = gb ∧ σ'.sh id = 0 ∧ σ'.cap id = cap := by
 let σ' : Ren := ⟨fun b => if b = id then gb else σ.blk b, fun b => if b = id then 0 else σ.sh b, fun b => if b = id then cap else σ.cap b⟩
 have hlt : ∀ b, h.live b → σ.blk b < w.heap.size := fun b hb => s.lt hb
 have hle : Ren.le σ h.dom σ' (h.set id ⟨i, x⟩).dom := by
  refine ⟨fun b x hb => ?_, fun b x hb => ?_⟩
  ·have hne : b ≠ id := fun e => by subst e; simp [Hp.dom, hid] at hb
   unfold Hp.dom at hb ⊢
   rw [Hp.set_other hne]; exact hb
  ·have hne : b ≠ id := fun e => by subst e; simp [Hp.dom, hid] at hb
   simp [σ', hne]
 have hlive : ∀ b, (h.set id ⟨i, x⟩).live b → b ≠ id → h.live b := fun b hb hne => by
  obtain ⟨i', x', e, hd⟩ := hb
  rw [Hp.set_other hne] at e
  exact ⟨i', x', e, hd⟩
 refine ⟨σ', ⟨?_, ?_, ?_⟩, ⟨hle, ?_, ?_, ?_, hB.size, hB.os, hB.tape, hB.output, ?_⟩, by simp [σ'], by simp [σ'], by simp [σ']⟩
 ·intro b i' x' hb hd
  by_cases e : b = id
  ·subst e
   rw [Hp.set_same] at hb
   simp only [Option.some.injEq, Blk.mk.injEq] at hb
   obtain ⟨rfl, rfl⟩ := hb
   exact ⟨X, by simp only [σ', if_true]; exact hX, hx σ' hle (by simp [σ']) (by simp [σ']) (by simp [σ'])⟩
  ·rw [Hp.set_other e] at hb
   obtain ⟨X', q1, q2⟩ := s.body b i' x' hb hd
   refine ⟨X', ?_, q2.mono hle (Hp.dom_some hb)⟩
   simp only [σ', e, if_false]
   rw [hB.block _ (hlt b ⟨_, _, hb, hd⟩)]
   exact q1
 ·intro b b' hb hb' hne
  by_cases e : b = id
  ·subst e
   have e' : b' ≠ b := fun e' => hne e'.symm
   have := hlt b' (hlive b' hb' e')
   simp only [σ', if_true, e', if_false]
   omega
  ·by_cases e' : b' = id
   ·subst e'
    have := hlt b (hlive b hb e)
    simp only [σ', if_true, e, if_false]
    omega
   ·simp only [σ', e, e', if_false]
    exact s.apart b b' (hlive b hb e) (hlive b' hb' e') hne
 ·intro g hg' hn
  have e : g ≠ id := by omega
  rw [Hp.set_other e] at hn
  simpa [σ', e] using s.glob g hg' hn
 ·intro k hk _
  exact hB.block k hk
 ·intro b hb hl
  by_cases e : b = id
  ·subst e; left; simp only [σ', if_true]; exact hge
  ·exact ((hlive b hl e).not_none hb).elim
 ·intro b hl hn
  by_cases e : b = id
  ·subst e; exact (hn hid).elim
  ·exact hlive b hl e
 ·intro b e t2 cs2 hb
  have hne : b ≠ id := fun e => by subst e; rw [hid] at hb; cases hb
  exact ⟨by rw [Hp.set_other hne]; exact hb, hB.block _ (hlt b (.row hb))⟩
theorem copyCheck_good {f : FuncId} {tB : TypeId}
  (hu : ∀ b w, w.cell? ⟨b, 0, none⟩ = some (.pointer (some ⟨b, 0, none⟩)) → Calls P f #[.pointer (some ⟨b, 0, none⟩)] w fun e w' => e = .returned (.tuple #[]) ∧ w' = w)
  (hf : ∀ b w, w.cell? ⟨b, 0, none⟩ = some (.pointer none) → w.shape? b = some (tB, 2) → w.frozen? ⟨b, 0, none⟩ = false → Calls P f #[.pointer (some ⟨b, 0, none⟩)] w fun e w' => e = .returned (.tuple #[]) ∧ w' = w.setCell ⟨b, 0, none⟩ (.pointer (some ⟨b, 0, none⟩)))
  {args : List Value} {H : AH} {v : Value} {H' : AH} (hok : AH.ok P H) (h : copyCheckF tB args H = some (v, H')) : AH.ok P H' ∧ H.next ≤ H'.next ∧ ∀ σ w args', Sim P σ H.get w → VRs σ (Hp.dom H.get) args args' → Calls P f args'.toArray w (Left P σ H w v H') := by
 unfold copyCheckF at h
 split at h
 ·rename_i b
  split at h
  ·rename_i t x hb
   split at h
   ·rename_i hx
    rw [Bool.and_eq_true] at hx
    obtain rfl := Nat.eq_of_beq_eq_true hx.2
    obtain ⟨H1, h1, h2, h3⟩ := AH.setK_inv h
    simp only [Option.some.injEq, Prod.mk.injEq] at h1
    obtain ⟨rfl, rfl⟩ := h1
    refine ⟨AH.ok_set hok hb h2 h3, by omega, fun σ w args' hS hv => ?_⟩
    obtain ⟨u, rfl, hu'⟩ := hv.one
    obtain ⟨hd, rfl⟩ := hu'.ptr_inv
    obtain ⟨C, T, fr, q1, q2⟩ := hS.row b none t _ hb
    have hsh := q2.sh0
    have hsz : C.size = 2 := q2.plain rfl
    have hT : T = t := q2.elem fun e => nofun
    obtain ⟨v0, c1, c2⟩ := hS.cell hb (j := 0) (v := .pointer none) rfl
    cases c2
    rw [hsh] at c1
    have hfz := hS.unfrozen (i := none) (fun e => nofun) hb (j := 0) (by simp)
    rw [hsh] at hfz ⊢
    refine (hf (σ.blk b) w c1 (by simp [World.shape?, q1, hsz, hT]) hfz).mono fun e w' hh => ?_
    obtain ⟨rfl, rfl⟩ := hh
    obtain ⟨g1, g2⟩ := hS.put (i := none) (fun e => nofun) hb (cs2 := [.pointer (some ⟨b, 0, none⟩), x]) (o := 0) (r := [.pointer (some ⟨b, 0, none⟩)]) (r' := [.pointer (some ⟨σ.blk b, σ.sh b + 0, none⟩)]) (.inr (by simp)) (.cons _ _ _ _ hu' .nil) rfl (fun j => by
     cases j with
     | zero => rfl
     | succ j => rw [if_neg (by simp)]; rfl)
    rw [hsh] at g1 g2
    exact ⟨_, rfl, σ, by rw [h3]; exact g1, by rw [h3]; exact g2, .tuple _ _ .nil⟩
   ·cases h
  ·rename_i t b' x hb
   split at h
   ·rename_i hx
    obtain rfl := Nat.eq_of_beq_eq_true hx
    simp only [Option.some.injEq, Prod.mk.injEq] at h
    obtain ⟨rfl, rfl⟩ := h
    refine ⟨hok, Nat.le_refl _, fun σ w args' hS hv => ?_⟩
    obtain ⟨u, rfl, hu'⟩ := hv.one
    obtain ⟨hd, rfl⟩ := hu'.ptr_inv
    obtain ⟨C, T, fr, q1, q2⟩ := hS.row b none t _ hb
    have hsh := q2.sh0
    obtain ⟨v0, c1, c2⟩ := hS.cell hb (j := 0) (v := .pointer (some ⟨b, 0, none⟩)) rfl
    obtain ⟨_, rfl⟩ := c2.ptr_inv
    rw [hsh] at c1 ⊢
    refine (hu (σ.blk b) w c1).mono fun e w' hh => ?_
    obtain ⟨rfl, rfl⟩ := hh
    exact ⟨_, rfl, σ, hS, .refl _ _ _, .tuple _ _ .nil⟩
   ·cases h
  ·cases h
 ·cases h
theorem freeze_at (w : World) (g n : Nat) : (∀ k, k ≠ g → (w.drew.freeze ⟨g, 0, none⟩ n).heap[k]? = w.heap[k]?) ∧ (w.drew.freeze ⟨g, 0, none⟩ n).heap.size = w.heap.size ∧ (w.drew.freeze ⟨g, 0, none⟩ n).os = w.os ∧ (w.drew.freeze ⟨g, 0, none⟩ n).tape = w.tape ∧ (w.drew.freeze ⟨g, 0, none⟩ n).output = w.output := by
 unfold World.freeze
 split
 ·exact ⟨fun _ _ => rfl, rfl, rfl, rfl, rfl⟩
 ·refine ⟨fun k hk => ?_, ?_, rfl, rfl, rfl⟩
  ·show (w.heap.modify g _)[k]? = _
   rw [Array.getElem?_modify, if_neg (Ne.symm hk)]
  ·show (w.heap.modify g _).size = _
   simp
theorem string_good {f : FuncId} {tU : TypeId}
  (hs : ∀ b g m (l : List UInt8) w, w.cell? ⟨b, 1, none⟩ = some (.slice (some ⟨g, 0, none⟩) l.length m) → l ≠ [] → l.length ≤ m → l.length ≤ 16777217 → (∀ (j : Nat) x, l[j]? = some x → w.cell? ⟨g, j, none⟩ = some (.int .u8 (x.toNat : Int))) → (∃ sz, w.shape? g = some (tU, sz) ∧ l.length ≤ sz) →
   Calls P f #[.pointer (some ⟨b, 0, none⟩)] w fun e w' => e = .returned (.string ⟨⟨l⟩⟩) ∧ w' = w.drew.freeze ⟨g, 0, none⟩ l.length)
  {args : List Value} {H : AH} {v : Value} {H' : AH} (hok : AH.ok P H) (h : stringF tU args H = some (v, H')) : AH.ok P H' ∧ H.next ≤ H'.next ∧ ∀ σ w args', Sim P σ H.get w → VRs σ (Hp.dom H.get) args args' → Calls P f args'.toArray w (Left P σ H w v H') := by
 unfold stringF at h
 split at h
 ·rename_i b
  split at h
  ·rename_i t x g n m hb
   split at h
   ·rename_i sz e t2 cs hg
    split at h
    ·cases h
    ·rename_i hro
     rw [Bool.or_eq_false_iff, Bool.not_eq_false', Bool.and_eq_true] at hro
     rw [Bool.and_eq_true] at hro
     obtain ⟨hr1, ⟨hr2, hr3⟩, hr4⟩ := hro
     have hr4 := Nat.le_of_ble_eq_true hr4
     obtain rfl := Nat.eq_of_beq_eq_true hr2
     have hnm := Nat.le_of_ble_eq_true hr3
     obtain ⟨h1, h2⟩ := takeK_inv h
     split at h2
     ·rename_i l hl
      rw [bytesK_eq] at h2
      obtain ⟨H1, h3, h4, h5⟩ := AH.setK_inv h2
      simp only [Option.some.injEq, Prod.mk.injEq] at h3
      obtain ⟨rfl, rfl⟩ := h3
      have hlv := bytesE_inv hl
      have hll : l.length = n + 1 := by
       have := congrArg List.length hlv
       rw [List.length_take, List.length_map] at this
       omega
      refine ⟨AH.ok_set hok hg h4 h5, by omega, fun σ w args' hS hv => ?_⟩
      obtain ⟨u, rfl, hu'⟩ := hv.one
      obtain ⟨hd, rfl⟩ := hu'.ptr_inv
      obtain ⟨C, T, fr, q1, q2⟩ := hS.row b none t _ hb
      obtain ⟨C2, T2, fr2, p1, p2⟩ := hS.row g _ _ _ hg
      obtain ⟨v0, c1, c2⟩ := hS.cell hb (j := 1) (v := .slice (some ⟨g, 0, none⟩) (n + 1) m) rfl
      obtain ⟨z, m', d1, d2, rfl, _⟩ := c2.slice_inv
      rw [q2.sh0, p2.sh0] at c1
      rw [q2.sh0]
      have hT : T2 = t2 := p2.elem (roB_false hr1)
      have hfit := p2.fits
      rw [p2.sh0] at hfit
      refine (hs (σ.blk b) (σ.blk g) m' l w (by rw [hll]; exact c1) (fun e => by rw [e] at hll; cases hll) (by omega) (by omega) (fun j y hy => ?_) ⟨C2.size, by simp [World.shape?, p1, hT], by omega⟩).mono fun e w' hh => ?_
      ·have hj : ((cs.take (n + 1)))[j]? = some (.int .u8 (y.toNat : Int)) := by rw [show cs.take (n + 1) = cs.take (Nat.succ n) from rfl, hlv, List.getElem?_map, hy]; rfl
       rw [List.getElem?_take] at hj
       split at hj
       ·obtain ⟨u, k1, k2⟩ := hS.cell hg hj
        rw [p2.sh0, Nat.zero_add] at k1
        rw [k2.int_inv] at k1
        exact k1
       ·cases hj
      ·obtain ⟨rfl, rfl⟩ := hh
       obtain ⟨f1, f2, f3, f4, f5⟩ := freeze_at w (σ.blk g) l.length
       have hlt := (Array.getElem?_eq_some_iff.1 p1).1
       obtain ⟨g1, g2⟩ := hS.turn (roB_false hr1) hg nofun (y := .dead) (w' := w.drew.freeze ⟨σ.blk g, 0, none⟩ l.length) (X' := (w.drew.freeze ⟨σ.blk g, 0, none⟩ l.length).heap[σ.blk g]'(by rw [f2]; exact hlt)) (Array.getElem?_eq_getElem _) f1 f2 f3 f4 f5 fun hn => (hn rfl).elim
       exact ⟨_, rfl, σ, by rw [h5]; exact g1, by rw [h5]; exact g2, .string _⟩
     ·cases h2
   ·cases h
  ·cases h
 ·cases h
theorem sorted_good {f : FuncId} {tI : TypeId} {ks : List FuncId}
  (h0 : ∀ g, ks.any (Nat.beq g) = true → ∀ c m clock w, w.cell? ⟨c, 0, none⟩ = some (.map (some m)) → w.heap[m]? = some (.map #[] clock) → Calls P f #[.func (.func g) #[] #[.pointer (some ⟨c, 0, none⟩)]] w fun e w' => e = .returned (.slice none 0 0) ∧ Below w.heap.size w w')
  (h1 : ∀ g, ks.any (Nat.beq g) = true → ∀ c m (k : Nat) x w, k < 1000000 → w.cell? ⟨c, 0, none⟩ = some (.map (some m)) → w.heap[m]? = some (.map #[⟨.int .i64 (k : Int), .bool x, 0⟩] 1) → Calls P f #[.func (.func g) #[] #[.pointer (some ⟨c, 0, none⟩)]] w fun e w' => Below w.heap.size w w' ∧ ∃ gb cap cur, w.heap.size ≤ gb ∧ 1 ≤ cap ∧ e = .returned (.slice (some ⟨gb, 0, none⟩) 1 cap) ∧ w'.heap[gb]? = some (.cells cur tI (0, 0)) ∧ cur.size = cap ∧ cur[0]? = some (.int .i64 (k : Int)))
  {args : List Value} {H : AH} {v : Value} {H' : AH} (hok : AH.ok P H) (h : sortedF tI ks args H = some (v, H')) : AH.ok P H' ∧ H.next ≤ H'.next ∧ ∀ σ w args', Sim P σ H.get w → VRs σ (Hp.dom H.get) args args' → Calls P f args'.toArray w (Left P σ H w v H') := by
 unfold sortedF at h
 split at h
 ·rename_i g c
  have hargs : ∀ σ (args' : List Value), VRs σ (Hp.dom H.get) [.func (.func g) ⟨[]⟩ ⟨[.pointer (some ⟨c, 0, none⟩)]⟩] args' → Hp.dom H.get c ≠ none ∧ args' = [.func (.func g) #[] #[.pointer (some ⟨σ.blk c, σ.sh c + 0, none⟩)]] := fun σ args' hv => by
   obtain ⟨u, rfl, hu⟩ := hv.one
   cases hu with
   | func _ _ f' _ c' q1 q2 =>
    cases q1
    obtain ⟨y, rfl, hy⟩ := q2.one
    obtain ⟨q3, rfl⟩ := hy.ptr_inv
    exact ⟨q3, rfl⟩
  split at h
  ·rename_i i t m hg hc
   have hcell : ∀ σ w, Sim P σ H.get w → σ.sh c = 0 ∧ w.cell? ⟨σ.blk c, 0, none⟩ = some (.map (some (σ.blk m))) := fun σ w hS => by
    obtain ⟨C, T, fr, q1, q2⟩ := hS.row c i t _ hc
    obtain ⟨v0, c1, c2⟩ := hS.cell hc (j := 0) (v := .map (some m)) rfl
    rw [q2.sh0] at c1
    cases c2
    exact ⟨q2.sh0, c1⟩
   split at h
   ·rename_i i2 clock hm
    simp only [Option.some.injEq, Prod.mk.injEq] at h
    obtain ⟨rfl, rfl⟩ := h
    refine ⟨hok, Nat.le_refl _, fun σ w args' hS hv => ?_⟩
    obtain ⟨_, rfl⟩ := hargs σ args' hv
    obtain ⟨q1, q2⟩ := hcell σ w hS
    obtain ⟨X, q3, q4, rfl⟩ := hS.body m i2 _ hm nofun
    rw [q1]
    refine (h0 g hg (σ.blk c) (σ.blk m) clock w q2 q3).mono fun e w' hh => ?_
    obtain ⟨rfl, hB⟩ := hh
    obtain ⟨g1, g2⟩ := hS.below hB
    exact ⟨_, rfl, σ, g1, g2, .nilslice _ _⟩
   ·rename_i i2 k x hm
    split at h
    case h_2 => cases h
    rename_i hk
    have hk : k < 1000000 := Nat.le_of_ble_eq_true hk
    obtain ⟨H1, r1, r2, r3⟩ := AH.newK_inv h
    simp only [Option.some.injEq, Prod.mk.injEq] at r1
    obtain ⟨rfl, rfl⟩ := r1
    refine ⟨AH.ok_new hok r2 r3, by omega, fun σ w args' hS hv => ?_⟩
    obtain ⟨_, rfl⟩ := hargs σ args' hv
    obtain ⟨q1, q2⟩ := hcell σ w hS
    obtain ⟨X, q3, q4, rfl⟩ := hS.body m i2 _ hm nofun
    rw [q1]
    refine (h1 g hg (σ.blk c) (σ.blk m) k x w hk q2 q3).mono fun e w' hh => ?_
    obtain ⟨hB, gb, cap, cur, k1, k2, rfl, k3, k4, k5⟩ := hh
    obtain ⟨σ', g1, g2, g3, g4, g5⟩ := hS.found H.next (hok.2 _ (Nat.le_refl _)) hok.1 (some (1, 1)) (.cells tI [.int .i64 (.ofNat k)]) (.cells cur tI (0, 0)) cap gb hB k1 k3 fun σ' hle p1 p2 p3 => by
     refine ⟨cur, tI, (0, 0), rfl, ⟨fun _ j _ hj => (by cases hj), ?_, ?_, ?_, fun _ => rfl, p2, nofun⟩⟩
     ·rw [p2]; simp; omega
     ·intro j u hj
      cases j with
      | zero =>
       rw [p2]
       simp only [List.getElem?_cons_zero, Option.some.injEq] at hj
       subst hj
       exact ⟨_, k5, .int _ _⟩
      | succ j => simp at hj
     ·intro sz e he
      simp only [Option.some.injEq, Prod.mk.injEq] at he
      rw [p2, p3, k4]
      simp
      omega
    refine ⟨_, rfl, σ', by rw [r3]; exact g1, by rw [r3]; exact g2, ?_⟩
    rw [r3]
    have := VR.sliceo (σ := σ') (D := Hp.dom (Hp.set H.get H.next ⟨some (1, 1), .cells tI [.int .i64 (.ofNat k)]⟩)) ⟨H.next, 0, none⟩ 1 1 cap 1 1 (by simp [Hp.dom, Hp.set_same]) rfl (by simp) (by simp [g5]) k2
    unfold Ren.addr at this
    simp only [g3, g4, Nat.zero_add] at this
    exact this
   ·cases h
  ·cases h
 ·cases h
end
end Go.Proofs.YtdcbnkimjhefkaaGreatDoor

namespace Go.Proofs.YtdcbnkimjhefkaaGreatDoor
noncomputable def formsL : List Value := [.string ⟨⟨[104, 105, 114, 101]⟩⟩, .int .i64 1, .int .i64 1, .string ⟨⟨[69, 68]⟩⟩, .string ⟨⟨[108, 101, 97, 118, 101]⟩⟩, .int .i64 1, .int .i64 2, .string ⟨⟨[69, 68]⟩⟩, .string ⟨⟨[105, 110, 112, 117, 116]⟩⟩, .int .i64 1, .int .i64 3, .string ⟨⟨[69, 78, 68, 86]⟩⟩, .string ⟨⟨[104, 111, 117, 114, 115]⟩⟩, .int .i64 1, .int .i64 4, .string ⟨⟨[69, 78, 68, 86]⟩⟩, .string ⟨⟨[97, 103, 114, 101, 101, 109, 101, 110, 116]⟩⟩, .int .i64 1, .int .i64 5, .string ⟨⟨[68]⟩⟩, .string ⟨⟨[114, 117, 108, 101, 115]⟩⟩, .int .i64 1, .int .i64 6, .string ⟨⟨[68, 86]⟩⟩, .string ⟨⟨[100, 101, 112, 101, 110, 100, 101, 110, 116, 115]⟩⟩, .int .i64 1, .int .i64 7, .string ⟨⟨[69, 68, 86]⟩⟩, .string ⟨⟨[111, 114, 100, 101, 114]⟩⟩, .int .i64 1, .int .i64 8, .string ⟨⟨[69, 78, 68, 86, 88, 82]⟩⟩, .string ⟨⟨[100, 101, 100, 117, 99, 116, 105, 111, 110]⟩⟩, .int .i64 1, .int .i64 9, .string ⟨⟨[69, 78, 68, 86, 88, 82]⟩⟩, .string ⟨⟨[112, 114, 101, 112, 97, 114, 101]⟩⟩, .int .i64 2, .int .i64 0, .string ⟨⟨[80]⟩⟩, .string ⟨⟨[114, 101, 108, 101, 97, 115, 101]⟩⟩, .int .i64 3, .int .i64 0, .string ⟨⟨[]⟩⟩, .string ⟨⟨[112, 97, 121]⟩⟩, .int .i64 4, .int .i64 0, .string ⟨⟨[]⟩⟩, .string ⟨⟨[114, 101, 118, 101, 114, 115, 101]⟩⟩, .int .i64 5, .int .i64 0, .string ⟨⟨[]⟩⟩, .string ⟨⟨[99, 114, 97, 115, 104]⟩⟩, .int .i64 6, .int .i64 0, .string ⟨⟨[87, 84, 83]⟩⟩]
noncomputable def H0 : AH := ⟨(.nd (.nd (.nd (.nd .lf (some ⟨none, .dead⟩) .lf) (some ⟨none, .dead⟩) (.nd .lf (some ⟨none, .dead⟩) .lf)) (some ⟨none, .dead⟩) (.nd (.nd .lf (some ⟨none, .dead⟩) .lf) (some ⟨none, .dead⟩) .lf)) (some ⟨some (0, 56), .cells 194 formsL⟩) (.nd (.nd (.nd .lf (some ⟨none, .dead⟩) .lf) (some ⟨none, .dead⟩) .lf) (some ⟨none, .dead⟩) (.nd (.nd .lf (some ⟨none, .dead⟩) .lf) (some ⟨none, .dead⟩) .lf))), 12⟩
noncomputable def orcC : Orc := fun g => match Nat.beq g 68 with
 | true => some (copyCheckF 89)
 | false => match Nat.beq g 38 with
  | true => some (stringF 5)
  | false => match Nat.beq g 97 with
   | true => some (sortedF 3 [147, 206])
   | false => none
end Go.Proofs.YtdcbnkimjhefkaaGreatDoor

namespace Go.Proofs.YtdcbnkimjhefkaaGreatDoor
noncomputable def catO : List (Option (List Value)) → Option (List Value)
 | [] => some []
 | some x :: l => match catO l with
  | some r => some (x ++ r)
  | none => none
 | none :: _ => none
noncomputable def placesOk : Nat → List (Nat × Nat) → Nat → Bool
 | o, [], n => Nat.beq o n
 | o, (off, sz) :: l, n => Nat.beq off o && placesOk (o + sz) l n
noncomputable def flat (P : Program) : Nat → TypeId → DataW Unit → Option (List Value)
 | 0, _, _ => none
 | fuel + 1, t, d => match P.underlying t, d with
  | some .bool, .lit (.bool b) => some [.bool b]
  | some (.int _), .lit (.int k n) => some [.int k n]
  | some .string, .lit (.string s) => some [.string ⟨⟨s⟩⟩]
  | some (.struct fs), .agg ds => match placesOk 0 (fs.toList.map fun f => (f.offset, P.cellsOf f.type)) (P.cellsOf t) with
   | true => catO ((fs.toList.zip ds).map fun x => flat P fuel x.1.type x.2)
   | false => none
  | some (.array n e), .agg ds => match Nat.beq (n * P.cellsOf e) (P.cellsOf t) with
   | true => catO (ds.map fun x => flat P fuel e x)
   | false => none
  | _, _ => none
theorem catO_cons {x : Option (List Value)} {l : List (Option (List Value))} {r : List Value} (h : catO (x :: l) = some r) : ∃ a b, x = some a ∧ catO l = some b ∧ r = a ++ b := by
 cases x with
 | none => cases h
 | some a =>
  unfold catO at h
  split at h
  ·rename_i b hb; exact ⟨a, b, rfl, hb, (Option.some.inj h).symm⟩
  ·cases h
theorem take_drop_next (cs : List Value) (o m n : Nat) : (cs.drop o).take (m + n) = (cs.drop o).take m ++ (cs.drop (o + m)).take n := by
 rw [List.take_add, List.drop_drop]
theorem flat_trod {P : Program} {w : World} {base : Nat} {sp : Nat → Bool} {enc : TypeId × Value → Unit} : ∀ (k fuel : Nat) (t : TypeId) (cs : List Value) (d : DataW Unit) (p : List MemPlace) (xs : List Value), DataW.trod enc P w base sp false fuel t cs = some (d, p) → flat P k t d = some xs → cs = xs
 | 0, _, _, _, _, _, _, _, h => by cases h
 | k + 1, 0, _, _, _, _, _, h, _ => by cases h
 | k + 1, fuel + 1, t, cs, d, p, xs, h, hf => by
  have ih := flat_trod (P := P) (w := w) (base := base) (sp := sp) (enc := enc) k fuel
  unfold flat at hf
  split at hf
  ·rename_i b hu
   simp only [DataW.trod, hu] at h
   obtain rfl := Option.some.inj hf
   split at h <;> simp_all
  ·rename_i k1 k2 n hu
   simp only [DataW.trod, hu] at h
   obtain rfl := Option.some.inj hf
   split at h <;> simp_all
  ·rename_i s hu
   simp only [DataW.trod, hu] at h
   obtain rfl := Option.some.inj hf
   split at h <;> simp_all
   obtain ⟨h1, h2, _⟩ := h
   subst h2
   rfl
  ·rename_i fs ds hu
   simp only [DataW.trod, hu] at h
   split at hf
   ·rename_i hp
    split at h
    ·rename_i hl
     rw [Option.map_eq_some_iff] at h
     obtain ⟨ys, hy, he⟩ := h
     simp only [Prod.mk.injEq, DataW.agg.injEq] at he
     obtain ⟨rfl, _⟩ := he
     have key : ∀ (l : List Field) (ys : List (DataW Unit × List MemPlace)) (o : Nat) (r : List Value), l.mapM (fun f => DataW.trod enc P w base sp false fuel f.type ((cs.drop f.offset).take (P.cellsOf f.type))) = some ys → placesOk o (l.map fun f => (f.offset, P.cellsOf f.type)) (P.cellsOf t) = true → catO ((l.zip (ys.map (·.1))).map fun x => flat P k x.1.type x.2) = some r → o ≤ P.cellsOf t ∧ (cs.drop o).take (P.cellsOf t - o) = r := by
      intro l
      induction l with
      | nil =>
       intro ys o r h1 h2 h3
       have : o = P.cellsOf t := Nat.eq_of_beq_eq_true h2
       subst this
       obtain rfl := Option.some.inj h3
       exact ⟨Nat.le_refl _, by simp⟩
      | cons f l ihl =>
       intro ys o r h1 h2 h3
       simp only [List.mapM_cons, Option.bind_eq_bind, Option.bind_eq_some_iff, Option.pure_def, Option.some.injEq] at h1
       obtain ⟨y, hy1, ys', hy2, rfl⟩ := h1
       unfold placesOk at h2
       simp only [List.map_cons, Bool.and_eq_true] at h2
       have ho : f.offset = o := Nat.eq_of_beq_eq_true h2.1
       simp only [List.map_cons, List.zip_cons_cons] at h3
       obtain ⟨a, b, q1, q2, rfl⟩ := catO_cons h3
       obtain ⟨g1, g2⟩ := ihl ys' (o + P.cellsOf f.type) b hy2 h2.2 q2
       have hya := ih f.type _ y.1 y.2 a hy1 q1
       refine ⟨by omega, ?_⟩
       rw [show P.cellsOf t - o = P.cellsOf f.type + (P.cellsOf t - (o + P.cellsOf f.type)) by omega, take_drop_next, g2, ← hya, ho]
     obtain ⟨_, g⟩ := key fs.toList ys 0 xs hy hp hf
     rw [← g, Nat.sub_zero, List.drop_zero, ← hl, List.take_length]
    ·cases h
   ·cases hf
  ·rename_i n e ds hu
   simp only [DataW.trod, hu] at h
   split at hf
   ·rename_i hp
    have hp' : n * P.cellsOf e = P.cellsOf t := Nat.eq_of_beq_eq_true hp
    split at h
    ·rename_i hl
     rw [Option.map_eq_some_iff] at h
     obtain ⟨ys, hy, he⟩ := h
     simp only [Prod.mk.injEq, DataW.agg.injEq] at he
     obtain ⟨rfl, _⟩ := he
     have key : ∀ (m o : Nat) (ys : List (DataW Unit × List MemPlace)) (r : List Value), (List.range' o m).mapM (fun i => DataW.trod enc P w base sp false fuel e ((cs.drop (i * P.cellsOf e)).take (P.cellsOf e))) = some ys → catO ((ys.map (·.1)).map fun x => flat P k e x) = some r → (cs.drop (o * P.cellsOf e)).take (m * P.cellsOf e) = r := by
      intro m
      induction m with
      | zero =>
       intro o ys r h1 h3
       simp at h1
       subst h1
       obtain rfl := Option.some.inj h3
       simp
      | succ m ihm =>
       intro o ys r h1 h3
       rw [List.range'_succ] at h1
       simp only [List.mapM_cons, Option.bind_eq_bind, Option.bind_eq_some_iff, Option.pure_def, Option.some.injEq] at h1
       obtain ⟨y, hy1, ys', hy2, rfl⟩ := h1
       simp only [List.map_cons] at h3
       obtain ⟨a, b, q1, q2, rfl⟩ := catO_cons h3
       have g2 := ihm (o + 1) ys' b hy2 q2
       have hya := ih e _ y.1 y.2 a hy1 q1
       rw [show (m + 1) * P.cellsOf e = P.cellsOf e + m * P.cellsOf e by rw [Nat.add_mul]; omega, take_drop_next, ← hya]
       rw [show o * P.cellsOf e + P.cellsOf e = (o + 1) * P.cellsOf e by rw [Nat.add_mul]; omega, g2]
     have g := key n 0 ys xs (by rw [← List.range_eq_range']; exact hy) hf
     rw [← g, Nat.zero_mul, List.drop_zero, hp', ← hl, List.take_length]
    ·cases h
   ·cases hf
  ·cases hf
theorem laid_head {P : Program} {W : World} {name : String} {d : DataW Unit} {rest : List (String × DataW Unit)} (k : Nat) {g : Nat} {t : TypeId} {xs : List Value} (hg : P.globalNamed name = some g) (hty : (P.globals[g]?).map (·.type) = some t) (hf : flat P k t d = some xs) (h : laidMet P ((name, d) :: rest) W) : ∀ j v, xs[j]? = some v → W.cell? ⟨g, j, none⟩ = some v := by
 obtain ⟨ps, hv, _, _⟩ := h
 obtain ⟨g', t', cs, fuel, p, q, h1, h2, h3, h4, _, _⟩ := hv
 rw [hg] at h1
 obtain rfl := Option.some.inj h1
 rw [hty] at h2
 obtain rfl := Option.some.inj h2
 have hx := flat_trod k fuel t cs.toList d p xs h4 hf
 unfold World.var? at h3
 rw [hg] at h3
 simp only [Option.bind_some] at h3
 split at h3
 ·rename_i C T fr hb
  obtain rfl := Option.some.inj h3
  intro j v hj
  unfold World.cell?
  simp only [hb]
  rw [← hx] at hj
  simpa using hj
 ·cases h3
end Go.Proofs.YtdcbnkimjhefkaaGreatDoor

namespace Go.Proofs.YtdcbnkimjhefkaaGreatDoor
open Go.ChangeShapes Go.WideShapes Go.ChangeAt Go.RowKit

theorem ownKnobNone : ownKnob Tryz.prog.godebug = none := by kernel_rfl

def litCells : DataW Unit → List Value
 | .lit (.int k n) => [.int k n]
 | .lit (.string s) => [.string ⟨s.toArray⟩]
 | .agg xs => xs.flatMap fun
  | .lit (.int k n) => [.int k n]
  | .lit (.string s) => [.string ⟨s.toArray⟩]
  | .agg ys => ys.flatMap fun
   | .lit (.int k n) => [.int k n]
   | .lit (.string s) => [.string ⟨s.toArray⟩]
   | _ => []
  | _ => []
 | _ => []
def setRow (cs : Array Value) : Obj → Obj
 | .cells _ t frozen => .cells cs t frozen
 | o => o

section
variable {H : Type} {enc : TypeId × Value → H} {P : Program}
theorem post_of_below {f : Func} {s : ChangeSpec} {apart fresh handsOn again : Bool} {W W' : World} {args : Array Value} {v : Value} {ds gs : List (DataW H)} {before pa pv : List MemPlace}
  (hW : DataW.Whole enc P f.params.toList s.vars apart W args.toList ds gs before)
  (hres : ∀ (b : Nat) (sp : Nat → Bool) (hd : Bool), DataW.TrodAll enc P W' b sp hd f.resultTypes.toList (v.resultList f.resultTypes.size) (s.fn H (ds ++ gs)).results [])
  (hargs : ∀ sp : Nat → Bool, (∀ p ∈ before, sp p.block = true) → DataW.TrodAll enc P W' 0 sp true f.params.toList args.toList (s.fn H (ds ++ gs)).args pa)
  (hvars : ∀ sp : Nat → Bool, (∀ p ∈ before, sp p.block = true) → DataW.TrodVars enc P W' sp s.vars (s.fn H (ds ++ gs)).vars pv)
  (hps : before = pa ++ pv) (hb : Below W.heap.size W W')
  (hok : ∀ (j : Nat) (t : TypeId) (r : Value), f.resultTypes[j]? = some t → (v.resultList f.resultTypes.size)[j]? = some r → Value.okWide P W' .any 0 t r) :
  s.post enc P f apart fresh handsOn again W args v W' := by
 have hlt : ∀ p ∈ before, p.block < W.heap.size := fun p hp => hW.lt p hp
 have hold : ∀ p ∈ before, (fun b => decide (b < W.heap.size)) p.block = true := fun p hp => by simpa using hlt p hp
 refine ⟨ds, gs, before, [], pa, pv, hW, hres _ _ _, hargs _ hold, hvars _ hold, World.keptBut_mono (fun p hp => ⟨hp, ?_⟩) (hb.frame (· ∈ before)), fun _ => ?_⟩
 ·rw [hps, List.mem_append] at hp
  exact Or.inr hp
 ·obtain ⟨_, _, _, _, _, hz, hn⟩ := hW
  refine ⟨hok, _, _, ([] ++ pa) ++ pv, ⟨[] ++ pa, pv, trodAll_append (hargs _ (fun _ _ => rfl)) (hres _ _ _), hvars _ (fun _ _ => rfl), rfl, ?_, ?_⟩, ?_⟩
  ·intro b off hp
   have hin : MemPlace.cell b off ∈ before := by rw [hps]; simpa using hp
   rw [hb.frozen (hlt _ hin)]
   exact hz b off hin
  ·intro ha
   have := hn ha
   rw [hps] at this
   simpa using this
  ·intro p hp _
   rw [hps]
   simpa using hp
end

def errText : DataW Unit → Option (List UInt8)
 | .iface _ (.ptr (.agg [.lit (.string s)])) => some s
 | _ => none
noncomputable def layOne (h : Array Obj) (x : String × DataW Unit) : Array Obj :=
 match Tryz.prog.globalNamed x.1 with
 | some g => match errText x.2 with
  | some s => (h.push (.cells #[.string ⟨s.toArray⟩] 401)).modify g (setRow #[.iface 399 (.pointer (some ⟨h.size, 0, none⟩))])
  | none => h.modify g (setRow (litCells x.2).toArray)
 | none => h
theorem gForms : Tryz.prog.globalNamed "payroll/console.forms" = some 0 := by kernel_rfl
theorem gFormsType : (Tryz.prog.globals[0]?).map (·.type) = some 194 := by kernel_rfl
theorem gFormsLt : 0 < Tryz.prog.globals.size := of_decide_eq_true (by kernel_rfl)
theorem flatForms : flat Tryz.prog 4 194 Rows.laid_payroll_console_forms = some formsL := by kernel_rfl
theorem formsRow {W : World} {rest : List (String × DataW Unit)} (h : laidMet Tryz.prog (("payroll/console.forms", Rows.laid_payroll_console_forms) :: rest) W) : ∀ j v, formsL[j]? = some v → W.cell? ⟨0, j, none⟩ = some v :=
 laid_head 4 gForms gFormsType flatForms h
theorem H0_get : ∀ b i x, H0.get b = some ⟨i, x⟩ → x ≠ .dead → b = 0 ∧ i = some (0, 56) ∧ x = .cells 194 formsL := by
 intro b i x h hx
 have hlt : b < 12 := by
  rcases Nat.lt_or_ge b 12 with h1 | h1
  ·exact h1
  ·have := Tr.get_of_lt (t := H0.m) (n := 12) rfl h1
   unfold AH.get at h
   rw [this] at h; cases h
 have : b = 0 ∨ b = 1 ∨ b = 2 ∨ b = 3 ∨ b = 4 ∨ b = 5 ∨ b = 6 ∨ b = 7 ∨ b = 8 ∨ b = 9 ∨ b = 10 ∨ b = 11 := by omega
 rcases this with rfl | rfl | rfl | rfl | rfl | rfl | rfl | rfl | rfl | rfl | rfl | rfl
 all_goals first
  | (cases h; exact absurd rfl hx)
  | (cases h; exact ⟨rfl, rfl, rfl⟩)
theorem reads_forms {W : World} {rest : List (String × DataW Unit)} (h : laidMet Tryz.prog (("payroll/console.forms", Rows.laid_payroll_console_forms) :: rest) W) : Reads0 Tryz.prog H0 W := by
 refine ⟨fun b i x hb hx => ?_⟩
 obtain ⟨rfl, rfl, rfl⟩ := H0_get b i x hb hx
 exact ⟨_, _, rfl, gFormsLt, rfl, by kernel_rfl, formsRow h⟩
end Go.Proofs.YtdcbnkimjhefkaaGreatDoor

namespace Go.Proofs.YtdcbnkimjhefkaaGreatDoor
namespace Tk

def isDig (c : UInt8) : Bool := decide (48 ≤ c.toNat ∧ c.toNat ≤ 57)
def isLow (c : UInt8) : Bool := decide (97 ≤ c.toNat ∧ c.toNat ≤ 122)
def isWord (c : UInt8) : Bool := isLow c || isDig c || decide (c.toNat = 95)
def lead (p : UInt8 → Bool) : List UInt8 → Nat
 | [] => 0
 | c :: r => if p c = true then lead p r + 1 else 0

theorem lead_le (p : UInt8 → Bool) (l : List UInt8) : lead p l ≤ l.length := by
 induction l with
 | nil => simp [lead]
 | cons c r ih => unfold lead; split <;> simp <;> omega

theorem lead_all (p : UInt8 → Bool) (l : List UInt8) (j : Nat) (hj : j < lead p l) (h : j < l.length) : p l[j] = true := by
 induction l generalizing j with
 | nil => simp at h
 | cons c r ih =>
  unfold lead at hj
  split at hj
  ·rename_i hc
   cases j with
   | zero => simpa using hc
   | succ j => simp at h ⊢; exact ih j (by omega) h
  ·omega

theorem lead_stop (p : UInt8 → Bool) (l : List UInt8) (h : lead p l < l.length) : p l[lead p l] = false := by
 induction l with
 | nil => simp at h
 | cons c r ih =>
  by_cases hc : p c = true
  ·have e : lead p (c :: r) = lead p r + 1 := by simp [lead, hc]
   simp only [e, List.length_cons] at h ⊢
   simp only [List.getElem_cons_succ]
   exact ih (by omega)
  ·have e : lead p (c :: r) = 0 := by simp [lead, hc]
   simp only [e]
   simpa using hc

theorem lead_eq (p : UInt8 → Bool) (l : List UInt8) (k : Nat) (hk : k ≤ l.length) (ha : ∀ j (h : j < l.length), j < k → p l[j] = true) (hs : ∀ h : k < l.length, p l[k] = false) : lead p l = k := by
 have h1 := lead_le p l
 rcases Nat.lt_trichotomy (lead p l) k with h | h | h
 ·have := lead_stop p l (by omega)
  rw [ha _ _ h] at this
  cases this
 ·exact h
 ·have := lead_all p l k h (by omega)
  rw [hs (by omega)] at this
  cases this

def digs (l : List UInt8) : Nat := lead isDig l

def keywords : List (List UInt8) := [[97, 103, 114, 101, 101, 109, 101, 110, 116], [105, 110, 112, 117, 116], [112, 97, 115, 116], [115, 99, 97, 108, 101], [114, 117, 108, 101], [112, 97, 121], [102, 114, 111, 109], [114, 111, 117, 110, 100, 101, 100], [116, 111], [105, 102], [116, 104, 101, 110], [101, 108, 115, 101], [97, 110, 100], [111, 114], [110, 111, 116], [116, 114, 117, 101], [102, 97, 108, 115, 101], [109, 105, 110], [109, 97, 120], [114, 111, 117, 110, 100], [97, 118, 101, 114, 97, 103, 101], [108, 97, 115, 116], [109, 111, 110, 101, 121], [104, 111, 117, 114, 115], [100, 97, 121, 115], [110, 117, 109, 98, 101, 114], [98, 111, 111, 108], [100, 111, 119, 110], [117, 112], [102, 108, 111, 111, 114], [99, 101, 105, 108, 105, 110, 103], [104, 97, 108, 102, 95, 117, 112], [104, 97, 108, 102, 95, 100, 111, 119, 110], [104, 97, 108, 102, 95, 101, 118, 101, 110]]
def isKey (l : List UInt8) : Bool := keywords.contains l
def wordLen : List UInt8 → Nat
 | [] => 0
 | c :: r => if isLow c = true then lead isWord r + 1 else 0
def isName (l : List UInt8) : Bool := decide (0 < l.length) && decide (l.length ≤ 24) && decide (wordLen l = l.length) && !isKey l

def pair (c d : UInt8) : Bool := decide (c = 60 ∧ d = 61 ∨ c = 62 ∧ d = 61 ∨ c = 60 ∧ d = 62)
def form : List Bool → List UInt8 → Bool
 | [], _ => true
 | _ :: _, [] => false
 | p :: ps, c :: r => (if p = true then isDig c else decide (c.toNat = 45)) && form ps r
def val (l : List UInt8) : Nat := l.foldl (fun n c => n * 10 + (c.toNat - 48)) 0

structure Tok where
 kind : Int := 0
 text : List UInt8 := []
 num : Int := 0
 den : Int := 0
 day : Int := 0
 place : Int := 0

def hasFrac (l : List UInt8) : Bool := decide ((l.getD (digs l) 0).toNat = 46) && isDig (l.getD (digs l + 1) 0)
def frac (l : List UInt8) : Nat := if hasFrac l = true then digs (l.drop (digs l + 1)) else 0
def numEnd (l : List UInt8) : Nat := if hasFrac l = true then digs l + (1 + frac l) else digs l
def pct (l : List UInt8) : Bool := decide ((l.getD (numEnd l) 0).toNat = 37)
def most (l : List UInt8) : Nat := if pct l = true then 4 else 6
end Tk
end Go.Proofs.YtdcbnkimjhefkaaGreatDoor

namespace Go.Proofs.YtdcbnkimjhefkaaGreatDoor
open Go.RowKit

theorem ret_int {k : IntKind} {a b : Int} (h : a = b) : Ending.returned (.int k a) = .returned (.int k b) := by rw [h]
theorem ret_bool {a b : Bool} (h : a = b) : Ending.returned (.bool a) = .returned (.bool b) := by rw [h]
theorem ret_str {a b : List UInt8} (h : a = b) : Ending.returned (.string ⟨a.toArray⟩) = .returned (.string ⟨b.toArray⟩) := by rw [h]
theorem ba_get (l : List UInt8) (k : Nat) (h : k < (⟨l.toArray⟩ : ByteArray).size) : (⟨l.toArray⟩ : ByteArray)[k] = l[k]'h := rfl
theorem ba_extract (l : List UInt8) (a b : Nat) : ByteArray.extract ⟨l.toArray⟩ a b = ⟨((l.drop a).take (b - a)).toArray⟩ := by
 apply ByteArray.ext
 simp [List.extract_eq_take_drop, List.extract_toArray]
theorem ba_append (a b : List UInt8) : (⟨a.toArray⟩ ++ ⟨b.toArray⟩ : ByteArray) = ⟨(a ++ b).toArray⟩ := by
 apply ByteArray.ext
 simp
theorem take_rest (l : List UInt8) (a : Nat) : (l.drop a).take (l.length - a) = l.drop a := List.take_of_length_le (by simp)
theorem owns_below {w w' : World} {base : Nat} {e : TypeId} {size : Nat} {v : Value} {n : Nat} {xs : List Value} (h : w.ownsRow base e size v n xs) (hb : Below w.heap.size w w') : w'.ownsRow base e size v n xs := by
 refine h.kept (row := none) ⟨hb.os, hb.tape, hb.output, hb.size, fun k hk _ => hb.block k hk⟩ ?_
 cases hv : v.ownBlock with
 | none => exact .inl rfl
 | some g => exact .inr (by simp)
end Go.Proofs.YtdcbnkimjhefkaaGreatDoor

namespace Go.Proofs.YtdcbnkimjhefkaaGreatDoor
open Go.RowKit

theorem isDigit_any (c : UInt8) (w : World) :
  Calls Tryz.prog 123 #[.int .u8 c.toNat] w fun e w' => e = .returned (.bool (Tk.isDig c)) ∧ w = w' := by
 go_enter Tryz.func123, Tryz.ntmps123
 go_wp2
 all_goals
  go_ret
  refine ⟨ret_bool ?_, rfl⟩
  unfold Tk.isDig
  rw [Bool.eq_iff_iff]
  simp
  omega

theorem isLower_any (c : UInt8) (w : World) :
  Calls Tryz.prog 122 #[.int .u8 c.toNat] w fun e w' => e = .returned (.bool (Tk.isLow c)) ∧ w = w' := by
 go_enter Tryz.func122, Tryz.ntmps122
 go_wp2
 all_goals
  go_ret
  refine ⟨ret_bool ?_, rfl⟩
  unfold Tk.isLow
  rw [Bool.eq_iff_iff]
  simp
  omega

attribute [local go_sem] ba_get

theorem isWord_cases (c : UInt8) : Tk.isWord c = true ↔ (Tk.isLow c = true ∨ (Tk.isLow c = false ∧ Tk.isDig c = true) ∨ (Tk.isLow c = false ∧ Tk.isDig c = false ∧ c.toNat = 95)) := by
 unfold Tk.isWord
 cases Tk.isLow c <;> cases Tk.isDig c <;> simp

theorem isWord_false {c : UInt8} (h : Tk.isWord c = false) : Tk.isLow c = false ∧ Tk.isDig c = false ∧ ((c.toNat : Int) == 95) = false := by
 unfold Tk.isWord at h
 cases hl : Tk.isLow c <;> cases hd : Tk.isDig c <;> simp_all
 omega

set_option maxHeartbeats 400000 in
theorem wordLength_any (l : List UInt8) (w : World) (hs : l.length ≤ maxLen) :
  Calls Tryz.prog 77 #[.string ⟨l.toArray⟩] w fun e w' => e = .returned (.int .i64 (Tk.wordLen l)) ∧ w = w' := by
 unfold maxLen at hs
 cases l with
 | nil =>
  go_enter Tryz.func77, Tryz.ntmps77
  go_wp2
  go_ret
  exact ⟨rfl, rfl⟩
 | cons c r =>
  by_cases hc : Tk.isLow c = true
  ·have HC := Lib.hid hc
   simp only [List.length_cons] at hs
   go_enter Tryz.func77, Tryz.ntmps77
   go_wp2_with ((go_at_call 122; refine (isLower_any _ _).mono ?_; rintro e w' ⟨rfl, rfl⟩))
   clear hc
   go_loop [3] (fun n => ∃ k : Nat, k ≤ r.length ∧ n = .int .i64 (k + 1) ∧ Hid (∀ j (h : j < r.length), j < k → Tk.isWord r[j] = true)) (fun i => r.length + 1 - (intOf i).toNat)
   case atStart => exact ⟨0, Nat.zero_le _, rfl, fun _ _ h => by omega⟩
   case round =>
    obtain ⟨k, hk, rfl, HA⟩ := hrel
    by_cases hlt : k < r.length
    ·by_cases hd : Tk.isWord r[k] = true
     ·have HD := Lib.hid hd
      rcases (isWord_cases _).1 hd with h1 | ⟨h1, h2⟩ | ⟨h1, h2, h3⟩
      all_goals clear hd
      ·go_wp2_with ((first | (go_at_call 122; refine (isLower_any _ _).mono ?_; rintro e w' ⟨rfl, rfl⟩) | (go_at_call 123; refine (isDigit_any _ _).mono ?_; rintro e w' ⟨rfl, rfl⟩)))
       go_round
       case rel => exact ⟨k + 1, by omega, by go_num, fun j h hj => if e : j = k then by subst e; exact HD.out else HA.out j h (by omega)⟩
       case measure => simp [intOf]; omega
      ·go_wp2_with ((first | (go_at_call 122; refine (isLower_any _ _).mono ?_; rintro e w' ⟨rfl, rfl⟩) | (go_at_call 123; refine (isDigit_any _ _).mono ?_; rintro e w' ⟨rfl, rfl⟩)))
       go_round
       case rel => exact ⟨k + 1, by omega, by go_num, fun j h hj => if e : j = k then by subst e; exact HD.out else HA.out j h (by omega)⟩
       case measure => simp [intOf]; omega
      ·have h4 : ((r[k].toNat : Int) == 95) = true := by simp; omega
       clear h3
       go_wp2_with ((first | (go_at_call 122; refine (isLower_any _ _).mono ?_; rintro e w' ⟨rfl, rfl⟩) | (go_at_call 123; refine (isDigit_any _ _).mono ?_; rintro e w' ⟨rfl, rfl⟩)))
       go_round
       case rel => exact ⟨k + 1, by omega, by go_num, fun j h hj => if e : j = k then by subst e; exact HD.out else HA.out j h (by omega)⟩
       case measure => simp [intOf]; omega
     ·have hd : Tk.isWord r[k] = false := by simpa using hd
      have HD := Lib.hid hd
      obtain ⟨h1, h2, h4⟩ := isWord_false hd
      clear hd
      go_wp2_with ((first | (go_at_call 122; refine (isLower_any _ _).mono ?_; rintro e w' ⟨rfl, rfl⟩) | (go_at_call 123; refine (isDigit_any _ _).mono ?_; rintro e w' ⟨rfl, rfl⟩)))
      go_ret
      exact ⟨ret_int (by simp only [Tk.wordLen, HC.out, if_true]; rw [Tk.lead_eq _ _ k hk HA.out (fun _ => HD.out)]; omega), rfl⟩
    ·go_wp2_with fail
     go_ret
     exact ⟨ret_int (by simp only [Tk.wordLen, HC.out, if_true]; rw [Tk.lead_eq _ _ k hk HA.out (fun h => absurd h hlt)]; omega), rfl⟩
  ·have hc : Tk.isLow c = false := by simpa using hc
   have HC := Lib.hid hc
   go_enter Tryz.func77, Tryz.ntmps77
   go_wp2_with ((go_at_call 122; refine (isLower_any _ _).mono ?_; rintro e w' ⟨rfl, rfl⟩))
   go_ret
   exact ⟨ret_int (by simp [Tk.wordLen, HC.out]), rfl⟩

theorem key_false {l k : List UInt8} (h : Tk.isKey l = false) (hk : k ∈ Tk.keywords) : (l == k) = false := by
 rw [beq_eq_false_iff_ne]
 rintro rfl
 unfold Tk.isKey at h
 rw [List.contains_iff_mem.2 hk] at h
 cases h

set_option maxHeartbeats 2000000 in
theorem isKeyword_any (l : List UInt8) (w : World) :
  Calls Tryz.prog 78 #[.string ⟨l.toArray⟩] w fun e w' => e = .returned (.bool (Tk.isKey l)) ∧ w = w' := by
 by_cases hk : Tk.isKey l = true
 ·have hm : l ∈ Tk.keywords := List.contains_iff_mem.1 hk
  rw [hk]
  clear hk
  simp only [Tk.keywords, List.mem_cons, List.not_mem_nil, or_false] at hm
  rcases hm with rfl | rfl | rfl | rfl | rfl | rfl | rfl | rfl | rfl | rfl | rfl | rfl | rfl | rfl | rfl | rfl | rfl | rfl | rfl | rfl | rfl | rfl | rfl | rfl | rfl | rfl | rfl | rfl | rfl | rfl | rfl | rfl | rfl | rfl
  all_goals
   go_enter Tryz.func78, Tryz.ntmps78
   go_wp2
   go_ret
   exact ⟨rfl, rfl⟩
 ·have hk : Tk.isKey l = false := by simpa using hk
  rw [hk]
  have k0 := key_false (k := [97, 103, 114, 101, 101, 109, 101, 110, 116]) hk (by decide)
  have k1 := key_false (k := [105, 110, 112, 117, 116]) hk (by decide)
  have k2 := key_false (k := [112, 97, 115, 116]) hk (by decide)
  have k3 := key_false (k := [115, 99, 97, 108, 101]) hk (by decide)
  have k4 := key_false (k := [114, 117, 108, 101]) hk (by decide)
  have k5 := key_false (k := [112, 97, 121]) hk (by decide)
  have k6 := key_false (k := [102, 114, 111, 109]) hk (by decide)
  have k7 := key_false (k := [114, 111, 117, 110, 100, 101, 100]) hk (by decide)
  have k8 := key_false (k := [116, 111]) hk (by decide)
  have k9 := key_false (k := [105, 102]) hk (by decide)
  have k10 := key_false (k := [116, 104, 101, 110]) hk (by decide)
  have k11 := key_false (k := [101, 108, 115, 101]) hk (by decide)
  have k12 := key_false (k := [97, 110, 100]) hk (by decide)
  have k13 := key_false (k := [111, 114]) hk (by decide)
  have k14 := key_false (k := [110, 111, 116]) hk (by decide)
  have k15 := key_false (k := [116, 114, 117, 101]) hk (by decide)
  have k16 := key_false (k := [102, 97, 108, 115, 101]) hk (by decide)
  have k17 := key_false (k := [109, 105, 110]) hk (by decide)
  have k18 := key_false (k := [109, 97, 120]) hk (by decide)
  have k19 := key_false (k := [114, 111, 117, 110, 100]) hk (by decide)
  have k20 := key_false (k := [97, 118, 101, 114, 97, 103, 101]) hk (by decide)
  have k21 := key_false (k := [108, 97, 115, 116]) hk (by decide)
  have k22 := key_false (k := [109, 111, 110, 101, 121]) hk (by decide)
  have k23 := key_false (k := [104, 111, 117, 114, 115]) hk (by decide)
  have k24 := key_false (k := [100, 97, 121, 115]) hk (by decide)
  have k25 := key_false (k := [110, 117, 109, 98, 101, 114]) hk (by decide)
  have k26 := key_false (k := [98, 111, 111, 108]) hk (by decide)
  have k27 := key_false (k := [100, 111, 119, 110]) hk (by decide)
  have k28 := key_false (k := [117, 112]) hk (by decide)
  have k29 := key_false (k := [102, 108, 111, 111, 114]) hk (by decide)
  have k30 := key_false (k := [99, 101, 105, 108, 105, 110, 103]) hk (by decide)
  have k31 := key_false (k := [104, 97, 108, 102, 95, 117, 112]) hk (by decide)
  have k32 := key_false (k := [104, 97, 108, 102, 95, 100, 111, 119, 110]) hk (by decide)
  have k33 := key_false (k := [104, 97, 108, 102, 95, 101, 118, 101, 110]) hk (by decide)
  clear hk
  go_enter Tryz.func78, Tryz.ntmps78
  go_wp2
  go_ret
  exact ⟨rfl, rfl⟩
end Go.Proofs.YtdcbnkimjhefkaaGreatDoor

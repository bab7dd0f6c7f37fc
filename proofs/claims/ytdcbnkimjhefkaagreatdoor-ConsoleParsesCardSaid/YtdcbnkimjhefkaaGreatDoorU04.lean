/-
 How abstract memory lies in a world.
 The pieces of the machine, turned round: what a run that ends well tells of its parts.
-/
import Derived.Test.YtdcbnkimjhefkaaGreatDoorU03
namespace Go.Proofs.YtdcbnkimjhefkaaGreatDoor

structure Ren where
 blk : Nat → Nat
 sh : Nat → Nat
 cap : Nat → Nat
def Ren.addr (σ : Ren) (a : Addr) : Addr := ⟨σ.blk a.block, σ.sh a.block + a.off, none⟩
abbrev Dom := Nat → Option (Option (Nat × Nat))
mutual
inductive VR (σ : Ren) (D : Dom) : Value → Value → Prop
 | bool (b : Bool) : VR σ D (.bool b) (.bool b)
 | int (k : IntKind) (n : Int) : VR σ D (.int k n) (.int k n)
 | float (k : FloatKind) (n : Nat) : VR σ D (.float k n) (.float k n)
 | complex (k : FloatKind) (n m : Nat) : VR σ D (.complex k n m) (.complex k n m)
 | string (s : ByteArray) : VR σ D (.string s) (.string s)
 | nilptr : VR σ D (.pointer none) (.pointer none)
 | ptr (a : Addr) (x : Option (Nat × Nat)) (h : D a.block = some x) (hs : a.spot = none) : VR σ D (.pointer (some a)) (.pointer (some (σ.addr a)))
 | nilslice (n c : Nat) : VR σ D (.slice none n c) (.slice none n c)
 | slice (a : Addr) (n c : Nat) (x : Option (Nat × Nat)) (h : D a.block = some x) (hs : a.spot = none) : VR σ D (.slice (some a) n c) (.slice (some (σ.addr a)) n c)
 | sliceo (a : Addr) (n c c' sz e : Nat) (h : D a.block = some (some (sz, e))) (hs : a.spot = none) (he : a.off + c * sz = e) (hc : a.off + c' * sz = σ.cap a.block) (hle : c ≤ c') : VR σ D (.slice (some a) n c) (.slice (some (σ.addr a)) n c')
 | emptyU (b o s : Nat) (a' : Addr) (c' : Nat) : VR σ D (.slice (some ⟨b, o, some s⟩) 0 0) (.slice (some a') 0 c')
 | nilmap : VR σ D (.map none) (.map none)
 | mapv (b : Nat) (x : Option (Nat × Nat)) (h : D b = some x) : VR σ D (.map (some b)) (.map (some (σ.blk b)))
 | nilchan : VR σ D (.chan none) (.chan none)
 | nilFunc : VR σ D .nilFunc .nilFunc
 | nilIface : VR σ D .nilIface .nilIface
 | func (fn : Fn) (f f' c c' : List Value) (h1 : VRs σ D f f') (h2 : VRs σ D c c') : VR σ D (.func fn ⟨f⟩ ⟨c⟩) (.func fn ⟨f'⟩ ⟨c'⟩)
 | iface (t : TypeId) (v v' : Value) (h : VR σ D v v') : VR σ D (.iface t v) (.iface t v')
 | agg (l l' : List Value) (h : VRs σ D l l') : VR σ D (.agg ⟨l⟩) (.agg ⟨l'⟩)
 | tuple (l l' : List Value) (h : VRs σ D l l') : VR σ D (.tuple ⟨l⟩) (.tuple ⟨l'⟩)
inductive VRs (σ : Ren) (D : Dom) : List Value → List Value → Prop
 | nil : VRs σ D [] []
 | cons (v v' : Value) (l l' : List Value) (h : VR σ D v v') (h2 : VRs σ D l l') : VRs σ D (v :: l) (v' :: l')
end
structure Ren.le (σ : Ren) (D : Dom) (σ' : Ren) (D' : Dom) : Prop where
 dom : ∀ b x, D b = some x → D' b = some x
 ren : ∀ b x, D b = some x → σ'.blk b = σ.blk b ∧ σ'.sh b = σ.sh b ∧ σ'.cap b = σ.cap b
theorem Ren.le.refl (σ : Ren) (D : Dom) : Ren.le σ D σ D := ⟨fun _ _ h => h, fun _ _ _ => ⟨rfl, rfl, rfl⟩⟩
theorem Ren.le.trans {σ σ' σ'' : Ren} {D D' D'' : Dom} (h : Ren.le σ D σ' D') (k : Ren.le σ' D' σ'' D'') : Ren.le σ D σ'' D'' :=
 ⟨fun b x hb => k.dom b x (h.dom b x hb), fun b x hb => by
  have h1 := h.ren b x hb
  have h2 := k.ren b x (h.dom b x hb)
  exact ⟨h2.1.trans h1.1, h2.2.1.trans h1.2.1, h2.2.2.trans h1.2.2⟩⟩
theorem Ren.le.addr {σ σ' : Ren} {D D' : Dom} (h : Ren.le σ D σ' D') {a : Addr} {x : Option (Nat × Nat)} (ha : D a.block = some x) : σ'.addr a = σ.addr a := by
 have := h.ren _ _ ha
 unfold Ren.addr
 rw [this.1, this.2.1]
mutual
theorem VR.mono {σ σ' : Ren} {D D' : Dom} (h : Ren.le σ D σ' D') : ∀ {v v' : Value}, VR σ D v v' → VR σ' D' v v'
 | _, _, .bool b => .bool b
 | _, _, .int k n => .int k n
 | _, _, .float k n => .float k n
 | _, _, .complex k n m => .complex k n m
 | _, _, .string s => .string s
 | _, _, .nilptr => .nilptr
 | _, _, .ptr a x ha hs => (h.addr ha) ▸ VR.ptr a x (h.dom _ _ ha) hs
 | _, _, .nilslice n c => .nilslice n c
 | _, _, .slice a n c x ha hs => (h.addr ha) ▸ VR.slice a n c x (h.dom _ _ ha) hs
 | _, _, .sliceo a n c c' sz e ha hs he hc hle => (h.addr ha) ▸ VR.sliceo a n c c' sz e (h.dom _ _ ha) hs he ((h.ren _ _ ha).2.2 ▸ hc) hle
 | _, _, .emptyU b o s a' c' => .emptyU b o s a' c'
 | _, _, .nilmap => .nilmap
 | _, _, .mapv b x hb => (h.ren _ _ hb).1 ▸ VR.mapv b x (h.dom _ _ hb)
 | _, _, .nilchan => .nilchan
 | _, _, .nilFunc => .nilFunc
 | _, _, .nilIface => .nilIface
 | _, _, .func fn f f' c c' h1 h2 => .func fn f f' c c' (VRs.mono h h1) (VRs.mono h h2)
 | _, _, .iface t v v' hv => .iface t v v' (VR.mono h hv)
 | _, _, .agg l l' hl => .agg l l' (VRs.mono h hl)
 | _, _, .tuple l l' hl => .tuple l l' (VRs.mono h hl)
theorem VRs.mono {σ σ' : Ren} {D D' : Dom} (h : Ren.le σ D σ' D') : ∀ {v v' : List Value}, VRs σ D v v' → VRs σ' D' v v'
 | _, _, .nil => .nil
 | _, _, .cons v v' l l' h1 h2 => .cons v v' l l' (VR.mono h h1) (VRs.mono h h2)
end
theorem VR.atom0 {σ : Ren} {D : Dom} {v v' : Value} (h : VR σ D v v') (ha : atom0 v = true) : v' = v := by
 cases h <;> first | rfl | cases ha
theorem VRs.atoms0 {σ : Ren} {D : Dom} : ∀ {l l' : List Value}, VRs σ D l l' → atoms0 l = true → l' = l
 | [], _, h, _ => by cases h; rfl
 | v :: l, _, h, ha => by
  cases h with
  | cons v v' l l' h1 h2 =>
   unfold Proofs.YtdcbnkimjhefkaaGreatDoor.atoms0 at ha
   split at ha
   ·rename_i hv
    rw [h1.atom0 hv, VRs.atoms0 h2 ha]
   ·cases ha
theorem VR.atomV {σ : Ren} {D : Dom} {v v' : Value} (h : VR σ D v v') (ha : atomV v = true) : v' = v := by
 unfold Proofs.YtdcbnkimjhefkaaGreatDoor.atomV at ha
 split at ha
 ·cases h with
  | agg l l' hl => rw [hl.atoms0 ha]
 ·exact h.atom0 ha
theorem VR.of_atom0 {σ : Ren} {D : Dom} {v : Value} (ha : Proofs.YtdcbnkimjhefkaaGreatDoor.atom0 v = true) : VR σ D v v := by
 unfold Proofs.YtdcbnkimjhefkaaGreatDoor.atom0 at ha
 split at ha <;> first | constructor | cases ha
theorem VRs.of_atoms0 {σ : Ren} {D : Dom} : ∀ {l : List Value}, Proofs.YtdcbnkimjhefkaaGreatDoor.atoms0 l = true → VRs σ D l l
 | [], _ => .nil
 | v :: l, ha => by
  unfold Proofs.YtdcbnkimjhefkaaGreatDoor.atoms0 at ha
  split at ha
  ·rename_i hv; exact .cons _ _ _ _ (.of_atom0 hv) (VRs.of_atoms0 ha)
  ·cases ha
theorem VR.of_atomV {σ : Ren} {D : Dom} {v : Value} (ha : Proofs.YtdcbnkimjhefkaaGreatDoor.atomV v = true) : VR σ D v v := by
 unfold Proofs.YtdcbnkimjhefkaaGreatDoor.atomV at ha
 split at ha
 ·exact .agg _ _ (.of_atoms0 ha)
 ·exact .of_atom0 ha
theorem VRs.get {σ : Ren} {D : Dom} : ∀ {l l' : List Value} {i : Nat} {v : Value}, VRs σ D l l' → l[i]? = some v → ∃ v', l'[i]? = some v' ∧ VR σ D v v'
 | [], _, _, _, _, hi => by simp at hi
 | x :: l, _, i, v, h, hi => by
  cases h with
  | cons _ x' _ l' h1 h2 =>
   cases i with
   | zero => simp at hi; subst hi; exact ⟨x', by simp, h1⟩
   | succ i => obtain ⟨v', h3, h4⟩ := VRs.get (i := i) h2 (by simpa using hi); exact ⟨v', by simpa using h3, h4⟩
theorem VRs.length {σ : Ren} {D : Dom} : ∀ {l l' : List Value}, VRs σ D l l' → l'.length = l.length
 | [], _, h => by cases h; rfl
 | _ :: l, _, h => by cases h with | cons _ _ _ _ _ h2 => simp [VRs.length h2]
theorem VRs.append {σ : Ren} {D : Dom} : ∀ {l l' r r' : List Value}, VRs σ D l l' → VRs σ D r r' → VRs σ D (l ++ r) (l' ++ r')
 | [], _, _, _, h, hr => by cases h; exact hr
 | _ :: l, _, _, _, h, hr => by cases h with | cons _ _ _ _ h1 h2 => exact .cons _ _ _ _ h1 (VRs.append h2 hr)
theorem VRs.of_get {σ : Ren} {D : Dom} : ∀ {l l' : List Value}, l'.length = l.length → (∀ (i : Nat) v, l[i]? = some v → ∃ v', l'[i]? = some v' ∧ VR σ D v v') → VRs σ D l l'
 | [], [], _, _ => .nil
 | [], _ :: _, h, _ => by simp at h
 | v :: l, [], h, _ => by simp at h
 | v :: l, v' :: l', h, hh => by
  obtain ⟨u, hu, h1⟩ := hh 0 v (by simp)
  simp at hu
  subst hu
  exact .cons _ _ _ _ h1 (VRs.of_get (by simpa using h) fun i x hx => by
   obtain ⟨u, hu, h2⟩ := hh (i + 1) x (by simpa using hx)
   exact ⟨u, by simpa using hu, h2⟩)

abbrev Hp := Nat → Option Blk
def Hp.dom (h : Hp) : Dom := fun b => (h b).map (·.opn)
def Hp.live (h : Hp) (b : Nat) : Prop := ∃ i x, h b = some ⟨i, x⟩ ∧ x ≠ .dead
theorem Hp.live.row {h : Hp} {b : Nat} {i : Option (Nat × Nat)} {t : TypeId} {cs : List Value} (hb : h b = some ⟨i, .cells t cs⟩) : h.live b := ⟨i, _, hb, nofun⟩
theorem Hp.live.known {h : Hp} {b : Nat} (hb : h.live b) : ∃ i, h.dom b = some i := by
 obtain ⟨i, x, e, _⟩ := hb
 exact ⟨i, by simp [Hp.dom, e]⟩
theorem Hp.live.not_none {h : Hp} {b : Nat} (hb : h.live b) : h b ≠ none := by
 obtain ⟨i, x, e, _⟩ := hb
 rw [e]; simp
structure Row (σ : Ren) (D : Dom) (b : Nat) (i : Option (Nat × Nat)) (t : TypeId) (cs : List Value) (C : Array Value) (T : TypeId) (fr : Nat × Nat) : Prop where
 free : (∀ e, i ≠ some (0, e)) → ∀ j, fr.1 ≤ j → j < fr.2 → C.size ≤ j
 fits : σ.sh b + cs.length ≤ C.size
 cell : ∀ j v, cs[j]? = some v → ∃ v', C[σ.sh b + j]? = some v' ∧ VR σ D v v'
 opn : ∀ sz e, i = some (sz, e) → cs.length = e ∧ e ≤ σ.cap b ∧ σ.sh b + σ.cap b ≤ C.size
 elem : (∀ e, i ≠ some (0, e)) → T = t
 sh0 : σ.sh b = 0
 plain : i = none → C.size = cs.length
theorem Row.mono {σ σ' : Ren} {D D' : Dom} {b : Nat} {i : Option (Nat × Nat)} {t : TypeId} {cs : List Value} {C : Array Value} {T : TypeId} {fr : Nat × Nat} (hle : Ren.le σ D σ' D') (hD : D b = some i) (h : Row σ D b i t cs C T fr) : Row σ' D' b i t cs C T fr := by
 obtain ⟨_, h2, h3⟩ := hle.ren b i hD
 exact ⟨h.free, by rw [h2]; exact h.fits, fun j v hj => let ⟨v', h4, h5⟩ := h.cell j v hj; ⟨v', by rw [h2]; exact h4, h5.mono hle⟩, by rw [h2, h3]; exact h.opn, h.elem, h2.trans h.sh0, h.plain⟩
def BodyR (σ : Ren) (D : Dom) (b : Nat) (i : Option (Nat × Nat)) : Body → Obj → Prop
 | .cells t cs, X => ∃ C T fr, X = .cells C T fr ∧ Row σ D b i t cs C T fr
 | .map es clock, X => σ.sh b = 0 ∧ X = .map ⟨es⟩ clock
 | .siter s pos, X => σ.sh b = 0 ∧ X = .stringIter s pos
 | .miter none since seen last, X => σ.sh b = 0 ∧ X = .mapIter none since ⟨seen⟩ last
 | .miter (some m) since seen last, X => σ.sh b = 0 ∧ (∃ x, D m = some x) ∧ X = .mapIter (some (σ.blk m)) since ⟨seen⟩ last
 | .dead, _ => True
theorem BodyR.mono {σ σ' : Ren} {D D' : Dom} {b : Nat} {i : Option (Nat × Nat)} {x : Body} {X : Obj} (hle : Ren.le σ D σ' D') (hD : D b = some i) (h : BodyR σ D b i x X) : BodyR σ' D' b i x X := by
 have hs := (hle.ren b i hD).2.1
 match x, h with
 | .cells _ _, ⟨C, T, fr, e, h⟩ => exact ⟨C, T, fr, e, h.mono hle hD⟩
 | .map _ _, h => exact ⟨hs.trans h.1, h.2⟩
 | .siter _ _, h => exact ⟨hs.trans h.1, h.2⟩
 | .miter none _ _ _, h => exact ⟨hs.trans h.1, h.2⟩
 | .miter (some m) _ _ _, ⟨h1, ⟨y, hy⟩, h2⟩ => exact ⟨hs.trans h1, ⟨y, hle.dom _ _ hy⟩, by rw [(hle.ren _ _ hy).1]; exact h2⟩
 | .dead, _ => trivial
theorem BodyR.sh {σ : Ren} {D : Dom} {b : Nat} {i : Option (Nat × Nat)} {x : Body} {X : Obj} (h : BodyR σ D b i x X) (hd : x ≠ .dead) (hc : ∀ t cs, x ≠ .cells t cs) : σ.sh b = 0 := by
 match x, h with
 | .cells _ _, _ => exact (hc _ _ rfl).elim
 | .map _ _, h => exact h.1
 | .siter _ _, h => exact h.1
 | .miter none _ _ _, h => exact h.1
 | .miter (some m) _ _ _, h => exact h.1
 | .dead, _ => exact (hd rfl).elim
structure Sim (P : Program) (σ : Ren) (h : Hp) (w : World) : Prop where
 body : ∀ b i x, h b = some ⟨i, x⟩ → x ≠ .dead → ∃ X, w.heap[σ.blk b]? = some X ∧ BodyR σ h.dom b i x X
 apart : ∀ b b', h.live b → h.live b' → b ≠ b' → σ.blk b ≠ σ.blk b'
 glob : ∀ g, g < P.globals.size → h g ≠ none → σ.blk g = g ∧ σ.sh g = 0
theorem Sim.row {P : Program} {σ : Ren} {h : Hp} {w : World} (s : Sim P σ h w) : ∀ b i t cs, h b = some ⟨i, .cells t cs⟩ → ∃ C T fr, w.heap[σ.blk b]? = some (.cells C T fr) ∧ Row σ h.dom b i t cs C T fr := fun b i t cs hb => by
 obtain ⟨X, h1, C, T, fr, rfl, h2⟩ := s.body b i _ hb nofun
 exact ⟨C, T, fr, h1, h2⟩
structure Fwd (σ : Ren) (h : Hp) (w : World) (σ' : Ren) (h' : Hp) (w' : World) : Prop where
 le : Ren.le σ h.dom σ' h'.dom
 old : ∀ k, k < w.heap.size → (∀ b, h.live b → σ.blk b ≠ k) → w'.heap[k]? = w.heap[k]?
 new : ∀ b, h b = none → h'.live b → w.heap.size ≤ σ'.blk b ∨ ∃ b0, h.live b0 ∧ ¬ h'.live b0 ∧ σ'.blk b = σ.blk b0
 was : ∀ b, h'.live b → h b ≠ none → h.live b
 size : w.heap.size ≤ w'.heap.size
 os : w'.os = w.os
 tape : w'.tape = w.tape
 output : w'.output = w.output
 ro : ∀ b e t cs, h b = some ⟨some (0, e), .cells t cs⟩ → h' b = some ⟨some (0, e), .cells t cs⟩ ∧ w'.heap[σ.blk b]? = w.heap[σ.blk b]?
theorem Fwd.refl (σ : Ren) (h : Hp) (w : World) : Fwd σ h w σ h w :=
 ⟨.refl _ _, fun _ _ _ => rfl, fun _b hb hl => (hl.not_none hb).elim, fun _ h _ => h, Nat.le_refl _, rfl, rfl, rfl, fun _ _ _ _ h => ⟨h, rfl⟩⟩
theorem Sim.lt {P : Program} {σ : Ren} {h : Hp} {w : World} (s : Sim P σ h w) {b : Nat} (hb : h.live b) : σ.blk b < w.heap.size := by
 obtain ⟨i, x, e, hx⟩ := hb
 obtain ⟨X, h1, _⟩ := s.body _ _ _ e hx
 exact (Array.getElem?_eq_some_iff.1 h1).1
theorem Fwd.trans {P : Program} {σ σ' σ'' : Ren} {h h' h'' : Hp} {w w' w'' : World} (_hs : Sim P σ h w) (f : Fwd σ h w σ' h' w') (g : Fwd σ' h' w' σ'' h'' w'') : Fwd σ h w σ'' h'' w'' where
 le := f.le.trans g.le
 old k hk hh := by
  refine (g.old k (Nat.lt_of_lt_of_le hk f.size) fun b hb e => ?_).trans (f.old k hk hh)
  by_cases hn : h b = none
  ·rcases f.new b hn hb with h1 | ⟨b0, h1, _, h2⟩
   ·omega
   ·exact hh b0 h1 (h2.symm.trans e)
  ·have hl := f.was b hb hn
   obtain ⟨i, hi⟩ := hl.known
   have := (f.le.ren b i hi).1
   exact hh b hl (this ▸ e)
 new b hb hl := by
  by_cases hn : h' b = none
  ·rcases g.new b hn hl with h1 | ⟨b0, h1, h3, h2⟩
   ·exact .inl (Nat.le_trans f.size h1)
   ·by_cases hb0 : h b0 = none
    ·rcases f.new b0 hb0 h1 with h4 | ⟨b1, h4, h5, h6⟩
     ·exact .inl (by rw [h2]; exact h4)
     ·refine .inr ⟨b1, h4, fun h7 => ?_, h2.trans h6⟩
      refine h5 (g.was b1 h7 fun h8 => ?_)
      obtain ⟨i, hi⟩ := h4.known
      have := f.le.dom b1 i hi
      simp [Hp.dom, h8] at this
    ·have hl0 := f.was b0 h1 hb0
     refine .inr ⟨b0, hl0, h3, ?_⟩
     obtain ⟨i, hi⟩ := hl0.known
     rw [h2]
     exact (f.le.ren b0 i hi).1
  ·have hl' := g.was b hl hn
   have hren : σ''.blk b = σ'.blk b := by
    obtain ⟨i, hi⟩ := hl'.known
    exact (g.le.ren b i hi).1
   rcases f.new b hb hl' with h1 | ⟨b0, h1, h3, h2⟩
   ·exact .inl (by rw [hren]; exact h1)
   ·refine .inr ⟨b0, h1, fun h7 => ?_, hren.trans h2⟩
    refine h3 (g.was b0 h7 fun h8 => ?_)
    obtain ⟨i, hi⟩ := h1.known
    have := f.le.dom b0 i hi
    simp [Hp.dom, h8] at this
 was b hl hn := by
  refine f.was b (g.was b hl fun h8 => ?_) hn
  cases e : h b with
  | none => exact hn e
  | some x =>
   have := f.le.dom b x.opn (by simp [Hp.dom, e])
   simp [Hp.dom, h8] at this
 size := Nat.le_trans f.size g.size
 os := g.os.trans f.os
 tape := g.tape.trans f.tape
 output := g.output.trans f.output
 ro b e t cs hb := by
  obtain ⟨h1, h2⟩ := f.ro b e t cs hb
  obtain ⟨h3, h4⟩ := g.ro b e t cs h1
  rw [(f.le.ren b (some (0, e)) (by simp [Hp.dom, hb])).1] at h4
  exact ⟨h3, h4.trans h2⟩
theorem roB_false {i : Option (Nat × Nat)} (h : roB i = false) : ∀ e, i ≠ some (0, e) := fun e he => by
 subst he
 cases h
end Go.Proofs.YtdcbnkimjhefkaaGreatDoor

namespace Go.Proofs.YtdcbnkimjhefkaaGreatDoor
section
variable {α β : Type}
theorem Tr.get_zero (l : Tr α) (v : Option α) (r : Tr α) : (Tr.nd l v r).get 0 = v := rfl
theorem Tr.get_succ (l : Tr α) (v : Option α) (r : Tr α) (k : Nat) : (Tr.nd l v r).get (k + 1) = cond (Nat.beq (Nat.mod k 2) 0) (l.get (Nat.div k 2)) (r.get (Nat.div k 2)) := by
 show Bool.rec (motive := fun _ => Option α) (r.get (Nat.div k 2)) (l.get (Nat.div k 2)) (Nat.beq (Nat.mod k 2) 0) = _
 cases Nat.beq (Nat.mod k 2) 0 <;> rfl
theorem Tr.setK_zero (f : Nat) (l : Tr α) (v : Option α) (r : Tr α) (x : α) (c : Tr α → Option β) : Tr.setK (f + 1) (.nd l v r) 0 x c = c (.nd l (some x) r) := rfl
theorem Tr.setK_succ (f : Nat) (l : Tr α) (v : Option α) (r : Tr α) (k : Nat) (x : α) (c : Tr α → Option β) : Tr.setK (f + 1) (.nd l v r) (k + 1) x c = cond (Nat.beq (Nat.mod k 2) 0) (Tr.setK f l (Nat.div k 2) x fun l' => c (.nd l' v r)) (Tr.setK f r (Nat.div k 2) x fun r' => c (.nd l v r')) := by
 show Bool.rec (motive := fun _ => Option β) (Tr.setK f r (Nat.div k 2) x fun r' => c (.nd l v r')) (Tr.setK f l (Nat.div k 2) x fun l' => c (.nd l' v r)) (Nat.beq (Nat.mod k 2) 0) = _
 cases Nat.beq (Nat.mod k 2) 0 <;> rfl
theorem Tr.setK_lf (f k : Nat) (x : α) (c : Tr α → Option β) : Tr.setK (f + 1) .lf k x c = Tr.setK (f + 1) (.nd .lf none .lf) k x c := rfl
theorem Tr.get_lf (k : Nat) : (Tr.nd .lf none .lf : Tr α).get k = none := by
 cases k with
 | zero => rfl
 | succ k => rw [Tr.get_succ]; cases Nat.beq (Nat.mod k 2) 0 <;> rfl
theorem half_eq {j k : Nat} (h : Nat.beq (Nat.mod j 2) 0 = Nat.beq (Nat.mod k 2) 0) : (Nat.div j 2 = Nat.div k 2 ↔ j = k) := by
 have e1 : Nat.div j 2 = j / 2 := rfl
 have e2 : Nat.div k 2 = k / 2 := rfl
 have e3 : Nat.mod j 2 = j % 2 := rfl
 have e4 : Nat.mod k 2 = k % 2 := rfl
 rw [e1, e2]
 rw [e3, e4] at h
 have h5 : (j % 2 = 0) ↔ (k % 2 = 0) := by
  constructor
  ·intro e; rw [e] at h; exact Nat.eq_of_beq_eq_true h.symm
  ·intro e; rw [e] at h; exact Nat.eq_of_beq_eq_true h
 omega
theorem Tr.setK_inv : ∀ {f : Nat} {t : Tr α} {k : Nat} {x : α} {c : Tr α → Option β} {r : β}, Tr.setK f t k x c = some r → ∃ t', c t' = some r ∧ ∀ j, t'.get j = if j = k then some x else t.get j
 | 0, _, _, _, _, _, h => by cases h
 | f + 1, t, k, x, c, r, h => by
  have key : ∀ (l : Tr α) (v : Option α) (rr : Tr α), Tr.setK (f + 1) (.nd l v rr) k x c = some r → ∃ t', c t' = some r ∧ ∀ j, t'.get j = if j = k then some x else (Tr.nd l v rr).get j := by
   intro l v rr h
   cases k with
   | zero =>
    rw [Tr.setK_zero] at h
    refine ⟨_, h, fun j => ?_⟩
    cases j with
    | zero => rfl
    | succ j => rw [Tr.get_succ, Tr.get_succ, if_neg (by omega)]
   | succ k =>
    rw [Tr.setK_succ] at h
    cases hb : Nat.beq (Nat.mod k 2) 0 with
    | true =>
     rw [hb] at h
     obtain ⟨l', hc, hg⟩ := Tr.setK_inv h
     refine ⟨_, hc, fun j => ?_⟩
     cases j with
     | zero => rw [if_neg (by omega)]; rfl
     | succ j =>
      rw [Tr.get_succ, Tr.get_succ]
      cases hj : Nat.beq (Nat.mod j 2) 0 with
      | true =>
       simp only [cond_true]
       rw [hg]
       have := half_eq (hj.trans hb.symm)
       by_cases e : j = k
       ·rw [if_pos (this.2 e), if_pos (by omega)]
       ·rw [if_neg (fun e' => e (this.1 e')), if_neg (by omega)]
      | false =>
       simp only [cond_false]
       rw [if_neg]
       intro e
       have : j = k := by omega
       rw [this, hb] at hj
       cases hj
    | false =>
     rw [hb] at h
     obtain ⟨l', hc, hg⟩ := Tr.setK_inv h
     refine ⟨_, hc, fun j => ?_⟩
     cases j with
     | zero => rw [if_neg (by omega)]; rfl
     | succ j =>
      rw [Tr.get_succ, Tr.get_succ]
      cases hj : Nat.beq (Nat.mod j 2) 0 with
      | false =>
       simp only [cond_false]
       rw [hg]
       have := half_eq (hj.trans hb.symm)
       by_cases e : j = k
       ·rw [if_pos (this.2 e), if_pos (by omega)]
       ·rw [if_neg (fun e' => e (this.1 e')), if_neg (by omega)]
      | true =>
       simp only [cond_true]
       rw [if_neg]
       intro e
       have : j = k := by omega
       rw [this, hb] at hj
       cases hj
  cases t with
  | lf =>
   rw [Tr.setK_lf] at h
   obtain ⟨t', h1, h2⟩ := key _ _ _ h
   refine ⟨t', h1, fun j => ?_⟩
   rw [h2, Tr.get_lf]
   rfl
  | nd l v rr => exact key l v rr h
@[simp] theorem natK_eq (n : Nat) (c : Nat → β) : natK n c = c n := by cases n <;> rfl
@[simp] theorem intK_eq (n : Int) (c : Int → β) : intK n c = c n := by cases n <;> simp [intK]
@[simp] theorem byteK_eq (b : UInt8) (c : UInt8 → β) : byteK b c = c b := by simp [byteK]
@[simp] theorem bytesK_eq : ∀ (l : List UInt8) (c : List UInt8 → β), bytesK l c = c l
 | [], _ => rfl
 | b :: l, c => by simp [bytesK, bytesK_eq l]
@[simp] theorem strK_eq (s : ByteArray) (c : ByteArray → β) : strK s c = c s := by simp [strK]
@[simp] theorem val0K_eq (v : Value) (c : Value → β) : val0K v c = c v := by
 unfold val0K
 split <;> simp
@[simp] theorem vals0K_eq : ∀ (l : List Value) (c : List Value → β), vals0K l c = c l
 | [], _ => rfl
 | v :: l, c => by simp [vals0K, vals0K_eq l]
@[simp] theorem val1K_eq (v : Value) (c : Value → β) : val1K v c = c v := by
 unfold val1K
 split <;> simp
@[simp] theorem vals1K_eq : ∀ (l : List Value) (c : List Value → β), vals1K l c = c l
 | [], _ => rfl
 | v :: l, c => by simp [vals1K, vals1K_eq l]
@[simp] theorem val2K_eq (v : Value) (c : Value → β) : val2K v c = c v := by
 unfold val2K
 split <;> simp
theorem nth_eq : ∀ (l : List α) (n : Nat), nth l n = l[n]?
 | [], _ => by simp [nth]
 | x :: l, 0 => by simp [nth]
 | x :: l, n + 1 => by simp [nth, nth_eq l n]
theorem takeK_inv : ∀ {n : Nat} {l : List α} {c : List α → Option β} {r : β}, takeK n l c = some r → n ≤ l.length ∧ c (l.take n) = some r
 | 0, l, c, r, h => by simp [takeK] at h; simp [h]
 | n + 1, [], c, r, h => by simp [takeK] at h
 | n + 1, x :: l, c, r, h => by
  unfold takeK at h
  obtain ⟨h1, h2⟩ := takeK_inv h
  exact ⟨by simp; exact h1, by simpa using h2⟩
theorem rowK_inv : ∀ {l : List α} {o n : Nat} {c : List α → Option β} {r : β}, rowK l o n c = some r → (n = 0 ∨ o + n ≤ l.length) ∧ c ((l.drop o).take n) = some r
 | l, 0, n, c, r, h => by
  unfold rowK at h
  obtain ⟨h1, h2⟩ := takeK_inv h
  exact ⟨.inr (by omega), by simpa using h2⟩
 | [], o + 1, n, c, r, h => by
  unfold rowK at h
  cases n with
  | zero => exact ⟨.inl rfl, by simpa using h⟩
  | succ n => cases h
 | x :: l, o + 1, n, c, r, h => by
  unfold rowK at h
  obtain ⟨h1, h2⟩ := rowK_inv h
  exact ⟨h1.imp id (by simp; omega), by simpa using h2⟩
theorem overK_inv : ∀ {l r : List α} {c : List α → Option β} {x : β}, overK l r c = some x → r.length ≤ l.length ∧ c (r ++ l.drop r.length) = some x
 | l, [], c, x, h => by cases l <;> (simp [overK] at h; simp [h])
 | [], _ :: _, c, x, h => by simp [overK] at h
 | y :: l, z :: r, c, x, h => by
  unfold overK at h
  obtain ⟨h1, h2⟩ := overK_inv h
  exact ⟨by simp; exact h1, by simpa using h2⟩
theorem putK_inv : ∀ {l : List α} {o : Nat} {r : List α} {c : List α → Option β} {x : β}, putK l o r c = some x → (r = [] ∨ o + r.length ≤ l.length) ∧ ∃ l', c l' = some x ∧ l'.length = l.length ∧ ∀ j, l'[j]? = if o ≤ j ∧ j < o + r.length then r[j - o]? else l[j]?
 | l, 0, r, c, x, h => by
  unfold putK at h
  obtain ⟨h1, h2⟩ := overK_inv h
  refine ⟨.inr (by omega), _, h2, by simp; omega, fun j => ?_⟩
  rw [List.getElem?_append]
  by_cases hj : j < r.length
  ·simp [hj]
  ·simp [hj]
   congr 1
   omega
 | [], o + 1, r, c, x, h => by
  unfold putK at h
  cases r with
  | nil => exact ⟨.inl rfl, [], h, rfl, fun j => by simp⟩
  | cons y r => cases h
 | y :: l, o + 1, r, c, x, h => by
  unfold putK at h
  obtain ⟨h1, l', h2, h3, h4⟩ := putK_inv h
  refine ⟨h1.imp id (by simp; omega), _, h2, by simp [h3], fun j => ?_⟩
  cases j with
  | zero => simp
  | succ j =>
   simp only [List.getElem?_cons_succ]
   rw [h4]
   by_cases hj : o ≤ j ∧ j < o + r.length
   ·rw [if_pos hj, if_pos (by omega), Nat.add_sub_add_right]
   ·rw [if_neg hj, if_neg (by omega)]
theorem catK_eq : ∀ (l r : List α) (c : List α → β), catK l r c = c (l ++ r)
 | [], _, _ => rfl
 | x :: l, r, c => by simp [catK, catK_eq l]
theorem evsK_inv {P : Program} {env : Env} {H : AH} : ∀ {l : List Operand} {c : List Value → Option β} {r : β}, evsK P env H l c = some r → ∃ vs, c vs = some r ∧ l.map (ev1 P env H) = vs.map some
 | [], c, r, h => ⟨[], h, rfl⟩
 | x :: l, c, r, h => by
  unfold evsK at h
  split at h
  ·rename_i v hv
   obtain ⟨vs, h1, h2⟩ := evsK_inv h
   exact ⟨v :: vs, h1, by simp [hv, h2]⟩
  ·cases h
theorem prun_sound {P : Program} : ∀ {s : Sem α} {a : α} {w : World}, prun P s = some a → s.run P w = .ok a w := by
 intro s
 induction s with
 | pure a => intro x w h; simp only [prun, Option.some.injEq] at h; rw [h]; rfl
 | program k ih => intro x w h; unfold prun at h; exact ih _ h
 | mark m k ih => intro x w h; unfold prun at h; exact ih h
 | _ => intro x w h; unfold prun at h; cases h
end
end Go.Proofs.YtdcbnkimjhefkaaGreatDoor

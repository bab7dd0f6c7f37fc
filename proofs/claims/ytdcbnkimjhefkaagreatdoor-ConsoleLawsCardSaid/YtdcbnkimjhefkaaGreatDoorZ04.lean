/-
  How abstract memory lies in a world.
-/
import Derived.Test.YtdcbnkimjhefkaaGreatDoorZ03
namespace Go.Proofs.YtdcbnkimjhefkaaGreatDoor

structure Ren where
  blk : Nat → Nat
  sh : Nat → Nat
  cap : Nat → Nat
def Ren.addr (σ : Ren) (a : Addr) : Addr := ⟨σ.blk a.block, σ.sh a.block + a.off, none⟩
abbrev Dom := Nat → Option (Option (Nat × Nat))
mutual
/-- A value and what it stands for. -/
inductive VR (σ : Ren) (D : Dom) : Value → Value → Prop
  | bool (b : Bool) : VR σ D (.bool b) (.bool b)
  | int (k : IntKind) (n : Int) : VR σ D (.int k n) (.int k n)
  | float (k : FloatKind) (n : Nat) : VR σ D (.float k n) (.float k n)
  | complex (k : FloatKind) (n m : Nat) : VR σ D (.complex k n m) (.complex k n m)
  | string (s : ByteArray) : VR σ D (.string s) (.string s)
  | nilptr : VR σ D (.pointer none) (.pointer none)
  | ptr (a : Addr) (x : Option (Nat × Nat)) (h : D a.block = some x) (hs : a.spot = none) : VR σ D (.pointer (some a)) (.pointer (some (σ.addr a)))
  | nilslice (n c : Nat) : VR σ D (.slice none n c) (.slice none n c)
  | slice (a : Addr) (n c : Nat) (x : Option (Nat × Nat)) (h : D a.block = some x) (hs : a.spot = none) : VR σ D (.slice (some a) n c) (.slice (some (σ.addr a)) n c)
  | sliceo (a : Addr) (n c c' sz e : Nat) (h : D a.block = some (some (sz, e))) (hs : a.spot = none) (he : a.off + c * sz = e) (hc : a.off + c' * sz = σ.cap a.block) (hle : c ≤ c') : VR σ D (.slice (some a) n c) (.slice (some (σ.addr a)) n c')
  | emptyU (b o s : Nat) (a' : Addr) (c' : Nat) : VR σ D (.slice (some ⟨b, o, some s⟩) 0 0) (.slice (some a') 0 c')
  | nilmap : VR σ D (.map none) (.map none)
  | mapv (b : Nat) (x : Option (Nat × Nat)) (h : D b = some x) : VR σ D (.map (some b)) (.map (some (σ.blk b)))
  | nilchan : VR σ D (.chan none) (.chan none)
  | nilFunc : VR σ D .nilFunc .nilFunc
  | nilIface : VR σ D .nilIface .nilIface
  | func (fn : Fn) (f f' c c' : List Value) (h1 : VRs σ D f f') (h2 : VRs σ D c c') : VR σ D (.func fn ⟨f⟩ ⟨c⟩) (.func fn ⟨f'⟩ ⟨c'⟩)
  | iface (t : TypeId) (v v' : Value) (h : VR σ D v v') : VR σ D (.iface t v) (.iface t v')
  | agg (l l' : List Value) (h : VRs σ D l l') : VR σ D (.agg ⟨l⟩) (.agg ⟨l'⟩)
  | tuple (l l' : List Value) (h : VRs σ D l l') : VR σ D (.tuple ⟨l⟩) (.tuple ⟨l'⟩)
inductive VRs (σ : Ren) (D : Dom) : List Value → List Value → Prop
  | nil : VRs σ D [] []
  | cons (v v' : Value) (l l' : List Value) (h : VR σ D v v') (h2 : VRs σ D l l') : VRs σ D (v :: l) (v' :: l')
end
/-- More is known. -/
structure Ren.le (σ : Ren) (D : Dom) (σ' : Ren) (D' : Dom) : Prop where
  dom : ∀ b x, D b = some x → D' b = some x
  ren : ∀ b x, D b = some x → σ'.blk b = σ.blk b ∧ σ'.sh b = σ.sh b ∧ σ'.cap b = σ.cap b
theorem Ren.le.refl (σ : Ren) (D : Dom) : Ren.le σ D σ D := ⟨fun _ _ h => h, fun _ _ _ => ⟨rfl, rfl, rfl⟩⟩
theorem Ren.le.trans {σ σ' σ'' : Ren} {D D' D'' : Dom} (h : Ren.le σ D σ' D') (k : Ren.le σ' D' σ'' D'') : Ren.le σ D σ'' D'' :=
  ⟨fun b x hb => k.dom b x (h.dom b x hb), fun b x hb => by
    have h1 := h.ren b x hb
    have h2 := k.ren b x (h.dom b x hb)
    exact ⟨h2.1.trans h1.1, h2.2.1.trans h1.2.1, h2.2.2.trans h1.2.2⟩⟩
theorem Ren.le.addr {σ σ' : Ren} {D D' : Dom} (h : Ren.le σ D σ' D') {a : Addr} {x : Option (Nat × Nat)} (ha : D a.block = some x) : σ'.addr a = σ.addr a := by
  have := h.ren _ _ ha
  unfold Ren.addr
  rw [this.1, this.2.1]
mutual
theorem VR.mono {σ σ' : Ren} {D D' : Dom} (h : Ren.le σ D σ' D') : ∀ {v v' : Value}, VR σ D v v' → VR σ' D' v v'
  | _, _, .bool b => .bool b
  | _, _, .int k n => .int k n
  | _, _, .float k n => .float k n
  | _, _, .complex k n m => .complex k n m
  | _, _, .string s => .string s
  | _, _, .nilptr => .nilptr
  | _, _, .ptr a x ha hs => (h.addr ha) ▸ VR.ptr a x (h.dom _ _ ha) hs
  | _, _, .nilslice n c => .nilslice n c
  | _, _, .slice a n c x ha hs => (h.addr ha) ▸ VR.slice a n c x (h.dom _ _ ha) hs
  | _, _, .sliceo a n c c' sz e ha hs he hc hle => (h.addr ha) ▸ VR.sliceo a n c c' sz e (h.dom _ _ ha) hs he ((h.ren _ _ ha).2.2 ▸ hc) hle
  | _, _, .emptyU b o s a' c' => .emptyU b o s a' c'
  | _, _, .nilmap => .nilmap
  | _, _, .mapv b x hb => (h.ren _ _ hb).1 ▸ VR.mapv b x (h.dom _ _ hb)
  | _, _, .nilchan => .nilchan
  | _, _, .nilFunc => .nilFunc
  | _, _, .nilIface => .nilIface
  | _, _, .func fn f f' c c' h1 h2 => .func fn f f' c c' (VRs.mono h h1) (VRs.mono h h2)
  | _, _, .iface t v v' hv => .iface t v v' (VR.mono h hv)
  | _, _, .agg l l' hl => .agg l l' (VRs.mono h hl)
  | _, _, .tuple l l' hl => .tuple l l' (VRs.mono h hl)
theorem VRs.mono {σ σ' : Ren} {D D' : Dom} (h : Ren.le σ D σ' D') : ∀ {v v' : List Value}, VRs σ D v v' → VRs σ' D' v v'
  | _, _, .nil => .nil
  | _, _, .cons v v' l l' h1 h2 => .cons v v' l l' (VR.mono h h1) (VRs.mono h h2)
end
theorem VR.atom0 {σ : Ren} {D : Dom} {v v' : Value} (h : VR σ D v v') (ha : atom0 v = true) : v' = v := by
  cases h <;> first | rfl | cases ha
theorem VRs.atoms0 {σ : Ren} {D : Dom} : ∀ {l l' : List Value}, VRs σ D l l' → atoms0 l = true → l' = l
  | [], _, h, _ => by cases h; rfl
  | v :: l, _, h, ha => by
    cases h with
    | cons v v' l l' h1 h2 =>
      unfold Proofs.YtdcbnkimjhefkaaGreatDoor.atoms0 at ha
      split at ha
      · rename_i hv
        rw [h1.atom0 hv, VRs.atoms0 h2 ha]
      · cases ha
theorem VR.atomV {σ : Ren} {D : Dom} {v v' : Value} (h : VR σ D v v') (ha : atomV v = true) : v' = v := by
  unfold Proofs.YtdcbnkimjhefkaaGreatDoor.atomV at ha
  split at ha
  · cases h with
    | agg l l' hl => rw [hl.atoms0 ha]
  · exact h.atom0 ha
theorem VR.of_atom0 {σ : Ren} {D : Dom} {v : Value} (ha : Proofs.YtdcbnkimjhefkaaGreatDoor.atom0 v = true) : VR σ D v v := by
  unfold Proofs.YtdcbnkimjhefkaaGreatDoor.atom0 at ha
  split at ha <;> first | constructor | cases ha
theorem VRs.of_atoms0 {σ : Ren} {D : Dom} : ∀ {l : List Value}, Proofs.YtdcbnkimjhefkaaGreatDoor.atoms0 l = true → VRs σ D l l
  | [], _ => .nil
  | v :: l, ha => by
    unfold Proofs.YtdcbnkimjhefkaaGreatDoor.atoms0 at ha
    split at ha
    · rename_i hv; exact .cons _ _ _ _ (.of_atom0 hv) (VRs.of_atoms0 ha)
    · cases ha
theorem VR.of_atomV {σ : Ren} {D : Dom} {v : Value} (ha : Proofs.YtdcbnkimjhefkaaGreatDoor.atomV v = true) : VR σ D v v := by
  unfold Proofs.YtdcbnkimjhefkaaGreatDoor.atomV at ha
  split at ha
  · exact .agg _ _ (.of_atoms0 ha)
  · exact .of_atom0 ha
theorem VRs.get {σ : Ren} {D : Dom} : ∀ {l l' : List Value} {i : Nat} {v : Value}, VRs σ D l l' → l[i]? = some v → ∃ v', l'[i]? = some v' ∧ VR σ D v v'
  | [], _, _, _, _, hi => by simp at hi
  | x :: l, _, i, v, h, hi => by
    cases h with
    | cons _ x' _ l' h1 h2 =>
      cases i with
      | zero => simp at hi; subst hi; exact ⟨x', by simp, h1⟩
      | succ i => obtain ⟨v', h3, h4⟩ := VRs.get (i := i) h2 (by simpa using hi); exact ⟨v', by simpa using h3, h4⟩
theorem VRs.length {σ : Ren} {D : Dom} : ∀ {l l' : List Value}, VRs σ D l l' → l'.length = l.length
  | [], _, h => by cases h; rfl
  | _ :: l, _, h => by cases h with | cons _ _ _ _ _ h2 => simp [VRs.length h2]
theorem VRs.append {σ : Ren} {D : Dom} : ∀ {l l' r r' : List Value}, VRs σ D l l' → VRs σ D r r' → VRs σ D (l ++ r) (l' ++ r')
  | [], _, _, _, h, hr => by cases h; exact hr
  | _ :: l, _, _, _, h, hr => by cases h with | cons _ _ _ _ h1 h2 => exact .cons _ _ _ _ h1 (VRs.append h2 hr)
theorem VRs.of_get {σ : Ren} {D : Dom} : ∀ {l l' : List Value}, l'.length = l.length → (∀ (i : Nat) v, l[i]? = some v → ∃ v', l'[i]? = some v' ∧ VR σ D v v') → VRs σ D l l'
  | [], [], _, _ => .nil
  | [], _ :: _, h, _ => by simp at h
  | v :: l, [], h, _ => by simp at h
  | v :: l, v' :: l', h, hh => by
    obtain ⟨u, hu, h1⟩ := hh 0 v (by simp)
    simp at hu
    subst hu
    exact .cons _ _ _ _ h1 (VRs.of_get (by simpa using h) fun i x hx => by
      obtain ⟨u, hu, h2⟩ := hh (i + 1) x (by simpa using hx)
      exact ⟨u, by simpa using hu, h2⟩)

abbrev Hp := Nat → Option Blk
def Hp.dom (h : Hp) : Dom := fun b => (h b).map (·.opn)
def Hp.live (h : Hp) (b : Nat) : Prop := ∃ i x, h b = some ⟨i, x⟩ ∧ x ≠ .dead
theorem Hp.live.row {h : Hp} {b : Nat} {i : Option (Nat × Nat)} {t : TypeId} {cs : List Value} (hb : h b = some ⟨i, .cells t cs⟩) : h.live b := ⟨i, _, hb, nofun⟩
theorem Hp.live.known {h : Hp} {b : Nat} (hb : h.live b) : ∃ i, h.dom b = some i := by
  obtain ⟨i, x, e, _⟩ := hb
  exact ⟨i, by simp [Hp.dom, e]⟩
theorem Hp.live.not_none {h : Hp} {b : Nat} (hb : h.live b) : h b ≠ none := by
  obtain ⟨i, x, e, _⟩ := hb
  rw [e]; simp
/-- A row of cells as it lies in a world. -/
structure Row (σ : Ren) (D : Dom) (b : Nat) (i : Option (Nat × Nat)) (t : TypeId) (cs : List Value) (C : Array Value) (T : TypeId) (fr : Nat × Nat) : Prop where
  free : (∀ e, i ≠ some (0, e)) → ∀ j, fr.1 ≤ j → j < fr.2 → C.size ≤ j
  fits : σ.sh b + cs.length ≤ C.size
  cell : ∀ j v, cs[j]? = some v → ∃ v', C[σ.sh b + j]? = some v' ∧ VR σ D v v'
  opn : ∀ sz e, i = some (sz, e) → cs.length = e ∧ e ≤ σ.cap b ∧ σ.sh b + σ.cap b ≤ C.size
  elem : (∀ e, i ≠ some (0, e)) → T = t
  sh0 : σ.sh b = 0
  plain : i = none → C.size = cs.length
theorem Row.mono {σ σ' : Ren} {D D' : Dom} {b : Nat} {i : Option (Nat × Nat)} {t : TypeId} {cs : List Value} {C : Array Value} {T : TypeId} {fr : Nat × Nat} (hle : Ren.le σ D σ' D') (hD : D b = some i) (h : Row σ D b i t cs C T fr) : Row σ' D' b i t cs C T fr := by
  obtain ⟨_, h2, h3⟩ := hle.ren b i hD
  exact ⟨h.free, by rw [h2]; exact h.fits, fun j v hj => let ⟨v', h4, h5⟩ := h.cell j v hj; ⟨v', by rw [h2]; exact h4, h5.mono hle⟩, by rw [h2, h3]; exact h.opn, h.elem, h2.trans h.sh0, h.plain⟩
/-- What lies at a block. -/
def BodyR (σ : Ren) (D : Dom) (b : Nat) (i : Option (Nat × Nat)) : Body → Obj → Prop
  | .cells t cs, X => ∃ C T fr, X = .cells C T fr ∧ Row σ D b i t cs C T fr
  | .map es clock, X => σ.sh b = 0 ∧ X = .map ⟨es⟩ clock
  | .siter s pos, X => σ.sh b = 0 ∧ X = .stringIter s pos
  | .miter none since seen last, X => σ.sh b = 0 ∧ X = .mapIter none since ⟨seen⟩ last
  | .miter (some m) since seen last, X => σ.sh b = 0 ∧ (∃ x, D m = some x) ∧ X = .mapIter (some (σ.blk m)) since ⟨seen⟩ last
  | .dead, _ => True
theorem BodyR.mono {σ σ' : Ren} {D D' : Dom} {b : Nat} {i : Option (Nat × Nat)} {x : Body} {X : Obj} (hle : Ren.le σ D σ' D') (hD : D b = some i) (h : BodyR σ D b i x X) : BodyR σ' D' b i x X := by
  have hs := (hle.ren b i hD).2.1
  match x, h with
  | .cells _ _, ⟨C, T, fr, e, h⟩ => exact ⟨C, T, fr, e, h.mono hle hD⟩
  | .map _ _, h => exact ⟨hs.trans h.1, h.2⟩
  | .siter _ _, h => exact ⟨hs.trans h.1, h.2⟩
  | .miter none _ _ _, h => exact ⟨hs.trans h.1, h.2⟩
  | .miter (some m) _ _ _, ⟨h1, ⟨y, hy⟩, h2⟩ => exact ⟨hs.trans h1, ⟨y, hle.dom _ _ hy⟩, by rw [(hle.ren _ _ hy).1]; exact h2⟩
  | .dead, _ => trivial
/-- No row: at its block's beginning. -/
theorem BodyR.sh {σ : Ren} {D : Dom} {b : Nat} {i : Option (Nat × Nat)} {x : Body} {X : Obj} (h : BodyR σ D b i x X) (hd : x ≠ .dead) (hc : ∀ t cs, x ≠ .cells t cs) : σ.sh b = 0 := by
  match x, h with
  | .cells _ _, _ => exact (hc _ _ rfl).elim
  | .map _ _, h => exact h.1
  | .siter _ _, h => exact h.1
  | .miter none _ _ _, h => exact h.1
  | .miter (some m) _ _ _, h => exact h.1
  | .dead, _ => exact (hd rfl).elim
structure Sim (P : Program) (σ : Ren) (h : Hp) (w : World) : Prop where
  body : ∀ b i x, h b = some ⟨i, x⟩ → x ≠ .dead → ∃ X, w.heap[σ.blk b]? = some X ∧ BodyR σ h.dom b i x X
  apart : ∀ b b', h.live b → h.live b' → b ≠ b' → σ.blk b ≠ σ.blk b'
  glob : ∀ g, g < P.globals.size → h g ≠ none → σ.blk g = g ∧ σ.sh g = 0
theorem Sim.row {P : Program} {σ : Ren} {h : Hp} {w : World} (s : Sim P σ h w) : ∀ b i t cs, h b = some ⟨i, .cells t cs⟩ → ∃ C T fr, w.heap[σ.blk b]? = some (.cells C T fr) ∧ Row σ h.dom b i t cs C T fr := fun b i t cs hb => by
  obtain ⟨X, h1, C, T, fr, rfl, h2⟩ := s.body b i _ hb nofun
  exact ⟨C, T, fr, h1, h2⟩
/-- From one memory to a later one. -/
structure Fwd (σ : Ren) (h : Hp) (w : World) (σ' : Ren) (h' : Hp) (w' : World) : Prop where
  le : Ren.le σ h.dom σ' h'.dom
  old : ∀ k, k < w.heap.size → (∀ b, h.live b → σ.blk b ≠ k) → w'.heap[k]? = w.heap[k]?
  new : ∀ b, h b = none → h'.live b → w.heap.size ≤ σ'.blk b ∨ ∃ b0, h.live b0 ∧ ¬ h'.live b0 ∧ σ'.blk b = σ.blk b0
  was : ∀ b, h'.live b → h b ≠ none → h.live b
  size : w.heap.size ≤ w'.heap.size
  os : w'.os = w.os
  tape : w'.tape = w.tape
  output : w'.output = w.output
  ro : ∀ b e t cs, h b = some ⟨some (0, e), .cells t cs⟩ → h' b = some ⟨some (0, e), .cells t cs⟩ ∧ w'.heap[σ.blk b]? = w.heap[σ.blk b]?
theorem Fwd.refl (σ : Ren) (h : Hp) (w : World) : Fwd σ h w σ h w :=
  ⟨.refl _ _, fun _ _ _ => rfl, fun _b hb hl => (hl.not_none hb).elim, fun _ h _ => h, Nat.le_refl _, rfl, rfl, rfl, fun _ _ _ _ h => ⟨h, rfl⟩⟩
theorem Sim.lt {P : Program} {σ : Ren} {h : Hp} {w : World} (s : Sim P σ h w) {b : Nat} (hb : h.live b) : σ.blk b < w.heap.size := by
  obtain ⟨i, x, e, hx⟩ := hb
  obtain ⟨X, h1, _⟩ := s.body _ _ _ e hx
  exact (Array.getElem?_eq_some_iff.1 h1).1
theorem Fwd.trans {P : Program} {σ σ' σ'' : Ren} {h h' h'' : Hp} {w w' w'' : World} (_hs : Sim P σ h w) (f : Fwd σ h w σ' h' w') (g : Fwd σ' h' w' σ'' h'' w'') : Fwd σ h w σ'' h'' w'' where
  le := f.le.trans g.le
  old k hk hh := by
    refine (g.old k (Nat.lt_of_lt_of_le hk f.size) fun b hb e => ?_).trans (f.old k hk hh)
    by_cases hn : h b = none
    · rcases f.new b hn hb with h1 | ⟨b0, h1, _, h2⟩
      · omega
      · exact hh b0 h1 (h2.symm.trans e)
    · have hl := f.was b hb hn
      obtain ⟨i, hi⟩ := hl.known
      have := (f.le.ren b i hi).1
      exact hh b hl (this ▸ e)
  new b hb hl := by
    by_cases hn : h' b = none
    · rcases g.new b hn hl with h1 | ⟨b0, h1, h3, h2⟩
      · exact .inl (Nat.le_trans f.size h1)
      · by_cases hb0 : h b0 = none
        · rcases f.new b0 hb0 h1 with h4 | ⟨b1, h4, h5, h6⟩
          · exact .inl (by rw [h2]; exact h4)
          · refine .inr ⟨b1, h4, fun h7 => ?_, h2.trans h6⟩
            refine h5 (g.was b1 h7 fun h8 => ?_)
            obtain ⟨i, hi⟩ := h4.known
            have := f.le.dom b1 i hi
            simp [Hp.dom, h8] at this
        · have hl0 := f.was b0 h1 hb0
          refine .inr ⟨b0, hl0, h3, ?_⟩
          obtain ⟨i, hi⟩ := hl0.known
          rw [h2]
          exact (f.le.ren b0 i hi).1
    · have hl' := g.was b hl hn
      have hren : σ''.blk b = σ'.blk b := by
        obtain ⟨i, hi⟩ := hl'.known
        exact (g.le.ren b i hi).1
      rcases f.new b hb hl' with h1 | ⟨b0, h1, h3, h2⟩
      · exact .inl (by rw [hren]; exact h1)
      · refine .inr ⟨b0, h1, fun h7 => ?_, hren.trans h2⟩
        refine h3 (g.was b0 h7 fun h8 => ?_)
        obtain ⟨i, hi⟩ := h1.known
        have := f.le.dom b0 i hi
        simp [Hp.dom, h8] at this
  was b hl hn := by
    refine f.was b (g.was b hl fun h8 => ?_) hn
    cases e : h b with
    | none => exact hn e
    | some x =>
      have := f.le.dom b x.opn (by simp [Hp.dom, e])
      simp [Hp.dom, h8] at this
  size := Nat.le_trans f.size g.size
  os := g.os.trans f.os
  tape := g.tape.trans f.tape
  output := g.output.trans f.output
  ro b e t cs hb := by
    obtain ⟨h1, h2⟩ := f.ro b e t cs hb
    obtain ⟨h3, h4⟩ := g.ro b e t cs h1
    rw [(f.le.ren b (some (0, e)) (by simp [Hp.dom, hb])).1] at h4
    exact ⟨h3, h4.trans h2⟩
theorem roB_false {i : Option (Nat × Nat)} (h : roB i = false) : ∀ e, i ≠ some (0, e) := fun e he => by
  subst he
  cases h
end Go.Proofs.YtdcbnkimjhefkaaGreatDoor

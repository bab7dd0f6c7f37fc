/-
  Memory: what is laid, read and written, in the abstract and in a world.
  Each operation, in the abstract and in a world: those that only reckon, those that read, those that lay a new row.
  Operations that only reckon, further: operators, fields, indices, slices, structs.
-/
import Derived.Test.YtdcbnkimjhefkaaGreatDoorU04
import Derived.Test.YtdcbnkimjhefkaaGreatDoorU05
import Derived.Laws.Cells
import Derived.Laws.IdiomCopy
import Derived.IntWalk
import Derived.Laws.Strings
namespace Go.Proofs.YtdcbnkimjhefkaaGreatDoor
section
variable {P : Program} {σ : Ren} {h : Hp} {w : World}

def Hp.set (h : Hp) (b : Nat) (x : Blk) : Hp := fun j => if j = b then some x else h j
theorem Hp.set_same (h : Hp) (b : Nat) (x : Blk) : h.set b x b = some x := by simp [Hp.set]
theorem Hp.set_other {h : Hp} {b j : Nat} {x : Blk} (hj : j ≠ b) : h.set b x j = h j := by simp [Hp.set, hj]
theorem Hp.dom_some {h : Hp} {b : Nat} {x : Blk} (hb : h b = some x) : h.dom b = some x.opn := by simp [Hp.dom, hb]
theorem Hp.dom_set {h : Hp} {b : Nat} {x y : Blk} (hb : h b = some x) (hi : y.opn = x.opn) : (h.set b y).dom = h.dom := by
  funext j
  unfold Hp.dom Hp.set
  by_cases e : j = b
  · subst e; simp [hb, hi]
  · simp [e]
structure Push (w w' : World) (C : List Value) (T : TypeId) (fr : Nat × Nat) : Prop where
  heap : w'.heap = w.heap.push (.cells C.toArray T fr)
  free : ∀ j, fr.1 ≤ j → j < fr.2 → C.length ≤ j
  os : w'.os = w.os
  tape : w'.tape = w.tape
  output : w'.output = w.output
theorem Push.plain (w : World) (C : List Value) (T : TypeId) : Push w { w with heap := w.heap.push (.cells C.toArray T (0, 0)) } C T (0, 0) := ⟨rfl, fun j _ h => (by simp at h), rfl, rfl, rfl⟩
theorem Push.drew (w : World) (C : List Value) (T : TypeId) : Push w { w with heap := w.heap.push (.cells C.toArray T (0, 0)), drawn := w.drawn + 1 } C T (0, 0) := ⟨rfl, fun j _ h => (by simp at h), rfl, rfl, rfl⟩
theorem Sim.lay (s : Sim P σ h w) (id : Nat) (hid : h id = none) (hg : P.globals.size ≤ id) (i : Option (Nat × Nat)) (x : Body) (X : Obj) (cap : Nat) {w' : World} (hh : w'.heap = w.heap.push X) (h1 : w'.os = w.os) (h2 : w'.tape = w.tape) (h3 : w'.output = w.output)
    (hx : ∀ σ' : Ren, Ren.le σ h.dom σ' (h.set id ⟨i, x⟩).dom → σ'.blk id = w.heap.size → σ'.sh id = 0 → σ'.cap id = cap → BodyR σ' (h.set id ⟨i, x⟩).dom id i x X) :
    ∃ σ', Sim P σ' (h.set id ⟨i, x⟩) w' ∧ Fwd σ h w σ' (h.set id ⟨i, x⟩) w' ∧ σ'.blk id = w.heap.size ∧ σ'.sh id = 0 ∧ σ'.cap id = cap := by
  let σ' : Ren := ⟨fun b => if b = id then w.heap.size else σ.blk b, fun b => if b = id then 0 else σ.sh b, fun b => if b = id then cap else σ.cap b⟩
  have hlt : ∀ b, h.live b → σ.blk b < w.heap.size := fun b hb => s.lt hb
  have hle : Ren.le σ h.dom σ' (h.set id ⟨i, x⟩).dom := by
    refine ⟨fun b x hb => ?_, fun b x hb => ?_⟩
    · have hne : b ≠ id := fun e => by subst e; simp [Hp.dom, hid] at hb
      unfold Hp.dom at hb ⊢
      rw [Hp.set_other hne]; exact hb
    · have hne : b ≠ id := fun e => by subst e; simp [Hp.dom, hid] at hb
      simp [σ', hne]
  have hlive : ∀ b, (h.set id ⟨i, x⟩).live b → b ≠ id → h.live b := fun b hb hne => by
    obtain ⟨i', x', e, hd⟩ := hb
    rw [Hp.set_other hne] at e
    exact ⟨i', x', e, hd⟩
  refine ⟨σ', ⟨?_, ?_, ?_⟩, ⟨hle, ?_, ?_, ?_, ?_, h1, h2, h3, ?_⟩, by simp [σ'], by simp [σ'], by simp [σ']⟩
  · intro b i' x' hb hd
    by_cases e : b = id
    · subst e
      rw [Hp.set_same] at hb
      simp only [Option.some.injEq, Blk.mk.injEq] at hb
      obtain ⟨rfl, rfl⟩ := hb
      exact ⟨X, by rw [hh]; simp [σ'], hx σ' hle (by simp [σ']) (by simp [σ']) (by simp [σ'])⟩
    · rw [Hp.set_other e] at hb
      obtain ⟨X', q1, q2⟩ := s.body b i' x' hb hd
      have hl := hlt b ⟨_, _, hb, hd⟩
      refine ⟨X', ?_, q2.mono hle (Hp.dom_some hb)⟩
      simp only [σ', e, if_false]
      rw [hh, Array.getElem?_push_lt hl]
      rw [Array.getElem?_eq_getElem hl] at q1
      exact q1
  · intro b b' hb hb' hne
    by_cases e : b = id
    · subst e
      have e' : b' ≠ b := fun e' => hne e'.symm
      have := hlt b' (hlive b' hb' e')
      simp only [σ', if_true, e', if_false]
      omega
    · by_cases e' : b' = id
      · subst e'
        have := hlt b (hlive b hb e)
        simp only [σ', if_true, e, if_false]
        omega
      · simp only [σ', e, e', if_false]
        exact s.apart b b' (hlive b hb e) (hlive b' hb' e') hne
  · intro g hg' hn
    have e : g ≠ id := by omega
    rw [Hp.set_other e] at hn
    simpa [σ', e] using s.glob g hg' hn
  · intro k hk _
    rw [hh, Array.getElem?_push_lt hk, Array.getElem?_eq_getElem hk]
  · intro b hb hl
    by_cases e : b = id
    · subst e; left; simp [σ']
    · exact ((hlive b hl e).not_none hb).elim
  · intro b hl hn
    by_cases e : b = id
    · subst e; exact (hn hid).elim
    · exact hlive b hl e
  · rw [hh]; simp
  · intro b e t2 cs2 hb
    have hne : b ≠ id := fun e => by subst e; rw [hid] at hb; cases hb
    refine ⟨by rw [Hp.set_other hne]; exact hb, ?_⟩
    have hk := hlt b (.row hb)
    rw [hh, Array.getElem?_push_lt hk, Array.getElem?_eq_getElem hk]
theorem Sim.new (s : Sim P σ h w) (id : Nat) (hid : h id = none) (hg : P.globals.size ≤ id) (i : Option (Nat × Nat)) (t T : TypeId) (cs cs' rest : List Value) (hv : VRs σ h.dom cs cs')
    (hi : ∀ sz e, i = some (sz, e) → cs.length = e) (hT : T = t) (hR : i = none → rest = []) {w' : World} {fr : Nat × Nat} (hw : Push w w' (cs' ++ rest) T fr) :
    ∃ σ', Sim P σ' (h.set id ⟨i, .cells t cs⟩) w' ∧ Fwd σ h w σ' (h.set id ⟨i, .cells t cs⟩) w' ∧ σ'.blk id = w.heap.size ∧ σ'.sh id = 0 ∧ σ'.cap id = (cs' ++ rest).length := by
  refine s.lay id hid hg i _ _ _ hw.heap hw.os hw.tape hw.output fun σ' hle q1 q2 q3 => ⟨_, _, _, rfl, ⟨fun _ j h1 h2 => (by simpa using hw.free j h1 h2), ?_, ?_, ?_, fun _ => hT, q2, fun hn => by simp [hR hn, hv.length]⟩⟩
  · simp [q2, hv.length]
  · intro j v hj
    obtain ⟨v', h1, h2⟩ := hv.get hj
    refine ⟨v', ?_, h2.mono hle⟩
    simp only [q2, Nat.zero_add, List.getElem?_toArray]
    rw [List.getElem?_append_left (List.getElem?_eq_some_iff.1 h1).1]
    exact h1
  · intro sz e hie
    have := hi sz e hie
    simp only [q2, q3, List.size_toArray]
    rw [List.length_append, hv.length]
    omega
theorem Sim.turn (s : Sim P σ h w) {b : Nat} {i : Option (Nat × Nat)} {x y : Body} (hro : ∀ e, i ≠ some (0, e)) (hb : h b = some ⟨i, x⟩) (hx : x ≠ .dead) {w' : World} {X' : Obj} (hX : w'.heap[σ.blk b]? = some X') (ho : ∀ k, k ≠ σ.blk b → w'.heap[k]? = w.heap[k]?) (hsz : w'.heap.size = w.heap.size)
    (h1 : w'.os = w.os) (h2 : w'.tape = w.tape) (h3 : w'.output = w.output) (hy : y ≠ .dead → BodyR σ h.dom b i y X') : Sim P σ (h.set b ⟨i, y⟩) w' ∧ Fwd σ h w σ (h.set b ⟨i, y⟩) w' := by
  have hd : (h.set b ⟨i, y⟩).dom = h.dom := Hp.dom_set hb rfl
  have hlb : h.live b := ⟨i, x, hb, hx⟩
  have hlive : ∀ c, (h.set b ⟨i, y⟩).live c → h.live c := fun c hc => by
    by_cases e : c = b
    · subst e; exact hlb
    · obtain ⟨i', x', e3, hd3⟩ := hc
      rw [Hp.set_other e] at e3
      exact ⟨i', x', e3, hd3⟩
  refine ⟨⟨?_, ?_, ?_⟩, ⟨?_, ?_, ?_, fun c hc _ => hlive c hc, by rw [hsz]; exact Nat.le_refl _, h1, h2, h3, fun c e t2 cs3 hc => ?_⟩⟩
  · intro c i' x' hc hd'
    rw [hd]
    by_cases e : c = b
    · subst e
      rw [Hp.set_same] at hc
      simp only [Option.some.injEq, Blk.mk.injEq] at hc
      obtain ⟨rfl, rfl⟩ := hc
      exact ⟨X', hX, hy hd'⟩
    · rw [Hp.set_other e] at hc
      obtain ⟨X2, q1, q2⟩ := s.body c i' x' hc hd'
      exact ⟨X2, by rw [ho _ (s.apart c b ⟨_, _, hc, hd'⟩ hlb e)]; exact q1, q2⟩
  · intro c c' hc hc' hne
    exact s.apart c c' (hlive c hc) (hlive c' hc') hne
  · intro g hg' hn
    refine s.glob g hg' fun e => hn ?_
    by_cases e2 : g = b
    · subst e2; rw [hb] at e; cases e
    · rw [Hp.set_other e2]; exact e
  · rw [hd]; exact .refl _ _
  · intro k _ hk
    exact ho _ (fun e => hk b hlb e.symm)
  · intro c hc hl'
    exact ((hlive c hl').not_none hc).elim
  · have hne : c ≠ b := fun e2 => by
      subst e2
      rw [hb] at hc
      simp only [Option.some.injEq, Blk.mk.injEq] at hc
      exact hro e hc.1
    exact ⟨by rw [Hp.set_other hne]; exact hc, ho _ (s.apart c b (.row hc) hlb hne)⟩
theorem Row.at {D : Dom} {b : Nat} {i : Option (Nat × Nat)} {t : TypeId} {cs : List Value} {C : Array Value} {T : TypeId} {fr : Nat × Nat} (h1 : w.heap[σ.blk b]? = some (.cells C T fr)) (h2 : Row σ D b i t cs C T fr) {j : Nat} {v : Value} (hj : cs[j]? = some v) : ∃ v', w.cell? ⟨σ.blk b, σ.sh b + j, none⟩ = some v' ∧ VR σ D v v' := by
  obtain ⟨v', h3, h4⟩ := h2.cell j v hj
  exact ⟨v', by simp [World.cell?, h1, h3], h4⟩
theorem Row.cells {D : Dom} {b : Nat} {i : Option (Nat × Nat)} {t : TypeId} {cs : List Value} {C : Array Value} {T : TypeId} {fr : Nat × Nat} (h1 : w.heap[σ.blk b]? = some (.cells C T fr)) (h2 : Row σ D b i t cs C T fr) {o n : Nat} (hn : n = 0 ∨ o + n ≤ cs.length) :
    ∃ r, (loadCells ⟨σ.blk b, σ.sh b + o, none⟩ n).run P w = .ok ⟨r⟩ w ∧ VRs σ D ((cs.drop o).take n) r := by
  have hsz : ((cs.drop o).take n).length = n := by
    rcases hn with rfl | hn
    · simp
    · simp; omega
  have hex : ∀ (m : Nat), m ≤ n → ∃ r : List Value, r.length = m ∧ ∀ j, j < m → ∃ v, cs[o + j]? = some v ∧ C[σ.sh b + (o + j)]? = r[j]? ∧ ∃ v', r[j]? = some v' ∧ VR σ D v v' := by
    intro m
    induction m with
    | zero => intro _; exact ⟨[], rfl, fun j hj => by omega⟩
    | succ m ih =>
      intro hm
      obtain ⟨r, hr, hh⟩ := ih (by omega)
      have hlt : o + m < cs.length := by omega
      obtain ⟨v', h3, h4⟩ := h2.cell (o + m) _ (List.getElem?_eq_getElem hlt)
      refine ⟨r ++ [v'], by simp [hr], fun j hj => ?_⟩
      by_cases e : j < m
      · obtain ⟨v, g1, g2, v2, g3, g4⟩ := hh j e
        have : (r ++ [v'])[j]? = r[j]? := List.getElem?_append_left (by omega)
        rw [this]
        exact ⟨v, g1, g2, v2, g3, g4⟩
      · have e : j = m := by omega
        subst e
        have : (r ++ [v'])[j]? = some v' := by rw [← hr]; simp
        rw [this]
        exact ⟨_, List.getElem?_eq_getElem hlt, h3, v', rfl, h4⟩
  obtain ⟨r, hr, hh⟩ := hex n (Nat.le_refl _)
  refine ⟨r, ?_, VRs.of_get (by rw [hsz, hr]) fun j v hj => ?_⟩
  · have := run_loadCells_list (P := P) (w := w) ⟨σ.blk b, σ.sh b + o, none⟩ r fun j v hj => by
      have hjl : j < n := by rw [← hr]; exact (List.getElem?_eq_some_iff.1 hj).1
      obtain ⟨x, g1, g2, _⟩ := hh j hjl
      have e : (Addr.add ⟨σ.blk b, σ.sh b + o, none⟩ j) = ⟨σ.blk b, σ.sh b + (o + j), none⟩ := by
        unfold Addr.add
        split
        · rename_i e; subst e; simp
        · simp [Nat.add_assoc]
      rw [e]
      simp [World.cell?, h1, g2, hj]
    rw [hr] at this
    exact this
  · have hjl : j < n := by rw [← hsz]; exact (List.getElem?_eq_some_iff.1 hj).1
    obtain ⟨x, g1, g2, v', g3, g4⟩ := hh j hjl
    refine ⟨v', g3, ?_⟩
    rw [List.getElem?_take, if_pos hjl, List.getElem?_drop, g1] at hj
    exact (Option.some.inj hj) ▸ g4
theorem Sim.cell (s : Sim P σ h w) {b : Nat} {i : Option (Nat × Nat)} {t : TypeId} {cs : List Value} (hb : h b = some ⟨i, .cells t cs⟩) {j : Nat} {v : Value} (hj : cs[j]? = some v) : ∃ v', w.cell? ⟨σ.blk b, σ.sh b + j, none⟩ = some v' ∧ VR σ h.dom v v' := by
  obtain ⟨C, T, fr, h1, h2⟩ := s.row b i t cs hb
  obtain ⟨v', h3, h4⟩ := h2.cell j v hj
  exact ⟨v', by simp [World.cell?, h1, h3], h4⟩
theorem Sim.cells (s : Sim P σ h w) {b : Nat} {i : Option (Nat × Nat)} {t : TypeId} {cs : List Value} (hb : h b = some ⟨i, .cells t cs⟩) {o n : Nat} (hn : n = 0 ∨ o + n ≤ cs.length) :
    ∃ r, (loadCells ⟨σ.blk b, σ.sh b + o, none⟩ n).run P w = .ok ⟨r⟩ w ∧ VRs σ h.dom ((cs.drop o).take n) r := by
  obtain ⟨C, T, fr, h1, h2⟩ := s.row b i t cs hb
  exact Row.cells h1 h2 hn
theorem setCells_heap (g : Nat) (T : TypeId) (fr : Nat × Nat) : ∀ (vs : List Value) (o : Nat) (w : World) (C : Array Value), w.heap[g]? = some (.cells C T fr) → o + vs.length ≤ C.size →
    ∃ C', (w.setCells g o vs).heap[g]? = some (.cells C' T fr) ∧ C'.size = C.size ∧ ∀ j, C'[j]? = if o ≤ j ∧ j < o + vs.length then vs[j - o]? else C[j]?
  | [], o, w, C, h, _ => ⟨C, h, rfl, fun j => by rw [if_neg (by simp)]⟩
  | v :: vs, o, w, C, h, hl => by
    have h1 : (w.setCell ⟨g, o, none⟩ v).heap[g]? = some (.cells (C.setIfInBounds o v) T fr) := by
      unfold World.setCell
      simp [Array.getElem?_modify, h]
    obtain ⟨C', h2, h3, h4⟩ := setCells_heap g T fr vs (o + 1) _ _ h1 (by simp at hl ⊢; omega)
    refine ⟨C', h2, by rw [h3]; simp, fun j => ?_⟩
    rw [h4]
    simp only [List.length_cons] at hl ⊢
    by_cases e : j = o
    · subst e
      rw [if_neg (by omega), if_pos (by omega), Nat.sub_self, Array.getElem?_setIfInBounds_self_of_lt (by omega)]
      rfl
    · by_cases e2 : o + 1 ≤ j ∧ j < o + 1 + vs.length
      · rw [if_pos e2, if_pos (by omega), show j - o = (j - (o + 1)) + 1 by omega]
        simp
      · rw [if_neg e2, if_neg (by omega)]
        rw [Array.getElem?_setIfInBounds_ne (fun e' => e e'.symm)]
theorem setCells_other (g : Nat) : ∀ (vs : List Value) (o : Nat) (w : World) (k : Nat), k ≠ g → (w.setCells g o vs).heap[k]? = w.heap[k]?
  | [], _, _, _, _ => rfl
  | v :: vs, o, w, k, hk => by
    unfold World.setCells
    rw [setCells_other g vs _ _ k hk]
    unfold World.setCell
    simp [Array.getElem?_modify, Ne.symm hk]
theorem setCells_size (g : Nat) : ∀ (vs : List Value) (o : Nat) (w : World), (w.setCells g o vs).heap.size = w.heap.size ∧ (w.setCells g o vs).os = w.os ∧ (w.setCells g o vs).tape = w.tape ∧ (w.setCells g o vs).output = w.output
  | [], _, _ => ⟨rfl, rfl, rfl, rfl⟩
  | v :: vs, o, w => by
    unfold World.setCells
    obtain ⟨h1, h2, h3, h4⟩ := setCells_size g vs (o + 1) (w.setCell ⟨g, o, none⟩ v)
    rw [h1, h2, h3, h4]
    exact ⟨by simp [World.setCell], rfl, rfl, rfl⟩
theorem Sim.put (s : Sim P σ h w) {b : Nat} {i : Option (Nat × Nat)} (hro : ∀ e, i ≠ some (0, e)) {t : TypeId} {cs cs2 : List Value} (hb : h b = some ⟨i, .cells t cs⟩) {o : Nat} {r r' : List Value} (hr : r = [] ∨ o + r.length ≤ cs.length) (hv : VRs σ h.dom r r') (hl : cs2.length = cs.length)
    (hg : ∀ j, cs2[j]? = if o ≤ j ∧ j < o + r.length then r[j - o]? else cs[j]?) :
    Sim P σ (h.set b ⟨i, .cells t cs2⟩) (w.setCells (σ.blk b) (σ.sh b + o) r') ∧ Fwd σ h w σ (h.set b ⟨i, .cells t cs2⟩) (w.setCells (σ.blk b) (σ.sh b + o) r') := by
  obtain ⟨C, T, fr, h1, h2⟩ := s.row b i t cs hb
  obtain ⟨z1, z2, z3, z4⟩ := setCells_size (σ.blk b) r' (σ.sh b + o) w
  have hrl := hv.length
  have hin : ∃ C', (w.setCells (σ.blk b) (σ.sh b + o) r').heap[σ.blk b]? = some (.cells C' T fr) ∧ C'.size = C.size ∧ ∀ j, C'[j]? = if σ.sh b + o ≤ j ∧ j < σ.sh b + o + r'.length then r'[j - (σ.sh b + o)]? else C[j]? := by
    rcases hr with rfl | hr
    · cases hv
      exact ⟨C, h1, rfl, fun j => by rw [if_neg (by simp)]⟩
    · exact setCells_heap _ T fr r' _ w C h1 (by have := h2.fits; omega)
  obtain ⟨C', g1, g2, g3⟩ := hin
  refine s.turn hro hb nofun g1 (fun k hk => setCells_other _ _ _ _ _ hk) z1 z2 z3 z4 fun _ => ⟨C', T, fr, rfl, ⟨by rw [g2]; exact h2.free, by rw [g2, hl]; exact h2.fits, ?_, by rw [g2, hl]; exact h2.opn, h2.elem, h2.sh0, by rw [g2, hl]; exact h2.plain⟩⟩
  intro j v hj
  rw [hg] at hj
  rw [g3]
  split at hj
  · rename_i hjj
    obtain ⟨v', h3, h4⟩ := hv.get hj
    refine ⟨v', ?_, h4⟩
    rw [if_pos (by omega), show σ.sh b + j - (σ.sh b + o) = j - o by omega]
    exact h3
  · rename_i hjj
    obtain ⟨v', h3, h4⟩ := h2.cell j v hj
    refine ⟨v', ?_, h4⟩
    rw [if_neg (by omega)]
    exact h3
theorem Sim.unfrozen (s : Sim P σ h w) {b : Nat} {i : Option (Nat × Nat)} (hro : ∀ e, i ≠ some (0, e)) {t : TypeId} {cs : List Value} (hb : h b = some ⟨i, .cells t cs⟩) {j : Nat} (hj : j < cs.length) : w.frozen? ⟨σ.blk b, σ.sh b + j, none⟩ = false := by
  obtain ⟨C, T, fr, h1, h2⟩ := s.row b i t cs hb
  unfold World.frozen?
  simp only [h1]
  cases hh : (decide (fr.1 ≤ σ.sh b + j) && decide (σ.sh b + j < fr.2)) with
  | false => rfl
  | true =>
    simp at hh
    have := h2.free hro _ hh.1 hh.2
    have := h2.fits
    omega
end
end Go.Proofs.YtdcbnkimjhefkaaGreatDoor

namespace Go.Proofs.YtdcbnkimjhefkaaGreatDoor
section
variable {P : Program} {env : Env} {H : AH} {β : Type}
structure AH.ok (P : Program) (H : AH) : Prop where
  lo : P.globals.size ≤ H.next
  hi : ∀ b, H.next ≤ b → H.get b = none
  gl : ∀ g, g < P.globals.size → H.get g ≠ none
theorem AH.setK_inv {b : Nat} {x : Blk} {c : AH → Option β} {r : β} (h : H.setK b x c = some r) : ∃ H', c H' = some r ∧ H'.next = H.next ∧ H'.get = Hp.set H.get b x := by
  obtain ⟨t', h1, h2⟩ := Tr.setK_inv h
  exact ⟨⟨t', H.next⟩, h1, rfl, funext fun j => h2 j⟩
theorem AH.newK_inv {x : Blk} {c : Nat → AH → Option β} {r : β} (h : H.newK x c = some r) : ∃ H', c H.next H' = some r ∧ H'.next = H.next + 1 ∧ H'.get = Hp.set H.get H.next x := by
  obtain ⟨t', h1, h2⟩ := Tr.setK_inv h
  rw [natK_eq] at h1
  exact ⟨⟨t', H.next + 1⟩, h1, rfl, funext fun j => h2 j⟩
theorem AH.ok_set (hok : AH.ok P H) {H' : AH} {b : Nat} {x y : Blk} (hb : H.get b = some y) (hn : H'.next = H.next) (hg : H'.get = Hp.set H.get b x) : AH.ok P H' := by
  refine ⟨by rw [hn]; exact hok.1, fun j hj => ?_, fun g hlt => ?_⟩
  · rw [hg, Hp.set_other]
    · exact hok.2 j (by rw [hn] at hj; exact hj)
    · intro e; subst e; rw [hok.2 j (by rw [hn] at hj; exact hj)] at hb; cases hb
  · rw [hg]
    by_cases e : g = b
    · subst e; rw [Hp.set_same]; simp
    · rw [Hp.set_other e]; exact hok.gl g hlt
theorem AH.ok_new (hok : AH.ok P H) {H' : AH} {x : Blk} (hn : H'.next = H.next + 1) (hg : H'.get = Hp.set H.get H.next x) : AH.ok P H' := by
  refine ⟨by rw [hn]; exact Nat.le_succ_of_le hok.1, fun j hj => ?_, fun g hlt => ?_⟩
  · rw [hn] at hj
    rw [hg, Hp.set_other (by omega)]
    exact hok.2 j (by omega)
  · have := hok.1
    rw [hg, Hp.set_other (by omega)]
    exact hok.gl g hlt

/-! ### What is shown of an operation -/
def Rels (ρa : Operand → Option Value) (σ : Ren) (D : Dom) (ρ : Operand → Value) : Prop := ∀ x u, ρa x = some u → VR σ D u (ρ x)
def PureGood (P : Program) (ρa : Operand → Option Value) (o : Oper) (v : Value) : Prop :=
  ∀ σ D w ρ, Rels ρa σ D ρ → ∃ v', (execOp ρ o).run P w = .ok (.value v') w ∧ VR σ D v v'
def LoadGood (P : Program) (ρa : Operand → Option Value) (h : Hp) (o : Oper) (v : Value) : Prop :=
  ∃ b i t cs, h b = some ⟨i, .cells t cs⟩ ∧ ∀ σ D ρ, Rels ρa σ D ρ → D b ≠ none ∧ (D b = some i → ∀ w C T fr, w.heap[σ.blk b]? = some (.cells C T fr) → Row σ D b i t cs C T fr → ∃ v', (execOp ρ o).run P w = .ok (.value v') w ∧ VR σ D v v')
def AllocGood (P : Program) (ρa : Operand → Option Value) (id : Nat) (o : Oper) (v : Value) (i : Option (Nat × Nat)) (t : TypeId) (cs : List Value) : Prop :=
  (∀ sz e, i = some (sz, e) → cs.length = e) ∧ ∀ σ D w ρ, Rels ρa σ D ρ → ∃ cs' rest fr v' w', (i = none → rest = []) ∧ VRs σ D cs cs' ∧ (execOp ρ o).run P w = .ok (.value v') w' ∧ Push w w' (cs' ++ rest) t fr ∧
    ∀ (σ' : Ren) (D' : Dom), D' id = some i → σ'.blk id = w.heap.size → σ'.sh id = 0 → σ'.cap id = (cs' ++ rest).length → VR σ' D' v v'
def OpGood (P : Program) (ρa : Operand → Option Value) (H : AH) (o : Oper) (v : Value) (H' : AH) : Prop :=
  ∀ σ w ρ, Sim P σ H.get w → Rels ρa σ (Hp.dom H.get) ρ → OpOk P o ρ w (fun v' w' => ∃ σ', Sim P σ' H'.get w' ∧ Fwd σ H.get w σ' H'.get w' ∧ VR σ' (Hp.dom H'.get) v v')
def ResC (P : Program) (env : Env) (H : AH) (o : Oper) (c : Value → AH → Option β) (r : β) : Cls → Prop
  | .p => ∃ v, c v H = some r ∧ PureGood P (ev1 P env H) o v
  | .l => ∃ v, c v H = some r ∧ (PureGood P (ev1 P env H) o v ∨ LoadGood P (ev1 P env H) H.get o v)
  | .a => ∃ v H' i t cs, c v H' = some r ∧ H'.next = H.next + 1 ∧ H'.get = Hp.set H.get H.next ⟨i, .cells t cs⟩ ∧ AllocGood P (ev1 P env H) H.next o v i t cs
  | .w => ∃ v H', c v H' = some r ∧ AH.ok P H' ∧ H.next ≤ H'.next ∧ OpGood P (ev1 P env H) H o v H'
variable {o : Oper} {c : Value → AH → Option β} {r : β}
theorem PureGood.op {ρa : Operand → Option Value} {v : Value} (h : PureGood P ρa o v) : OpGood P ρa H o v H := fun σ w ρ hs hr =>
  let ⟨_, h1, h2⟩ := h σ _ w ρ hr
  OpOk.value h1 ⟨σ, hs, .refl _ _ _, h2⟩
theorem LoadGood.op {ρa : Operand → Option Value} {v : Value} (h : LoadGood P ρa H.get o v) : OpGood P ρa H o v H := fun σ w ρ hs hr => by
  obtain ⟨b, i, t, cs, hb, hh⟩ := h
  obtain ⟨C, T, fr, h1, h2⟩ := hs.row _ _ _ _ hb
  obtain ⟨v', h3, h4⟩ := (hh σ _ ρ hr).2 (Hp.dom_some hb) w C T fr h1 h2
  exact OpOk.value h3 ⟨σ, hs, .refl _ _ _, h4⟩
theorem AllocGood.op {ρa : Operand → Option Value} (hok : AH.ok P H) {H' : AH} {v : Value} {i : Option (Nat × Nat)} {t : TypeId} {cs : List Value} (hg : H'.get = Hp.set H.get H.next ⟨i, .cells t cs⟩) (h : AllocGood P ρa H.next o v i t cs) : OpGood P ρa H o v H' := fun σ w ρ hs hr => by
  obtain ⟨hi, hh⟩ := h
  obtain ⟨cs', rest, fr, v', w', gr, g1, g2, gp, g3⟩ := hh σ _ w ρ hr
  obtain ⟨σ', g4, g5, g6, g7, g8⟩ := hs.new H.next (hok.2 _ (Nat.le_refl _)) hok.1 i t t cs cs' rest g1 hi rfl gr gp
  refine OpOk.value g2 ⟨σ', by rw [hg]; exact g4, by rw [hg]; exact g5, ?_⟩
  rw [hg]
  exact g3 σ' _ (by simp [Hp.dom, Hp.set_same]) g6 g7 g8
theorem ResC.op (hok : AH.ok P H) : ∀ {k : Cls}, ResC P env H o c r k → ∃ v H', c v H' = some r ∧ AH.ok P H' ∧ H.next ≤ H'.next ∧ OpGood P (ev1 P env H) H o v H'
  | .p, ⟨v, h1, h2⟩ => ⟨v, H, h1, hok, Nat.le_refl _, h2.op⟩
  | .l, ⟨v, h1, h2⟩ => ⟨v, H, h1, hok, Nat.le_refl _, h2.elim PureGood.op LoadGood.op⟩
  | .a, ⟨v, H', i, t, cs, h1, h2, h3, h4⟩ => ⟨v, H', h1, AH.ok_new hok h2 h3, by omega, h4.op hok h3⟩
  | .w, h => h

/-! ### Small things -/
theorem pureK_inv {s : Sem Value} (h : pureK P s H c = some r) : ∃ v, prun P s = some v ∧ atomV v = true ∧ c v H = some r := by
  unfold pureK at h
  split at h
  · rename_i v hv
    split at h
    · rename_i ha; exact ⟨v, hv, ha, by simpa using h⟩
    · cases h
  · cases h
theorem run_v {s : Sem Value} {v : Value} {w : World} (h : s.run P w = .ok v w) : (do let x ← s; pure (Next.value x) : Sem Next).run P w = .ok (.value v) w := by
  show (s.bind fun v => Sem.pure (Next.value v)).run P w = _
  rw [Sem.run_bind', h]
  rfl
theorem run_v2 {s : Sem Value} {v : Value} {w w' : World} (h : s.run P w = .ok v w') : (do let x ← s; pure (Next.value x) : Sem Next).run P w = .ok (.value v) w' := by
  show (s.bind fun v => Sem.pure (Next.value v)).run P w = _
  rw [Sem.run_bind', h]
  rfl
theorem run_u2 {s : Sem Unit} {w w' : World} (h : s.run P w = .ok () w') : (do s; pure Next.skip : Sem Next).run P w = .ok .skip w' := by
  show (s.bind fun _ => Sem.pure Next.skip).run P w = _
  rw [Sem.run_bind', h]
  rfl
theorem res_pure {s : Sem Value} (h : pureK P s H c = some r) (hs : ∀ σ D ρ, Rels (ev1 P env H) σ D ρ → execOp ρ o = (do let x ← s; pure (.value x))) : ResC P env H o c r .p := by
  obtain ⟨v, h1, ha, h2⟩ := pureK_inv h
  refine ⟨v, h2, fun σ D w ρ hr => ⟨v, ?_, .of_atomV ha⟩⟩
  rw [hs σ D ρ hr]
  exact run_v (prun_sound h1)
theorem cellsL_eq (v : Value) : v.cells = (cellsL v).toArray := by
  unfold Value.cells cellsL
  cases v <;> rfl
theorem VR.cells {σ : Ren} {D : Dom} {v v' : Value} (h : VR σ D v v') : VRs σ D (cellsL v) (cellsL v') := by
  cases h with
  | agg l l' hl => exact hl
  | bool b => exact .cons _ _ _ _ (.bool b) .nil
  | int k n => exact .cons _ _ _ _ (.int k n) .nil
  | float k n => exact .cons _ _ _ _ (.float k n) .nil
  | complex k n m => exact .cons _ _ _ _ (.complex k n m) .nil
  | string s => exact .cons _ _ _ _ (.string s) .nil
  | nilptr => exact .cons _ _ _ _ .nilptr .nil
  | ptr a x h hs => exact .cons _ _ _ _ (.ptr a x h hs) .nil
  | nilslice n c => exact .cons _ _ _ _ (.nilslice n c) .nil
  | slice a n c x h hs => exact .cons _ _ _ _ (.slice a n c x h hs) .nil
  | sliceo a n c c' sz e h hs he hc hle => exact .cons _ _ _ _ (.sliceo a n c c' sz e h hs he hc hle) .nil
  | emptyU b o s a' c' => exact .cons _ _ _ _ (.emptyU b o s a' c') .nil
  | nilmap => exact .cons _ _ _ _ .nilmap .nil
  | mapv b x h => exact .cons _ _ _ _ (.mapv b x h) .nil
  | nilchan => exact .cons _ _ _ _ .nilchan .nil
  | nilFunc => exact .cons _ _ _ _ .nilFunc .nil
  | nilIface => exact .cons _ _ _ _ .nilIface .nil
  | func fn f f' c c' h1 h2 => exact .cons _ _ _ _ (.func fn f f' c c' h1 h2) .nil
  | iface t v v' h => exact .cons _ _ _ _ (.iface t v v' h) .nil
  | tuple l l' h => exact .cons _ _ _ _ (.tuple l l' h) .nil
theorem ones_vr {σ : Ren} {D : Dom} : ∀ {l l' : List Value}, VRs σ D l l' → ones l = true → ∀ v ∈ l', v.oneCell' = true
  | [], _, h, _ => by cases h; simp
  | v :: l, _, h, ho => by
    cases h with
    | cons _ v' _ l' h1 h2 =>
      unfold ones at ho
      split at ho
      · rename_i hv
        intro u hu
        rcases List.mem_cons.1 hu with rfl | hu
        · cases h1 <;> first | rfl | (cases hv; done)
        · exact ones_vr h2 ho u hu
      · cases ho
theorem run_zero {t : TypeId} {z : Value} (h : zeroB P t = some z) (w : World) : (zeroValue t).run P w = .ok z w := by
  unfold zeroB at h
  rw [Option.bind_eq_some_iff] at h
  obtain ⟨i, h1, h2⟩ := h
  simp [zeroValue, typeInfo, h1, h2]
theorem run_size {t : TypeId} {n : Nat} (h : sizeB P t = some n) (w : World) : (sizeOf t).run P w = .ok n w := by
  unfold sizeB at h
  rw [Option.map_eq_some_iff] at h
  obtain ⟨i, h1, h2⟩ := h
  simp [sizeOf, typeInfo, h1, h2]
theorem run_isAgg {t : TypeId} {b : Bool} (h : isAggB P t = some b) (w : World) : (isAgg t).run P w = .ok b w := by
  unfold isAggB at h
  split at h
  · rename_i fs hu; obtain rfl := Option.some.inj h; simp [isAgg, run_underlying hu]
  · rename_i n e hu; obtain rfl := Option.some.inj h; simp [isAgg, run_underlying hu]
  · rename_i d h1 h2 hu
    obtain rfl := Option.some.inj h
    cases d <;> first | (exact (h1 _ rfl).elim) | (exact (h2 _ _ rfl).elim) | simp [isAgg, run_underlying hu]
  · cases h
theorem add_addr (a : Addr) (n : Nat) (hs : a.spot = none) : a.add n = ⟨a.block, a.off + n, none⟩ := by
  unfold Addr.add
  split
  · rename_i e; subst e; cases a; simp_all
  · simp
theorem VR.ptr_inv {σ : Ren} {D : Dom} {b off : Nat} {u : Value} (h : VR σ D (.pointer (some ⟨b, off, none⟩)) u) : D b ≠ none ∧ u = .pointer (some ⟨σ.blk b, σ.sh b + off, none⟩) := by
  cases h with
  | ptr a x h hs => exact ⟨fun e => (by rw [show (⟨b, off, none⟩ : Addr).block = b from rfl, e] at h; cases h), rfl⟩

/-! ### Operations that only reckon -/
theorem good_move {x : Operand} (hop : o.op = .move x ∨ o.op = .assign x) (h : moveK P env H x c = some r) : ResC P env H o c r .p := by
  unfold moveK at h
  split at h
  · rename_i v hv
    refine ⟨v, h, fun σ D w ρ hr => ⟨ρ x, ?_, hr x v hv⟩⟩
    rcases hop with hop | hop <;> (simp only [execOp, hop]; rfl)
  · cases h
theorem good_pick {b x y : Operand} (hop : o.op = .pick b x y) (h : pickK P env H b x y c = some r) : ResC P env H o c r .p := by
  unfold pickK at h
  split at h
  · rename_i hb
    unfold moveK at h
    split at h
    · rename_i v hv
      refine ⟨v, h, fun σ D w ρ hr => ⟨ρ x, ?_, hr x v hv⟩⟩
      have hbv := hr b _ hb
      cases hρ : ρ b with
      | bool t => rw [hρ] at hbv; cases hbv; simp [execOp, hop, hρ, asBool]
      | _ => rw [hρ] at hbv; cases hbv
    · cases h
  · rename_i hb
    unfold moveK at h
    split at h
    · rename_i v hv
      refine ⟨v, h, fun σ D w ρ hr => ⟨ρ y, ?_, hr y v hv⟩⟩
      have hbv := hr b _ hb
      cases hρ : ρ b with
      | bool t => rw [hρ] at hbv; cases hbv; simp [execOp, hop, hρ, asBool]
      | _ => rw [hρ] at hbv; cases hbv
    · cases h
  · cases h
theorem good_nilCheck {x : Operand} (hop : o.op = .nilCheck x) (h : nilCheckK P env H x c = some r) : ResC P env H o c r .p := by
  unfold nilCheckK at h
  split at h
  · rename_i a ha
    refine ⟨_, h, fun σ D w ρ hr => ⟨ρ x, ?_, hr x _ ha⟩⟩
    have hv := hr x _ ha
    cases hρ : ρ x with
    | pointer b => rw [hρ] at hv; cases hv with | ptr a y h hs => simp [execOp, hop, hρ]
    | _ => rw [hρ] at hv; cases hv
  · rename_i g f d ha
    refine ⟨_, h, fun σ D w ρ hr => ⟨ρ x, ?_, hr x _ ha⟩⟩
    have hv := hr x _ ha
    cases hρ : ρ x with
    | func fn f c => rw [hρ] at hv; cases hv with | func fn f f' c c' h1 h2 => simp [execOp, hop, hρ]
    | _ => rw [hρ] at hv; cases hv
  · cases h
theorem good_un {op : UnOp} {T : TypeId} {x : Operand} (hop : o.op = .unOp op T x) (h : unK P env H op x c = some r) : ResC P env H o c r .p := by
  unfold unK at h
  split at h
  · rename_i a ha
    split at h
    · rename_i hat
      exact res_pure h fun σ D ρ hr => by simp only [execOp, hop, show ρ x = a from (hr x a ha).atomV hat]
    · cases h
  · cases h
theorem good_extract {x : Operand} {i : Nat} (hop : o.op = .extract x i) (h : extractK P env H x i c = some r) : ResC P env H o c r .p := by
  unfold extractK at h
  split at h
  · rename_i l hl
    split at h
    · rename_i v hv
      rw [nth_eq] at hv
      refine ⟨v, h, fun σ D w ρ hr => ?_⟩
      have hx := hr x _ hl
      cases hρ : ρ x with
      | tuple m =>
        rw [hρ] at hx
        cases hx with
        | tuple l l' hll =>
          obtain ⟨v', h1, h2⟩ := hll.get hv
          exact ⟨v', by simp [execOp, hop, hρ, Instr.extract, h1], h2⟩
      | _ => rw [hρ] at hx; cases hx
    · cases h
  · cases h
end
end Go.Proofs.YtdcbnkimjhefkaaGreatDoor

namespace Go.Proofs.YtdcbnkimjhefkaaGreatDoor
section
variable {P : Program} {env : Env} {H : AH} {β : Type} {o : Oper} {c : Value → AH → Option β} {r : β}
theorem ile_eq (x y : Int) : ile x y = decide (x ≤ y) := by
  rw [Bool.eq_iff_iff, decide_eq_true_iff]
  cases x <;> cases y <;> simp only [ile, Nat.ble_eq, Int.ofNat_eq_natCast, Bool.false_eq_true, true_iff, false_iff] <;> omega
theorem ieq_eq (x y : Int) : ieq x y = (x == y) := by
  rw [Bool.eq_iff_iff, beq_iff_eq]
  cases x <;> cases y <;> simp only [ieq, Nat.beq_eq, Int.ofNat_eq_natCast, Bool.false_eq_true, false_iff] <;> omega
theorem wrapF_eq (k : IntKind) (n : Int) : wrapF k n = k.wrap n := by
  unfold wrapF
  split
  · split
    · rename_i m
      split
      · rename_i hb
        have : m < 9223372036854775808 := Nat.le_of_ble_eq_true hb
        exact (IntWalk.i64_in _ (by constructor <;> simp <;> omega)).symm
      · rfl
    · rename_i m
      split
      · rename_i hb
        have : m < 9223372036854775808 := Nat.le_of_ble_eq_true hb
        exact (IntWalk.i64_in _ (by omega)).symm
      · rfl
  · rfl
theorem boolK_eq (b : Bool) (H : AH) (c : Value → AH → Option β) : boolK b H c = c (.bool b) H := by cases b <;> rfl
theorem beqL_eq : ∀ (x y : List UInt8), beqL x y = (x == y)
  | [], [] => rfl
  | [], _ :: _ => rfl
  | _ :: _, [] => rfl
  | a :: l, b :: r => by
    unfold beqL
    have ih := beqL_eq l r
    split
    · rename_i h
      have h1 : a.toNat = b.toNat := Nat.eq_of_beq_eq_true h
      have h2 : a = b := UInt8.toNat_inj.1 h1
      rw [ih, h2]
      simp
    · rename_i h
      symm
      rw [beq_eq_false_iff_ne]
      intro e
      rw [List.cons.injEq] at e
      rw [e.1] at h
      simp at h
theorem binop_int_good {op : BinOp} {t T : TypeId} {x y : Operand} (hop : o.op = .binOp op t x y T) {a b : Value} (ha : ev1 P env H x = some a) (hb : ev1 P env H y = some b) (hat : atomV a = true) (hbt : atomV b = true) {v : Value} (hc : c v H = some r) (hv : atomV v = true)
    (h : ∀ w, (do eqGuard op t x y a b; binOp op t a b : Sem Value).run P w = .ok v w) : ResC P env H o c r .p := by
  refine ⟨v, hc, fun σ D w ρ hr => ⟨v, ?_, .of_atomV hv⟩⟩
  simp only [execOp, hop, show ρ x = a from (hr x a ha).atomV hat, show ρ y = b from (hr y b hb).atomV hbt]
  exact run_v (h w)
theorem not_ile (x y : Int) : (!decide (x ≤ y)) = decide (y < x) := by
  rw [Bool.eq_iff_iff]
  simp
theorem good_intB {op : BinOp} {t T : TypeId} {x y : Operand} (hop : o.op = .binOp op t x y T) {k k' : IntKind} {m n : Int} (ha : ev1 P env H x = some (.int k m)) (hb : ev1 P env H y = some (.int k' n)) (h : intBK P op t k k' m n H c = some r) : ResC P env H o c r .p := by
  have hg : ∀ w, (eqGuard op t x y (.int k m) (.int k' n)).run P w = .ok () w := fun w => by unfold eqGuard; simp
  unfold intBK at h
  split at h
  all_goals first
    | (split at h
       · rename_i hk
         have hk' : k = k' := by simpa using hk
         subst hk'
         simp only [boolK_eq, intK_eq, ile_eq, ieq_eq, wrapF_eq, not_ile] at h
         refine binop_int_good hop ha hb rfl rfl h rfl fun w => ?_
         simp [hg, binOp, Op.intArith, Op.intCmp, bne]
       · cases h)
    | skip
  obtain ⟨v, h1, h2, h3⟩ := pureK_inv h
  refine binop_int_good hop ha hb rfl rfl h3 h2 fun w => ?_
  simp [hg, prun_sound h1]
theorem toList_data (s : ByteArray) : s.toList = s.data.toList := ByteArray.toList_eq s
theorem good_strB {op : BinOp} {t T : TypeId} {x y : Operand} (hop : o.op = .binOp op t x y T) {m n : ByteArray} (ha : ev1 P env H x = some (.string m)) (hb : ev1 P env H y = some (.string n)) (h : strBK P op t m n H c = some r) : ResC P env H o c r .p := by
  have hg : ∀ w, (eqGuard op t x y (.string m) (.string n)).run P w = .ok () w := fun w => by unfold eqGuard; simp
  unfold strBK at h
  split at h
  · rw [boolK_eq] at h
    refine binop_int_good hop ha hb rfl rfl h rfl fun w => ?_
    simp [hg, binOp, Op.stringOp, beqL_eq, toList_data]
  · rw [boolK_eq] at h
    refine binop_int_good hop ha hb rfl rfl h rfl fun w => ?_
    simp [hg, binOp, Op.stringOp, beqL_eq, toList_data]
  · obtain ⟨v, h1, h2, h3⟩ := pureK_inv h
    refine binop_int_good hop ha hb rfl rfl h3 h2 fun w => ?_
    simp [hg, prun_sound h1]
theorem eqNil_good {t : TypeId} {x y : Operand} {a b : Value} {q : Bool} (h : eqNil (P.underlying t) a b = some q) {op : BinOp} (σ : Ren) (D : Dom) (a' b' : Value) (ha : VR σ D a a') (hb : VR σ D b b') (w : World) :
    (eqGuard op t x y a' b').run P w = .ok () w ∧ (Op.equal t a' b').run P w = .ok q w ∧ binOp .eql t a' b' = (do pure (.bool (← Op.equal t a' b'))) ∧ binOp .neq t a' b' = (do pure (.bool (!(← Op.equal t a' b')))) := by
  unfold eqNil at h
  split at h
  all_goals first
    | (cases h; done)
    | (rename_i hu
       obtain rfl := Option.some.inj h
       cases ha <;> cases hb <;> refine ⟨by unfold eqGuard; simp, ?_, rfl, rfl⟩ <;> (show (Op.equalIn (9999 + 1) t _ _).run P w = _; unfold Op.equalIn; simp [run_underlying hu]))
theorem good_bin {op : BinOp} {t T : TypeId} {x y : Operand} (hop : o.op = .binOp op t x y T) (h : binK P env H op t x y c = some r) : ResC P env H o c r .p := by
  unfold binK at h
  split at h
  · rename_i a b ha hb
    unfold eqK at h
    split at h
    · exact good_intB hop ha hb h
    · exact good_strB hop ha hb h
    · split at h
      · rename_i hat
        rw [Bool.and_eq_true] at hat
        obtain ⟨v, h1, h2, h3⟩ := pureK_inv h
        exact binop_int_good hop ha hb hat.1 hat.2 h3 h2 fun w => prun_sound h1
      · split at h
        · rename_i q hq
          rw [boolK_eq] at h
          refine ⟨_, h, fun σ D w ρ hr => ⟨_, ?_, .bool _⟩⟩
          obtain ⟨g1, g2, g3, g4⟩ := eqNil_good (op := .eql) (x := x) (y := y) hq σ D _ _ (hr x a ha) (hr y b hb) w
          simp only [execOp, hop]
          refine run_v ?_
          simp [g1, g2, g3]
        · rename_i q hq
          rw [boolK_eq] at h
          refine ⟨_, h, fun σ D w ρ hr => ⟨_, ?_, .bool _⟩⟩
          obtain ⟨g1, g2, g3, g4⟩ := eqNil_good (op := .neq) (x := x) (y := y) hq σ D _ _ (hr x a ha) (hr y b hb) w
          simp only [execOp, hop]
          refine run_v ?_
          simp [g1, g2, g4]
        · cases h
  · cases h
/-! ### Places and parts -/
theorem good_fieldAddr {t : TypeId} {x : Operand} {f : Nat} (hop : o.op = .fieldAddr t x f) (h : fieldAddrK P env H t x f c = some r) : ResC P env H o c r .p := by
  unfold fieldAddrK at h
  split at h
  · rename_i b off d hx hd
    rw [natK_eq] at h
    unfold fieldK at hd
    split at hd
    · rename_i fs hu
      split at hd
      · rename_i fd hf
        split at hd
        · rename_i n hn
          obtain rfl := Option.some.inj hd
          refine ⟨_, h, fun σ D w ρ hr => ⟨.pointer (some ⟨σ.blk b, σ.sh b + (off + fd.offset), none⟩), ?_, ?_⟩⟩
          · obtain ⟨_, hv⟩ := (hr x _ hx).ptr_inv
            simp [execOp, hop, hv, Instr.fieldAt, run_underlying hu, hf, Instr.sureAddr, fieldPlace, run_size hn, add_addr, Nat.add_assoc]
          · have hv := hr x _ hx
            generalize ρ x = u at hv
            cases hv with
            | ptr a y h hs => exact .ptr ⟨b, off + fd.offset, none⟩ y h rfl
        · cases hd
      · cases hd
    · cases hd
  · cases h
theorem aggK_inv {t : TypeId} {cs : List Value} {off : Nat} (h : aggK P t cs off H c = some r) : ∃ v, c v H = some r ∧ ∀ σ D (cs' : List Value) w, VRs σ D cs cs' → ∃ v', (part t ⟨cs'⟩ off).run P w = .ok v' w ∧ VR σ D v v' := by
  unfold aggK at h
  split at h
  · rename_i n h1 h2
    obtain ⟨h3, h4⟩ := rowK_inv h
    refine ⟨_, h4, fun σ D cs' w hv => ⟨.agg ⟨(cs'.drop off).take n⟩, ?_, .agg _ _ ?_⟩⟩
    · have he : (⟨cs'⟩ : Array Value).extract off (off + n) = ⟨(cs'.drop off).take n⟩ := by
        apply Array.ext'
        simp
      simp [part, run_isAgg h1, run_size h2]
    · refine VRs.of_get (by simp [hv.length]) fun j v hj => ?_
      rw [List.getElem?_take] at hj ⊢
      split at hj
      · rename_i hlt
        rw [if_pos hlt]
        rw [List.getElem?_drop] at hj ⊢
        exact hv.get hj
      · cases hj
  · rename_i h1
    split at h
    · rename_i v hv
      rw [nth_eq] at hv
      refine ⟨v, h, fun σ D cs' w hvs => ?_⟩
      obtain ⟨v', g1, g2⟩ := hvs.get hv
      exact ⟨v', by simp [part, run_isAgg h1, g1], g2⟩
    · cases h
  · cases h
theorem good_field {t : TypeId} {x : Operand} {f : Nat} (hop : o.op = .field t x f) (h : field1K P env H t x f c = some r) : ResC P env H o c r .p := by
  unfold field1K at h
  split at h
  · rename_i cs fs hx hu
    split at h
    · rename_i fd hf
      obtain ⟨v, h1, h2⟩ := aggK_inv h
      refine ⟨v, h1, fun σ D w ρ hr => ?_⟩
      have hv := hr x _ hx
      cases hρ : ρ x with
      | agg m =>
        rw [hρ] at hv
        cases hv with
        | agg l l' hl =>
          obtain ⟨v', g1, g2⟩ := h2 σ D l' w hl
          exact ⟨v', by simp [execOp, hop, hρ, Instr.field, run_underlying hu, hf, asAgg, g1], g2⟩
      | _ => rw [hρ] at hv; cases hv
    · cases h
  · cases h
end
end Go.Proofs.YtdcbnkimjhefkaaGreatDoor

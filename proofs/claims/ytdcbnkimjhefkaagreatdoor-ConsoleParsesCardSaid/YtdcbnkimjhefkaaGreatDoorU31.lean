/-
  paygen's Damage: some text, and a deck as good as before.
-/
import Derived.Test.YtdcbnkimjhefkaaGreatDoorU30
import Derived.Test.YtdcbnkimjhefkaaGreatDoorU25
import Derived.Laws.BytesArg
namespace Go.Proofs.YtdcbnkimjhefkaaGreatDoor
open Go.RowKit
set_option maxRecDepth 100000
theorem ex_hi (l : List UInt8) (a : Nat) : ByteArray.extract ⟨⟨l⟩⟩ 0 a = ⟨⟨l.take a⟩⟩ := ba_extract l 0 a
theorem ex_lo (l : List UInt8) (a : Nat) : ByteArray.extract ⟨⟨l⟩⟩ a l.length = ⟨⟨l.drop a⟩⟩ := (ba_extract l a l.length).trans (by rw [take_rest])
section
variable {P : Program} {o : Oper} {ρ : Operand → Value} {w : World}
theorem exec_hiS {t : TypeId} {x h : Operand} {s : List UInt8} {a : Nat} (hop : o.op = .slice t x none (some h) none) (hu : P.underlying t = some .string) (hx : ρ x = .string ⟨⟨s⟩⟩) (hh : ρ h = .int .i64 (a : Nat)) (ha : a ≤ s.length) : (execOp ρ o).run P w = .ok (.value (.string ⟨⟨s.take a⟩⟩)) w := by
  have h1 : ¬ (s.length : Int) < (a : Int) := by omega
  have hsz : (⟨⟨s⟩⟩ : ByteArray).size = s.length := rfl
  rw [← ex_hi s a]
  simp [execOp, hop, hx, hh, Instr.sliceAt, Instr.slice, run_underlying hu, Instr.sliceBounds, Instr.sliceBound, asIntOf, hsz, ha]
theorem exec_loS {t : TypeId} {x h : Operand} {s : List UInt8} {a : Nat} (hop : o.op = .slice t x (some h) none none) (hu : P.underlying t = some .string) (hx : ρ x = .string ⟨⟨s⟩⟩) (hh : ρ h = .int .i64 (a : Nat)) (ha : a ≤ s.length) : (execOp ρ o).run P w = .ok (.value (.string ⟨⟨s.drop a⟩⟩)) w := by
  have h1 : ¬ (s.length : Int) < (a : Int) := by omega
  have hsz : (⟨⟨s⟩⟩ : ByteArray).size = s.length := rfl
  rw [← ex_lo s a]
  simp [execOp, hop, hx, hh, Instr.sliceAt, Instr.slice, run_underlying hu, Instr.sliceBounds, Instr.sliceBound, asIntOf, hsz, ha]
theorem exec_addS {T T' : TypeId} {x y : Operand} {a b : List UInt8} (hop : o.op = .binOp .add T x y T') (hx : ρ x = .string ⟨⟨a⟩⟩) (hy : ρ y = .string ⟨⟨b⟩⟩) (hs : a.length + b.length ≤ 9000000000000000000) : (execOp ρ o).run P w = .ok (.value (.string ⟨⟨a ++ b⟩⟩)) w := by
  have e : (⟨⟨a⟩⟩ ++ ⟨⟨b⟩⟩ : ByteArray) = ⟨⟨a ++ b⟩⟩ := ba_append a b
  rw [← e]
  refine exec_add hop hx hy ?_
  have h1 : (⟨⟨a⟩⟩ : ByteArray).size = a.length := rfl
  have h2 : (⟨⟨b⟩⟩ : ByteArray).size = b.length := rfl
  rw [h1, h2]
  have : IntKind.i64.max = 9223372036854775807 := rfl
  omega
end
def isSliceO : Op → Bool
  | .slice _ _ _ _ _ => true
  | _ => false
noncomputable def codeDm : Code := Tryz.f16.body.getD .skip
noncomputable def tDm0 : List Item := advT (cntO isEqlO 90 [.code codeDm]) [.code codeDm]
noncomputable def tDm1 : List Item := advT 60 (popOp tDm0)
noncomputable def tDm2 : List Item := advT 60 (elseT tDm1)
noncomputable def tDm3 : List Item := advT 60 (popOp tDm2)
noncomputable def tDm4 : List Item := advT 60 (popOp tDm3)
noncomputable def tDa : List Item := advT (cntO isSliceO 90 (thenT tDm4)) (thenT tDm4)
noncomputable def tDm5 : List Item := advT 60 (elseT tDm4)
noncomputable def tDb : List Item := advT 60 (thenT tDm5)
noncomputable def tDm6 : List Item := advT 60 (elseT tDm5)
noncomputable def tDc : List Item := advT 60 (thenT tDm6)
noncomputable def tDm7 : List Item := advT 60 (elseT tDm6)
noncomputable def tDd : List Item := advT 60 (thenT tDm7)
def DmR (b : Nat) (ns : List Int) (lim : Nat) (s : List UInt8) (w0 : World) (e : Ending) (w : World) : Prop := ∃ t : List UInt8, t.length ≤ 2 * s.length + 4 ∧ e = .returned (.string ⟨⟨t⟩⟩) ∧ DK b ns lim w0 w
variable {b : Nat} {ns : List Int} {lim : Nat} {w0 w : World} {s : List UInt8} {k : Nat} {E : Nat → Value}
def saysSh (n : Nat) (vs : List Value) (_ : World) : Prop := ∃ x : List UInt8, x.length ≤ n ∧ vs = [.string ⟨⟨x⟩⟩]
def saysRo (b : Nat) (cs : List Value) (n : Nat) (vs : List Value) (w : World) : Prop := ∃ g, vs = [.slice (some ⟨g, 0, none⟩) n n] ∧ g ≠ b ∧ g < w.heap.size ∧ w.rangeAt g 0 cs
def saysRx (b : Nat) (cs : List Value) (n : Nat) (vs : List Value) (w : World) : Prop := ∃ g i, i < n ∧ vs = [.pointer (some ⟨g, 0 + i * 1, none⟩)] ∧ g ≠ b ∧ g < w.heap.size ∧ w.rangeAt g 0 cs
theorem But.range {u u' : World} {g : Nat} {cs : List Value} (he : But b u u') (hg : g ≠ b) (hl : g < u.heap.size) (h : u.rangeAt g 0 cs) : u'.rangeAt g 0 cs := fun j v hj => (World.cell?_of_block (he.block g hl hg)).trans (h j v hj)
theorem saysRo_keep {cs : List Value} {n : Nat} {vs : List Value} {u u' : World} (he : But b u u') (h : saysRo b cs n vs u) : saysRo b cs n vs u' := by
  obtain ⟨g, h1, h2, h3, h4⟩ := h
  exact ⟨g, h1, h2, Nat.lt_of_lt_of_le h3 he.size, he.range h2 h3 h4⟩
theorem saysRx_keep {cs : List Value} {n : Nat} {vs : List Value} {u u' : World} (he : But b u u') (h : saysRx b cs n vs u) : saysRx b cs n vs u' := by
  obtain ⟨g, i, h0, h1, h2, h3, h4⟩ := h
  exact ⟨g, i, h0, h1, h2, Nat.lt_of_lt_of_le h3 he.size, he.range h2 h3 h4⟩
def CDm (b : Nat) (ns : List Int) (lim : Nat) (w0 : World) (m : Nat) (w : World) : Prop := m ≤ 20 ∧ DK b ns (lim + (20 - m)) w0 w
theorem CDm.down (m : Nat) (w : World) (h : CDm b ns lim w0 (m + 1) w) : CDm b ns lim w0 m w := ⟨by have := h.1; omega, ⟨h.2.deck.more (by have := h.1; omega), h.2.but⟩⟩
theorem CDm.step {m : Nat} {u u' : World} (h : CDm b ns lim w0 (m + 1) u) (d : DK b ns (lim + (20 - (m + 1)) + 1) u u') : CDm b ns lim w0 m u' := by
  have := h.1
  have e : lim + (20 - (m + 1)) + 1 = lim + (20 - m) := by omega
  rw [e] at d
  exact ⟨by omega, h.2.next d⟩
theorem CDm.below {m : Nat} {u u' : World} (h : CDm b ns lim w0 (m + 1) u) (B : Below u.heap.size u u') : CDm b ns lim w0 m u' := CDm.down m u' ⟨h.1, h.2.below B⟩
section
variable {P : Program} {ops : Array Oper} {n : Nat} {W : Wr} {C : Nat → World → Prop} {Ext : World → World → Prop} {L : List Loc}
theorem partN_add {i x y ix iy na nb nc : Nat} {B : List Nat} (T T' : TypeId) (hdn : ∀ m w, C (m + 1) w → C m w) (hrf : ∀ w : World, Ext w w) (hop : (ops.getD i default).op = .binOp .add T (.tmp x) (.tmp y) T') 
    (ex : ∀ vals, evalVE n E W vals (.tmp x) = vals ix) (ey : ∀ vals, evalVE n E W vals (.tmp y) = vals iy)
    (h : ∀ (vals : Nat → Value) (w : World), heldBy B vals w L → saysSh na [vals ix] w ∧ saysSh nb [vals iy] w) (hs : na + nb ≤ nc) (hm : na + nb ≤ 9000000000000000000) : PartN P ops n E W C Ext L ⟨i, B, [i], saysSh nc⟩ := by
  refine ⟨fun _ _ _ _ h => h, fun m vals u hC hb => ?_⟩
  obtain ⟨⟨a, ha, ea⟩, ⟨c, hc, ec⟩⟩ := h vals u hb
  exact OpOk.value (exec_addS hop ((ex vals).trans (List.cons.inj ea).1) ((ey vals).trans (List.cons.inj ec).1) (by omega)) ⟨hdn m u hC, hrf u, a ++ c, by rw [List.length_append]; omega, by simp [upv]⟩
end
/-! a piece put in -/
noncomputable def opsDc : Array Oper := (curReg tDc).getD #[]
def WDc : Wr := [(32, 0), (33, 1), (34, 2), (35, 3), (36, 4), (37, 5), (38, 6), (39, 7), (40, 8), (41, 9), (42, 10), (43, 11), (44, 12), (4, 13)]
def dmL : List (List UInt8) := [[32], [10], [48], [49], [45], [101, 110, 100, 10]]
abbrev envD (b : Nat) (s : List UInt8) (k j : Nat) : List (Nat × Value) := [(0, pb b), (1, .string ⟨⟨s⟩⟩), (5, .int .i64 (k : Nat)), (14, .int .i64 (j : Nat))]
def LDc (b : Nat) (s : List UInt8) (k : Nat) : List Loc :=
  [pureL 0 [] (.string ⟨⟨s⟩⟩), pureL 1 [] (.int .i64 (k : Nat)), ⟨2, [0, 1], [2], saysSh s.length⟩, ⟨3, [], [3], saysRo b (strsM dmL) 6⟩, pureL 4 [] (pb b), ⟨5, [4], [5], saysLt 6⟩, ⟨6, [3, 5], [6], saysRx b (strsM dmL) 6⟩, ⟨7, [6], [7], saysSh 4⟩,
   ⟨8, [2, 7], [8], saysSh (s.length + 4)⟩, pureL 9 [] (.string ⟨⟨s⟩⟩), pureL 10 [] (.int .i64 (k : Nat)), ⟨11, [9, 10], [11], saysSh s.length⟩, ⟨12, [8, 11], [12], saysSh (2 * s.length + 4)⟩, ⟨13, [5, 12], [13], saysSh (2 * s.length + 4)⟩]
theorem okDc (b : Nat) (s : List UInt8) (k : Nat) : (locOk .any opsDc WDc (Array.replicate 14 false) 62 (LDc b s k) && bare opsDc (LDc b s k)) = true := by kernel_rfl
theorem partsDc {j : Nat} (hk : k ≤ s.length) (hs : s.length ≤ 70000) (hlim : lim ≤ 4611686018427370000) : PartsN Tryz.prog opsDc 62 (updL E (envD b s k j)) WDc (CDm b ns lim w0) (But b) (LDc b s k) (LDc b s k) := by
  refine ⟨partN_pure CDm.down (But.refl b) (fun _ _ _ _ _ => by kernel_rfl), partN_pure CDm.down (But.refl b) (fun _ _ _ _ _ => by kernel_rfl), ?_, ?_, partN_pure CDm.down (But.refl b) (fun _ _ _ _ _ => by kernel_rfl), ?_, ?_, ?_, ?_, partN_pure CDm.down (But.refl b) (fun _ _ _ _ _ => by kernel_rfl), partN_pure CDm.down (But.refl b) (fun _ _ _ _ _ => by kernel_rfl), ?_, ?_, ?_, trivial⟩
  · refine ⟨fun _ _ _ _ h => h, fun m vals u hC hb => ?_⟩
    obtain ⟨h0, h1, _⟩ := hb
    exact OpOk.value (exec_hiS (t := 9) (x := .tmp 32) (h := .tmp 33) (by kernel_rfl) Tryz.underlying9 ((by kernel_rfl : evalVE 62 (updL E (envD b s k j)) WDc vals (.tmp 32) = vals 0).trans (List.cons.inj h0).1) ((by kernel_rfl : evalVE 62 (updL E (envD b s k j)) WDc vals (.tmp 33) = vals 1).trans (List.cons.inj h1).1) hk) ⟨CDm.down m u hC, .refl _ _, _, by rw [List.length_take]; omega, rfl⟩
  · refine ⟨fun vs u u' he h => saysRo_keep he h, fun m vals u hC hb => ?_⟩
    refine OpOk.runs ⟨u.heap.size, [], (0, 0), []⟩ ⟨u.heap.size + 1, [⟨u.heap.size, 0, strsM dmL, 9, true⟩], (0, 0), []⟩ (.value (.slice (some ⟨u.heap.size, 0, none⟩) 6 6)) (.slice (some ⟨u.heap.size, 0, none⟩) 6 6) (by kernel_rfl) (.inl rfl) (lies_nil u) rfl fun u' hL hK => ?_
    have B : Below u.heap.size u u' := hK.below (Nat.le_refl _) (fun k hk => by cases hk)
    have g := own_good (hL.sat.good _ (List.mem_singleton.2 rfl))
    have := hC.2.lt
    exact ⟨hC.below B, .of_below B, ⟨_, rfl, by omega, heap_lt g, rangeAt_lit g 0 _ rfl⟩⟩
  · refine ⟨fun _ _ _ _ h => h, fun m vals u hC hb => ?_⟩
    obtain ⟨h1, _⟩ := hb
    have hm := hC.1
    refine OpOk.call (f := 32) [.tmp 36, .const (.int .i64 6)] (args := [pb b, .int .i64 6]) (ats := #[45, 3]) (by kernel_rfl) rfl ?_ (run_callable (by kernel_rfl) _ _) ?_
    · rw [show [.tmp 36, .const (.int .i64 6)].map (evalVE 62 (updL E (envD b s k j)) WDc vals) = [vals 4, .int .i64 6] by kernel_rfl, (List.cons.inj h1).1]
    · refine (dnext_any b ns _ 6 u hC.2.deck (by omega) (by omega) (by omega)).mono ?_
      rintro e u' ⟨k, hk, rfl, D⟩
      exact ⟨_, rfl, hC.step D, D.but, k, by omega, rfl⟩
  · refine ⟨fun vs u u' he h => saysRx_keep he h, fun m vals u hC hb => ?_⟩
    obtain ⟨h0, h2, _⟩ := hb
    obtain ⟨g, hv, hg3, hgl, hr⟩ := h0
    obtain ⟨k', hk', hkv⟩ := h2
    exact OpOk.value (exec_index (sz := 1) (cap := 6) 53 (.tmp 35) (.tmp 37) (by kernel_rfl) ((by kernel_rfl : evalVE 62 (updL E (envD b s k j)) WDc vals (.tmp 35) = vals 3).trans (List.cons.inj hv).1) ((by kernel_rfl : evalVE 62 (updL E (envD b s k j)) WDc vals (.tmp 37) = vals 5).trans (List.cons.inj hkv).1) hk' Tryz.underlying53 (by kernel_rfl)) ⟨CDm.down m u hC, .refl _ _, g, k', hk', rfl, hg3, hgl, hr⟩
  · refine ⟨fun _ _ _ _ h => h, fun m vals u hC hb => ?_⟩
    obtain ⟨h3, _⟩ := hb
    obtain ⟨g, i, hi, hv, hg3, hgl, hr⟩ := h3
    have hn : i < dmL.length := hi
    have hx := List.getElem_mem hn
    have hc : (strsM dmL)[i]? = some (.string ⟨⟨dmL[i]⟩⟩) := by simp [hn]
    have h4 : dmL[i].length ≤ 4 := by
      have hall : ∀ x ∈ dmL, x.length ≤ 4 := by decide
      exact hall _ hx
    generalize dmL[i] = x at hx hc h4
    exact OpOk.knownE [(38, 6, .pointer (some ⟨g, 0 + i * 1, none⟩))] (by kernel_rfl) ⟨(List.cons.inj hv).1, trivial⟩ (OpOk.reads ⟨0, [⟨g, 0 + i * 1, [.string ⟨⟨x⟩⟩], 0, false⟩], (0, 0), []⟩ (fun e he => by rw [List.mem_singleton.1 he]; exact ent_one hgl hr hc) (.string ⟨⟨x⟩⟩) (by kernel_rfl) (by kernel_rfl) ⟨CDm.down m u hC, .refl _ _, x, h4, rfl⟩)
  · exact partN_add (x := 34) (y := 39) 9 9 CDm.down (But.refl b) (by kernel_rfl) (fun vals => by kernel_rfl) (fun vals => by kernel_rfl) (fun vals w hb => ⟨hb.1, hb.2.1⟩) (Nat.le_refl _) (by omega)
  · refine ⟨fun _ _ _ _ h => h, fun m vals u hC hb => ?_⟩
    obtain ⟨h0, h1, _⟩ := hb
    exact OpOk.value (exec_loS (t := 9) (x := .tmp 41) (h := .tmp 42) (by kernel_rfl) Tryz.underlying9 ((by kernel_rfl : evalVE 62 (updL E (envD b s k j)) WDc vals (.tmp 41) = vals 9).trans (List.cons.inj h0).1) ((by kernel_rfl : evalVE 62 (updL E (envD b s k j)) WDc vals (.tmp 42) = vals 10).trans (List.cons.inj h1).1) hk) ⟨CDm.down m u hC, .refl _ _, _, by rw [List.length_drop]; omega, rfl⟩
  · exact partN_add (x := 40) (y := 43) 9 9 CDm.down (But.refl b) (by kernel_rfl) (fun vals => by kernel_rfl) (fun vals => by kernel_rfl) (fun vals w hb => ⟨hb.1, hb.2.1⟩) (by omega) (by omega)
  · refine ⟨fun _ _ _ _ h => h, fun m vals u hC hb => ?_⟩
    obtain ⟨_, ⟨x, hx, ex⟩, _⟩ := hb
    exact OpOk.value (v := vals 12) (by kernel_rfl) ⟨CDm.down m u hC, .refl _ _, x, hx, ex⟩
theorem dm_put {j : Nat} (D : DK b ns lim w0 w) (hk : k ≤ s.length) (hs : s.length ≤ 70000) (hlim : lim ≤ 4611686018427370000) :
    At Tryz.prog 16 (DmR b ns (lim + 20) s w0) tDc (Fr 62 (updL E (envD b s k j))) w := by
  refine at_draw opsDc (by kernel_rfl) (by kernel_rfl) 14 (by kernel_rfl) ?_
  refine any_partsN (fuel := 0) (L := LDc b s k) (W := WDc) (C := CDm b ns lim w0) (Ext := But b) (okDc b s k) ⟨(by decide : (14 : Nat) ≤ 20), by
    have h := D.below (Below.refl _ _).drew
    exact ⟨h.deck.more (by omega), h.but⟩⟩ CDm.down (But.refl b) (fun _ _ _ => But.trans) (partsDc hk hs hlim) rfl ?_
  intro vals u hC _ hall
  obtain ⟨_, _, _, _, _, _, _, _, _, _, _, _, _, ⟨x, hx, ex⟩, _⟩ := hall
  have r14 : Region.ready .any opsDc (((LDc b s k).map (·.idx)).foldl (fun b i => b.setIfInBounds i true) (Array.replicate 14 false)) = [] := by kernel_rfl
  have qs : [(4, vals 13)].map (fun p => finE opsDc vals ((LDc b s k).map (·.idx)) (updL E (envD b s k j)) p.1) = [(4, vals 13)].map (·.2) := by kernel_rfl
  generalize ((LDc b s k).map (·.idx)).foldl (fun b i => b.setIfInBounds i true) (Array.replicate 14 false) = lst at *
  generalize finE opsDc vals ((LDc b s k).map (·.idx)) (updL E (envD b s k j)) = E8 at *
  rw [← updL_same qs, show vals 13 = .string ⟨⟨x⟩⟩ from (List.cons.inj ex).1]
  refine any_end r14 ⟨rfl, At.mid ?_⟩
  exact at_endT (fn := Tryz.f16) 60 (.string ⟨⟨x⟩⟩) (by kernel_rfl) (by kernel_rfl) fun w5 B5 => ⟨x, hx, rfl, hC.2.below B5⟩
/-! a byte changed -/
noncomputable def opsDd : Array Oper := (curReg tDd).getD #[]
def WDd : Wr := [(47, 0), (48, 1), (49, 2), (50, 3), (51, 4), (52, 5), (53, 6), (54, 7), (55, 8), (56, 9), (57, 10), (58, 11), (59, 12), (60, 13), (4, 14)]
def saysBy (vs : List Value) (_ : World) : Prop := ∃ x : Int, vs = [.int .u8 x]
def saysRB (b : Nat) (vs : List Value) (w : World) : Prop := ∃ g x, vs = [.slice (some ⟨g, 0, none⟩) 1 1] ∧ g ≠ b ∧ g < w.heap.size ∧ w.rangeAt g 0 [.int .u8 x]
theorem saysRB_keep {vs : List Value} {u u' : World} (he : But b u u') (h : saysRB b vs u) : saysRB b vs u' := by
  obtain ⟨g, x, h1, h2, h3, h4⟩ := h
  exact ⟨g, x, h1, h2, Nat.lt_of_lt_of_le h3 he.size, he.range h2 h3 h4⟩
theorem exec_bytes {P : Program} {o : Oper} {ρ : Operand → Value} {w : World} {src dst e : TypeId} {x : Operand} {g : Nat} {y : Int} (hop : o.op = .convert src dst x) (hs : P.underlying src = some (.slice e)) (he : P.underlying e = some (.int .u8)) (hd : P.underlying dst = some .string) (hx : ρ x = .slice (some ⟨g, 0, none⟩) 1 1) (hr : w.rangeAt g 0 [.int .u8 y]) :
    (execOp ρ o).run P w = .ok (.value (.string ⟨⟨[UInt8.ofNat y.toNat]⟩⟩)) w := by
  have h := run_convert_bytes_arg (P := P) w src e hs he g 0 1 1 [y] rfl (fun i hi => by
    obtain rfl : i = 0 := by omega
    exact hr 0 _ rfl) dst hd
  have hh : strOfNums [y] = ⟨⟨[UInt8.ofNat y.toNat]⟩⟩ := rfl
  rw [hh] at h
  simp [execOp, hop, hx, h]
def LDd (b : Nat) (s : List UInt8) (k : Nat) : List Loc :=
  [pureL 0 [] (.string ⟨⟨s⟩⟩), pureL 1 [] (.int .i64 (k : Nat)), ⟨2, [0, 1], [2], saysSh s.length⟩, pureL 3 [] (pb b), ⟨4, [3], [4], saysLt 256⟩, ⟨5, [4], [5], saysBy⟩, ⟨6, [5], [6], saysRB b⟩, ⟨7, [6], [7], saysSh 1⟩,
   ⟨8, [2, 7], [8], saysSh (s.length + 1)⟩, pureL 9 [] (.string ⟨⟨s⟩⟩), pureL 10 [] (.int .i64 (k : Nat)), pureL 11 [10] (.int .i64 (IntKind.i64.wrap ((k : Int) + 1))), ⟨12, [9, 11], [12], saysSh s.length⟩, ⟨13, [8, 12], [13], saysSh (2 * s.length + 4)⟩, ⟨14, [4, 13], [14], saysSh (2 * s.length + 4)⟩]
theorem okDd (b : Nat) (s : List UInt8) (k : Nat) : (locOk .any opsDd WDd (Array.replicate 15 false) 62 (LDd b s k) && bare opsDd (LDd b s k)) = true := by kernel_rfl
theorem partsDd {j : Nat} (hk : k < s.length) (hs : s.length ≤ 70000) (hlim : lim ≤ 4611686018427370000) : PartsN Tryz.prog opsDd 62 (updL E (envD b s k j)) WDd (CDm b ns lim w0) (But b) (LDd b s k) (LDd b s k) := by
  refine ⟨partN_pure CDm.down (But.refl b) (fun _ _ _ _ _ => by kernel_rfl), partN_pure CDm.down (But.refl b) (fun _ _ _ _ _ => by kernel_rfl), ?_, partN_pure CDm.down (But.refl b) (fun _ _ _ _ _ => by kernel_rfl), ?_, ?_, ?_, ?_, ?_, partN_pure CDm.down (But.refl b) (fun _ _ _ _ _ => by kernel_rfl), partN_pure CDm.down (But.refl b) (fun _ _ _ _ _ => by kernel_rfl), ?_, ?_, ?_, ?_, trivial⟩
  · refine ⟨fun _ _ _ _ h => h, fun m vals u hC hb => ?_⟩
    obtain ⟨h0, h1, _⟩ := hb
    exact OpOk.value (exec_hiS (t := 9) (x := .tmp 47) (h := .tmp 48) (by kernel_rfl) Tryz.underlying9 ((by kernel_rfl : evalVE 62 (updL E (envD b s k j)) WDd vals (.tmp 47) = vals 0).trans (List.cons.inj h0).1) ((by kernel_rfl : evalVE 62 (updL E (envD b s k j)) WDd vals (.tmp 48) = vals 1).trans (List.cons.inj h1).1) (by omega)) ⟨CDm.down m u hC, .refl _ _, _, by rw [List.length_take]; omega, rfl⟩
  · refine ⟨fun _ _ _ _ h => h, fun m vals u hC hb => ?_⟩
    obtain ⟨h1, _⟩ := hb
    have hm := hC.1
    refine OpOk.call (f := 32) [.tmp 50, .const (.int .i64 256)] (args := [pb b, .int .i64 256]) (ats := #[45, 3]) (by kernel_rfl) rfl ?_ (run_callable (by kernel_rfl) _ _) ?_
    · rw [show [.tmp 50, .const (.int .i64 256)].map (evalVE 62 (updL E (envD b s k j)) WDd vals) = [vals 3, .int .i64 256] by kernel_rfl, (List.cons.inj h1).1]
    · refine (dnext_any b ns _ 256 u hC.2.deck (by omega) (by omega) (by omega)).mono ?_
      rintro e u' ⟨k, hk, rfl, D⟩
      exact ⟨_, rfl, hC.step D, D.but, k, by omega, rfl⟩
  · refine ⟨fun _ _ _ _ h => h, fun m vals u hC hb => ?_⟩
    obtain ⟨⟨k', hk', hkv⟩, _⟩ := hb
    exact OpOk.knownE [(51, 4, .int .i64 (k' : Nat))] (by kernel_rfl) ⟨(List.cons.inj hkv).1, trivial⟩ (OpOk.reads ⟨0, [], (0, 0), []⟩ (fun e he => by cases he) (.int .u8 (IntKind.u8.wrap (k' : Nat))) (by kernel_rfl) (by kernel_rfl) ⟨CDm.down m u hC, .refl _ _, _, rfl⟩)
  · refine ⟨fun vs u u' he h => saysRB_keep he h, fun m vals u hC hb => ?_⟩
    obtain ⟨⟨x, hx⟩, _⟩ := hb
    refine OpOk.knownE [(52, 5, .int .u8 x)] (by kernel_rfl) ⟨(List.cons.inj hx).1, trivial⟩ (OpOk.runs ⟨u.heap.size, [], (0, 0), []⟩ ⟨u.heap.size + 1, [⟨u.heap.size, 0, [.int .u8 x], 5, true⟩], (0, 0), []⟩ (.value (.slice (some ⟨u.heap.size, 0, none⟩) 1 1)) (.slice (some ⟨u.heap.size, 0, none⟩) 1 1) (by kernel_rfl) (.inl rfl) (lies_nil u) rfl fun u' hL hK => ?_)
    have B : Below u.heap.size u u' := hK.below (Nat.le_refl _) (fun k hk => by cases hk)
    have g := own_good (hL.sat.good _ (List.mem_singleton.2 rfl))
    have := hC.2.lt
    exact ⟨hC.below B, .of_below B, ⟨_, x, rfl, by omega, heap_lt g, rangeAt_lit g 0 _ rfl⟩⟩
  · refine ⟨fun _ _ _ _ h => h, fun m vals u hC hb => ?_⟩
    obtain ⟨⟨g, x, hv, hgb, hgl, hr⟩, _⟩ := hb
    exact OpOk.value (exec_bytes (src := 68) (dst := 9) (e := 5) (x := .tmp 53) (by kernel_rfl) Tryz.underlying68 Tryz.underlying5 Tryz.underlying9 ((by kernel_rfl : evalVE 62 (updL E (envD b s k j)) WDd vals (.tmp 53) = vals 6).trans (List.cons.inj hv).1) hr) ⟨CDm.down m u hC, .refl _ _, _, by simp, rfl⟩
  · exact partN_add (x := 49) (y := 54) 9 9 CDm.down (But.refl b) (by kernel_rfl) (fun vals => by kernel_rfl) (fun vals => by kernel_rfl) (fun vals w hb => ⟨hb.1, hb.2.1⟩) (Nat.le_refl _) (by omega)
  · refine ⟨fun _ _ _ _ h => h, fun m vals u hC hb => ?_⟩
    obtain ⟨h0, _⟩ := hb
    exact OpOk.knownE [(57, 10, .int .i64 (k : Nat))] (by kernel_rfl) ⟨(List.cons.inj h0).1, trivial⟩ (OpOk.reads ⟨0, [], (0, 0), []⟩ (fun e he => by cases he) (.int .i64 (IntKind.i64.wrap ((k : Int) + 1))) (by kernel_rfl) (by kernel_rfl) ⟨CDm.down m u hC, .refl _ _, rfl⟩)
  · refine ⟨fun _ _ _ _ h => h, fun m vals u hC hb => ?_⟩
    obtain ⟨h0, h1, _⟩ := hb
    have hwi : IntKind.i64.wrap ((k : Int) + 1) = ((k + 1 : Nat) : Int) := by rw [IntWalk.i64_in _ (by omega)]; omega
    exact OpOk.value (exec_loS (t := 9) (x := .tmp 56) (h := .tmp 58) (a := k + 1) (by kernel_rfl) Tryz.underlying9 ((by kernel_rfl : evalVE 62 (updL E (envD b s k j)) WDd vals (.tmp 56) = vals 9).trans (List.cons.inj h0).1) (((by kernel_rfl : evalVE 62 (updL E (envD b s k j)) WDd vals (.tmp 58) = vals 11).trans (List.cons.inj h1).1).trans (by rw [hwi])) hk) ⟨CDm.down m u hC, .refl _ _, _, by rw [List.length_drop]; omega, rfl⟩
  · exact partN_add (x := 55) (y := 59) 9 9 CDm.down (But.refl b) (by kernel_rfl) (fun vals => by kernel_rfl) (fun vals => by kernel_rfl) (fun vals w hb => ⟨hb.1, hb.2.1⟩) (by omega) (by omega)
  · refine ⟨fun _ _ _ _ h => h, fun m vals u hC hb => ?_⟩
    obtain ⟨_, ⟨x, hx, ex⟩, _⟩ := hb
    exact OpOk.value (v := vals 13) (by kernel_rfl) ⟨CDm.down m u hC, .refl _ _, x, hx, ex⟩
theorem dm_byte {j : Nat} (D : DK b ns lim w0 w) (hk : k < s.length) (hs : s.length ≤ 70000) (hlim : lim ≤ 4611686018427370000) :
    At Tryz.prog 16 (DmR b ns (lim + 20) s w0) tDd (Fr 62 (updL E (envD b s k j))) w := by
  refine at_draw opsDd (by kernel_rfl) (by kernel_rfl) 15 (by kernel_rfl) ?_
  refine any_partsN (fuel := 0) (L := LDd b s k) (W := WDd) (C := CDm b ns lim w0) (Ext := But b) (okDd b s k) ⟨(by decide : (15 : Nat) ≤ 20), by
    have h := D.below (Below.refl _ _).drew
    exact ⟨h.deck.more (by omega), h.but⟩⟩ CDm.down (But.refl b) (fun _ _ _ => But.trans) (partsDd hk hs hlim) rfl ?_
  intro vals u hC _ hall
  obtain ⟨_, _, _, _, _, _, _, _, _, _, _, _, _, _, ⟨x, hx, ex⟩, _⟩ := hall
  have r14 : Region.ready .any opsDd (((LDd b s k).map (·.idx)).foldl (fun b i => b.setIfInBounds i true) (Array.replicate 15 false)) = [] := by kernel_rfl
  have qs : [(4, vals 14)].map (fun p => finE opsDd vals ((LDd b s k).map (·.idx)) (updL E (envD b s k j)) p.1) = [(4, vals 14)].map (·.2) := by kernel_rfl
  generalize ((LDd b s k).map (·.idx)).foldl (fun b i => b.setIfInBounds i true) (Array.replicate 15 false) = lst at *
  generalize finE opsDd vals ((LDd b s k).map (·.idx)) (updL E (envD b s k j)) = E8 at *
  rw [← updL_same qs, show vals 14 = .string ⟨⟨x⟩⟩ from (List.cons.inj ex).1]
  refine any_end r14 ⟨rfl, At.mid ?_⟩
  exact at_endT (fn := Tryz.f16) 60 (.string ⟨⟨x⟩⟩) (by kernel_rfl) (by kernel_rfl) fun w5 B5 => ⟨x, hx, rfl, hC.2.below B5⟩
/-! a byte taken out -/
theorem dm_out {j : Nat} (D : DK b ns lim w0 w) (hk : k < s.length) (hs : s.length ≤ 70000) :
    At Tryz.prog 16 (DmR b ns lim s w0) tDb (Fr 62 (updL E (envD b s k j))) w := by
  have hwi : IntKind.i64.wrap ((k : Int) + 1) = ((k + 1 : Nat) : Int) := by rw [IntWalk.i64_in _ (by omega)]; omega
  have hl : (s.take k ++ s.drop (k + 1)).length ≤ 2 * s.length + 4 := by
    rw [List.length_append, List.length_take, List.length_drop]
    omega
  have hl2 : (s.take k).length + (s.drop (k + 1)).length ≤ 140000 := by
    rw [List.length_take, List.length_drop]
    omega
  generalize hx : s.take k = x at *
  generalize hy : s.drop (k + 1) = y at *
  refine at_ghostS ((curReg tDb).getD #[]) ⟨[], [], [⟨2, [(22, .string ⟨⟨s⟩⟩), (23, .int .i64 (k : Nat))], .string ⟨⟨x⟩⟩, true⟩, ⟨6, [(25, .string ⟨⟨s⟩⟩), (27, .int .i64 (IntKind.i64.wrap ((k : Int) + 1)))], .string ⟨⟨y⟩⟩, true⟩]⟩ [(4, .string (⟨⟨x⟩⟩ ++ ⟨⟨y⟩⟩))] (by kernel_rfl) (by kernel_rfl) (by kernel_rfl)
    (fun e he => by cases he) (fun sp hsp => ?_) (fun X => by kernel_rfl) (by kernel_rfl) [(⟨⟨x⟩⟩ : ByteArray).size + (⟨⟨y⟩⟩ : ByteArray).size] (by kernel_rfl) (fun z hz => ?_) fun w5 E5 b5 => ?_
  · simp only [List.mem_cons, List.not_mem_nil, or_false] at hsp
    rcases hsp with rfl | rfl
    · refine spec_op fun _ E w _ => ?_
      rw [← hx]
      exact exec_hiS (t := 9) (x := .tmp 22) (h := .tmp 23) (by kernel_rfl) Tryz.underlying9 (by kernel_rfl) (by kernel_rfl) (by omega)
    · refine spec_op fun _ E w _ => ?_
      rw [← hy]
      exact exec_loS (t := 9) (x := .tmp 25) (h := .tmp 27) (a := k + 1) (by kernel_rfl) Tryz.underlying9 (by kernel_rfl) ((by kernel_rfl : _ = Value.int .i64 (IntKind.i64.wrap ((k : Int) + 1))).trans (by rw [hwi])) hk
  · rw [List.mem_singleton.1 hz]
    have h1 : (⟨⟨x⟩⟩ : ByteArray).size = x.length := rfl
    have h2 : (⟨⟨y⟩⟩ : ByteArray).size = y.length := rfl
    have : IntKind.i64.max = 9223372036854775807 := rfl
    rw [h1, h2]
    omega
  · rw [show (⟨⟨x⟩⟩ ++ ⟨⟨y⟩⟩ : ByteArray) = ⟨⟨x ++ y⟩⟩ from ba_append x y]
    exact at_endT (fn := Tryz.f16) 60 (.string ⟨⟨x ++ y⟩⟩) (by kernel_rfl) (by kernel_rfl) fun w6 B6 => ⟨_, hl, rfl, (D.below b5).below B6⟩
theorem DmR.more {lim' : Nat} {e : Ending} (h : DmR b ns lim s w0 e w) (hl : lim ≤ lim') : DmR b ns lim' s w0 e w := by
  obtain ⟨t, h1, h2, h3⟩ := h
  exact ⟨t, h1, h2, h3.deck.more hl, h3.but⟩
theorem ddamage_any (b : Nat) (ns : List Int) (lim : Nat) (s : List UInt8) (w : World) (h : DeckOk b ns lim w) (hs : s.length ≤ 70000) (hlim : lim ≤ 4611686018427360000) :
    Calls Tryz.prog 16 #[pb b, .string ⟨⟨s⟩⟩] w (DmR b ns (lim + 22) s w) := by
  refine calls_at (args := [pb b, .string ⟨⟨s⟩⟩]) (fn := Tryz.f16) (c := codeDm) (n := 62) (by kernel_rfl) (by kernel_rfl) (by kernel_rfl) (by kernel_rfl) ?_
  refine at_run (cntO isEqlO 90 [.code codeDm]) [.code codeDm] w.heap.size [] [] tDm0 [(0, pb b), (1, .string ⟨⟨s⟩⟩), (6, .string ⟨⟨s⟩⟩)] w.heap.size [] (lies_nil w) (by kernel_rfl) fun w1 E1 hL1 hK1 => ?_
  have D1 := (DK.refl h).below (hK1.below (Nat.le_refl _) (fun k hk => by cases hk))
  refine at_eqs s [] (some 7) (by kernel_rfl) ?_
  refine at_run 60 (popOp tDm0) w1.heap.size [] [] tDm1 [(0, pb b), (1, .string ⟨⟨s⟩⟩), (7, .bool (decide (s = [])))] w1.heap.size [] (lies_nil w1) (by kernel_rfl) fun w2 E2 hL2 hK2 => ?_
  have D2 := D1.below (hK2.below (Nat.le_refl _) (fun k hk => by cases hk))
  refine at_cond (decide (s = [])) (by kernel_rfl) (fun _ => ?_) (fun hne => ?_)
  · refine at_endT (fn := Tryz.f16) 60 (.string ⟨⟨s⟩⟩) (by kernel_rfl) (by kernel_rfl) fun w3 B3 => ⟨s, by omega, rfl, ?_⟩
    have D3 := D2.below B3
    exact ⟨D3.deck.more (by omega), D3.but⟩
  have hne' : s ≠ [] := of_decide_eq_false hne
  have hpos : 1 ≤ s.length := by cases s with | nil => exact absurd rfl hne' | cons => simp
  refine at_run 60 (elseT tDm1) w2.heap.size [] [] tDm2 [(0, pb b), (1, .string ⟨⟨s⟩⟩), (9, pb b), (11, .int .i64 (s.length : Nat))] w2.heap.size [] (lies_nil w2) (by kernel_rfl) fun w3 E3 hL3 hK3 => ?_
  have D3 := D2.below (hK3.below (Nat.le_refl _) (fun k hk => by cases hk))
  refine next_at (n := s.length) (dst := some 12) (ops := [.tmp 9, .tmp 11]) D3.deck hpos (by omega) (by omega) (by kernel_rfl) (by kernel_rfl) fun k w4 hk d4 => ?_
  have D4 := D3.next d4
  refine at_run 60 (popOp tDm2) w4.heap.size [] [] tDm3 [(0, pb b), (1, .string ⟨⟨s⟩⟩), (5, .int .i64 (k : Nat)), (13, pb b)] w4.heap.size [] (lies_nil w4) (by kernel_rfl) fun w5 E5 hL5 hK5 => ?_
  have D5 := D4.below (hK5.below (Nat.le_refl _) (fun k hk => by cases hk))
  refine next_at (n := 5) (dst := some 14) (ops := [.tmp 13, .const (.int .i64 5)]) D5.deck (by omega) (by omega) (by omega) (by kernel_rfl) (by kernel_rfl) fun j w6 hj d6 => ?_
  have D6 := D5.next d6
  refine at_run 60 (popOp tDm3) w6.heap.size [] [] tDm4 (envD b s k j ++ [(15, .bool (decide ((j : Int) = 0)))]) w6.heap.size [] (lies_nil w6) (by kernel_rfl) fun w7 E7 hL7 hK7 => ?_
  have D7 := D6.below (hK7.below (Nat.le_refl _) (fun k hk => by cases hk))
  refine at_cond (decide ((j : Int) = 0)) (by kernel_rfl) (fun _ => ?_) (fun _ => ?_)
  · refine at_run (cntO isSliceO 90 (thenT tDm4)) (thenT tDm4) w7.heap.size [] [] tDa [(17, .string ⟨⟨s⟩⟩), (18, .int .i64 (k : Nat))] w7.heap.size [] (lies_nil w7) (by kernel_rfl) fun w8 E8 hL8 hK8 => ?_
    have D8 := D7.below (hK8.below (Nat.le_refl _) (fun k hk => by cases hk))
    refine at_op (opAt tDa) (by kernel_rfl) (v := .string ⟨⟨s.take k⟩⟩) (w' := w8) (exec_hiS (t := 9) (x := .tmp 17) (h := .tmp 18) (by kernel_rfl) Tryz.underlying9 (by kernel_rfl) (by kernel_rfl) (by omega)) ?_
    generalize hx : s.take k = x
    have hxl : x.length ≤ s.length := by rw [← hx, List.length_take]; omega
    refine at_endT (fn := Tryz.f16) 60 (.string ⟨⟨x⟩⟩) (by kernel_rfl) (by kernel_rfl) fun w9 B9 => ⟨x, by omega, rfl, ?_⟩
    have D9 := D8.below B9
    exact ⟨D9.deck.more (by omega), D9.but⟩
  refine at_run 60 (elseT tDm4) w7.heap.size [] [] tDm5 (envD b s k j ++ [(20, .bool (decide ((j : Int) = 1)))]) w7.heap.size [] (lies_nil w7) (by kernel_rfl) fun w8 E8 hL8 hK8 => ?_
  have D8 := D7.below (hK8.below (Nat.le_refl _) (fun k hk => by cases hk))
  refine at_cond (decide ((j : Int) = 1)) (by kernel_rfl) (fun _ => ?_) (fun _ => ?_)
  · refine at_run 60 (thenT tDm5) w8.heap.size [] [] tDb (envD b s k j) w8.heap.size [] (lies_nil w8) (by kernel_rfl) fun w9 E9 hL9 hK9 => ?_
    have D9 := D8.below (hK9.below (Nat.le_refl _) (fun k hk => by cases hk))
    exact (dm_out D9 hk hs).post fun e w' h => h.more (by omega)
  refine at_run 60 (elseT tDm5) w8.heap.size [] [] tDm6 (envD b s k j ++ [(30, .bool (decide ((j : Int) = 2)))]) w8.heap.size [] (lies_nil w8) (by kernel_rfl) fun w9 E9 hL9 hK9 => ?_
  have D9 := D8.below (hK9.below (Nat.le_refl _) (fun k hk => by cases hk))
  refine at_cond (decide ((j : Int) = 2)) (by kernel_rfl) (fun _ => ?_) (fun _ => ?_)
  · refine at_run 60 (thenT tDm6) w9.heap.size [] [] tDc (envD b s k j) w9.heap.size [] (lies_nil w9) (by kernel_rfl) fun w10 E10 hL10 hK10 => ?_
    have D10 := D9.below (hK10.below (Nat.le_refl _) (fun k hk => by cases hk))
    exact (dm_put D10 (by omega) hs (by omega)).post fun e w' h => h.more (by omega)
  refine at_run 60 (elseT tDm6) w9.heap.size [] [] tDm7 (envD b s k j ++ [(45, .bool (decide ((j : Int) = 3)))]) w9.heap.size [] (lies_nil w9) (by kernel_rfl) fun w10 E10 hL10 hK10 => ?_
  have D10 := D9.below (hK10.below (Nat.le_refl _) (fun k hk => by cases hk))
  refine at_cond (decide ((j : Int) = 3)) (by kernel_rfl) (fun _ => ?_) (fun _ => ?_)
  · refine at_run 60 (thenT tDm7) w10.heap.size [] [] tDd (envD b s k j) w10.heap.size [] (lies_nil w10) (by kernel_rfl) fun w11 E11 hL11 hK11 => ?_
    have D11 := D10.below (hK11.below (Nat.le_refl _) (fun k hk => by cases hk))
    exact (dm_byte D11 hk hs (by omega)).post fun e w' h => h.more (by omega)
  refine at_endT (fn := Tryz.f16) 60 (.string ⟨⟨s⟩⟩) (by kernel_rfl) (by kernel_rfl) fun w11 B11 => ⟨s, by omega, rfl, ?_⟩
  have D11 := D10.below B11
  exact ⟨D11.deck.more (by omega), D11.but⟩
end Go.Proofs.YtdcbnkimjhefkaaGreatDoor

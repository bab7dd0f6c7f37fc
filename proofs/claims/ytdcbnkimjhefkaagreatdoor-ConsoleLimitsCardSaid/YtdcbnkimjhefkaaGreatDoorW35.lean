/-
  The walk of ConsoleLimits.
-/
import Derived.Test.YtdcbnkimjhefkaaGreatDoorW34
namespace Go.Proofs.YtdcbnkimjhefkaaGreatDoor
open Go.RowKit
set_option maxRecDepth 100000
theorem strOf_bytes (l : List UInt8) : strOfNums (l.map fun b => (b.toNat : Int)) = ⟨⟨l⟩⟩ := by
  unfold strOfNums
  rw [List.map_map]
  have : (l.map ((fun n : Int => UInt8.ofNat n.toNat) ∘ fun b => (b.toNat : Int))) = l := by
    rw [show ((fun n : Int => UInt8.ofNat n.toNat) ∘ fun b : UInt8 => (b.toNat : Int)) = id from funext fun b => by simp]
    simp
  rw [this]
/-- A row of bytes of the call's own becomes a text. -/
theorem exec_bytesR {P : Program} {o : Oper} {ρ : Operand → Value} {w : World} {src dst e : TypeId} {x : Operand} {base : Nat} {v : Value} {l : List UInt8} (hop : o.op = .convert src dst x) (hs : P.underlying src = some (.slice e)) (he : P.underlying e = some (.int .u8)) (hd : P.underlying dst = some .string)
    (hx : ρ x = v) (hown : w.ownsRow base e 1 v l.length (Lib.strCells ⟨⟨l⟩⟩)) (hne : l ≠ []) : (execOp ρ o).run P w = .ok (.value (.string ⟨⟨l⟩⟩)) w := by
  obtain ⟨_, h⟩ := hown
  rcases h with ⟨_, h0⟩ | ⟨g, cap, cur, rfl, _, hgb, hnc, hcm, hcs, htake⟩
  · exact absurd (List.length_eq_zero_iff.1 h0) hne
  have h := run_convert_bytes_arg (P := P) w src e hs he g 0 l.length cap (l.map fun b => (b.toNat : Int)) (by rw [List.length_map]) (fun i hi => by
    unfold World.cell?
    simp only [hgb]
    have h2 : (Lib.strCells ⟨⟨l⟩⟩)[i]? = some (.int .u8 ((l.map fun b => (b.toNat : Int)).getD i 0)) := by
      show (l.map fun b => Value.int .u8 b.toNat)[i]? = _
      simp [List.getD, hi]
    rw [← htake, List.getElem?_take] at h2
    split at h2
    · rw [Array.getElem?_toList] at h2
      simpa using h2
    · cases h2) dst hd
  rw [strOf_bytes] at h
  simp [execOp, hop, hx, h]
theorem own_slice {w : World} {base : Nat} {e : TypeId} {size : Nat} {v : Value} {k : Nat} {xs : List Value} (h : w.ownsRow base e size v k xs) : ∃ A c, v = .slice A k c := by
  rcases h.2 with ⟨rfl, rfl⟩ | ⟨g, cap, cur, rfl, _⟩
  · exact ⟨none, 0, rfl⟩
  · exact ⟨_, _, rfl⟩
theorem amount_lim (w : World) : Calls Tryz.prog 22 #[.int .i64 65536] w fun e w' => e = .returned (.bool true) ∧ Below w.heap.size w w' := by
  refine calls_at (args := [.int .i64 65536]) (fn := Tryz.f22) (c := Tryz.f22.body.getD .skip) (n := 9) (by kernel_rfl) (by kernel_rfl) (by kernel_rfl) (by kernel_rfl) ?_
  refine at_run (cntG 90 [.code (Tryz.f22.body.getD .skip)]) [.code (Tryz.f22.body.getD .skip)] w.heap.size [] [] (advG [.code (Tryz.f22.body.getD .skip)]) [(0, .int .i64 65536)] w.heap.size [] (lies_nil w) (by kernel_rfl) fun w1 E1 hL1 hK1 => ?_
  have B1 : Below w.heap.size w w1 := hK1.below (Nat.le_refl _) (fun k hk => by cases hk)
  refine at_ghost ((curReg (advG [.code (Tryz.f22.body.getD .skip)])).getD #[]) ⟨[], [], []⟩ [(2, .bool true)] (by kernel_rfl) (by kernel_rfl) (by kernel_rfl) (fun e he => by cases he) (fun sp hsp => by cases hsp) (fun X => by kernel_rfl) (by kernel_rfl) fun w2 E2 b2 => ?_
  exact at_endT (fn := Tryz.f22) 60 (.bool true) (by kernel_rfl) (by kernel_rfl) fun w3 B3 => ⟨rfl, B1.trans ((b2.trans (B3.mono b2.size)).mono B1.size)⟩
noncomputable def codeLm : Code := Tryz.f7.body.getD .skip
noncomputable def tLm0 : List Item := advT 60 [.code codeLm]
noncomputable def tLm1 : List Item := advT 60 (popOp tLm0)
noncomputable def tLm2 : List Item := advT 60 (bodyT tLm1)
noncomputable def tLm3 : List Item := advT 60 (thenT tLm2)
noncomputable def tLm4 : List Item := advT 60 (elseT tLm2)
noncomputable def tLm5 : List Item := advT 60 (tailT tLm4)
noncomputable def tLm6 : List Item := advT 60 (popOp tLm5)
noncomputable def tLm7 : List Item := advG (thenT tLm6)
noncomputable def tLm8 : List Item := advT 60 (elseT tLm6)
noncomputable def tLm9 : List Item := advT 60 (popOp tLm8)
noncomputable def tLma : List Item := advT 60 (popOp tLm9)
noncomputable def tLmb : List Item := advG (popOp tLma)
variable {w0 w : World} {k : Nat} {E : Nat → Value} {v : Value} {S : List UInt8}
/-- The bytes so far. -/
structure LmS (w0 : World) (v : Value) (l : List UInt8) (w : World) : Prop where
  bel : Below w0.heap.size w0 w
  own : w.ownsRow w0.heap.size 5 1 v l.length (Lib.strCells ⟨⟨l⟩⟩)
theorem LmS.below {l : List UInt8} {w' : World} (h : LmS w0 v l w) (hb : Below w.heap.size w w') : LmS w0 v l w' :=
  ⟨h.bel.trans (hb.mono h.bel.size), owns_keep h.own fun g hg => hb.block g (own_block h.own hg).2⟩
theorem LmS.grown {l l' : List UInt8} {v' : Value} {w' : World} (h : LmS w0 v l w) (hg : w.grownBy w' v.ownBlock) (ho : w'.ownsRow w0.heap.size 5 1 v' l'.length (Lib.strCells ⟨⟨l'⟩⟩)) : LmS w0 v' l' w' := by
  have hB := h.bel
  refine ⟨⟨hg.os.trans hB.os, hg.tape.trans hB.tape, hg.output.trans hB.output, Nat.le_trans hB.size hg.size, fun k hk => (hg.block k (Nat.lt_of_lt_of_le hk hB.size) (fun e => ?_)).trans (hB.block k hk)⟩, ho⟩
  have := own_block h.own e.symm
  omega
/-! the text -/
noncomputable def opsLm : Array Oper := (curReg tLm4).getD #[]
def WLm : Wr := [(21, 0), (22, 1), (23, 2), (24, 3), (25, 4), (26, 5), (27, 6), (5, 7)]
def lmL : List (List UInt8) := [[], [112, 97, 121, 10], [120]]
def saysRw (cs : List Value) (n : Nat) (vs : List Value) (w : World) : Prop := ∃ g, vs = [.slice (some ⟨g, 0, none⟩) n n] ∧ g < w.heap.size ∧ w.rangeAt g 0 cs
def saysRy (cs : List Value) (k : Nat) (vs : List Value) (w : World) : Prop := ∃ g, vs = [.pointer (some ⟨g, 0 + k * 1, none⟩)] ∧ g < w.heap.size ∧ w.rangeAt g 0 cs
def ExtB (w w' : World) : Prop := Below w.heap.size w w'
theorem ExtB.refl (w : World) : ExtB w w := Below.refl _ _
theorem ExtB.trans {a b c : World} (h : ExtB a b) (k : ExtB b c) : ExtB a c := Below.trans h (Below.mono k (Below.size h))
theorem ExtB.range {u u' : World} {g : Nat} {cs : List Value} (he : ExtB u u') (hl : g < u.heap.size) (h : u.rangeAt g 0 cs) : u'.rangeAt g 0 cs := fun j x hj => (World.cell?_of_block (Below.block he g hl)).trans (h j x hj)
def LLm (v : Value) (S : List UInt8) (k : Nat) (X : List UInt8) : List Loc :=
  [pureL 0 [] v, pureL 1 [0] (.string ⟨⟨S⟩⟩), ⟨2, [], [2], saysRw (strsM lmL) 3⟩, pureL 3 [] (.int .i64 (k : Nat)), ⟨4, [2, 3], [4], saysRy (strsM lmL) k⟩, pureL 5 [4] (.string ⟨⟨X⟩⟩), pureL 6 [1, 5] (.string ⟨⟨S ++ X⟩⟩), pureL 7 [6] (.string ⟨⟨S ++ X⟩⟩)]
theorem okLm (v : Value) (S : List UInt8) (k : Nat) (X : List UInt8) : (locOk .any opsLm WLm (Array.replicate 8 false) 91 (LLm v S k X) && bare opsLm (LLm v S k X)) = true := by kernel_rfl
abbrev envLm (k : Nat) (v : Value) : List (Nat × Value) := [(3, .int .i64 (k : Nat)), (4, v)]
theorem partsLm {X : List UInt8} (hne : S ≠ []) (hS : S.length ≤ 70000) (hk : k < 3) (hX : (strsM lmL)[k]? = some (.string ⟨⟨X⟩⟩)) (hXl : X.length ≤ 4) :
    PartsE Tryz.prog opsLm 91 (updL E (envLm k v)) WLm (LmS w0 v S) ExtB (LLm v S k X) (LLm v S k X) := by
  refine ⟨part_pureE ExtB.refl (fun _ _ _ _ => by kernel_rfl), ?_, ?_, part_pureE ExtB.refl (fun _ _ _ _ => by kernel_rfl), ?_, ?_, ?_, ?_, trivial⟩
  · refine ⟨fun _ _ _ _ _ h => h, fun vals u hC hb => ?_⟩
    obtain ⟨h0, _⟩ := hb
    exact OpOk.value (exec_bytesR (src := 68) (dst := 9) (e := 5) (x := .tmp 21) (by kernel_rfl) Tryz.underlying68 Tryz.underlying5 Tryz.underlying9 ((by kernel_rfl : evalVE 91 (updL E (envLm k v)) WLm vals (.tmp 21) = vals 0).trans (List.cons.inj h0).1) hC.own hne) ⟨hC, .refl _, rfl⟩
  · refine ⟨fun vs u u' hC he h => by obtain ⟨g, h1, h2, h3⟩ := h; exact ⟨g, h1, Nat.lt_of_lt_of_le h2 (Below.size he), he.range h2 h3⟩, fun vals u hC hb => ?_⟩
    refine OpOk.runs ⟨u.heap.size, [], (0, 0), []⟩ ⟨u.heap.size + 1, [⟨u.heap.size, 0, strsM lmL, 9, true⟩], (0, 0), []⟩ (.value (.slice (some ⟨u.heap.size, 0, none⟩) 3 3)) (.slice (some ⟨u.heap.size, 0, none⟩) 3 3) (by kernel_rfl) (.inl rfl) (lies_nil u) rfl fun u' hL hK => ?_
    have B : Below u.heap.size u u' := hK.below (Nat.le_refl _) (fun k hk => by cases hk)
    have g := own_good (hL.sat.good _ (List.mem_singleton.2 rfl))
    exact ⟨hC.below B, B, ⟨_, rfl, heap_lt g, rangeAt_lit g 0 _ rfl⟩⟩
  · refine ⟨fun vs u u' hC he h => by obtain ⟨g, h1, h2, h3⟩ := h; exact ⟨g, h1, Nat.lt_of_lt_of_le h2 (Below.size he), he.range h2 h3⟩, fun vals u hC hb => ?_⟩
    obtain ⟨⟨g, hv, hgl, hr⟩, h2, _⟩ := hb
    exact OpOk.value (exec_index (sz := 1) (cap := 3) 53 (.tmp 23) (.tmp 24) (by kernel_rfl) ((by kernel_rfl : evalVE 91 (updL E (envLm k v)) WLm vals (.tmp 23) = vals 2).trans (List.cons.inj hv).1) ((by kernel_rfl : evalVE 91 (updL E (envLm k v)) WLm vals (.tmp 24) = vals 3).trans (List.cons.inj h2).1) hk Tryz.underlying53 (by kernel_rfl)) ⟨hC, .refl _, g, rfl, hgl, hr⟩
  · refine ⟨fun _ _ _ _ _ h => h, fun vals u hC hb => ?_⟩
    obtain ⟨⟨g, hv, hgl, hr⟩, _⟩ := hb
    exact OpOk.knownE [(25, 4, .pointer (some ⟨g, 0 + k * 1, none⟩))] (by kernel_rfl) ⟨(List.cons.inj hv).1, trivial⟩ (OpOk.reads ⟨0, [⟨g, 0 + k * 1, [.string ⟨⟨X⟩⟩], 0, false⟩], (0, 0), []⟩ (fun e he => by rw [List.mem_singleton.1 he]; exact ent_one hgl hr hX) (.string ⟨⟨X⟩⟩) (by kernel_rfl) (by kernel_rfl) ⟨hC, .refl _, rfl⟩)
  · refine ⟨fun _ _ _ _ _ h => h, fun vals u hC hb => ?_⟩
    obtain ⟨h0, h1, _⟩ := hb
    exact OpOk.value (exec_addS (T := 9) (T' := 9) (x := .tmp 22) (y := .tmp 26) (by kernel_rfl) ((by kernel_rfl : evalVE 91 (updL E (envLm k v)) WLm vals (.tmp 22) = vals 1).trans (List.cons.inj h0).1) ((by kernel_rfl : evalVE 91 (updL E (envLm k v)) WLm vals (.tmp 26) = vals 5).trans (List.cons.inj h1).1) (by omega)) ⟨hC, .refl _, rfl⟩
  · refine ⟨fun _ _ _ _ _ h => h, fun vals u hC hb => ?_⟩
    obtain ⟨h0, _⟩ := hb
    exact OpOk.value (v := vals 6) (by kernel_rfl) ⟨hC, .refl _, h0⟩
theorem lm_text {X : List UInt8} {R : Ending → World → Prop} (hne : S ≠ []) (hS : S.length ≤ 70000) (hk : k < 3) (hX : (strsM lmL)[k]? = some (.string ⟨⟨X⟩⟩)) (hXl : X.length ≤ 4) (C : LmS w0 v S w)
    (h : ∀ w' E', Below w0.heap.size w0 w' → At Tryz.prog 7 R tLm5 (Fr 91 (updL E' [(3, .int .i64 (k : Nat)), (5, .string ⟨⟨S ++ X⟩⟩), (29, .string ⟨⟨S ++ X⟩⟩)])) w') :
    At Tryz.prog 7 R tLm4 (Fr 91 (updL E (envLm k v))) w := by
  refine at_draw opsLm (by kernel_rfl) (by kernel_rfl) 8 (by kernel_rfl) ?_
  refine any_partsE (fuel := 0) (L := LLm v S k X) (W := WLm) (C := LmS w0 v S) (Ext := ExtB) (okLm v S k X) (C.below (Below.refl _ _).drew) ExtB.refl (fun _ _ _ => ExtB.trans) (partsLm hne hS hk hX hXl) rfl ?_
  intro vals u hC _ hall
  obtain ⟨_, _, _, _, _, _, _, hx, _⟩ := hall
  have r8 : Region.ready .any opsLm (((LLm v S k X).map (·.idx)).foldl (fun b i => b.setIfInBounds i true) (Array.replicate 8 false)) = [] := by kernel_rfl
  have qs : [(3, .int .i64 (k : Nat)), (5, vals 7)].map (fun p => finE opsLm vals ((LLm v S k X).map (·.idx)) (updL E (envLm k v)) p.1) = [(3, .int .i64 (k : Nat)), (5, vals 7)].map (·.2) := by kernel_rfl
  generalize ((LLm v S k X).map (·.idx)).foldl (fun b i => b.setIfInBounds i true) (Array.replicate 8 false) = lst at *
  generalize finE opsLm vals ((LLm v S k X).map (·.idx)) (updL E (envLm k v)) = E8 at *
  rw [← updL_same qs, show vals 7 = .string ⟨⟨S ++ X⟩⟩ from (List.cons.inj hx).1]
  generalize S ++ X = T at *
  refine any_end r8 ⟨rfl, At.mid ?_⟩
  refine at_run 60 (tailT tLm4) u.heap.size [] [] tLm5 [(3, .int .i64 (k : Nat)), (5, .string ⟨⟨T⟩⟩), (29, .string ⟨⟨T⟩⟩)] u.heap.size [] (lies_nil u) (by kernel_rfl) fun w1 E1 hL1 hK1 => ?_
  exact h w1 E1 (hC.bel.trans ((hK1.below (Nat.le_refl _) (fun k hk => by cases hk) : Below u.heap.size u w1).mono hC.bel.size))
/-- A text that is too long. -/
theorem lm_long {T : List UInt8} (hT : 65536 < T.length) (hT2 : T.length ≤ 70000) (hk : 1 ≤ k) (hC : ConP w0) (hg : Tryz.prog.globals.size ≤ w0.heap.size) (hR : Reads0 Tryz.prog H0 w0) (B : Below w0.heap.size w0 w) (hk3 : k = 1 ∨ k = 2) :
    At Tryz.prog 7 (LawR w0) tLm5 (Fr 91 (updL E [(3, .int .i64 (k : Nat)), (5, .string ⟨⟨T⟩⟩), (29, .string ⟨⟨T⟩⟩)])) w := by
  refine at_call 17 [.tmp 29] (some 30) [.string ⟨⟨T⟩⟩] (by kernel_rfl) (by kernel_rfl) (by kernel_rfl) ((parse_any T w (by omega) (hC.below hg B) (Nat.le_trans hg B.size)).mono fun e w1 hh => ?_)
  obtain ⟨b1, hp⟩ := hh
  rw [if_pos hT] at hp
  subst hp
  refine ⟨_, rfl, ?_⟩
  have B1 := B.trans (b1.mono B.size)
  have go : ∀ (w2 : World) (E2 : Nat → Value), Below w1.heap.size w1 w2 → At Tryz.prog 7 (LawR w0) tLm6 (Fr 91 (updL E2 [(6, .slice none 0 0), (7, .int .i64 0), (8, .int .i64 3), (35, .bool true)])) w2 := by
    intro w2 E2 b2
    have B2 := B1.trans (b2.mono B1.size)
    refine at_cond true (by kernel_rfl) (fun _ => ?_) (fun h => nomatch h)
    refine at_run (cntG 90 (thenT tLm6)) (thenT tLm6) w2.heap.size [] [] tLm7 [(6, .slice none 0 0), (7, .int .i64 0), (8, .int .i64 3)] w2.heap.size [] (lies_nil w2) (by kernel_rfl) fun w3 E3 hL3 hK3 => ?_
    have B3 := B2.trans ((hK3.below (Nat.le_refl _) (fun k hk => by cases hk) : Below w2.heap.size w2 w3).mono B2.size)
    refine at_ghost ((curReg tLm7).getD #[]) ⟨[], [], [⟨12, [], .bool true, true⟩]⟩ [(2, .bool true)] (by kernel_rfl) (by kernel_rfl) (by kernel_rfl)
      (fun e he => by cases he) (fun sp hsp => ?_) (fun X => by kernel_rfl) (by kernel_rfl) fun w4 E4 b4 => ?_
    · rw [List.mem_singleton.1 hsp]
      exact spec_call 12 [] [] (by kernel_rfl) (by kernel_rfl) (fun _ => by kernel_rfl) fun _ u hu => below_call hu (awake_any u (reads0_below hR hg (B3.trans (hu.mono B3.size))))
    have B4 := B3.trans (b4.mono B3.size)
    exact at_endT (fn := Tryz.f7) 60 (.bool true) (by kernel_rfl) (by kernel_rfl) fun w5 B5 => ⟨rfl, B4.trans (B5.mono B4.size)⟩
  rcases hk3 with rfl | rfl
  · exact at_run 60 (popOp tLm5) w1.heap.size [] [] tLm6 [(6, .slice none 0 0), (7, .int .i64 0), (8, .int .i64 3), (35, .bool true)] w1.heap.size [] (lies_nil w1) (by kernel_rfl) fun w2 E2 hL2 hK2 => go w2 E2 (hK2.below (Nat.le_refl _) (fun k hk => by cases hk))
  · exact at_run 60 (popOp tLm5) w1.heap.size [] [] tLm6 [(6, .slice none 0 0), (7, .int .i64 0), (8, .int .i64 3), (35, .bool true)] w1.heap.size [] (lies_nil w1) (by kernel_rfl) fun w2 E2 hL2 hK2 => go w2 E2 (hK2.below (Nat.le_refl _) (fun k hk => by cases hk))
/-- The longest text that is accepted. -/
theorem lm_most {l : List Cmd} (hl : l.length = 8192) (hS : S.length = 65536) (hpar : parB (S.length + 1) S 1 [] = .ok l) (hfm : fmtS [] l = some S) (hno : fmtS [] (l ++ [payC]) = none) (hwf : ∀ c ∈ l ++ [payC], c.Wf) (hC : ConP w0) (hg : Tryz.prog.globals.size ≤ w0.heap.size) (hR : Reads0 Tryz.prog H0 w0) (B : Below w0.heap.size w0 w) :
    At Tryz.prog 7 (LawR w0) tLm5 (Fr 91 (updL E [(3, .int .i64 ((0 : Nat) : Int)), (5, .string ⟨⟨S⟩⟩), (29, .string ⟨⟨S⟩⟩)])) w := by
  have hgg := fun (w' : World) (b : Below w0.heap.size w0 w') => Nat.le_trans hg b.size
  refine at_call 17 [.tmp 29] (some 30) [.string ⟨⟨S⟩⟩] (by kernel_rfl) (by kernel_rfl) (by kernel_rfl) ((parse_any S w (by omega) (hC.below hg B) (hgg w B)).mono fun e w1 hh => ?_)
  obtain ⟨b1, hp⟩ := hh
  rw [if_neg (by omega), hpar] at hp
  obtain ⟨vp, rfl, hown⟩ := hp
  refine ⟨_, rfl, ?_⟩
  have P1 : PaS w0 vp l w1 := ⟨B.trans (b1.mono B.size), own_le hown B.size⟩
  obtain ⟨A, cp, rfl⟩ := own_slice hown
  rw [hl] at P1
  generalize hvp : Value.slice A 8192 cp = vp at P1
  rw [hl, hvp]
  refine at_run 60 (popOp tLm5) w1.heap.size [] [] tLm6 [(5, .string ⟨⟨S⟩⟩), (6, vp), (8, .int .i64 0), (35, .bool false)] w1.heap.size [] (lies_nil w1) (by kernel_rfl) fun w2 E2 hL2 hK2 => ?_
  have P2 := P1.below (hK2.below (Nat.le_refl _) (fun k hk => by cases hk))
  refine at_cond false (by kernel_rfl) (fun h => nomatch h) fun _ => ?_
  refine at_run 60 (elseT tLm6) w2.heap.size [] [] tLm8 [(5, .string ⟨⟨S⟩⟩), (6, vp), (8, .int .i64 0), (51, vp)] w2.heap.size [] (lies_nil w2) (by kernel_rfl) fun w3 E3 hL3 hK3 => ?_
  have P3 := P2.below (hK3.below (Nat.le_refl _) (fun k hk => by cases hk))
  refine at_call 21 [.tmp 51] (some 52) [vp] (by kernel_rfl) (by kernel_rfl) (by kernel_rfl) ((format_any l vp w3 (fun c hc => hwf c (by simp [hc])) (own_cmds P3.own) ((hC.below hg P3.bel).con) (hgg w3 P3.bel) (by omega)).mono fun e w4 hh => ?_)
  obtain ⟨rfl, b4⟩ := hh
  refine ⟨_, rfl, ?_⟩
  rw [hfm]
  have P4 := P3.below b4
  refine at_run 60 (popOp tLm8) w4.heap.size [] [] tLm9 [(5, .string ⟨⟨S⟩⟩), (6, vp), (8, .int .i64 0), (9, .string ⟨⟨S⟩⟩), (10, .int .i64 0), (56, vp), (58, .slice (some ⟨w4.heap.size, 0, none⟩) 1 1)] (w4.heap.size + 1) [⟨w4.heap.size, 0, payC.cells, 64, true⟩] (lies_nil w4) (by kernel_rfl) fun w5 E5 hL5 hK5 => ?_
  have P5 := P4.below (hK5.below (Nat.le_refl _) (fun k hk => by cases hk))
  have g5 := own_good (hL5.sat.good _ (List.mem_singleton.2 rfl))
  generalize w4.heap.size = g4 at *
  refine push_pa P5 (by omega) g5 (.tmp 56) (.tmp 58) (opAt tLm9) (by kernel_rfl) (by kernel_rfl) (by kernel_rfl) (by kernel_rfl) fun v' w6 P6 => ?_
  refine at_run 60 (popOp tLm9) w6.heap.size [] [] tLma [(5, .string ⟨⟨S⟩⟩), (6, vp), (8, .int .i64 0), (9, .string ⟨⟨S⟩⟩), (10, .int .i64 0), (59, v')] w6.heap.size [] (lies_nil w6) (by kernel_rfl) fun w7 E7 hL7 hK7 => ?_
  have P7 := P6.below (hK7.below (Nat.le_refl _) (fun k hk => by cases hk))
  refine at_call 21 [.tmp 59] (some 60) [v'] (by kernel_rfl) (by kernel_rfl) (by kernel_rfl) ((format_any (l ++ [payC]) v' w7 hwf (own_cmds P7.own) ((hC.below hg P7.bel).con) (hgg w7 P7.bel) (by rw [List.length_append, hl]; decide)).mono fun e w8 hh => ?_)
  obtain ⟨rfl, b8⟩ := hh
  refine ⟨_, rfl, ?_⟩
  rw [hno]
  have P8 := P7.below b8
  subst hvp
  refine at_run (cntG 90 (popOp tLma)) (popOp tLma) w8.heap.size [] [] tLmb [(5, .string ⟨⟨S⟩⟩), (6, .slice A 8192 cp), (8, .int .i64 0), (9, .string ⟨⟨S⟩⟩), (10, .int .i64 0), (12, .int .i64 1)] w8.heap.size [] (lies_nil w8) (by kernel_rfl) fun w9 E9 hL9 hK9 => ?_
  have B9 := (P8.below (hK9.below (Nat.le_refl _) (fun k hk => by cases hk))).bel
  refine at_ghost ((curReg tLmb).getD #[]) ⟨[], [], [⟨14, [(75, .string ⟨⟨S⟩⟩), (76, .string ⟨⟨S⟩⟩)], .bool true, true⟩, ⟨23, [(85, .int .i64 (S.length : Nat))], .bool true, true⟩, ⟨26, [], .bool true, true⟩]⟩ [(2, .bool true)] (by kernel_rfl) (by kernel_rfl) (by kernel_rfl)
    (fun e he => by cases he) (fun sp hsp => ?_) (fun X => by kernel_rfl) (by kernel_rfl) fun w10 E10 b10 => ?_
  · simp only [List.mem_cons, List.not_mem_nil, or_false] at hsp
    rcases hsp with rfl | rfl | rfl
    · refine spec_op fun _ E w _ => ?_
      have h := exec_eqs (P := Tryz.prog) (w := w) (o := ((curReg tLmb).getD #[]).getD 14 default) (ρ := ovr [(75, .string ⟨⟨S⟩⟩), (76, .string ⟨⟨S⟩⟩)] (evE 91 E)) (T := 9) (T' := 9) (x := .tmp 75) (y := .tmp 76) (a := S) (b := S) (by kernel_rfl) (by kernel_rfl) (by kernel_rfl)
      rw [decide_eq_true (rfl : S = S)] at h
      exact h
    · refine spec_call 22 [.tmp 85] [.int .i64 (S.length : Nat)] (by kernel_rfl) (by kernel_rfl) (fun _ => by kernel_rfl) fun _ u hu => below_call hu ?_
      rw [hS]
      exact amount_lim u
    · exact spec_call 12 [] [] (by kernel_rfl) (by kernel_rfl) (fun _ => by kernel_rfl) fun _ u hu => below_call hu (awake_any u (reads0_below hR hg (B9.trans (hu.mono B9.size))))
  have B10 := B9.trans (b10.mono B9.size)
  exact at_endT (fn := Tryz.f7) 60 (.bool true) (by kernel_rfl) (by kernel_rfl) fun w11 B11 => ⟨rfl, B10.trans (B11.mono B10.size)⟩
def lenOf : Value → Nat
  | .slice _ n _ => n
  | _ => 0
theorem infoU8 : (Tryz.prog.info? 5).map (fun i => (i.zero, i.size, i.bytes)) = some (some (.int .u8 0), 1, 1) := by kernel_rfl
theorem limits_any (n : Int) (w : World) (hn : inR n) (hC : ConP w) (hg : Tryz.prog.globals.size ≤ w.heap.size) (hR : Reads0 Tryz.prog H0 w) :
    Calls Tryz.prog 7 #[.int .i64 n] w (LawR w) := by
  obtain ⟨iu, hiu, hz, hsz, hby⟩ := info_partsC infoU8
  refine calls_at (args := [.int .i64 n]) (fn := Tryz.f7) (c := codeLm) (n := 91) (by kernel_rfl) (by kernel_rfl) (by kernel_rfl) (by kernel_rfl) ?_
  refine at_run 60 [.code codeLm] w.heap.size [] [] tLm0 [(13, .int .i64 n)] w.heap.size [] (lies_nil w) (by kernel_rfl) fun w1 E1 hL1 hK1 => ?_
  have B1 : Below w.heap.size w w1 := hK1.below (Nat.le_refl _) (fun k hk => by cases hk)
  refine at_call 10 [.tmp 13, .const (.int .i64 3)] (some 14) [.int .i64 n, .int .i64 3] (by kernel_rfl) (by kernel_rfl) (by kernel_rfl) ((pmod_any n 3 w1 hn.1 hn.2 (by omega) (by omega)).mono fun e w2 hh => ?_)
  obtain ⟨rfl, rfl⟩ := hh
  refine ⟨_, rfl, ?_⟩
  have h40 := Int.emod_nonneg n (show (3 : Int) ≠ 0 by omega)
  have h41 := Int.emod_lt_of_pos n (show (0 : Int) < 3 by omega)
  obtain ⟨k, hke⟩ := Int.eq_ofNat_of_zero_le h40
  rw [hke] at h41 ⊢
  have hk : k < 3 := by omega
  refine at_run 60 (popOp tLm0) w1.heap.size [] [] tLm1 (envLm k (.slice none 0 0)) w1.heap.size [] (lies_nil w1) (by kernel_rfl) fun w2 E2 hL2 hK2 => ?_
  have L2 : LmS w (.slice none 0 0) (relS 0) w2 := ⟨B1.trans ((hK2.below (Nat.le_refl _) (fun k hk => by cases hk) : Below w1.heap.size w1 w2).mono B1.size), rfl, .inl ⟨rfl, rfl⟩⟩
  refine at_loop (by kernel_rfl) (fun E wx => ∃ (i : Nat) (v : Value) (E0 : Nat → Value), i ≤ 8192 ∧ E = updL E0 (envLm k v) ∧ LmS w v (relS i) wx)
    (fun E _ => 65536 - lenOf (E 4)) ⟨0, _, E2, by omega, rfl, L2⟩ ?_
  rintro E wx ⟨i, v, E0, hi, rfl, L⟩ hagain
  have hil := relS_len i
  obtain ⟨A, c, hv⟩ := own_slice L.own
  rw [hil] at hv
  subst hv
  refine at_run 60 (bodyT tLm1) wx.heap.size [] [] tLm2 (envLm k (.slice A (8 * i) c) ++ [(18, .bool (decide (IntKind.i64.wrap (((8 * i : Nat) : Int) + 8) ≤ 65536)))]) wx.heap.size [] (lies_nil wx) (by kernel_rfl) fun w3 E3 hL3 hK3 => ?_
  have L3 := L.below (hK3.below (Nat.le_refl _) (fun k hk => by cases hk))
  have hwi : IntKind.i64.wrap (((8 * i : Nat) : Int) + 8) = ((8 * i + 8 : Nat) : Int) := by rw [IntWalk.i64_in _ (by omega)]; omega
  rw [hwi]
  refine at_cond (decide (((8 * i + 8 : Nat) : Int) ≤ 65536)) (by kernel_rfl) (fun ht => ?_) (fun hf => ?_)
  · have hlt : i < 8192 := by have := of_decide_eq_true ht; omega
    refine at_run 60 (thenT tLm2) w3.heap.size [] [] tLm3 (envLm k (.slice A (8 * i) c) ++ [(19, .slice A (8 * i) c)]) w3.heap.size [] (lies_nil w3) (by kernel_rfl) fun w4 E4 hL4 hK4 => ?_
    have L4 := L3.below (hK4.below (Nat.le_refl _) (fun k hk => by cases hk))
    refine at_appendS (opAt tLm3) (by kernel_rfl) (.tmp 19) (.const (.string ⟨⟨relT⟩⟩)) 68 9 (by kernel_rfl) w.heap.size 5 iu Tryz.underlying68 Tryz.underlying9 hiu hz hsz hby (.slice A (8 * i) c) (relS i).length _ (by kernel_rfl) L4.own ⟨⟨relT⟩⟩ (by kernel_rfl) (by rw [hil]; show 8 * i + 8 ≤ maxLen; unfold maxLen; omega) (by rw [hil]; show 8 * i + 8 ≤ _; omega) L4.bel.size fun v' w5 hown hgr => ?_
    have e1 : (relS i).length + (⟨⟨relT⟩⟩ : ByteArray).size = (relS (i + 1)).length := by show _ = (relS i ++ relT).length; rw [List.length_append]; rfl
    have e2 : Lib.strCells ⟨⟨relS i⟩⟩ ++ Lib.strCells ⟨⟨relT⟩⟩ = Lib.strCells ⟨⟨relS (i + 1)⟩⟩ := by show _ = (relS i ++ relT).map _; rw [List.map_append]; rfl
    rw [e1, e2] at hown
    have L5 : LmS w v' (relS (i + 1)) w5 := L4.grown hgr hown
    obtain ⟨A', c', hv'⟩ := own_slice hown
    rw [relS_len (i + 1)] at hv'
    subst hv'
    refine at_run 60 (popOp tLm3) w5.heap.size [] [] (againT tLm1) (envLm k (.slice A' (8 * (i + 1)) c')) w5.heap.size [] (lies_nil w5) (by kernel_rfl) fun w6 E6 hL6 hK6 => ?_
    refine hagain _ _ ⟨i + 1, _, E6, by omega, rfl, L5.below (hK6.below (Nat.le_refl _) (fun k hk => by cases hk))⟩ ?_
    show 65536 - lenOf (.slice A' (8 * (i + 1)) c') < 65536 - lenOf (.slice A (8 * i) c)
    simp only [lenOf]
    omega
  have hie : i = 8192 := by have := of_decide_eq_false hf; omega
  have hpar := rel_par i (by omega)
  have hfm := rel_fmt i (by omega)
  have hno := rel_pay
  have hwf := rel_wf
  have hll : (List.replicate i relC).length = i := List.length_replicate
  rw [← hie] at hno hwf
  generalize List.replicate i relC = lc at *
  have hne : relS i ≠ [] := by
    intro h
    rw [h] at hil
    simp at hil
    omega
  generalize relS i = S at *
  refine at_run 60 (elseT tLm2) w3.heap.size [] [] tLm4 (envLm k (.slice A (8 * i) c)) w3.heap.size [] (lies_nil w3) (by kernel_rfl) fun w4 E4 hL4 hK4 => ?_
  have L4 := L3.below (hK4.below (Nat.le_refl _) (fun k hk => by cases hk))
  have hk3 : k = 0 ∨ k = 1 ∨ k = 2 := by omega
  rcases hk3 with rfl | rfl | rfl
  · refine lm_text (X := []) hne (by omega) hk rfl (by decide) L4 fun w5 E5 B5 => ?_
    rw [List.append_nil]
    exact lm_most (by omega) (by omega) hpar hfm hno hwf hC hg hR B5
  · refine lm_text (X := [112, 97, 121, 10]) hne (by omega) hk rfl (by decide) L4 fun w5 E5 B5 => ?_
    have hT : (S ++ [112, 97, 121, 10]).length = S.length + 4 := by rw [List.length_append]; rfl
    exact lm_long (by omega) (by omega) (by omega) hC hg hR B5 (.inl rfl)
  · refine lm_text (X := [120]) hne (by omega) hk rfl (by decide) L4 fun w5 E5 B5 => ?_
    have hT : (S ++ [120]).length = S.length + 1 := by rw [List.length_append]; rfl
    exact lm_long (by omega) (by omega) (by omega) hC hg hR B5 (.inr rfl)
end Go.Proofs.YtdcbnkimjhefkaaGreatDoor

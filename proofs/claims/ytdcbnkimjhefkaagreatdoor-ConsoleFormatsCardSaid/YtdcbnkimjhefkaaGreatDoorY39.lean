/-
  The walk of ConsoleFormats.
-/
import Derived.Test.YtdcbnkimjhefkaaGreatDoorY37
import Derived.Test.YtdcbnkimjhefkaaGreatDoorY38
namespace Go.Proofs.YtdcbnkimjhefkaaGreatDoor
open Go.RowKit
set_option maxRecDepth 100000
/-- What a row tells of commands of any content. -/
structure Cmd.WfI (c : Cmd) : Prop where
  kind : inR c.kind
  emp : inR c.emp
  fk : inR c.fk
  fr : inR c.fr
  val : inR c.val
  ext : inR c.ext
  rnk : inR c.rnk
  per : inR c.per
  torn : inR c.torn
  stop : inR c.stop
  wh : c.wh < 18446744073709551616
theorem wf_small {l : List Cmd} (h : ∀ c ∈ l, c.WfI) (hs : smallL l = true) : ∀ c ∈ l, c.Wf := by
  intro c hc
  have h1 := h c hc
  have h2 : c.nm.length ≤ 60 ∧ c.txt.length ≤ 400 := by
    have h3 := (Bool.and_eq_true_iff.1 hs).2
    rw [List.all_eq_true] at h3
    simpa using h3 c hc
  exact ⟨h1.kind, h1.emp, h1.fk, h1.fr, h1.val, h1.ext, h1.rnk, h1.per, h1.torn, h1.stop, h1.wh, by omega, by omega⟩
theorem reads0_below {H : AH} {w w' : World} {B : Nat} (h : Reads0 Tryz.prog H w) (hB : Tryz.prog.globals.size ≤ B) (hb : Below B w w') : Reads0 Tryz.prog H w' :=
  ⟨fun b i x hx hd => let ⟨t, cs, h1, h2, h3, h4, h5⟩ := h.row b i x hx hd
    ⟨t, cs, h1, h2, h3, h4, fun j v hj => (World.cell?_of_block (hb.block b (Nat.lt_of_lt_of_le h2 hB))).trans (h5 j v hj)⟩⟩
theorem IntsAt.more {w : World} {b b' : Nat} {v : Value} {ns : List Int} (h : IntsAt w b v ns) (hb : b ≤ b') : IntsAt w b' v ns := by
  obtain ⟨A, c, rfl, h1, h2, h3⟩ := h
  exact ⟨A, c, rfl, h1, h2, fun hn => let ⟨g, off, e, hg, hc⟩ := h3 hn; ⟨g, off, e, by omega, hc⟩⟩
theorem CmdsAt.below {w w' : World} {lim lim' : Nat} {v : Value} {l : List Cmd} (h : CmdsAt w lim v l) (hl : lim ≤ lim') (hb : Below lim w w') : CmdsAt w' lim' v l := by
  obtain ⟨a, cap, rfl, hc⟩ := h
  exact ⟨a, cap, rfl, fun hne => let ⟨g, off, e, hg, hc⟩ := hc hne; ⟨g, off, e, by omega, fun i hi j u hu => (World.cell?_of_block (hb.block g hg)).trans (hc i hi j u hu)⟩⟩
/-- The drawn commands in their row. -/
structure LwS (w0 : World) (g cap : Nat) (l : List Cmd) (w : World) : Prop where
  bel : Below w0.heap.size w0 w
  low : w0.heap.size ≤ g
  lt : g < w.heap.size
  cells : ∀ (i : Nat) (h : i < l.length), w.rangeAt g (0 + i * 13) (l[i]).cells
  fro : ∀ j, w.frozen? ⟨g, j, none⟩ = false
  wf : ∀ c ∈ l, c.Wf
  pos : 1 ≤ l.length
  len : l.length ≤ 1000
abbrev sl (g n cap : Nat) : Value := .slice (some ⟨g, 0, none⟩) n cap
theorem LwS.cmds {w0 w : World} {g cap : Nat} {l : List Cmd} (h : LwS w0 g cap l w) : CmdsAt w w.heap.size (sl g l.length cap) l := ⟨_, cap, rfl, fun _ => ⟨g, 0, rfl, h.lt, h.cells⟩⟩
theorem frozen_block {w w' : World} {p : Addr} (h : w'.heap[p.block]? = w.heap[p.block]?) : w'.frozen? p = w.frozen? p := by
  unfold World.frozen?
  rw [h]
theorem LwS.below {w0 w w' : World} {g cap : Nat} {l : List Cmd} (h : LwS w0 g cap l w) (hb : Below w.heap.size w w') : LwS w0 g cap l w' :=
  ⟨h.bel.trans (hb.mono h.bel.size), h.low, Nat.lt_of_lt_of_le h.lt hb.size, fun i hi j u hu => (World.cell?_of_block (hb.block g h.lt)).trans (h.cells i hi j u hu), fun j => (frozen_block (p := ⟨g, j, none⟩) (hb.block g h.lt)).trans (h.fro j), h.wf, h.pos, h.len⟩
theorem LwS.set {w0 w : World} {g cap : Nat} {l : List Cmd} (h : LwS w0 g cap l w) {k m : Nat} {c' : Cmd} {x : Value} (hk : k < l.length) (hm : m < 13) (hx : c'.cells = (l[k]).cells.set m x) (hw : c'.Wf) : LwS w0 g cap (l.set k c') (w.setCell ⟨g, 0 + k * 13 + m, none⟩ x) := by
  have hc := cmds_set (v := sl g l.length cap) (lim := w.heap.size) (a := some ⟨g, 0, none⟩) (cap := cap) rfl rfl h.lt h.cells hk hm hx
  obtain ⟨a, cap', he, hc⟩ := hc
  obtain ⟨g', off', ha, _, hcells⟩ := hc (by
    intro e
    have h9 : l.length = 0 := by
      have := congrArg List.length e
      rwa [List.length_set] at this
    omega)
  subst ha
  obtain ⟨e1, e2, e3⟩ := Value.slice.inj he
  obtain ⟨rfl, rfl⟩ : g = g' ∧ 0 = off' := by have := Option.some.inj e1; exact ⟨congrArg Addr.block this, congrArg Addr.off this⟩
  have hlow := h.low
  refine ⟨?_, h.low, by simpa [World.setCell] using h.lt, hcells, fun j => by rw [World.frozen?_setCell]; exact h.fro j, fun c hc => ?_, by rw [List.length_set]; exact h.pos, by rw [List.length_set]; exact h.len⟩
  · exact ⟨h.bel.os, h.bel.tape, h.bel.output, by simpa [World.setCell] using h.bel.size, fun k hk => (heap_setCell_other' w ⟨g, 0 + _ * 13 + m, none⟩ x k (by simp only; omega)).trans (h.bel.block k hk)⟩
  · rcases List.mem_or_eq_of_mem_set hc with h1 | h1
    · exact h.wf c h1
    · rw [h1]; exact hw
theorem fmtV_two (r : Option (List UInt8)) : ∃ s : List UInt8, fmtV r = .tuple #[.string ⟨⟨s⟩⟩, .int .i64 0] ∨ fmtV r = .tuple #[.string ⟨⟨s⟩⟩, .int .i64 1] := by
  cases r with
  | none => exact ⟨[], .inr rfl⟩
  | some t => exact ⟨t, .inl rfl⟩
noncomputable def codeLf : Code := Tryz.f5.body.getD .skip
noncomputable def tLf0 : List Item := advT 60 [.code codeLf]
noncomputable def tLf1 : List Item := advT 60 (popOp tLf0)
noncomputable def tLfa : List Item := advT 60 (thenT tLf1)
noncomputable def tLf2 : List Item := advT 60 (elseT tLf1)
noncomputable def tLf3 : List Item := advT 60 (popOp tLf2)
noncomputable def tLf4 : List Item := advT 60 (popOp tLf3)
noncomputable def tLf5 : List Item := advT 60 (popOp (popOp tLf4))
noncomputable def tLf6 : List Item := advT 60 (popOp tLf5)
noncomputable def tLf7 : List Item := tLf6
noncomputable def tE0 : List Item := advT 60 (popOp tLf7)
noncomputable def tE1 : List Item := advT 60 (elseT tE0)
noncomputable def tE2 : List Item := advT 60 (elseT tE1)
noncomputable def tE3 : List Item := advT 60 (elseT tE2)
noncomputable def tE4 : List Item := advT 60 (elseT tE3)
noncomputable def tE5 : List Item := advT 60 (elseT tE4)
noncomputable def tE6 : List Item := advT 60 (elseT tE5)
noncomputable def tLf9 : List Item := advT 60 (elseT tE6)
noncomputable def tS0 : List Item := advT 6 (thenT tE0)
noncomputable def tS1 : List Item := advT 6 (thenT tE1)
noncomputable def tS2 : List Item := advT 5 (thenT tE2)
noncomputable def tS3 : List Item := advT 9 (thenT tE3)
noncomputable def tS4 : List Item := advT 9 (thenT tE4)
noncomputable def tS5 : List Item := advT 5 (thenT tE5)
noncomputable def tS6 : List Item := advT 10 (thenT tE6)
noncomputable def tS7 : List Item := advT 2 (popOp tS6)
noncomputable def tLf10 : List Item := advT 60 (popOp tLf9)
noncomputable def tLf11 : List Item := advT 60 (popOp tLf10)
noncomputable def tLf12 : List Item := advT 60 (popOp tLf11)
noncomputable def tLq1 : List Item := advT 10 (popOp tLf12)
noncomputable def tLq2 : List Item := advT 8 (popOp tLq1)
noncomputable def tLf13 : List Item := advT 60 (popOp tLq2)
abbrev LawR (w0 : World) (e : Ending) (w : World) : Prop := e = .returned (.bool true) ∧ Below w0.heap.size w0 w
variable {w0 : World} {g cap : Nat} {l raw : List Cmd} {vr : Value}
/-- What the law knows from its beginning. -/
structure LwC (w0 : World) (vr : Value) (raw : List Cmd) : Prop where
  con : Con w0
  glob : Tryz.prog.globals.size ≤ w0.heap.size
  reads : Reads0 Tryz.prog H0 w0
  cmds : CmdsAt w0 w0.heap.size vr raw
  wf : ∀ c ∈ raw, c.Wf
  len : raw.length ≤ 20
theorem law_end (K : LwC w0 vr raw) {w : World} {E : Nat → Value} (S : LwS w0 g cap l w) :
    At Tryz.prog 5 (LawR w0) tLf9 (Fr 146 (updL E [(1, vr), (12, sl g l.length cap), (106, sl g l.length cap)])) w := by
  have hll := S.len
  have hlr := K.len
  have hg := fun (w' : World) (b : Below w0.heap.size w0 w') => Nat.le_trans K.glob b.size
  refine at_call 21 [.tmp 106] (some 107) [sl g l.length cap] (by kernel_rfl) (by kernel_rfl) (by kernel_rfl) ((format_any l (sl g l.length cap) w S.wf S.cmds (K.con.below K.glob S.bel) (hg w S.bel) (by omega)).mono fun e w1 hh => ?_)
  obtain ⟨rfl, b1⟩ := hh
  refine ⟨_, rfl, ?_⟩
  have S1 := S.below b1
  obtain ⟨s, hse⟩ := fmtV_two (fmtS [] l)
  obtain ⟨r, hre⟩ := fmtV_two (fmtS [] raw)
  have hF2 := fun (w' : World) (S' : LwS w0 g cap l w') => rformatAll_any l (sl g l.length cap) w' S'.wf S'.cmds (by omega)
  have hF3 := fun (w' : World) (B' : Below w0.heap.size w0 w') => format_any raw vr w' K.wf (K.cmds.below B'.size B') (K.con.below K.glob B') (hg w' B') (by omega)
  have hF4 := fun (w' : World) (B' : Below w0.heap.size w0 w') => rformatAll_any raw vr w' K.wf (K.cmds.below B'.size B') (by omega)
  generalize fmtV (fmtS [] l) = f1 at hse hF2 ⊢
  generalize fmtV (fmtS [] raw) = f2 at hre hF3 hF4
  rcases hse with rfl | rfl <;> rcases hre with rfl | rfl
  · refine at_run 60 (popOp tLf9) w1.heap.size [] [] tLf10 [(1, vr), (16, .string ⟨⟨s⟩⟩), (17, .int .i64 0), (111, sl g l.length cap)] w1.heap.size [] (lies_nil w1) (by kernel_rfl) fun w2 E2 hL2 hK2 => ?_
    have S2 := S1.below (hK2.below (Nat.le_refl _) (fun k hk => by cases hk))
    refine at_call 14 [.tmp 111] (some 112) [sl g l.length cap] (by kernel_rfl) (by kernel_rfl) (by kernel_rfl) ((hF2 w2 S2).mono fun e w3 hh => ?_)
    obtain ⟨rfl, b3⟩ := hh
    refine ⟨_, rfl, ?_⟩
    have S3 := S2.below b3
    refine at_run 60 (popOp tLf10) w3.heap.size [] [] tLf11 [(1, vr), (16, .string ⟨⟨s⟩⟩), (17, .int .i64 0), (18, .string ⟨⟨s⟩⟩), (19, .int .i64 0), (116, vr)] w3.heap.size [] (lies_nil w3) (by kernel_rfl) fun w4 E4 hL4 hK4 => ?_
    have S4 := S3.below (hK4.below (Nat.le_refl _) (fun k hk => by cases hk))
    refine at_call 21 [.tmp 116] (some 117) [vr] (by kernel_rfl) (by kernel_rfl) (by kernel_rfl) ((hF3 w4 S4.bel).mono fun e w5 hh => ?_)
    obtain ⟨rfl, b5⟩ := hh
    refine ⟨_, rfl, ?_⟩
    have S5 := S4.below b5
    refine at_run 60 (popOp tLf11) w5.heap.size [] [] tLf12 [(16, .string ⟨⟨s⟩⟩), (17, .int .i64 0), (18, .string ⟨⟨s⟩⟩), (19, .int .i64 0), (20, .string ⟨⟨r⟩⟩), (21, .int .i64 0), (121, vr)] w5.heap.size [] (lies_nil w5) (by kernel_rfl) fun w6 E6 hL6 hK6 => ?_
    have S6 := S5.below (hK6.below (Nat.le_refl _) (fun k hk => by cases hk))
    refine at_call 14 [.tmp 121] (some 122) [vr] (by kernel_rfl) (by kernel_rfl) (by kernel_rfl) ((hF4 w6 S6.bel).mono fun e w7 hh => ?_)
    obtain ⟨rfl, b7⟩ := hh
    refine ⟨_, rfl, ?_⟩
    have S7 := S6.below b7
    refine at_run 10 (popOp tLf12) w7.heap.size [] [] tLq1 [(17, .int .i64 0), (19, .int .i64 0), (20, .string ⟨⟨r⟩⟩), (21, .int .i64 0), (22, .string ⟨⟨r⟩⟩), (23, .int .i64 0), (125, .string ⟨⟨s⟩⟩), (126, .string ⟨⟨s⟩⟩)] w7.heap.size [] (lies_nil w7) (by kernel_rfl) fun w8 E8 hL8 hK8 => ?_
    have S8 := S7.below (hK8.below (Nat.le_refl _) (fun k hk => by cases hk))
    refine at_eqs s s (some 127) (by kernel_rfl) ?_
    rw [decide_eq_true (rfl : s = s)]
    refine at_run 8 (popOp tLq1) w8.heap.size [] [] tLq2 [(21, .int .i64 0), (23, .int .i64 0), (133, .bool true), (134, .string ⟨⟨r⟩⟩), (135, .string ⟨⟨r⟩⟩)] w8.heap.size [] (lies_nil w8) (by kernel_rfl) fun w9 E9 hL9 hK9 => ?_
    have S9 := S8.below (hK9.below (Nat.le_refl _) (fun k hk => by cases hk))
    refine at_eqs r r (some 136) (by kernel_rfl) ?_
    rw [decide_eq_true (rfl : r = r)]
    refine at_run 60 (popOp tLq2) w9.heap.size [] [] tLf13 [(143, .bool true)] w9.heap.size [] (lies_nil w9) (by kernel_rfl) fun w10 E10 hL10 hK10 => ?_
    have S10 := S9.below (hK10.below (Nat.le_refl _) (fun k hk => by cases hk))
    refine at_call 12 [] (some 144) [] (by kernel_rfl) (by kernel_rfl) (by kernel_rfl) ((awake_any w10 (reads0_below K.reads K.glob S10.bel)).mono fun e w11 hh => ?_)
    obtain ⟨rfl, b11⟩ := hh
    refine ⟨_, rfl, ?_⟩
    have S11 := S10.below b11
    exact at_endT (fn := Tryz.f5) 60 (.bool true) (by kernel_rfl) (by kernel_rfl) fun w12 B12 => ⟨rfl, (S11.below B12).bel⟩
  · refine at_run 60 (popOp tLf9) w1.heap.size [] [] tLf10 [(1, vr), (16, .string ⟨⟨s⟩⟩), (17, .int .i64 0), (111, sl g l.length cap)] w1.heap.size [] (lies_nil w1) (by kernel_rfl) fun w2 E2 hL2 hK2 => ?_
    have S2 := S1.below (hK2.below (Nat.le_refl _) (fun k hk => by cases hk))
    refine at_call 14 [.tmp 111] (some 112) [sl g l.length cap] (by kernel_rfl) (by kernel_rfl) (by kernel_rfl) ((hF2 w2 S2).mono fun e w3 hh => ?_)
    obtain ⟨rfl, b3⟩ := hh
    refine ⟨_, rfl, ?_⟩
    have S3 := S2.below b3
    refine at_run 60 (popOp tLf10) w3.heap.size [] [] tLf11 [(1, vr), (16, .string ⟨⟨s⟩⟩), (17, .int .i64 0), (18, .string ⟨⟨s⟩⟩), (19, .int .i64 0), (116, vr)] w3.heap.size [] (lies_nil w3) (by kernel_rfl) fun w4 E4 hL4 hK4 => ?_
    have S4 := S3.below (hK4.below (Nat.le_refl _) (fun k hk => by cases hk))
    refine at_call 21 [.tmp 116] (some 117) [vr] (by kernel_rfl) (by kernel_rfl) (by kernel_rfl) ((hF3 w4 S4.bel).mono fun e w5 hh => ?_)
    obtain ⟨rfl, b5⟩ := hh
    refine ⟨_, rfl, ?_⟩
    have S5 := S4.below b5
    refine at_run 60 (popOp tLf11) w5.heap.size [] [] tLf12 [(16, .string ⟨⟨s⟩⟩), (17, .int .i64 0), (18, .string ⟨⟨s⟩⟩), (19, .int .i64 0), (20, .string ⟨⟨r⟩⟩), (21, .int .i64 1), (121, vr)] w5.heap.size [] (lies_nil w5) (by kernel_rfl) fun w6 E6 hL6 hK6 => ?_
    have S6 := S5.below (hK6.below (Nat.le_refl _) (fun k hk => by cases hk))
    refine at_call 14 [.tmp 121] (some 122) [vr] (by kernel_rfl) (by kernel_rfl) (by kernel_rfl) ((hF4 w6 S6.bel).mono fun e w7 hh => ?_)
    obtain ⟨rfl, b7⟩ := hh
    refine ⟨_, rfl, ?_⟩
    have S7 := S6.below b7
    refine at_run 10 (popOp tLf12) w7.heap.size [] [] tLq1 [(17, .int .i64 0), (19, .int .i64 0), (20, .string ⟨⟨r⟩⟩), (21, .int .i64 1), (22, .string ⟨⟨r⟩⟩), (23, .int .i64 1), (125, .string ⟨⟨s⟩⟩), (126, .string ⟨⟨s⟩⟩)] w7.heap.size [] (lies_nil w7) (by kernel_rfl) fun w8 E8 hL8 hK8 => ?_
    have S8 := S7.below (hK8.below (Nat.le_refl _) (fun k hk => by cases hk))
    refine at_eqs s s (some 127) (by kernel_rfl) ?_
    rw [decide_eq_true (rfl : s = s)]
    refine at_run 8 (popOp tLq1) w8.heap.size [] [] tLq2 [(21, .int .i64 1), (23, .int .i64 1), (133, .bool true), (134, .string ⟨⟨r⟩⟩), (135, .string ⟨⟨r⟩⟩)] w8.heap.size [] (lies_nil w8) (by kernel_rfl) fun w9 E9 hL9 hK9 => ?_
    have S9 := S8.below (hK9.below (Nat.le_refl _) (fun k hk => by cases hk))
    refine at_eqs r r (some 136) (by kernel_rfl) ?_
    rw [decide_eq_true (rfl : r = r)]
    refine at_run 60 (popOp tLq2) w9.heap.size [] [] tLf13 [(143, .bool true)] w9.heap.size [] (lies_nil w9) (by kernel_rfl) fun w10 E10 hL10 hK10 => ?_
    have S10 := S9.below (hK10.below (Nat.le_refl _) (fun k hk => by cases hk))
    refine at_call 12 [] (some 144) [] (by kernel_rfl) (by kernel_rfl) (by kernel_rfl) ((awake_any w10 (reads0_below K.reads K.glob S10.bel)).mono fun e w11 hh => ?_)
    obtain ⟨rfl, b11⟩ := hh
    refine ⟨_, rfl, ?_⟩
    have S11 := S10.below b11
    exact at_endT (fn := Tryz.f5) 60 (.bool true) (by kernel_rfl) (by kernel_rfl) fun w12 B12 => ⟨rfl, (S11.below B12).bel⟩
  · refine at_run 60 (popOp tLf9) w1.heap.size [] [] tLf10 [(1, vr), (16, .string ⟨⟨s⟩⟩), (17, .int .i64 1), (111, sl g l.length cap)] w1.heap.size [] (lies_nil w1) (by kernel_rfl) fun w2 E2 hL2 hK2 => ?_
    have S2 := S1.below (hK2.below (Nat.le_refl _) (fun k hk => by cases hk))
    refine at_call 14 [.tmp 111] (some 112) [sl g l.length cap] (by kernel_rfl) (by kernel_rfl) (by kernel_rfl) ((hF2 w2 S2).mono fun e w3 hh => ?_)
    obtain ⟨rfl, b3⟩ := hh
    refine ⟨_, rfl, ?_⟩
    have S3 := S2.below b3
    refine at_run 60 (popOp tLf10) w3.heap.size [] [] tLf11 [(1, vr), (16, .string ⟨⟨s⟩⟩), (17, .int .i64 1), (18, .string ⟨⟨s⟩⟩), (19, .int .i64 1), (116, vr)] w3.heap.size [] (lies_nil w3) (by kernel_rfl) fun w4 E4 hL4 hK4 => ?_
    have S4 := S3.below (hK4.below (Nat.le_refl _) (fun k hk => by cases hk))
    refine at_call 21 [.tmp 116] (some 117) [vr] (by kernel_rfl) (by kernel_rfl) (by kernel_rfl) ((hF3 w4 S4.bel).mono fun e w5 hh => ?_)
    obtain ⟨rfl, b5⟩ := hh
    refine ⟨_, rfl, ?_⟩
    have S5 := S4.below b5
    refine at_run 60 (popOp tLf11) w5.heap.size [] [] tLf12 [(16, .string ⟨⟨s⟩⟩), (17, .int .i64 1), (18, .string ⟨⟨s⟩⟩), (19, .int .i64 1), (20, .string ⟨⟨r⟩⟩), (21, .int .i64 0), (121, vr)] w5.heap.size [] (lies_nil w5) (by kernel_rfl) fun w6 E6 hL6 hK6 => ?_
    have S6 := S5.below (hK6.below (Nat.le_refl _) (fun k hk => by cases hk))
    refine at_call 14 [.tmp 121] (some 122) [vr] (by kernel_rfl) (by kernel_rfl) (by kernel_rfl) ((hF4 w6 S6.bel).mono fun e w7 hh => ?_)
    obtain ⟨rfl, b7⟩ := hh
    refine ⟨_, rfl, ?_⟩
    have S7 := S6.below b7
    refine at_run 10 (popOp tLf12) w7.heap.size [] [] tLq1 [(17, .int .i64 1), (19, .int .i64 1), (20, .string ⟨⟨r⟩⟩), (21, .int .i64 0), (22, .string ⟨⟨r⟩⟩), (23, .int .i64 0), (125, .string ⟨⟨s⟩⟩), (126, .string ⟨⟨s⟩⟩)] w7.heap.size [] (lies_nil w7) (by kernel_rfl) fun w8 E8 hL8 hK8 => ?_
    have S8 := S7.below (hK8.below (Nat.le_refl _) (fun k hk => by cases hk))
    refine at_eqs s s (some 127) (by kernel_rfl) ?_
    rw [decide_eq_true (rfl : s = s)]
    refine at_run 8 (popOp tLq1) w8.heap.size [] [] tLq2 [(21, .int .i64 0), (23, .int .i64 0), (133, .bool true), (134, .string ⟨⟨r⟩⟩), (135, .string ⟨⟨r⟩⟩)] w8.heap.size [] (lies_nil w8) (by kernel_rfl) fun w9 E9 hL9 hK9 => ?_
    have S9 := S8.below (hK9.below (Nat.le_refl _) (fun k hk => by cases hk))
    refine at_eqs r r (some 136) (by kernel_rfl) ?_
    rw [decide_eq_true (rfl : r = r)]
    refine at_run 60 (popOp tLq2) w9.heap.size [] [] tLf13 [(143, .bool true)] w9.heap.size [] (lies_nil w9) (by kernel_rfl) fun w10 E10 hL10 hK10 => ?_
    have S10 := S9.below (hK10.below (Nat.le_refl _) (fun k hk => by cases hk))
    refine at_call 12 [] (some 144) [] (by kernel_rfl) (by kernel_rfl) (by kernel_rfl) ((awake_any w10 (reads0_below K.reads K.glob S10.bel)).mono fun e w11 hh => ?_)
    obtain ⟨rfl, b11⟩ := hh
    refine ⟨_, rfl, ?_⟩
    have S11 := S10.below b11
    exact at_endT (fn := Tryz.f5) 60 (.bool true) (by kernel_rfl) (by kernel_rfl) fun w12 B12 => ⟨rfl, (S11.below B12).bel⟩
  · refine at_run 60 (popOp tLf9) w1.heap.size [] [] tLf10 [(1, vr), (16, .string ⟨⟨s⟩⟩), (17, .int .i64 1), (111, sl g l.length cap)] w1.heap.size [] (lies_nil w1) (by kernel_rfl) fun w2 E2 hL2 hK2 => ?_
    have S2 := S1.below (hK2.below (Nat.le_refl _) (fun k hk => by cases hk))
    refine at_call 14 [.tmp 111] (some 112) [sl g l.length cap] (by kernel_rfl) (by kernel_rfl) (by kernel_rfl) ((hF2 w2 S2).mono fun e w3 hh => ?_)
    obtain ⟨rfl, b3⟩ := hh
    refine ⟨_, rfl, ?_⟩
    have S3 := S2.below b3
    refine at_run 60 (popOp tLf10) w3.heap.size [] [] tLf11 [(1, vr), (16, .string ⟨⟨s⟩⟩), (17, .int .i64 1), (18, .string ⟨⟨s⟩⟩), (19, .int .i64 1), (116, vr)] w3.heap.size [] (lies_nil w3) (by kernel_rfl) fun w4 E4 hL4 hK4 => ?_
    have S4 := S3.below (hK4.below (Nat.le_refl _) (fun k hk => by cases hk))
    refine at_call 21 [.tmp 116] (some 117) [vr] (by kernel_rfl) (by kernel_rfl) (by kernel_rfl) ((hF3 w4 S4.bel).mono fun e w5 hh => ?_)
    obtain ⟨rfl, b5⟩ := hh
    refine ⟨_, rfl, ?_⟩
    have S5 := S4.below b5
    refine at_run 60 (popOp tLf11) w5.heap.size [] [] tLf12 [(16, .string ⟨⟨s⟩⟩), (17, .int .i64 1), (18, .string ⟨⟨s⟩⟩), (19, .int .i64 1), (20, .string ⟨⟨r⟩⟩), (21, .int .i64 1), (121, vr)] w5.heap.size [] (lies_nil w5) (by kernel_rfl) fun w6 E6 hL6 hK6 => ?_
    have S6 := S5.below (hK6.below (Nat.le_refl _) (fun k hk => by cases hk))
    refine at_call 14 [.tmp 121] (some 122) [vr] (by kernel_rfl) (by kernel_rfl) (by kernel_rfl) ((hF4 w6 S6.bel).mono fun e w7 hh => ?_)
    obtain ⟨rfl, b7⟩ := hh
    refine ⟨_, rfl, ?_⟩
    have S7 := S6.below b7
    refine at_run 10 (popOp tLf12) w7.heap.size [] [] tLq1 [(17, .int .i64 1), (19, .int .i64 1), (20, .string ⟨⟨r⟩⟩), (21, .int .i64 1), (22, .string ⟨⟨r⟩⟩), (23, .int .i64 1), (125, .string ⟨⟨s⟩⟩), (126, .string ⟨⟨s⟩⟩)] w7.heap.size [] (lies_nil w7) (by kernel_rfl) fun w8 E8 hL8 hK8 => ?_
    have S8 := S7.below (hK8.below (Nat.le_refl _) (fun k hk => by cases hk))
    refine at_eqs s s (some 127) (by kernel_rfl) ?_
    rw [decide_eq_true (rfl : s = s)]
    refine at_run 8 (popOp tLq1) w8.heap.size [] [] tLq2 [(21, .int .i64 1), (23, .int .i64 1), (133, .bool true), (134, .string ⟨⟨r⟩⟩), (135, .string ⟨⟨r⟩⟩)] w8.heap.size [] (lies_nil w8) (by kernel_rfl) fun w9 E9 hL9 hK9 => ?_
    have S9 := S8.below (hK9.below (Nat.le_refl _) (fun k hk => by cases hk))
    refine at_eqs r r (some 136) (by kernel_rfl) ?_
    rw [decide_eq_true (rfl : r = r)]
    refine at_run 60 (popOp tLq2) w9.heap.size [] [] tLf13 [(143, .bool true)] w9.heap.size [] (lies_nil w9) (by kernel_rfl) fun w10 E10 hL10 hK10 => ?_
    have S10 := S9.below (hK10.below (Nat.le_refl _) (fun k hk => by cases hk))
    refine at_call 12 [] (some 144) [] (by kernel_rfl) (by kernel_rfl) (by kernel_rfl) ((awake_any w10 (reads0_below K.reads K.glob S10.bel)).mono fun e w11 hh => ?_)
    obtain ⟨rfl, b11⟩ := hh
    refine ⟨_, rfl, ?_⟩
    have S11 := S10.below b11
    exact at_endT (fn := Tryz.f5) 60 (.bool true) (by kernel_rfl) (by kernel_rfl) fun w12 B12 => ⟨rfl, (S11.below B12).bel⟩
theorem get_cells {c : Cmd} {m : Nat} (hm : m < 13) : ∃ u, c.cells[m]? = some u := ⟨_, List.getElem?_eq_getElem (show m < c.cells.length from hm)⟩
/-- One field is changed, then the formats. -/
theorem law_set (_K : LwC w0 vr raw) {w : World} {E : Nat → Value} {td : List Item} (S : LwS w0 g cap l w) {k m : Nat} (hk : k < l.length) (hm : m < 13) {c' : Cmd} {x : Value} (hx : c'.cells = (l[k]).cells.set m x) (hw : c'.Wf) (t : TypeId) (env : List (Nat × Value))
    (hc : curStore 146 (updL E env) td = some (t, .pointer (some ⟨g, 0 + k * 13 + m, none⟩), x, none)) (hs : (Tryz.prog.info? t).map (·.size) = some 1) (hv : one x = true)
    (h : ∀ w', LwS w0 g cap (l.set k c') w' → At Tryz.prog 5 (LawR w0) (popOp td) (Fr 146 (updL E env)) w') : At Tryz.prog 5 (LawR w0) td (Fr 146 (updL E env)) w := by
  obtain ⟨u, hu⟩ := get_cells (c := l[k]) hm
  exact at_store t g (0 + k * 13 + m) x u hc hs hv (S.cells k hk m u hu) (S.fro _) (h _ (S.set hk hm hx hw))
theorem law_go (K : LwC w0 vr raw) {w : World} {E : Nat → Value} {td : List Item} (_S : LwS w0 g cap l w) (l2 : List Cmd) (hl2 : l2.length = l.length) (S2 : LwS w0 g cap l2 w) (env : List (Nat × Value)) (m : Nat)
    (he : (fun a : St => (a.todo, a.ms.mem, a.ms.sz, ([(1, vr), (12, sl g l.length cap), (106, sl g l.length cap)] : List (Nat × Value)).map (fun p => a.env p.1), a.ms.eqs.map Prod.fst)) (adv Tryz.prog 146 m ⟨td, updL E env, ⟨w.heap.size, [], (0, 0), []⟩, []⟩) = (tLf9, [], w.heap.size, ([(1, vr), (12, sl g l.length cap), (106, sl g l.length cap)] : List (Nat × Value)).map (·.2), (adv Tryz.prog 146 m ⟨td, updL E env, ⟨w.heap.size, [], (0, 0), []⟩, []⟩).ms.eqs.map Prod.snd)) :
    At Tryz.prog 5 (LawR w0) td (Fr 146 (updL E env)) w := by
  refine at_run m td w.heap.size [] [] tLf9 [(1, vr), (12, sl g l.length cap), (106, sl g l.length cap)] w.heap.size [] (lies_nil w) he fun w1 E1 hL1 hK1 => ?_
  have S3 := S2.below (hK1.below (Nat.le_refl _) (fun k hk => by cases hk))
  rw [← hl2]
  exact law_end K S3
theorem law_cases (K : LwC w0 vr raw) {w : World} {E : Nat → Value} (S : LwS w0 g cap l w) {by_ n : Int} {k k4 f : Nat} (hk : k < l.length) (hk4 : k4 < 4) (hf : f < 8) (hby : inR by_) (hn : inR n) :
    At Tryz.prog 5 (LawR w0) (popOp tLf7) (Fr 146 (updL E ([(1, vr), (4, .int .i64 by_), (12, sl g l.length cap), (13, .pointer (some ⟨g, 0 + k * 13, none⟩)), (14, .int .i64 (k4 : Nat)), (15, .int .i64 n)] ++ [(45, .int .i64 (f : Nat))]))) w := by
  have hwf := S.wf (l[k]) (List.getElem_mem hk)
  have h8 : f = 0 ∨ f = 1 ∨ f = 2 ∨ f = 3 ∨ f = 4 ∨ f = 5 ∨ f = 6 ∨ f = 7 := by omega
  have h4 : k4 = 0 ∨ k4 = 1 ∨ k4 = 2 ∨ k4 = 3 := by omega
  have fin : ∀ (l2 : List Cmd) (td : List Item) (wy : World) (Ey : Nat → Value), l2.length = l.length → LwS w0 g cap l2 wy → (advT 60 td = tLf9) → True := fun _ _ _ _ _ _ _ => trivial
  clear fin
  rcases h8 with rfl | rfl | rfl | rfl | rfl | rfl | rfl | rfl
  · refine at_runC 14 [] (popOp tLf7) w.heap.size [] tS0 [(1, vr), (12, sl g l.length cap), (52, .pointer (some ⟨g, 0 + k * 13 + 1 + 2, none⟩)), (49, .int .i64 n)] w.heap.size [] (lies_nil w) (by kernel_rfl) fun w1 E1 hL1 hK1 => ?_
    have S1 := S.below (hK1.below (Nat.le_refl _) (fun k hk => by cases hk))
    refine law_set K S1 (m := 3) (c' := { l[k] with fr := n }) hk (by decide) rfl ⟨hwf.kind, hwf.emp, hwf.fk, hn, hwf.val, hwf.ext, hwf.rnk, hwf.per, hwf.torn, hwf.stop, hwf.wh, hwf.nm, hwf.txt⟩ 3 _ (by kernel_rfl) (by kernel_rfl) rfl fun w2 S2 => ?_
    refine at_run 60 (popOp tS0) w2.heap.size [] [] tLf9 [(1, vr), (12, sl g l.length cap), (106, sl g l.length cap)] w2.heap.size [] (lies_nil w2) (by kernel_rfl) fun w3 E3 hL3 hK3 => ?_
    have S3 := S2.below (hK3.below (Nat.le_refl _) (fun k hk => by cases hk))
    have e := law_end (E := E3) K S3
    rw [List.length_set] at e
    exact e
  · refine at_runC 20 [] (popOp tLf7) w.heap.size [] tS1 [(1, vr), (12, sl g l.length cap), (59, .pointer (some ⟨g, 0 + k * 13 + 1 + 4, none⟩)), (56, .int .i64 n)] w.heap.size [] (lies_nil w) (by kernel_rfl) fun w1 E1 hL1 hK1 => ?_
    have S1 := S.below (hK1.below (Nat.le_refl _) (fun k hk => by cases hk))
    refine law_set K S1 (m := 5) (c' := { l[k] with val := n }) hk (by decide) rfl ⟨hwf.kind, hwf.emp, hwf.fk, hwf.fr, hn, hwf.ext, hwf.rnk, hwf.per, hwf.torn, hwf.stop, hwf.wh, hwf.nm, hwf.txt⟩ 3 _ (by kernel_rfl) (by kernel_rfl) rfl fun w2 S2 => ?_
    refine at_run 60 (popOp tS1) w2.heap.size [] [] tLf9 [(1, vr), (12, sl g l.length cap), (106, sl g l.length cap)] w2.heap.size [] (lies_nil w2) (by kernel_rfl) fun w3 E3 hL3 hK3 => ?_
    have S3 := S2.below (hK3.below (Nat.le_refl _) (fun k hk => by cases hk))
    have e := law_end (E := E3) K S3
    rw [List.length_set] at e
    exact e
  · refine at_runC 25 [] (popOp tLf7) w.heap.size [] tS2 [(1, vr), (12, sl g l.length cap), (65, .pointer (some ⟨g, 0 + k * 13 + 9, none⟩)), (63, .int .i64 n)] w.heap.size [] (lies_nil w) (by kernel_rfl) fun w1 E1 hL1 hK1 => ?_
    have S1 := S.below (hK1.below (Nat.le_refl _) (fun k hk => by cases hk))
    refine law_set K S1 (m := 9) (c' := { l[k] with per := n }) hk (by decide) rfl ⟨hwf.kind, hwf.emp, hwf.fk, hwf.fr, hwf.val, hwf.ext, hwf.rnk, hn, hwf.torn, hwf.stop, hwf.wh, hwf.nm, hwf.txt⟩ 3 _ (by kernel_rfl) (by kernel_rfl) rfl fun w2 S2 => ?_
    refine at_run 60 (popOp tS2) w2.heap.size [] [] tLf9 [(1, vr), (12, sl g l.length cap), (106, sl g l.length cap)] w2.heap.size [] (lies_nil w2) (by kernel_rfl) fun w3 E3 hL3 hK3 => ?_
    have S3 := S2.below (hK3.below (Nat.le_refl _) (fun k hk => by cases hk))
    have e := law_end (E := E3) K S3
    rw [List.length_set] at e
    exact e
  · rcases h4 with rfl | rfl | rfl | rfl
    · refine at_runC 35 [] (popOp tLf7) w.heap.size [] tS3 [(1, vr), (12, sl g l.length cap), (75, .pointer (some ⟨g, 0 + k * 13 + 1 + 3, none⟩)), (72, .string ⟨⟨[]⟩⟩)] (w.heap.size + 1) [⟨w.heap.size, 0, [.string ⟨⟨[]⟩⟩, .string ⟨⟨[97]⟩⟩, .string ⟨⟨[65]⟩⟩, .string ⟨⟨[105, 102]⟩⟩], 9, true⟩] (lies_nil w) (by kernel_rfl) fun w1 E1 hL1 hK1 => ?_
      have S1 := S.below (hK1.below (Nat.le_refl _) (fun k hk => by cases hk))
      refine law_set K S1 (m := 4) (c' := { l[k] with nm := [] }) hk (by decide) rfl ⟨hwf.kind, hwf.emp, hwf.fk, hwf.fr, hwf.val, hwf.ext, hwf.rnk, hwf.per, hwf.torn, hwf.stop, hwf.wh, Nat.le_of_ble_eq_true rfl, hwf.txt⟩ 9 _ (by kernel_rfl) (by kernel_rfl) rfl fun w2 S2 => ?_
      refine at_run 60 (popOp tS3) w2.heap.size [] [] tLf9 [(1, vr), (12, sl g l.length cap), (106, sl g l.length cap)] w2.heap.size [] (lies_nil w2) (by kernel_rfl) fun w3 E3 hL3 hK3 => ?_
      have S3 := S2.below (hK3.below (Nat.le_refl _) (fun k hk => by cases hk))
      have e := law_end (E := E3) K S3
      rw [List.length_set] at e
      exact e
    · refine at_runC 35 [] (popOp tLf7) w.heap.size [] tS3 [(1, vr), (12, sl g l.length cap), (75, .pointer (some ⟨g, 0 + k * 13 + 1 + 3, none⟩)), (72, .string ⟨⟨[97]⟩⟩)] (w.heap.size + 1) [⟨w.heap.size, 0, [.string ⟨⟨[]⟩⟩, .string ⟨⟨[97]⟩⟩, .string ⟨⟨[65]⟩⟩, .string ⟨⟨[105, 102]⟩⟩], 9, true⟩] (lies_nil w) (by kernel_rfl) fun w1 E1 hL1 hK1 => ?_
      have S1 := S.below (hK1.below (Nat.le_refl _) (fun k hk => by cases hk))
      refine law_set K S1 (m := 4) (c' := { l[k] with nm := [97] }) hk (by decide) rfl ⟨hwf.kind, hwf.emp, hwf.fk, hwf.fr, hwf.val, hwf.ext, hwf.rnk, hwf.per, hwf.torn, hwf.stop, hwf.wh, Nat.le_of_ble_eq_true rfl, hwf.txt⟩ 9 _ (by kernel_rfl) (by kernel_rfl) rfl fun w2 S2 => ?_
      refine at_run 60 (popOp tS3) w2.heap.size [] [] tLf9 [(1, vr), (12, sl g l.length cap), (106, sl g l.length cap)] w2.heap.size [] (lies_nil w2) (by kernel_rfl) fun w3 E3 hL3 hK3 => ?_
      have S3 := S2.below (hK3.below (Nat.le_refl _) (fun k hk => by cases hk))
      have e := law_end (E := E3) K S3
      rw [List.length_set] at e
      exact e
    · refine at_runC 35 [] (popOp tLf7) w.heap.size [] tS3 [(1, vr), (12, sl g l.length cap), (75, .pointer (some ⟨g, 0 + k * 13 + 1 + 3, none⟩)), (72, .string ⟨⟨[65]⟩⟩)] (w.heap.size + 1) [⟨w.heap.size, 0, [.string ⟨⟨[]⟩⟩, .string ⟨⟨[97]⟩⟩, .string ⟨⟨[65]⟩⟩, .string ⟨⟨[105, 102]⟩⟩], 9, true⟩] (lies_nil w) (by kernel_rfl) fun w1 E1 hL1 hK1 => ?_
      have S1 := S.below (hK1.below (Nat.le_refl _) (fun k hk => by cases hk))
      refine law_set K S1 (m := 4) (c' := { l[k] with nm := [65] }) hk (by decide) rfl ⟨hwf.kind, hwf.emp, hwf.fk, hwf.fr, hwf.val, hwf.ext, hwf.rnk, hwf.per, hwf.torn, hwf.stop, hwf.wh, Nat.le_of_ble_eq_true rfl, hwf.txt⟩ 9 _ (by kernel_rfl) (by kernel_rfl) rfl fun w2 S2 => ?_
      refine at_run 60 (popOp tS3) w2.heap.size [] [] tLf9 [(1, vr), (12, sl g l.length cap), (106, sl g l.length cap)] w2.heap.size [] (lies_nil w2) (by kernel_rfl) fun w3 E3 hL3 hK3 => ?_
      have S3 := S2.below (hK3.below (Nat.le_refl _) (fun k hk => by cases hk))
      have e := law_end (E := E3) K S3
      rw [List.length_set] at e
      exact e
    · refine at_runC 35 [] (popOp tLf7) w.heap.size [] tS3 [(1, vr), (12, sl g l.length cap), (75, .pointer (some ⟨g, 0 + k * 13 + 1 + 3, none⟩)), (72, .string ⟨⟨[105, 102]⟩⟩)] (w.heap.size + 1) [⟨w.heap.size, 0, [.string ⟨⟨[]⟩⟩, .string ⟨⟨[97]⟩⟩, .string ⟨⟨[65]⟩⟩, .string ⟨⟨[105, 102]⟩⟩], 9, true⟩] (lies_nil w) (by kernel_rfl) fun w1 E1 hL1 hK1 => ?_
      have S1 := S.below (hK1.below (Nat.le_refl _) (fun k hk => by cases hk))
      refine law_set K S1 (m := 4) (c' := { l[k] with nm := [105, 102] }) hk (by decide) rfl ⟨hwf.kind, hwf.emp, hwf.fk, hwf.fr, hwf.val, hwf.ext, hwf.rnk, hwf.per, hwf.torn, hwf.stop, hwf.wh, Nat.le_of_ble_eq_true rfl, hwf.txt⟩ 9 _ (by kernel_rfl) (by kernel_rfl) rfl fun w2 S2 => ?_
      refine at_run 60 (popOp tS3) w2.heap.size [] [] tLf9 [(1, vr), (12, sl g l.length cap), (106, sl g l.length cap)] w2.heap.size [] (lies_nil w2) (by kernel_rfl) fun w3 E3 hL3 hK3 => ?_
      have S3 := S2.below (hK3.below (Nat.le_refl _) (fun k hk => by cases hk))
      have e := law_end (E := E3) K S3
      rw [List.length_set] at e
      exact e
  · rcases h4 with rfl | rfl | rfl | rfl
    · refine at_runC 41 [] (popOp tLf7) w.heap.size [] tS4 [(1, vr), (12, sl g l.length cap), (85, .pointer (some ⟨g, 0 + k * 13 + 1 + 7, none⟩)), (82, .string ⟨⟨[]⟩⟩)] (w.heap.size + 1) [⟨w.heap.size, 0, [.string ⟨⟨[]⟩⟩, .string ⟨⟨[97, 10]⟩⟩, .string ⟨⟨[97]⟩⟩, .string ⟨⟨[97, 10, 101, 110, 100, 10, 98, 10]⟩⟩], 9, true⟩] (lies_nil w) (by kernel_rfl) fun w1 E1 hL1 hK1 => ?_
      have S1 := S.below (hK1.below (Nat.le_refl _) (fun k hk => by cases hk))
      refine law_set K S1 (m := 8) (c' := { l[k] with txt := [] }) hk (by decide) rfl ⟨hwf.kind, hwf.emp, hwf.fk, hwf.fr, hwf.val, hwf.ext, hwf.rnk, hwf.per, hwf.torn, hwf.stop, hwf.wh, hwf.nm, Nat.le_of_ble_eq_true rfl⟩ 9 _ (by kernel_rfl) (by kernel_rfl) rfl fun w2 S2 => ?_
      refine at_run 60 (popOp tS4) w2.heap.size [] [] tLf9 [(1, vr), (12, sl g l.length cap), (106, sl g l.length cap)] w2.heap.size [] (lies_nil w2) (by kernel_rfl) fun w3 E3 hL3 hK3 => ?_
      have S3 := S2.below (hK3.below (Nat.le_refl _) (fun k hk => by cases hk))
      have e := law_end (E := E3) K S3
      rw [List.length_set] at e
      exact e
    · refine at_runC 41 [] (popOp tLf7) w.heap.size [] tS4 [(1, vr), (12, sl g l.length cap), (85, .pointer (some ⟨g, 0 + k * 13 + 1 + 7, none⟩)), (82, .string ⟨⟨[97, 10]⟩⟩)] (w.heap.size + 1) [⟨w.heap.size, 0, [.string ⟨⟨[]⟩⟩, .string ⟨⟨[97, 10]⟩⟩, .string ⟨⟨[97]⟩⟩, .string ⟨⟨[97, 10, 101, 110, 100, 10, 98, 10]⟩⟩], 9, true⟩] (lies_nil w) (by kernel_rfl) fun w1 E1 hL1 hK1 => ?_
      have S1 := S.below (hK1.below (Nat.le_refl _) (fun k hk => by cases hk))
      refine law_set K S1 (m := 8) (c' := { l[k] with txt := [97, 10] }) hk (by decide) rfl ⟨hwf.kind, hwf.emp, hwf.fk, hwf.fr, hwf.val, hwf.ext, hwf.rnk, hwf.per, hwf.torn, hwf.stop, hwf.wh, hwf.nm, Nat.le_of_ble_eq_true rfl⟩ 9 _ (by kernel_rfl) (by kernel_rfl) rfl fun w2 S2 => ?_
      refine at_run 60 (popOp tS4) w2.heap.size [] [] tLf9 [(1, vr), (12, sl g l.length cap), (106, sl g l.length cap)] w2.heap.size [] (lies_nil w2) (by kernel_rfl) fun w3 E3 hL3 hK3 => ?_
      have S3 := S2.below (hK3.below (Nat.le_refl _) (fun k hk => by cases hk))
      have e := law_end (E := E3) K S3
      rw [List.length_set] at e
      exact e
    · refine at_runC 41 [] (popOp tLf7) w.heap.size [] tS4 [(1, vr), (12, sl g l.length cap), (85, .pointer (some ⟨g, 0 + k * 13 + 1 + 7, none⟩)), (82, .string ⟨⟨[97]⟩⟩)] (w.heap.size + 1) [⟨w.heap.size, 0, [.string ⟨⟨[]⟩⟩, .string ⟨⟨[97, 10]⟩⟩, .string ⟨⟨[97]⟩⟩, .string ⟨⟨[97, 10, 101, 110, 100, 10, 98, 10]⟩⟩], 9, true⟩] (lies_nil w) (by kernel_rfl) fun w1 E1 hL1 hK1 => ?_
      have S1 := S.below (hK1.below (Nat.le_refl _) (fun k hk => by cases hk))
      refine law_set K S1 (m := 8) (c' := { l[k] with txt := [97] }) hk (by decide) rfl ⟨hwf.kind, hwf.emp, hwf.fk, hwf.fr, hwf.val, hwf.ext, hwf.rnk, hwf.per, hwf.torn, hwf.stop, hwf.wh, hwf.nm, Nat.le_of_ble_eq_true rfl⟩ 9 _ (by kernel_rfl) (by kernel_rfl) rfl fun w2 S2 => ?_
      refine at_run 60 (popOp tS4) w2.heap.size [] [] tLf9 [(1, vr), (12, sl g l.length cap), (106, sl g l.length cap)] w2.heap.size [] (lies_nil w2) (by kernel_rfl) fun w3 E3 hL3 hK3 => ?_
      have S3 := S2.below (hK3.below (Nat.le_refl _) (fun k hk => by cases hk))
      have e := law_end (E := E3) K S3
      rw [List.length_set] at e
      exact e
    · refine at_runC 41 [] (popOp tLf7) w.heap.size [] tS4 [(1, vr), (12, sl g l.length cap), (85, .pointer (some ⟨g, 0 + k * 13 + 1 + 7, none⟩)), (82, .string ⟨⟨[97, 10, 101, 110, 100, 10, 98, 10]⟩⟩)] (w.heap.size + 1) [⟨w.heap.size, 0, [.string ⟨⟨[]⟩⟩, .string ⟨⟨[97, 10]⟩⟩, .string ⟨⟨[97]⟩⟩, .string ⟨⟨[97, 10, 101, 110, 100, 10, 98, 10]⟩⟩], 9, true⟩] (lies_nil w) (by kernel_rfl) fun w1 E1 hL1 hK1 => ?_
      have S1 := S.below (hK1.below (Nat.le_refl _) (fun k hk => by cases hk))
      refine law_set K S1 (m := 8) (c' := { l[k] with txt := [97, 10, 101, 110, 100, 10, 98, 10] }) hk (by decide) rfl ⟨hwf.kind, hwf.emp, hwf.fk, hwf.fr, hwf.val, hwf.ext, hwf.rnk, hwf.per, hwf.torn, hwf.stop, hwf.wh, hwf.nm, Nat.le_of_ble_eq_true rfl⟩ 9 _ (by kernel_rfl) (by kernel_rfl) rfl fun w2 S2 => ?_
      refine at_run 60 (popOp tS4) w2.heap.size [] [] tLf9 [(1, vr), (12, sl g l.length cap), (106, sl g l.length cap)] w2.heap.size [] (lies_nil w2) (by kernel_rfl) fun w3 E3 hL3 hK3 => ?_
      have S3 := S2.below (hK3.below (Nat.le_refl _) (fun k hk => by cases hk))
      have e := law_end (E := E3) K S3
      rw [List.length_set] at e
      exact e
  · refine at_runC 43 [] (popOp tLf7) w.heap.size [] tS5 [(1, vr), (12, sl g l.length cap), (91, .pointer (some ⟨g, 0 + k * 13 + 0, none⟩)), (89, .int .i64 by_)] w.heap.size [] (lies_nil w) (by kernel_rfl) fun w1 E1 hL1 hK1 => ?_
    have S1 := S.below (hK1.below (Nat.le_refl _) (fun k hk => by cases hk))
    refine law_set K S1 (m := 0) (c' := { l[k] with kind := by_ }) hk (by decide) rfl ⟨hby, hwf.emp, hwf.fk, hwf.fr, hwf.val, hwf.ext, hwf.rnk, hwf.per, hwf.torn, hwf.stop, hwf.wh, hwf.nm, hwf.txt⟩ 3 _ (by kernel_rfl) (by kernel_rfl) rfl fun w2 S2 => ?_
    refine at_run 60 (popOp tS5) w2.heap.size [] [] tLf9 [(1, vr), (12, sl g l.length cap), (106, sl g l.length cap)] w2.heap.size [] (lies_nil w2) (by kernel_rfl) fun w3 E3 hL3 hK3 => ?_
    have S3 := S2.below (hK3.below (Nat.le_refl _) (fun k hk => by cases hk))
    have e := law_end (E := E3) K S3
    rw [List.length_set] at e
    exact e
  · rcases h4 with rfl | rfl | rfl | rfl
    · refine at_runC 54 [] (popOp tLf7) w.heap.size [] tS6 [(1, vr), (12, sl g l.length cap), (95, .pointer (some ⟨g, 0 + k * 13, none⟩)), (99, .int .u64 0), (100, .int .i64 n), (102, .pointer (some ⟨g, 0 + k * 13 + 10, none⟩))] (w.heap.size + 1) [⟨w.heap.size, 0, [.int .u64 0, .int .u64 1000000000000000000, .int .u64 1000000000000000001, .int .u64 18446744073709551615], 62, true⟩] (lies_nil w) (by kernel_rfl) fun w1 E1 hL1 hK1 => ?_
      have S1 := S.below (hK1.below (Nat.le_refl _) (fun k hk => by cases hk))
      refine law_set K S1 (m := 10) (c' := { l[k] with wh := 0 }) hk (by decide) rfl ⟨hwf.kind, hwf.emp, hwf.fk, hwf.fr, hwf.val, hwf.ext, hwf.rnk, hwf.per, hwf.torn, hwf.stop, (by decide : (0 : Nat) < 18446744073709551616), hwf.nm, hwf.txt⟩ 62 _ (by kernel_rfl) (by kernel_rfl) rfl fun w2 S2 => ?_
      refine at_run 2 (popOp tS6) w2.heap.size [] [] tS7 [(1, vr), (12, sl g l.length cap), (100, .int .i64 n), (104, .pointer (some ⟨g, 0 + k * 13 + 11, none⟩))] w2.heap.size [] (lies_nil w2) (by kernel_rfl) fun w3 E3 hL3 hK3 => ?_
      have S3 := S2.below (hK3.below (Nat.le_refl _) (fun k hk => by cases hk))
      have hk' : k < (l.set k { l[k] with wh := 0 }).length := by rw [List.length_set]; exact hk
      have hwf' := S3.wf _ (List.getElem_mem hk')
      refine law_set K S3 (m := 11) (c' := { (l.set k { l[k] with wh := 0 })[k] with torn := n }) hk' (by decide) rfl ⟨hwf'.kind, hwf'.emp, hwf'.fk, hwf'.fr, hwf'.val, hwf'.ext, hwf'.rnk, hwf'.per, hn, hwf'.stop, hwf'.wh, hwf'.nm, hwf'.txt⟩ 3 _ (by kernel_rfl) (by kernel_rfl) rfl fun w4 S4 => ?_
      refine at_run 60 (popOp tS7) w4.heap.size [] [] tLf9 [(1, vr), (12, sl g l.length cap), (106, sl g l.length cap)] w4.heap.size [] (lies_nil w4) (by kernel_rfl) fun w5 E5 hL5 hK5 => ?_
      have S5 := S4.below (hK5.below (Nat.le_refl _) (fun k hk => by cases hk))
      have e := law_end (E := E5) K S5
      rw [List.length_set, List.length_set] at e
      exact e
    · refine at_runC 54 [] (popOp tLf7) w.heap.size [] tS6 [(1, vr), (12, sl g l.length cap), (95, .pointer (some ⟨g, 0 + k * 13, none⟩)), (99, .int .u64 1000000000000000000), (100, .int .i64 n), (102, .pointer (some ⟨g, 0 + k * 13 + 10, none⟩))] (w.heap.size + 1) [⟨w.heap.size, 0, [.int .u64 0, .int .u64 1000000000000000000, .int .u64 1000000000000000001, .int .u64 18446744073709551615], 62, true⟩] (lies_nil w) (by kernel_rfl) fun w1 E1 hL1 hK1 => ?_
      have S1 := S.below (hK1.below (Nat.le_refl _) (fun k hk => by cases hk))
      refine law_set K S1 (m := 10) (c' := { l[k] with wh := 1000000000000000000 }) hk (by decide) rfl ⟨hwf.kind, hwf.emp, hwf.fk, hwf.fr, hwf.val, hwf.ext, hwf.rnk, hwf.per, hwf.torn, hwf.stop, (by decide : (1000000000000000000 : Nat) < 18446744073709551616), hwf.nm, hwf.txt⟩ 62 _ (by kernel_rfl) (by kernel_rfl) rfl fun w2 S2 => ?_
      refine at_run 2 (popOp tS6) w2.heap.size [] [] tS7 [(1, vr), (12, sl g l.length cap), (100, .int .i64 n), (104, .pointer (some ⟨g, 0 + k * 13 + 11, none⟩))] w2.heap.size [] (lies_nil w2) (by kernel_rfl) fun w3 E3 hL3 hK3 => ?_
      have S3 := S2.below (hK3.below (Nat.le_refl _) (fun k hk => by cases hk))
      have hk' : k < (l.set k { l[k] with wh := 1000000000000000000 }).length := by rw [List.length_set]; exact hk
      have hwf' := S3.wf _ (List.getElem_mem hk')
      refine law_set K S3 (m := 11) (c' := { (l.set k { l[k] with wh := 1000000000000000000 })[k] with torn := n }) hk' (by decide) rfl ⟨hwf'.kind, hwf'.emp, hwf'.fk, hwf'.fr, hwf'.val, hwf'.ext, hwf'.rnk, hwf'.per, hn, hwf'.stop, hwf'.wh, hwf'.nm, hwf'.txt⟩ 3 _ (by kernel_rfl) (by kernel_rfl) rfl fun w4 S4 => ?_
      refine at_run 60 (popOp tS7) w4.heap.size [] [] tLf9 [(1, vr), (12, sl g l.length cap), (106, sl g l.length cap)] w4.heap.size [] (lies_nil w4) (by kernel_rfl) fun w5 E5 hL5 hK5 => ?_
      have S5 := S4.below (hK5.below (Nat.le_refl _) (fun k hk => by cases hk))
      have e := law_end (E := E5) K S5
      rw [List.length_set, List.length_set] at e
      exact e
    · refine at_runC 54 [] (popOp tLf7) w.heap.size [] tS6 [(1, vr), (12, sl g l.length cap), (95, .pointer (some ⟨g, 0 + k * 13, none⟩)), (99, .int .u64 1000000000000000001), (100, .int .i64 n), (102, .pointer (some ⟨g, 0 + k * 13 + 10, none⟩))] (w.heap.size + 1) [⟨w.heap.size, 0, [.int .u64 0, .int .u64 1000000000000000000, .int .u64 1000000000000000001, .int .u64 18446744073709551615], 62, true⟩] (lies_nil w) (by kernel_rfl) fun w1 E1 hL1 hK1 => ?_
      have S1 := S.below (hK1.below (Nat.le_refl _) (fun k hk => by cases hk))
      refine law_set K S1 (m := 10) (c' := { l[k] with wh := 1000000000000000001 }) hk (by decide) rfl ⟨hwf.kind, hwf.emp, hwf.fk, hwf.fr, hwf.val, hwf.ext, hwf.rnk, hwf.per, hwf.torn, hwf.stop, (by decide : (1000000000000000001 : Nat) < 18446744073709551616), hwf.nm, hwf.txt⟩ 62 _ (by kernel_rfl) (by kernel_rfl) rfl fun w2 S2 => ?_
      refine at_run 2 (popOp tS6) w2.heap.size [] [] tS7 [(1, vr), (12, sl g l.length cap), (100, .int .i64 n), (104, .pointer (some ⟨g, 0 + k * 13 + 11, none⟩))] w2.heap.size [] (lies_nil w2) (by kernel_rfl) fun w3 E3 hL3 hK3 => ?_
      have S3 := S2.below (hK3.below (Nat.le_refl _) (fun k hk => by cases hk))
      have hk' : k < (l.set k { l[k] with wh := 1000000000000000001 }).length := by rw [List.length_set]; exact hk
      have hwf' := S3.wf _ (List.getElem_mem hk')
      refine law_set K S3 (m := 11) (c' := { (l.set k { l[k] with wh := 1000000000000000001 })[k] with torn := n }) hk' (by decide) rfl ⟨hwf'.kind, hwf'.emp, hwf'.fk, hwf'.fr, hwf'.val, hwf'.ext, hwf'.rnk, hwf'.per, hn, hwf'.stop, hwf'.wh, hwf'.nm, hwf'.txt⟩ 3 _ (by kernel_rfl) (by kernel_rfl) rfl fun w4 S4 => ?_
      refine at_run 60 (popOp tS7) w4.heap.size [] [] tLf9 [(1, vr), (12, sl g l.length cap), (106, sl g l.length cap)] w4.heap.size [] (lies_nil w4) (by kernel_rfl) fun w5 E5 hL5 hK5 => ?_
      have S5 := S4.below (hK5.below (Nat.le_refl _) (fun k hk => by cases hk))
      have e := law_end (E := E5) K S5
      rw [List.length_set, List.length_set] at e
      exact e
    · refine at_runC 54 [] (popOp tLf7) w.heap.size [] tS6 [(1, vr), (12, sl g l.length cap), (95, .pointer (some ⟨g, 0 + k * 13, none⟩)), (99, .int .u64 18446744073709551615), (100, .int .i64 n), (102, .pointer (some ⟨g, 0 + k * 13 + 10, none⟩))] (w.heap.size + 1) [⟨w.heap.size, 0, [.int .u64 0, .int .u64 1000000000000000000, .int .u64 1000000000000000001, .int .u64 18446744073709551615], 62, true⟩] (lies_nil w) (by kernel_rfl) fun w1 E1 hL1 hK1 => ?_
      have S1 := S.below (hK1.below (Nat.le_refl _) (fun k hk => by cases hk))
      refine law_set K S1 (m := 10) (c' := { l[k] with wh := 18446744073709551615 }) hk (by decide) rfl ⟨hwf.kind, hwf.emp, hwf.fk, hwf.fr, hwf.val, hwf.ext, hwf.rnk, hwf.per, hwf.torn, hwf.stop, (by decide : (18446744073709551615 : Nat) < 18446744073709551616), hwf.nm, hwf.txt⟩ 62 _ (by kernel_rfl) (by kernel_rfl) rfl fun w2 S2 => ?_
      refine at_run 2 (popOp tS6) w2.heap.size [] [] tS7 [(1, vr), (12, sl g l.length cap), (100, .int .i64 n), (104, .pointer (some ⟨g, 0 + k * 13 + 11, none⟩))] w2.heap.size [] (lies_nil w2) (by kernel_rfl) fun w3 E3 hL3 hK3 => ?_
      have S3 := S2.below (hK3.below (Nat.le_refl _) (fun k hk => by cases hk))
      have hk' : k < (l.set k { l[k] with wh := 18446744073709551615 }).length := by rw [List.length_set]; exact hk
      have hwf' := S3.wf _ (List.getElem_mem hk')
      refine law_set K S3 (m := 11) (c' := { (l.set k { l[k] with wh := 18446744073709551615 })[k] with torn := n }) hk' (by decide) rfl ⟨hwf'.kind, hwf'.emp, hwf'.fk, hwf'.fr, hwf'.val, hwf'.ext, hwf'.rnk, hwf'.per, hn, hwf'.stop, hwf'.wh, hwf'.nm, hwf'.txt⟩ 3 _ (by kernel_rfl) (by kernel_rfl) rfl fun w4 S4 => ?_
      refine at_run 60 (popOp tS7) w4.heap.size [] [] tLf9 [(1, vr), (12, sl g l.length cap), (106, sl g l.length cap)] w4.heap.size [] (lies_nil w4) (by kernel_rfl) fun w5 E5 hL5 hK5 => ?_
      have S5 := S4.below (hK5.below (Nat.le_refl _) (fun k hk => by cases hk))
      have e := law_end (E := E5) K S5
      rw [List.length_set, List.length_set] at e
      exact e
  · refine at_runC 300 [] (popOp tLf7) w.heap.size [] tLf9 [(1, vr), (12, sl g l.length cap), (106, sl g l.length cap)] w.heap.size [] (lies_nil w) (by kernel_rfl) fun w1 E1 hL1 hK1 => ?_
    exact law_end K (S.below (hK1.below (Nat.le_refl _) (fun k hk => by cases hk)))
theorem formats_any (vi vr : Value) (ns : List Int) (raw : List Cmd) (at_ fld by_ : Int) (w : World) (hi : IntsAt w w.heap.size vi ns) (hr : CmdsAt w w.heap.size vr raw) (hwf : ∀ c ∈ raw, c.WfI) (hrl : raw.length ≤ 9223372036854775807)
    (hC : Con w) (hg : Tryz.prog.globals.size ≤ w.heap.size) (hR : Reads0 Tryz.prog H0 w) (hat : inR at_) (hfl : inR fld) (hby : inR by_) :
    Calls Tryz.prog 5 #[vi, vr, .int .i64 at_, .int .i64 fld, .int .i64 by_] w (LawR w) := by
  obtain ⟨A, ca, rfl, hi1, hi2, hi3⟩ := id hi
  obtain ⟨ar, cr, rfl, _⟩ := id hr
  have hI : IntsAt w w.heap.size (.slice A ns.length ca) ns := hi
  refine calls_at (args := [.slice A ns.length ca, .slice ar raw.length cr, .int .i64 at_, .int .i64 fld, .int .i64 by_]) (fn := Tryz.f5) (c := codeLf) (n := 146) (by kernel_rfl) (by kernel_rfl) (by kernel_rfl) (by kernel_rfl) ?_
  generalize hvr : Value.slice ar raw.length cr = vr at *
  refine at_run 60 [.code codeLf] w.heap.size [] [] tLf0 [(0, .slice A ns.length ca), (1, vr), (2, .int .i64 at_), (3, .int .i64 fld), (4, .int .i64 by_), (24, vr)] w.heap.size [] (lies_nil w) (by kernel_rfl) fun w1 E1 hL1 hK1 => ?_
  have B1 : Below w.heap.size w w1 := hK1.below (Nat.le_refl _) (fun k hk => by cases hk)
  refine at_call 20 [.tmp 24] (some 25) [vr] (by kernel_rfl) (by kernel_rfl) (by kernel_rfl) ((small_any raw vr w1 (hr.below B1.size B1) hrl).mono fun e w2 hh => ?_)
  obtain ⟨rfl, b2⟩ := hh
  refine ⟨_, rfl, ?_⟩
  have B2 := B1.trans (b2.mono B1.size)
  refine at_run 60 (popOp tLf0) w2.heap.size [] [] tLf1 [(0, .slice A ns.length ca), (1, vr), (2, .int .i64 at_), (3, .int .i64 fld), (4, .int .i64 by_), (26, .bool (!(smallL raw)))] w2.heap.size [] (lies_nil w2) (by kernel_rfl) fun w3 E3 hL3 hK3 => ?_
  have B3 := B2.trans ((hK3.below (Nat.le_refl _) (fun k hk => by cases hk) : Below w2.heap.size w2 w3).mono B2.size)
  refine at_cond (!(smallL raw)) (by kernel_rfl) (fun _ => ?_) (fun hs => ?_)
  · refine at_run 60 (thenT tLf1) w3.heap.size [] [] tLfa [] w3.heap.size [] (lies_nil w3) (by kernel_rfl) fun w4 E4 hL4 hK4 => ?_
    have B4 := B3.trans ((hK4.below (Nat.le_refl _) (fun k hk => by cases hk) : Below w3.heap.size w3 w4).mono B3.size)
    refine at_call 12 [] (some 27) [] (by kernel_rfl) (by kernel_rfl) (by kernel_rfl) ((awake_any w4 (reads0_below hR hg B4)).mono fun e w5 hh => ?_)
    obtain ⟨rfl, b5⟩ := hh
    refine ⟨_, rfl, ?_⟩
    have B5 := B4.trans (b5.mono B4.size)
    exact at_endT (fn := Tryz.f5) 60 (.bool true) (by kernel_rfl) (by kernel_rfl) fun w6 B6 => ⟨rfl, B5.trans (B6.mono B5.size)⟩
  have hsm : smallL raw = true := by simpa using hs
  have hlen : raw.length ≤ 20 := by
    have := (Bool.and_eq_true_iff.1 hsm).1
    exact of_decide_eq_true this
  have K : LwC w vr raw := ⟨hC, hg, hR, hr, wf_small hwf hsm, hlen⟩
  refine at_run 60 (elseT tLf1) w3.heap.size [] [] tLf2 [(1, vr), (2, .int .i64 at_), (3, .int .i64 fld), (4, .int .i64 by_), (28, .slice A ns.length ca)] w3.heap.size [] (lies_nil w3) (by kernel_rfl) fun w4 E4 hL4 hK4 => ?_
  have B4 := B3.trans ((hK4.below (Nat.le_refl _) (fun k hk => by cases hk) : Below w3.heap.size w3 w4).mono B3.size)
  refine at_call 13 [.tmp 28] (some 29) [.slice A ns.length ca] (by kernel_rfl) (by kernel_rfl) (by kernel_rfl) ((dnew_any _ ns w4 ((hI.keep fun g hg => B4.block g hg).more B4.size)).mono fun e w5 hh => ?_)
  obtain ⟨rfl, D5, b5⟩ := hh
  refine ⟨_, rfl, ?_⟩
  have B5 := B4.trans (b5.mono B4.size)
  have hb0 := B4.size
  generalize w4.heap.size = b at *
  refine at_run 60 (popOp tLf2) w5.heap.size [] [] tLf3 [(1, vr), (2, .int .i64 at_), (3, .int .i64 fld), (4, .int .i64 by_), (30, pb b)] w5.heap.size [] (lies_nil w5) (by kernel_rfl) fun w6 E6 hL6 hK6 => ?_
  have b6 : Below w5.heap.size w5 w6 := hK6.below (Nat.le_refl _) (fun k hk => by cases hk)
  have B6 := B5.trans (b6.mono B5.size)
  refine at_call 15 [.tmp 30, .const (.int .i64 8), .const (.bool true)] (some 31) [pb b, .int .i64 (8 : Nat), .bool true] (by kernel_rfl) (by kernel_rfl) (by kernel_rfl) ((dcommands_any b ns 0 8 w6 (D5.below b6) (by omega) (by omega)).mono fun e w7 hh => ?_)
  obtain ⟨vc, l, hl1, hl2, rfl, S7⟩ := hh
  refine ⟨_, rfl, ?_⟩
  have B7 := B6.trans (S7.dk.but.below (by omega) B6.size)
  obtain ⟨hol, hown⟩ := S7.own
  rcases hown with ⟨_, h0⟩ | ⟨g, cap, cur, rfl, hbg, hgb, hnc, hcm, hcs, htake⟩
  · omega
  have L7 : LwS w g cap l w7 := by
    refine ⟨B7, by have := B6.size; omega, heap_lt hgb, fun i hi j u hu => ?_, fun j => by unfold World.frozen?; simp [hgb], fun c hc => (S7.gen c hc).wf, hl1, by omega⟩
    unfold World.cell?
    simp only [hgb]
    have hj : j < 13 := (List.getElem?_eq_some_iff.1 hu).1
    have h2 : (l.flatMap Cmd.cells)[0 + i * 13 + j]? = some u := by
      rw [Nat.zero_add]
      have key : ∀ (l : List Cmd) (i : Nat) (hi : i < l.length), (l.flatMap Cmd.cells)[i * 13 + j]? = (l[i]).cells[j]? := by
        intro l
        induction l with
        | nil => intro i hi; exact absurd hi (Nat.not_lt_zero _)
        | cons c l ih =>
          intro i hi
          have hcl : c.cells.length = 13 := rfl
          cases i with
          | zero =>
            rw [List.flatMap_cons, Nat.zero_mul, Nat.zero_add, List.getElem?_append_left (by rw [hcl]; exact hj)]
            rfl
          | succ i =>
            rw [List.flatMap_cons, List.getElem?_append_right (by rw [hcl]; omega), hcl]
            have e : (i + 1) * 13 + j - 13 = i * 13 + j := by omega
            rw [e, ih i (by simpa using hi)]
            rfl
      rw [key l i hi]; exact hu
    rw [← htake] at h2
    rw [List.getElem?_take] at h2
    split at h2
    · rw [Array.getElem?_toList] at h2
      simpa using h2
    · cases h2
  have hll := L7.len
  refine at_run 60 (popOp tLf3) w7.heap.size [] [] tLf4 [(1, vr), (3, .int .i64 fld), (4, .int .i64 by_), (12, sl g l.length cap), (32, sl g l.length cap), (33, .int .i64 at_), (35, .int .i64 l.length)] w7.heap.size [] (lies_nil w7) (by kernel_rfl) fun w8 E8 hL8 hK8 => ?_
  have L8 := L7.below (hK8.below (Nat.le_refl _) (fun k hk => by cases hk))
  refine at_call 10 [.tmp 33, .tmp 35] (some 36) [.int .i64 at_, .int .i64 l.length] (by kernel_rfl) (by kernel_rfl) (by kernel_rfl) ((pmod_any at_ l.length w8 hat.1 hat.2 (by omega) (by omega)).mono fun e w9 hh => ?_)
  obtain ⟨rfl, rfl⟩ := hh
  refine ⟨_, rfl, ?_⟩
  have hm0 := Int.emod_nonneg at_ (show (l.length : Int) ≠ 0 by omega)
  have hm1 := Int.emod_lt_of_pos at_ (show (0 : Int) < l.length by omega)
  obtain ⟨k, hke⟩ := Int.eq_ofNat_of_zero_le hm0
  rw [hke] at hm1 ⊢
  have hk : k < l.length := by omega
  refine at_elem (g := g) (off := 0) (cap := cap) (sz := 13) (k := k) (some 37) (by kernel_rfl) hk Tryz.underlying50 (by kernel_rfl) ?_
  refine at_run 60 (popOp (popOp tLf4)) w8.heap.size [] [] tLf5 [(1, vr), (3, .int .i64 fld), (4, .int .i64 by_), (12, sl g l.length cap), (13, .pointer (some ⟨g, 0 + k * 13, none⟩)), (38, .int .i64 by_)] w8.heap.size [] (lies_nil w8) (by kernel_rfl) fun w9 E9 hL9 hK9 => ?_
  have L9 := L8.below (hK9.below (Nat.le_refl _) (fun k hk => by cases hk))
  refine at_call 10 [.tmp 38, .const (.int .i64 4)] (some 39) [.int .i64 by_, .int .i64 4] (by kernel_rfl) (by kernel_rfl) (by kernel_rfl) ((pmod_any by_ 4 w9 hby.1 hby.2 (by omega) (by omega)).mono fun e w10 hh => ?_)
  obtain ⟨rfl, rfl⟩ := hh
  refine ⟨_, rfl, ?_⟩
  have h40 := Int.emod_nonneg by_ (show (4 : Int) ≠ 0 by omega)
  have h41 := Int.emod_lt_of_pos by_ (show (0 : Int) < 4 by omega)
  obtain ⟨k4, hk4⟩ := Int.eq_ofNat_of_zero_le h40
  rw [hk4] at h41 ⊢
  have rest : ∀ (n : Int) (wx : World) (Ex : Nat → Value), inR n → LwS w g cap l wx → At Tryz.prog 5 (LawR w) tLf7 (Fr 146 (updL Ex [(1, vr), (4, .int .i64 by_), (12, sl g l.length cap), (13, .pointer (some ⟨g, 0 + k * 13, none⟩)), (14, .int .i64 (k4 : Nat)), (15, .int .i64 n), (44, .int .i64 fld)])) wx := by
    intro n wx Ex hn Lx
    refine at_call 10 [.tmp 44, .const (.int .i64 8)] (some 45) [.int .i64 fld, .int .i64 8] (by kernel_rfl) (by kernel_rfl) (by kernel_rfl) ((pmod_any fld 8 wx hfl.1 hfl.2 (by omega) (by omega)).mono fun e w10 hh => ?_)
    obtain ⟨rfl, rfl⟩ := hh
    refine ⟨_, rfl, ?_⟩
    have h80 := Int.emod_nonneg fld (show (8 : Int) ≠ 0 by omega)
    have h81 := Int.emod_lt_of_pos fld (show (0 : Int) < 8 by omega)
    obtain ⟨f, hf⟩ := Int.eq_ofNat_of_zero_le h80
    rw [hf] at h81 ⊢
    refine at_known ([(1, vr), (4, .int .i64 by_), (12, sl g l.length cap), (13, .pointer (some ⟨g, 0 + k * 13, none⟩)), (14, .int .i64 (k4 : Nat)), (15, .int .i64 n)] ++ [(45, .int .i64 (f : Nat))]) (by kernel_rfl) fun E' => ?_
    exact law_cases K Lx hk (by omega) (by omega) hby hn
  have hk4' : k4 = 0 ∨ k4 = 1 ∨ k4 = 2 ∨ k4 = 3 := by omega
  rcases hk4' with rfl | rfl | rfl | rfl
  · refine at_runC 60 [] (popOp tLf5) w9.heap.size [] tLf6 [(1, vr), (4, .int .i64 by_), (12, sl g l.length cap), (13, .pointer (some ⟨g, 0 + k * 13, none⟩)), (14, .int .i64 (0 : Nat)), (15, .int .i64 (1000000000000000000)), (44, .int .i64 fld)] (w9.heap.size + 1) [⟨w9.heap.size, 0, intsM [1000000000000000000, 1000000000000000001, -1000000000000000000, -1000000000000000001], 3, true⟩] (lies_nil w9) (by kernel_rfl) fun w10 E10 hL10 hK10 => ?_
    exact rest (1000000000000000000) w10 E10 (lit_in _ rfl) (L9.below (hK10.below (Nat.le_refl _) (fun k hk => by cases hk)))
  · refine at_runC 60 [] (popOp tLf5) w9.heap.size [] tLf6 [(1, vr), (4, .int .i64 by_), (12, sl g l.length cap), (13, .pointer (some ⟨g, 0 + k * 13, none⟩)), (14, .int .i64 (1 : Nat)), (15, .int .i64 (1000000000000000001)), (44, .int .i64 fld)] (w9.heap.size + 1) [⟨w9.heap.size, 0, intsM [1000000000000000000, 1000000000000000001, -1000000000000000000, -1000000000000000001], 3, true⟩] (lies_nil w9) (by kernel_rfl) fun w10 E10 hL10 hK10 => ?_
    exact rest (1000000000000000001) w10 E10 (lit_in _ rfl) (L9.below (hK10.below (Nat.le_refl _) (fun k hk => by cases hk)))
  · refine at_runC 60 [] (popOp tLf5) w9.heap.size [] tLf6 [(1, vr), (4, .int .i64 by_), (12, sl g l.length cap), (13, .pointer (some ⟨g, 0 + k * 13, none⟩)), (14, .int .i64 (2 : Nat)), (15, .int .i64 (-1000000000000000000)), (44, .int .i64 fld)] (w9.heap.size + 1) [⟨w9.heap.size, 0, intsM [1000000000000000000, 1000000000000000001, -1000000000000000000, -1000000000000000001], 3, true⟩] (lies_nil w9) (by kernel_rfl) fun w10 E10 hL10 hK10 => ?_
    exact rest (-1000000000000000000) w10 E10 (lit_in _ rfl) (L9.below (hK10.below (Nat.le_refl _) (fun k hk => by cases hk)))
  · refine at_runC 60 [] (popOp tLf5) w9.heap.size [] tLf6 [(1, vr), (4, .int .i64 by_), (12, sl g l.length cap), (13, .pointer (some ⟨g, 0 + k * 13, none⟩)), (14, .int .i64 (3 : Nat)), (15, .int .i64 (-1000000000000000001)), (44, .int .i64 fld)] (w9.heap.size + 1) [⟨w9.heap.size, 0, intsM [1000000000000000000, 1000000000000000001, -1000000000000000000, -1000000000000000001], 3, true⟩] (lies_nil w9) (by kernel_rfl) fun w10 E10 hL10 hK10 => ?_
    exact rest (-1000000000000000001) w10 E10 (lit_in _ rfl) (L9.below (hK10.below (Nat.le_refl _) (fun k hk => by cases hk)))
end Go.Proofs.YtdcbnkimjhefkaaGreatDoor

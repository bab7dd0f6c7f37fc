/-
  The reference's Format: a short text.
  The reference's Format, whole: a short text (printed by gen_fmt2.py).
-/
import Derived.Test.YtpdbkbadjgellaaGreatDoorZ32
namespace Go.Proofs.YtpdbkbadjgellaaGreatDoor
open Go.RowKit
section
set_option maxRecDepth 100000
theorem lies_one {u : World} {a : Ent} (ha : a.good u) : Lies ([a].map (·.id)) u.heap.size u ⟨u.heap.size, [a], (0, 0), []⟩ :=
  ⟨⟨rfl, fun e he => by obtain rfl := List.mem_singleton.1 he; exact ha, fun i j e e' hi hj _ hne => by
    have h1 := (List.getElem?_eq_some_iff.1 hi).1
    have h2 := (List.getElem?_eq_some_iff.1 hj).1
    simp at h1 h2
    omega⟩, Nat.le_refl _, fun e he _ => .inl (List.mem_map.2 ⟨e, he, rfl⟩)⟩
theorem lies_two {u : World} {a b : Ent} (ha : a.good u) (hb : b.good u) (hne : a.id ≠ b.id) : Lies ([a, b].map (·.id)) u.heap.size u ⟨u.heap.size, [a, b], (0, 0), []⟩ :=
  ⟨⟨rfl, fun e he => by
    simp only [List.mem_cons, List.not_mem_nil, or_false] at he
    rcases he with rfl | rfl
    · exact ha
    · exact hb, fun i j e e' hi hj _ hij => by
    have h1 := (List.getElem?_eq_some_iff.1 hi).1
    have h2 := (List.getElem?_eq_some_iff.1 hj).1
    simp at h1 h2
    rcases (show i = 0 ∨ i = 1 by omega) with rfl | rfl <;> rcases (show j = 0 ∨ j = 1 by omega) with rfl | rfl
    · exact (hij rfl).elim
    · simp at hi hj; subst hi hj; exact hne
    · simp at hi hj; subst hi hj; exact hne.symm
    · exact (hij rfl).elim⟩, Nat.le_refl _, fun e he _ => .inl (List.mem_map.2 ⟨e, he, rfl⟩)⟩
theorem good_two {u : World} {a b : Ent} (ha : a.good u) (hb : b.good u) : ∀ e ∈ ([a, b] : List Ent), e.good u := fun e he => by
  simp only [List.mem_cons, List.not_mem_nil, or_false] at he
  rcases he with rfl | rfl
  · exact ha
  · exact hb
theorem good_three {u : World} {a b c : Ent} (ha : a.good u) (hb : b.good u) (hc : c.good u) : ∀ e ∈ ([a, b, c] : List Ent), e.good u := fun e he => by
  simp only [List.mem_cons, List.not_mem_nil, or_false] at he
  rcases he with rfl | rfl | rfl
  · exact ha
  · exact hb
  · exact hc
theorem kept_below {w wx wy : World} {O : List Nat} (hB : Below w.heap.size w wx) (hK : Kept O wx.heap.size wx wy) (hO : ∀ k ∈ O, w.heap.size ≤ k) : Below w.heap.size w wy :=
  ⟨hK.os.trans hB.os, hK.tape.trans hB.tape, hK.output.trans hB.output, Nat.le_trans hB.size hK.size, fun i hi => (hK.block i (by have := hB.size; omega) (fun hm => by have := hO i hm; omega)).trans (hB.block i hi)⟩
abbrev agE (w : World) (A : Option Addr) (rn rc : Nat) : Ent := ⟨w.heap.size, 0, [metal, .slice A rn rc], 54, true⟩
abbrev dfE (z : Nat) (cs : List Value) : Ent := ⟨z, 0, cs, 93, true⟩
def SBd (i : Nat) : Nat := 100 + 20000 * i
theorem hbd_of {SB FB T : Nat} (h1 : SB ≤ 30000000) (h2 : FB ≤ 100) (h3 : T ≤ 10000) : ∀ k, k ≤ SB + FB + T + 5000 → Nat.ble k 4000000000000000000 = true := fun k hk => Nat.ble_eq_true_of_le (by omega)
/-- The end of a round. -/
theorem fm_next {w wr : World} {E : Nat → Value} {A : Option Addr} {rn rc i : Nat} {s : ByteArray} {Rr : Ending → World → Prop} (hB : Below w.heap.size w wr) (hg : (agE w A rn rc).good wr) (hi : i < rn) (hn : rn ≤ 1000) (hs : s.size ≤ SBd i + 19000)
    (again : ∀ E' s' w', s'.size ≤ SBd (i + 1) → Below w.heap.size w w' → (agE w A rn rc).good w' → At Tryz.prog 29 Rr (againT tFm4) (Fr 146 (updL E' [(1, pt w.heap.size 0), (3, .string s'), (4, .int .i64 ((i + 1 : Nat) : Int))])) w') :
    At Tryz.prog 29 Rr tFm25 (Fr 146 (updL E [(1, pt w.heap.size 0), (3, .string s), (4, .int .i64 (i : Nat))])) wr := by
  unfold SBd at *
  refine fx25 (A := A) (rn := rn) (rc := rc) (SB := 100 + 20000 * i + 19000) (FB := 0) (T := 0) (fun e he => by obtain rfl := List.mem_singleton.1 he; exact hg) (hbd_of (SB := 100 + 20000 * i + 19000) (FB := 0) (T := 0) (by omega) (by omega) (by omega)) hs fun E1 s1 w1 hs1 hB1 => ?_
  have B1 := hB.trans (hB1.mono hB.size)
  have g1 := good_below hg hB1
  refine at_run (cntG 90 (tailT tFm25)) (tailT tFm25) w1.heap.size [] [] (againT tFm4) [(1, pt w.heap.size 0), (3, .string s1), (4, .int .i64 (IntKind.i64.wrap ((i : Int) + 1)))] w1.heap.size [] (lies_nil w1) (by kernel_rfl) fun w2 E2 _ K => ?_
  have B2 := below_kept K
  have hw2 : IntKind.i64.wrap ((i : Int) + 1) = ((i + 1 : Nat) : Int) := by rw [IntWalk.i64_in _ (by omega)]; omega
  rw [hw2]
  exact again E2 s1 w2 (by omega) (B1.trans (B2.mono B1.size)) (good_below g1 B2)
theorem memN_ids {w : World} {A : Option Addr} {rn rc z : Nat} {cs : List Value} (hz : w.heap.size ≤ z) : ∀ k ∈ ([agE w A rn rc, dfE z cs] : List Ent).map (·.id), w.heap.size ≤ k := fun k hk => by
  simp only [List.map_cons, List.map_nil, List.mem_cons, List.not_mem_nil, or_false] at hk
  omega
section
variable {w wr : World} {E : Nat → Value} {Rr : Ending → World → Prop} {A : Option Addr} {rn rc i z : Nat} {s : ByteArray} {SB : Nat}
  {kind tm th td frm op num den mu hu du cnt md mode sn sd : Int} {dn nm : List UInt8} {tb : Bool} {eB bA : Option Addr} {el ec kn kc : Nat}
/-- The rounds over a scale's entries. -/
theorem fm_scale {es : List (Int × Int × Int)} (hB : Below w.heap.size w wr) (hz : w.heap.size < z) (ga : (agE w A rn rc).good wr) (gd : (dfE z (dC kind dn tb tm th td frm eB es.length ec op num den mu hu du nm cnt md bA kn kc mode sn sd)).good wr) (hs : s.size ≤ SB) (hSB : SB ≤ 25000000) (hes : es.length ≤ 3) (hrow : rowsS (fun _ => True) w 3 eB (es.map entCells))
    (H : ∀ E' s' w', s'.size ≤ SB + 1000 → Below w.heap.size w w' → (agE w A rn rc).good w' → At Tryz.prog 29 Rr tFm25 (Fr 146 (updL E' [(1, pt w.heap.size 0), (3, .string s'), (4, .int .i64 (i : Nat))])) w') :
    At Tryz.prog 29 Rr (tailT tFm16) (Fr 146 (updL E [(1, pt w.heap.size 0), (3, .string s), (4, .int .i64 (i : Nat)), (5, pt z 0)])) wr := by
  refine at_run (cntG 90 (tailT tFm16)) (tailT tFm16) wr.heap.size [] [] tFm17 [(1, pt w.heap.size 0), (3, .string s), (4, .int .i64 (i : Nat)), (5, pt z 0), (7, .int .i64 ((0 : Nat) : Int))] wr.heap.size [] (lies_nil wr) (by kernel_rfl) fun w1 E1 _ K => ?_
  have B1 := hB.trans ((below_kept K).mono hB.size)
  have ga1 := good_below ga (below_kept K)
  have gd1 := good_below gd (below_kept K)
  clear K
  refine at_loop (by kernel_rfl) (fun E u => ∃ E' k s', E = updL E' [(1, pt w.heap.size 0), (3, .string s'), (4, .int .i64 (i : Nat)), (5, pt z 0), (7, .int .i64 (k : Nat))] ∧ k ≤ es.length ∧ s'.size ≤ SB + 310 * k ∧ Below w.heap.size w u ∧ (agE w A rn rc).good u ∧ (dfE z (dC kind dn tb tm th td frm eB es.length ec op num den mu hu du nm cnt md bA kn kc mode sn sd)).good u) (fun E _ => es.length - (iv (E 7)).toNat) ⟨E1, 0, s, rfl, Nat.zero_le _, by omega, B1, ga1, gd1⟩ ?_
  clear B1 ga1 gd1 hB ga gd hs
  rintro E u ⟨E', k, s', rfl, hk, hs, hB, ga, gd⟩ again
  have L := lies_two ga gd (by show w.heap.size ≠ z; omega)
  refine at_run (cntG 90 (bodyT tFm17)) (bodyT tFm17) u.heap.size _ [(1, 7)] tFm18 [(1, pt w.heap.size 0), (3, .string s'), (4, .int .i64 (i : Nat)), (5, pt z 0), (7, .int .i64 (k : Nat)), (99, .bool (decide ((k : Int) < (es.length : Int))))] u.heap.size [agE w A rn rc, dfE z (dC kind dn tb tm th td frm eB es.length ec op num den mu hu du nm cnt md bA kn kc mode sn sd)] L (by kernel_rfl) fun u1 F1 L1 K => ?_
  replace hB := kept_below hB K (memN_ids (by omega))
  replace ga := L1.sat.good _ (List.mem_cons_self ..)
  replace gd := L1.sat.good (dfE z (dC kind dn tb tm th td frm eB es.length ec op num den mu hu du nm cnt md bA kn kc mode sn sd)) (by simp)
  clear L K L1
  refine at_cond (decide ((k : Int) < (es.length : Int))) (by kernel_rfl) (fun hlt => ?_) (fun hlt => ?_)
  · have hlt' : k < es.length := by simpa using hlt
    obtain ⟨e, he⟩ : ∃ e, es[k]? = some e := ⟨_, List.getElem?_eq_getElem hlt'⟩
    rcases hrow with hr0 | ⟨eg, eo, rfl, _, hg, hcell⟩
    · have : es = [] := by simpa using hr0
      rw [this] at hlt'; cases hlt'
    have hrk : (es.map entCells)[k]? = some (entCells e) := by rw [List.getElem?_map, he]; rfl
    have gent : ∀ v, Below w.heap.size w v → (⟨eg, eo + k * 3, [.int .i64 e.1, .int .i64 e.2.1, .int .i64 e.2.2], 96, false⟩ : Ent).good v := fun v hv => by
      refine ⟨Nat.lt_of_lt_of_le hg hv.size, ?_⟩
      rw [if_neg (by simp)]
      intro j x hx
      rw [World.cell?_of_block (w := w) (hv.block eg hg)]
      exact hcell k _ hrk j x hx
    have fin : ∀ (E2 : Nat → Value) (s2 : ByteArray) (v : World), s2.size ≤ SB + 310 * (k + 1) → Below w.heap.size w v → (agE w A rn rc).good v → (dfE z (dC kind dn tb tm th td frm (some ⟨eg, eo, none⟩) es.length ec op num den mu hu du nm cnt md bA kn kc mode sn sd)).good v → ∀ todo, (advG todo = againT tFm17 ∧ True) → (At Tryz.prog 29 Rr (againT tFm17) (Fr 146 (updL E2 [(1, pt w.heap.size 0), (3, .string s2), (4, .int .i64 (i : Nat)), (5, pt z 0), (7, .int .i64 (IntKind.i64.wrap ((k : Int) + 1)))])) v) := fun E2 s2 v h1 h2 h3 h4 _ _ => by
      have hw2 : IntKind.i64.wrap ((k : Int) + 1) = ((k + 1 : Nat) : Int) := by rw [IntWalk.i64_in _ (by omega)]; omega
      rw [hw2]
      refine again _ _ ⟨E2, k + 1, s2, rfl, hlt', h1, h2, h3, h4⟩ ?_
      show es.length - (((k + 1 : Nat) : Int)).toNat < es.length - ((k : Nat) : Int).toNat
      omega
    refine at_run (cntG 90 (thenT tFm18)) (thenT tFm18) u1.heap.size [] [] tFm20 [(1, pt w.heap.size 0), (3, .string s'), (4, .int .i64 (i : Nat)), (5, pt z 0), (7, .int .i64 (k : Nat)), (103, .bool (decide ((0 : Int) < (k : Int))))] u1.heap.size [] (lies_nil u1) (by kernel_rfl) fun u2 F2 _ K => ?_
    have Bk := below_kept K
    replace hB := hB.trans (Bk.mono hB.size)
    replace ga := good_below ga Bk
    replace gd := good_below gd Bk
    clear K Bk
    refine at_cond (decide ((0 : Int) < (k : Int))) (by kernel_rfl) (fun _ => ?_) (fun _ => ?_)
    · refine at_run (cntA 21 90 (thenT tFm20)) (thenT tFm20) u2.heap.size [] [] tFm21 [(1, pt w.heap.size 0), (3, .string s'), (4, .int .i64 (i : Nat)), (5, pt z 0), (7, .int .i64 (k : Nat))] u2.heap.size [] (lies_nil u2) (by kernel_rfl) fun u3 F3 _ K => ?_
      have Bk := below_kept K
      replace hB := hB.trans (Bk.mono hB.size)
      replace ga := good_below ga Bk
      replace gd := good_below gd Bk
      clear K Bk
      refine fx21 (SB := SB + 310 * k) (FB := 0) (T := 0) (good_two ga gd) (hbd_of (SB := SB + 310 * k) (FB := 0) (T := 0) (by omega) (by omega) (by omega)) hs fun E4 s4 u4 hs4 Bk => ?_
      replace hB := hB.trans (Bk.mono hB.size)
      replace ga := good_below ga Bk
      replace gd := good_below gd Bk
      clear Bk
      refine at_run (cntA 22 90 (tailT tFm21)) (tailT tFm21) u4.heap.size [] [] tFm22a [(1, pt w.heap.size 0), (3, .string s4), (4, .int .i64 (i : Nat)), (5, pt z 0), (7, .int .i64 (k : Nat))] u4.heap.size [] (lies_nil u4) (by kernel_rfl) fun u5 F5 _ K => ?_
      have Bk := below_kept K
      replace hB := hB.trans (Bk.mono hB.size)
      replace ga := good_below ga Bk
      replace gd := good_below gd Bk
      clear K Bk
      refine fx22a (SB := SB + 310 * k + 3) (FB := 0) (T := 0) (good_three ga gd (gent _ hB)) (hbd_of (SB := SB + 310 * k + 3) (FB := 0) (T := 0) (by omega) (by omega) (by omega)) hs4 hlt' fun E6 s6 u6 hs6 Bk => ?_
      replace hB := hB.trans (Bk.mono hB.size)
      replace ga := good_below ga Bk
      replace gd := good_below gd Bk
      clear Bk
      refine at_run (cntG 90 (tailT tFm22a)) (tailT tFm22a) u6.heap.size [] [] (againT tFm17) [(1, pt w.heap.size 0), (3, .string s6), (4, .int .i64 (i : Nat)), (5, pt z 0), (7, .int .i64 (IntKind.i64.wrap ((k : Int) + 1)))] u6.heap.size [] (lies_nil u6) (by kernel_rfl) fun u7 F7 _ K => ?_
      have Bk := below_kept K
      exact fin F7 s6 u7 (by omega) (hB.trans (Bk.mono hB.size)) (good_below ga Bk) (good_below gd Bk) (againT tFm17) ⟨by kernel_rfl, trivial⟩
    · refine at_run (cntA 22 90 (elseT tFm20)) (elseT tFm20) u2.heap.size [] [] tFm22b [(1, pt w.heap.size 0), (3, .string s'), (4, .int .i64 (i : Nat)), (5, pt z 0), (7, .int .i64 (k : Nat))] u2.heap.size [] (lies_nil u2) (by kernel_rfl) fun u5 F5 _ K => ?_
      have Bk := below_kept K
      replace hB := hB.trans (Bk.mono hB.size)
      replace ga := good_below ga Bk
      replace gd := good_below gd Bk
      clear K Bk
      refine fx22b (SB := SB + 310 * k) (FB := 0) (T := 0) (good_three ga gd (gent _ hB)) (hbd_of (SB := SB + 310 * k) (FB := 0) (T := 0) (by omega) (by omega) (by omega)) hs hlt' fun E6 s6 u6 hs6 Bk => ?_
      replace hB := hB.trans (Bk.mono hB.size)
      replace ga := good_below ga Bk
      replace gd := good_below gd Bk
      clear Bk
      refine at_run (cntG 90 (tailT tFm22b)) (tailT tFm22b) u6.heap.size [] [] (againT tFm17) [(1, pt w.heap.size 0), (3, .string s6), (4, .int .i64 (i : Nat)), (5, pt z 0), (7, .int .i64 (IntKind.i64.wrap ((k : Int) + 1)))] u6.heap.size [] (lies_nil u6) (by kernel_rfl) fun u7 F7 _ K => ?_
      have Bk := below_kept K
      exact fin F7 s6 u7 (by omega) (hB.trans (Bk.mono hB.size)) (good_below ga Bk) (good_below gd Bk) (againT tFm17) ⟨by kernel_rfl, trivial⟩
  · refine at_run (cntA 25 90 (elseT tFm18)) (elseT tFm18) u1.heap.size [] [] tFm25 [(1, pt w.heap.size 0), (3, .string s'), (4, .int .i64 (i : Nat))] u1.heap.size [] (lies_nil u1) (by kernel_rfl) fun u2 F2 _ K => ?_
    have Bk := below_kept K
    exact H F2 s' u2 (by omega) (hB.trans (Bk.mono hB.size)) (good_below ga Bk)
end
end
end Go.Proofs.YtpdbkbadjgellaaGreatDoor

namespace Go.Proofs.YtpdbkbadjgellaaGreatDoor
open Go.RowKit
section
set_option maxRecDepth 100000
theorem at_opk {P : Program} {f : FuncId} {n : Nat} {R : Ending → World → Prop} {todo : List Item} {E : Nat → Value} {w : World} {K : Value → World → Prop} (o : Oper) (hc : curOp todo = some o) (hg : o.guard = none) (hok : OpOk P o (evE n E) w K) (h : ∀ v w', K v w' → At P f R (popOp todo) (Fr n (updO E o.dst v)) w') : At P f R todo (Fr n E) w := by
  unfold curOp at hc
  split at hc
  · rename_i ops i r k
    refine wpOps_some hc (by unfold Region.wanted; rw [hg]) ?_
    unfold Oper.wp
    rw [eval_Fr]
    unfold OpOk at hok
    have fin : ∀ v w', K v w' → wpOps P ops (fun e a w => e = .normal ∧ Mid P f R k a w) r ((Fr n E).put o.dst v) w' := fun v w' hk => by
      rw [Fr_put]
      exact h v w' hk
    generalize (execOp (evE n E) o).run P w = res at hok ⊢
    cases res with
    | ok x w' =>
      cases x with
      | value v => exact fin v w' hok
      | skip => exact fin undef w' hok
      | enter f args =>
        refine Calls.mono hok fun e w'' hh => ?_
        obtain ⟨v, rfl, hk⟩ := hh
        exact fin v w'' hk
      | _ => exact hok.elim
    | halt hh w' => exact hok.elim
  · cases hc
/-- One definition. -/
theorem fm_def {w wr : World} {E : Nat → Value} {Rr : Ending → World → Prop} {A : Option Addr} {rn rc i z : Nat} {s : ByteArray} {d : Df} {eA bA : Option Addr} {ec kn kc : Nat} {a0 a1 a2 a3 a4 a5 a7 a8 : Int} {a6 : List UInt8}
    (hB : Below w.heap.size w wr) (hz : w.heap.size < z) (ga : (agE w A rn rc).good wr) (gd : (dfE z (dC d.kind d.name d.tb d.tm d.th d.td d.frm eA d.ents.length ec a0 a1 a2 a3 a4 a5 a6 a7 a8 bA kn kc d.mode d.num d.den)).good wr) (hi : i ≤ 1000) (hs : s.size ≤ SBd i) (hd : okDef 3 d) (hrow : rowsS (fun _ => True) w 3 eA (d.ents.map entCells)) (hx : exS (fun _ => True) w d.body (exC a0 a1 a2 a3 a4 a5 a6 a7 a8 bA kn kc))
    (H : ∀ E' s' w', s'.size ≤ SBd i + 19000 → Below w.heap.size w w' → (agE w A rn rc).good w' → At Tryz.prog 29 Rr tFm25 (Fr 146 (updL E' [(1, pt w.heap.size 0), (3, .string s'), (4, .int .i64 (i : Nat))])) w') :
    At Tryz.prog 29 Rr tFm8 (Fr 146 (updL E [(1, pt w.heap.size 0), (3, .string s), (4, .int .i64 (i : Nat)), (5, pt z 0)])) wr := by
  have hSB : SBd i ≤ 20000100 := by unfold SBd; omega
  generalize SBd i = SB at *
  unfold okDef at hd
  obtain ⟨k1, k2, hdn, t1, t2, t3, t4, t5, t6, f1, f2, hents, hel, hbody, hgen, md1, md2, n1, n2, dd1, dd2⟩ := hd
  have hdn' : (⟨d.name.toArray⟩ : ByteArray).size ≤ 5 := hdn
  have ht0 : -1 ≤ d.tm ∧ d.tm ≤ 1 ∧ -1 ≤ d.th ∧ d.th ≤ 1 ∧ -1 ≤ d.td ∧ d.td ≤ 1 := ⟨t1, t2, t3, t4, t5, t6⟩
  have hct : d.kind = 3 ∨ d.kind = 4 → ∀ u, Below w.heap.size w u → Calls Tryz.prog 57 [.agg (exC a0 a1 a2 a3 a4 a5 a6 a7 a8 bA kn kc).toArray].toArray u (Short 8736 u) := fun hk u hu' => by
    obtain ⟨g1, g2⟩ := hgen hk
    exact rtext_any 3 (by omega) d.body _ u g2 g1 (exS.keep hu'.size (fun g' _ hg' => ⟨trivial, hu'.block g' hg'⟩) _ _ hx)
  refine fx8 (good_two ga gd) hs f1 (by omega) fun E1 fr u1 hf Bk => ?_
  replace hB := hB.trans (Bk.mono hB.size)
  replace ga := good_below ga Bk
  replace gd := good_below gd Bk
  clear Bk
  have L := lies_two ga gd (by show w.heap.size ≠ z; omega)
  refine at_known [(1, pt w.heap.size 0), (3, .string s), (4, .int .i64 (i : Nat)), (5, pt z 0), (6, .string fr)] (by kernel_rfl) fun E2 => ?_
  refine at_run (cntG 90 (tailT tFm8)) (tailT tFm8) u1.heap.size _ [(1, 0)] tFm9 [(1, pt w.heap.size 0), (3, .string s), (4, .int .i64 (i : Nat)), (5, pt z 0), (6, .string fr), (33, .int .i64 d.kind), (57, .bool (d.kind == 1))] u1.heap.size [agE w A rn rc, dfE z (dC d.kind d.name d.tb d.tm d.th d.td d.frm eA d.ents.length ec a0 a1 a2 a3 a4 a5 a6 a7 a8 bA kn kc d.mode d.num d.den)] L (by kernel_rfl) fun u2 E3 L1 K => ?_
  replace hB := kept_below hB K (memN_ids (by omega))
  replace ga := L1.sat.good _ (List.mem_cons_self ..)
  replace gd := L1.sat.good (dfE z (dC d.kind d.name d.tb d.tm d.th d.td d.frm eA d.ents.length ec a0 a1 a2 a3 a4 a5 a6 a7 a8 bA kn kc d.mode d.num d.den)) (by simp)
  clear L K L1
  refine at_cond (d.kind == 1) (by kernel_rfl) (fun hk => ?_) (fun hk => ?_)
  · have hk : d.kind = 1 := by simpa using hk
    refine at_run (cntA 12 90 (thenT tFm9)) (thenT tFm9) u2.heap.size [] [] tFm12 [(1, pt w.heap.size 0), (3, .string s), (4, .int .i64 (i : Nat)), (5, pt z 0), (6, .string fr)] u2.heap.size [] (lies_nil u2) (by kernel_rfl) fun v1 G1 _ K => ?_
    have Bk := below_kept K
    replace hB := hB.trans (Bk.mono hB.size)
    replace ga := good_below ga Bk
    replace gd := good_below gd Bk
    clear K Bk
    refine fx12 (T := 8736) (good_two ga gd) (hbd_of (SB := SB) (FB := 36) (T := 8736) (by omega) (by omega) (by omega)) hs hf hdn' ht0 fun G2 s2 v2 hs2 Bk => ?_
    replace hB := hB.trans (Bk.mono hB.size)
    replace ga := good_below ga Bk
    replace gd := good_below gd Bk
    clear Bk
    refine at_run (cntA 25 90 (tailT tFm12)) (tailT tFm12) v2.heap.size [] [] tFm25 [(1, pt w.heap.size 0), (3, .string s2), (4, .int .i64 (i : Nat))] v2.heap.size [] (lies_nil v2) (by kernel_rfl) fun v3 G3 _ K => ?_
    exact H G3 s2 v3 (by omega) (hB.trans ((below_kept K).mono hB.size)) (good_below ga (below_kept K))
  have q1 : d.kind ≠ 1 := by simpa using hk
  clear hk
  refine at_run (cntG 90 (elseT tFm9)) (elseT tFm9) u2.heap.size [] [] tFm13 [(1, pt w.heap.size 0), (3, .string s), (4, .int .i64 (i : Nat)), (5, pt z 0), (6, .string fr), (33, .int .i64 d.kind), (69, .bool (d.kind == 5))] u2.heap.size [] (lies_nil u2) (by kernel_rfl) fun x0 J0 _ K => ?_
  have Bk := below_kept K
  replace hB := hB.trans (Bk.mono hB.size)
  replace ga := good_below ga Bk
  replace gd := good_below gd Bk
  clear K Bk
  refine at_cond (d.kind == 5) (by kernel_rfl) (fun hk => ?_) (fun hk => ?_)
  · have hk : d.kind = 5 := by simpa using hk
    refine at_run (cntA 14 90 (thenT tFm13)) (thenT tFm13) x0.heap.size [] [] tFm14 [(1, pt w.heap.size 0), (3, .string s), (4, .int .i64 (i : Nat)), (5, pt z 0), (6, .string fr)] x0.heap.size [] (lies_nil x0) (by kernel_rfl) fun v1 G1 _ K => ?_
    have Bk := below_kept K
    replace hB := hB.trans (Bk.mono hB.size)
    replace ga := good_below ga Bk
    replace gd := good_below gd Bk
    clear K Bk
    refine fx14 (T := 8736) (good_two ga gd) (hbd_of (SB := SB) (FB := 36) (T := 8736) (by omega) (by omega) (by omega)) hs hf hdn' ht0 fun G2 s2 v2 hs2 Bk => ?_
    replace hB := hB.trans (Bk.mono hB.size)
    replace ga := good_below ga Bk
    replace gd := good_below gd Bk
    clear Bk
    refine at_run (cntA 25 90 (tailT tFm14)) (tailT tFm14) v2.heap.size [] [] tFm25 [(1, pt w.heap.size 0), (3, .string s2), (4, .int .i64 (i : Nat))] v2.heap.size [] (lies_nil v2) (by kernel_rfl) fun v3 G3 _ K => ?_
    exact H G3 s2 v3 (by omega) (hB.trans ((below_kept K).mono hB.size)) (good_below ga (below_kept K))
  have q5 : d.kind ≠ 5 := by simpa using hk
  clear hk
  refine at_run (cntG 90 (elseT tFm13)) (elseT tFm13) x0.heap.size [] [] tFm15 [(1, pt w.heap.size 0), (3, .string s), (4, .int .i64 (i : Nat)), (5, pt z 0), (6, .string fr), (33, .int .i64 d.kind), (81, .bool (d.kind == 2))] x0.heap.size [] (lies_nil x0) (by kernel_rfl) fun x1 J1 _ K => ?_
  have Bk := below_kept K
  replace hB := hB.trans (Bk.mono hB.size)
  replace ga := good_below ga Bk
  replace gd := good_below gd Bk
  clear K Bk
  refine at_cond (d.kind == 2) (by kernel_rfl) (fun hk => ?_) (fun hk => ?_)
  · have hk : d.kind = 2 := by simpa using hk
    refine at_run (cntA 16 90 (thenT tFm15)) (thenT tFm15) x1.heap.size [] [] tFm16 [(1, pt w.heap.size 0), (3, .string s), (4, .int .i64 (i : Nat)), (5, pt z 0), (6, .string fr)] x1.heap.size [] (lies_nil x1) (by kernel_rfl) fun v1 G1 _ K => ?_
    have Bk := below_kept K
    replace hB := hB.trans (Bk.mono hB.size)
    replace ga := good_below ga Bk
    replace gd := good_below gd Bk
    clear K Bk
    refine fx16 (T := 8736) (good_two ga gd) (hbd_of (SB := SB) (FB := 36) (T := 8736) (by omega) (by omega) (by omega)) hs hf hdn' ht0 fun G2 s2 v2 hs2 Bk => ?_
    replace hB := hB.trans (Bk.mono hB.size)
    replace ga := good_below ga Bk
    replace gd := good_below gd Bk
    clear Bk
    refine at_known [(1, pt w.heap.size 0), (3, .string s2), (4, .int .i64 (i : Nat)), (5, pt z 0)] (by kernel_rfl) fun G3 => ?_
    exact fm_scale (SB := SB + 100) hB hz ga gd (by omega) (by omega) hel hrow fun G4 s4 v4 h4 h5 h6 => H G4 s4 v4 (by omega) h5 h6
  have q2 : d.kind ≠ 2 := by simpa using hk
  clear hk
  refine at_run (cntG 90 (elseT tFm15)) (elseT tFm15) x1.heap.size [] [] tFm23 [(1, pt w.heap.size 0), (3, .string s), (4, .int .i64 (i : Nat)), (5, pt z 0), (6, .string fr), (33, .int .i64 d.kind), (125, .bool (d.kind == 3))] x1.heap.size [] (lies_nil x1) (by kernel_rfl) fun x2 J2 _ K => ?_
  have Bk := below_kept K
  replace hB := hB.trans (Bk.mono hB.size)
  replace ga := good_below ga Bk
  replace gd := good_below gd Bk
  clear K Bk
  refine at_cond (d.kind == 3) (by kernel_rfl) (fun hk => ?_) (fun hk => ?_)
  · have hk : d.kind = 3 := by simpa using hk
    refine at_run (cntA 24 90 (thenT tFm23)) (thenT tFm23) x2.heap.size [] [] tFm24 [(1, pt w.heap.size 0), (3, .string s), (4, .int .i64 (i : Nat)), (5, pt z 0), (6, .string fr)] x2.heap.size [] (lies_nil x2) (by kernel_rfl) fun v1 G1 _ K => ?_
    have Bk := below_kept K
    replace hB := hB.trans (Bk.mono hB.size)
    replace ga := good_below ga Bk
    replace gd := good_below gd Bk
    clear K Bk
    refine fx24 (T := 8736) (good_two ga gd) (hbd_of (SB := SB) (FB := 36) (T := 8736) (by omega) (by omega) (by omega)) hs hf hdn' ht0 (fun u hq => hct (.inl hk) u (hB.trans (hq.mono hB.size))) fun G2 s2 v2 hs2 Bk => ?_
    replace hB := hB.trans (Bk.mono hB.size)
    replace ga := good_below ga Bk
    replace gd := good_below gd Bk
    clear Bk
    refine at_run (cntA 25 90 (tailT tFm24)) (tailT tFm24) v2.heap.size [] [] tFm25 [(1, pt w.heap.size 0), (3, .string s2), (4, .int .i64 (i : Nat))] v2.heap.size [] (lies_nil v2) (by kernel_rfl) fun v3 G3 _ K => ?_
    exact H G3 s2 v3 (by omega) (hB.trans ((below_kept K).mono hB.size)) (good_below ga (below_kept K))
  have q3 : d.kind ≠ 3 := by simpa using hk
  clear hk
  refine at_run (cntA 10 90 (elseT tFm23)) (elseT tFm23) x2.heap.size [] [] tFm10 [(1, pt w.heap.size 0), (3, .string s), (4, .int .i64 (i : Nat)), (5, pt z 0), (6, .string fr)] x2.heap.size [] (lies_nil x2) (by kernel_rfl) fun v1 G1 _ K => ?_
  have Bk := below_kept K
  replace hB := hB.trans (Bk.mono hB.size)
  replace ga := good_below ga Bk
  replace gd := good_below gd Bk
  clear K Bk
  obtain ⟨mdn, hmdn⟩ := Int.eq_ofNat_of_zero_le md1
  rw [hmdn] at gd md2
  refine fx10 (T := 8736) (mdn := mdn) (good_two ga gd) (hbd_of (SB := SB) (FB := 36) (T := 8736) (by omega) (by omega) (by omega)) hs hf hdn' (fun u hq => hct (.inr (by omega)) u (hB.trans (hq.mono hB.size))) (show mdn < 7 by omega) (mode_word (by omega)) fun G2 s2 v2 hs2 Bk => ?_
  replace hB := hB.trans (Bk.mono hB.size)
  replace ga := good_below ga Bk
  replace gd := good_below gd Bk
  clear Bk
  refine at_run (cntA 25 90 (tailT tFm10)) (tailT tFm10) v2.heap.size [] [] tFm25 [(1, pt w.heap.size 0), (3, .string s2), (4, .int .i64 (i : Nat))] v2.heap.size [] (lies_nil v2) (by kernel_rfl) fun v3 G3 _ K => ?_
  exact H G3 s2 v3 (by omega) (hB.trans ((below_kept K).mono hB.size)) (good_below ga (below_kept K))
theorem rfmt_any {A : Option Addr} {rc : Nat} {rs : List (List Value)} {w : World} (hlen : rs.length ≤ 1000) (hrows : rowsS (fun _ => True) w 21 A rs) (hok : RowsOk (okDef 3) (fun _ => True) w rs) : Calls Tryz.prog 29 #[.agg #[metal, .slice A rs.length rc]] w (Short 30000000 w) := by
  refine calls_at (args := [.agg #[metal, .slice A rs.length rc]]) (fn := Tryz.f29) (c := codeFm) (n := 146) (by kernel_rfl) (by kernel_rfl) (by kernel_rfl) (by kernel_rfl) ?_
  refine at_run (cntG 90 [.code codeFm]) [.code codeFm] w.heap.size [] [(0, 0)] tFm0 [(1, pt w.heap.size 0), (8, .agg #[metal, .slice A rs.length rc])] (w.heap.size + 1) [agE w A rs.length rc] (lies_nil w) (by kernel_rfl) fun w1 E1 L K => ?_
  have hB := below_kept K
  have ga := L.sat.good _ (List.mem_singleton.2 rfl)
  clear K L
  refine at_call 55 [.tmp 8] (some 9) [.agg #[metal, .slice A rs.length rc]] (by kernel_rfl) (by kernel_rfl) (by kernel_rfl) ((rvalid_any 3 [109, 101, 116, 97, 108] A rc rs w1 (by unfold maxLen; decide) hlen (hrows.keep hB.size (fun g' _ hg' => ⟨trivial, hB.block g' hg'⟩)) (hok.keep hB.size (fun g' _ hg' => ⟨trivial, hB.block g' hg'⟩))).mono ?_)
  rintro e w2 ⟨⟨b, rfl⟩, Bk⟩
  refine ⟨_, rfl, ?_⟩
  replace hB := hB.trans (Bk.mono hB.size)
  replace ga := good_below ga Bk
  clear Bk
  refine at_run (cntG 90 (popOp tFm0)) (popOp tFm0) w2.heap.size [] [] tFm1 [(1, pt w.heap.size 0), (10, .bool (!b))] w2.heap.size [] (lies_nil w2) (by kernel_rfl) fun w3 E3 _ K => ?_
  have Bk := below_kept K
  replace hB := hB.trans (Bk.mono hB.size)
  replace ga := good_below ga Bk
  clear Bk K
  refine at_cond (!b) (by kernel_rfl) (fun _ => ?_) (fun _ => ?_)
  · refine at_end [] (.string ⟨#[]⟩) (fn := Tryz.f29) (by kernel_rfl) (lies_nil w3) (by kernel_rfl) fun w9 hK => ⟨⟨_, rfl, by decide⟩, hB.trans ((below_kept hK).mono hB.size)⟩
  refine at_run (cntA 3 90 (elseT tFm1)) (elseT tFm1) w3.heap.size [] [] tFm3 [(1, pt w.heap.size 0)] w3.heap.size [] (lies_nil w3) (by kernel_rfl) fun w4 E4 _ K => ?_
  have Bk := below_kept K
  replace hB := hB.trans (Bk.mono hB.size)
  replace ga := good_below ga Bk
  clear Bk K
  refine fx3 (A := A) (rn := rs.length) (rc := rc) (fun e he => by obtain rfl := List.mem_singleton.1 he; exact ga) fun E5 s5 w5 hs5 Bk => ?_
  replace hB := hB.trans (Bk.mono hB.size)
  replace ga := good_below ga Bk
  clear Bk
  refine at_run (cntG 90 (tailT tFm3)) (tailT tFm3) w5.heap.size [] [] tFm4 [(1, pt w.heap.size 0), (3, .string s5), (4, .int .i64 ((0 : Nat) : Int))] w5.heap.size [] (lies_nil w5) (by kernel_rfl) fun w6 E6 _ K => ?_
  have Bk := below_kept K
  replace hB := hB.trans (Bk.mono hB.size)
  replace ga := good_below ga Bk
  clear Bk K
  refine at_loop (by kernel_rfl) (fun E u => ∃ E' i s, E = updL E' [(1, pt w.heap.size 0), (3, .string s), (4, .int .i64 (i : Nat))] ∧ i ≤ rs.length ∧ s.size ≤ SBd i ∧ Below w.heap.size w u ∧ (agE w A rs.length rc).good u) (fun E _ => rs.length - (iv (E 4)).toNat) ⟨E6, 0, s5, rfl, Nat.zero_le _, by unfold SBd; omega, hB, ga⟩ ?_
  clear hB ga hs5
  rintro E u ⟨E', i, s, rfl, hi, hs, hB, ga⟩ again
  refine at_run (cntG 90 (bodyT tFm4)) (bodyT tFm4) u.heap.size _ [(0, 1)] tFm5 [(1, pt w.heap.size 0), (3, .string s), (4, .int .i64 (i : Nat)), (19, .bool (decide ((i : Int) < (rs.length : Int))))] u.heap.size [agE w A rs.length rc] (lies_one ga) (by kernel_rfl) fun u1 F1 L1 K => ?_
  replace hB := kept_below hB K (fun k hk => by simp at hk; omega)
  replace ga := L1.sat.good _ (List.mem_singleton.2 rfl)
  clear K L1
  refine at_cond (decide ((i : Int) < (rs.length : Int))) (by kernel_rfl) (fun hlt => ?_) (fun hlt => ?_)
  · have hlt' : i < rs.length := by simpa using hlt
    obtain ⟨r, hr⟩ : ∃ e, rs[i]? = some e := ⟨_, List.getElem?_eq_getElem hlt'⟩
    rcases hrows with hrows | ⟨g, off, rfl, _, hg, hcell⟩
    · rw [hrows] at hr; simp at hr
    obtain ⟨d, hd, hds⟩ := hok r (List.mem_of_getElem? hr)
    obtain ⟨eA, ec, bs, hxs, hes, hrr⟩ := hds
    have hxs' := hxs
    obtain ⟨a0, a1, a2, a3, a4, a5, a6, a7, a8, bA, kn, kc, rfl⟩ := hxs'.cells
    have hrr' : r = dC d.kind d.name d.tb d.tm d.th d.td d.frm eA d.ents.length ec a0 a1 a2 a3 a4 a5 a6 a7 a8 bA kn kc d.mode d.num d.den := hrr
    subst hrr'
    clear hrr hxs'
    have hc1 := hcell i _ hr
    refine at_run (cntA 7 90 (thenT tFm5)) (thenT tFm5) u1.heap.size _ [] tFm7 [(1, pt w.heap.size 0), (3, .string s), (4, .int .i64 (i : Nat))] u1.heap.size [agE w (some ⟨g, off, none⟩) rs.length rc] (lies_one ga) (by kernel_rfl) fun u2 F2 L2 K => ?_
    replace hB := kept_below hB K (fun k hk => by simp at hk; omega)
    replace ga := L2.sat.good _ (List.mem_singleton.2 rfl)
    clear K L2
    refine at_run 4 tFm7 u2.heap.size _ [(0, 1)] tFm7a [(1, pt w.heap.size 0), (3, .string s), (4, .int .i64 (i : Nat)), (23, .slice (some ⟨g, off, none⟩) rs.length rc), (24, .int .i64 (i : Nat))] u2.heap.size [agE w (some ⟨g, off, none⟩) rs.length rc] (lies_one ga) (by kernel_rfl) fun u3 F3 L3 K => ?_
    replace hB := kept_below hB K (fun k hk => by simp at hk; omega)
    replace ga := L3.sat.good _ (List.mem_singleton.2 rfl)
    clear K L3
    have grow : (⟨g, off + i * 21, dC d.kind d.name d.tb d.tm d.th d.td d.frm eA d.ents.length ec a0 a1 a2 a3 a4 a5 a6 a7 a8 bA kn kc d.mode d.num d.den, 93, false⟩ : Ent).good u3 := by
      refine ⟨Nat.lt_of_lt_of_le hg hB.size, ?_⟩
      rw [if_neg (by simp)]
      intro j v hv
      rw [World.cell?_of_block (w := w) (hB.block g hg)]
      exact hc1 j v hv
    refine at_op ((curOp tFm7a).getD default) (pt g (off + i * 21)) (by kernel_rfl) (by kernel_rfl) (exec_index 52 (.tmp 23) (.tmp 24) (by kernel_rfl) (g := g) (off := off) (len := rs.length) (cap := rc) (k := i) (sz := 21) (e := 93) (by kernel_rfl) (by kernel_rfl) hlt' (by kernel_rfl) (by kernel_rfl)) ?_
    refine at_known [(1, pt w.heap.size 0), (3, .string s), (4, .int .i64 (i : Nat)), (25, pt g (off + i * 21))] (by kernel_rfl) fun F5 => ?_
    refine at_opk ((curOp (popOp tFm7a)).getD default) (by kernel_rfl) (by kernel_rfl) (OpOk.loadMid (K := fun v w' => v = .agg (dC d.kind d.name d.tb d.tm d.th d.td d.frm eA d.ents.length ec a0 a1 a2 a3 a4 a5 a6 a7 a8 bA kn kc d.mode d.num d.den).toArray ∧ w' = u3) 93 (.tmp 25) (by kernel_rfl) (b := g) (off := off + i * 21) (by kernel_rfl) (dC d.kind d.name d.tb d.tm d.th d.td d.frm eA d.ents.length ec a0 a1 a2 a3 a4 a5 a6 a7 a8 bA kn kc d.mode d.num d.den) (by have h2 := grow.2; rw [if_neg (by simp)] at h2; exact h2) (by kernel_rfl) (by kernel_rfl) ⟨rfl, rfl⟩) ?_
    rintro v4 u4 ⟨rfl, rfl⟩
    refine at_run (cntA 8 90 (popOp (popOp tFm7a))) (popOp (popOp tFm7a)) u4.heap.size _ [(1, 0)] tFm8 [(1, pt w.heap.size 0), (3, .string s), (4, .int .i64 (i : Nat)), (5, pt u4.heap.size 0)] (u4.heap.size + 1) [agE w (some ⟨g, off, none⟩) rs.length rc, dfE u4.heap.size (dC d.kind d.name d.tb d.tm d.th d.td d.frm eA d.ents.length ec a0 a1 a2 a3 a4 a5 a6 a7 a8 bA kn kc d.mode d.num d.den)] (lies_one ga) (by kernel_rfl) fun u5 F6 L5 K => ?_
    have hz : w.heap.size < u4.heap.size := ga.1
    replace hB := kept_below hB K (fun k hk => by simp at hk; omega)
    replace ga := L5.sat.good _ (List.mem_cons_self ..)
    have gd := L5.sat.good (dfE u4.heap.size (dC d.kind d.name d.tb d.tm d.th d.td d.frm eA d.ents.length ec a0 a1 a2 a3 a4 a5 a6 a7 a8 bA kn kc d.mode d.num d.den)) (by simp)
    clear K L5 grow
    refine fm_def hB hz ga gd (by omega) hs hd hes hxs fun E7 s7 u7 hs7 hB7 ga7 => ?_
    refine fm_next hB7 ga7 hlt' hlen hs7 fun E8 s8 u8 hs8 hB8 ga8 => ?_
    refine again _ _ ⟨E8, i + 1, s8, rfl, hlt', hs8, hB8, ga8⟩ ?_
    show rs.length - (((i + 1 : Nat) : Int)).toNat < rs.length - ((i : Nat) : Int).toNat
    omega
  · refine at_end [] (.string s) (fn := Tryz.f29) (by kernel_rfl) (lies_nil u1) (by kernel_rfl) fun w9 hK => ⟨⟨_, rfl, ?_⟩, hB.trans ((below_kept hK).mono hB.size)⟩
    unfold SBd at hs
    omega
end
end Go.Proofs.YtpdbkbadjgellaaGreatDoor

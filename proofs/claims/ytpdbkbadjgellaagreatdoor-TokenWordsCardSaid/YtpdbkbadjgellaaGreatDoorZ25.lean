/-
  The walk of payrollgen's Agreement.
  The walk of payrollgen's Agreement: its beginning, and the whole.
-/
import Derived.Test.YtpdbkbadjgellaaGreatDoorZ24
namespace Go.Proofs.YtpdbkbadjgellaaGreatDoor
open Go.RowKit

noncomputable def code30 : Code := Tryz.f30.body.getD .skip
noncomputable def tA0 : List Item := advT 90 [.code code30]
noncomputable def tA1 : List Item := advT 90 (popOp tA0)
noncomputable def tA2 : List Item := advT 90 (popOp tA1)
noncomputable def tA3 : List Item := advT 90 (popOp tA2)
noncomputable def tA4 : List Item := advT 90 (popOp tA3)
noncomputable def tA5 : List Item := advT 90 (tailT tA4)
noncomputable def tA6 : List Item := advT 90 (popOp tA5)
noncomputable def tA7 : List Item := advT 90 (thenT tA6)
noncomputable def tB0 : List Item := advT 90 (tailT tA7)
noncomputable def tB1 : List Item := advT 90 (popOp tB0)
noncomputable def tB2 : List Item := advT 90 (popOp tB1)
noncomputable def tB3 : List Item := advT 90 (popOp tB2)
noncomputable def tB4 : List Item := advT 90 (popOp tB3)
noncomputable def tC0 : List Item := advT 90 (bodyT tB4)
noncomputable def tC1 : List Item := advT 90 (thenT tC0)
noncomputable def tC2 : List Item := advT 90 (popOp tC1)
noncomputable def tC3 : List Item := advT 90 (elseT tC2)
noncomputable def tD0 : List Item := advT 90 (bodyT tC3)
noncomputable def tD1 : List Item := advT 90 (popOp tD0)
noncomputable def tD2 : List Item := advT 90 (thenT tD1)
noncomputable def tE0 : List Item := advT 90 (elseT tC0)
noncomputable def tE1 : List Item := advT 90 (bodyT tE0)
noncomputable def tE2 : List Item := advT 90 (popOp tE1)
noncomputable def tE3 : List Item := advT 90 (thenT tE2)
noncomputable def tF0 : List Item := advT 90 (elseT tE2)
noncomputable def tF1 : List Item := advT 90 (popOp tF0)
noncomputable def tF2 : List Item := advT 90 (bodyT tF1)
noncomputable def tF3 : List Item := advT 90 (thenT tF2)
noncomputable def tF4 : List Item := advT 90 (tailT tF3)
noncomputable def tF5 : List Item := advT 90 (elseT tF2)
/-- What Agreement leaves. -/
def AgPost (b : Nat) (ns : List Int) (H : Nat) (w : World) (e : Ending) (w' : World) : Prop :=
  ∃ v rs, e = .returned (.agg #[metal, v]) ∧ w'.ownsRow (w.heap.size + 2) 93 21 v rs.length rs.flatten ∧ RowsOk (okDef (max 1 H)) (fun h => w.heap.size + 2 ≤ h) w' rs ∧ rs.length ≤ 30 ∧ TapeOk b ns w' ∧ But b w w'
section
variable {b : Nat} {ns : List Int} {H : Nat} {w : World} {v : Value} {X : List Ent} {rs : List (List Value)} {wx : World} {E : Nat → Value}
theorem Ag.next {r : List Value} {c : Value} {n : Int} (h : Ag b ns H w r c v X rs wx) (h0 : 0 ≤ n) (h1 : n ≤ 100) {K : Ending → World → Prop} (hk : ∀ (k : Nat) u, (k = 0 ∨ (k : Int) < n) → Ag b ns H w r c v X rs u → K (.returned (.int .i64 k)) u) :
    Calls Tryz.prog 6 [pt b 0, .int .i64 n].toArray wx K :=
  (next_any b ns n wx h.ph.tape (by omega) (by omega)).mono fun e u ⟨k, hkk, he, hT, hB⟩ => by subst he; exact hk k u hkk (h.call hT hB)
theorem same_ent : ∀ e ∈ X, (∃ e' ∈ X, e'.id = e.id) ∨ wx.heap.size ≤ e.id := fun e he => .inl ⟨e, he, rfl⟩
set_option maxRecDepth 100000 in
set_option maxHeartbeats 1000000 in
/-- The last loop and the return. -/
theorem ag_loop4 {i : Nat} (hi : i ≤ 3) (hA : Ag b ns (max 1 H) w agZero v v X rs wx) (h1 : 1 ≤ rs.length) (h2 : rs.length ≤ 30) :
    At Tryz.prog 30 (AgPost b ns H w) tF1 (Fr 168 (updL E (envD b w H true i))) wx := by
  refine at_loop (by kernel_rfl) (fun E wx => ∃ (E' : Nat → Value) (i : Nat) (v : Value) (rs : List (List Value)), E = updL E' (envD b w H true i) ∧ i ≤ 3 ∧ Ag b ns (max 1 H) w agZero v v X rs wx ∧ 1 ≤ rs.length ∧ rs.length ≤ 30) (fun E _ => (iv (E 14)).toNat) ⟨E, i, v, rs, rfl, hi, hA, h1, h2⟩ ?_
  clear hA h1 h2 hi
  rintro E wx ⟨E', i, v, rs, rfl, hi, hA, h1, h2⟩ again
  obtain ⟨vA, vc, rfl⟩ := owns_slice hA.own
  refine at_run 90 (bodyT tF1) wx.heap.size _ [] tF2 ((136, .bool (decide (0 < (i : Int)))) :: envD b w H true i) wx.heap.size (memA w agZero (.slice vA rs.length vc) X) hA.ph.lies (by kernel_rfl) fun w1 E1 hL1 hK1 => ?_
  have A1 := hA.run hK1 hL1 same_ent
  refine at_cond (decide (0 < (i : Int))) (by kernel_rfl) (fun ht => ?_) (fun hf => ?_)
  · have hi0 : 0 < i := by have : (0 : Int) < i := by simpa using ht
                           omega
    refine at_run 90 (thenT tF2) w1.heap.size _ [] tF3 (envD b w H true i) w1.heap.size (memA w agZero (.slice vA rs.length vc) X) A1.ph.lies (by kernel_rfl) fun w2 E2 hL2 hK2 => ?_
    have A2 := A1.run hK2 hL2 same_ent
    refine regionA24 A2 h1 (by omega) (by kernel_rfl) fun n m u E3 hn hm A3 => ?_
    refine at_run 90 (tailT tF3) u.heap.size _ [] tF4 (envE b w H true i n m) u.heap.size (memA w agZero (.slice vA rs.length vc) X) A3.ph.lies (by kernel_rfl) fun w4 E4 hL4 hK4 => ?_
    have A4 := A3.run hK4 hL4 same_ent
    cases vA with
    | none =>
      rcases A4.own.2 with ⟨h0, h00⟩ | ⟨g, cap, cur, h0, _⟩
      · omega
      · cases h0
    | some ad =>
      have had : ∃ g, ad = ⟨g, 0, none⟩ := by
        rcases A4.own.2 with ⟨h0, _⟩ | ⟨g, cap, cur, h0, _⟩
        · cases h0
        · injection h0 with h0; exact ⟨g, Option.some.inj h0⟩
      obtain ⟨g, rfl⟩ := had
      refine regionA25 A4 hn hm (by kernel_rfl) fun rs' u5 E5 hl A5 => ?_
      rw [← hl] at A5
      refine at_run 90 (tailT tF4) u5.heap.size _ [] (againT tF1) (envD b w H true (IntKind.i64.wrap (i - 1))) u5.heap.size (memA w agZero (.slice (some ⟨g, 0, none⟩) rs'.length vc) X) A5.ph.lies (by kernel_rfl) fun w6 E6 hL6 hK6 => ?_
      have A6 := A5.run hK6 hL6 same_ent
      rw [show IntKind.i64.wrap ((i : Int) - 1) = ((i - 1 : Nat) : Int) by rw [IntWalk.i64_in _ (by omega)]; omega]
      refine again _ _ ⟨E6, i - 1, _, rs', rfl, by omega, A6, by omega, by omega⟩ ?_
      show (((i - 1 : Nat) : Int)).toNat < ((i : Int)).toNat
      omega
  · refine at_run 90 (elseT tF2) w1.heap.size _ [(1, 0), (0, 0)] tF5 (envD b w H true i) w1.heap.size (memA w [metal, .slice vA rs.length vc] (.slice vA rs.length vc) X) A1.ph.lies (by kernel_rfl) fun w2 E2 hL2 hK2 => ?_
    have A2 := A1.run hK2 hL2 same_ent
    refine at_ret (fn := Tryz.f30) (by kernel_rfl) (by kernel_rfl) ⟨0, memA w [metal, .slice vA rs.length vc] (.slice vA rs.length vc) X, (0, 0), []⟩ A2.ph.lies.sat.good (.agg #[metal, .slice vA rs.length vc]) (by kernel_rfl) (by kernel_rfl) ?_
    exact ⟨_, rs, rfl, A2.own, A2.ok.keep (Nat.le_refl _) (fun g hS _ => ⟨hS.1, rfl⟩), h2, A2.ph.tape, A2.ph.but⟩
set_option maxRecDepth 100000 in
set_option maxHeartbeats 1000000 in
/-- The loop of the pay definitions. -/
theorem ag_loop3 (IH : ExprSaid b ns H) (hH : H ≤ 100) (hA : Ag b ns (max 1 H) w agZero v v X rs wx) (h1 : 1 ≤ rs.length) (h2 : rs.length ≤ 20) :
    At Tryz.prog 30 (AgPost b ns H w) tE0 (Fr 168 (updL E (envC b w H true 0))) wx := by
  refine at_loop (by kernel_rfl) (fun E wx => ∃ (E' : Nat → Value) (i : Nat) (v : Value) (rs : List (List Value)), E = updL E' (envC b w H true i) ∧ i ≤ 2 ∧ Ag b ns (max 1 H) w agZero v v X rs wx ∧ 1 ≤ rs.length ∧ rs.length ≤ 20 + i) (fun E _ => (2 - iv (E 13)).toNat) ⟨E, 0, v, rs, rfl, by omega, hA, h1, by omega⟩ ?_
  clear hA h1 h2
  rintro E wx ⟨E', i, v, rs, rfl, hi, hA, h1, h2⟩ again
  refine at_run 90 (bodyT tE0) wx.heap.size _ [] tE1 ((101, .int .i64 i) :: (102, pt b 0) :: envC b w H true i) wx.heap.size (memA w agZero v X) hA.ph.lies (by kernel_rfl) fun w1 E1 hL1 hK1 => ?_
  have A1 := hA.run hK1 hL1 same_ent
  refine at_call 6 [.tmp 102, .const (.int .i64 2)] (some 103) [pt b 0, .int .i64 2] (by kernel_rfl) (by kernel_rfl) (by kernel_rfl) (A1.next (by omega) (by omega) fun k w2 hk A2 => ⟨_, rfl, ?_⟩)
  refine at_run 90 (popOp tE1) w2.heap.size _ [] tE2 ((104, .bool (decide ((i : Int) ≤ k))) :: envC b w H true i) w2.heap.size (memA w agZero v X) A2.ph.lies (by kernel_rfl) fun w3 E3 hL3 hK3 => ?_
  have A3 := A2.run hK3 hL3 same_ent
  refine at_cond (decide ((i : Int) ≤ k)) (by kernel_rfl) (fun ht => ?_) (fun hf => ?_)
  · have hik : i ≤ 1 := by have : (i : Int) ≤ k := by simpa using ht
                           omega
    refine at_run 90 (thenT tE2) w3.heap.size _ [] tE3 (envC b w H true i) w3.heap.size (memA w agZero v X) A3.ph.lies (by kernel_rfl) fun w4 E4 hL4 hK4 => ?_
    have A4 := A3.run hK4 hL4 same_ent
    refine regionA20 IH hH (by omega) (by rw [IntWalk.i64_in _ (by omega)]; omega) A4 (by omega) (by kernel_rfl) fun v' q u E5 A5 hq => ?_
    refine at_run 90 (tailT tE3) u.heap.size _ [] (againT tE0) (envA b w H true ++ [(13, .int .i64 (IntKind.i64.wrap ((i : Int) + 1)))]) u.heap.size (memA w agZero v' X) A5.ph.lies (by kernel_rfl) fun w6 E6 hL6 hK6 => ?_
    have A6 := A5.run hK6 hL6 same_ent
    rw [show IntKind.i64.wrap ((i : Int) + 1) = ((i + 1 : Nat) : Int) by rw [IntWalk.i64_in _ (by omega)]; omega]
    refine again _ _ ⟨E6, i + 1, v', rs ++ q, rfl, by omega, A6, by simp; omega, by simp; omega⟩ ?_
    show (2 - ((i + 1 : Nat) : Int)).toNat < (2 - (i : Int)).toNat
    omega
  · refine at_run 90 (elseT tE2) w3.heap.size _ [] tF0 ((133, pt b 0) :: envA b w H true) w3.heap.size (memA w agZero v X) A3.ph.lies (by kernel_rfl) fun w4 E4 hL4 hK4 => ?_
    have A4 := A3.run hK4 hL4 same_ent
    refine at_call 6 [.tmp 133, .const (.int .i64 4)] (some 134) [pt b 0, .int .i64 4] (by kernel_rfl) (by kernel_rfl) (by kernel_rfl) (A4.next (by omega) (by omega) fun k w5 hk A5 => ⟨_, rfl, ?_⟩)
    refine at_run 90 (popOp tF0) w5.heap.size _ [] tF1 (envD b w H true k) w5.heap.size (memA w agZero v X) A5.ph.lies (by kernel_rfl) fun w6 E6 hL6 hK6 => ?_
    exact ag_loop4 (by omega) (A5.run hK6 hL6 same_ent) h1 (by omega)
def envN (b : Nat) (w : World) (H gN gT : Nat) (i : Int) : List (Nat × Value) := envA b w H true ++ [(8, sl4 gN), (9, sl4 gT), (10, .int .i64 i)]
set_option maxRecDepth 100000 in
set_option maxHeartbeats 1000000 in
/-- The inner loop. -/
theorem ag_loop2 {gN gT i : Nat} {rules : Int} {R : Ending → World → Prop} (IH : ExprSaid b ns H) (hH : H ≤ 100) (hi : i = 0 ∨ i = 1 ∨ i = 2 ∨ i = 3) (hr0 : 0 ≤ rules) (hr1 : rules ≤ 10) (hA : Ag b ns (max 1 H) w agZero v v (XN gN gT) rs wx) (h1 : 1 ≤ rs.length) (h2 : rs.length ≤ 20)
    (hk : ∀ E' u v' rs', Ag b ns (max 1 H) w agZero v' v' (XN gN gT) rs' u → 1 ≤ rs'.length → rs'.length ≤ rs.length + 2 → At Tryz.prog 30 R (againT tB4) (Fr 168 (updL E' (envN b w H gN gT ((i + 1 : Nat) : Int)))) u) :
    At Tryz.prog 30 R tC3 (Fr 168 (updL E (envB b w H true gN gT i rules 0))) wx := by
  refine at_loop (by kernel_rfl) (fun E wx => ∃ (E' : Nat → Value) (k : Nat) (v : Value) (rs' : List (List Value)), E = updL E' (envB b w H true gN gT i rules k) ∧ k ≤ 2 ∧ Ag b ns (max 1 H) w agZero v v (XN gN gT) rs' wx ∧ 1 ≤ rs'.length ∧ rs'.length ≤ rs.length + k) (fun E _ => (2 - iv (E 12)).toNat) ⟨E, 0, v, rs, rfl, by omega, hA, h1, by omega⟩ ?_
  clear hA h1
  rintro E wx ⟨E', k, v, rs', rfl, hk2, hA, h1, h3⟩ again
  refine at_run 90 (bodyT tC3) wx.heap.size _ [] tD0 ((69, .int .i64 k) :: (70, pt b 0) :: envB b w H true gN gT i rules k) wx.heap.size (memA w agZero v (XN gN gT)) hA.ph.lies (by kernel_rfl) fun w1 E1 hL1 hK1 => ?_
  have A1 := hA.run hK1 hL1 same_ent
  refine at_call 6 [.tmp 70, .const (.int .i64 3)] (some 71) [pt b 0, .int .i64 3] (by kernel_rfl) (by kernel_rfl) (by kernel_rfl) (A1.next (by omega) (by omega) fun q w2 hq A2 => ⟨_, rfl, ?_⟩)
  refine at_run 90 (popOp tD0) w2.heap.size _ [] tD1 ((73, .bool (decide ((k : Int) ≤ IntKind.i64.wrap (Int.tdiv q 2)))) :: envB b w H true gN gT i rules k) w2.heap.size (memA w agZero v (XN gN gT)) A2.ph.lies (by kernel_rfl) fun w3 E3 hL3 hK3 => ?_
  have A3 := A2.run hK3 hL3 same_ent
  refine at_cond (decide ((k : Int) ≤ IntKind.i64.wrap (Int.tdiv q 2))) (by kernel_rfl) (fun ht => ?_) (fun hf => ?_)
  · have hk1 : k ≤ 1 := by
      have h4 : (k : Int) ≤ IntKind.i64.wrap (Int.tdiv q 2) := by simpa using ht
      have hq3 : q = 0 ∨ q = 1 ∨ q = 2 := by omega
      have h5 : IntKind.i64.wrap (Int.tdiv q 2) ≤ 1 := by rcases hq3 with rfl | rfl | rfl <;> decide
      omega
    refine at_run 90 (thenT tD1) w3.heap.size _ [] tD2 (envB b w H true gN gT i rules k) w3.heap.size (memA w agZero v (XN gN gT)) A3.ph.lies (by kernel_rfl) fun w4 E4 hL4 hK4 => ?_
    have A4 := A3.run hK4 hL4 same_ent
    refine regionA16 IH hH hi hr0 hr1 (by omega) (by omega) A4 (by omega) (by kernel_rfl) fun v' p u E5 A5 hp => ?_
    refine at_run 90 (tailT tD2) u.heap.size _ [] (againT tC3) (envB b w H true gN gT i rules (IntKind.i64.wrap ((k : Int) + 1))) u.heap.size (memA w agZero v' (XN gN gT)) A5.ph.lies (by kernel_rfl) fun w6 E6 hL6 hK6 => ?_
    have A6 := A5.run hK6 hL6 same_ent
    rw [show IntKind.i64.wrap ((k : Int) + 1) = ((k + 1 : Nat) : Int) by rw [IntWalk.i64_in _ (by omega)]; omega]
    refine again _ _ ⟨E6, k + 1, v', rs' ++ p, rfl, by omega, A6, by simp; omega, by simp; omega⟩ ?_
    show (2 - ((k + 1 : Nat) : Int)).toNat < (2 - (k : Int)).toNat
    omega
  · refine at_run 90 (elseT tD1) w3.heap.size _ [] (againT tB4) (envN b w H gN gT (IntKind.i64.wrap ((i : Int) + 1))) w3.heap.size (memA w agZero v (XN gN gT)) A3.ph.lies (by kernel_rfl) fun w4 E4 hL4 hK4 => ?_
    have A4 := A3.run hK4 hL4 same_ent
    rw [show IntKind.i64.wrap ((i : Int) + 1) = ((i + 1 : Nat) : Int) by rw [IntWalk.i64_in _ (by omega)]; omega]
    exact hk E4 w4 v rs' A4 h1 (by omega)
set_option maxRecDepth 100000 in
set_option maxHeartbeats 1000000 in
/-- The outer loop. -/
theorem ag_loop1 {gN gT : Nat} (IH : ExprSaid b ns H) (hH : H ≤ 100) (hA : Ag b ns (max 1 H) w agZero v v (XN gN gT) rs wx) (h1 : 1 ≤ rs.length) (h2 : rs.length ≤ 8) :
    At Tryz.prog 30 (AgPost b ns H w) tB4 (Fr 168 (updL E (envN b w H gN gT 0))) wx := by
  refine at_loop (by kernel_rfl) (fun E wx => ∃ (E' : Nat → Value) (i : Nat) (v : Value) (rs : List (List Value)), E = updL E' (envN b w H gN gT i) ∧ i ≤ 4 ∧ Ag b ns (max 1 H) w agZero v v (XN gN gT) rs wx ∧ 1 ≤ rs.length ∧ rs.length ≤ 8 + 2 * i) (fun E _ => (4 - iv (E 10)).toNat) ⟨E, 0, v, rs, rfl, by omega, hA, h1, by omega⟩ ?_
  clear hA h1 h2
  rintro E wx ⟨E', i, v, rs, rfl, hi, hA, h1, h2⟩ again
  refine at_run 90 (bodyT tB4) wx.heap.size _ [] tC0 ((58, .bool (decide ((i : Int) < 4))) :: envN b w H gN gT i) wx.heap.size (memA w agZero v (XN gN gT)) hA.ph.lies (by kernel_rfl) fun w1 E1 hL1 hK1 => ?_
  have A1 := hA.run hK1 hL1 same_ent
  refine at_cond (decide ((i : Int) < 4)) (by kernel_rfl) (fun ht => ?_) (fun hf => ?_)
  · have hi4 : i < 4 := by have : (i : Int) < 4 := by simpa using ht
                           omega
    have hb1 : 0 ≤ IntKind.i64.wrap ((i : Int) + 1) ∧ IntKind.i64.wrap ((i : Int) + 1) ≤ 10 := by rw [IntWalk.i64_in _ (by omega)]; omega
    have K : ∀ E' u v' rs', Ag b ns (max 1 H) w agZero v' v' (XN gN gT) rs' u → 1 ≤ rs'.length → rs'.length ≤ rs.length + 2 → At Tryz.prog 30 (AgPost b ns H w) (againT tB4) (Fr 168 (updL E' (envN b w H gN gT ((i + 1 : Nat) : Int)))) u := by
      intro E' u v' rs' A6 k1 k2
      refine again _ _ ⟨E', i + 1, v', rs', rfl, by omega, A6, k1, by omega⟩ ?_
      show (4 - ((i + 1 : Nat) : Int)).toNat < (4 - (i : Int)).toNat
      omega
    refine at_run 90 (thenT tC0) w1.heap.size _ [] tC1 ((11, .int .i64 (IntKind.i64.wrap ((i : Int) + 1))) :: (64, .bool true) :: (65, pt b 0) :: envN b w H gN gT i) w1.heap.size (memA w agZero v (XN gN gT)) A1.ph.lies (by kernel_rfl) fun w2 E2 hL2 hK2 => ?_
    have A2 := A1.run hK2 hL2 same_ent
    refine at_call 6 [.tmp 65, .const (.int .i64 4)] (some 66) [pt b 0, .int .i64 4] (by kernel_rfl) (by kernel_rfl) (by kernel_rfl) (A2.next (by omega) (by omega) fun q w3 hq A3 => ⟨_, rfl, ?_⟩)
    refine at_run 90 (popOp tC1) w3.heap.size _ [] tC2 ((68, .bool (decide ((q : Int) = 3))) :: (11, .int .i64 (IntKind.i64.wrap ((i : Int) + 1))) :: envN b w H gN gT i) w3.heap.size (memA w agZero v (XN gN gT)) A3.ph.lies (by kernel_rfl) fun w4 E4 hL4 hK4 => ?_
    have A4 := A3.run hK4 hL4 same_ent
    refine at_cond (decide ((q : Int) = 3)) (by kernel_rfl) (fun _ => ?_) (fun _ => ?_)
    · refine at_run 90 (thenT tC2) w4.heap.size _ [] tC3 (envB b w H true gN gT i 5 0) w4.heap.size (memA w agZero v (XN gN gT)) A4.ph.lies (by kernel_rfl) fun w5 E5 hL5 hK5 => ?_
      exact ag_loop2 IH hH (by omega) (by omega) (by omega) (A4.run hK5 hL5 same_ent) h1 (by omega) K
    · refine at_run 90 (elseT tC2) w4.heap.size _ [] tC3 (envB b w H true gN gT i (IntKind.i64.wrap ((i : Int) + 1)) 0) w4.heap.size (memA w agZero v (XN gN gT)) A4.ph.lies (by kernel_rfl) fun w5 E5 hL5 hK5 => ?_
      exact ag_loop2 IH hH (by omega) hb1.1 hb1.2 (A4.run hK5 hL5 same_ent) h1 (by omega) K
  · have hi4 : 4 ≤ i := by have : ¬ (i : Int) < 4 := by simpa using hf
                           omega
    refine at_run 90 (elseT tC0) w1.heap.size _ [] tE0 (envC b w H true 0) w1.heap.size (memA w agZero v (XN gN gT)) A1.ph.lies (by kernel_rfl) fun w2 E2 hL2 hK2 => ?_
    exact ag_loop3 IH hH (A1.run hK2 hL2 same_ent) h1 (by omega)
end
end Go.Proofs.YtpdbkbadjgellaaGreatDoor

namespace Go.Proofs.YtpdbkbadjgellaaGreatDoor
open Go.RowKit

def exCells0 : List Value := [.int .i64 0, .int .i64 0, .int .i64 0, .int .i64 0, .int .i64 0, .int .i64 0, .string ⟨#[]⟩, .int .i64 0, .int .i64 0, .slice none 0 0]
def dIn (kind : Int) (name : List UInt8) (t : Bool × Int × Int × Int) : Df := ⟨kind, name, t.1, t.2.1, t.2.2.1, t.2.2.2, 0, [], exNone, 0, 0, 0⟩
def dCells (d : Df) : List Value := d.head none 0 ++ exCells0 ++ d.tail
def d5 : List Df := [dIn 1 [104] tHours, dIn 1 [103] tNumber, dIn 1 [102] tTruth, dIn 5 [103, 114, 111, 115, 115] tMoney, dIn 5 [116, 105, 109, 101] tHours]
def rows5 : List (List Value) := d5.map dCells
theorem d5_ok {H : Nat} : ∀ d ∈ d5, okDef H d := by
  intro d hd
  simp only [d5, List.mem_cons, List.not_mem_nil, or_false] at hd
  rcases hd with rfl | rfl | rfl | rfl | rfl <;> simp [okDef, dIn, tHours, tNumber, tTruth, tMoney]
theorem lies_take {O : List Nat} {B : Nat} {w : World} {z : Nat} {mem : List Ent} {x : Nat × Nat} {q : List (Nat × Nat)} (h : Lies O B w ⟨z, mem, x, q⟩) (k : Nat) : Lies O B w ⟨z, mem.take k, x, q⟩ := by
  have key : ∀ (i : Nat) (e : Ent), (mem.take k)[i]? = some e → mem[i]? = some e := fun i e he => by
    rw [List.getElem?_take] at he
    split at he
    · exact he
    · cases he
  exact ⟨⟨h.sat.size, fun e he => h.sat.good e (List.mem_of_mem_take he), fun i j e e' hi hj ho hne => h.sat.apart i j e e' (key i e hi) (key j e' hj) ho hne⟩, h.le, fun e he ho => h.own e (List.mem_of_mem_take he) ho⟩
section
variable {b : Nat} {ns : List Int} {H : Nat} {w : World} {v : Value} {X : List Ent} {rs : List (List Value)} {wx : World} {E : Nat → Value}
theorem Ph.ty {mem : List Ent} {t : Bool × Int × Int × Int} {f : FuncId} (h : Ph b ns w mem wx) (hc : Calls Tryz.prog f #[] wx fun e w' => e = .returned (tyV t) ∧ Below wx.heap.size wx w') {K : Ending → World → Prop} (hk : ∀ u, Ph b ns w mem u → wx.heap.size ≤ u.heap.size → K (.returned (tyAgg t)) u) : Calls Tryz.prog f ([] : List Value).toArray wx K :=
  hc.mono fun e u ⟨he, hB⟩ => by subst he; exact hk u (h.below hB) hB.size
theorem Ag.ty {r : List Value} {c : Value} {t : Bool × Int × Int × Int} {f : FuncId} (h : Ag b ns H w r c v X rs wx) (hc : Calls Tryz.prog f #[] wx fun e w' => e = .returned (tyV t) ∧ Below wx.heap.size wx w') {K : Ending → World → Prop} (hk : ∀ u, Ag b ns H w r c v X rs u → K (.returned (tyAgg t)) u) : Calls Tryz.prog f ([] : List Value).toArray wx K :=
  hc.mono fun e u ⟨he, hB⟩ => by subst he; exact hk u (h.below hB)
set_option maxRecDepth 100000 in
set_option maxHeartbeats 1000000 in
theorem ag_mid (IH : ExprSaid b ns H) (hH : H ≤ 100) (hA : Ag b ns (max 1 H) w agZero v v [] rs wx) (h1 : 1 ≤ rs.length) (h2 : rs.length ≤ 8) :
    At Tryz.prog 30 (AgPost b ns H w) (tailT tA7) (Fr 168 (updL E (envA b w H true))) wx := by
  refine at_run 90 (tailT tA7) wx.heap.size _ [] tB0 ((51, sl4 wx.heap.size) :: envA b w H true) (wx.heap.size + 1) (memA w agZero v [⟨wx.heap.size, 0, [nameV 0, nameV 1, nameV 2, nameV 3], 9, true⟩]) hA.ph.lies (by kernel_rfl) fun w1 E1 hL1 hK1 => ?_
  have A1 := hA.run hK1 hL1 (fun e he => .inr (by simp only [List.mem_cons, List.not_mem_nil, or_false] at he; subst he; exact Nat.le_refl _))
  refine at_call 63 [] (some 52) [] (by kernel_rfl) (by kernel_rfl) (by kernel_rfl) (A1.ty (rate_ty _) fun w2 A2 => ⟨_, rfl, ?_⟩)
  refine at_run 90 (popOp tB0) w2.heap.size _ [] tB1 ((51, sl4 wx.heap.size) :: (52, tyAgg tRate) :: envA b w H true) w2.heap.size (memA w agZero v [⟨wx.heap.size, 0, [nameV 0, nameV 1, nameV 2, nameV 3], 9, true⟩]) A2.ph.lies (by kernel_rfl) fun w3 E3 hL3 hK3 => ?_
  have A3 := A2.run hK3 hL3 same_ent
  refine at_call 61 [] (some 53) [] (by kernel_rfl) (by kernel_rfl) (by kernel_rfl) (A3.ty (money_ty _) fun w4 A4 => ⟨_, rfl, ?_⟩)
  refine at_run 90 (popOp tB1) w4.heap.size _ [] tB2 ((51, sl4 wx.heap.size) :: (52, tyAgg tRate) :: (53, tyAgg tMoney) :: envA b w H true) w4.heap.size (memA w agZero v [⟨wx.heap.size, 0, [nameV 0, nameV 1, nameV 2, nameV 3], 9, true⟩]) A4.ph.lies (by kernel_rfl) fun w5 E5 hL5 hK5 => ?_
  have A5 := A4.run hK5 hL5 same_ent
  refine at_call 60 [] (some 54) [] (by kernel_rfl) (by kernel_rfl) (by kernel_rfl) (A5.ty (truth_ty _) fun w6 A6 => ⟨_, rfl, ?_⟩)
  refine at_run 90 (popOp tB2) w6.heap.size _ [] tB3 ((51, sl4 wx.heap.size) :: (52, tyAgg tRate) :: (53, tyAgg tMoney) :: (54, tyAgg tTruth) :: envA b w H true) w6.heap.size (memA w agZero v [⟨wx.heap.size, 0, [nameV 0, nameV 1, nameV 2, nameV 3], 9, true⟩]) A6.ph.lies (by kernel_rfl) fun w7 E7 hL7 hK7 => ?_
  have A7 := A6.run hK7 hL7 same_ent
  refine at_call 64 [] (some 55) [] (by kernel_rfl) (by kernel_rfl) (by kernel_rfl) (A7.ty (number_ty _) fun w8 A8 => ⟨_, rfl, ?_⟩)
  refine at_run 90 (popOp tB3) w8.heap.size _ [] tB4 (envN b w H wx.heap.size w8.heap.size 0) (w8.heap.size + 1) (memA w agZero v (XN wx.heap.size w8.heap.size)) A8.ph.lies (by kernel_rfl) fun w9 E9 hL9 hK9 => ?_
  have A9 := A8.run hK9 hL9 (fun e he => by
    simp only [XN, List.mem_cons, List.not_mem_nil, or_false] at he
    rcases he with rfl | rfl
    · exact .inl ⟨_, by simp, rfl⟩
    · exact .inr (Nat.le_refl _))
  exact ag_loop1 IH hH A9 h1 h2
set_option maxRecDepth 100000 in
set_option maxHeartbeats 1000000 in
theorem ag_front (IH : ExprSaid b ns H) (hH : H ≤ 100) (hA : Ag b ns (max 1 H) w agZero v v [] rs wx) (h1 : rs.length = 5) :
    At Tryz.prog 30 (AgPost b ns H w) tA4 (Fr 168 (updL E (envA b w H true))) wx := by
  refine regionA3 hA (by omega) (by kernel_rfl) fun v1 q1 u E1 A1 hq1 => ?_
  refine at_run 90 (tailT tA4) u.heap.size _ [] tA5 ((40, pt b 0) :: envA b w H true) u.heap.size (memA w agZero v1 []) A1.ph.lies (by kernel_rfl) fun w2 E2 hL2 hK2 => ?_
  have A2 := A1.run hK2 hL2 same_ent
  refine at_call 6 [.tmp 40, .const (.int .i64 3)] (some 41) [pt b 0, .int .i64 3] (by kernel_rfl) (by kernel_rfl) (by kernel_rfl) (A2.next (by omega) (by omega) fun q w3 hq A3 => ⟨_, rfl, ?_⟩)
  refine at_run 90 (popOp tA5) w3.heap.size _ [] tA6 ((42, .bool (decide ((q : Int) = 0))) :: envA b w H true) w3.heap.size (memA w agZero v1 []) A3.ph.lies (by kernel_rfl) fun w4 E4 hL4 hK4 => ?_
  have A4 := A3.run hK4 hL4 same_ent
  refine at_cond (decide ((q : Int) = 0)) (by kernel_rfl) (fun _ => ?_) (fun _ => ?_)
  · refine at_run 90 (thenT tA6) w4.heap.size _ [] tA7 (envA b w H true) w4.heap.size (memA w agZero v1 []) A4.ph.lies (by kernel_rfl) fun w5 E5 hL5 hK5 => ?_
    refine regionA5 (A4.run hK5 hL5 same_ent) (by simp; omega) (by kernel_rfl) fun v2 q2 u2 E6 A6 hq2 => ?_
    exact ag_mid IH hH A6 (by simp; omega) (by simp; omega)
  · refine at_run 1 (elseT tA6) w4.heap.size _ [] (tailT tA7) (envA b w H true) w4.heap.size (memA w agZero v1 []) A4.ph.lies (by kernel_rfl) fun w5 E5 hL5 hK5 => ?_
    exact ag_mid IH hH (A4.run hK5 hL5 same_ent) (by simp; omega) (by simp; omega)
set_option maxRecDepth 100000 in
set_option maxHeartbeats 1000000 in
theorem exS_none (S : Nat → Prop) (w : World) : exS S w exNone exCells0 := by
  unfold exNone exS
  exact ⟨none, 0, [], rfl, by unfold exsS; rfl, .inl rfl⟩

theorem agreement_any (H : Nat) (h1 : 1 ≤ H) (hH : H ≤ 100) (hT : TapeOk b ns w) : Calls Tryz.prog 30 #[pt b 0, .int .i64 H, .bool true] w (AgPost b ns H w) := by
  have IH : ExprSaid b ns H := by
    obtain ⟨n, rfl⟩ : ∃ n, H = n + 1 := ⟨H - 1, by omega⟩
    exact expr_any b ns n
  refine calls_at (args := [pt b 0, .int .i64 H, .bool true]) (fn := Tryz.f30) (c := code30) (n := 168) (by kernel_rfl) (by kernel_rfl) (by kernel_rfl) (by kernel_rfl) ?_
  refine at_run 90 [.code code30] w.heap.size [] [(1, 0)] tA0 (envA b w H true) (w.heap.size + 2) (memA w agZero (.slice none 0 0) []) (lies_nil w) (by kernel_rfl) fun w1 E1 hL1 hK1 => ?_
  have P1 := (Ph.start hT).run hK1 hL1 (idsA (fun e he => (by cases he)))
  refine at_call 59 [] (some 18) [] (by kernel_rfl) (by kernel_rfl) (by kernel_rfl) (P1.ty (hours_ty _) fun w2 P2 hs2 => ⟨_, rfl, ?_⟩)
  refine at_run 90 (popOp tA0) w2.heap.size _ [] tA1 ((19, .agg (dCells (dIn 1 [104] tHours)).toArray) :: (20, .agg (dCells (dIn 1 [103] tNumber)).toArray) :: envA b w H true) w2.heap.size (memA w agZero (.slice none 0 0) []) P2.lies (by kernel_rfl) fun w3 E3 hL3 hK3 => ?_
  have P3 := P2.run hK3 hL3 (idsA (fun e he => (by cases he)))
  refine at_call 60 [] (some 21) [] (by kernel_rfl) (by kernel_rfl) (by kernel_rfl) (P3.ty (truth_ty _) fun w4 P4 hs4 => ⟨_, rfl, ?_⟩)
  refine at_run 90 (popOp tA1) w4.heap.size _ [] tA2 ((19, .agg (dCells (dIn 1 [104] tHours)).toArray) :: (20, .agg (dCells (dIn 1 [103] tNumber)).toArray) :: (22, .agg (dCells (dIn 1 [102] tTruth)).toArray) :: envA b w H true) w4.heap.size (memA w agZero (.slice none 0 0) []) P4.lies (by kernel_rfl) fun w5 E5 hL5 hK5 => ?_
  have P5 := P4.run hK5 hL5 (idsA (fun e he => (by cases he)))
  refine at_call 61 [] (some 23) [] (by kernel_rfl) (by kernel_rfl) (by kernel_rfl) (P5.ty (money_ty _) fun w6 P6 hs6 => ⟨_, rfl, ?_⟩)
  refine at_run 90 (popOp tA2) w6.heap.size _ [] tA3 ((19, .agg (dCells (dIn 1 [104] tHours)).toArray) :: (20, .agg (dCells (dIn 1 [103] tNumber)).toArray) :: (22, .agg (dCells (dIn 1 [102] tTruth)).toArray) :: (24, .agg (dCells (dIn 5 [103, 114, 111, 115, 115] tMoney)).toArray) :: envA b w H true) w6.heap.size (memA w agZero (.slice none 0 0) []) P6.lies (by kernel_rfl) fun w7 E7 hL7 hK7 => ?_
  have P7 := P6.run hK7 hL7 (idsA (fun e he => (by cases he)))
  refine at_call 59 [] (some 25) [] (by kernel_rfl) (by kernel_rfl) (by kernel_rfl) (P7.ty (hours_ty _) fun w8 P8 hs8 => ⟨_, rfl, ?_⟩)
  refine at_run 90 (popOp tA3) w8.heap.size _ [(1, 1)] tA4 (envA b w H true) (w8.heap.size + 1) (memA w agZero (.slice (some ⟨w8.heap.size, 0, none⟩) 5 5) [⟨w8.heap.size, 0, rows5.flatten, 93, true⟩]) P8.lies (by kernel_rfl) fun w9 E9 hL9 hK9 => ?_
  have hsz : w.heap.size + 2 ≤ w8.heap.size := by
    have := (P8.lies.sat.good ⟨w.heap.size + 1, 0, [metal, .slice none 0 0], 54, true⟩ (by simp [memA])).1
    simp only at this
    omega
  have P9 := P8.run (mem' := memA w agZero (.slice (some ⟨w8.heap.size, 0, none⟩) 5 5) []) hK9 (lies_take hL9 2) (idsA (fun e he => (by cases he)))
  have hg := hL9.sat.good ⟨w8.heap.size, 0, rows5.flatten, 93, true⟩ (by simp [memA])
  have hb := hg.2
  rw [if_pos rfl] at hb
  refine ag_front IH hH (rs := rows5) ⟨P9, ⟨by rfl, .inr ⟨w8.heap.size, 5, _, rfl, hsz, hb.1, by decide, by unfold maxLen; decide, by rfl, by rfl⟩⟩, fun r hr => ?_, fun e he => (by cases he), fun e he => (by cases he)⟩ rfl
  obtain ⟨d, hd, rfl⟩ := List.mem_map.1 hr
  refine ⟨d, d5_ok d hd, ?_⟩
  simp only [d5, List.mem_cons, List.not_mem_nil, or_false] at hd
  rcases hd with rfl | rfl | rfl | rfl | rfl <;> exact ⟨none, 0, exCells0, exS_none _ _, .inl rfl, rfl⟩
end
end Go.Proofs.YtpdbkbadjgellaaGreatDoor

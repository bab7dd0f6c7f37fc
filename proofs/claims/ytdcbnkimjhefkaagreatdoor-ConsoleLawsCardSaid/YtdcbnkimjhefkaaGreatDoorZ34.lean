/-
  The built-in rules of the console: the law.
-/
import Derived.Test.YtdcbnkimjhefkaaGreatDoorZ32
import Derived.Test.YtdcbnkimjhefkaaGreatDoorZ33
namespace Go.Proofs.YtdcbnkimjhefkaaGreatDoor
open Go.RowKit
def noRegL : List Item → Bool
  | .inRegion _ _ :: _ => false
  | _ => true
theorem no_regL {t : List Item} (h : noRegL t = true) : ∀ ops l k, t ≠ .inRegion ops l :: k := by
  intro ops l k e
  rw [e] at h
  cases h
theorem Kept.belowC {O : List Nat} {B : Nat} {w w' : World} (h : Kept O B w w') {B' : Nat} (hB : B' ≤ B) (hO : ∀ k ∈ O, B' ≤ k) : Go.RowKit.Below B' w w' :=
  ⟨h.os, h.tape, h.output, h.size, fun k hk => h.block k (by omega) fun hm => by have := hO k hm; omega⟩
theorem envL_row {p : Int} {t : Nat} {v : Value} (h : (envL p).get t = some v) : (t = 3 ∧ v = s1) ∨ (t = 4 ∧ v = s2) ∨ (t = 5 ∧ v = .int .i64 p) := by
  have hlt : t < 6 := by
    rcases Nat.lt_or_ge t 6 with h1 | h1
    · exact h1
    · have := Tr.get_of_lt (t := envL p) (n := 6) rfl h1
      rw [this] at h; cases h
  have hd : ∀ k, (envL p).get k = none → t ≠ k := fun k hk e => by
    subst e
    rw [hk] at h
    cases h
  have : t = 3 ∨ t = 4 ∨ t = 5 := by
    have h0 := hd 0 rfl
    have h1 := hd 1 rfl
    have h2 := hd 2 rfl
    omega
  rcases this with rfl | rfl | rfl
  · exact .inl ⟨rfl, (Option.some.inj h).symm⟩
  · exact .inr (.inl ⟨rfl, (Option.some.inj h).symm⟩)
  · exact .inr (.inr ⟨rfl, (Option.some.inj h).symm⟩)
set_option maxRecDepth 100000 in
theorem laws_any (at_ : Int) (w : World) (hw : Reads0 Tryz.prog H0 w) (h0 : -9223372036854775808 ≤ at_) (h1 : at_ ≤ 9223372036854775807) :
    Calls Tryz.prog 3 #[.int .i64 at_] w fun e w' => e = .returned (.bool true) ∧ Below w.heap.size w w' := by
  have hd := draw_good (P := Tryz.prog) mixedC orcC_good
  have hrec := eval_sound orcC_good hd 60
  have hok0 : AH.ok Tryz.prog H0 := ok_of (by kernel_rfl)
  obtain ⟨hok1, hn1, c1⟩ := hrec _ _ _ _ _ hok0 run1
  obtain ⟨hok2, hn2, c2⟩ := hrec _ _ _ _ _ hok1 run2
  have S0 : Sim Tryz.prog (capR H0) H0.get w := hw.sim H0_ne
  refine calls_at (args := [.int .i64 at_]) (fn := Tryz.f3) (c := codeL) (n := 185) (by kernel_rfl) (by kernel_rfl) (by kernel_rfl) (by kernel_rfl) ?_
  refine at_run 60 [.code codeL] w.heap.size [] [] tL0 [(0, .int .i64 at_)] w.heap.size [] (lies_nil w) (by kernel_rfl) fun w1 E1 hL1 hK1 => ?_
  have B1 : Below w.heap.size w w1 := hK1.belowC (Nat.le_refl _) (fun k hk => by cases hk)
  obtain ⟨S1, F1⟩ := S0.below B1
  refine at_call 8 [] (some 13) [] (by kernel_rfl) (by kernel_rfl) (by kernel_rfl) ((c1 _ w1 [] S1 .nil).mono fun e w2 hh => ?_)
  obtain ⟨v1, rfl, σ1, S2, F2, V1⟩ := hh
  refine ⟨_, rfl, ?_⟩
  obtain ⟨x1, m1, d1, le1, rfl, _⟩ := VR.slice_inv (b := 22) (off := 0) (n := 2) (m := 2) V1
  refine at_run 60 (popOp tL0) w2.heap.size [] [] tL1 [(0, .int .i64 at_), (13, .slice (some ⟨σ1.blk 22, σ1.sh 22 + 0, none⟩) 2 m1)] w2.heap.size [] (lies_nil w2) (by kernel_rfl) fun w3 E3 hL3 hK3 => ?_
  have B3 : Below w2.heap.size w2 w3 := hK3.belowC (Nat.le_refl _) (fun k hk => by cases hk)
  obtain ⟨S3, F3⟩ := S2.below B3
  refine at_call 9 [] (some 14) [] (by kernel_rfl) (by kernel_rfl) (by kernel_rfl) ((c2 _ w3 [] S3 .nil).mono fun e w4 hh => ?_)
  obtain ⟨v2, rfl, σ2, S4, F4, V2⟩ := hh
  refine ⟨_, rfl, ?_⟩
  obtain ⟨x2, m2, d2, le2, rfl, _⟩ := VR.slice_inv (b := 34) (off := 0) (n := 2) (m := 2) V2
  generalize hz1 : Value.slice (some ⟨σ2.blk 34, σ2.sh 34 + 0, none⟩) 2 m2 = z2 at V2 ⊢
  refine at_run 60 (popOp tL1) w4.heap.size [] [] tL2 [(0, .int .i64 at_), (3, .slice (some ⟨σ1.blk 22, σ1.sh 22 + 0, none⟩) 2 m1), (4, z2), (17, .bool false)] w4.heap.size [] (lies_nil w4) (by kernel_rfl) fun w5 E5 hL5 hK5 => ?_
  have B5 : Below w4.heap.size w4 w5 := hK5.belowC (Nat.le_refl _) (fun k hk => by cases hk)
  obtain ⟨S5, F5⟩ := S4.below B5
  refine at_cond false (by kernel_rfl) (fun h => nomatch h) fun _ => ?_
  refine at_run 60 (elseT tL2) w5.heap.size [] [] tL3 [(3, .slice (some ⟨σ1.blk 22, σ1.sh 22 + 0, none⟩) 2 m1), (4, z2), (18, .int .i64 at_)] w5.heap.size [] (lies_nil w5) (by kernel_rfl) fun w6 E6 hL6 hK6 => ?_
  have B6 : Below w5.heap.size w5 w6 := hK6.belowC (Nat.le_refl _) (fun k hk => by cases hk)
  obtain ⟨S6, F6⟩ := S5.below B6
  refine at_call 10 [.tmp 18, .const (.int .i64 2)] (some 19) [.int .i64 at_, .int .i64 2] (by kernel_rfl) (by kernel_rfl) (by kernel_rfl) ((pmod_any at_ 2 w6 h0 h1 (by omega) (by omega)).mono fun e w7 hh => ?_)
  obtain ⟨rfl, rfl⟩ := hh
  refine ⟨_, rfl, ?_⟩
  refine at_run 60 (popOp tL3) w6.heap.size [] [] tL4 [(3, .slice (some ⟨σ1.blk 22, σ1.sh 22 + 0, none⟩) 2 m1), (4, z2), (5, .int .i64 (at_ % 2))] w6.heap.size [] (lies_nil w6) (by kernel_rfl) fun w8 E8 hL8 hK8 => ?_
  have B8 : Below w6.heap.size w6 w8 := hK8.belowC (Nat.le_refl _) (fun k hk => by cases hk)
  obtain ⟨S8, F8⟩ := S6.below B8
  have hp : ∃ p, at_ % 2 = p ∧ runL p = some (.bool true) := by
    have q1 := Int.emod_nonneg at_ (show (2 : Int) ≠ 0 by omega)
    have q2 := Int.emod_lt_of_pos at_ (show (0 : Int) < 2 by omega)
    rcases (show at_ % 2 = 0 ∨ at_ % 2 = 1 by omega) with e | e
    · exact ⟨0, e, runL0⟩
    · exact ⟨1, e, runL1⟩
  obtain ⟨p, ep, hrun⟩ := hp
  rw [ep]
  unfold runL at hrun
  rw [Option.map_eq_some_iff] at hrun
  obtain ⟨⟨v3, H'⟩, r1, r2⟩ := hrun
  simp only at r2
  subst r2
  refine at_of_mid (run_sound orcC_good hd hrec (fn := Tryz.f3) (by kernel_rfl) 1000000 tL4 (envL p) H2 σ2 _ w8 hok2 r1 S8 ?_ fun v' σ' w' _ _ _ hF hv => ?_) (no_regL (by kernel_rfl))
  · refine ⟨rfl, Fr_size .., fun t v h => ?_⟩
    rw [Fr_get]
    rcases envL_row h with ⟨rfl, rfl⟩ | ⟨rfl, rfl⟩ | ⟨rfl, rfl⟩
    · exact ⟨_, rfl, V1.mono F4.le⟩
    · exact ⟨_, rfl, V2⟩
    · exact ⟨_, rfl, .int _ _⟩
  · refine ⟨by rw [hv.atomV rfl], ?_⟩
    have FF := Fwd.trans S0 F1 (Fwd.trans S1 F2 (Fwd.trans S2 F3 (Fwd.trans S3 F4 (Fwd.trans S4 F5 (Fwd.trans S5 F6 (Fwd.trans S6 F8 hF))))))
    refine FF.below (Nat.le_refl _) fun b ⟨i, x, hb, hx⟩ => .inr ?_
    obtain ⟨t, cs, rfl, _, rfl, _, _⟩ := hw.row b i x hb hx
    exact ⟨_, _, _, hb⟩
end Go.Proofs.YtdcbnkimjhefkaaGreatDoor

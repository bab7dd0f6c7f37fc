/-
  The law on groups: the walk.
-/
import Derived.Test.YtgmpcmnkcaniaaaGreatDoorSd0
import Derived.Test.YtgmpcmnkcaniaaaGreatDoorSd1
import Derived.Test.YtgmpcmnkcaniaaaGreatDoorSd2
import Derived.Test.YtgmpcmnkcaniaaaGreatDoorSd3
import Derived.Test.YtgmpcmnkcaniaaaGreatDoorSd4
import Derived.Test.YtgmpcmnkcaniaaaGreatDoorSd5
import Derived.Test.YtgmpcmnkcaniaaaGreatDoorTq
import Derived.Test.YtgmpcmnkcaniaaaGreatDoorJn
namespace Go.Proofs.YtgmpcmnkcaniaaaGreatDoor
open Go.RowKit
theorem mixedG : Tryz.prog.follows .mixedOrders = true := by kernel_rfl
theorem orcJ_good : OrcGood Tryz.prog orcJ := by
  intro g F hF args H v h σ w args' hS hv
  unfold orcJ at hF
  split at hF
  · rename_i hg
    obtain rfl := Option.some.inj hF
    rw [Nat.eq_of_beq_eq_true hg]
    exact join_good (fun bk o c xs sep w h1 h2 h3 h4 h5 => Tryz.join_any bk o c xs sep w h1 h2 h3 h4 h5) h hS hv
  · cases hF
set_option maxRecDepth 100000 in
theorem sane_run : (evalK Tryz.prog orcJ (drawK Tryz.prog orcJ) 60 9 [] H0).map (·.1) = some (.bool true) := by kernel_rfl
theorem sane_any (w : World) : Calls Tryz.prog 9 ([] : List Value).toArray w fun e w' => e = .returned (.bool true) ∧ Below w.heap.size w w' :=
  closed_call mixedG orcJ_good (by kernel_rfl) (by kernel_rfl) (by kernel_rfl) sane_run w
theorem orcG_good : OrcGood Tryz.prog orcG := by
  intro g F hF args H v h σ w args' hS hv
  unfold orcG at hF
  split at hF
  · rename_i hg
    obtain rfl := Option.some.inj hF
    rw [Nat.eq_of_beq_eq_true hg]
    exact join_good (fun bk o c xs sep w h1 h2 h3 h4 h5 => Tryz.join_any bk o c xs sep w h1 h2 h3 h4 h5) h hS hv
  · split at hF
    · rename_i hg
      obtain rfl := Option.some.inj hF
      rw [Nat.eq_of_beq_eq_true hg]
      unfold yesF at h
      split at h
      · obtain rfl := Option.some.inj h
        cases hv
        exact sane_any w
      · cases h
    · cases hF
theorem runG_all (a b : Nat) (ha : a < 6) (hb : b < 6) : runG a b = some (.bool true) := by
  match a, b, ha, hb with
  | 0, 0, _, _ => exact runG00
  | 0, 1, _, _ => exact runG01
  | 0, 2, _, _ => exact runG02
  | 0, 3, _, _ => exact runG03
  | 0, 4, _, _ => exact runG04
  | 0, 5, _, _ => exact runG05
  | 1, 0, _, _ => exact runG10
  | 1, 1, _, _ => exact runG11
  | 1, 2, _, _ => exact runG12
  | 1, 3, _, _ => exact runG13
  | 1, 4, _, _ => exact runG14
  | 1, 5, _, _ => exact runG15
  | 2, 0, _, _ => exact runG20
  | 2, 1, _, _ => exact runG21
  | 2, 2, _, _ => exact runG22
  | 2, 3, _, _ => exact runG23
  | 2, 4, _, _ => exact runG24
  | 2, 5, _, _ => exact runG25
  | 3, 0, _, _ => exact runG30
  | 3, 1, _, _ => exact runG31
  | 3, 2, _, _ => exact runG32
  | 3, 3, _, _ => exact runG33
  | 3, 4, _, _ => exact runG34
  | 3, 5, _, _ => exact runG35
  | 4, 0, _, _ => exact runG40
  | 4, 1, _, _ => exact runG41
  | 4, 2, _, _ => exact runG42
  | 4, 3, _, _ => exact runG43
  | 4, 4, _, _ => exact runG44
  | 4, 5, _, _ => exact runG45
  | 5, 0, _, _ => exact runG50
  | 5, 1, _, _ => exact runG51
  | 5, 2, _, _ => exact runG52
  | 5, 3, _, _ => exact runG53
  | 5, 4, _, _ => exact runG54
  | 5, 5, _, _ => exact runG55
  | a + 6, _, h, _ => omega
  | _, b + 6, _, h => omega
def ptG (b : Nat) : Value := .pointer (some ⟨b, 0, none⟩)
def slG (b : Nat) : Value := .slice (some ⟨b, 0, none⟩) 6 6
def σG (z : Nat) : Ren := ⟨fun b => if b = 8 then z else if b = 9 then z + 1 else b, fun _ => 0, fun _ => 0⟩
theorem atoms_get {σ : Ren} {D : Dom} {cs : List Value} (h : atoms0 cs = true) {j : Nat} {v : Value} (hj : cs[j]? = some v) : VR σ D v v := by
  obtain ⟨v', h1, h2⟩ := (VRs.of_atoms0 (σ := σ) (D := D) h).get hj
  rw [hj] at h1
  obtain rfl := Option.some.inj h1
  exact h2
theorem row_atoms {σ : Ren} {D : Dom} {b : Nat} {cs : List Value} (h : atoms0 cs = true) (hs : σ.sh b = 0) : Row σ D b none cs cs.toArray (0, 0) :=
  ⟨fun j h1 h2 => absurd h2 (Nat.not_lt_zero _), by rw [hs]; simp, fun j v hj => ⟨v, by rw [hs]; simpa using hj, atoms_get h hj⟩, fun _ _ e => by cases e⟩
theorem HG_row {b : Nat} {i : Option (Nat × Nat)} {t : TypeId} {cs : List Value} (h : HG.get b = some ⟨i, .cells t cs⟩) : (b = 8 ∧ i = none ∧ cs = wordsG) ∨ (b = 9 ∧ i = none ∧ cs = levelG) := by
  have hlt : b < 10 := by
    rcases Nat.lt_or_ge b 10 with h1 | h1
    · exact h1
    · have := (ok_of (P := Tryz.prog) (H := HG) (by kernel_rfl)).hi b h1
      rw [this] at h; cases h
  have hd : ∀ k, HG.get k = some ⟨none, .dead⟩ → b ≠ k := fun k hk e => by
    subst e
    rw [hk] at h
    simp at h
  have : b = 8 ∨ b = 9 := by
    have h0 := hd 0 rfl
    have h1 := hd 1 rfl
    have h2 := hd 2 rfl
    have h3 := hd 3 rfl
    have h4 := hd 4 rfl
    have h5 := hd 5 rfl
    have h6 := hd 6 rfl
    have h7 := hd 7 rfl
    omega
  rcases this with rfl | rfl
  · left
    have e : HG.get 8 = some ⟨none, .cells 9 wordsG⟩ := rfl
    rw [e] at h
    simp only [Option.some.injEq, Blk.mk.injEq, Body.cells.injEq] at h
    exact ⟨rfl, h.1.symm, h.2.2.symm⟩
  · right
    have e : HG.get 9 = some ⟨none, .cells 3 levelG⟩ := rfl
    rw [e] at h
    simp only [Option.some.injEq, Blk.mk.injEq, Body.cells.injEq] at h
    exact ⟨rfl, h.1.symm, h.2.2.symm⟩
theorem envG_row {a b : Int} {t : Nat} {v : Value} (h : (envG a b).get t = some v) : (t = 4 ∧ v = slG 8) ∨ (t = 5 ∧ v = slG 9) ∨ (t = 6 ∧ v = .int .i64 a) ∨ (t = 7 ∧ v = .int .i64 b) := by
  have hlt : t < 8 := by
    rcases Nat.lt_or_ge t 8 with h1 | h1
    · exact h1
    · have := Tr.get_of_lt (t := envG a b) (n := 8) rfl h1
      rw [this] at h; cases h
  have hd : ∀ k, (envG a b).get k = none → t ≠ k := fun k hk e => by
    subst e
    rw [hk] at h
    cases h
  have : t = 4 ∨ t = 5 ∨ t = 6 ∨ t = 7 := by
    have h0 := hd 0 rfl
    have h1 := hd 1 rfl
    have h2 := hd 2 rfl
    have h3 := hd 3 rfl
    omega
  rcases this with rfl | rfl | rfl | rfl
  · exact .inl ⟨rfl, (Option.some.inj h).symm⟩
  · exact .inr (.inl ⟨rfl, (Option.some.inj h).symm⟩)
  · exact .inr (.inr (.inl ⟨rfl, (Option.some.inj h).symm⟩))
  · exact .inr (.inr (.inr ⟨rfl, (Option.some.inj h).symm⟩))
def noReg : List Item → Bool
  | .inRegion _ _ :: _ => false
  | _ => true
theorem no_reg {t : List Item} (h : noReg t = true) : ∀ ops l k, t ≠ .inRegion ops l :: k := by
  intro ops l k e
  rw [e] at h
  cases h
def GroupsPost (w0 : World) (e : Ending) (w' : World) : Prop := e = .returned (.bool true) ∧ Below w0.heap.size w0 w'
set_option maxRecDepth 100000 in
theorem groups_rest {w0 w : World} {z : Nat} {E : Nat → Value} {a b : Nat} (ha : a < 6) (hb : b < 6) (hz : w0.heap.size ≤ z) (hB : Below w0.heap.size w0 w)
    (h8 : w.heap[z]? = some (.cells wordsG.toArray 9 (0, 0))) (h9 : w.heap[z + 1]? = some (.cells levelG.toArray 3 (0, 0))) :
    At Tryz.prog 3 (GroupsPost w0) tG3 (Fr 101 (updL E [(4, slG z), (5, slG (z + 1)), (6, .int .i64 a), (7, .int .i64 b)])) w := by
  have hd := draw_good (P := Tryz.prog) mixedG orcG_good
  have hrun := runG_all a b ha hb
  unfold runG at hrun
  rw [Option.map_eq_some_iff] at hrun
  obtain ⟨⟨v1, H'⟩, h1, h2⟩ := hrun
  simp only at h2
  subst h2
  refine at_of_mid (run_sound orcG_good hd (eval_sound orcG_good hd 60) (fn := Tryz.f3) (by kernel_rfl) 1000000 tG3 (envG a b) HG (σG z) _ w (ok_of (by kernel_rfl)) h1 ?_ ?_ fun v' σ' w' _ _ _ hF hv => ?_) (no_reg (by kernel_rfl))
  · refine ⟨fun b i t cs h => ?_, fun b b' hb hb' hne => ?_, fun g hg _ => ?_⟩
    · rcases HG_row h with ⟨rfl, rfl, rfl⟩ | ⟨rfl, rfl, rfl⟩
      · exact ⟨_, _, _, h8, row_atoms rfl rfl⟩
      · exact ⟨_, _, _, h9, row_atoms rfl rfl⟩
    · obtain ⟨_, _, _, e⟩ := hb
      obtain ⟨_, _, _, e'⟩ := hb'
      rcases HG_row e with ⟨rfl, _⟩ | ⟨rfl, _⟩ <;> rcases HG_row e' with ⟨rfl, _⟩ | ⟨rfl, _⟩
      · exact (hne rfl).elim
      · show z ≠ z + 1; omega
      · show z + 1 ≠ z; omega
      · exact (hne rfl).elim
    · have h8g : g < 8 := by
        have : Tryz.prog.globals.size = 8 := by kernel_rfl
        omega
      refine ⟨?_, rfl⟩
      show (if g = 8 then z else if g = 9 then z + 1 else g) = g
      rw [if_neg (by omega), if_neg (by omega)]
  · refine ⟨rfl, Fr_size .., fun t v h => ?_⟩
    rw [Fr_get]
    rcases envG_row h with ⟨rfl, rfl⟩ | ⟨rfl, rfl⟩ | ⟨rfl, rfl⟩ | ⟨rfl, rfl⟩
    · exact ⟨_, rfl, VR.slice (σ := σG z) ⟨8, 0, none⟩ 6 6 none rfl rfl⟩
    · exact ⟨_, rfl, VR.slice (σ := σG z) ⟨9, 0, none⟩ 6 6 none rfl rfl⟩
    · exact ⟨_, rfl, .int _ _⟩
    · exact ⟨_, rfl, .int _ _⟩
  · refine ⟨by rw [hv.atomV rfl], hB.trans (hF.below (Nat.le_trans hB.size (Nat.le_refl _)) fun b hb => ?_)⟩
    obtain ⟨_, _, _, e⟩ := hb
    rcases HG_row e with ⟨rfl, _⟩ | ⟨rfl, _⟩
    · exact hz
    · show w0.heap.size ≤ z + 1; omega
theorem IntsAt.le {w : World} {b b' : Nat} {v : Value} {ns : List Int} (h : IntsAt w b v ns) (hb : b ≤ b') : IntsAt w b' v ns := by
  obtain ⟨A, c, rfl, h1, h2, h3⟩ := h
  refine ⟨A, c, rfl, h1, h2, fun hn => ?_⟩
  obtain ⟨g, off, rfl, hg, hc⟩ := h3 hn
  exact ⟨g, off, rfl, by omega, hc⟩
theorem Kept.below {O : List Nat} {B : Nat} {w w' : World} (h : Kept O B w w') {B' : Nat} (hB : B' ≤ B) (hO : ∀ k ∈ O, B' ≤ k) : Below B' w w' :=
  ⟨h.os, h.tape, h.output, h.size, fun k hk => h.block k (by omega) fun hm => by have := hO k hm; omega⟩
set_option maxRecDepth 100000 in
theorem groups_any (v : Value) (ns : List Int) (w : World) (h : IntsAt w w.heap.size v ns) : Calls Tryz.prog 3 #[v] w fun e w' => e = .returned (.bool true) ∧ Below w.heap.size w w' := by
  refine calls_at (args := [v]) (fn := Tryz.f3) (c := codeG) (n := 101) (by kernel_rfl) (by kernel_rfl) (by kernel_rfl) (by kernel_rfl) ?_
  refine at_run 60 [.code codeG] w.heap.size [] [] tG0 [(16, v)] w.heap.size [] (lies_nil w) (by kernel_rfl) fun w1 E1 hL1 hK1 => ?_
  have B1 : Below w.heap.size w w1 := hK1.below (Nat.le_refl _) (fun k hk => by cases hk)
  have I1 : IntsAt w1 w1.heap.size v ns := (h.keep fun g hg => B1.block g hg).le B1.size
  refine at_call 4 [.tmp 16] (some 17) [v] (by kernel_rfl) (by kernel_rfl) (by kernel_rfl) ((tapeNew_any v ns w1 I1).mono fun e w2 hh => ?_)
  obtain ⟨rfl, T2, hs2, B2⟩ := hh
  refine ⟨_, rfl, ?_⟩
  refine at_run 60 (popOp tG0) w2.heap.size [] [] tG1 [(3, ptG w1.heap.size), (4, slG w2.heap.size), (5, slG (w2.heap.size + 1)), (20, ptG w1.heap.size)] (w2.heap.size + 2) [⟨w2.heap.size, 0, wordsG, 9, true⟩, ⟨w2.heap.size + 1, 0, levelG, 3, true⟩] (lies_nil w2) (by kernel_rfl) fun w3 E3 hL3 hK3 => ?_
  have B3 : Below w2.heap.size w2 w3 := hK3.below (Nat.le_refl _) (fun k hk => by cases hk)
  have T3 := T2.below B3
  have hL3' := lies_any hL3
  have g8 := (hL3.sat.good ⟨w2.heap.size, 0, wordsG, 9, true⟩ (by simp)).2
  have g9 := (hL3.sat.good ⟨w2.heap.size + 1, 0, levelG, 3, true⟩ (by simp)).2
  have s9 := (hL3.sat.good ⟨w2.heap.size + 1, 0, levelG, 3, true⟩ (by simp)).1
  rw [if_pos rfl] at g8 g9
  simp only at s9
  refine at_call 5 [.tmp 20, .const (.int .i64 6)] (some 21) [ptG w1.heap.size, .int .i64 6] (by kernel_rfl) (by kernel_rfl) (by kernel_rfl) ((next_any w1.heap.size ns 6 w3 T3 (by omega) (by omega)).mono fun e w4 hh => ?_)
  obtain ⟨a, ha, rfl, T4, N4⟩ := hh
  refine ⟨_, rfl, ?_⟩
  have k8 : w4.heap[w2.heap.size]? = w3.heap[w2.heap.size]? := N4.block _ (by omega) (by omega)
  have k9 : w4.heap[w2.heap.size + 1]? = w3.heap[w2.heap.size + 1]? := N4.block _ s9 (by omega)
  have hs4 := N4.size
  refine at_run 60 (popOp tG1) w4.heap.size [] [] tG2 [(3, ptG w1.heap.size), (4, slG w2.heap.size), (5, slG (w2.heap.size + 1)), (21, .int .i64 a), (22, ptG w1.heap.size)] w4.heap.size [] (lies_nil w4) (by kernel_rfl) fun w5 E5 hL5 hK5 => ?_
  have B5 : Below w4.heap.size w4 w5 := hK5.below (Nat.le_refl _) (fun k hk => by cases hk)
  have T5 := T4.below B5
  have hs5 := B5.size
  refine at_call 5 [.tmp 22, .const (.int .i64 6)] (some 23) [ptG w1.heap.size, .int .i64 6] (by kernel_rfl) (by kernel_rfl) (by kernel_rfl) ((next_any w1.heap.size ns 6 w5 T5 (by omega) (by omega)).mono fun e w6 hh => ?_)
  obtain ⟨b, hb, rfl, T6, N6⟩ := hh
  refine ⟨_, rfl, ?_⟩
  have hs6 := N6.size
  refine at_run 60 (popOp tG2) w6.heap.size [] [] tG3 [(4, slG w2.heap.size), (5, slG (w2.heap.size + 1)), (6, .int .i64 a), (7, .int .i64 b)] w6.heap.size [] (lies_nil w6) (by kernel_rfl) fun w7 E7 hL7 hK7 => ?_
  have B7 : Below w6.heap.size w6 w7 := hK7.below (Nat.le_refl _) (fun k hk => by cases hk)
  have hs1 := B1.size
  have hs3 := B3.size
  refine groups_rest (by omega) (by omega) (by omega) ?_ ?_ ?_
  · exact B1.trans ((B2.mono hs1).trans ((B3.mono (by omega)).trans ((N4.below (by omega) (by omega)).trans ((B5.mono (by omega)).trans ((N6.below (by omega) (by omega)).trans (B7.mono (by omega)))))))
  · rw [B7.block _ (by omega), N6.block _ (by omega) (by omega), B5.block _ (by omega), k8]
    exact g8.1
  · rw [B7.block _ (by omega), N6.block _ (by omega) (by omega), B5.block _ (by omega), k9]
    exact g9.1
end Go.Proofs.YtgmpcmnkcaniaaaGreatDoor

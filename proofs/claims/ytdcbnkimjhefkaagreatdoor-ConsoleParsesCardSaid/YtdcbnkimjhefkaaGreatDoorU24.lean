/-
  paygen's Fact: the agreement's branch; Fact.
  Appends from stop to stop; calls of the deck in any function; rows of commands that the call owns.
  paygen: a crash, a command.
-/
import Derived.Test.YtdcbnkimjhefkaaGreatDoorU23
import Derived.Laws.Append
import Derived.OwnWalk
namespace Go.Proofs.YtdcbnkimjhefkaaGreatDoor
open Go.RowKit
set_option maxRecDepth 100000
noncomputable def ops17 : Array Oper := regOf Tryz.f60 17
def W17 : Wr := [(58, 0), (59, 1), (60, 2), (61, 3), (62, 4), (63, 5), (64, 7)]
def C17 (b : Nat) (ns : List Int) (lim : Nat) (w0 : World) (k2 k3 : Nat) (d : Int) (m : Nat) (w : World) : Prop := m ≤ 9 ∧ ∃ y z : Int, FaS b ns (lim + (9 - m)) w0 k2 k3 (fc y z d [] 0 0 0 []) w
theorem C17.down {b : Nat} {ns : List Int} {lim : Nat} {w0 : World} {k2 k3 : Nat} {d : Int} (m : Nat) (w : World) (h : C17 b ns lim w0 k2 k3 d (m + 1) w) : C17 b ns lim w0 k2 k3 d m w := by
  obtain ⟨h1, y, z, S⟩ := h
  exact ⟨by omega, y, z, S.more (by omega)⟩
def T17 : List (Nat × Value) := [(1, .int .i64 5), (0, .int .i64 0)]
def L17 (b k3 : Nat) : List Loc :=
  [⟨0, [], [0], saysSl k3 (strsM textsL) 4⟩, pureL 1 [] (pb b), ⟨2, [0, 1], [2], saysLt 4⟩, ⟨3, [0, 2], [3], saysIx k3 (strsM textsL) 4⟩, ⟨4, [3], [4], saysEl textsL⟩,
   pureL 5 [] (.pointer (some ⟨k3, 1, none⟩)), ⟨6, [5], [], fun _ w => w.cell? ⟨k3, 1, none⟩ = some (.int .i64 5)⟩, pureL 7 [] (.pointer (some ⟨k3, 0, none⟩)), ⟨8, [7], [], fun _ w => w.cell? ⟨k3, 0, none⟩ = some (.int .i64 0)⟩]
theorem ok17 (b k3 : Nat) : (locOk .any ops17 W17 (Array.replicate 11 false) 101 (L17 b k3) && bare ops17 (L17 b k3)) = true := by kernel_rfl
variable {b : Nat} {ns : List Int} {lim lim' : Nat} {w0 : World} {k2 k3 : Nat} {c c' : Cmd} {w w' : World} {R : Ending → World → Prop} {E : Nat → Value}
theorem parts17 {d : Int} (hb3 : b < k3) (hlim : lim ≤ 4611686018427380000) : PartsN Tryz.prog ops17 101 (updL E (envF b k2 k3)) W17 (C17 b ns lim w0 k2 k3 d) (E24 b k3 T17) (L17 b k3) (L17 b k3) := by
  refine ⟨?_, partN_pure C17.down (E24.refl b k3 T17) (fun _ _ _ _ _ => by kernel_rfl), ?_, ?_, ?_, partN_pure C17.down (E24.refl b k3 T17) (fun _ _ _ _ _ => by kernel_rfl), ?_, partN_pure C17.down (E24.refl b k3 T17) (fun _ _ _ _ _ => by kernel_rfl), ?_, trivial⟩
  · refine ⟨fun vs u u' he h => saysSl_keep hb3 he h, fun m vals u hC hb => ?_⟩
    obtain ⟨hm, y, z, S⟩ := hC
    refine OpOk.call (f := 58) [] (args := []) (ats := #[]) (by kernel_rfl) rfl rfl (run_callable (by kernel_rfl) _ _) ((dtexts_any u).mono ?_)
    rintro e u' ⟨rfl, hr, hl, B⟩
    exact ⟨_, rfl, ⟨by omega, y, z, (S.below B).more (by omega)⟩, E24.of_but (.of_below B) (heap_lt S.h3) (by omega), _, rfl, heap_lt S.h3, hl, hr⟩
  · refine ⟨fun _ _ _ _ h => h, fun m vals u hC hb => ?_⟩
    obtain ⟨hm, y, z, S⟩ := hC
    obtain ⟨_, h1, _⟩ := hb
    refine OpOk.call (f := 32) [.tmp 59, .const (.int .i64 4)] (args := [pb b, .int .i64 4]) (ats := #[45, 3]) (by kernel_rfl) rfl ?_ (run_callable (by kernel_rfl) _ _) ?_
    · rw [show [.tmp 59, .const (.int .i64 4)].map (evalVE 101 (updL E (envF b k2 k3)) W17 vals) = [vals 1, .int .i64 4] by kernel_rfl, (List.cons.inj h1).1]
    · refine (dnext_any b ns _ 4 u S.dk.deck (by omega) (by omega) (by omega)).mono ?_
      rintro e u' ⟨k, hk, rfl, D⟩
      exact ⟨_, rfl, ⟨by omega, y, z, (S.call D).more (by omega)⟩, E24.of_but D.but (heap_lt S.h3) (by omega), k, by omega, rfl⟩
  · refine ⟨fun vs u u' he h => saysIx_keep hb3 he h, fun m vals u hC hb => ?_⟩
    obtain ⟨h0, h2, _⟩ := hb
    obtain ⟨g, hv, hg3, hgl, hr⟩ := h0
    obtain ⟨k, hk, hkv⟩ := h2
    exact OpOk.value (exec_index (sz := 1) (cap := 4) 53 (.tmp 58) (.tmp 60) (by kernel_rfl) ((by kernel_rfl : evalVE 101 (updL E (envF b k2 k3)) W17 vals (.tmp 58) = vals 0).trans (List.cons.inj hv).1) ((by kernel_rfl : evalVE 101 (updL E (envF b k2 k3)) W17 vals (.tmp 60) = vals 2).trans (List.cons.inj hkv).1) hk Tryz.underlying53 (by kernel_rfl)) ⟨C17.down m u hC, .refl _ _ _ _, g, k, hk, rfl, hg3, hgl, hr⟩
  · refine ⟨fun _ _ _ _ h => h, fun m vals u hC hb => ?_⟩
    obtain ⟨h3, _⟩ := hb
    obtain ⟨g, i, hi, hv, hg3, hgl, hr⟩ := h3
    have hn : i < textsL.length := hi
    have hx := List.getElem_mem hn
    have hc : (strsM textsL)[i]? = some (.string ⟨⟨textsL[i]⟩⟩) := by simp [hn]
    generalize textsL[i] = x at hx hc
    exact OpOk.knownE [(61, 3, .pointer (some ⟨g, 0 + i * 1, none⟩))] (by kernel_rfl) ⟨(List.cons.inj hv).1, trivial⟩ (OpOk.reads ⟨0, [⟨g, 0 + i * 1, [.string ⟨⟨x⟩⟩], 0, false⟩], (0, 0), []⟩ (fun e he => by rw [List.mem_singleton.1 he]; exact ent_one hgl hr hc) (.string ⟨⟨x⟩⟩) (by kernel_rfl) (by kernel_rfl) ⟨C17.down m u hC, .refl _ _ _ _, x, hx, rfl⟩)
  · refine ⟨fun _ u u' he h => he.cells (1, .int .i64 5) (by simp [T17]) h, fun m vals u hC hb => ?_⟩
    obtain ⟨hm, y, z, S⟩ := hC
    obtain ⟨h13, _⟩ := hb
    have hl := lies_one S.h3
    refine OpOk.knownE [(63, 5, .pointer (some ⟨k3, 1, none⟩))] (by kernel_rfl) ⟨(List.cons.inj h13).1, trivial⟩ (OpOk.runs ⟨u.heap.size, [entF k3 (fc y z d [] 0 0 0 [])], (0, 1), []⟩ ⟨u.heap.size, [entF k3 (fc y 5 d [] 0 0 0 [])], (0, 2), [(k3, k3), (1, 1)]⟩ .skip undef (by kernel_rfl) (.inr ⟨rfl, rfl⟩) ⟨hl.sat, hl.le, hl.own⟩ rfl fun u' hL hK => ?_)
    have S2 : FaS b ns (lim + (9 - (m + 1))) w0 k2 k3 (fc y 5 d [] 0 0 0 []) u' := S.ran1 hL hK
    refine ⟨⟨by omega, _, _, S2.more (by omega)⟩, ⟨hK.size, fun k hk _ h3 => hK.block k hk (by simpa using h3), fun p hp hq => ?_⟩, S2.cell 1⟩
    simp only [T17, List.mem_cons, List.not_mem_nil, or_false] at hp
    rcases hp with rfl | rfl
    · exact S2.cell 1
    · rw [← hq]; exact (S2.cell 0).trans (S.cell 0).symm
  · refine ⟨fun _ u u' he h => he.cells (0, .int .i64 0) (by simp [T17]) h, fun m vals u hC hb => ?_⟩
    obtain ⟨hm, y, z, S⟩ := hC
    obtain ⟨h13, _⟩ := hb
    have hl := lies_one S.h3
    refine OpOk.knownE [(64, 7, .pointer (some ⟨k3, 0, none⟩))] (by kernel_rfl) ⟨(List.cons.inj h13).1, trivial⟩ (OpOk.runs ⟨u.heap.size, [entF k3 (fc y z d [] 0 0 0 [])], (0, 0), []⟩ ⟨u.heap.size, [entF k3 (fc 0 z d [] 0 0 0 [])], (0, 1), [(k3, k3), (0, 0)]⟩ .skip undef (by kernel_rfl) (.inr ⟨rfl, rfl⟩) ⟨hl.sat, hl.le, hl.own⟩ rfl fun u' hL hK => ?_)
    have S2 : FaS b ns (lim + (9 - (m + 1))) w0 k2 k3 (fc 0 z d [] 0 0 0 []) u' := S.ran1 hL hK
    refine ⟨⟨by omega, _, _, S2.more (by omega)⟩, ⟨hK.size, fun k hk _ h3 => hK.block k hk (by simpa using h3), fun p hp hq => ?_⟩, S2.cell 0⟩
    simp only [T17, List.mem_cons, List.not_mem_nil, or_false] at hp
    rcases hp with rfl | rfl
    · rw [← hq]; exact (S2.cell 1).trans (S.cell 1).symm
    · exact S2.cell 0
theorem region17 {e d : Int} (hd : mid d) (hlim : lim ≤ 4611686018427380000) (S : FaS b ns lim w0 k2 k3 (fc e 0 d [] 0 0 0 []) w) :
    At Tryz.prog 60 (FactPost b ns (lim + 9) w0) tFq3 (Fr 101 (updL E (envF b k2 k3))) w := by
  have hb3 : b < k3 := by have := S.l2; have := S.l3; have := S.lb; omega
  refine at_draw ops17 (by kernel_rfl) (by kernel_rfl) 11 (by kernel_rfl) ?_
  refine any_partsN (fuel := 2) (L := L17 b k3) (W := W17) (C := C17 b ns lim w0 k2 k3 d) (Ext := E24 b k3 T17) (ok17 b k3) ⟨Nat.le_refl _, e, 0, S.below (Below.refl _ _).drew⟩ C17.down (E24.refl b k3 T17) (fun _ _ _ => E24.trans) (parts17 hb3 hlim) rfl ?_
  intro vals u hC _ hall
  obtain ⟨_, y, z, S0⟩ := hC
  obtain ⟨_, _, _, _, ⟨x4, hx4, e4⟩, _, h6, _, h8, _⟩ := hall
  have hz : z = 5 := by
    have h14' : u.cell? ⟨k3, 1, none⟩ = some (.int .i64 5) := h6
    have h15 : u.cell? ⟨k3, 1, none⟩ = some (.int .i64 z) := S0.cell 1
    rw [h15] at h14'
    exact (Value.int.inj (Option.some.inj h14')).2
  have hy : y = 0 := by
    have h14' : u.cell? ⟨k3, 0, none⟩ = some (.int .i64 0) := h8
    have h15 : u.cell? ⟨k3, 0, none⟩ = some (.int .i64 y) := S0.cell 0
    rw [h15] at h14'
    exact (Value.int.inj (Option.some.inj h14')).2
  subst hz hy
  have r9 : Region.ready .any ops17 (((L17 b k3).map (·.idx)).foldl (fun b i => b.setIfInBounds i true) (Array.replicate 11 false)) = [9] := by kernel_rfl
  have r10 : Region.ready .any ops17 ((((L17 b k3).map (·.idx)).foldl (fun b i => b.setIfInBounds i true) (Array.replicate 11 false)).setIfInBounds 9 true) = [10] := by kernel_rfl
  have r11 : Region.ready .any ops17 (((((L17 b k3).map (·.idx)).foldl (fun b i => b.setIfInBounds i true) (Array.replicate 11 false)).setIfInBounds 9 true).setIfInBounds 10 true) = [] := by kernel_rfl
  have qs : ((62, vals 4) :: envF b k2 k3).map (fun p => finE ops17 vals ((L17 b k3).map (·.idx)) (updL E (envF b k2 k3)) p.1) = ((62, vals 4) :: envF b k2 k3).map (·.2) := by kernel_rfl
  generalize ((L17 b k3).map (·.idx)).foldl (fun b i => b.setIfInBounds i true) (Array.replicate 11 false) = lst at *
  generalize finE ops17 vals ((L17 b k3).map (·.idx)) (updL E (envF b k2 k3)) = E8 at *
  rw [← updL_same qs, show vals 4 = .string ⟨⟨x4⟩⟩ from (List.cons.inj e4).1]
  have l9 := lies_one S0.h3
  refine any_run (fuel := 1) (ops17.getD 9 default) ⟨u.heap.size, [entF k3 (fc 0 5 d [] 0 0 0 [])], (0, 0), []⟩ ⟨u.heap.size, [entF k3 (fc 0 5 d [] 0 0 0 [])], (0, 0), []⟩ (.value (.pointer (some ⟨k3, 7, none⟩))) (.pointer (some ⟨k3, 7, none⟩)) r9 (by kernel_rfl) (by kernel_rfl) (by kernel_rfl) (.inl rfl) l9 rfl fun u9 hL9 hK9 => ?_
  have S9 := S0.ran1 hL9 hK9
  have l10 := lies_one S9.h3
  refine any_run (fuel := 0) (ops17.getD 10 default) ⟨u9.heap.size, [entF k3 (fc 0 5 d [] 0 0 0 [])], (0, 7), []⟩ ⟨u9.heap.size, [entF k3 (fc 0 5 d [] 0 0 0 x4)], (0, 8), [(k3, k3), (7, 7)]⟩ .skip undef r10 (by kernel_rfl) (by kernel_rfl) (by kernel_rfl) (.inr ⟨rfl, rfl⟩) ⟨l10.sat, l10.le, l10.own⟩ rfl fun u10 hL10 hK10 => ?_
  have S10 : FaS b ns (lim + (9 - 0)) w0 k2 k3 (fc 0 5 d [] 0 0 0 x4) u10 := S9.ran1 hL10 hK10
  refine any_end r11 ⟨rfl, At.mid ?_⟩
  refine at_known (envF b k2 k3) (by kernel_rfl) fun E9 => ?_
  refine at_runC 300 [(2, 1)] (tailT tFq3) u10.heap.size [entF k3 (fc 0 5 d [] 0 0 0 x4), entZ k2] tFz [(2, pb k2)] u10.heap.size [entF k3 (fc 0 5 d [] 0 0 0 x4), ⟨k2, 0, (fc 0 5 d [] 0 0 0 x4).fact, 61, true⟩] (lies_two S10.h3 S10.h2 S10.ne) (by kernel_rfl) fun w9 E9 hL9 hK9 => ?_
  exact fact_ret (gen5 d x4 hd hx4) S10 hL9 hK9
theorem FactPost.more {e : Ending} (h : FactPost b ns lim w0 e w) (hl : lim ≤ lim') : FactPost b ns lim' w0 e w := by
  obtain ⟨c, h1, h2, h3⟩ := h
  exact ⟨c, h1, h2, ⟨h3.deck.more hl, h3.but⟩⟩
theorem wp_monoQ {P : Program} {o : Oper} {a : Act} {w : World} {K K' : Act → World → Prop} {Q Q' : Exit → Act → World → Prop} (hK : ∀ a w, K a w → K' a w) (hQ : ∀ e a w, Q e a w → Q' e a w) (hh : o.wp P a w K Q) : o.wp P a w K' Q' := by
  have hO : LetsOut Q → LetsOut Q' := fun ⟨a, w, h⟩ => ⟨a, w, hQ _ _ _ h⟩
  unfold Oper.wp at *
  generalize (execOp a.eval o).run P w = r at *
  cases r with
  | ok n w' =>
    cases n <;> simp only [Oper.upon] at hh ⊢ <;>
      first
        | exact hK _ _ hh
        | exact Calls.mono hh (fun e w'' he => by cases e <;> first | exact hK _ _ he | exact hQ _ _ _ he | exact hO he)
        | exact Rows.mono hh (fun _ _ he => hK _ _ he)
  | halt x w' => cases x <;> simp only [Oper.upon] at hh ⊢ <;> first | exact hQ _ _ _ hh | exact hO hh | exact hh
theorem wpOps_monoQ {P : Program} {ops : Array Oper} {Q Q' : Exit → Act → World → Prop} (hQ : ∀ e a w, Q e a w → Q' e a w) : ∀ (l : List Nat) (a : Act) (w : World), wpOps P ops Q l a w → wpOps P ops Q' l a w
  | [], a, w, h => hQ _ _ _ h
  | i :: rest, a, w, h => by
    have ih := wpOps_monoQ (P := P) (ops := ops) hQ rest
    unfold wpOps at h ⊢
    split
    · rename_i ho
      simp only [ho] at h
      exact ih _ _ h
    · rename_i o ho
      simp only [ho] at h
      split
      · rename_i hw
        rw [if_pos hw] at h
        exact h.imp (wp_monoQ ih hQ) (fun ⟨h1, a, w, h2⟩ => ⟨h1, a, w, hQ _ _ _ h2⟩)
      · rename_i hw
        rw [if_neg hw] at h
        exact ih _ _ h
theorem Mid.post {P : Program} {f : FuncId} {R R' : Ending → World → Prop} {td : List Item} {a : Act} {w : World} (h : Mid P f R td a w) (hR : ∀ e w, R e w → R' e w) : Mid P f R' td a w := fun cs =>
  let ⟨e, u, fr, h1, h2⟩ := h cs
  ⟨e, u, fr, hR _ _ h1, h2⟩
theorem At.post {P : Program} {f : FuncId} {R R' : Ending → World → Prop} {td : List Item} {a : Act} {w : World} (h : At P f R td a w) (hR : ∀ e w, R e w → R' e w) : At P f R' td a w := by
  cases td with
  | nil => exact Mid.post h hR
  | cons x k =>
    cases x <;> first
      | exact wpOps_monoQ (fun _ _ _ ⟨h1, h2⟩ => ⟨h1, Mid.post h2 hR⟩) _ _ _ h
      | exact Mid.post h hR
theorem dfact_any (b : Nat) (ns : List Int) (lim : Nat) (w : World) (h : DeckOk b ns lim w) (hlim : lim ≤ 4611686018427370000) :
    Calls Tryz.prog 60 #[pb b] w (FactPost b ns (lim + 20) w) := by
  have hlt := h.lt
  refine calls_at (args := [pb b]) (fn := Tryz.f60) (c := codeFt) (n := 101) (by kernel_rfl) (by kernel_rfl) (by kernel_rfl) (by kernel_rfl) ?_
  refine at_run 60 [.code codeFt] w.heap.size [] [] tFt0 [(0, pb b), (2, pb w.heap.size), (4, pb b)] (w.heap.size + 1) [entZ w.heap.size] (lies_nil w) (by kernel_rfl) fun w1 E1 hL1 hK1 => ?_
  have z1 := own_good (hL1.sat.good _ (List.mem_singleton.2 rfl))
  have D1 := (DK.refl h).below (hK1.below (Nat.le_refl _) (fun k hk => by cases hk))
  refine at_call 32 [.tmp 4, .const (.int .i64 3)] (some 5) [pb b, .int .i64 3] (by kernel_rfl) (by kernel_rfl) (by kernel_rfl) ((dnext_any b ns lim 3 w1 D1.deck (by omega) (by omega) (by omega)).mono fun e w2 hh => ?_)
  obtain ⟨k, hk, rfl, d2⟩ := hh
  refine ⟨_, rfl, ?_⟩
  have D2 := D1.next d2
  have z2 := (d2.but.block _ (heap_lt z1) (by omega)).trans z1
  refine at_run 60 (popOp tFt0) w2.heap.size [] [] tFt1 [(0, pb b), (2, pb w.heap.size), (6, .int .i64 (IntKind.i64.wrap (1 + (k : Int)))), (7, pb b)] w2.heap.size [] (lies_nil w2) (by kernel_rfl) fun w3 E3 hL3 hK3 => ?_
  have b3 : Below w2.heap.size w2 w3 := hK3.below (Nat.le_refl _) (fun k hk => by cases hk)
  have D3 := D2.below b3
  have z3 := (b3.block _ (heap_lt z2)).trans z2
  have hwe : IntKind.i64.wrap (1 + (k : Int)) = 1 + (k : Int) := IntWalk.i64_in _ (by omega)
  rw [hwe]
  have he : mid (1 + (k : Int)) := ⟨by omega, by omega⟩
  generalize 1 + (k : Int) = e at he
  refine at_call 110 [.tmp 7] (some 8) [pb b] (by kernel_rfl) (by kernel_rfl) (by kernel_rfl) ((dday_any b ns (lim + 1) w3 D3.deck (by omega)).mono fun e' w4 hh => ?_)
  obtain ⟨d, hd, rfl, d4⟩ := hh
  refine ⟨_, rfl, ?_⟩
  have D4 := D3.next d4
  have z4 := (d4.but.block _ (heap_lt z3) (by omega)).trans z3
  have hd' : mid d := ⟨by omega, by omega⟩
  refine at_run 60 (popOp tFt1) w4.heap.size [] [(0, 0)] tFt2 [(0, pb b), (2, pb w.heap.size), (3, pb w4.heap.size), (10, pb b)] (w4.heap.size + 1) [entF w4.heap.size (fc e 0 d [] 0 0 0 [])] (lies_nil w4) (by kernel_rfl) fun w5 E5 hL5 hK5 => ?_
  have b5 : Below w4.heap.size w4 w5 := hK5.below (Nat.le_refl _) (fun k hk => by cases hk)
  have S5 : FaS b ns (lim + 3) w w.heap.size w4.heap.size (fc e 0 d [] 0 0 0 []) w5 := ⟨D4.below b5, (b5.block _ (heap_lt z4)).trans z4, own_good (hL5.sat.good _ (List.mem_singleton.2 rfl)), Nat.le_refl _, heap_lt z4, hlt⟩
  generalize w.heap.size = k2 at *
  generalize w4.heap.size = k3 at *
  refine next_call (n := 16) (dst := some 11) (ops := [.tmp 10, .const (.int .i64 16)]) S5 (by omega) (by omega) (by omega) (by kernel_rfl) (by kernel_rfl) fun k w6 hk S6 => ?_
  refine at_known (envF b k2 k3 ++ [(11, .int .i64 k)]) (by kernel_rfl) fun E6 => ?_
  have cases16 : k = 0 ∨ k = 1 ∨ (k = 2 ∨ k = 3 ∨ k = 4 ∨ k = 5) ∨ (k = 6 ∨ k = 7) ∨ k = 8 ∨ k = 9 ∨ k = 10 ∨ (k = 11 ∨ k = 12) ∨ k = 13 ∨ k = 14 ∨ k = 15 := by omega
  rcases cases16 with rfl | rfl | h4 | h4 | rfl | rfl | rfl | h4 | h4
  · exact At.post (fact_hired he hd' S6) fun _ _ h => h.more (by omega)
  · exact At.post (fact_left he hd' S6) fun _ _ h => h.more (by omega)
  · exact At.post (fact_input he hd' (by omega) S6 k h4) fun _ _ h => h.more (by omega)
  · exact At.post (fact_hours he hd' (by omega) S6 k h4) fun _ _ h => h.more (by omega)
  · refine at_runC 300 [] (popOp tFt2) w6.heap.size [] tFq3 (envF b k2 k3) w6.heap.size [] (lies_nil w6) (by kernel_rfl) fun w7 E7 hL7 hK7 => ?_
    exact At.post (region17 hd' (by omega) (S6.below (hK7.below (Nat.le_refl _) (fun k hk => by cases hk)))) fun _ _ h => h.more (by omega)
  · exact At.post (fact_rules he hd' (by omega) S6) fun _ _ h => h.more (by omega)
  · exact At.post (fact_depend he hd' (by omega) S6) fun _ _ h => h.more (by omega)
  · rcases h4 with rfl | rfl
    all_goals
      refine at_runC 300 [] (popOp tFt2) w6.heap.size [] tFq6 (envF b k2 k3) w6.heap.size [] (lies_nil w6) (by kernel_rfl) fun w7 E7 hL7 hK7 => ?_
      exact At.post (region24 he hd' (by omega) (S6.below (hK7.below (Nat.le_refl _) (fun k hk => by cases hk)))) fun _ _ h => h.more (by omega)
  · rcases h4 with rfl | rfl | rfl
    all_goals
      refine at_runC 300 [] (popOp tFt2) w6.heap.size [] tFq7 (envF b k2 k3) w6.heap.size [] (lies_nil w6) (by kernel_rfl) fun w7 E7 hL7 hK7 => ?_
      exact At.post (region3 he hd' (by omega) (S6.below (hK7.below (Nat.le_refl _) (fun k hk => by cases hk)))) fun _ _ h => h.more (by omega)
end Go.Proofs.YtdcbnkimjhefkaaGreatDoor

namespace Go.Proofs.YtdcbnkimjhefkaaGreatDoor
open Go.RowKit
set_option maxRecDepth 100000
theorem wp_append {P : Program} {w : World} {o : Oper} {a : Act} {K : Act → World → Prop} {Q : Exit → Act → World → Prop} (s x : Operand) (t : TypeId)
    (ho : o.op = .call { callee := .builtin .append, args := #[s, x], argTypes := #[t, t] })
    (base : Nat) (e : TypeId) {z : Value} {size bytes : Nat} (ht : P.underlying t = some (.slice e)) (hinfo : (P.info? e).map (fun i => (i.zero, i.size, i.bytes)) = some (some z, size, bytes)) (hzs : z.cells.size = size) (hsz : 0 < size)
    (v : Value) (n : Nat) (xs : List Value) (hs : a.eval s = v) (hown : w.ownsRow base e size v n xs)
    (ad : Addr) (m c : Nat) (news : List Value) (hx : a.eval x = .slice (some ad) m c) (hl : news.length = m * size) (hnews : ∀ j u, news[j]? = some u → w.cell? (ad.add j) = some u) (h1 : ∀ u ∈ news, u.oneCell' = true)
    (h63 : n + m ≤ maxLen) (hbytes : (n + m) * bytes ≤ 140737488355328) (hbase : base ≤ w.heap.size)
    (h : ∀ v' w', w'.ownsRow base e size v' (n + m) (xs ++ news) → w.grownBy w' v.ownBlock → K (a.put o.dst v') w') : o.wp P a w K Q := by
  obtain ⟨i, hi, hz, hsize, hby⟩ := info_partsC hinfo
  obtain ⟨v', w', hr, h2, h3, h4⟩ := run_append_own (P := P) w base t o.type e i z size bytes ht hi hz hsize hby hzs hsz v n xs hown ad m c news hl hnews h1 h63 hbytes hbase
  unfold Oper.wp execOp
  simp only [ho, resolve, invoke, builtin, Sem.run_bind, Sem.run_pure, Result.andThen_ok, List.map_toArray, List.map_cons, List.map_nil, hs, hx, hr]
  exact h v' w' h2 h3
section
variable {P : Program} {f : FuncId} {R : Ending → World → Prop}
theorem at_append {n : Nat} {td : List Item} {E : Nat → Value} {w : World} (o : Oper) (hc : curOp n E td = some o) (s x : Operand) (t : TypeId)
    (ho : o.op = .call { callee := .builtin .append, args := #[s, x], argTypes := #[t, t] })
    (base : Nat) (e : TypeId) {z : Value} {size bytes : Nat} (ht : P.underlying t = some (.slice e)) (hinfo : (P.info? e).map (fun i => (i.zero, i.size, i.bytes)) = some (some z, size, bytes)) (hzs : z.cells.size = size) (hsz : 0 < size)
    (v : Value) (k : Nat) (xs : List Value) (hs : evE n E s = v) (hown : w.ownsRow base e size v k xs)
    (ad : Addr) (m c : Nat) (news : List Value) (hx : evE n E x = .slice (some ad) m c) (hl : news.length = m * size) (hnews : ∀ j u, news[j]? = some u → w.cell? (ad.add j) = some u) (h1 : ∀ u ∈ news, u.oneCell' = true)
    (h63 : k + m ≤ maxLen) (hbytes : (k + m) * bytes ≤ 140737488355328) (hbase : base ≤ w.heap.size)
    (h : ∀ v' w', w'.ownsRow base e size v' (k + m) (xs ++ news) → w.grownBy w' v.ownBlock → At P f R (popOp td) (Fr n (updO E o.dst v')) w') : At P f R td (Fr n E) w := by
  unfold curOp at hc
  split at hc
  · rename_i ops i r k'
    split at hc
    · rename_i o' ho'
      split at hc
      · rename_i hw
        obtain rfl := Option.some.inj hc
        refine wpOps_some ho' (by rw [yielded_Fr]; exact hw) ?_
        refine wp_append s x t ho base e ht hinfo hzs hsz v k xs (by rw [eval_Fr]; exact hs) hown ad m c news (by rw [eval_Fr]; exact hx) hl hnews h1 h63 hbytes hbase fun v' w' h2 h3 => ?_
        rw [Fr_put]
        exact h v' w' h2 h3
      · cases hc
    · cases hc
  · cases hc
variable {b : Nat} {ns : List Int} {lim : Nat} {w : World}
end
def opAt : List Item → Oper
  | .inRegion ops (i :: _) :: _ => ops.getD i default
  | _ => default
section
variable {f : FuncId} {R : Ending → World → Prop} {b : Nat} {ns : List Int} {lim : Nat} {w : World}
theorem pick_at {n : Nat} {td : List Item} {E : Nat → Value} {g cap : Nat} {xs : List Int} {dst : Option Tmp} {ops : List Operand} (D : DeckOk b ns lim w) (hg : w.heap[g]? = some (.cells (intsM xs).toArray 3 (0, 0))) (hgb : g ≠ b) (hx : xs ≠ []) (hxl : xs.length ≤ 100) (hlim : lim ≤ 4611686018427380000)
    (hc : curCall n E td = some (59, ops, dst)) (ha : ops.map (evE n E) = [pb b, .slice (some ⟨g, 0, none⟩) xs.length cap])
    (hk : ∀ x w2, x ∈ xs → DK b ns (lim + 1) w w2 → At Tryz.prog f R (popOp td) (Fr n (updO E dst (.int .i64 x))) w2) :
    At Tryz.prog f R td (Fr n E) w := by
  refine at_call 59 ops dst [pb b, .slice (some ⟨g, 0, none⟩) xs.length cap] hc ha (by kernel_rfl) ((dpick_any b ns lim w D (by omega) g cap xs hx hxl hgb (heap_lt hg) (rangeAt_lit hg 0 _ (by rw [List.drop_zero, List.take_length]))).mono fun e w2 hh => ?_)
  obtain ⟨x, hxm, rfl, D⟩ := hh
  exact ⟨_, rfl, hk x w2 hxm D⟩
theorem next_at {m : Nat} {td : List Item} {E : Nat → Value} {n : Nat} {dst : Option Tmp} {ops : List Operand} (D : DeckOk b ns lim w) (hn : 1 ≤ n) (hn2 : n ≤ 1000000) (hlim : lim ≤ 4611686018427380000)
    (hc : curCall m E td = some (32, ops, dst)) (ha : ops.map (evE m E) = [pb b, .int .i64 n])
    (hk : ∀ (k : Nat) w2, k < n → DK b ns (lim + 1) w w2 → At Tryz.prog f R (popOp td) (Fr m (updO E dst (.int .i64 k))) w2) :
    At Tryz.prog f R td (Fr m E) w := by
  refine at_call 32 ops dst [pb b, .int .i64 n] hc ha (by kernel_rfl) ((dnext_any b ns lim n w D (by omega) (by omega) (by omega)).mono fun e w2 hh => ?_)
  obtain ⟨k, hk2, rfl, D⟩ := hh
  exact ⟨_, rfl, hk k w2 (by omega) D⟩
end
structure ReS (b : Nat) (ns : List Int) (lim : Nat) (w0 : World) (k2 : Nat) (z : List Value) (ty : TypeId) (w : World) : Prop where
  dk : DK b ns lim w0 w
  h2 : w.heap[k2]? = some (.cells z.toArray ty (0, 0))
  l2 : w0.heap.size ≤ k2
  lb : b < w0.heap.size
theorem ReS.call {b : Nat} {ns : List Int} {lim lim' : Nat} {w0 w w' : World} {k2 : Nat} {z : List Value} {ty : TypeId} (h : ReS b ns lim w0 k2 z ty w) (D : DK b ns lim' w w') : ReS b ns lim' w0 k2 z ty w' := by
  have := h.l2
  have := h.lb
  exact ⟨h.dk.next D, (D.but.block _ (heap_lt h.h2) (by omega)).trans h.h2, h.l2, h.lb⟩
theorem ReS.below {b : Nat} {ns : List Int} {lim : Nat} {w0 w w' : World} {k2 : Nat} {z : List Value} {ty : TypeId} (h : ReS b ns lim w0 k2 z ty w) (hb : Below w.heap.size w w') : ReS b ns lim w0 k2 z ty w' := h.call ⟨h.dk.deck.below hb, .of_below hb⟩
structure RowC (b : Nat) (ns : List Int) (lim : Nat) (w0 : World) (v : Value) (l : List Cmd) (w : World) : Prop where
  dk : DK b ns lim w0 w
  own : w.ownsRow w0.heap.size 64 13 v l.length (l.flatMap Cmd.cells)
  gen : ∀ c ∈ l, GenC c
  lb : b < w0.heap.size
theorem own_le {w : World} {base base' : Nat} {e : TypeId} {size : Nat} {v : Value} {n : Nat} {xs : List Value} (h : w.ownsRow base e size v n xs) (hb : base' ≤ base) : w.ownsRow base' e size v n xs := by
  refine ⟨h.1, ?_⟩
  rcases h.2 with h1 | ⟨g, cap, cur, rfl, hbg, hr⟩
  · exact .inl h1
  · exact .inr ⟨g, cap, cur, rfl, by omega, hr⟩
theorem own_block {w : World} {base : Nat} {e : TypeId} {size : Nat} {v : Value} {n : Nat} {xs : List Value} (h : w.ownsRow base e size v n xs) {g : Nat} (hg : v.ownBlock = some g) : base ≤ g ∧ g < w.heap.size := by
  rcases h.2 with ⟨rfl, _⟩ | ⟨g', cap, cur, rfl, hbg, hr⟩
  · simp [Value.ownBlock] at hg
  · simp [Value.ownBlock] at hg
    subst hg
    exact ⟨hbg, heap_lt hr.1⟩
theorem RowC.call {b : Nat} {ns : List Int} {lim lim' : Nat} {w0 w w' : World} {v : Value} {l : List Cmd} (h : RowC b ns lim w0 v l w) (D : DK b ns lim' w w') : RowC b ns lim' w0 v l w' := by
  have := h.lb
  refine ⟨h.dk.next D, owns_keep h.own fun g hg => ?_, h.gen, h.lb⟩
  have := own_block h.own hg
  exact D.but.block g this.2 (by omega)
theorem RowC.below {b : Nat} {ns : List Int} {lim : Nat} {w0 w w' : World} {v : Value} {l : List Cmd} (h : RowC b ns lim w0 v l w) (hb : Below w.heap.size w w') : RowC b ns lim w0 v l w' := h.call ⟨h.dk.deck.below hb, .of_below hb⟩
theorem RowC.more {b : Nat} {ns : List Int} {lim lim' : Nat} {w0 w : World} {v : Value} {l : List Cmd} (h : RowC b ns lim w0 v l w) (hl : lim ≤ lim') : RowC b ns lim' w0 v l w := ⟨⟨h.dk.deck.more hl, h.dk.but⟩, h.own, h.gen, h.lb⟩
theorem infoCmd : (Tryz.prog.info? 64).map (fun i => (i.zero, i.size, i.bytes)) = some (some (.agg #[.int .i64 0, .int .i64 0, .int .i64 0, .int .i64 0, .string ⟨#[]⟩, .int .i64 0, .int .i64 0, .int .i64 0, .string ⟨#[]⟩, .int .i64 0, .int .u64 0, .int .i64 0, .int .i64 0]), 13, 120) := by kernel_rfl
theorem push_cmd {f : FuncId} {R : Ending → World → Prop} {b : Nat} {ns : List Int} {lim : Nat} {w0 w : World} {v : Value} {l : List Cmd} {c : Cmd} {n : Nat} {td : List Item} {E : Nat → Value} {g : Nat} (S : RowC b ns lim w0 v l w) (hG : GenC c) (hl : l.length ≤ 1000) (hg : w.heap[g]? = some (.cells c.cells.toArray 64 (0, 0)))
    (s x : Operand) (o : Oper) (hc : curOp n E td = some o) (ho : o.op = .call { callee := .builtin .append, args := #[s, x], argTypes := #[50, 50] }) (hs : evE n E s = v) (hx : evE n E x = .slice (some ⟨g, 0, none⟩) 1 1)
    (hk : ∀ v' w', RowC b ns lim w0 v' (l ++ [c]) w' → At Tryz.prog f R (popOp td) (Fr n (updO E o.dst v')) w') : At Tryz.prog f R td (Fr n E) w := by
  have hw0 : w0.heap.size ≤ w.heap.size := S.dk.but.size
  refine at_append o hc s x 50 ho w0.heap.size 64 Tryz.underlying50 infoCmd (by rfl) (by decide) v l.length (l.flatMap Cmd.cells) hs S.own ⟨g, 0, none⟩ 1 1 c.cells hx rfl ?_ ?_ (by unfold maxLen; omega) (by omega) hw0 ?_
  · intro j u hj
    rw [Addr.add_mid]
    exact rangeAt_lit hg 0 c.cells rfl j u hj
  · intro u hu
    simp only [Cmd.cells, List.mem_cons, List.not_mem_nil, or_false] at hu
    rcases hu with rfl | rfl | rfl | rfl | rfl | rfl | rfl | rfl | rfl | rfl | rfl | rfl | rfl <;> rfl
  · intro v' w' hown hgr
    have hlb := S.lb
    refine hk v' w' ⟨⟨?_, ?_⟩, ?_, ?_, S.lb⟩
    · have hD := S.dk.deck
      refine hD.block fun k hk => hgr.block k (Nat.lt_of_le_of_lt hk hD.lt) (fun e => ?_)
      have := own_block S.own e.symm
      omega
    · have hB := S.dk.but
      refine ⟨hgr.os.trans hB.os, hgr.tape.trans hB.tape, hgr.output.trans hB.output, Nat.le_trans hB.size hgr.size, fun k hk hkb => (hgr.block k (Nat.lt_of_lt_of_le hk hB.size) (fun e => ?_)).trans (hB.block k hk hkb)⟩
      have := own_block S.own e.symm
      omega
    · simpa [List.flatMap_append] using hown
    · intro x hx
      rcases List.mem_append.1 hx with h | h
      · exact S.gen x h
      · rw [List.mem_singleton.1 h]; exact hG
end Go.Proofs.YtdcbnkimjhefkaaGreatDoor

namespace Go.Proofs.YtdcbnkimjhefkaaGreatDoor
open Go.RowKit
set_option maxRecDepth 100000
def zeroC : List Value := [.int .i64 0, .int .i64 0, .int .i64 0, .int .i64 0, .string ⟨⟨[]⟩⟩, .int .i64 0, .int .i64 0, .int .i64 0, .string ⟨⟨[]⟩⟩, .int .i64 0, .int .u64 0, .int .i64 0, .int .i64 0]
def kc (k p : Int) : Cmd := ⟨k, 0, 0, 0, [], 0, 0, 0, [], p, 0, 0, 0⟩
def cr (wh : Nat) (t s : Int) : Cmd := ⟨6, 0, 0, 0, [], 0, 0, 0, [], 0, wh, t, s⟩
theorem kc_wf (k p : Int) (hk : mid k) (hp : mid p) : (kc k p).Wf := ⟨in_of hk, lit_in 0 rfl, lit_in 0 rfl, lit_in 0 rfl, lit_in 0 rfl, lit_in 0 rfl, lit_in 0 rfl, in_of hp, lit_in 0 rfl, lit_in 0 rfl, (by decide : (0 : Nat) < 18446744073709551616), Nat.zero_le _, Nat.zero_le _⟩
theorem genPrepare (p : Int) (hp : mid p) : GenC (kc 2 p) :=
  gen_of _ ⟨[112, 114, 101, 112, 97, 114, 101], 2, 0, [80]⟩ (by kernel_rfl) (by simp [okF, okL, okP, numP, leftP, restP, zeroP, zeroN, Cmd.of, kc, fits_of hp]) (kc_wf 2 p ⟨by decide, by decide⟩ hp) (by
    have lp := len_of hp
    simp [linesP, itemsP, itemP, numP, kc]
    omega) (by simp [kc]) (by simp [kc])
theorem genRelease : GenC (kc 3 0) :=
  gen_of _ ⟨[114, 101, 108, 101, 97, 115, 101], 3, 0, []⟩ (by kernel_rfl) (by simp [okF, okL, leftP, restP, Cmd.of, kc]) (kc_wf 3 0 ⟨by decide, by decide⟩ ⟨by decide, by decide⟩) (by simp [linesP, itemsP, kc]) (by simp [kc]) (by simp [kc])
theorem genPay : GenC (kc 4 0) :=
  gen_of _ ⟨[112, 97, 121], 4, 0, []⟩ (by kernel_rfl) (by simp [okF, okL, leftP, restP, Cmd.of, kc]) (kc_wf 4 0 ⟨by decide, by decide⟩ ⟨by decide, by decide⟩) (by simp [linesP, itemsP, kc]) (by simp [kc]) (by simp [kc])
theorem genReverse : GenC (kc 5 0) :=
  gen_of _ ⟨[114, 101, 118, 101, 114, 115, 101], 5, 0, []⟩ (by kernel_rfl) (by simp [okF, okL, leftP, restP, Cmd.of, kc]) (kc_wf 5 0 ⟨by decide, by decide⟩ ⟨by decide, by decide⟩) (by simp [linesP, itemsP, kc]) (by simp [kc]) (by simp [kc])
theorem genCrash (wh : Nat) (t s : Int) (hw : wh ≤ 1000000000000000000) (ht : mid t) (hs : mid s) : GenC (cr wh t s) := by
  have hw' : decide ((wh : Int) ≤ 1000000000000000000) = true := decide_eq_true (by omega)
  refine gen_of _ ⟨[99, 114, 97, 115, 104], 6, 0, [87, 84, 83]⟩ (by kernel_rfl) (by simp [okF, okL, okP, numP, leftP, restP, zeroP, zeroN, Cmd.of, cr, fits_of ht, fits_of hs]; exact hw') ⟨lit_in 6 rfl, lit_in 0 rfl, lit_in 0 rfl, lit_in 0 rfl, lit_in 0 rfl, lit_in 0 rfl, lit_in 0 rfl, lit_in 0 rfl, in_of ht, in_of hs, by simp only [cr]; omega, Nat.zero_le _, Nat.zero_le _⟩ (by
    have lt := len_of ht
    have ls := len_of hs
    have ew : Lib.itoa (wh : Int) = Lib.decDigits wh := by simp [Lib.itoa]
    have lw : (Lib.decDigits wh).length ≤ 21 := by rw [← ew]; exact len_of (n := (wh : Int)) ⟨by omega, by omega⟩
    simp [linesP, itemsP, itemP, numP, cr]
    omega) (by simp [cr]) (by simp [cr])
variable {b : Nat} {ns : List Int} {lim : Nat} {w0 w : World}
def CmdPost (b : Nat) (ns : List Int) (lim : Nat) (w0 : World) (e : Ending) (w : World) : Prop := ∃ c, GenC c ∧ e = .returned (.agg ⟨c.cells⟩) ∧ DK b ns lim w0 w
theorem CmdPost.more {lim' : Nat} {e : Ending} (h : CmdPost b ns lim w0 e w) (hl : lim ≤ lim') : CmdPost b ns lim' w0 e w := by
  obtain ⟨c, h1, h2, h3⟩ := h
  exact ⟨c, h1, h2, ⟨h3.deck.more hl, h3.but⟩⟩
theorem cmd_ret {f : FuncId} {n : Nat} {fn : Func} {td : List Item} {k2 : Nat} {z : List Value} {O : List Nat} {B zz : Nat} {x : Nat × Nat} {q : List (Nat × Nat)} {w' : World} {E : Nat → Value} {c : Cmd} (hr : isRet td = true) (hf : Tryz.prog.funcs[f]? = some fn) (hG : GenC c) (S : ReS b ns lim w0 k2 z 64 w) (hL : Lies O B w' ⟨zz, [⟨k2, 0, c.cells, 64, true⟩], x, q⟩) (hK : Kept [k2] w.heap.size w w')
    (hv : (lrun Tryz.prog (resultsE fn n E) ⟨0, [⟨k2, 0, c.cells, 64, true⟩], (0, 0), []⟩).map (·.1) = some (.agg ⟨c.cells⟩))
    (he : ((lrun Tryz.prog (resultsE fn n E) ⟨0, [⟨k2, 0, c.cells, 64, true⟩], (0, 0), []⟩).map (·.2.eqs.map Prod.fst)) = ((lrun Tryz.prog (resultsE fn n E) ⟨0, [⟨k2, 0, c.cells, 64, true⟩], (0, 0), []⟩).map (·.2.eqs.map Prod.snd))) :
    At Tryz.prog f (CmdPost b ns lim w0) td (Fr n E) w' := by
  have g2 := hL.sat.good _ (List.mem_singleton.2 rfl)
  have h1 := S.l2
  have h4 := S.lb
  exact at_ret hr hf ⟨0, [⟨k2, 0, c.cells, 64, true⟩], (0, 0), []⟩ (fun e he => by rw [List.mem_singleton.1 he]; exact g2) (.agg ⟨c.cells⟩) hv he ⟨c, hG, rfl, S.dk.deck.kept (fun k hk => by simp at hk; omega) hK, S.dk.but.kept (fun k hk => by simp at hk; omega) hK⟩
noncomputable def codeCr : Code := Tryz.f33.body.getD .skip
noncomputable def tCr0 : List Item := advT 60 [.code codeCr]
noncomputable def tCr1 : List Item := advT 60 (popOp tCr0)
noncomputable def tCr2 : List Item := advT 60 (popOp tCr1)
noncomputable def tCr3 : List Item := advT 60 (popOp tCr2)
abbrev whs : List Int := [0, 1, 2, 3, 5, 7, 576460752303423488, 576460752303423487]
abbrev tns : List Int := [0, 31, 5, -1, 40]
abbrev sts : List Int := [0, 1, 1, 2, 3, 4, 9, -1]
theorem dcrash_any (b : Nat) (ns : List Int) (lim : Nat) (w : World) (h : DeckOk b ns lim w) (hlim : lim ≤ 4611686018427370000) :
    Calls Tryz.prog 33 #[pb b] w (CmdPost b ns (lim + 3) w) := by
  have hlt := h.lt
  refine calls_at (args := [pb b]) (fn := Tryz.f33) (c := codeCr) (n := 14) (by kernel_rfl) (by kernel_rfl) (by kernel_rfl) (by kernel_rfl) ?_
  refine at_run 60 [.code codeCr] w.heap.size [] [] tCr0 [(0, pb b), (2, pb w.heap.size), (3, pb b), (4, .slice (some ⟨w.heap.size + 1, 0, none⟩) 8 8)] (w.heap.size + 1 + 1) [⟨w.heap.size, 0, zeroC, 64, true⟩, ⟨w.heap.size + 1, 0, intsM whs, 3, true⟩] (lies_nil w) (by kernel_rfl) fun w1 E1 hL1 hK1 => ?_
  have S1 : ReS b ns lim w w.heap.size zeroC 64 w1 := ⟨(DK.refl h).below (hK1.below (Nat.le_refl _) (fun k hk => by cases hk)), own_good (hL1.sat.good ⟨w.heap.size, 0, zeroC, 64, true⟩ (by simp)), Nat.le_refl _, hlt⟩
  have g1 := own_good (hL1.sat.good ⟨w.heap.size + 1, 0, intsM whs, 3, true⟩ (by simp))
  generalize hk2 : w.heap.size = k2 at *
  refine pick_at (cap := 8) (dst := some 5) (ops := [.tmp 3, .tmp 4]) S1.dk.deck g1 (by omega) (by simp) (by simp) (by omega) (by kernel_rfl) (by kernel_rfl) fun x1 w2 hx1 d2 => ?_
  have S2 := S1.call d2
  refine at_run 60 (popOp tCr0) w2.heap.size [] [] tCr1 [(0, pb b), (2, pb k2), (6, .int .u64 (IntKind.u64.wrap x1)), (7, pb b), (8, .slice (some ⟨w2.heap.size, 0, none⟩) 5 5)] (w2.heap.size + 1) [⟨w2.heap.size, 0, intsM tns, 3, true⟩] (lies_nil w2) (by kernel_rfl) fun w3 E3 hL3 hK3 => ?_
  have S3 := S2.below (hK3.below (Nat.le_refl _) (fun k hk => by cases hk))
  have g3 := own_good (hL3.sat.good _ (List.mem_singleton.2 rfl))
  have hb3 := S2.dk.lt
  refine pick_at (cap := 5) (dst := some 9) (ops := [.tmp 7, .tmp 8]) S3.dk.deck g3 (by omega) (by simp) (by simp) (by omega) (by kernel_rfl) (by kernel_rfl) fun x2 w4 hx2 d4 => ?_
  have S4 := S3.call d4
  refine at_run 60 (popOp tCr1) w4.heap.size [] [] tCr2 [(0, pb b), (2, pb k2), (6, .int .u64 (IntKind.u64.wrap x1)), (9, .int .i64 x2), (10, pb b), (11, .slice (some ⟨w4.heap.size, 0, none⟩) 8 8)] (w4.heap.size + 1) [⟨w4.heap.size, 0, intsM sts, 3, true⟩] (lies_nil w4) (by kernel_rfl) fun w5 E5 hL5 hK5 => ?_
  have S5 := S4.below (hK5.below (Nat.le_refl _) (fun k hk => by cases hk))
  have g5 := own_good (hL5.sat.good _ (List.mem_singleton.2 rfl))
  have hb5 := S4.dk.lt
  refine pick_at (cap := 8) (dst := some 12) (ops := [.tmp 10, .tmp 11]) S5.dk.deck g5 (by omega) (by simp) (by simp) (by omega) (by kernel_rfl) (by kernel_rfl) fun x3 w6 hx3 d6 => ?_
  have S6 := S5.call d6
  have hv1 : ∃ n : Nat, n ≤ 1000000000000000000 ∧ IntKind.u64.wrap x1 = (n : Int) := by
    simp only [List.mem_cons, List.not_mem_nil, or_false] at hx1
    rcases hx1 with rfl | rfl | rfl | rfl | rfl | rfl | rfl | rfl
    · exact ⟨0, by decide, by decide⟩
    · exact ⟨1, by decide, by decide⟩
    · exact ⟨2, by decide, by decide⟩
    · exact ⟨3, by decide, by decide⟩
    · exact ⟨5, by decide, by decide⟩
    · exact ⟨7, by decide, by decide⟩
    · exact ⟨576460752303423488, by decide, by decide⟩
    · exact ⟨576460752303423487, by decide, by decide⟩
  obtain ⟨n1, hn1, he1⟩ := hv1
  rw [he1]
  have hv2 : mid x2 := by
    simp only [List.mem_cons, List.not_mem_nil, or_false] at hx2
    rcases hx2 with rfl | rfl | rfl | rfl | rfl <;> exact ⟨by decide, by decide⟩
  have hv3 : mid x3 := by
    simp only [List.mem_cons, List.not_mem_nil, or_false] at hx3
    rcases hx3 with rfl | rfl | rfl | rfl | rfl | rfl | rfl | rfl <;> exact ⟨by decide, by decide⟩
  refine at_run 60 (popOp tCr2) w6.heap.size [⟨k2, 0, zeroC, 64, true⟩] [(0, 0)] tCr3 [(2, pb k2)] w6.heap.size [⟨k2, 0, (cr n1 x2 x3).cells, 64, true⟩] (lies_one S6.h2) (by kernel_rfl) fun w7 E7 hL7 hK7 => ?_
  exact cmd_ret (fn := Tryz.f33) (by kernel_rfl) (by kernel_rfl) (genCrash n1 x2 x3 hn1 hv2 hv3) S6 hL7 hK7 (by kernel_rfl) (by kernel_rfl)
noncomputable def codeCm : Code := Tryz.f34.body.getD .skip
noncomputable def tCm0 : List Item := advT 60 [.code codeCm]
noncomputable def tCme : List Item := advT 60 (thenT (advT 60 (popOp tCm0)))
noncomputable def tCmF : List Item := advT 60 (thenT tCme)
noncomputable def tCmL : List Item := advT 60 (popOp tCmF)
noncomputable def tCm1 : List Item := advT 60 (elseT tCme)
noncomputable def tCm2 : List Item := advT 60 (thenT tCm1)
noncomputable def tCmP : List Item := advT 60 (thenT tCm2)
noncomputable def tCm4 : List Item := advT 60 (thenT (advT 60 (elseT tCm2)))
noncomputable def tCm6 : List Item := advT 60 (thenT (advT 60 (elseT tCm4)))
noncomputable def tCmy : List Item := advT 60 (elseT tCm6)
noncomputable def tCmz : List Item := advT 60 (popOp tCmL)
theorem dcommand_any (b : Nat) (ns : List Int) (lim : Nat) (w : World) (h : DeckOk b ns lim w) (hlim : lim ≤ 4611686018427360000) :
    Calls Tryz.prog 34 #[pb b] w (CmdPost b ns (lim + 25) w) := by
  have hlt := h.lt
  refine calls_at (args := [pb b]) (fn := Tryz.f34) (c := codeCm) (n := 27) (by kernel_rfl) (by kernel_rfl) (by kernel_rfl) (by kernel_rfl) ?_
  refine at_run 60 [.code codeCm] w.heap.size [] [] tCm0 [(0, pb b), (2, pb w.heap.size), (3, pb b)] (w.heap.size + 1) [⟨w.heap.size, 0, zeroC, 64, true⟩] (lies_nil w) (by kernel_rfl) fun w1 E1 hL1 hK1 => ?_
  have S1 : ReS b ns lim w w.heap.size zeroC 64 w1 := ⟨(DK.refl h).below (hK1.below (Nat.le_refl _) (fun k hk => by cases hk)), own_good (hL1.sat.good _ (List.mem_singleton.2 rfl)), Nat.le_refl _, hlt⟩
  generalize hk2 : w.heap.size = k2 at *
  refine next_at (n := 10) (dst := some 4) (ops := [.tmp 3, .const (.int .i64 10)]) S1.dk.deck (by omega) (by omega) (by omega) (by kernel_rfl) (by kernel_rfl) fun k w2 hk d2 => ?_
  have S2 := S1.call d2
  refine at_known [(0, pb b), (2, pb k2), (4, .int .i64 k)] (by kernel_rfl) fun E2 => ?_
  have h10 : (k = 0 ∨ k = 1 ∨ k = 2) ∨ (k = 3 ∨ k = 4) ∨ (k = 5 ∨ k = 6) ∨ (k = 7 ∨ k = 8) ∨ k = 9 := by omega
  have fact : ∀ (w3 : World) (E3 : Nat → Value), Below w2.heap.size w2 w3 → At Tryz.prog 34 (CmdPost b ns (lim + 25) w) tCmF (Fr 27 (updL E3 [(2, pb k2), (9, pb b)])) w3 := by
    intro w3 E3 b3
    have S3 := S2.below b3
    refine at_call 60 [.tmp 9] (some 10) [pb b] (by kernel_rfl) (by kernel_rfl) (by kernel_rfl) ((dfact_any b ns (lim + 1) w3 S3.dk.deck (by omega)).mono fun e w4 hh => ?_)
    obtain ⟨c, hG, rfl, d4⟩ := hh
    refine ⟨_, rfl, ?_⟩
    have S4 := S3.call d4
    refine at_run 60 (popOp tCmF) w4.heap.size [] [] tCmL [(2, pb k2), (10, .agg ⟨c.fact⟩)] w4.heap.size [] (lies_nil w4) (by kernel_rfl) fun w5 E5 hL5 hK5 => ?_
    have S5 := S4.below (hK5.below (Nat.le_refl _) (fun k hk => by cases hk))
    refine at_call 57 [.tmp 10] (some 11) [.agg ⟨c.fact⟩] (by kernel_rfl) (by kernel_rfl) (by kernel_rfl) ((dlearn_any c hG.learn hG.kind w5).mono fun e w6 hh => ?_)
    obtain ⟨rfl, b6⟩ := hh
    refine ⟨_, rfl, ?_⟩
    have S6 := S5.below b6
    refine at_run 60 (popOp tCmL) w6.heap.size [⟨k2, 0, zeroC, 64, true⟩] [(0, 0)] tCmz [(2, pb k2)] w6.heap.size [⟨k2, 0, c.cells, 64, true⟩] (lies_one S6.h2) (by kernel_rfl) fun w7 E7 hL7 hK7 => ?_
    exact At.post (cmd_ret (fn := Tryz.f34) (by kernel_rfl) (by kernel_rfl) hG.gen S6 hL7 hK7 (by kernel_rfl) (by kernel_rfl)) fun _ _ h => h.more (by omega)
  have prep : ∀ (w3 : World) (E3 : Nat → Value), Below w2.heap.size w2 w3 → At Tryz.prog 34 (CmdPost b ns (lim + 25) w) tCmP (Fr 27 (updL E3 [(2, pb k2), (15, pb b)])) w3 := by
    intro w3 E3 b3
    have S3 := S2.below b3
    refine next_at (n := 5) (dst := some 16) (ops := [.tmp 15, .const (.int .i64 5)]) S3.dk.deck (by omega) (by omega) (by omega) (by kernel_rfl) (by kernel_rfl) fun p w4 hp d4 => ?_
    have S4 := S3.call d4
    refine at_run 60 (popOp tCmP) w4.heap.size [⟨k2, 0, zeroC, 64, true⟩] [(0, 0)] tCmz [(2, pb k2)] w4.heap.size [⟨k2, 0, (kc 2 p).cells, 64, true⟩] (lies_one S4.h2) (by kernel_rfl) fun w7 E7 hL7 hK7 => ?_
    exact At.post (cmd_ret (fn := Tryz.f34) (by kernel_rfl) (by kernel_rfl) (genPrepare p ⟨by omega, by omega⟩) S4 hL7 hK7 (by kernel_rfl) (by kernel_rfl)) fun _ _ h => h.more (by omega)
  rcases h10 with h | h | h | h | rfl
  · rcases h with rfl | rfl | rfl
    all_goals
      refine at_runC 300 [] (popOp tCm0) w2.heap.size [] tCmF [(2, pb k2), (9, pb b)] w2.heap.size [] (lies_nil w2) (by kernel_rfl) fun w3 E3 hL3 hK3 => ?_
      exact fact w3 E3 (hK3.below (Nat.le_refl _) (fun k hk => by cases hk))
  · rcases h with rfl | rfl
    all_goals
      refine at_runC 300 [] (popOp tCm0) w2.heap.size [] tCmP [(2, pb k2), (15, pb b)] w2.heap.size [] (lies_nil w2) (by kernel_rfl) fun w3 E3 hL3 hK3 => ?_
      exact prep w3 E3 (hK3.below (Nat.le_refl _) (fun k hk => by cases hk))
  · rcases h with rfl | rfl
    all_goals
      refine at_runC 300 [] (popOp tCm0) w2.heap.size [⟨k2, 0, zeroC, 64, true⟩] tCmz [(2, pb k2)] w2.heap.size [⟨k2, 0, (kc 3 0).cells, 64, true⟩] (lies_one S2.h2) (by kernel_rfl) fun w7 E7 hL7 hK7 => ?_
      exact At.post (cmd_ret (fn := Tryz.f34) (by kernel_rfl) (by kernel_rfl) genRelease S2 hL7 hK7 (by kernel_rfl) (by kernel_rfl)) fun _ _ h => h.more (by omega)
  · rcases h with rfl | rfl
    all_goals
      refine at_runC 300 [] (popOp tCm0) w2.heap.size [⟨k2, 0, zeroC, 64, true⟩] tCmz [(2, pb k2)] w2.heap.size [⟨k2, 0, (kc 4 0).cells, 64, true⟩] (lies_one S2.h2) (by kernel_rfl) fun w7 E7 hL7 hK7 => ?_
      exact At.post (cmd_ret (fn := Tryz.f34) (by kernel_rfl) (by kernel_rfl) genPay S2 hL7 hK7 (by kernel_rfl) (by kernel_rfl)) fun _ _ h => h.more (by omega)
  · refine at_runC 300 [] (popOp tCm0) w2.heap.size [⟨k2, 0, zeroC, 64, true⟩] tCmy [(2, pb k2)] w2.heap.size [⟨k2, 0, (kc 5 0).cells, 64, true⟩] (lies_one S2.h2) (by kernel_rfl) fun w7 E7 hL7 hK7 => ?_
    exact At.post (cmd_ret (fn := Tryz.f34) (by kernel_rfl) (by kernel_rfl) genReverse S2 hL7 hK7 (by kernel_rfl) (by kernel_rfl)) fun _ _ h => h.more (by omega)
end Go.Proofs.YtdcbnkimjhefkaaGreatDoor

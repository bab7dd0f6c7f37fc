/-
  payrollref46's simple: the other commands; the whole.
-/
import Derived.Test.YtdcbnkimjhefkaaGreatDoorU34
namespace Go.Proofs.YtdcbnkimjhefkaaGreatDoor
open Go.RowKit
set_option maxRecDepth 100000
variable {w0 w : World} {k2 g off cap cn : Nat} {x : List UInt8} {r : List (List UInt8)} {E : Nat → Value} {A : Option Addr} {ns : List Int}
def NsAt (k2 : Nat) (A : Option Addr) (ns : List Int) (w : World) : Prop := ns ≠ [] → ∃ gn, A = some ⟨gn, 0, none⟩ ∧ k2 < gn ∧ gn < w.heap.size ∧ w.rangeAt gn 0 (intsM ns)
theorem NsAt.below {w' : World} (h : NsAt k2 A ns w) (hb : Below w.heap.size w w') : NsAt k2 A ns w' := fun hne =>
  let ⟨gn, e, h1, h2, h3⟩ := h hne
  ⟨gn, e, h1, Nat.lt_of_lt_of_le h2 hb.size, fun j u hu => (World.cell?_of_block (hb.block gn h2)).trans (h3 j u hu)⟩
theorem cond_true {a b : Bool} (h : cond a b false = true) : a = true ∧ b = true := by cases a <;> cases b <;> first | exact ⟨rfl, rfl⟩ | cases h
noncomputable def opsCr : Array Oper := (curReg tSq4).getD #[]
def WCr : Wr := [(152, 0), (153, 1), (154, 2), (155, 3), (156, 4), (157, 5), (158, 6), (159, 7), (160, 8), (161, 9), (162, 10)]
abbrev envCr (gn cn k2 : Nat) : List (Nat × Value) := [(2, pt k2), (11, .slice (some ⟨gn, 0, none⟩) 3 cn)]
def LCr (gn cn : Nat) (a b c : Int) : List Loc :=
  [pureL 0 [] (.slice (some ⟨gn, 0, none⟩) 3 cn), pureL 1 [0] (.pointer (some ⟨gn, 0, none⟩)), pureL 2 [1] (.int .i64 a), pureL 3 [2] (.int .u64 (IntKind.u64.wrap a)), pureL 4 [] (.slice (some ⟨gn, 0, none⟩) 3 cn), pureL 5 [4] (.pointer (some ⟨gn, 1, none⟩)), pureL 6 [5] (.int .i64 b), pureL 7 [] (.slice (some ⟨gn, 0, none⟩) 3 cn), pureL 8 [7] (.pointer (some ⟨gn, 2, none⟩)), pureL 9 [8] (.int .i64 c),
   pureL 10 [3, 6, 9] (.agg ⟨[.int .i64 6, .int .i64 0, .int .i64 0, .int .i64 0, .string ⟨⟨[]⟩⟩, .int .i64 0, .int .i64 0, .int .i64 0, .string ⟨⟨[]⟩⟩, .int .i64 0, .int .u64 (IntKind.u64.wrap a), .int .i64 b, .int .i64 c]⟩)]
theorem okCr (gn cn : Nat) (a b c : Int) : (locOk .any opsCr WCr (Array.replicate 13 false) 164 (LCr gn cn a b c) && bare opsCr (LCr gn cn a b c)) = true := by kernel_rfl
theorem partsCr {gn : Nat} {a b c : Int} (hg : gn < w.heap.size) (hr : w.rangeAt gn 0 (intsM [a, b, c])) : PartsE Tryz.prog opsCr 164 (updL E (envCr gn cn k2)) WCr (fun u => u = w) (fun u u' => u = u') (LCr gn cn a b c) (LCr gn cn a b c) := by
  have ge : Ent.good w ⟨gn, 0, intsM [a, b, c], 0, false⟩ := ⟨hg, hr⟩
  refine ⟨part_pureE (fun _ => rfl) (fun _ _ _ _ => by kernel_rfl), ?_, ?_, ?_, part_pureE (fun _ => rfl) (fun _ _ _ _ => by kernel_rfl), ?_, ?_, part_pureE (fun _ => rfl) (fun _ _ _ _ => by kernel_rfl), ?_, ?_, ?_, trivial⟩
  · refine ⟨fun _ _ _ _ _ h => h, fun vals u hC hb => ?_⟩
    subst hC
    obtain ⟨h0, _⟩ := hb
    exact OpOk.knownE [(152, 0, .slice (some ⟨gn, 0, none⟩) 3 cn)] (by kernel_rfl) ⟨(List.cons.inj h0).1, trivial⟩ (OpOk.reads ⟨0, [], (0, 0), []⟩ (fun e he => by cases he) (.pointer (some ⟨gn, 0, none⟩)) (by kernel_rfl) (by kernel_rfl) ⟨rfl, rfl, rfl⟩)
  · refine ⟨fun _ _ _ _ _ h => h, fun vals u hC hb => ?_⟩
    subst hC
    obtain ⟨h0, _⟩ := hb
    exact OpOk.knownE [(153, 1, .pointer (some ⟨gn, 0, none⟩))] (by kernel_rfl) ⟨(List.cons.inj h0).1, trivial⟩ (OpOk.reads ⟨0, [⟨gn, 0, intsM [a, b, c], 0, false⟩], (0, 0), []⟩ (fun e he => by rw [List.mem_singleton.1 he]; exact ge) (.int .i64 a) (by kernel_rfl) (by kernel_rfl) ⟨rfl, rfl, rfl⟩)
  · refine ⟨fun _ _ _ _ _ h => h, fun vals u hC hb => ?_⟩
    subst hC
    obtain ⟨h0, _⟩ := hb
    exact OpOk.knownE [(154, 2, .int .i64 a)] (by kernel_rfl) ⟨(List.cons.inj h0).1, trivial⟩ (OpOk.reads ⟨0, [], (0, 0), []⟩ (fun e he => by cases he) (.int .u64 (IntKind.u64.wrap a)) (by kernel_rfl) (by kernel_rfl) ⟨rfl, rfl, rfl⟩)
  · refine ⟨fun _ _ _ _ _ h => h, fun vals u hC hb => ?_⟩
    subst hC
    obtain ⟨h0, _⟩ := hb
    exact OpOk.knownE [(156, 4, .slice (some ⟨gn, 0, none⟩) 3 cn)] (by kernel_rfl) ⟨(List.cons.inj h0).1, trivial⟩ (OpOk.reads ⟨0, [], (0, 0), []⟩ (fun e he => by cases he) (.pointer (some ⟨gn, 1, none⟩)) (by kernel_rfl) (by kernel_rfl) ⟨rfl, rfl, rfl⟩)
  · refine ⟨fun _ _ _ _ _ h => h, fun vals u hC hb => ?_⟩
    subst hC
    obtain ⟨h0, _⟩ := hb
    exact OpOk.knownE [(157, 5, .pointer (some ⟨gn, 1, none⟩))] (by kernel_rfl) ⟨(List.cons.inj h0).1, trivial⟩ (OpOk.reads ⟨0, [⟨gn, 0, intsM [a, b, c], 0, false⟩], (0, 1), []⟩ (fun e he => by rw [List.mem_singleton.1 he]; exact ge) (.int .i64 b) (by kernel_rfl) (by kernel_rfl) ⟨rfl, rfl, rfl⟩)
  · refine ⟨fun _ _ _ _ _ h => h, fun vals u hC hb => ?_⟩
    subst hC
    obtain ⟨h0, _⟩ := hb
    exact OpOk.knownE [(159, 7, .slice (some ⟨gn, 0, none⟩) 3 cn)] (by kernel_rfl) ⟨(List.cons.inj h0).1, trivial⟩ (OpOk.reads ⟨0, [], (0, 0), []⟩ (fun e he => by cases he) (.pointer (some ⟨gn, 2, none⟩)) (by kernel_rfl) (by kernel_rfl) ⟨rfl, rfl, rfl⟩)
  · refine ⟨fun _ _ _ _ _ h => h, fun vals u hC hb => ?_⟩
    subst hC
    obtain ⟨h0, _⟩ := hb
    exact OpOk.knownE [(160, 8, .pointer (some ⟨gn, 2, none⟩))] (by kernel_rfl) ⟨(List.cons.inj h0).1, trivial⟩ (OpOk.reads ⟨0, [⟨gn, 0, intsM [a, b, c], 0, false⟩], (0, 2), []⟩ (fun e he => by rw [List.mem_singleton.1 he]; exact ge) (.int .i64 c) (by kernel_rfl) (by kernel_rfl) ⟨rfl, rfl, rfl⟩)
  · refine ⟨fun _ _ _ _ _ h => h, fun vals u hC hb => ?_⟩
    subst hC
    obtain ⟨h0, h1, h2, _⟩ := hb
    exact OpOk.knownE [(155, 3, .int .u64 (IntKind.u64.wrap a)), (158, 6, .int .i64 b), (161, 9, .int .i64 c)] (by kernel_rfl) ⟨(List.cons.inj h0).1, (List.cons.inj h1).1, (List.cons.inj h2).1, trivial⟩ (OpOk.reads ⟨0, [], (0, 0), []⟩ (fun e he => by cases he) (.agg ⟨[.int .i64 6, .int .i64 0, .int .i64 0, .int .i64 0, .string ⟨⟨[]⟩⟩, .int .i64 0, .int .i64 0, .int .i64 0, .string ⟨⟨[]⟩⟩, .int .i64 0, .int .u64 (IntKind.u64.wrap a), .int .i64 b, .int .i64 c]⟩) (by kernel_rfl) (by kernel_rfl) ⟨rfl, rfl, rfl⟩)
structure SiN (w0 : World) (k2 : Nat) (A : Option Addr) (ns : List Int) (w : World) : Prop where
  s : SiS w0 k2 w
  n : NsAt k2 A ns w
theorem SiN.below {w' : World} (h : SiN w0 k2 A ns w) (hb : Below w.heap.size w w') : SiN w0 k2 A ns w' := ⟨h.s.below hb, h.n.below hb⟩
theorem si_crash {gn : Nat} {a b c : Int} (ha0 : 0 ≤ a) (ha1 : a ≤ 1000000000000000000) (S : SiS w0 k2 w) (hg : gn < w.heap.size) (_hgk : k2 < gn) (hr : w.rangeAt gn 0 (intsM [a, b, c])) :
    At Tryz.prog 41 (SimR w0 (some (cr a.toNat b c))) tSq4 (Fr 164 (updL E (envCr gn cn k2))) w := by
  have B : Below w.heap.size w w.drew := (Below.refl _ _).drew
  have S1 := S.below B
  have hr1 : w.drew.rangeAt gn 0 (intsM [a, b, c]) := fun j u hu => (World.cell?_of_block (B.block gn hg)).trans (hr j u hu)
  have hg1 : gn < w.drew.heap.size := Nat.lt_of_lt_of_le hg B.size
  refine at_draw opsCr (by kernel_rfl) (by kernel_rfl) 13 (by kernel_rfl) ?_
  generalize w.drew = w1 at *
  refine any_partsE (fuel := 2) (L := LCr gn cn a b c) (W := WCr) (C := fun u => u = w1) (Ext := fun u u' => u = u') (okCr gn cn a b c) rfl (fun _ => rfl) (fun _ _ _ h k => h.trans k) (partsCr hg1 hr1) rfl ?_
  intro vals u hC _ hall
  subst hC
  obtain ⟨_, _, _, _, _, _, _, _, _, _, hx, _⟩ := hall
  have r11 : Region.ready .any opsCr (((LCr gn cn a b c).map (·.idx)).foldl (fun b i => b.setIfInBounds i true) (Array.replicate 13 false)) = [11] := by kernel_rfl
  have r12 : Region.ready .any opsCr ((((LCr gn cn a b c).map (·.idx)).foldl (fun b i => b.setIfInBounds i true) (Array.replicate 13 false)).setIfInBounds 11 true) = [12] := by kernel_rfl
  have r13 : Region.ready .any opsCr (((((LCr gn cn a b c).map (·.idx)).foldl (fun b i => b.setIfInBounds i true) (Array.replicate 13 false)).setIfInBounds 11 true).setIfInBounds 12 true) = [] := by kernel_rfl
  have qs : [(2, pt k2), (162, vals 10)].map (fun p => finE opsCr vals ((LCr gn cn a b c).map (·.idx)) (updL E (envCr gn cn k2)) p.1) = [(2, pt k2), (162, vals 10)].map (·.2) := by kernel_rfl
  generalize ((LCr gn cn a b c).map (·.idx)).foldl (fun b i => b.setIfInBounds i true) (Array.replicate 13 false) = lst at *
  generalize finE opsCr vals ((LCr gn cn a b c).map (·.idx)) (updL E (envCr gn cn k2)) = E8 at *
  have hwr : IntKind.u64.wrap a = ((a.toNat : Nat) : Int) := by
    have e : IntKind.u64.wrap a = a % 18446744073709551616 := rfl
    rw [e, Int.emod_eq_of_lt ha0 (by omega)]
    omega
  rw [← updL_same qs, show vals 10 = .agg ⟨(cr a.toNat b c).cells⟩ from (List.cons.inj hx).1.trans (by rw [hwr]; rfl)]
  generalize cr a.toNat b c = d
  refine any_run (fuel := 1) (opsCr.getD 11 default) ⟨u.heap.size, [⟨k2, 0, zeroC, 64, true⟩], (0, 0), []⟩ ⟨u.heap.size, [⟨k2, 0, d.cells, 64, true⟩], (0, 13), [(k2, k2), (12, 12), (k2, k2), (11, 11), (k2, k2), (10, 10), (k2, k2), (9, 9), (k2, k2), (8, 8), (k2, k2), (7, 7), (k2, k2), (6, 6), (k2, k2), (5, 5), (k2, k2), (4, 4), (k2, k2), (3, 3), (k2, k2), (2, 2), (k2, k2), (1, 1), (k2, k2), (0, 0)]⟩ .skip undef r11 (by kernel_rfl) (by kernel_rfl) (by kernel_rfl) (.inr ⟨rfl, rfl⟩) (lies_one S1.m2) rfl fun u1 hL1 hK1 => ?_
  refine any_run (fuel := 0) (opsCr.getD 12 default) ⟨u1.heap.size, [⟨k2, 0, d.cells, 64, true⟩], (0, 0), []⟩ ⟨u1.heap.size, [⟨k2, 0, d.cells, 64, true⟩], (0, 0), []⟩ (.value (.bool true)) (.bool true) r12 (by kernel_rfl) (by kernel_rfl) (by kernel_rfl) (.inl rfl) (lies_one (own_good (hL1.sat.good _ (List.mem_singleton.2 rfl)))) rfl fun u2 hL2 hK2 => ?_
  refine any_end r13 ⟨rfl, At.mid ?_⟩
  refine at_run 60 (tailT tSq4) u2.heap.size [⟨k2, 0, d.cells, 64, true⟩] [] (advT 60 (tailT tSq4)) [(2, pt k2), (3, .bool true)] u2.heap.size [⟨k2, 0, d.cells, 64, true⟩] (lies_one (own_good (hL2.sat.good _ (List.mem_singleton.2 rfl)))) (by kernel_rfl) fun u3 E3 hL3 hK3 => ?_
  have hk := fun (k : Nat) (hk : k ∈ [(⟨k2, 0, d.cells, 64, true⟩ : Ent)].map (·.id)) => (by rw [List.mem_singleton.1 hk]; exact S1.o2 : w0.heap.size ≤ k)
  have hk' := fun (k : Nat) (hk : k ∈ [(⟨k2, 0, zeroC, 64, true⟩ : Ent)].map (·.id)) => (by rw [List.mem_singleton.1 hk]; exact S1.o2 : w0.heap.size ≤ k)
  have B1 := S1.bel.trans (hK1.below S1.bel.size hk')
  have B2 := B1.trans (hK2.below B1.size hk)
  exact at_ret (fn := Tryz.f41) (by kernel_rfl) (by kernel_rfl) ⟨0, [⟨k2, 0, d.cells, 64, true⟩], (0, 0), []⟩ hL3.sat.good (.tuple #[.agg ⟨d.cells⟩, .bool true]) (by kernel_rfl) (by kernel_rfl) ⟨rfl, B2.trans (hK3.below B2.size hk)⟩
theorem numsR_fits : ∀ (l : List (List UInt8)) (a : List Int), numsR l = some a → ∀ n ∈ a, -1000000000000000000 ≤ n ∧ n ≤ 1000000000000000000
  | [], a, h => by
    obtain rfl := Option.some.inj h
    intro n hn
    cases hn
  | y :: l, a, h => by
    unfold numsR at h
    cases hy : numR y with
    | none => rw [hy] at h; cases h
    | some m =>
      rw [hy] at h
      cases hl : numsR l with
      | none => rw [hl] at h; cases h
      | some b =>
        rw [hl] at h
        obtain rfl := Option.some.inj h
        intro n hn
        rcases List.mem_cons.1 hn with rfl | hn
        · exact (numR_some hy).2
        · exact numsR_fits l b hl n hn
theorem si_tail (H : WsAt w0 g off x r) (hfit : ∀ n ∈ ns, -1000000000000000000 ≤ n ∧ n ≤ 1000000000000000000) (hnl : ns.length ≤ 4294967296) (S0 : SiN w0 k2 A ns w) :
    At Tryz.prog 41 (SimR w0 (tailR x ns)) (elseT tSin) (Fr 164 (updL E [(0, vS g off cap r), (2, pt k2), (11, .slice A ns.length cn)])) w := by
  generalize hout : tailR x ns = out
  unfold tailR at hout
  refine at_run (cntG 90 (elseT tSin)) (elseT tSin) w.heap.size [] [] tSo0 [(0, vS g off cap r), (2, pt k2), (11, .slice A ns.length cn)] w.heap.size [] (lies_nil w) (by kernel_rfl) fun wa0 Ea0 hLa0 hKa0 => ?_
  have Sa0 := S0.below (hKa0.below (Nat.le_refl _) (fun k hk => by cases hk))
  refine at_ghost ((curReg tSo0).getD #[]) ⟨[⟨g, off + 0 * 1, [.string ⟨⟨x⟩⟩], 0, false⟩], [(2, 0, 0)], [⟨1, [(90, vS g off cap r)], .pointer (some ⟨g, off + 0 * 1, none⟩), true⟩, ⟨3, [(92, .string ⟨⟨x⟩⟩)], .bool (decide (x = wPrep)), true⟩]⟩ ([(0, vS g off cap r), (2, pt k2), (11, .slice A ns.length cn)] ++ [(89, .bool (cond (decide (x = wPrep)) ((ns.length : Int) == ((1 : Nat) : Int)) false))]) (by kernel_rfl) (by kernel_rfl) (by kernel_rfl) (fun e he => by rw [List.mem_singleton.1 he]; exact H.good Sa0.s.bel 0 x rfl) (fun sp hsp => ?_) (fun X => by kernel_rfl) (by kernel_rfl) fun wb0 Eb0 bb0 => ?_
  · simp only [List.mem_cons, List.not_mem_nil, or_false] at hsp
    rcases hsp with rfl | rfl
    · exact spec_op fun _ E w _ => exec_index (sz := 1) (cap := cap) (k := 0) 53 (.tmp 90) (.const (.int .i64 0)) (by kernel_rfl) (by kernel_rfl) (by kernel_rfl) (Nat.succ_pos r.length) Tryz.underlying53 (by kernel_rfl)
    · exact spec_op fun _ E w _ => exec_eqs (T := 9) (T' := 9) (x := .tmp 92) (y := .const (.string ⟨⟨wPrep⟩⟩)) (by kernel_rfl) (by kernel_rfl) (by kernel_rfl)
  have Sb0 := Sa0.below bb0
  have hce0 : cond (decide (x = wPrep)) ((ns.length : Int) == ((1 : Nat) : Int)) false = decide (x = wPrep ∧ ns.length = 1) := by
    by_cases hxw : x = wPrep
    · rw [decide_eq_true hxw]; show ((ns.length : Int) == ((1 : Nat) : Int)) = _; by_cases hl : ns.length = 1
      · rw [decide_eq_true ⟨hxw, hl⟩, hl]; rfl
      · rw [decide_eq_false (fun h => hl h.2)]; exact beq_eq_false_iff_ne.2 (by omega)
    · rw [decide_eq_false hxw, decide_eq_false (fun h => hxw h.1)]; rfl
  rw [hce0]
  refine at_run 60 (tailT tSo0) wb0.heap.size [] [] tSp0 ([(0, vS g off cap r), (2, pt k2), (11, .slice A ns.length cn)] ++ [(89, .bool (decide (x = wPrep ∧ ns.length = 1)))]) wb0.heap.size [] (lies_nil wb0) (by kernel_rfl) fun wc0 Ec0 hLc0 hKc0 => ?_
  have Sc0 := Sb0.below (hKc0.below (Nat.le_refl _) (fun k hk => by cases hk))
  refine at_cond (decide (x = wPrep ∧ ns.length = 1)) (by kernel_rfl) (fun ht => ?_) (fun hf => ?_)
  · have hc := of_decide_eq_true ht
    rw [if_pos hc] at hout
    obtain ⟨m, rfl⟩ := List.length_eq_one_iff.1 hc.2
    obtain ⟨gn, rfl, hgk, hgl, hr⟩ := Sc0.n (by simp)
    subst hout
    have ge : Ent.good wc0 ⟨gn, 0, [.int .i64 m], 0, false⟩ := ⟨hgl, hr⟩
    have hm2 := Sc0.s.m2
    refine at_run 60 (thenT tSp0) wc0.heap.size [⟨k2, 0, zeroC, 64, true⟩, ⟨gn, 0, [.int .i64 m], 0, false⟩] [(1, 0), (0, 0)] tSq0 [(2, pt k2), (3, .bool true)] wc0.heap.size [⟨k2, 0, (kc 2 m).cells, 64, true⟩, ⟨gn, 0, [.int .i64 m], 0, false⟩] (lies_mk wc0 _ (fun e he => by
      simp only [List.mem_cons, List.not_mem_nil, or_false] at he
      rcases he with rfl | rfl
      · exact good_own hm2
      · exact ge) (by simp; omega)) (by kernel_rfl) fun wd Ed hLd hKd => ?_
    refine at_ret (fn := Tryz.f41) (by kernel_rfl) (by kernel_rfl) ⟨0, [⟨k2, 0, (kc 2 m).cells, 64, true⟩], (0, 0), []⟩ (fun e he => by rw [List.mem_singleton.1 he]; exact hLd.sat.good _ (by simp)) (.tuple #[.agg ⟨(kc 2 m).cells⟩, .bool true]) (by kernel_rfl) (by kernel_rfl) ⟨rfl, Sc0.s.bel.trans (hKd.below Sc0.s.bel.size (fun k hk => ?_))⟩
    have h1 := Sc0.s.o2
    simp only [List.map_cons, List.map_nil, List.mem_cons, List.not_mem_nil, or_false] at hk
    rcases hk with rfl | rfl <;> omega
  rw [if_neg (of_decide_eq_false hf)] at hout
  refine at_run (cntG 90 (elseT tSp0)) (elseT tSp0) wc0.heap.size [] [] tSo1 [(0, vS g off cap r), (2, pt k2), (11, .slice A ns.length cn)] wc0.heap.size [] (lies_nil wc0) (by kernel_rfl) fun wa1 Ea1 hLa1 hKa1 => ?_
  have Sa1 := Sc0.below (hKa1.below (Nat.le_refl _) (fun k hk => by cases hk))
  refine at_ghost ((curReg tSo1).getD #[]) ⟨[⟨g, off + 0 * 1, [.string ⟨⟨x⟩⟩], 0, false⟩], [(2, 0, 0)], [⟨1, [(104, vS g off cap r)], .pointer (some ⟨g, off + 0 * 1, none⟩), true⟩, ⟨3, [(106, .string ⟨⟨x⟩⟩)], .bool (decide (x = wRel)), true⟩]⟩ ([(0, vS g off cap r), (2, pt k2), (11, .slice A ns.length cn)] ++ [(103, .bool (cond (decide (x = wRel)) ((ns.length : Int) == ((0 : Nat) : Int)) false))]) (by kernel_rfl) (by kernel_rfl) (by kernel_rfl) (fun e he => by rw [List.mem_singleton.1 he]; exact H.good Sa1.s.bel 0 x rfl) (fun sp hsp => ?_) (fun X => by kernel_rfl) (by kernel_rfl) fun wb1 Eb1 bb1 => ?_
  · simp only [List.mem_cons, List.not_mem_nil, or_false] at hsp
    rcases hsp with rfl | rfl
    · exact spec_op fun _ E w _ => exec_index (sz := 1) (cap := cap) (k := 0) 53 (.tmp 104) (.const (.int .i64 0)) (by kernel_rfl) (by kernel_rfl) (by kernel_rfl) (Nat.succ_pos r.length) Tryz.underlying53 (by kernel_rfl)
    · exact spec_op fun _ E w _ => exec_eqs (T := 9) (T' := 9) (x := .tmp 106) (y := .const (.string ⟨⟨wRel⟩⟩)) (by kernel_rfl) (by kernel_rfl) (by kernel_rfl)
  have Sb1 := Sa1.below bb1
  have hce1 : cond (decide (x = wRel)) ((ns.length : Int) == ((0 : Nat) : Int)) false = decide (x = wRel ∧ ns.length = 0) := by
    by_cases hxw : x = wRel
    · rw [decide_eq_true hxw]; show ((ns.length : Int) == ((0 : Nat) : Int)) = _; by_cases hl : ns.length = 0
      · rw [decide_eq_true ⟨hxw, hl⟩, hl]; rfl
      · rw [decide_eq_false (fun h => hl h.2)]; exact beq_eq_false_iff_ne.2 (by omega)
    · rw [decide_eq_false hxw, decide_eq_false (fun h => hxw h.1)]; rfl
  rw [hce1]
  refine at_run 60 (tailT tSo1) wb1.heap.size [] [] tSp1 ([(0, vS g off cap r), (2, pt k2), (11, .slice A ns.length cn)] ++ [(103, .bool (decide (x = wRel ∧ ns.length = 0)))]) wb1.heap.size [] (lies_nil wb1) (by kernel_rfl) fun wc1 Ec1 hLc1 hKc1 => ?_
  have Sc1 := Sb1.below (hKc1.below (Nat.le_refl _) (fun k hk => by cases hk))
  refine at_cond (decide (x = wRel ∧ ns.length = 0)) (by kernel_rfl) (fun ht => ?_) (fun hf => ?_)
  · have hc := of_decide_eq_true ht
    rw [if_pos hc] at hout
    subst hout
    refine at_run 60 (thenT tSp1) wc1.heap.size [⟨k2, 0, zeroC, 64, true⟩] [(0, 0)] tSq1 [(2, pt k2), (3, .bool true)] wc1.heap.size [⟨k2, 0, (kc 3 0).cells, 64, true⟩] (lies_one Sc1.s.m2) (by kernel_rfl) fun wd Ed hLd hKd => ?_
    exact at_ret (fn := Tryz.f41) (by kernel_rfl) (by kernel_rfl) ⟨0, [⟨k2, 0, (kc 3 0).cells, 64, true⟩], (0, 0), []⟩ hLd.sat.good (.tuple #[.agg ⟨(kc 3 0).cells⟩, .bool true]) (by kernel_rfl) (by kernel_rfl) ⟨rfl, Sc1.s.bel.trans (hKd.below Sc1.s.bel.size (fun k hk => by rw [List.mem_singleton.1 hk]; exact Sc1.s.o2))⟩
  rw [if_neg (of_decide_eq_false hf)] at hout
  refine at_run (cntG 90 (elseT tSp1)) (elseT tSp1) wc1.heap.size [] [] tSo2 [(0, vS g off cap r), (2, pt k2), (11, .slice A ns.length cn)] wc1.heap.size [] (lies_nil wc1) (by kernel_rfl) fun wa2 Ea2 hLa2 hKa2 => ?_
  have Sa2 := Sc1.below (hKa2.below (Nat.le_refl _) (fun k hk => by cases hk))
  refine at_ghost ((curReg tSo2).getD #[]) ⟨[⟨g, off + 0 * 1, [.string ⟨⟨x⟩⟩], 0, false⟩], [(2, 0, 0)], [⟨1, [(115, vS g off cap r)], .pointer (some ⟨g, off + 0 * 1, none⟩), true⟩, ⟨3, [(117, .string ⟨⟨x⟩⟩)], .bool (decide (x = wPay)), true⟩]⟩ ([(0, vS g off cap r), (2, pt k2), (11, .slice A ns.length cn)] ++ [(114, .bool (cond (decide (x = wPay)) ((ns.length : Int) == ((0 : Nat) : Int)) false))]) (by kernel_rfl) (by kernel_rfl) (by kernel_rfl) (fun e he => by rw [List.mem_singleton.1 he]; exact H.good Sa2.s.bel 0 x rfl) (fun sp hsp => ?_) (fun X => by kernel_rfl) (by kernel_rfl) fun wb2 Eb2 bb2 => ?_
  · simp only [List.mem_cons, List.not_mem_nil, or_false] at hsp
    rcases hsp with rfl | rfl
    · exact spec_op fun _ E w _ => exec_index (sz := 1) (cap := cap) (k := 0) 53 (.tmp 115) (.const (.int .i64 0)) (by kernel_rfl) (by kernel_rfl) (by kernel_rfl) (Nat.succ_pos r.length) Tryz.underlying53 (by kernel_rfl)
    · exact spec_op fun _ E w _ => exec_eqs (T := 9) (T' := 9) (x := .tmp 117) (y := .const (.string ⟨⟨wPay⟩⟩)) (by kernel_rfl) (by kernel_rfl) (by kernel_rfl)
  have Sb2 := Sa2.below bb2
  have hce2 : cond (decide (x = wPay)) ((ns.length : Int) == ((0 : Nat) : Int)) false = decide (x = wPay ∧ ns.length = 0) := by
    by_cases hxw : x = wPay
    · rw [decide_eq_true hxw]; show ((ns.length : Int) == ((0 : Nat) : Int)) = _; by_cases hl : ns.length = 0
      · rw [decide_eq_true ⟨hxw, hl⟩, hl]; rfl
      · rw [decide_eq_false (fun h => hl h.2)]; exact beq_eq_false_iff_ne.2 (by omega)
    · rw [decide_eq_false hxw, decide_eq_false (fun h => hxw h.1)]; rfl
  rw [hce2]
  refine at_run 60 (tailT tSo2) wb2.heap.size [] [] tSp2 ([(0, vS g off cap r), (2, pt k2), (11, .slice A ns.length cn)] ++ [(114, .bool (decide (x = wPay ∧ ns.length = 0)))]) wb2.heap.size [] (lies_nil wb2) (by kernel_rfl) fun wc2 Ec2 hLc2 hKc2 => ?_
  have Sc2 := Sb2.below (hKc2.below (Nat.le_refl _) (fun k hk => by cases hk))
  refine at_cond (decide (x = wPay ∧ ns.length = 0)) (by kernel_rfl) (fun ht => ?_) (fun hf => ?_)
  · have hc := of_decide_eq_true ht
    rw [if_pos hc] at hout
    subst hout
    refine at_run 60 (thenT tSp2) wc2.heap.size [⟨k2, 0, zeroC, 64, true⟩] [(0, 0)] tSq2 [(2, pt k2), (3, .bool true)] wc2.heap.size [⟨k2, 0, (kc 4 0).cells, 64, true⟩] (lies_one Sc2.s.m2) (by kernel_rfl) fun wd Ed hLd hKd => ?_
    exact at_ret (fn := Tryz.f41) (by kernel_rfl) (by kernel_rfl) ⟨0, [⟨k2, 0, (kc 4 0).cells, 64, true⟩], (0, 0), []⟩ hLd.sat.good (.tuple #[.agg ⟨(kc 4 0).cells⟩, .bool true]) (by kernel_rfl) (by kernel_rfl) ⟨rfl, Sc2.s.bel.trans (hKd.below Sc2.s.bel.size (fun k hk => by rw [List.mem_singleton.1 hk]; exact Sc2.s.o2))⟩
  rw [if_neg (of_decide_eq_false hf)] at hout
  refine at_run (cntG 90 (elseT tSp2)) (elseT tSp2) wc2.heap.size [] [] tSo3 [(0, vS g off cap r), (2, pt k2), (11, .slice A ns.length cn)] wc2.heap.size [] (lies_nil wc2) (by kernel_rfl) fun wa3 Ea3 hLa3 hKa3 => ?_
  have Sa3 := Sc2.below (hKa3.below (Nat.le_refl _) (fun k hk => by cases hk))
  refine at_ghost ((curReg tSo3).getD #[]) ⟨[⟨g, off + 0 * 1, [.string ⟨⟨x⟩⟩], 0, false⟩], [(2, 0, 0)], [⟨1, [(126, vS g off cap r)], .pointer (some ⟨g, off + 0 * 1, none⟩), true⟩, ⟨3, [(128, .string ⟨⟨x⟩⟩)], .bool (decide (x = wRev)), true⟩]⟩ ([(0, vS g off cap r), (2, pt k2), (11, .slice A ns.length cn)] ++ [(125, .bool (cond (decide (x = wRev)) ((ns.length : Int) == ((0 : Nat) : Int)) false))]) (by kernel_rfl) (by kernel_rfl) (by kernel_rfl) (fun e he => by rw [List.mem_singleton.1 he]; exact H.good Sa3.s.bel 0 x rfl) (fun sp hsp => ?_) (fun X => by kernel_rfl) (by kernel_rfl) fun wb3 Eb3 bb3 => ?_
  · simp only [List.mem_cons, List.not_mem_nil, or_false] at hsp
    rcases hsp with rfl | rfl
    · exact spec_op fun _ E w _ => exec_index (sz := 1) (cap := cap) (k := 0) 53 (.tmp 126) (.const (.int .i64 0)) (by kernel_rfl) (by kernel_rfl) (by kernel_rfl) (Nat.succ_pos r.length) Tryz.underlying53 (by kernel_rfl)
    · exact spec_op fun _ E w _ => exec_eqs (T := 9) (T' := 9) (x := .tmp 128) (y := .const (.string ⟨⟨wRev⟩⟩)) (by kernel_rfl) (by kernel_rfl) (by kernel_rfl)
  have Sb3 := Sa3.below bb3
  have hce3 : cond (decide (x = wRev)) ((ns.length : Int) == ((0 : Nat) : Int)) false = decide (x = wRev ∧ ns.length = 0) := by
    by_cases hxw : x = wRev
    · rw [decide_eq_true hxw]; show ((ns.length : Int) == ((0 : Nat) : Int)) = _; by_cases hl : ns.length = 0
      · rw [decide_eq_true ⟨hxw, hl⟩, hl]; rfl
      · rw [decide_eq_false (fun h => hl h.2)]; exact beq_eq_false_iff_ne.2 (by omega)
    · rw [decide_eq_false hxw, decide_eq_false (fun h => hxw h.1)]; rfl
  rw [hce3]
  refine at_run 60 (tailT tSo3) wb3.heap.size [] [] tSp3 ([(0, vS g off cap r), (2, pt k2), (11, .slice A ns.length cn)] ++ [(125, .bool (decide (x = wRev ∧ ns.length = 0)))]) wb3.heap.size [] (lies_nil wb3) (by kernel_rfl) fun wc3 Ec3 hLc3 hKc3 => ?_
  have Sc3 := Sb3.below (hKc3.below (Nat.le_refl _) (fun k hk => by cases hk))
  refine at_cond (decide (x = wRev ∧ ns.length = 0)) (by kernel_rfl) (fun ht => ?_) (fun hf => ?_)
  · have hc := of_decide_eq_true ht
    rw [if_pos hc] at hout
    subst hout
    refine at_run 60 (thenT tSp3) wc3.heap.size [⟨k2, 0, zeroC, 64, true⟩] [(0, 0)] tSq3 [(2, pt k2), (3, .bool true)] wc3.heap.size [⟨k2, 0, (kc 5 0).cells, 64, true⟩] (lies_one Sc3.s.m2) (by kernel_rfl) fun wd Ed hLd hKd => ?_
    exact at_ret (fn := Tryz.f41) (by kernel_rfl) (by kernel_rfl) ⟨0, [⟨k2, 0, (kc 5 0).cells, 64, true⟩], (0, 0), []⟩ hLd.sat.good (.tuple #[.agg ⟨(kc 5 0).cells⟩, .bool true]) (by kernel_rfl) (by kernel_rfl) ⟨rfl, Sc3.s.bel.trans (hKd.below Sc3.s.bel.size (fun k hk => by rw [List.mem_singleton.1 hk]; exact Sc3.s.o2))⟩
  rw [if_neg (of_decide_eq_false hf)] at hout
  refine at_run (cntG 90 (elseT tSp3)) (elseT tSp3) wc3.heap.size [] [] tSo4 [(0, vS g off cap r), (2, pt k2), (11, .slice A ns.length cn)] wc3.heap.size [] (lies_nil wc3) (by kernel_rfl) fun w1 E1 hL1 hK1 => ?_
  have S1 := Sc3.below (hK1.below (Nat.le_refl _) (fun k hk => by cases hk))
  by_cases h3 : ∃ a b c, ns = [a, b, c]
  · obtain ⟨a, b, c, rfl⟩ := h3
    obtain ⟨gn, rfl, hgk, hgl, hr⟩ := S1.n (by simp)
    have ge : Ent.good w1 ⟨gn, 0, intsM [a, b, c], 0, false⟩ := ⟨hgl, hr⟩
    have ha := hfit a (by simp)
    replace hout : (if x = wCrash ∧ 0 ≤ a then some (cr a.toNat b c) else none) = out := hout
    refine at_ghost ((curReg tSo4).getD #[]) ⟨[⟨g, off + 0 * 1, [.string ⟨⟨x⟩⟩], 0, false⟩, ⟨gn, 0, intsM [a, b, c], 0, false⟩], [(2, 0, 0), (12, 1, 0)], [⟨1, [(137, vS g off cap r)], .pointer (some ⟨g, off + 0 * 1, none⟩), true⟩, ⟨3, [(139, .string ⟨⟨x⟩⟩)], .bool (decide (x = wCrash)), true⟩]⟩ [(2, pt k2), (11, .slice (some ⟨gn, 0, none⟩) 3 cn), (136, .bool (cond (cond (decide (x = wCrash)) true false) (decide (0 ≤ a)) false))] (by kernel_rfl) (by kernel_rfl) (by kernel_rfl) (fun e he => ?_) (fun sp hsp => ?_) (fun X => by kernel_rfl) (by kernel_rfl) fun w2 E2 b2 => ?_
    · simp only [List.mem_cons, List.not_mem_nil, or_false] at he
      rcases he with rfl | rfl
      · exact H.good S1.s.bel 0 x rfl
      · exact ge
    · simp only [List.mem_cons, List.not_mem_nil, or_false] at hsp
      rcases hsp with rfl | rfl
      · exact spec_op fun _ E w _ => exec_index (sz := 1) (cap := cap) (k := 0) 53 (.tmp 137) (.const (.int .i64 0)) (by kernel_rfl) (by kernel_rfl) (by kernel_rfl) (Nat.succ_pos r.length) Tryz.underlying53 (by kernel_rfl)
      · exact spec_op fun _ E w _ => exec_eqs (T := 9) (T' := 9) (x := .tmp 139) (y := .const (.string ⟨⟨wCrash⟩⟩)) (by kernel_rfl) (by kernel_rfl) (by kernel_rfl)
    have S2 := S1.below b2
    have hce : cond (cond (decide (x = wCrash)) true false) (decide (0 ≤ a)) false = decide (x = wCrash ∧ 0 ≤ a) := by
      by_cases h1 : x = wCrash <;> by_cases h2 : 0 ≤ a <;> simp [h1, h2]
    rw [hce]
    refine at_run 60 (tailT tSo4) w2.heap.size [] [] tSp4 [(2, pt k2), (11, .slice (some ⟨gn, 0, none⟩) 3 cn), (136, .bool (decide (x = wCrash ∧ 0 ≤ a)))] w2.heap.size [] (lies_nil w2) (by kernel_rfl) fun w3 E3 hL3 hK3 => ?_
    have S3 := S2.below (hK3.below (Nat.le_refl _) (fun k hk => by cases hk))
    refine at_cond (decide (x = wCrash ∧ 0 ≤ a)) (by kernel_rfl) (fun ht => ?_) (fun hf => ?_)
    · have hc := of_decide_eq_true ht
      rw [if_pos hc] at hout
      subst hout
      refine at_run 60 (thenT tSp4) w3.heap.size [] [] tSq4 (envCr gn cn k2) w3.heap.size [] (lies_nil w3) (by kernel_rfl) fun w4 E4 hL4 hK4 => ?_
      have S4 := S3.below (hK4.below (Nat.le_refl _) (fun k hk => by cases hk))
      obtain ⟨gn', he, hgk', hgl', hr'⟩ := S4.n (by simp)
      obtain rfl : gn = gn' := congrArg Addr.block (Option.some.inj he)
      exact si_crash hc.2 ha.2 S4.s hgl' hgk' hr'
    · rw [if_neg (of_decide_eq_false hf)] at hout
      subst hout
      refine at_run 60 (elseT tSp4) w3.heap.size [⟨k2, 0, zeroC, 64, true⟩] [(0, 0)] tSz [(2, pt k2), (3, .bool false)] w3.heap.size [⟨k2, 0, zeroC, 64, true⟩] (lies_one S3.s.m2) (by kernel_rfl) fun wb1 Eb1 hLb1 hKb1 => ?_
      exact at_ret (fn := Tryz.f41) (by kernel_rfl) (by kernel_rfl) ⟨0, [⟨k2, 0, zeroC, 64, true⟩], (0, 0), []⟩ hLb1.sat.good (.tuple #[.agg ⟨zeroC⟩, .bool false]) (by kernel_rfl) (by kernel_rfl) ⟨rfl, S3.s.bel.trans (hKb1.below S3.s.bel.size (fun k hk => by rw [List.mem_singleton.1 hk]; exact S3.s.o2))⟩
  · have hout2 : none = out := by
      rw [← hout]
      match ns, h3 with
      | [], _ => rfl
      | [_], _ => rfl
      | [_, _], _ => rfl
      | [a, b, c], h3 => exact absurd ⟨a, b, c, rfl⟩ h3
      | _ :: _ :: _ :: _ :: _, _ => rfl
    subst hout2
    have hn3 : ((ns.length : Int) == 3) = false := beq_eq_false_iff_ne.2 fun h => h3 (by
      match ns, h with
      | [a, b, c], _ => exact ⟨a, b, c, rfl⟩
      | [], h => simp at h
      | [_], h => simp at h
      | [_, _], h => simp at h
      | _ :: _ :: _ :: _ :: l, h => simp at h; omega)
    refine at_ghost ((curReg tSo4).getD #[]) ⟨[⟨g, off + 0 * 1, [.string ⟨⟨x⟩⟩], 0, false⟩], [(2, 0, 0)], [⟨1, [(137, vS g off cap r)], .pointer (some ⟨g, off + 0 * 1, none⟩), true⟩, ⟨3, [(139, .string ⟨⟨x⟩⟩)], .bool (decide (x = wCrash)), true⟩, ⟨11, [], .bool false, (cond (decide (x = wCrash)) ((ns.length : Int) == 3) false) && true⟩, ⟨12, [], .int .i64 0, (cond (decide (x = wCrash)) ((ns.length : Int) == 3) false) && true⟩]⟩ [(2, pt k2), (136, .bool (cond (cond (decide (x = wCrash)) ((ns.length : Int) == 3) false) true false))] (by kernel_rfl) (by kernel_rfl) (by kernel_rfl) (fun e he => by rw [List.mem_singleton.1 he]; exact H.good S1.s.bel 0 x rfl) (fun sp hsp => ?_) (fun X => by kernel_rfl) (by kernel_rfl) fun w2 E2 b2 => ?_
    · simp only [List.mem_cons, List.not_mem_nil, or_false] at hsp
      rcases hsp with rfl | rfl | rfl | rfl
      · exact spec_op fun _ E w _ => exec_index (sz := 1) (cap := cap) (k := 0) 53 (.tmp 137) (.const (.int .i64 0)) (by kernel_rfl) (by kernel_rfl) (by kernel_rfl) (Nat.succ_pos r.length) Tryz.underlying53 (by kernel_rfl)
      · exact spec_op fun _ E w _ => exec_eqs (T := 9) (T' := 9) (x := .tmp 139) (y := .const (.string ⟨⟨wCrash⟩⟩)) (by kernel_rfl) (by kernel_rfl) (by kernel_rfl)
      · exact spec_op fun hc => by rw [hn3] at hc; simp at hc
      · exact spec_op fun hc => by rw [hn3] at hc; simp at hc
    have S2 := S1.below b2
    have hce : cond (cond (decide (x = wCrash)) ((ns.length : Int) == 3) false) true false = false := by rw [hn3]; cases decide (x = wCrash) <;> rfl
    rw [hce]
    refine at_run 60 (tailT tSo4) w2.heap.size [] [] tSp4 [(2, pt k2), (136, .bool false)] w2.heap.size [] (lies_nil w2) (by kernel_rfl) fun w3 E3 hL3 hK3 => ?_
    have S3 := S2.below (hK3.below (Nat.le_refl _) (fun k hk => by cases hk))
    refine at_cond false (by kernel_rfl) (fun h => nomatch h) fun _ => ?_
    refine at_run 60 (elseT tSp4) w3.heap.size [⟨k2, 0, zeroC, 64, true⟩] [(0, 0)] tSz [(2, pt k2), (3, .bool false)] w3.heap.size [⟨k2, 0, zeroC, 64, true⟩] (lies_one S3.s.m2) (by kernel_rfl) fun wb2 Eb2 hLb2 hKb2 => ?_
    exact at_ret (fn := Tryz.f41) (by kernel_rfl) (by kernel_rfl) ⟨0, [⟨k2, 0, zeroC, 64, true⟩], (0, 0), []⟩ hLb2.sat.good (.tuple #[.agg ⟨zeroC⟩, .bool false]) (by kernel_rfl) (by kernel_rfl) ⟨rfl, S3.s.bel.trans (hKb2.below S3.s.bel.size (fun k hk => by rw [List.mem_singleton.1 hk]; exact S3.s.o2))⟩
theorem simple_any (x : List UInt8) (r : List (List UInt8)) (v : Value) (w : World) (hv : StrsAt w w.heap.size v (x :: r)) (hl : ∀ y ∈ x :: r, y.length ≤ 4294967296) (hn : r.length ≤ 4294967290) :
    Calls Tryz.prog 41 #[v] w (SimR w (simpleR (x :: r))) := by
  obtain ⟨a, cap, rfl, hcp, hcells⟩ := hv
  obtain ⟨g, off, rfl, hgl, hcell⟩ := hcells (by simp)
  rw [List.length_cons] at hcp
  have H : WsAt w g off x r := ⟨hgl, hcell, hl, hn⟩
  refine calls_at (args := [vS g off cap r]) (fn := Tryz.f41) (c := codeSi) (n := 164) (by kernel_rfl) (by kernel_rfl) (by kernel_rfl) (by kernel_rfl) ?_
  refine at_run 60 [.code codeSi] w.heap.size [] [] tSi0 [(0, vS g off cap r), (2, pt w.heap.size), (4, .int .i64 ((1 : Nat) : Int))] (w.heap.size + 1) [⟨w.heap.size, 0, zeroC, 64, true⟩] (lies_nil w) (by kernel_rfl) fun w1 E1 hL1 hK1 => ?_
  have S1 : SiS w w.heap.size w1 := ⟨hK1.below (Nat.le_refl _) (fun k hk => by cases hk), own_good (hL1.sat.good _ (List.mem_singleton.2 rfl)), Nat.le_refl _⟩
  generalize hk2 : w.heap.size = k2 at S1 ⊢
  rw [show simpleR (x :: r) = simpleS (findK x 9 1) x r from rfl]
  generalize hfk : findK x 9 1 = fk
  refine at_loop (by kernel_rfl) (fun E wx => ∃ (k m : Nat) (E0 : Nat → Value), 1 ≤ k ∧ k + m = 10 ∧ E = updL E0 [(0, vS g off cap r), (2, pt k2), (4, .int .i64 (k : Nat))] ∧ findK x m k = fk ∧ SiS w k2 wx)
    (fun E _ => 10 - idxOf (E 4)) ⟨1, 9, E1, Nat.le_refl _, rfl, rfl, hfk, S1⟩ ?_
  rintro E wx ⟨k, m, E0, hk1, hkm, rfl, hfm, S⟩ hagain
  refine at_run 60 (bodyT tSi0) wx.heap.size [] [] tSi1 [(0, vS g off cap r), (2, pt k2), (4, .int .i64 (k : Nat)), (14, .bool (decide ((k : Int) ≤ 9)))] wx.heap.size [] (lies_nil wx) (by kernel_rfl) fun w2 E2 hL2 hK2 => ?_
  have S2 := S.below (hK2.below (Nat.le_refl _) (fun k hk => by cases hk))
  refine at_cond (decide ((k : Int) ≤ 9)) (by kernel_rfl) (fun ht => ?_) (fun hf => ?_)
  · have hk9 : k ≤ 9 := by have := of_decide_eq_true ht; omega
    obtain ⟨m, rfl⟩ : ∃ m', m = m' + 1 := ⟨m - 1, by omega⟩
    rw [findK] at hfm
    refine at_run 60 (thenT tSi1) w2.heap.size [] [] tSi2 [(0, vS g off cap r), (2, pt k2), (4, .int .i64 (k : Nat)), (18, .int .i64 (k : Nat))] w2.heap.size [] (lies_nil w2) (by kernel_rfl) fun w3 E3 hL3 hK3 => ?_
    have S3 := S2.below (hK3.below (Nat.le_refl _) (fun k hk => by cases hk))
    refine at_call 69 [.tmp 18] (some 19) [.int .i64 (k : Nat)] (by kernel_rfl) (by kernel_rfl) (by kernel_rfl) ((rword46_any (k : Int) w3).mono fun e w4 hh => ?_)
    obtain ⟨rfl, rfl⟩ := hh
    refine ⟨_, rfl, ?_⟩
    have hsk : skipK x k = cond (decide ((wordP (k : Int)).1 = [])) true (!(decide (x = (wordP (k : Int)).1))) := rfl
    have hwl : (wordP (k : Int)).2.length ≤ 6 ∧ ∀ a ∈ (wordP (k : Int)).2, a.toNat = 110 ∨ (a.toNat = 101 ∨ a.toNat = 100 ∨ a.toNat = 118 ∨ a.toNat = 120 ∨ a.toNat = 114) := by
      unfold wordP
      repeat' split
      all_goals exact ⟨by decide, by decide⟩
    generalize hw1 : (wordP (k : Int)).1 = W at *
    generalize hw2 : (wordP (k : Int)).2 = fs at *
    refine at_run (cntG 90 (popOp tSi2)) (popOp tSi2) w4.heap.size [] [] tSi3 [(0, vS g off cap r), (2, pt k2), (4, .int .i64 (k : Nat)), (5, .string ⟨⟨W⟩⟩), (6, .string ⟨⟨fs⟩⟩)] w4.heap.size [] (lies_nil w4) (by kernel_rfl) fun w5 E5 hL5 hK5 => ?_
    have S5 := S3.below (hK5.below (Nat.le_refl _) (fun k hk => by cases hk))
    refine at_ghost ((curReg tSi3).getD #[]) ⟨[⟨g, off + 0 * 1, [.string ⟨⟨x⟩⟩], 0, false⟩], [(5, 0, 0)], [⟨1, [(22, .string ⟨⟨W⟩⟩)], .bool (decide (W = [])), true⟩, ⟨4, [(25, vS g off cap r)], .pointer (some ⟨g, off + 0 * 1, none⟩), (!(decide (W = []))) && true⟩, ⟨7, [(27, .string ⟨⟨x⟩⟩), (28, .string ⟨⟨W⟩⟩)], .bool (!(decide (x = W))), (!(decide (W = []))) && true⟩]⟩ [(0, vS g off cap r), (2, pt k2), (4, .int .i64 (k : Nat)), (6, .string ⟨⟨fs⟩⟩), (30, .bool (skipK x k))] (by kernel_rfl) (by kernel_rfl) (by kernel_rfl) (fun e he => by rw [List.mem_singleton.1 he]; exact H.good S5.bel 0 x rfl) (fun sp hsp => ?_) (fun X => by kernel_rfl) (by rw [hsk]; kernel_rfl) fun w6 E6 b6 => ?_
    · simp only [List.mem_cons, List.not_mem_nil, or_false] at hsp
      rcases hsp with rfl | rfl | rfl
      · exact spec_op fun _ E w _ => exec_eqs (T := 9) (T' := 9) (x := .tmp 22) (y := .const (.string ⟨⟨[]⟩⟩)) (by kernel_rfl) (by kernel_rfl) (by kernel_rfl)
      · exact spec_op fun _ E w _ => exec_index (sz := 1) (cap := cap) (k := 0) 53 (.tmp 25) (.const (.int .i64 0)) (by kernel_rfl) (by kernel_rfl) (by kernel_rfl) (Nat.succ_pos r.length) Tryz.underlying53 (by kernel_rfl)
      · exact spec_op fun _ E w _ => exec_neqs (T := 9) (T' := 9) (x := .tmp 27) (y := .tmp 28) (by kernel_rfl) (by kernel_rfl) (by kernel_rfl)
    have S6 := S5.below b6
    generalize skipK x k = sk at *
    refine at_run 60 (tailT tSi3) w6.heap.size [] [] tSi4 [(0, vS g off cap r), (2, pt k2), (4, .int .i64 (k : Nat)), (6, .string ⟨⟨fs⟩⟩), (30, .bool sk)] w6.heap.size [] (lies_nil w6) (by kernel_rfl) fun w7 E7 hL7 hK7 => ?_
    have S7 := S6.below (hK7.below (Nat.le_refl _) (fun k hk => by cases hk))
    have hwi : IntKind.i64.wrap ((k : Int) + 1) = ((k + 1 : Nat) : Int) := by rw [IntWalk.i64_in _ (by omega)]; omega
    cases sk with
    | true =>
      rw [if_pos rfl] at hfm
      refine at_cond true (by kernel_rfl) (fun _ => ?_) (fun h => nomatch h)
      refine at_run 60 (thenT tSi4) w7.heap.size [] [] (againT tSi0) [(0, vS g off cap r), (2, pt k2), (4, .int .i64 (IntKind.i64.wrap ((k : Int) + 1)))] w7.heap.size [] (lies_nil w7) (by kernel_rfl) fun w8 E8 hL8 hK8 => ?_
      rw [hwi]
      refine hagain _ _ ⟨k + 1, m, E8, by omega, by omega, rfl, hfm, S7.below (hK8.below (Nat.le_refl _) (fun k hk => by cases hk))⟩ ?_
      show 10 - idxOf (.int .i64 ((k + 1 : Nat) : Int)) < 10 - idxOf (.int .i64 (k : Int))
      simp only [idxOf]
      omega
    | false =>
      rw [if_neg (by decide)] at hfm
      subst hfm
      rw [show simpleS (some k) x r = if r.length = (wordP (k : Int)).2.length then (fldR (wordP (k : Int)).2 r ⟨1, 0, (k : Int), 0, [], 0, 0, 0, [], 0, 0, 0, 0⟩).map factCmd else none from rfl, hw2]
      refine at_cond false (by kernel_rfl) (fun h => nomatch h) fun _ => ?_
      refine at_run 60 (elseT tSi4) w7.heap.size [] [] tSi5 [(0, vS g off cap r), (2, pt k2), (4, .int .i64 (k : Nat)), (6, .string ⟨⟨fs⟩⟩), (36, .bool (!((((r.length + 1 : Nat)) : Int) == IntKind.i64.wrap ((fs.length : Int) + 1))))] w7.heap.size [] (lies_nil w7) (by kernel_rfl) fun w8 E8 hL8 hK8 => ?_
      have S8 := S7.below (hK8.below (Nat.le_refl _) (fun k hk => by cases hk))
      have hwf : IntKind.i64.wrap ((fs.length : Int) + 1) = ((fs.length + 1 : Nat) : Int) := by rw [IntWalk.i64_in _ (by omega)]; omega
      rw [hwf]
      by_cases hrl : r.length = fs.length
      · rw [if_pos hrl]
        have e : (!((((r.length + 1 : Nat)) : Int) == ((fs.length + 1 : Nat) : Int))) = false := by rw [hrl]; simp
        rw [e]
        refine at_cond false (by kernel_rfl) (fun h => nomatch h) fun _ => ?_
        refine at_run 60 (elseT tSi5) w8.heap.size [] [(0, 0)] tSi7 [(0, vS g off cap r), (2, pt k2), (6, .string ⟨⟨fs⟩⟩), (7, pt w8.heap.size), (8, .int .i64 0)] (w8.heap.size + 1) [⟨w8.heap.size, 0, (⟨1, 0, (k : Int), 0, [], 0, 0, 0, [], 0, 0, 0, 0⟩ : Cmd).fact, 61, true⟩] (lies_nil w8) (by kernel_rfl) fun w9 E9 hL9 hK9 => ?_
        have S9 : SiF w k2 w8.heap.size ⟨1, 0, (k : Int), 0, [], 0, 0, 0, [], 0, 0, 0, 0⟩ w9 := ⟨S8.below (hK9.below (Nat.le_refl _) (fun k hk => by cases hk)), own_good (hL9.sat.good _ (List.mem_singleton.2 rfl)), heap_lt S8.m2⟩
        exact si_fields H hwl.2 (by omega) hrl S9
      · rw [if_neg hrl]
        have e : (!((((r.length + 1 : Nat)) : Int) == ((fs.length + 1 : Nat) : Int))) = true := by
          have : ((((r.length + 1 : Nat)) : Int) == ((fs.length + 1 : Nat) : Int)) = false := beq_eq_false_iff_ne.2 (by omega)
          rw [this]
          rfl
        rw [e]
        refine at_cond true (by kernel_rfl) (fun _ => ?_) (fun h => nomatch h)
        refine at_run 60 (thenT tSi5) w8.heap.size [⟨k2, 0, zeroC, 64, true⟩] [(0, 0)] tSi6 [(2, pt k2), (3, .bool false)] w8.heap.size [⟨k2, 0, zeroC, 64, true⟩] (lies_one S8.m2) (by kernel_rfl) fun wb1 Eb1 hLb1 hKb1 => ?_
        exact at_ret (fn := Tryz.f41) (by kernel_rfl) (by kernel_rfl) ⟨0, [⟨k2, 0, zeroC, 64, true⟩], (0, 0), []⟩ hLb1.sat.good (.tuple #[.agg ⟨zeroC⟩, .bool false]) (by kernel_rfl) (by kernel_rfl) ⟨rfl, S8.bel.trans (hKb1.below S8.bel.size (fun k hk => by rw [List.mem_singleton.1 hk]; exact S8.o2))⟩
  · obtain rfl : m = 0 := by have := of_decide_eq_false hf; omega
    have hfk' : none = fk := hfm
    subst hfk'
    refine at_run (cntO isSliceO 90 (elseT tSi1)) (elseT tSi1) w2.heap.size [] [] tSil [(0, vS g off cap r), (2, pt k2), (81, vS g off cap r)] w2.heap.size [] (lies_nil w2) (by kernel_rfl) fun w3 E3 hL3 hK3 => ?_
    have S3 := S2.below (hK3.below (Nat.le_refl _) (fun k hk => by cases hk))
    refine at_op (opAt tSil) (by kernel_rfl) (v := sliced (some ⟨g, off, none⟩) 1 (r.length + 1) cap 1) (w' := w3) (exec_slLo (t := 53) (e := 9) (x := .tmp 81) (by kernel_rfl) Tryz.underlying53 (by kernel_rfl) (by kernel_rfl) (by omega) (by kernel_rfl)) ?_
    have hA3 : StrsAt w3 w3.heap.size (sliced (some ⟨g, off, none⟩) 1 (r.length + 1) cap 1) r := by
      refine ⟨(if cap = 1 then (some ⟨g, off, none⟩) else (some ⟨g, off, none⟩ : Option Addr).map (·.add (1 * 1))), cap - 1, rfl, by omega, fun hne => ?_⟩
      have hlen : 1 ≤ r.length := by
        cases r with
        | nil => exact absurd rfl hne
        | cons => simp
      have hcap : cap ≠ 1 := fun e => by
        have := hcp
        omega
      refine ⟨g, off + 1, by rw [if_neg hcap]; simp [Addr.add], Nat.lt_of_lt_of_le hgl S3.bel.size, fun j u hu => ?_⟩
      have h1 := hcell (j + 1) u (by simpa [strsM] using hu)
      rw [show off + 1 + j = off + (j + 1) by omega]
      exact (World.cell?_of_block (S3.bel.block g hgl)).trans h1
    generalize sliced (some ⟨g, off, none⟩) 1 (r.length + 1) cap 1 = v1 at *
    refine at_run 60 (popOp tSil) w3.heap.size [] [] tSim [(0, vS g off cap r), (2, pt k2), (82, v1)] w3.heap.size [] (lies_nil w3) (by kernel_rfl) fun w4 E4 hL4 hK4 => ?_
    have b4 : Below w3.heap.size w3 w4 := hK4.below (Nat.le_refl _) (fun k hk => by cases hk)
    have S4 := S3.below b4
    refine at_call 42 [.tmp 82] (some 83) [v1] (by kernel_rfl) (by kernel_rfl) (by kernel_rfl) ((numbers_any r v1 w4 (hA3.below b4.size b4) (fun y hy => hl y (List.mem_cons_of_mem _ hy)) (by omega)).mono fun e w5 hh => ?_)
    obtain ⟨b5, hr⟩ := hh
    have S5 := S4.below b5
    have hsn : simpleS none x r = (match numsR r with | none => none | some ns => tailR x ns) := rfl
    rw [hsn]
    cases hnr : numsR r with
    | none =>
      rw [hnr] at hr
      simp only at hr
      subst hr
      refine ⟨_, rfl, ?_⟩
      refine at_run 60 (popOp tSim) w5.heap.size [] [] tSin [(2, pt k2), (87, .bool true)] w5.heap.size [] (lies_nil w5) (by kernel_rfl) fun w6 E6 hL6 hK6 => ?_
      have S6 := S5.below (hK6.below (Nat.le_refl _) (fun k hk => by cases hk))
      refine at_cond true (by kernel_rfl) (fun _ => ?_) (fun h => nomatch h)
      refine at_run 60 (thenT tSin) w6.heap.size [⟨k2, 0, zeroC, 64, true⟩] [(0, 0)] tSinb [(2, pt k2), (3, .bool false)] w6.heap.size [⟨k2, 0, zeroC, 64, true⟩] (lies_one S6.m2) (by kernel_rfl) fun wb2 Eb2 hLb2 hKb2 => ?_
      exact at_ret (fn := Tryz.f41) (by kernel_rfl) (by kernel_rfl) ⟨0, [⟨k2, 0, zeroC, 64, true⟩], (0, 0), []⟩ hLb2.sat.good (.tuple #[.agg ⟨zeroC⟩, .bool false]) (by kernel_rfl) (by kernel_rfl) ⟨rfl, S6.bel.trans (hKb2.below S6.bel.size (fun k hk => by rw [List.mem_singleton.1 hk]; exact S6.o2))⟩
    | some ns =>
      rw [hnr] at hr
      obtain ⟨vn, rfl, hown⟩ := hr
      refine ⟨_, rfl, ?_⟩
      obtain ⟨A, cn, rfl⟩ := own_slice hown
      have hN5 : NsAt k2 A ns w5 := fun hne => by
        obtain ⟨gn, cp, he, h1, h2, h3⟩ := own_ints hown hne
        have h4 := heap_lt S4.m2
        exact ⟨gn, (Value.slice.inj he).1, by omega, h2, h3⟩
      have hnl := numsR_len r ns hnr
      refine at_run 60 (popOp tSim) w5.heap.size [] [] tSin [(0, vS g off cap r), (2, pt k2), (11, .slice A ns.length cn), (87, .bool false)] w5.heap.size [] (lies_nil w5) (by kernel_rfl) fun w6 E6 hL6 hK6 => ?_
      have b6 : Below w5.heap.size w5 w6 := hK6.below (Nat.le_refl _) (fun k hk => by cases hk)
      refine at_cond false (by kernel_rfl) (fun h => nomatch h) fun _ => ?_
      refine at_known [(0, vS g off cap r), (2, pt k2), (11, .slice A ns.length cn)] (by kernel_rfl) fun E7 => ?_
      exact si_tail H (numsR_fits r ns hnr) (by omega) ⟨S5.below b6, hN5.below b6⟩
end Go.Proofs.YtdcbnkimjhefkaaGreatDoor

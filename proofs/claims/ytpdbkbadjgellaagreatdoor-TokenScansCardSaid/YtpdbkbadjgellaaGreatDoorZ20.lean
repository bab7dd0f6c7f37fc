/-
  The reference's ValidEntries.
-/
import Derived.Test.YtpdbkbadjgellaaGreatDoorZ19
namespace Go.Proofs.YtpdbkbadjgellaaGreatDoor
open Go.RowKit
section
set_option maxRecDepth 100000
def entB1 (k : Int) : Bool := decide (k < 0) || decide (1000000 < k)
def entB2 (k n d : Int) : Bool := entB1 k || !(isDecimalB n d)
def entBad (i : Nat) (e p : Int × Int × Int) : Bool := entB2 e.1 e.2.1 e.2.2 || (decide (0 < (i : Int)) && decide (e.1 ≤ p.1))
def entsBad (es : List (Int × Int × Int)) (i : Nat) : Bool := entBad i (es.getD i (0, 0, 0)) (es.getD (i - 1) (0, 0, 0))
def lenBad (k : Nat) : Bool := decide ((k : Int) < 1) || decide (64 < (k : Int))
def validEntB (es : List (Int × Int × Int)) : Bool := !(lenBad es.length) && (List.range es.length).all (fun i => !(entsBad es i))
noncomputable def codeEnt : Code := Tryz.f115.body.getD .skip
noncomputable def tEn1 : List Item := advG [.code codeEnt]
noncomputable def tEn2 : List Item := advG (tailT tEn1)
noncomputable def tEn3 : List Item := advG (elseT tEn2)
noncomputable def tEn4 : List Item := advG (bodyT tEn3)
noncomputable def tEn6 : List Item := advG (thenT tEn4)
noncomputable def tEn7 : List Item := advG (tailT tEn6)
theorem ent_end {w wx : World} {E : Nat → Value} {todo : List Item} {r v : Bool} (hB : Below w.heap.size w wx) (hv : r = v)
    (he : (fun a : St => (isRet a.todo, a.ms.eqs, (lrun Tryz.prog (resultsE Tryz.f115 59 a.env) ⟨0, [], (0, 0), []⟩).map (fun r => (r.1, r.2.eqs)))) (adv Tryz.prog 59 (cntG 90 todo) ⟨todo, E, ⟨wx.heap.size, [], (0, 0), []⟩, []⟩) = (true, [], some (.bool v, []))) :
    At Tryz.prog 115 (fun en w' => en = .returned (.bool r) ∧ Below w.heap.size w w') todo (Fr 59 E) wx := by
  refine at_end [] (.bool v) (fn := Tryz.f115) (by kernel_rfl) (lies_nil wx) he fun w3 hK => ⟨by rw [hv], ?_⟩
  exact hB.trans ((below_kept hK).mono hB.size)
def envEn (A : Option Addr) (k c i : Nat) : List (Nat × Value) := [(0, .slice A k c), (3, .int .i64 i)]
theorem rvalidEntries_any (es : List (Int × Int × Int)) (A : Option Addr) (c : Nat) (w : World) (hrows : rowsS (fun _ => True) w 3 A (es.map entCells)) : Calls Tryz.prog 115 #[.slice A es.length c] w fun e w' => e = .returned (.bool (validEntB es)) ∧ Below w.heap.size w w' := by
  refine calls_at (args := [.slice A es.length c]) (fn := Tryz.f115) (c := codeEnt) (n := 59) (by kernel_rfl) (by kernel_rfl) (by kernel_rfl) (by kernel_rfl) ?_
  refine at_run (cntG 90 [.code codeEnt]) [.code codeEnt] w.heap.size [] [] tEn1 [(0, .slice A es.length c)] w.heap.size [] (lies_nil w) (by kernel_rfl) fun w1 E1 L K => ?_
  have B := below_kept K
  clear K L
  refine at_ghost ((curReg tEn1).getD #[]) ⟨[], [], []⟩ [(0, .slice A es.length c), (11, .bool (lenBad es.length))] (by kernel_rfl) (by kernel_rfl) (by kernel_rfl) (fun e he => (by cases he)) (fun e he => (by cases he)) (fun X => by kernel_rfl) (by kernel_rfl) fun w2 E2 hB2 => ?_
  replace B := B.trans (hB2.mono B.size)
  clear hB2
  refine at_run (cntG 90 (tailT tEn1)) (tailT tEn1) w2.heap.size [] [] tEn2 [(0, .slice A es.length c), (11, .bool (lenBad es.length))] w2.heap.size [] (lies_nil w2) (by kernel_rfl) fun w3 E3 _ K => ?_
  replace B := B.trans ((below_kept K).mono B.size)
  clear K
  refine at_cond (lenBad es.length) (by kernel_rfl) (fun hb => ?_) (fun hb => ?_)
  · exact ent_end B (v := false) (by unfold validEntB; rw [hb]; rfl) (by kernel_rfl)
  have hW : validEntB es = (List.range es.length).all (fun i => !(entsBad es i)) := by unfold validEntB; rw [hb]; rfl
  have hlen : es.length ≤ 64 := by
    unfold lenBad at hb
    rw [Bool.or_eq_false_iff, decide_eq_false_iff_not, decide_eq_false_iff_not] at hb
    omega
  rw [hW]
  clear hW hb
  refine at_run (cntG 90 (elseT tEn2)) (elseT tEn2) w3.heap.size [] [] tEn3 (envEn A es.length c 0) w3.heap.size [] (lies_nil w3) (by kernel_rfl) fun w4 E4 _ K => ?_
  replace B := B.trans ((below_kept K).mono B.size)
  clear K
  refine at_loop (by kernel_rfl) (fun E u => ∃ E' i, E = updL E' (envEn A es.length c i) ∧ i ≤ es.length ∧ (∀ j, j < i → entsBad es j = false) ∧ Below w.heap.size w u) (fun E _ => es.length - (iv (E 3)).toNat) ⟨E4, 0, rfl, Nat.zero_le _, fun j hj => (by omega), B⟩ ?_
  clear B
  rintro E u ⟨E', i, rfl, hi, hall, B⟩ again
  refine at_run (cntG 90 (bodyT tEn3)) (bodyT tEn3) u.heap.size [] [] tEn4 ((15, .bool (decide ((i : Int) < (es.length : Int)))) :: envEn A es.length c i) u.heap.size [] (lies_nil u) (by kernel_rfl) fun u1 F1 _ K => ?_
  replace B := B.trans ((below_kept K).mono B.size)
  clear K
  refine at_cond (decide ((i : Int) < (es.length : Int))) (by kernel_rfl) (fun hlt => ?_) (fun hlt => ?_)
  · have hlt' : i < es.length := by simpa using hlt
    obtain ⟨e, he⟩ : ∃ e, es[i]? = some e := ⟨_, List.getElem?_eq_getElem hlt'⟩
    obtain ⟨p, hp⟩ : ∃ e, es[i - 1]? = some e := ⟨_, List.getElem?_eq_getElem (show i - 1 < es.length by omega)⟩
    have hbad : entsBad es i = entBad i e p := by
      unfold entsBad
      rw [List.getD_eq_getElem?_getD, List.getD_eq_getElem?_getD, he, hp]
      rfl
    rcases hrows with hrows | ⟨g, off, rfl, _, hg, hcell⟩
    · rw [List.map_eq_nil_iff] at hrows
      rw [hrows] at he
      simp at he
    have hc1 := hcell i (entCells e) (by rw [List.getElem?_map, he]; rfl)
    have hc2 := hcell (i - 1) (entCells p) (by rw [List.getElem?_map, hp]; rfl)
    obtain ⟨k, n, d⟩ := e
    obtain ⟨k', n', d'⟩ := p
    refine at_run (cntG 90 (thenT tEn4)) (thenT tEn4) u1.heap.size [] [] tEn6 (envEn (some ⟨g, off, none⟩) es.length c i) u1.heap.size [] (lies_nil u1) (by kernel_rfl) fun u2 F2 _ K => ?_
    replace B := B.trans ((below_kept K).mono B.size)
    clear K
    have hS : ∀ sp ∈ [(⟨2, [(18, .slice (some ⟨g, off, none⟩) es.length c), (19, .int .i64 i)], pt g (off + i * 3), true⟩ : Sp), ⟨9, [(25, .slice (some ⟨g, off, none⟩) es.length c), (26, .int .i64 i)], pt g (off + i * 3), !(decide (k < 0)) && true⟩, ⟨17, [(33, .slice (some ⟨g, off, none⟩) es.length c), (34, .int .i64 i)], pt g (off + i * 3), !(entB1 k) && true⟩, ⟨20, [(37, .agg #[.int .i64 n, .int .i64 d])], .bool (isDecimalB n d), !(entB1 k) && true⟩, ⟨29, [(45, .slice (some ⟨g, off, none⟩) es.length c), (46, .int .i64 i)], pt g (off + i * 3), decide (0 < (i : Int)) && (!(entB2 k n d) && true)⟩, ⟨35, [(50, .slice (some ⟨g, off, none⟩) es.length c), (52, .int .i64 (IntKind.i64.wrap ((i : Int) - 1)))], pt g (off + (i - 1) * 3), decide (0 < (i : Int)) && (!(entB2 k n d) && true)⟩], SpecOk Tryz.prog 59 (Below u2.heap.size u2) ((curReg tEn6).getD #[]) sp := by
      intro sp hsp
      simp only [List.mem_cons, List.not_mem_nil, or_false] at hsp
      rcases hsp with rfl | rfl | rfl | rfl | rfl | rfl
      · exact spec_op fun hc E y hy => exec_index 88 (.tmp 18) (.tmp 19) (by kernel_rfl) (g := g) (off := off) (len := es.length) (cap := c) (k := i) (sz := 3) (e := 96) (by kernel_rfl) (by kernel_rfl) hlt' (by kernel_rfl) (by kernel_rfl)
      · exact spec_op fun hc E y hy => exec_index 88 (.tmp 25) (.tmp 26) (by kernel_rfl) (g := g) (off := off) (len := es.length) (cap := c) (k := i) (sz := 3) (e := 96) (by kernel_rfl) (by kernel_rfl) hlt' (by kernel_rfl) (by kernel_rfl)
      · exact spec_op fun hc E y hy => exec_index 88 (.tmp 33) (.tmp 34) (by kernel_rfl) (g := g) (off := off) (len := es.length) (cap := c) (k := i) (sz := 3) (e := 96) (by kernel_rfl) (by kernel_rfl) hlt' (by kernel_rfl) (by kernel_rfl)
      · exact spec_call 38 [.tmp 37] [.agg #[.int .i64 n, .int .i64 d]] (by kernel_rfl) (by kernel_rfl) (fun E => by kernel_rfl) fun hc y hy => below_call hy (risDecimal_any n d y)
      · exact spec_op fun hc E y hy => exec_index 88 (.tmp 45) (.tmp 46) (by kernel_rfl) (g := g) (off := off) (len := es.length) (cap := c) (k := i) (sz := 3) (e := 96) (by kernel_rfl) (by kernel_rfl) hlt' (by kernel_rfl) (by kernel_rfl)
      · refine spec_op fun hc E y hy => ?_
        simp only [Bool.and_eq_true, decide_eq_true_eq] at hc
        have hw : IntKind.i64.wrap ((i : Int) - 1) = ((i - 1 : Nat) : Int) := by rw [IntWalk.i64_in _ (by omega)]; omega
        exact exec_index 88 (.tmp 50) (.tmp 52) (by kernel_rfl) (g := g) (off := off) (len := es.length) (cap := c) (k := i - 1) (sz := 3) (e := 96) (by kernel_rfl) (by rw [← hw]; kernel_rfl) (by omega) (by kernel_rfl) (by kernel_rfl)
    refine at_ghost ((curReg tEn6).getD #[]) ⟨[⟨g, off + i * 3, entCells (k, n, d), 96, false⟩, ⟨g, off + (i - 1) * 3, entCells (k', n', d'), 96, false⟩], [(4, 0, 0), (11, 0, 0), (19, 0, 1), (31, 0, 0), (37, 1, 0)], _⟩ ((58, .bool (entBad i (k, n, d) (k', n', d'))) :: envEn (some ⟨g, off, none⟩) es.length c i) (by kernel_rfl) (by kernel_rfl) (by kernel_rfl) (fun e he => ?_) hS (fun X => by kernel_rfl) (by kernel_rfl) fun u3 F3 hB3 => ?_
    · simp only [List.mem_cons, List.not_mem_nil, or_false] at he
      rcases he with rfl | rfl
      · refine ⟨Nat.lt_of_lt_of_le hg B.size, ?_⟩
        rw [if_neg (by simp)]
        intro j v hv
        rw [World.cell?_of_block (w := w) (B.block g hg)]
        exact hc1 j v hv
      · refine ⟨Nat.lt_of_lt_of_le hg B.size, ?_⟩
        rw [if_neg (by simp)]
        intro j v hv
        rw [World.cell?_of_block (w := w) (B.block g hg)]
        exact hc2 j v hv
    clear hS
    replace B := B.trans (hB3.mono B.size)
    clear hB3
    refine at_run (cntG 90 (tailT tEn6)) (tailT tEn6) u3.heap.size [] [] tEn7 ((58, .bool (entBad i (k, n, d) (k', n', d'))) :: envEn (some ⟨g, off, none⟩) es.length c i) u3.heap.size [] (lies_nil u3) (by kernel_rfl) fun u4 F4 _ K => ?_
    replace B := B.trans ((below_kept K).mono B.size)
    clear K
    refine at_cond (entBad i (k, n, d) (k', n', d')) (by kernel_rfl) (fun hb => ?_) (fun hb => ?_)
    · refine ent_end B (v := false) ?_ (by kernel_rfl)
      rw [← Bool.not_eq_true, List.all_eq_true]
      intro hh
      have := hh i (List.mem_range.2 hlt')
      rw [hbad, hb] at this
      cases this
    · refine at_run (cntG 90 (elseT tEn7)) (elseT tEn7) u4.heap.size [] [] (againT tEn3) [(0, .slice (some ⟨g, off, none⟩) es.length c), (3, .int .i64 (IntKind.i64.wrap ((i : Int) + 1)))] u4.heap.size [] (lies_nil u4) (by kernel_rfl) fun u5 F5 _ K => ?_
      replace B := B.trans ((below_kept K).mono B.size)
      clear K
      have hw2 : IntKind.i64.wrap ((i : Int) + 1) = ((i + 1 : Nat) : Int) := by rw [IntWalk.i64_in _ (by omega)]; omega
      rw [hw2]
      refine again _ _ ⟨F5, i + 1, rfl, hlt', fun j hj => ?_, B⟩ ?_
      · rcases Nat.lt_succ_iff_lt_or_eq.1 hj with hj | rfl
        · exact hall j hj
        · rw [hbad]; exact hb
      · show es.length - (((i + 1 : Nat) : Int)).toNat < es.length - ((i : Nat) : Int).toNat
        omega
  · have hge : i = es.length := by have : ¬ ((i : Int) < (es.length : Int)) := by simpa using hlt
                                   omega
    subst hge
    refine ent_end B (v := true) ?_ (by kernel_rfl)
    rw [List.all_eq_true]
    intro j hj
    rw [hall j (List.mem_range.1 hj)]
    rfl
end
end Go.Proofs.YtpdbkbadjgellaaGreatDoor

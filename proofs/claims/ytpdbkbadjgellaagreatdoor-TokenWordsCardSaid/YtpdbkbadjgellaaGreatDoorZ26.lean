/-
  The reference's Valid: some Bool, no panic.
  The reference's sign (printed by gen_sign.py).
  The reference's Modes.
  Regions part by part, in their order or drawn; texts that are only known to be short.
-/
import Derived.Test.YtpdbkbadjgellaaGreatDoorZ18
import Derived.Test.YtpdbkbadjgellaaGreatDoorZ25
namespace Go.Proofs.YtpdbkbadjgellaaGreatDoor
open Go.RowKit
section
set_option maxRecDepth 100000
noncomputable def codeVal : Code := Tryz.f55.body.getD .skip
noncomputable def tV1 : List Item := advG [.code codeVal]
noncomputable def tV2 : List Item := advG (tailT tV1)
noncomputable def tV3 : List Item := advG (elseT tV2)
noncomputable def tV4 : List Item := advG (bodyT tV3)
noncomputable def tV6 : List Item := advA 6 (thenT tV4)
noncomputable def tV7 : List Item := advG (tailT tV6)
def memV (w : World) (an : List UInt8) (A : Option Addr) (k c : Nat) : List Ent := [⟨w.heap.size, 0, [.string ⟨an.toArray⟩, .slice A k c], 54, true⟩]
def envV (w : World) (i : Nat) : List (Nat × Value) := [(1, pt w.heap.size 0), (3, .int .i64 i)]
theorem below_val {w wx wy : World} {an : List UInt8} {A : Option Addr} {k c : Nat} (hB : Below w.heap.size w wx) (hK : Kept ((memV w an A k c).map (·.id)) wx.heap.size wx wy) : Below w.heap.size w wy :=
  ⟨hK.os.trans hB.os, hK.tape.trans hB.tape, hK.output.trans hB.output, Nat.le_trans hB.size hK.size, fun i hi => (hK.block i (by have := hB.size; omega) (by simp [memV]; omega)).trans (hB.block i hi)⟩
theorem val_end {w wx : World} {E : Nat → Value} {todo : List Item} {v : Bool} (hB : Below w.heap.size w wx)
    (he : (fun a : St => (isRet a.todo, a.ms.eqs, (lrun Tryz.prog (resultsE Tryz.f55 28 a.env) ⟨0, [], (0, 0), []⟩).map (fun r => (r.1, r.2.eqs)))) (adv Tryz.prog 28 (cntG 90 todo) ⟨todo, E, ⟨wx.heap.size, [], (0, 0), []⟩, []⟩) = (true, [], some (.bool v, []))) :
    At Tryz.prog 55 (fun en w' => (∃ b, en = .returned (.bool b)) ∧ Below w.heap.size w w') todo (Fr 28 E) wx := by
  refine at_end [] (.bool v) (fn := Tryz.f55) (by kernel_rfl) (lies_nil wx) he fun w3 hK => ⟨⟨v, rfl⟩, ?_⟩
  exact hB.trans ((below_kept hK).mono hB.size)
theorem tidy_def {H : Nat} {d : Df} (h : okDef H d) : tidy d.body := by
  unfold okDef at h
  rcases h.2.2.2.2.2.2.2.2.2.2.2.2.2.1 with h | h
  · rw [h]; exact tidy_none
  · exact tidy_ok _ h.1
theorem rvalid_any (H : Nat) (an : List UInt8) (A : Option Addr) (c : Nat) (rs : List (List Value)) (w : World) (hn : an.length ≤ maxLen) (hlen : rs.length ≤ 1000) (hrows : rowsS (fun _ => True) w 21 A rs) (hok : RowsOk (okDef H) (fun _ => True) w rs) :
    Calls Tryz.prog 55 #[.agg #[.string ⟨an.toArray⟩, .slice A rs.length c]] w fun e w' => (∃ b, e = .returned (.bool b)) ∧ Below w.heap.size w w' := by
  refine calls_at (args := [.agg #[.string ⟨an.toArray⟩, .slice A rs.length c]]) (fn := Tryz.f55) (c := codeVal) (n := 28) (by kernel_rfl) (by kernel_rfl) (by kernel_rfl) (by kernel_rfl) ?_
  refine at_run (cntG 90 [.code codeVal]) [.code codeVal] w.heap.size [] [] tV1 [(1, pt w.heap.size 0)] (w.heap.size + 1) (memV w an A rs.length c) (lies_nil w) (by kernel_rfl) fun w1 E1 L K => ?_
  have B := below_kept K
  replace L := lies_sz (lies_any L)
  clear K
  have hS : ∀ sp ∈ [(⟨2, [(5, .string ⟨an.toArray⟩)], .bool (Tk.isName an), true⟩ : Sp)], SpecOk Tryz.prog 28 (Below w1.heap.size w1) ((curReg tV1).getD #[]) sp := by
    intro sp hsp
    simp only [List.mem_cons, List.not_mem_nil, or_false] at hsp
    rcases hsp with rfl
    exact spec_call 12 [.tmp 5] [.string ⟨an.toArray⟩] (by kernel_rfl) (by kernel_rfl) (fun E => by kernel_rfl) fun hc y hy => below_call hy (risName_any an y hn)
  refine at_ghost ((curReg tV1).getD #[]) ⟨memV w an A rs.length c, [(1, 0, 0), (6, 0, 1)], _⟩ [(1, pt w.heap.size 0), (13, .bool (!(Tk.isName an) || decide (128 < (rs.length : Int))))] (by kernel_rfl) (by kernel_rfl) (by kernel_rfl) L.sat.good hS (fun X => by kernel_rfl) (by kernel_rfl) fun w2 E2 hB2 => ?_
  clear hS
  replace B := B.trans (hB2.mono B.size)
  replace L := lies_below L hB2
  clear hB2
  refine at_run (cntG 90 (tailT tV1)) (tailT tV1) w2.heap.size _ [] tV2 [(1, pt w.heap.size 0), (13, .bool (!(Tk.isName an) || decide (128 < (rs.length : Int))))] w2.heap.size (memV w an A rs.length c) L (by kernel_rfl) fun w3 E3 L2 K => ?_
  replace B := below_val B K
  replace L := lies_sz (lies_any L2)
  clear L2 K
  refine at_cond (!(Tk.isName an) || decide (128 < (rs.length : Int))) (by kernel_rfl) (fun hb => ?_) (fun hb => ?_)
  · exact val_end (v := false) B (by kernel_rfl)
  clear hb
  refine at_run (cntG 90 (elseT tV2)) (elseT tV2) w3.heap.size _ [] tV3 (envV w 0) w3.heap.size (memV w an A rs.length c) L (by kernel_rfl) fun w4 E4 L2 K => ?_
  replace B := below_val B K
  replace L := lies_sz (lies_any L2)
  clear L2 K
  refine at_loop (by kernel_rfl) (fun E u => ∃ E' i, E = updL E' (envV w i) ∧ i ≤ rs.length ∧ Below w.heap.size w u ∧ Lies ((memV w an A rs.length c).map (·.id)) u.heap.size u ⟨u.heap.size, memV w an A rs.length c, (0, 0), []⟩) (fun E _ => rs.length - (iv (E 3)).toNat) ⟨E4, 0, rfl, Nat.zero_le _, B, L⟩ ?_
  clear B L
  rintro E u ⟨E', i, rfl, hi, B, L⟩ again
  refine at_run (cntG 90 (bodyT tV3)) (bodyT tV3) u.heap.size _ [(0, 1)] tV4 ((18, .bool (decide ((i : Int) < (rs.length : Int)))) :: envV w i) u.heap.size (memV w an A rs.length c) L (by kernel_rfl) fun u1 F1 L2 K => ?_
  replace B := below_val B K
  replace L := lies_sz (lies_any L2)
  clear L2 K
  refine at_cond (decide ((i : Int) < (rs.length : Int))) (by kernel_rfl) (fun hlt => ?_) (fun hlt => ?_)
  · have hlt' : i < rs.length := by simpa using hlt
    obtain ⟨r, hr⟩ : ∃ e, rs[i]? = some e := ⟨_, List.getElem?_eq_getElem hlt'⟩
    rcases hrows with hrows | ⟨g, off, rfl, _, hg, hcell⟩
    · rw [hrows] at hr; simp at hr
    obtain ⟨d, hd, hds⟩ := hok r (List.mem_of_getElem? hr)
    have htd := tidy_def hd
    have hdn : d.name.length ≤ 5 := hd.2.2.1
    obtain ⟨eA, ec, bs, hxs, hes, hrr⟩ := hds
    have hxs' := hxs
    obtain ⟨a0, a1, a2, a3, a4, a5, a6, a7, a8, bA, kn, kc, rfl⟩ := hxs'.cells
    have hrr' : r = dC d.kind d.name d.tb d.tm d.th d.td d.frm eA d.ents.length ec a0 a1 a2 a3 a4 a5 a6 a7 a8 bA kn kc d.mode d.num d.den := hrr
    subst hrr'
    clear hrr hxs'
    have hc1 := hcell i _ hr
    refine at_run (cntA 6 90 (thenT tV4)) (thenT tV4) u1.heap.size _ [] tV6 (envV w i) u1.heap.size (memV w an (some ⟨g, off, none⟩) rs.length c) L (by kernel_rfl) fun u2 F2 L2 K => ?_
    replace B := below_val B K
    replace L := lies_sz (lies_any L2)
    clear L2 K
    have hS : ∀ sp ∈ [(⟨3, [(22, .slice (some ⟨g, off, none⟩) rs.length c), (23, .int .i64 i)], pt g (off + i * 21), true⟩ : Sp), ⟨5, [(25, .agg (dC d.kind d.name d.tb d.tm d.th d.td d.frm eA d.ents.length ec a0 a1 a2 a3 a4 a5 a6 a7 a8 bA kn kc d.mode d.num d.den).toArray)], .bool (defB d.kind d.name d.tb d.tm d.th d.td d.frm d.ents.length d.ents a0 a1 a2 a3 a4 a5 a6 a7 a8 kn d.body d.mode d.num d.den), true⟩], SpecOk Tryz.prog 28 (Below u2.heap.size u2) ((curReg tV6).getD #[]) sp := by
      intro sp hsp
      simp only [List.mem_cons, List.not_mem_nil, or_false] at hsp
      rcases hsp with rfl | rfl
      · exact spec_op fun hc E y hy => exec_index 52 (.tmp 22) (.tmp 23) (by kernel_rfl) (g := g) (off := off) (len := rs.length) (cap := c) (k := i) (sz := 21) (e := 93) (by kernel_rfl) (by kernel_rfl) hlt' (by kernel_rfl) (by kernel_rfl)
      · refine spec_call 87 [.tmp 25] [.agg (dC d.kind d.name d.tb d.tm d.th d.td d.frm eA d.ents.length ec a0 a1 a2 a3 a4 a5 a6 a7 a8 bA kn kc d.mode d.num d.den).toArray] (by kernel_rfl) (by kernel_rfl) (fun E => by kernel_rfl) fun hc y hy => below_call hy ?_
        have B2 := B.trans (hy.mono B.size)
        exact rdef_any d.ents d.body (by unfold maxLen; omega) rfl (hes.keep B2.size (fun g' _ hg' => ⟨trivial, B2.block g' hg'⟩)) htd (exS.keep B2.size (fun g' _ hg' => ⟨trivial, B2.block g' hg'⟩) _ _ hxs)
    generalize defB d.kind d.name d.tb d.tm d.th d.td d.frm d.ents.length d.ents a0 a1 a2 a3 a4 a5 a6 a7 a8 kn d.body d.mode d.num d.den = q at hS
    refine at_ghost ((curReg tV6).getD #[]) ⟨memV w an (some ⟨g, off, none⟩) rs.length c ++ [⟨g, off + i * 21, dC d.kind d.name d.tb d.tm d.th d.td d.frm eA d.ents.length ec a0 a1 a2 a3 a4 a5 a6 a7 a8 bA kn kc d.mode d.num d.den, 93, false⟩], [(1, 0, 1), (4, 1, 0)], _⟩ ((27, .bool (!q)) :: envV w i) (by kernel_rfl) (by kernel_rfl) (by kernel_rfl) (fun e he => ?_) hS (fun X => by kernel_rfl) (by kernel_rfl) fun u3 F3 hB3 => ?_
    · rcases List.mem_append.1 he with he | he
      · exact L.sat.good e he
      · obtain rfl := List.mem_singleton.1 he
        refine ⟨Nat.lt_of_lt_of_le hg B.size, ?_⟩
        rw [if_neg (by simp)]
        intro j v hv
        rw [World.cell?_of_block (w := w) (B.block g hg)]
        exact hc1 j v hv
    clear hS
    replace B := B.trans (hB3.mono B.size)
    replace L := lies_below L hB3
    clear hB3
    refine at_run (cntG 90 (tailT tV6)) (tailT tV6) u3.heap.size _ [] tV7 ((27, .bool (!q)) :: envV w i) u3.heap.size (memV w an (some ⟨g, off, none⟩) rs.length c) L (by kernel_rfl) fun u4 F4 L2 K => ?_
    replace B := below_val B K
    replace L := lies_sz (lies_any L2)
    clear L2 K
    refine at_cond (!q) (by kernel_rfl) (fun hb => ?_) (fun hb => ?_)
    · exact val_end (v := false) B (by kernel_rfl)
    · refine at_run (cntG 90 (elseT tV7)) (elseT tV7) u4.heap.size _ [] (againT tV3) [(1, pt w.heap.size 0), (3, .int .i64 (IntKind.i64.wrap ((i : Int) + 1)))] u4.heap.size (memV w an (some ⟨g, off, none⟩) rs.length c) L (by kernel_rfl) fun u5 F5 L2 K => ?_
      replace B := below_val B K
      replace L := lies_sz (lies_any L2)
      clear L2 K
      have hw2 : IntKind.i64.wrap ((i : Int) + 1) = ((i + 1 : Nat) : Int) := by rw [IntWalk.i64_in _ (by omega)]; omega
      rw [hw2]
      refine again _ _ ⟨F5, i + 1, rfl, hlt', B, L⟩ ?_
      show rs.length - (((i + 1 : Nat) : Int)).toNat < rs.length - ((i : Nat) : Int).toNat
      omega
  · exact val_end (v := true) B (by kernel_rfl)
end
end Go.Proofs.YtpdbkbadjgellaaGreatDoor

namespace Go.Proofs.YtpdbkbadjgellaaGreatDoor
open Go.RowKit
section
set_option maxRecDepth 100000
def signL (op : Int) : ByteArray := bif op == 5 then ⟨#[43]⟩ else bif op == 6 then ⟨#[45]⟩ else bif op == 7 then ⟨#[42]⟩ else bif op == 8 then ⟨#[47]⟩ else bif op == 9 then ⟨#[60]⟩ else bif op == 10 then ⟨#[60, 61]⟩ else bif op == 11 then ⟨#[61]⟩ else bif op == 12 then ⟨#[97, 110, 100]⟩ else ⟨#[111, 114]⟩
theorem signL_size (op : Int) : (signL op).size ≤ 3 := by
  unfold signL
  
  repeat' (first | (show ByteArray.size ⟨_⟩ ≤ 3; decide) | (rw [cond_eq_ite]; split))
noncomputable def codeSign : Code := Tryz.f90.body.getD .skip
noncomputable def tSg0 : List Item := advG [.code codeSign]
noncomputable def tSg1 : List Item := advG (elseT tSg0)
noncomputable def tSg2 : List Item := advG (elseT tSg1)
noncomputable def tSg3 : List Item := advG (elseT tSg2)
noncomputable def tSg4 : List Item := advG (elseT tSg3)
noncomputable def tSg5 : List Item := advG (elseT tSg4)
noncomputable def tSg6 : List Item := advG (elseT tSg5)
noncomputable def tSg7 : List Item := advG (elseT tSg6)

theorem rsign_any (op : Int) (w : World) : Calls Tryz.prog 90 #[.int .i64 op] w fun e w' => e = .returned (.string (signL op)) ∧ Below w.heap.size w w' := by
  generalize hr : signL op = r
  refine calls_at (args := [.int .i64 op]) (fn := Tryz.f90) (c := codeSign) (n := 20) (by kernel_rfl) (by kernel_rfl) (by kernel_rfl) (by kernel_rfl) ?_
  refine at_run (cntG 90 [.code codeSign]) [.code codeSign] w.heap.size [] [] tSg0 [(3, .int .i64 op), (4, .bool (op == 5))] w.heap.size [] (lies_nil w) (by kernel_rfl) fun w0 E0 _ K => ?_
  have B := below_kept K
  clear K
  refine at_cond (op == 5) (by kernel_rfl) (fun h0 => ?_) (fun h0 => ?_)
  · refine at_end [] (.string ⟨#[43]⟩) (fn := Tryz.f90) (by kernel_rfl) (lies_nil w0) (by kernel_rfl) fun w9 hK => ⟨?_, B.trans ((below_kept hK).mono B.size)⟩
    rw [← hr]; simp only [signL, h0]; rfl
  refine at_run (cntG 90 (elseT tSg0)) (elseT tSg0) w0.heap.size [] [] tSg1 [(3, .int .i64 op), (6, .bool (op == 6))] w0.heap.size [] (lies_nil w0) (by kernel_rfl) fun w1 E1 _ K => ?_
  replace B := B.trans ((below_kept K).mono B.size)
  clear K
  refine at_cond (op == 6) (by kernel_rfl) (fun h1 => ?_) (fun h1 => ?_)
  · refine at_end [] (.string ⟨#[45]⟩) (fn := Tryz.f90) (by kernel_rfl) (lies_nil w1) (by kernel_rfl) fun w9 hK => ⟨?_, B.trans ((below_kept hK).mono B.size)⟩
    rw [← hr]; simp only [signL, h0, h1]; rfl
  refine at_run (cntG 90 (elseT tSg1)) (elseT tSg1) w1.heap.size [] [] tSg2 [(3, .int .i64 op), (8, .bool (op == 7))] w1.heap.size [] (lies_nil w1) (by kernel_rfl) fun w2 E2 _ K => ?_
  replace B := B.trans ((below_kept K).mono B.size)
  clear K
  refine at_cond (op == 7) (by kernel_rfl) (fun h2 => ?_) (fun h2 => ?_)
  · refine at_end [] (.string ⟨#[42]⟩) (fn := Tryz.f90) (by kernel_rfl) (lies_nil w2) (by kernel_rfl) fun w9 hK => ⟨?_, B.trans ((below_kept hK).mono B.size)⟩
    rw [← hr]; simp only [signL, h0, h1, h2]; rfl
  refine at_run (cntG 90 (elseT tSg2)) (elseT tSg2) w2.heap.size [] [] tSg3 [(3, .int .i64 op), (10, .bool (op == 8))] w2.heap.size [] (lies_nil w2) (by kernel_rfl) fun w3 E3 _ K => ?_
  replace B := B.trans ((below_kept K).mono B.size)
  clear K
  refine at_cond (op == 8) (by kernel_rfl) (fun h3 => ?_) (fun h3 => ?_)
  · refine at_end [] (.string ⟨#[47]⟩) (fn := Tryz.f90) (by kernel_rfl) (lies_nil w3) (by kernel_rfl) fun w9 hK => ⟨?_, B.trans ((below_kept hK).mono B.size)⟩
    rw [← hr]; simp only [signL, h0, h1, h2, h3]; rfl
  refine at_run (cntG 90 (elseT tSg3)) (elseT tSg3) w3.heap.size [] [] tSg4 [(3, .int .i64 op), (12, .bool (op == 9))] w3.heap.size [] (lies_nil w3) (by kernel_rfl) fun w4 E4 _ K => ?_
  replace B := B.trans ((below_kept K).mono B.size)
  clear K
  refine at_cond (op == 9) (by kernel_rfl) (fun h4 => ?_) (fun h4 => ?_)
  · refine at_end [] (.string ⟨#[60]⟩) (fn := Tryz.f90) (by kernel_rfl) (lies_nil w4) (by kernel_rfl) fun w9 hK => ⟨?_, B.trans ((below_kept hK).mono B.size)⟩
    rw [← hr]; simp only [signL, h0, h1, h2, h3, h4]; rfl
  refine at_run (cntG 90 (elseT tSg4)) (elseT tSg4) w4.heap.size [] [] tSg5 [(3, .int .i64 op), (14, .bool (op == 10))] w4.heap.size [] (lies_nil w4) (by kernel_rfl) fun w5 E5 _ K => ?_
  replace B := B.trans ((below_kept K).mono B.size)
  clear K
  refine at_cond (op == 10) (by kernel_rfl) (fun h5 => ?_) (fun h5 => ?_)
  · refine at_end [] (.string ⟨#[60, 61]⟩) (fn := Tryz.f90) (by kernel_rfl) (lies_nil w5) (by kernel_rfl) fun w9 hK => ⟨?_, B.trans ((below_kept hK).mono B.size)⟩
    rw [← hr]; simp only [signL, h0, h1, h2, h3, h4, h5]; rfl
  refine at_run (cntG 90 (elseT tSg5)) (elseT tSg5) w5.heap.size [] [] tSg6 [(3, .int .i64 op), (16, .bool (op == 11))] w5.heap.size [] (lies_nil w5) (by kernel_rfl) fun w6 E6 _ K => ?_
  replace B := B.trans ((below_kept K).mono B.size)
  clear K
  refine at_cond (op == 11) (by kernel_rfl) (fun h6 => ?_) (fun h6 => ?_)
  · refine at_end [] (.string ⟨#[61]⟩) (fn := Tryz.f90) (by kernel_rfl) (lies_nil w6) (by kernel_rfl) fun w9 hK => ⟨?_, B.trans ((below_kept hK).mono B.size)⟩
    rw [← hr]; simp only [signL, h0, h1, h2, h3, h4, h5, h6]; rfl
  refine at_run (cntG 90 (elseT tSg6)) (elseT tSg6) w6.heap.size [] [] tSg7 [(3, .int .i64 op), (18, .bool (op == 12))] w6.heap.size [] (lies_nil w6) (by kernel_rfl) fun w7 E7 _ K => ?_
  replace B := B.trans ((below_kept K).mono B.size)
  clear K
  refine at_cond (op == 12) (by kernel_rfl) (fun h7 => ?_) (fun h7 => ?_)
  · refine at_end [] (.string ⟨#[97, 110, 100]⟩) (fn := Tryz.f90) (by kernel_rfl) (lies_nil w7) (by kernel_rfl) fun w9 hK => ⟨?_, B.trans ((below_kept hK).mono B.size)⟩
    rw [← hr]; simp only [signL, h0, h1, h2, h3, h4, h5, h6, h7]; rfl
  refine at_end [] (.string ⟨#[111, 114]⟩) (fn := Tryz.f90) (by kernel_rfl) (lies_nil w7) (by kernel_rfl) fun w9 hK => ⟨?_, B.trans ((below_kept hK).mono B.size)⟩
  rw [← hr]; simp only [signL, h0, h1, h2, h3, h4, h5, h6, h7]; rfl
end
end Go.Proofs.YtpdbkbadjgellaaGreatDoor

namespace Go.Proofs.YtpdbkbadjgellaaGreatDoor
open Go.RowKit
section
set_option maxRecDepth 100000
noncomputable def codeModes : Code := Tryz.f58.body.getD .skip
def modeL : List (List UInt8) := [[100, 111, 119, 110], [117, 112], [102, 108, 111, 111, 114], [99, 101, 105, 108, 105, 110, 103], [104, 97, 108, 102, 95, 117, 112], [104, 97, 108, 102, 95, 100, 111, 119, 110], [104, 97, 108, 102, 95, 101, 118, 101, 110]]
def modeCells : List Value := modeL.map (fun l => .string ⟨l.toArray⟩)
theorem rmodes_any (w : World) : Calls Tryz.prog 58 #[] w fun e w' => e = .returned (.slice (some ⟨w.heap.size, 0, none⟩) 7 7) ∧ Below w.heap.size w w' ∧ w'.rangeAt w.heap.size 0 modeCells ∧ w.heap.size < w'.heap.size := by
  refine calls_at (args := []) (fn := Tryz.f58) (c := codeModes) (n := 2) (by kernel_rfl) (by kernel_rfl) (by kernel_rfl) (by kernel_rfl) ?_
  refine at_run (cntG 90 [.code codeModes]) [.code codeModes] w.heap.size [] [] (advG [.code codeModes]) [(0, .slice (some ⟨w.heap.size, 0, none⟩) 7 7)] (w.heap.size + 1) [⟨w.heap.size, 0, modeCells, 9, true⟩] (lies_nil w) (by kernel_rfl) fun w1 E1 L K => ?_
  have B := below_kept K
  have hg := L.sat.good ⟨w.heap.size, 0, modeCells, 9, true⟩ (by simp)
  refine at_ret (fn := Tryz.f58) (by kernel_rfl) (by kernel_rfl) ⟨0, [], (0, 0), []⟩ (fun e he => (by cases he)) (.slice (some ⟨w.heap.size, 0, none⟩) 7 7) (by kernel_rfl) (by kernel_rfl) ⟨rfl, B, ?_, hg.1⟩
  intro j v hv
  exact cell_of_good (a := ⟨w.heap.size, 0 + j, none⟩) hg (by simpa using hv) rfl rfl rfl
end
end Go.Proofs.YtpdbkbadjgellaaGreatDoor

namespace Go.Proofs.YtpdbkbadjgellaaGreatDoor
open Go.RowKit
section
variable {P : Program} {ops : Array Oper} {Q : Exit → Act → World → Prop}
def edgesB (ops : Array Oper) : Bool := (List.range ops.size).all fun i => match ops[i]? with
  | some o => o.after.toList.all fun e => !(Region.binds .any e) || Nat.blt e.on i
  | none => false
theorem ops_of_any (hE : edgesB ops = true) : ∀ (m k : Nat) (listed : Array Bool) (a : Act) (w : World), (∀ i, i < k → listed.getD i false = true) → (∀ i, k ≤ i → i < ops.size → listed.getD i true = false) → listed.size = ops.size → k + m = ops.size → wpAny P .any ops Q m listed a w → wpOps P ops Q (List.range' k m) a w
  | 0, k, listed, a, w, _, _, _, _, h => h.2
  | m + 1, k, listed, a, w, h1, h2, h3, h4, h => by
    rw [List.range'_succ, wpOps_cons]
    have hk : k < ops.size := by omega
    have ho : ops[k]? = some ops[k] := Array.getElem?_eq_getElem hk
    have hr : k ∈ Region.ready .any ops listed := by
      rw [mem_ready]
      refine ⟨h2 k (Nat.le_refl _) hk, ops[k], ho, fun e he hb => h1 _ ?_⟩
      unfold edgesB at hE
      rw [List.all_eq_true] at hE
      have h5 := hE k (List.mem_range.2 hk)
      rw [ho] at h5
      simp only at h5
      rw [List.all_eq_true] at h5
      have h6 := h5 e (by simpa using he)
      rw [hb] at h6
      simp only [Bool.not_true, Bool.false_or] at h6
      exact Nat.le_of_ble_eq_true h6
    refine wpOp_mono (fun a' w' h' => ?_) (h.2 k hr)
    have hks : k < listed.size := by omega
    refine ops_of_any hE m (k + 1) _ a' w' (fun i hi => ?_) (fun i hi hs => ?_) (by rw [Array.size_setIfInBounds]; exact h3) (by omega) h'
    · by_cases e : i = k
      · subst e; simp [hks]
      · rw [getD_set_ne false (Ne.symm e)]; exact h1 i (by omega)
    · rw [getD_set_ne true (show k ≠ i by omega)]; exact h2 i (by omega) hs
variable {f : FuncId} {R : Ending → World → Prop} {n : Nat}
def extB (u u' : World) : Prop := Below u.heap.size u u'
theorem extB_trans (a b c : World) (h : extB a b) (k : extB b c) : extB a c := Below.trans h (Below.mono k h.size)
/-- One region, part by part. -/
theorem at_parts {todo : List Item} {E : Nat → Value} {w : World} (W : Wr) (L : List Loc) (ht : curReg todo = some ops) (hm : P.follows .mixedOrders = true) (hok : (locOk .any ops W (Array.replicate ops.size false) n L && bare ops L) = true) (hE : edgesB ops = true)
    (hlen : ops.size = L.length) (hr : Region.ready .any ops ((L.map (·.idx)).foldl (fun b i => b.setIfInBounds i true) (Array.replicate ops.size false)) = [])
    (hp : PartsE P ops n E W (Below w.heap.size w) extB L L)
    (H : ∀ vals w', Below w.heap.size w w' → heldAll vals w' L → At P f R (tailT todo) (Fr n (finE ops vals (L.map (·.idx)) E)) w') : At P f R todo (Fr n E) w := by
  have key : ∀ u, Below w.heap.size w u → wpAny P .any ops (fun e a w => e = .normal ∧ Mid P f R (tailT todo) a w) ops.size (Array.replicate ops.size false) (Fr n E) u := fun u hu =>
    any_partsE (fuel := 0) hok hu (fun _ => Below.refl _ _) extB_trans hp (by omega) fun vals w' hC _ hall => ⟨hr, rfl, (H vals w' hC hall).mid⟩
  unfold curReg at ht
  split at ht
  · rename_i id ops' d k
    obtain rfl := Option.some.inj ht
    refine at_of_mid ?_ (by simp)
    cases d with
    | true => exact mid_wp (wp_region_any hm (key _ (Below.refl _ _).drew))
    | false =>
      refine Mid.steps (fun cs => .one step_region) (mid_ops ?_)
      rw [List.range_eq_range']
      refine ops_of_any hE _ 0 _ _ w (fun i hi => by omega) (fun i _ hi => by simp [hi]) (by simp) (by omega) (key w (Below.refl _ _))
  · cases ht
/-! ### Parts -/
variable {W : Wr} {L : List Loc} {E : Nat → Value} {w0 : World}
theorem held_mem {B : List Nat} {vals : Nat → Value} {w : World} : ∀ {L : List Loc} {m : Loc}, heldBy B vals w L → m ∈ L → B.contains m.idx = true → m.says (m.deps.map vals) w
  | [], _, _, hm, _ => by cases hm
  | x :: L, m, h, hm, hb => by
    unfold heldBy at h
    rcases List.mem_cons.1 hm with rfl | hm
    · rw [hb] at h; exact h.1
    · split at h
      · exact held_mem h.2 hm hb
      · exact held_mem h hm hb
theorem all_mem {vals : Nat → Value} {w : World} : ∀ {L : List Loc} {m : Loc}, heldAll vals w L → m ∈ L → m.says (m.deps.map vals) w
  | [], _, _, hm => by cases hm
  | x :: L, m, h, hm => by
    rcases List.mem_cons.1 hm with rfl | hm
    · exact h.1
    · exact all_mem h.2 hm
def strL (i : Nat) (B : List Nat) (k : Nat) : Loc := ⟨i, B, [i], fun vs _ => ∃ s : ByteArray, vs = [.string s] ∧ s.size ≤ k⟩
abbrev PB (P : Program) (ops : Array Oper) (n : Nat) (E : Nat → Value) (W : Wr) (w0 : World) (L : List Loc) (l : Loc) : Prop := PartE P ops n E W (Below w0.heap.size w0) extB L l
/-- An operand that is a short text. -/
def StrOf (n : Nat) (E : Nat → Value) (W : Wr) (L : List Loc) (B : List Nat) (x : Operand) (k : Nat) : Prop := ∀ vals u, heldBy B vals u L → ∃ s : ByteArray, evalVE n E W vals x = .string s ∧ s.size ≤ k
theorem StrOf.const (s : ByteArray) {B : List Nat} {k : Nat} (h : Nat.ble s.size k = true) : StrOf n E W L B (.const (.string s)) k := fun _ _ _ => ⟨s, rfl, Nat.le_of_ble_eq_true h⟩
theorem StrOf.tmp {t : Tmp} {j k : Nat} {B Bj : List Nat} (pos : Nat) (hL : L[pos]? = some (strL j Bj k)) (hB : B.contains j = true) (hW : W.of t = some j) : StrOf n E W L B (.tmp t) k := fun vals u h => by
  obtain ⟨s, h1, h2⟩ := held_mem h (List.mem_of_getElem? hL) hB
  refine ⟨s, ?_, h2⟩
  unfold evalVE
  simp only [hW]
  exact (List.cons.inj h1).1
theorem StrOf.exact {t : Tmp} {j k : Nat} {B Bj : List Nat} {s : ByteArray} (pos : Nat) (hL : L[pos]? = some (pureL j Bj (.string s))) (hB : B.contains j = true) (hW : W.of t = some j) (hs : s.size ≤ k) : StrOf n E W L B (.tmp t) k := fun vals u h => by
  have h1 : [vals j] = [.string s] := held_mem h (List.mem_of_getElem? hL) hB
  refine ⟨s, ?_, hs⟩
  unfold evalVE
  simp only [hW]
  exact (List.cons.inj h1).1
theorem StrOf.slot {t : Tmp} {k : Nat} {B : List Nat} {s : ByteArray} (hW : W.of t = none) (he : evE n E (.tmp t) = .string s) (hs : s.size ≤ k) : StrOf n E W L B (.tmp t) k := fun vals u _ => by
  refine ⟨s, ?_, hs⟩
  unfold evalVE
  simp only [hW]
  exact he
theorem val_of {j : Nat} {B Bj : List Nat} {v : Value} {vals : Nat → Value} {u : World} (h : heldBy B vals u L) (pos : Nat) (hL : L[pos]? = some (pureL j Bj v)) (hB : B.contains j = true) : vals j = v := by
  have h1 : [vals j] = [v] := held_mem h (List.mem_of_getElem? hL) hB
  exact (List.cons.inj h1).1
def addOf : Op → Option (Operand × Operand)
  | .binOp .add _ x y _ => some (x, y)
  | _ => none
theorem part_add {i k a b : Nat} {B : List Nat} (x y : Operand) (hop : addOf (ops.getD i default).op = some (x, y)) (hx : StrOf n E W L B x a) (hy : StrOf n E W L B y b) (hk : a + b ≤ k) (hm : Nat.ble (a + b) 4000000000000000000 = true) : PB P ops n E W w0 L (strL i B k) := by
  refine ⟨fun _ _ _ _ _ h => h, fun vals u hC hb => ?_⟩
  obtain ⟨s, h1, h2⟩ := hx vals u hb
  obtain ⟨t, h3, h4⟩ := hy vals u hb
  have hm' := Nat.le_of_ble_eq_true hm
  unfold addOf at hop
  split at hop
  · rename_i T x' y' T' ho
    simp only [Option.some.injEq, Prod.mk.injEq] at hop
    obtain ⟨rfl, rfl⟩ := hop
    refine OpOk.value (v := .string (s ++ t)) (w' := u) (exec_add ho h1 h3 (by rw [show IntKind.i64.max = 9223372036854775807 by decide]; omega)) ⟨hC, Below.refl _ _, s ++ t, ?_, ?_⟩
    · simp [upv, strL]
    · rw [ByteArray.size_append]; omega
  · cases hop
def moveOf : Op → Option Operand
  | .move x | .assign x => some x
  | _ => none
theorem exec_move {o : Oper} {ρ : Operand → Value} {x : Operand} (h : moveOf o.op = some x) (u : World) : (execOp ρ o).run P u = .ok (.value (ρ x)) u := by
  obtain ⟨d, op, ty, ps, af, gd⟩ := o
  cases op <;> first | (cases h; rfl) | cases h
theorem part_move {i k : Nat} {B : List Nat} (x : Operand) (hop : moveOf (ops.getD i default).op = some x) (hx : StrOf n E W L B x k) : PB P ops n E W w0 L (strL i B k) := by
  refine ⟨fun _ _ _ _ _ h => h, fun vals u hC hb => ?_⟩
  obtain ⟨s, h1, h2⟩ := hx vals u hb
  exact OpOk.value (v := .string s) (w' := u) ((exec_move hop u).trans (by rw [h1])) ⟨hC, Below.refl _ _, s, by simp [upv, strL], h2⟩
/-- A call that leaves a short text. -/
def Short (k : Nat) (w : World) (e : Ending) (w' : World) : Prop := (∃ s : ByteArray, e = .returned (.string s) ∧ s.size ≤ k) ∧ Below w.heap.size w w'
theorem callOf_op {o : Oper} {g : FuncId} {xs : List Operand} (h : callOf o = some (g, xs)) : ∃ ats, o.op = .call ⟨.value (.func g), xs.toArray, ats⟩ := by
  unfold callOf at h
  split at h
  · simp only [Option.some.injEq, Prod.mk.injEq] at h
    obtain ⟨rfl, rfl⟩ := h
    exact ⟨_, by simp; rfl⟩
  · cases h
theorem part_call {i k : Nat} {B : List Nat} {g : FuncId} (xs : List Operand) (args : List Value) (hop : callOf (ops.getD i default) = some (g, xs)) (hg : callable P g = true) (ha : ∀ vals u, heldBy B vals u L → xs.map (evalVE n E W vals) = args)
    (hc : ∀ u, Below w0.heap.size w0 u → Calls P g args.toArray u (Short k u)) : PB P ops n E W w0 L (strL i B k) := by
  refine ⟨fun _ _ _ _ _ h => h, fun vals u hC hb => ?_⟩
  obtain ⟨ats, ho⟩ := callOf_op hop
  refine OpOk.call xs (ats := ats) (args := args) ho rfl (ha vals u hb) (run_callable hg _ _) ((hc u hC).mono fun e u' hh => ?_)
  obtain ⟨⟨s, rfl, hs⟩, hB⟩ := hh
  exact ⟨_, rfl, hC.trans (hB.mono hC.size), hB, s, by simp [upv, strL], hs⟩
/-- An operation that reads what is known. -/
theorem part_reads {i : Nat} {B : List Nat} {v : Value} (mem : List Ent) (hint : Nat × Nat) (ks : List (Tmp × Nat × Value)) (hc : (ks.all (fun p => W.of p.1 == some p.2.1)) = true) (hk : ∀ vals u, heldBy B vals u L → KV vals ks) (hg : ∀ e ∈ mem, e.good w0)
    (hv : ∀ vals, (lrun P (execOp (ovr (ks.map (fun p => (p.1, p.2.2))) (evalVE n E W vals)) (ops.getD i default)) ⟨0, mem, hint, []⟩).map (·.1) = some (.value v))
    (he : ∀ vals, ((lrun P (execOp (ovr (ks.map (fun p => (p.1, p.2.2))) (evalVE n E W vals)) (ops.getD i default)) ⟨0, mem, hint, []⟩).map (·.2.eqs.map Prod.fst)) = ((lrun P (execOp (ovr (ks.map (fun p => (p.1, p.2.2))) (evalVE n E W vals)) (ops.getD i default)) ⟨0, mem, hint, []⟩).map (·.2.eqs.map Prod.snd))) :
    PB P ops n E W w0 L (pureL i B v) := by
  refine ⟨fun _ _ _ _ _ h => h, fun vals u hC hb => ?_⟩
  exact OpOk.knownE ks hc (hk vals u hb) (OpOk.reads ⟨0, mem, hint, []⟩ (fun e he => good_below (hg e he) hC) v (hv vals) (he vals) ⟨hC, Below.refl _ _, by simp [upv, pureL]⟩)
/-! ### A new row of texts -/
def rowL (i : Nat) (B : List Nat) (cs : List Value) : Loc := ⟨i, B, [i], fun vs u => ∃ g, vs = [.slice (some ⟨g, 0, none⟩) cs.length cs.length] ∧ g < u.heap.size ∧ u.rangeAt g 0 cs⟩
def cellL (i : Nat) (B : List Nat) (cs : List Value) (m : Nat) : Loc := ⟨i, B, [i], fun vs u => ∃ g, vs = [.pointer (some ⟨g, m, none⟩)] ∧ g < u.heap.size ∧ u.rangeAt g 0 cs⟩
theorem range_keep {u u' : World} {g : Nat} {cs : List Value} (h : Below u.heap.size u u') (hg : g < u.heap.size) (hr : u.rangeAt g 0 cs) : u'.rangeAt g 0 cs := fun j v hj => by
  rw [World.cell?_of_block (w := u) (h.block g hg)]
  exact hr j v hj
theorem row_keep {i : Nat} {B : List Nat} {cs : List Value} {vs : List Value} {u u' : World} (h : Below u.heap.size u u') (hs : (rowL i B cs).says vs u) : (rowL i B cs).says vs u' := by
  obtain ⟨g, h1, h2, h3⟩ := hs
  exact ⟨g, h1, Nat.lt_of_lt_of_le h2 h.size, range_keep h h2 h3⟩
theorem part_row {i : Nat} {B : List Nat} {cs : List Value} {g : FuncId} (hop : callOf (ops.getD i default) = some (g, [])) (hg : callable P g = true) (hc : ∀ u, Calls P g #[] u fun e u' => e = .returned (.slice (some ⟨u.heap.size, 0, none⟩) cs.length cs.length) ∧ Below u.heap.size u u' ∧ u'.rangeAt u.heap.size 0 cs ∧ u.heap.size < u'.heap.size) : PB P ops n E W w0 L (rowL i B cs) := by
  refine ⟨fun vs u u' _ he h => row_keep (i := i) (B := B) he h, fun vals u hC hb => ?_⟩
  obtain ⟨ats, ho⟩ := callOf_op hop
  refine OpOk.call [] (ats := ats) (args := []) ho rfl rfl (run_callable hg _ _) ((hc u).mono fun e u' hh => ?_)
  obtain ⟨rfl, h1, h2, h3⟩ := hh
  exact ⟨_, rfl, hC.trans (h1.mono hC.size), h1, u.heap.size, by simp [upv, rowL], h3, h2⟩
theorem part_cell {i j m : Nat} {B Bj : List Nat} {cs : List Value} {T e : TypeId} (x y : Operand) (t : Tmp) (hop : (ops.getD i default).op = .indexAddr T x y) (hx : x = .tmp t) (pos : Nat) (hL : L[pos]? = some (rowL j Bj cs)) (hB : B.contains j = true) (hW : W.of t = some j)
    (hy : ∀ vals u, heldBy B vals u L → evalVE n E W vals y = .int .i64 (m : Nat)) (hm : m < cs.length) (hT : P.underlying T = some (.slice e)) (hs : (P.info? e).map (·.size) = some 1) : PB P ops n E W w0 L (cellL i B cs m) := by
  refine ⟨fun vs u u' _ he h => ?_, fun vals u hC hb => ?_⟩
  · obtain ⟨g, h1, h2, h3⟩ := h
    exact ⟨g, h1, Nat.lt_of_lt_of_le h2 (Below.size he), range_keep he h2 h3⟩
  · obtain ⟨g, h1, h2, h3⟩ := held_mem hb (List.mem_of_getElem? hL) hB
    have hxv : evalVE n E W vals x = .slice (some ⟨g, 0, none⟩) cs.length cs.length := by
      subst hx
      unfold evalVE
      simp only [hW]
      exact (List.cons.inj h1).1
    refine OpOk.value (v := .pointer (some ⟨g, m, none⟩)) (w' := u) ?_ ⟨hC, Below.refl _ _, g, by simp [upv, cellL], h2, h3⟩
    have := exec_index (w := u) T x y hop hxv (hy vals u hb) hm hT hs
    rw [Nat.mul_one, Nat.zero_add] at this
    exact this
theorem part_word {i j m k : Nat} {B Bj : List Nat} {cs : List Value} {T : TypeId} (x : Operand) (t : Tmp) (hop : (ops.getD i default).op = .load T x) (hx : x = .tmp t) (pos : Nat) (hL : L[pos]? = some (cellL j Bj cs m)) (hB : B.contains j = true) (hW : W.of t = some j) (hc : ∃ s : ByteArray, cs[m]? = some (.string s) ∧ s.size ≤ k) (ha : ∀ u, (isAgg T).run P u = .ok false u) : PB P ops n E W w0 L (strL i B k) := by
  refine ⟨fun _ _ _ _ _ h => h, fun vals u hC hb => ?_⟩
  obtain ⟨g, h1, h2, h3⟩ := held_mem hb (List.mem_of_getElem? hL) hB
  obtain ⟨s, hs1, hs2⟩ := hc
  have hxv : evalVE n E W vals x = .pointer (some ⟨g, m, none⟩) := by
    subst hx
    unfold evalVE
    simp only [hW]
    exact (List.cons.inj h1).1
  have hcell : u.cell? ⟨g, m, none⟩ = some (.string s) := by
    have := h3 m _ hs1
    rwa [Nat.zero_add] at this
  exact OpOk.loadOne T x hop hxv hcell (ha u) ⟨hC, Below.refl _ _, s, by simp [upv, strL], hs2⟩
end
end Go.Proofs.YtpdbkbadjgellaaGreatDoor

/-
  The reference's validDefinition (printed by gen_def.py).
  An append to a row of the call's own, with where the row lies afterwards.
-/
import Derived.Test.YtpdbkbadjgellaaGreatDoorZ17
import Derived.Test.YtpdbkbadjgellaaGreatDoorZ13
import Derived.Laws.Append
import Derived.OwnWalk
namespace Go.Proofs.YtpdbkbadjgellaaGreatDoor
open Go.RowKit
section
set_option maxRecDepth 100000
theorem run_eql_type (w : World) (b b' : Bool) (n d m n' d' m' : Int) : (binOp .eql 87 (.agg #[.bool b, .int .i64 n, .int .i64 d, .int .i64 m]) (.agg #[.bool b', .int .i64 n', .int .i64 d', .int .i64 m'])).run Tryz.prog w = .ok (.bool (b == b' && (n == n' && (d == d' && m == m')))) w := by
  simp [go_sem]
  repeat' split
  all_goals simp_all
noncomputable def codeDef : Code := Tryz.f87.body.getD .skip
noncomputable def tDf1 : List Item := advG [.code codeDef]
noncomputable def tDf2 : List Item := advG (tailT tDf1)
noncomputable def tDf3 : List Item := advG (tailT tDf2)
noncomputable def tDf6 : List Item := advG (tailT tDf3)
noncomputable def tDf7 : List Item := advG (elseT tDf6)
noncomputable def tDf8 : List Item := advG (thenT tDf7)
noncomputable def tDf9 : List Item := advG (elseT tDf7)
noncomputable def tDf10 : List Item := advG (thenT tDf9)
noncomputable def tDf11 : List Item := advG (elseT tDf9)
noncomputable def tDf12 : List Item := advG (thenT tDf11)
noncomputable def tDf13 : List Item := advG (elseT tDf11)
noncomputable def tDf14 : List Item := advG (thenT tDf13)
noncomputable def tDf15 : List Item := advG (tailT tDf14)
noncomputable def tDf16 : List Item := advG (thenT tDf6)
def dC (kind : Int) (dn : List UInt8) (tb : Bool) (tm th td frm : Int) (B : Option Addr) (el ec : Nat) (op num den mu hu du : Int) (nm : List UInt8) (cnt md : Int) (A : Option Addr) (k c : Nat) (mode sn sd : Int) : List Value :=
  [.int .i64 kind, .string ⟨dn.toArray⟩, .bool tb, .int .i64 tm, .int .i64 th, .int .i64 td, .int .i64 frm, .slice B el ec, .int .i64 op, .int .i64 num, .int .i64 den, .int .i64 mu, .int .i64 hu, .int .i64 du, .string ⟨nm.toArray⟩, .int .i64 cnt, .int .i64 md, .slice A k c, .int .i64 mode, .int .i64 sn, .int .i64 sd]
def memD (w : World) (cs : List Value) : List Ent := [⟨w.heap.size, 0, cs, 93, true⟩]
def envD7 (w : World) (kind : Int) (t f e b p : Bool) : List (Nat × Value) := [(1, pt w.heap.size 0), (46, .int .i64 kind), (3, .bool t), (4, .bool f), (5, .bool e), (6, .bool b), (7, .bool p)]
theorem below_def {w wx wy : World} {cs : List Value} (hB : Below w.heap.size w wx) (hK : Kept ((memD w cs).map (·.id)) wx.heap.size wx wy) : Below w.heap.size w wy :=
  ⟨hK.os.trans hB.os, hK.tape.trans hB.tape, hK.output.trans hB.output, Nat.le_trans hB.size hK.size, fun i hi => (hK.block i (by have := hB.size; omega) (by simp [memD]; omega)).trans (hB.block i hi)⟩
section
variable {kind : Int} {dn : List UInt8} {tb : Bool} {tm th td frm : Int} {B : Option Addr} {el ec : Nat} {op num den mu hu du : Int} {nm : List UInt8} {cnt md : Int} {A : Option Addr} {k c : Nat} {mode sn sd : Int} {w : World}

theorem def_last {t f e b p r : Bool} {E : Nat → Value} {wx : World} (hB : Below w.heap.size w wx) (L : Lies ((memD w (dC kind dn tb tm th td frm B el ec op num den mu hu du nm cnt md A k c mode sn sd)).map (·.id)) wx.heap.size wx ⟨wx.heap.size, memD w (dC kind dn tb tm th td frm B el ec op num den mu hu du nm cnt md A k c mode sn sd), (0, 0), []⟩) (hn : dn.length ≤ maxLen) (hr : r = (((((Tk.isName dn && t) && f) && e) && b) && p)) :
    At Tryz.prog 87 (fun e w' => e = .returned (.bool r) ∧ Below w.heap.size w w') tDf16 (Fr 119 (updL E (envD7 w kind t f e b p))) wx := by
  subst hr
  have hS : ∀ sp ∈ [(⟨2, [(102, .string ⟨dn.toArray⟩)], .bool (Tk.isName dn), true⟩ : Sp)], SpecOk Tryz.prog 119 (Below wx.heap.size wx) ((curReg tDf16).getD #[]) sp := by
    intro sp hsp
    simp only [List.mem_cons, List.not_mem_nil, or_false] at hsp
    rcases hsp with rfl
    · exact spec_call 12 [.tmp 102] [.string ⟨dn.toArray⟩] (by kernel_rfl) (by kernel_rfl) (fun E => by kernel_rfl) fun hc y hy => below_call hy (risName_any dn y hn)
  refine at_ghost ((curReg tDf16).getD #[]) ⟨memD w (dC kind dn tb tm th td frm B el ec op num den mu hu du nm cnt md A k c mode sn sd), [(1, 0, 1)], _⟩ [(2, .bool (((((Tk.isName dn && t) && f) && e) && b) && p))] (by kernel_rfl) (by kernel_rfl) (by kernel_rfl) L.sat.good hS (fun X => by kernel_rfl) (by kernel_rfl) fun w2 E2 hB2 => ?_
  have B2 := hB.trans (hB2.mono hB.size)
  refine at_end [] (.bool (((((Tk.isName dn && t) && f) && e) && b) && p)) (fn := Tryz.f87) (by kernel_rfl) (lies_nil w2) (by kernel_rfl) fun w3 hK => ⟨rfl, ?_⟩
  exact B2.trans ((below_kept hK).mono B2.size)

theorem def_arm5 {t f e b p r : Bool} {E : Nat → Value} {wx : World} (hB : Below w.heap.size w wx) (L : Lies ((memD w (dC kind dn tb tm th td frm B el ec op num den mu hu du nm cnt md A k c mode sn sd)).map (·.id)) wx.heap.size wx ⟨wx.heap.size, memD w (dC kind dn tb tm th td frm B el ec op num den mu hu du nm cnt md A k c mode sn sd), (0, 0), []⟩) (hn : dn.length ≤ maxLen)  (hr : r = (((((Tk.isName dn && (t && !tb)) && f) && e) && b) && p)) :
    At Tryz.prog 87 (fun e w' => e = .returned (.bool r) ∧ Below w.heap.size w w') tDf8 (Fr 119 (updL E (envD7 w kind t f e b p))) wx := by
  refine at_ghost ((curReg tDf8).getD #[]) ⟨memD w (dC kind dn tb tm th td frm B el ec op num den mu hu du nm cnt md A k c mode sn sd), [(4, 0, 2)], []⟩ (envD7 w kind ((t && !tb)) (f) (e) (b) (p)) (by kernel_rfl) (by kernel_rfl) (by kernel_rfl) L.sat.good (fun e he => (by cases he)) (fun X => by kernel_rfl) (by kernel_rfl) fun w2 E2 hB2 => ?_
  have B2 := hB.trans (hB2.mono hB.size)
  have L2 := lies_below L hB2
  refine at_run (cntG 90 (tailT tDf8)) (tailT tDf8) w2.heap.size _ [] tDf16 (envD7 w kind ((t && !tb)) (f) (e) (b) (p)) w2.heap.size (memD w (dC kind dn tb tm th td frm B el ec op num den mu hu du nm cnt md A k c mode sn sd)) L2 (by kernel_rfl) fun w3 E3 L3 K => ?_
  replace B2 := below_def B2 K
  replace L2 := lies_sz (lies_any L3)
  exact def_last B2 L2 hn hr

theorem def_arm2 {t f e b p r : Bool} {E : Nat → Value} {wx : World} (hB : Below w.heap.size w wx) (L : Lies ((memD w (dC kind dn tb tm th td frm B el ec op num den mu hu du nm cnt md A k c mode sn sd)).map (·.id)) wx.heap.size wx ⟨wx.heap.size, memD w (dC kind dn tb tm th td frm B el ec op num den mu hu du nm cnt md A k c mode sn sd), (0, 0), []⟩) (hn : dn.length ≤ maxLen) {es : List (Int × Int × Int)} (hel : el = es.length) (hes : rowsS (fun _ => True) w 3 B (es.map entCells)) (hr : r = (((((Tk.isName dn && (t && !tb)) && (decide (0 ≤ frm) && decide (frm ≤ 84005))) && validEntB es) && b) && p)) :
    At Tryz.prog 87 (fun e w' => e = .returned (.bool r) ∧ Below w.heap.size w w') tDf10 (Fr 119 (updL E (envD7 w kind t f e b p))) wx := by
  have hS : ∀ sp ∈ [(⟨9, [(68, .int .i64 frm)], .bool (decide (0 ≤ frm) && decide (frm ≤ 84005)), true⟩ : Sp), ⟨12, [(71, .slice B el ec)], .bool (validEntB es), true⟩], SpecOk Tryz.prog 119 (Below wx.heap.size wx) ((curReg tDf10).getD #[]) sp := by
    intro sp hsp
    simp only [List.mem_cons, List.not_mem_nil, or_false] at hsp
    rcases hsp with rfl | rfl
    · exact spec_call 47 [.tmp 68] [.int .i64 frm] (by kernel_rfl) (by kernel_rfl) (fun E => by kernel_rfl) fun hc y hy => below_call hy (rinDays_any frm y)
    · exact spec_call 115 [.tmp 71] [.slice B el ec] (by kernel_rfl) (by kernel_rfl) (fun E => by kernel_rfl) fun hc y hy => below_call hy (by subst hel; exact rvalidEntries_any es B ec y (hes.keep (hB.trans (hy.mono hB.size)).size (fun g' _ hg' => ⟨trivial, (hB.trans (hy.mono hB.size)).block g' hg'⟩)))
  refine at_ghost ((curReg tDf10).getD #[]) ⟨memD w (dC kind dn tb tm th td frm B el ec op num den mu hu du nm cnt md A k c mode sn sd), [(4, 0, 2), (8, 0, 6), (11, 0, 7)], _⟩ (envD7 w kind ((t && !tb)) ((decide (0 ≤ frm) && decide (frm ≤ 84005))) (validEntB es) (b) (p)) (by kernel_rfl) (by kernel_rfl) (by kernel_rfl) L.sat.good hS (fun X => by kernel_rfl) (by kernel_rfl) fun w2 E2 hB2 => ?_
  have B2 := hB.trans (hB2.mono hB.size)
  have L2 := lies_below L hB2
  refine at_run (cntG 90 (tailT tDf10)) (tailT tDf10) w2.heap.size _ [] tDf16 (envD7 w kind ((t && !tb)) ((decide (0 ≤ frm) && decide (frm ≤ 84005))) (validEntB es) (b) (p)) w2.heap.size (memD w (dC kind dn tb tm th td frm B el ec op num den mu hu du nm cnt md A k c mode sn sd)) L2 (by kernel_rfl) fun w3 E3 L3 K => ?_
  replace B2 := below_def B2 K
  replace L2 := lies_sz (lies_any L3)
  exact def_last B2 L2 hn hr

theorem def_arm3 {t f e b p r : Bool} {E : Nat → Value} {wx : World} (hB : Below w.heap.size w wx) (L : Lies ((memD w (dC kind dn tb tm th td frm B el ec op num den mu hu du nm cnt md A k c mode sn sd)).map (·.id)) wx.heap.size wx ⟨wx.heap.size, memD w (dC kind dn tb tm th td frm B el ec op num den mu hu du nm cnt md A k c mode sn sd), (0, 0), []⟩) (hn : dn.length ≤ maxLen) {x : Ex} (hx : tidy x) (hxs : exS (fun _ => True) w x (exC op num den mu hu du nm cnt md A k c)) (hr : r = (((((Tk.isName dn && t) && (decide (0 ≤ frm) && decide (frm ≤ 84005))) && e) && withinB x 32) && p)) :
    At Tryz.prog 87 (fun e w' => e = .returned (.bool r) ∧ Below w.heap.size w w') tDf12 (Fr 119 (updL E (envD7 w kind t f e b p))) wx := by
  have hS : ∀ sp ∈ [(⟨2, [(76, .int .i64 frm)], .bool (decide (0 ≤ frm) && decide (frm ≤ 84005)), true⟩ : Sp), ⟨5, [(79, .agg (exC op num den mu hu du nm cnt md A k c).toArray)], .bool (withinB x 32), true⟩], SpecOk Tryz.prog 119 (Below wx.heap.size wx) ((curReg tDf12).getD #[]) sp := by
    intro sp hsp
    simp only [List.mem_cons, List.not_mem_nil, or_false] at hsp
    rcases hsp with rfl | rfl
    · exact spec_call 47 [.tmp 76] [.int .i64 frm] (by kernel_rfl) (by kernel_rfl) (fun E => by kernel_rfl) fun hc y hy => below_call hy (rinDays_any frm y)
    · exact spec_call 116 [.tmp 79] [.agg (exC op num den mu hu du nm cnt md A k c).toArray] (by kernel_rfl) (by kernel_rfl) (fun E => by kernel_rfl) fun hc y hy => below_call hy (rvalidExpr_any x _ y hx (exS.keep (hB.trans (hy.mono hB.size)).size (fun g' _ hg' => ⟨trivial, (hB.trans (hy.mono hB.size)).block g' hg'⟩) _ _ hxs))
  refine at_ghost ((curReg tDf12).getD #[]) ⟨memD w (dC kind dn tb tm th td frm B el ec op num den mu hu du nm cnt md A k c mode sn sd), [(1, 0, 6), (4, 0, 8)], _⟩ (envD7 w kind (t) ((decide (0 ≤ frm) && decide (frm ≤ 84005))) (e) (withinB x 32) (p)) (by kernel_rfl) (by kernel_rfl) (by kernel_rfl) L.sat.good hS (fun X => by kernel_rfl) (by kernel_rfl) fun w2 E2 hB2 => ?_
  have B2 := hB.trans (hB2.mono hB.size)
  have L2 := lies_below L hB2
  refine at_run (cntG 90 (tailT tDf12)) (tailT tDf12) w2.heap.size _ [] tDf16 (envD7 w kind (t) ((decide (0 ≤ frm) && decide (frm ≤ 84005))) (e) (withinB x 32) (p)) w2.heap.size (memD w (dC kind dn tb tm th td frm B el ec op num den mu hu du nm cnt md A k c mode sn sd)) L2 (by kernel_rfl) fun w3 E3 L3 K => ?_
  replace B2 := below_def B2 K
  replace L2 := lies_sz (lies_any L3)
  exact def_last B2 L2 hn hr

theorem def_arm4b {t f e b p r : Bool} {E : Nat → Value} {wx : World} (hB : Below w.heap.size w wx) (L : Lies ((memD w (dC kind dn tb tm th td frm B el ec op num den mu hu du nm cnt md A k c mode sn sd)).map (·.id)) wx.heap.size wx ⟨wx.heap.size, memD w (dC kind dn tb tm th td frm B el ec op num den mu hu du nm cnt md A k c mode sn sd), (0, 0), []⟩) (hn : dn.length ≤ maxLen)  (hr : r = (((((Tk.isName dn && t) && f) && e) && b) && ((decide (0 ≤ mode) && decide (mode ≤ 6)) && isStepB sn sd))) :
    At Tryz.prog 87 (fun e w' => e = .returned (.bool r) ∧ Below w.heap.size w w') tDf15 (Fr 119 (updL E (envD7 w kind t f e b p))) wx := by
  have hS : ∀ sp ∈ [(⟨2, [(94, .int .i64 mode)], .bool (decide (0 ≤ mode) && decide (mode ≤ 6)), true⟩ : Sp), ⟨6, [(98, .agg #[.int .i64 sn, .int .i64 sd])], .bool (isStepB sn sd), (decide (0 ≤ mode) && decide (mode ≤ 6)) && true⟩], SpecOk Tryz.prog 119 (Below wx.heap.size wx) ((curReg tDf15).getD #[]) sp := by
    intro sp hsp
    simp only [List.mem_cons, List.not_mem_nil, or_false] at hsp
    rcases hsp with rfl | rfl
    · exact spec_call 117 [.tmp 94] [.int .i64 mode] (by kernel_rfl) (by kernel_rfl) (fun E => by kernel_rfl) fun hc y hy => below_call hy (rmode_any mode y)
    · exact spec_call 118 [.tmp 98] [.agg #[.int .i64 sn, .int .i64 sd]] (by kernel_rfl) (by kernel_rfl) (fun E => by kernel_rfl) fun hc y hy => below_call hy (risStep_any sn sd y)
  refine at_ghost ((curReg tDf15).getD #[]) ⟨memD w (dC kind dn tb tm th td frm B el ec op num den mu hu du nm cnt md A k c mode sn sd), [(1, 0, 18), (5, 0, 19)], _⟩ (envD7 w kind (t) (f) (e) (b) (((decide (0 ≤ mode) && decide (mode ≤ 6)) && isStepB sn sd))) (by kernel_rfl) (by kernel_rfl) (by kernel_rfl) L.sat.good hS (fun X => by kernel_rfl) (by kernel_rfl) fun w2 E2 hB2 => ?_
  have B2 := hB.trans (hB2.mono hB.size)
  have L2 := lies_below L hB2
  refine at_run (cntG 90 (tailT tDf15)) (tailT tDf15) w2.heap.size _ [] tDf16 (envD7 w kind (t) (f) (e) (b) (((decide (0 ≤ mode) && decide (mode ≤ 6)) && isStepB sn sd))) w2.heap.size (memD w (dC kind dn tb tm th td frm B el ec op num den mu hu du nm cnt md A k c mode sn sd)) L2 (by kernel_rfl) fun w3 E3 L3 K => ?_
  replace B2 := below_def B2 K
  replace L2 := lies_sz (lies_any L3)
  exact def_last B2 L2 hn hr

theorem def_arm4 {t f e b p r : Bool} {E : Nat → Value} {wx : World} (hB : Below w.heap.size w wx) (L : Lies ((memD w (dC kind dn tb tm th td frm B el ec op num den mu hu du nm cnt md A k c mode sn sd)).map (·.id)) wx.heap.size wx ⟨wx.heap.size, memD w (dC kind dn tb tm th td frm B el ec op num den mu hu du nm cnt md A k c mode sn sd), (0, 0), []⟩) (hn : dn.length ≤ maxLen) {x : Ex} (hx : tidy x) (hxs : exS (fun _ => True) w x (exC op num den mu hu du nm cnt md A k c)) (hr : r = (((((Tk.isName dn && (tb == false && (tm == 0 && (th == 0 && td == 0)))) && (decide (0 ≤ frm) && decide (frm ≤ 84005))) && e) && withinB x 32) && ((decide (0 ≤ mode) && decide (mode ≤ 6)) && isStepB sn sd))) :
    At Tryz.prog 87 (fun e w' => e = .returned (.bool r) ∧ Below w.heap.size w w') tDf14 (Fr 119 (updL E (envD7 w kind t f e b p))) wx := by
  have hS : ∀ sp ∈ [(⟨3, [(84, .agg #[.bool tb, .int .i64 tm, .int .i64 th, .int .i64 td]), (85, .agg #[.bool false, .int .i64 0, .int .i64 0, .int .i64 0])], .bool (tb == false && (tm == 0 && (th == 0 && td == 0))), true⟩ : Sp), ⟨6, [(88, .int .i64 frm)], .bool (decide (0 ≤ frm) && decide (frm ≤ 84005)), true⟩, ⟨9, [(91, .agg (exC op num den mu hu du nm cnt md A k c).toArray)], .bool (withinB x 32), true⟩], SpecOk Tryz.prog 119 (Below wx.heap.size wx) ((curReg tDf14).getD #[]) sp := by
    intro sp hsp
    simp only [List.mem_cons, List.not_mem_nil, or_false] at hsp
    rcases hsp with rfl | rfl | rfl
    · refine spec_op fun hc E y hy => ?_
      have h1 : (execOp (ovr [(84, .agg #[.bool tb, .int .i64 tm, .int .i64 th, .int .i64 td]), (85, .agg #[.bool false, .int .i64 0, .int .i64 0, .int .i64 0])] (evE 119 E)) (((curReg tDf14).getD #[]).getD 3 default)).run Tryz.prog y = (binOp .eql 87 (.agg #[.bool tb, .int .i64 tm, .int .i64 th, .int .i64 td]) (.agg #[.bool false, .int .i64 0, .int .i64 0, .int .i64 0]) >>= fun v => (pure (.value v) : Sem Next)).run Tryz.prog y := by kernel_rfl
      rw [h1, Sem.run_bind, run_eql_type]
      rfl
    · exact spec_call 47 [.tmp 88] [.int .i64 frm] (by kernel_rfl) (by kernel_rfl) (fun E => by kernel_rfl) fun hc y hy => below_call hy (rinDays_any frm y)
    · exact spec_call 116 [.tmp 91] [.agg (exC op num den mu hu du nm cnt md A k c).toArray] (by kernel_rfl) (by kernel_rfl) (fun E => by kernel_rfl) fun hc y hy => below_call hy (rvalidExpr_any x _ y hx (exS.keep (hB.trans (hy.mono hB.size)).size (fun g' _ hg' => ⟨trivial, (hB.trans (hy.mono hB.size)).block g' hg'⟩) _ _ hxs))
  refine at_ghost ((curReg tDf14).getD #[]) ⟨memD w (dC kind dn tb tm th td frm B el ec op num den mu hu du nm cnt md A k c mode sn sd), [(1, 0, 2), (5, 0, 6), (8, 0, 8)], _⟩ (envD7 w kind ((tb == false && (tm == 0 && (th == 0 && td == 0)))) ((decide (0 ≤ frm) && decide (frm ≤ 84005))) (e) (withinB x 32) (p)) (by kernel_rfl) (by kernel_rfl) (by kernel_rfl) L.sat.good hS (fun X => by kernel_rfl) (by kernel_rfl) fun w2 E2 hB2 => ?_
  have B2 := hB.trans (hB2.mono hB.size)
  have L2 := lies_below L hB2
  refine at_run (cntG 90 (tailT tDf14)) (tailT tDf14) w2.heap.size _ [] tDf15 (envD7 w kind ((tb == false && (tm == 0 && (th == 0 && td == 0)))) ((decide (0 ≤ frm) && decide (frm ≤ 84005))) (e) (withinB x 32) (p)) w2.heap.size (memD w (dC kind dn tb tm th td frm B el ec op num den mu hu du nm cnt md A k c mode sn sd)) L2 (by kernel_rfl) fun w3 E3 L3 K => ?_
  replace B2 := below_def B2 K
  replace L2 := lies_sz (lies_any L3)
  exact def_arm4b B2 L2 hn hr

def defB (kind : Int) (dn : List UInt8) (tb : Bool) (tm th td frm : Int) (el : Nat) (es : List (Int × Int × Int)) (op num den mu hu du : Int) (nm : List UInt8) (cnt md : Int) (k : Nat) (x : Ex) (mode sn sd : Int) : Bool :=
  bif kind == 1 then (((((Tk.isName dn && (isUnitB tm th td && (!tb || (tm == 0 && (th == 0 && td == 0))))) && (frm == 0)) && ((el : Int) == 0)) && (!(diffB op num den mu hu du nm cnt md k))) && ((mode == 0) && (sn == 0 && sd == 0)))
  else bif kind == 5 then (((((Tk.isName dn && ((isUnitB tm th td && (!tb || (tm == 0 && (th == 0 && td == 0)))) && !tb)) && (frm == 0)) && ((el : Int) == 0)) && (!(diffB op num den mu hu du nm cnt md k))) && ((mode == 0) && (sn == 0 && sd == 0)))
  else bif kind == 2 then (((((Tk.isName dn && ((isUnitB tm th td && (!tb || (tm == 0 && (th == 0 && td == 0)))) && !tb)) && (decide (0 ≤ frm) && decide (frm ≤ 84005))) && validEntB es) && (!(diffB op num den mu hu du nm cnt md k))) && ((mode == 0) && (sn == 0 && sd == 0)))
  else bif kind == 3 then (((((Tk.isName dn && (isUnitB tm th td && (!tb || (tm == 0 && (th == 0 && td == 0))))) && (decide (0 ≤ frm) && decide (frm ≤ 84005))) && ((el : Int) == 0)) && withinB x 32) && ((mode == 0) && (sn == 0 && sd == 0)))
  else bif kind == 4 then (((((Tk.isName dn && (tb == false && (tm == 0 && (th == 0 && td == 0)))) && (decide (0 ≤ frm) && decide (frm ≤ 84005))) && ((el : Int) == 0)) && withinB x 32) && ((decide (0 ≤ mode) && decide (mode ≤ 6)) && isStepB sn sd))
  else false
theorem rdef_any (es : List (Int × Int × Int)) (x : Ex) (hn : dn.length ≤ maxLen) (hel : el = es.length) (hes : rowsS (fun _ => True) w 3 B (es.map entCells)) (hx : tidy x) (hxs : exS (fun _ => True) w x (exC op num den mu hu du nm cnt md A k c)) :
    Calls Tryz.prog 87 #[.agg (dC kind dn tb tm th td frm B el ec op num den mu hu du nm cnt md A k c mode sn sd).toArray] w fun e w' => e = .returned (.bool (defB kind dn tb tm th td frm el es op num den mu hu du nm cnt md k x mode sn sd)) ∧ Below w.heap.size w w' := by
  generalize hr : defB kind dn tb tm th td frm el es op num den mu hu du nm cnt md k x mode sn sd = r
  refine calls_at (args := [.agg (dC kind dn tb tm th td frm B el ec op num den mu hu du nm cnt md A k c mode sn sd).toArray]) (fn := Tryz.f87) (c := codeDef) (n := 119) (by kernel_rfl) (by kernel_rfl) (by kernel_rfl) (by kernel_rfl) ?_
  refine at_run (cntG 90 [.code codeDef]) [.code codeDef] w.heap.size [] [] tDf1 [(1, pt w.heap.size 0)] (w.heap.size + 1) (memD w (dC kind dn tb tm th td frm B el ec op num den mu hu du nm cnt md A k c mode sn sd)) (lies_nil w) (by kernel_rfl) fun w1 E1 L K => ?_
  have Bl := below_kept K
  replace L := lies_sz (lies_any L)
  clear K
  have hS : ∀ sp ∈ [(⟨3, [(10, .agg #[.int .i64 tm, .int .i64 th, .int .i64 td])], .bool (isUnitB tm th td), true⟩ : Sp), ⟨14, [(20, .agg #[.int .i64 tm, .int .i64 th, .int .i64 td]), (21, .agg #[.int .i64 0, .int .i64 0, .int .i64 0])], .bool (tm == 0 && (th == 0 && td == 0)), !(!tb) && (isUnitB tm th td && true)⟩], SpecOk Tryz.prog 119 (Below w1.heap.size w1) ((curReg tDf1).getD #[]) sp := by
    intro sp hsp
    simp only [List.mem_cons, List.not_mem_nil, or_false] at hsp
    rcases hsp with rfl | rfl
    · exact spec_call 113 [.tmp 10] [.agg #[.int .i64 tm, .int .i64 th, .int .i64 td]] (by kernel_rfl) (by kernel_rfl) (fun E => by kernel_rfl) fun hc y hy => below_call hy (risUnit_any tm th td y)
    · refine spec_op fun hc E y hy => ?_
      have h1 : (execOp (ovr [(20, .agg #[.int .i64 tm, .int .i64 th, .int .i64 td]), (21, .agg #[.int .i64 0, .int .i64 0, .int .i64 0])] (evE 119 E)) (((curReg tDf1).getD #[]).getD 14 default)).run Tryz.prog y = (binOp .eql 85 (.agg #[.int .i64 tm, .int .i64 th, .int .i64 td]) (.agg #[.int .i64 0, .int .i64 0, .int .i64 0]) >>= fun v => (pure (.value v) : Sem Next)).run Tryz.prog y := by kernel_rfl
      rw [h1, Sem.run_bind, run_eql_unit]
      rfl
  refine at_ghost ((curReg tDf1).getD #[]) ⟨memD w (dC kind dn tb tm th td frm B el ec op num den mu hu du nm cnt md A k c mode sn sd), [(2, 0, 3), (7, 0, 2), (12, 0, 3)], _⟩ [(1, pt w.heap.size 0), (3, .bool (isUnitB tm th td && (!tb || (tm == 0 && (th == 0 && td == 0)))))] (by kernel_rfl) (by kernel_rfl) (by kernel_rfl) L.sat.good hS (fun X => by kernel_rfl) (by kernel_rfl) fun w2 E2 hB2 => ?_
  clear hS
  replace Bl := Bl.trans (hB2.mono Bl.size)
  replace L := lies_below L hB2
  clear hB2
  refine at_run (cntG 90 (tailT tDf1)) (tailT tDf1) w2.heap.size (memD w (dC kind dn tb tm th td frm B el ec op num den mu hu du nm cnt md A k c mode sn sd)) [] tDf2 [(1, pt w.heap.size 0), (3, .bool (isUnitB tm th td && (!tb || (tm == 0 && (th == 0 && td == 0)))))] w2.heap.size (memD w (dC kind dn tb tm th td frm B el ec op num den mu hu du nm cnt md A k c mode sn sd)) L (by kernel_rfl) fun w3 E3 L2 K => ?_
  replace Bl := below_def Bl K
  replace L := lies_sz (lies_any L2)
  clear L2 K
  have hS : ∀ sp ∈ [(⟨10, [(33, .agg (exC op num den mu hu du nm cnt md A k c).toArray), (34, .agg (exC 0 0 0 0 0 0 [] 0 0 none 0 0).toArray)], .bool (!(diffB op num den mu hu du nm cnt md k)), true⟩ : Sp)], SpecOk Tryz.prog 119 (Below w3.heap.size w3) ((curReg tDf2).getD #[]) sp := by
    intro sp hsp
    simp only [List.mem_cons, List.not_mem_nil, or_false] at hsp
    rcases hsp with rfl
    · exact spec_call 114 [.tmp 33, .tmp 34] [.agg (exC op num den mu hu du nm cnt md A k c).toArray, .agg (exC 0 0 0 0 0 0 [] 0 0 none 0 0).toArray] (by kernel_rfl) (by kernel_rfl) (fun E => by kernel_rfl) fun hc y hy => below_call hy (rsame0_any op num den mu hu du nm cnt md A k c y)
  refine at_ghost ((curReg tDf2).getD #[]) ⟨memD w (dC kind dn tb tm th td frm B el ec op num den mu hu du nm cnt md A k c mode sn sd), [(1, 0, 6), (4, 0, 7), (8, 0, 8)], _⟩ [(1, pt w.heap.size 0), (3, .bool (isUnitB tm th td && (!tb || (tm == 0 && (th == 0 && td == 0))))), (4, .bool (frm == 0)), (5, .bool ((el : Int) == 0)), (6, .bool (!(diffB op num den mu hu du nm cnt md k)))] (by kernel_rfl) (by kernel_rfl) (by kernel_rfl) L.sat.good hS (fun X => by kernel_rfl) (by kernel_rfl) fun w4 E4 hB2 => ?_
  clear hS
  replace Bl := Bl.trans (hB2.mono Bl.size)
  replace L := lies_below L hB2
  clear hB2
  refine at_run (cntG 90 (tailT tDf2)) (tailT tDf2) w4.heap.size (memD w (dC kind dn tb tm th td frm B el ec op num den mu hu du nm cnt md A k c mode sn sd)) [] tDf3 [(1, pt w.heap.size 0), (3, .bool (isUnitB tm th td && (!tb || (tm == 0 && (th == 0 && td == 0))))), (4, .bool (frm == 0)), (5, .bool ((el : Int) == 0)), (6, .bool (!(diffB op num den mu hu du nm cnt md k)))] w4.heap.size (memD w (dC kind dn tb tm th td frm B el ec op num den mu hu du nm cnt md A k c mode sn sd)) L (by kernel_rfl) fun w5 E5 L2 K => ?_
  replace Bl := below_def Bl K
  replace L := lies_sz (lies_any L2)
  clear L2 K
  have hS : ∀ sp ∈ [(⟨7, [(41, .agg #[.int .i64 sn, .int .i64 sd]), (42, .agg #[.int .i64 0, .int .i64 0])], .bool (sn == 0 && sd == 0), (mode == 0) && true⟩ : Sp)], SpecOk Tryz.prog 119 (Below w5.heap.size w5) ((curReg tDf3).getD #[]) sp := by
    intro sp hsp
    simp only [List.mem_cons, List.not_mem_nil, or_false] at hsp
    rcases hsp with rfl
    · refine spec_op fun hc E y hy => ?_
      have h1 : (execOp (ovr [(41, .agg #[.int .i64 sn, .int .i64 sd]), (42, .agg #[.int .i64 0, .int .i64 0])] (evE 119 E)) (((curReg tDf3).getD #[]).getD 7 default)).run Tryz.prog y = (binOp .eql 33 (.agg #[.int .i64 sn, .int .i64 sd]) (.agg #[.int .i64 0, .int .i64 0]) >>= fun v => (pure (.value v) : Sem Next)).run Tryz.prog y := by kernel_rfl
      rw [h1, Sem.run_bind, run_eql_ratio]
      rfl
  refine at_ghost ((curReg tDf3).getD #[]) ⟨memD w (dC kind dn tb tm th td frm B el ec op num den mu hu du nm cnt md A k c mode sn sd), [(1, 0, 18), (5, 0, 19)], _⟩ [(1, pt w.heap.size 0), (3, .bool (isUnitB tm th td && (!tb || (tm == 0 && (th == 0 && td == 0))))), (4, .bool (frm == 0)), (5, .bool ((el : Int) == 0)), (6, .bool (!(diffB op num den mu hu du nm cnt md k))), (7, .bool ((mode == 0) && (sn == 0 && sd == 0)))] (by kernel_rfl) (by kernel_rfl) (by kernel_rfl) L.sat.good hS (fun X => by kernel_rfl) (by kernel_rfl) fun w6 E6 hB2 => ?_
  clear hS
  replace Bl := Bl.trans (hB2.mono Bl.size)
  replace L := lies_below L hB2
  clear hB2
  refine at_run (cntG 90 (tailT tDf3)) (tailT tDf3) w6.heap.size (memD w (dC kind dn tb tm th td frm B el ec op num den mu hu du nm cnt md A k c mode sn sd)) [(0, 0)] tDf6 ((47, .bool (kind == 1)) :: envD7 w kind (isUnitB tm th td && (!tb || (tm == 0 && (th == 0 && td == 0)))) (frm == 0) ((el : Int) == 0) (!(diffB op num den mu hu du nm cnt md k)) ((mode == 0) && (sn == 0 && sd == 0))) w6.heap.size (memD w (dC kind dn tb tm th td frm B el ec op num den mu hu du nm cnt md A k c mode sn sd)) L (by kernel_rfl) fun w7 _ L2 K => ?_
  replace Bl := below_def Bl K
  replace L := lies_sz (lies_any L2)
  clear L2 K
  refine at_cond (kind == 1) (by kernel_rfl) (fun h1 => ?_) (fun h1 => ?_)
  · refine at_run (cntG 90 (thenT tDf6)) (thenT tDf6) w7.heap.size (memD w (dC kind dn tb tm th td frm B el ec op num den mu hu du nm cnt md A k c mode sn sd)) [] tDf16 (envD7 w kind (isUnitB tm th td && (!tb || (tm == 0 && (th == 0 && td == 0)))) (frm == 0) ((el : Int) == 0) (!(diffB op num den mu hu du nm cnt md k)) ((mode == 0) && (sn == 0 && sd == 0))) w7.heap.size (memD w (dC kind dn tb tm th td frm B el ec op num den mu hu du nm cnt md A k c mode sn sd)) L (by kernel_rfl) fun w8 _ L2 K => ?_
    replace Bl := below_def Bl K
    replace L := lies_sz (lies_any L2)
    clear L2 K
    exact def_last Bl L hn (by rw [← hr]; simp only [defB, h1]; rfl)
  refine at_run (cntG 90 (elseT tDf6)) (elseT tDf6) w7.heap.size (memD w (dC kind dn tb tm th td frm B el ec op num den mu hu du nm cnt md A k c mode sn sd)) [] tDf7 ((49, .bool (kind == 5)) :: envD7 w kind (isUnitB tm th td && (!tb || (tm == 0 && (th == 0 && td == 0)))) (frm == 0) ((el : Int) == 0) (!(diffB op num den mu hu du nm cnt md k)) ((mode == 0) && (sn == 0 && sd == 0))) w7.heap.size (memD w (dC kind dn tb tm th td frm B el ec op num den mu hu du nm cnt md A k c mode sn sd)) L (by kernel_rfl) fun w8 _ L2 K => ?_
  replace Bl := below_def Bl K
  replace L := lies_sz (lies_any L2)
  clear L2 K
  refine at_cond (kind == 5) (by kernel_rfl) (fun h2 => ?_) (fun h2 => ?_)
  · refine at_run (cntG 90 (thenT tDf7)) (thenT tDf7) w8.heap.size (memD w (dC kind dn tb tm th td frm B el ec op num den mu hu du nm cnt md A k c mode sn sd)) [] tDf8 (envD7 w kind (isUnitB tm th td && (!tb || (tm == 0 && (th == 0 && td == 0)))) (frm == 0) ((el : Int) == 0) (!(diffB op num den mu hu du nm cnt md k)) ((mode == 0) && (sn == 0 && sd == 0))) w8.heap.size (memD w (dC kind dn tb tm th td frm B el ec op num den mu hu du nm cnt md A k c mode sn sd)) L (by kernel_rfl) fun w9 _ L2 K => ?_
    replace Bl := below_def Bl K
    replace L := lies_sz (lies_any L2)
    clear L2 K
    exact def_arm5 Bl L hn (by rw [← hr]; simp only [defB, h1, h2]; rfl)
  refine at_run (cntG 90 (elseT tDf7)) (elseT tDf7) w8.heap.size (memD w (dC kind dn tb tm th td frm B el ec op num den mu hu du nm cnt md A k c mode sn sd)) [] tDf9 ((58, .bool (kind == 2)) :: envD7 w kind (isUnitB tm th td && (!tb || (tm == 0 && (th == 0 && td == 0)))) (frm == 0) ((el : Int) == 0) (!(diffB op num den mu hu du nm cnt md k)) ((mode == 0) && (sn == 0 && sd == 0))) w8.heap.size (memD w (dC kind dn tb tm th td frm B el ec op num den mu hu du nm cnt md A k c mode sn sd)) L (by kernel_rfl) fun w9 _ L2 K => ?_
  replace Bl := below_def Bl K
  replace L := lies_sz (lies_any L2)
  clear L2 K
  refine at_cond (kind == 2) (by kernel_rfl) (fun h3 => ?_) (fun h3 => ?_)
  · refine at_run (cntG 90 (thenT tDf9)) (thenT tDf9) w9.heap.size (memD w (dC kind dn tb tm th td frm B el ec op num den mu hu du nm cnt md A k c mode sn sd)) [] tDf10 (envD7 w kind (isUnitB tm th td && (!tb || (tm == 0 && (th == 0 && td == 0)))) (frm == 0) ((el : Int) == 0) (!(diffB op num den mu hu du nm cnt md k)) ((mode == 0) && (sn == 0 && sd == 0))) w9.heap.size (memD w (dC kind dn tb tm th td frm B el ec op num den mu hu du nm cnt md A k c mode sn sd)) L (by kernel_rfl) fun wa _ L2 K => ?_
    replace Bl := below_def Bl K
    replace L := lies_sz (lies_any L2)
    clear L2 K
    exact def_arm2 Bl L hn hel hes (by rw [← hr]; simp only [defB, h1, h2, h3]; rfl)
  refine at_run (cntG 90 (elseT tDf9)) (elseT tDf9) w9.heap.size (memD w (dC kind dn tb tm th td frm B el ec op num den mu hu du nm cnt md A k c mode sn sd)) [] tDf11 ((73, .bool (kind == 3)) :: envD7 w kind (isUnitB tm th td && (!tb || (tm == 0 && (th == 0 && td == 0)))) (frm == 0) ((el : Int) == 0) (!(diffB op num den mu hu du nm cnt md k)) ((mode == 0) && (sn == 0 && sd == 0))) w9.heap.size (memD w (dC kind dn tb tm th td frm B el ec op num den mu hu du nm cnt md A k c mode sn sd)) L (by kernel_rfl) fun wa _ L2 K => ?_
  replace Bl := below_def Bl K
  replace L := lies_sz (lies_any L2)
  clear L2 K
  refine at_cond (kind == 3) (by kernel_rfl) (fun h4 => ?_) (fun h4 => ?_)
  · refine at_run (cntG 90 (thenT tDf11)) (thenT tDf11) wa.heap.size (memD w (dC kind dn tb tm th td frm B el ec op num den mu hu du nm cnt md A k c mode sn sd)) [] tDf12 (envD7 w kind (isUnitB tm th td && (!tb || (tm == 0 && (th == 0 && td == 0)))) (frm == 0) ((el : Int) == 0) (!(diffB op num den mu hu du nm cnt md k)) ((mode == 0) && (sn == 0 && sd == 0))) wa.heap.size (memD w (dC kind dn tb tm th td frm B el ec op num den mu hu du nm cnt md A k c mode sn sd)) L (by kernel_rfl) fun wb _ L2 K => ?_
    replace Bl := below_def Bl K
    replace L := lies_sz (lies_any L2)
    clear L2 K
    exact def_arm3 Bl L hn hx hxs (by rw [← hr]; simp only [defB, h1, h2, h3, h4]; rfl)
  refine at_run (cntG 90 (elseT tDf11)) (elseT tDf11) wa.heap.size (memD w (dC kind dn tb tm th td frm B el ec op num den mu hu du nm cnt md A k c mode sn sd)) [] tDf13 ((81, .bool (kind == 4)) :: envD7 w kind (isUnitB tm th td && (!tb || (tm == 0 && (th == 0 && td == 0)))) (frm == 0) ((el : Int) == 0) (!(diffB op num den mu hu du nm cnt md k)) ((mode == 0) && (sn == 0 && sd == 0))) wa.heap.size (memD w (dC kind dn tb tm th td frm B el ec op num den mu hu du nm cnt md A k c mode sn sd)) L (by kernel_rfl) fun wb _ L2 K => ?_
  replace Bl := below_def Bl K
  replace L := lies_sz (lies_any L2)
  clear L2 K
  refine at_cond (kind == 4) (by kernel_rfl) (fun h5 => ?_) (fun h5 => ?_)
  · refine at_run (cntG 90 (thenT tDf13)) (thenT tDf13) wb.heap.size (memD w (dC kind dn tb tm th td frm B el ec op num den mu hu du nm cnt md A k c mode sn sd)) [] tDf14 (envD7 w kind (isUnitB tm th td && (!tb || (tm == 0 && (th == 0 && td == 0)))) (frm == 0) ((el : Int) == 0) (!(diffB op num den mu hu du nm cnt md k)) ((mode == 0) && (sn == 0 && sd == 0))) wb.heap.size (memD w (dC kind dn tb tm th td frm B el ec op num den mu hu du nm cnt md A k c mode sn sd)) L (by kernel_rfl) fun wc _ L2 K => ?_
    replace Bl := below_def Bl K
    replace L := lies_sz (lies_any L2)
    clear L2 K
    exact def_arm4 Bl L hn hx hxs (by rw [← hr]; simp only [defB, h1, h2, h3, h4, h5]; rfl)
  · refine at_end (memD w (dC kind dn tb tm th td frm B el ec op num den mu hu du nm cnt md A k c mode sn sd)) (.bool false) (fn := Tryz.f87) (by kernel_rfl) L (by kernel_rfl) fun w9 hK => ⟨?_, below_def Bl hK⟩
    rw [← hr]
    simp only [defB, h1, h2, h3, h4, h5]
    rfl
end
end
end Go.Proofs.YtpdbkbadjgellaaGreatDoor

namespace Go.Proofs.YtpdbkbadjgellaaGreatDoor

theorem append_where {P : Program} {w : World} (base : Nat) (t ty e : TypeId) (i : TypeInfo) (z : Value) (size bytes : Nat) (ht : P.underlying t = some (.slice e)) (hi : P.info? e = some i) (hz : i.zero = some z)
    (hsize : i.size = size) (hby : i.bytes = bytes) (v : Value) (n : Nat) (xs : List Value) (hown : w.ownsRow base e size v n xs)
    (a : Addr) (m c : Nat) (news : List Value) (hl : news.length = m * size) (hnews : ∀ j u, news[j]? = some u → w.cell? (a.add j) = some u) (h1 : ∀ u ∈ news, u.oneCell' = true) (hm : 0 < m)
    (h63 : n + m ≤ maxLen) (hbytes : (n + m) * bytes ≤ 140737488355328) {v' : Value} {w' : World} (hr : (Builtin.append_ #[t, t] ty #[v, .slice (some a) m c]).run P w = .ok v' w') :
    ∀ g, v'.ownBlock = some g → v.ownBlock = some g ∨ w.heap.size ≤ g := by
  subst hsize
  subst hby
  have hsmall : n + m ≤ 9223372036854775807 := by simp only [maxLen] at h63; omega
  rcases hown.2 with ⟨rfl, rfl⟩ | ⟨g, cap, cur, rfl, hbg, hg, hnc, hcm, hcs, htake⟩
  · have hr2 := run_append_nil (P := P) w t ty e i z ht hi hz a m c news hl hnews hm (by omega) (by have hb := hbytes; simp only [Nat.zero_add] at hb; omega)
    rw [hr] at hr2
    injection hr2 with e1 e2
    intro k hk
    rw [e1] at hk
    simp [Value.ownBlock] at hk
    right; omega
  · by_cases hroom : n + m ≤ cap
    · have hfit : n * i.size + news.length ≤ cur.size := by rw [hl, hcs, ← Nat.add_mul]; exact Nat.mul_le_mul_right _ hroom
      have hr2 := run_append_room (P := P) w t ty e i ht hi g n cap cur hg a m c news hl hnews h1 hroom hfit
      rw [hr] at hr2
      injection hr2 with e1 e2
      intro k hk
      rw [e1] at hk
      left
      simpa [Value.ownBlock] using hk
    · have holds : ∀ j u, xs[j]? = some u → w.cell? ((⟨g, 0, none⟩ : Addr).add j) = some u := hown.cells (g := g) rfl
      have hr2 := run_append_grow (P := P) w t ty e i z ht hi hz ⟨g, 0, none⟩ n cap xs hown.1 holds a m c news hl hnews (by omega) (by omega) (growslice_fits (by omega) hbytes)
      rw [hr] at hr2
      injection hr2 with e1 e2
      intro k hk
      rw [e1] at hk
      simp [Value.ownBlock] at hk
      right; omega
theorem wp_append {P : Program} {w : World} {o : Oper} {a : Act} {K : Act → World → Prop} {Q : Exit → Act → World → Prop} (s x : Operand) (t : TypeId)
    (ho : o.op = .call { callee := .builtin .append, args := #[s, x], argTypes := #[t, t] })
    (base : Nat) (e : TypeId) {z : Value} {size bytes : Nat} (ht : P.underlying t = some (.slice e)) (hinfo : (P.info? e).map (fun i => (i.zero, i.size, i.bytes)) = some (some z, size, bytes)) (hzs : z.cells.size = size) (hsz : 0 < size)
    (v : Value) (n : Nat) (xs : List Value) (hs : a.eval s = v) (hown : w.ownsRow base e size v n xs)
    (ad : Addr) (m c : Nat) (news : List Value) (hx : a.eval x = .slice (some ad) m c) (hl : news.length = m * size) (hnews : ∀ j u, news[j]? = some u → w.cell? (ad.add j) = some u) (h1 : ∀ u ∈ news, u.oneCell' = true) (hm : 0 < m)
    (h63 : n + m ≤ maxLen) (hbytes : (n + m) * bytes ≤ 140737488355328) (hbase : base ≤ w.heap.size)
    (h : ∀ v' w', w'.ownsRow base e size v' (n + m) (xs ++ news) → w.grownBy w' v.ownBlock → (∀ g, v'.ownBlock = some g → v.ownBlock = some g ∨ w.heap.size ≤ g) → K (a.put o.dst v') w') : o.wp P a w K Q := by
  obtain ⟨i, hi, hz, hsize, hby⟩ := info_parts hinfo
  obtain ⟨v', w', hr, h2, h3, h4⟩ := run_append_own (P := P) w base t o.type e i z size bytes ht hi hz hsize hby hzs hsz v n xs hown ad m c news hl hnews h1 h63 hbytes hbase
  have hw := append_where base t o.type e i z size bytes ht hi hz hsize hby v n xs hown ad m c news hl hnews h1 hm h63 hbytes hr
  unfold Oper.wp execOp
  simp only [ho, resolve, invoke, builtin, Sem.run_bind, Sem.run_pure, Result.andThen_ok, List.map_toArray, List.map_cons, List.map_nil, hs, hx, hr]
  exact h v' w' h2 h3 hw
end Go.Proofs.YtpdbkbadjgellaaGreatDoor

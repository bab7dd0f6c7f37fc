/-
  What the rows' listed variables give, and a world for a witness.
-/
import Derived.Test.YtpdbkbadjgellaaDoorCards
import Derived.Test.YtpdbkbadjgellaaDoorTie
import Derived.Test.YtpdbkbadjgellaaDoorTkZ
import Derived.WalkKit
import Derived.ProofKit
import Derived.OpenShut
import Derived.Deep.DeepHandedRow
import Derived.Lib.LaidTab
import Derived.Stop.LaidErr
namespace Go.Proofs.YtpdbkbadjgellaaDoor
open Go.ChangeShapes Go.WideShapes Go.ChangeAt Go.RowKit

theorem ownKnobNone : ownKnob Tryd.prog.godebug = none := by kernel_rfl

/-- The cells of a datum of numbers, at most three deep. -/
def litCells : DataW Unit → List Value
  | .lit (.int k n) => [.int k n]
  | .agg xs => xs.flatMap fun
    | .lit (.int k n) => [.int k n]
    | .agg ys => ys.flatMap fun
      | .lit (.int k n) => [.int k n]
      | _ => []
    | _ => []
  | _ => []
def setRow (cs : Array Value) : Obj → Obj
  | .cells _ t frozen => .cells cs t frozen
  | o => o

section
variable {H : Type} {enc : TypeId × Value → H} {P : Program}
/-- The row's last step where all old memory is as it was. -/
theorem post_of_below {f : Func} {s : ChangeSpec} {apart fresh handsOn again : Bool} {W W' : World} {args : Array Value} {v : Value} {ds gs : List (DataW H)} {before pa pv : List MemPlace}
    (hW : DataW.Whole enc P f.params.toList s.vars apart W args.toList ds gs before)
    (hres : ∀ (b : Nat) (sp : Nat → Bool) (hd : Bool), DataW.TrodAll enc P W' b sp hd f.resultTypes.toList (v.resultList f.resultTypes.size) (s.fn H (ds ++ gs)).results [])
    (hargs : ∀ sp : Nat → Bool, (∀ p ∈ before, sp p.block = true) → DataW.TrodAll enc P W' 0 sp true f.params.toList args.toList (s.fn H (ds ++ gs)).args pa)
    (hvars : ∀ sp : Nat → Bool, (∀ p ∈ before, sp p.block = true) → DataW.TrodVars enc P W' sp s.vars (s.fn H (ds ++ gs)).vars pv)
    (hps : before = pa ++ pv) (hb : Below W.heap.size W W')
    (hok : ∀ (j : Nat) (t : TypeId) (r : Value), f.resultTypes[j]? = some t → (v.resultList f.resultTypes.size)[j]? = some r → Value.okWide P W' .any 0 t r) :
    s.post enc P f apart fresh handsOn again W args v W' := by
  have hlt : ∀ p ∈ before, p.block < W.heap.size := fun p hp => hW.lt p hp
  have hold : ∀ p ∈ before, (fun b => decide (b < W.heap.size)) p.block = true := fun p hp => by simpa using hlt p hp
  refine ⟨ds, gs, before, [], pa, pv, hW, hres _ _ _, hargs _ hold, hvars _ hold, World.keptBut_mono (fun p hp => ⟨hp, ?_⟩) (hb.frame (· ∈ before)), fun _ => ?_⟩
  · rw [hps, List.mem_append] at hp
    exact Or.inr hp
  · obtain ⟨_, _, _, _, _, hz, hn⟩ := hW
    refine ⟨hok, _, _, ([] ++ pa) ++ pv, ⟨[] ++ pa, pv, trodAll_append (hargs _ (fun _ _ => rfl)) (hres _ _ _), hvars _ (fun _ _ => rfl), rfl, ?_, ?_⟩, ?_⟩
    · intro b off hp
      have hin : MemPlace.cell b off ∈ before := by rw [hps]; simpa using hp
      rw [hb.frozen (hlt _ hin)]
      exact hz b off hin
    · intro ha
      have := hn ha
      rw [hps] at this
      simpa using this
    · intro p hp _
      rw [hps]
      simpa using hp
end

/-- One listed variable laid into a heap. -/
noncomputable def layOne (h : Array Obj) (x : String × DataW Unit) : Array Obj :=
  match Tryd.prog.globalNamed x.1 with
  | some g => h.modify g (setRow (litCells x.2).toArray)
  | none => h
theorem gLen : Tryd.prog.globalNamed "payroll/calendar.lengths" = some 0 := by kernel_rfl
theorem gLenType : (Tryd.prog.globals[0]?).map (·.type) = some 102 := by kernel_rfl
theorem gPowType : (Tryd.prog.globals[2]?).map (·.type) = some 110 := by kernel_rfl
theorem cellsLen : Tryd.prog.cellsOf 102 = 12 := by kernel_rfl
theorem cellsPow : Tryd.prog.cellsOf 110 = 20 := by kernel_rfl
theorem cellsInt : Tryd.prog.cellsOf 3 = 1 := by kernel_rfl
theorem cellsU64 : Tryd.prog.cellsOf 94 = 1 := by kernel_rfl

theorem pow_of {W : World} {rest : List (String × DataW Unit)} (h : laidMet Tryd.prog (("internal/strconv.uint64pow10", Rows.laid_internal_strconv_uint64pow10) :: rest) W) : Pow W :=
  Lib.tabIs_of_head (rest := rest) gPow gPowType Tryd.underlying110 Tryd.underlying94 cellsU64 cellsPow h
theorem lens_of {W : World} {rest : List (String × DataW Unit)} (h : laidMet Tryd.prog (("payroll/calendar.lengths", Rows.laid_payroll_calendar_lengths) :: rest) W) : Lens W := by
  have ht : Lib.TabIs Tryd.prog W "payroll/calendar.lengths" .i64 [31, 28, 31, 30, 31, 30, 31, 31, 30, 31, 30, 31] :=
    Lib.tabIs_of_head (rest := rest) gLen gLenType Tryd.underlying102 Tryd.underlying3 cellsInt cellsLen h
  intro m h1 h2
  have hc := ht.cell gLen (m - 1) (by simp; omega)
  rw [hc]
  have : m = 1 ∨ m = 2 ∨ m = 3 ∨ m = 4 ∨ m = 5 ∨ m = 6 ∨ m = 7 ∨ m = 8 ∨ m = 9 ∨ m = 10 ∨ m = 11 ∨ m = 12 := by omega
  rcases this with rfl | rfl | rfl | rfl | rfl | rfl | rfl | rfl | rfl | rfl | rfl | rfl <;> rfl
end Go.Proofs.YtpdbkbadjgellaaDoor

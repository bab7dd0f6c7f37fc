/-
  Memory where the console's laws begin, and the functions that are told by contracts.
  What a listed variable of numbers and texts lays into memory, cell for cell.
  Rows of the console's laws: a world for a witness, the last step, what the listed variables give.
  The console's example runs to true.
  copyCheck of strings.Builder over this program.
-/
import Derived.Test.YtdcbnkimjhefkaaGreatDoorZ29
import Derived.Test.YtdcbnkimjhefkaaGreatDoorZ28
import Derived.Lib.LaidTab
import Derived.Stop.LaidErr
import Derived.Test.YtdcbnkimjhefkaaGreatDoorCards
import Derived.Test.YtdcbnkimjhefkaaGreatDoorZ02
import Derived.WalkKit
import Derived.ProofKit
import Derived.OpenShut
import Derived.Deep.DeepHandedRow
import Derived.Test.YtdcbnkimjhefkaaGreatDoorProg
import Derived.Shelf.Strings.Builder1
namespace Go.Proofs.YtdcbnkimjhefkaaGreatDoor
noncomputable def formsL : List Value := [.string ⟨⟨[104, 105, 114, 101]⟩⟩, .int .i64 1, .int .i64 1, .string ⟨⟨[69, 68]⟩⟩, .string ⟨⟨[108, 101, 97, 118, 101]⟩⟩, .int .i64 1, .int .i64 2, .string ⟨⟨[69, 68]⟩⟩, .string ⟨⟨[105, 110, 112, 117, 116]⟩⟩, .int .i64 1, .int .i64 3, .string ⟨⟨[69, 78, 68, 86]⟩⟩, .string ⟨⟨[104, 111, 117, 114, 115]⟩⟩, .int .i64 1, .int .i64 4, .string ⟨⟨[69, 78, 68, 86]⟩⟩, .string ⟨⟨[97, 103, 114, 101, 101, 109, 101, 110, 116]⟩⟩, .int .i64 1, .int .i64 5, .string ⟨⟨[68]⟩⟩, .string ⟨⟨[114, 117, 108, 101, 115]⟩⟩, .int .i64 1, .int .i64 6, .string ⟨⟨[68, 86]⟩⟩, .string ⟨⟨[100, 101, 112, 101, 110, 100, 101, 110, 116, 115]⟩⟩, .int .i64 1, .int .i64 7, .string ⟨⟨[69, 68, 86]⟩⟩, .string ⟨⟨[111, 114, 100, 101, 114]⟩⟩, .int .i64 1, .int .i64 8, .string ⟨⟨[69, 78, 68, 86, 88, 82]⟩⟩, .string ⟨⟨[100, 101, 100, 117, 99, 116, 105, 111, 110]⟩⟩, .int .i64 1, .int .i64 9, .string ⟨⟨[69, 78, 68, 86, 88, 82]⟩⟩, .string ⟨⟨[112, 114, 101, 112, 97, 114, 101]⟩⟩, .int .i64 2, .int .i64 0, .string ⟨⟨[80]⟩⟩, .string ⟨⟨[114, 101, 108, 101, 97, 115, 101]⟩⟩, .int .i64 3, .int .i64 0, .string ⟨⟨[]⟩⟩, .string ⟨⟨[112, 97, 121]⟩⟩, .int .i64 4, .int .i64 0, .string ⟨⟨[]⟩⟩, .string ⟨⟨[114, 101, 118, 101, 114, 115, 101]⟩⟩, .int .i64 5, .int .i64 0, .string ⟨⟨[]⟩⟩, .string ⟨⟨[99, 114, 97, 115, 104]⟩⟩, .int .i64 6, .int .i64 0, .string ⟨⟨[87, 84, 83]⟩⟩]
noncomputable def H0 : AH := ⟨(.nd (.nd (.nd (.nd .lf (some ⟨none, .dead⟩) .lf) (some ⟨none, .dead⟩) (.nd .lf (some ⟨none, .dead⟩) .lf)) (some ⟨none, .dead⟩) (.nd (.nd .lf (some ⟨none, .dead⟩) .lf) (some ⟨none, .dead⟩) .lf)) (some ⟨some (0, 56), .cells 194 formsL⟩) (.nd (.nd (.nd .lf (some ⟨none, .dead⟩) .lf) (some ⟨none, .dead⟩) .lf) (some ⟨none, .dead⟩) (.nd (.nd .lf (some ⟨none, .dead⟩) .lf) (some ⟨none, .dead⟩) .lf))), 12⟩
noncomputable def orcC : Orc := fun g => match Nat.beq g 68 with
  | true => some (copyCheckF 89)
  | false => match Nat.beq g 38 with
    | true => some (stringF 5)
    | false => match Nat.beq g 97 with
      | true => some (sortedF 3 [147, 206])
      | false => none
end Go.Proofs.YtdcbnkimjhefkaaGreatDoor

namespace Go.Proofs.YtdcbnkimjhefkaaGreatDoor
noncomputable def catO : List (Option (List Value)) → Option (List Value)
  | [] => some []
  | some x :: l => match catO l with
    | some r => some (x ++ r)
    | none => none
  | none :: _ => none
/-- Places one behind the other: sizes out of a list. -/
noncomputable def placesOk : Nat → List (Nat × Nat) → Nat → Bool
  | o, [], n => Nat.beq o n
  | o, (off, sz) :: l, n => Nat.beq off o && placesOk (o + sz) l n
noncomputable def flat (P : Program) : Nat → TypeId → DataW Unit → Option (List Value)
  | 0, _, _ => none
  | fuel + 1, t, d => match P.underlying t, d with
    | some .bool, .lit (.bool b) => some [.bool b]
    | some (.int _), .lit (.int k n) => some [.int k n]
    | some .string, .lit (.string s) => some [.string ⟨⟨s⟩⟩]
    | some (.struct fs), .agg ds => match placesOk 0 (fs.toList.map fun f => (f.offset, P.cellsOf f.type)) (P.cellsOf t) with
      | true => catO ((fs.toList.zip ds).map fun x => flat P fuel x.1.type x.2)
      | false => none
    | some (.array n e), .agg ds => match Nat.beq (n * P.cellsOf e) (P.cellsOf t) with
      | true => catO (ds.map fun x => flat P fuel e x)
      | false => none
    | _, _ => none
theorem catO_cons {x : Option (List Value)} {l : List (Option (List Value))} {r : List Value} (h : catO (x :: l) = some r) : ∃ a b, x = some a ∧ catO l = some b ∧ r = a ++ b := by
  cases x with
  | none => cases h
  | some a =>
    unfold catO at h
    split at h
    · rename_i b hb; exact ⟨a, b, rfl, hb, (Option.some.inj h).symm⟩
    · cases h
theorem take_drop_next (cs : List Value) (o m n : Nat) : (cs.drop o).take (m + n) = (cs.drop o).take m ++ (cs.drop (o + m)).take n := by
  rw [List.take_add, List.drop_drop]
theorem flat_trod {P : Program} {w : World} {base : Nat} {sp : Nat → Bool} {enc : TypeId × Value → Unit} : ∀ (k fuel : Nat) (t : TypeId) (cs : List Value) (d : DataW Unit) (p : List MemPlace) (xs : List Value), DataW.trod enc P w base sp false fuel t cs = some (d, p) → flat P k t d = some xs → cs = xs
  | 0, _, _, _, _, _, _, _, h => by cases h
  | k + 1, 0, _, _, _, _, _, h, _ => by cases h
  | k + 1, fuel + 1, t, cs, d, p, xs, h, hf => by
    have ih := flat_trod (P := P) (w := w) (base := base) (sp := sp) (enc := enc) k fuel
    unfold flat at hf
    split at hf
    · rename_i b hu
      simp only [DataW.trod, hu] at h
      obtain rfl := Option.some.inj hf
      split at h <;> simp_all
    · rename_i k1 k2 n hu
      simp only [DataW.trod, hu] at h
      obtain rfl := Option.some.inj hf
      split at h <;> simp_all
    · rename_i s hu
      simp only [DataW.trod, hu] at h
      obtain rfl := Option.some.inj hf
      split at h <;> simp_all
      obtain ⟨h1, h2, _⟩ := h
      subst h2
      rfl
    · rename_i fs ds hu
      simp only [DataW.trod, hu] at h
      split at hf
      · rename_i hp
        split at h
        · rename_i hl
          rw [Option.map_eq_some_iff] at h
          obtain ⟨ys, hy, he⟩ := h
          simp only [Prod.mk.injEq, DataW.agg.injEq] at he
          obtain ⟨rfl, _⟩ := he
          have key : ∀ (l : List Field) (ys : List (DataW Unit × List MemPlace)) (o : Nat) (r : List Value), l.mapM (fun f => DataW.trod enc P w base sp false fuel f.type ((cs.drop f.offset).take (P.cellsOf f.type))) = some ys → placesOk o (l.map fun f => (f.offset, P.cellsOf f.type)) (P.cellsOf t) = true → catO ((l.zip (ys.map (·.1))).map fun x => flat P k x.1.type x.2) = some r → o ≤ P.cellsOf t ∧ (cs.drop o).take (P.cellsOf t - o) = r := by
            intro l
            induction l with
            | nil =>
              intro ys o r h1 h2 h3
              have : o = P.cellsOf t := Nat.eq_of_beq_eq_true h2
              subst this
              obtain rfl := Option.some.inj h3
              exact ⟨Nat.le_refl _, by simp⟩
            | cons f l ihl =>
              intro ys o r h1 h2 h3
              simp only [List.mapM_cons, Option.bind_eq_bind, Option.bind_eq_some_iff, Option.pure_def, Option.some.injEq] at h1
              obtain ⟨y, hy1, ys', hy2, rfl⟩ := h1
              unfold placesOk at h2
              simp only [List.map_cons, Bool.and_eq_true] at h2
              have ho : f.offset = o := Nat.eq_of_beq_eq_true h2.1
              simp only [List.map_cons, List.zip_cons_cons] at h3
              obtain ⟨a, b, q1, q2, rfl⟩ := catO_cons h3
              obtain ⟨g1, g2⟩ := ihl ys' (o + P.cellsOf f.type) b hy2 h2.2 q2
              have hya := ih f.type _ y.1 y.2 a hy1 q1
              refine ⟨by omega, ?_⟩
              rw [show P.cellsOf t - o = P.cellsOf f.type + (P.cellsOf t - (o + P.cellsOf f.type)) by omega, take_drop_next, g2, ← hya, ho]
          obtain ⟨_, g⟩ := key fs.toList ys 0 xs hy hp hf
          rw [← g, Nat.sub_zero, List.drop_zero, ← hl, List.take_length]
        · cases h
      · cases hf
    · rename_i n e ds hu
      simp only [DataW.trod, hu] at h
      split at hf
      · rename_i hp
        have hp' : n * P.cellsOf e = P.cellsOf t := Nat.eq_of_beq_eq_true hp
        split at h
        · rename_i hl
          rw [Option.map_eq_some_iff] at h
          obtain ⟨ys, hy, he⟩ := h
          simp only [Prod.mk.injEq, DataW.agg.injEq] at he
          obtain ⟨rfl, _⟩ := he
          have key : ∀ (m o : Nat) (ys : List (DataW Unit × List MemPlace)) (r : List Value), (List.range' o m).mapM (fun i => DataW.trod enc P w base sp false fuel e ((cs.drop (i * P.cellsOf e)).take (P.cellsOf e))) = some ys → catO ((ys.map (·.1)).map fun x => flat P k e x) = some r → (cs.drop (o * P.cellsOf e)).take (m * P.cellsOf e) = r := by
            intro m
            induction m with
            | zero =>
              intro o ys r h1 h3
              simp at h1
              subst h1
              obtain rfl := Option.some.inj h3
              simp
            | succ m ihm =>
              intro o ys r h1 h3
              rw [List.range'_succ] at h1
              simp only [List.mapM_cons, Option.bind_eq_bind, Option.bind_eq_some_iff, Option.pure_def, Option.some.injEq] at h1
              obtain ⟨y, hy1, ys', hy2, rfl⟩ := h1
              simp only [List.map_cons] at h3
              obtain ⟨a, b, q1, q2, rfl⟩ := catO_cons h3
              have g2 := ihm (o + 1) ys' b hy2 q2
              have hya := ih e _ y.1 y.2 a hy1 q1
              rw [show (m + 1) * P.cellsOf e = P.cellsOf e + m * P.cellsOf e by rw [Nat.add_mul]; omega, take_drop_next, ← hya]
              rw [show o * P.cellsOf e + P.cellsOf e = (o + 1) * P.cellsOf e by rw [Nat.add_mul]; omega, g2]
          have g := key n 0 ys xs (by rw [← List.range_eq_range']; exact hy) hf
          rw [← g, Nat.zero_mul, List.drop_zero, hp', ← hl, List.take_length]
        · cases h
      · cases hf
    · cases hf
/-- The variable that stands first on the list. -/
theorem laid_head {P : Program} {W : World} {name : String} {d : DataW Unit} {rest : List (String × DataW Unit)} (k : Nat) {g : Nat} {t : TypeId} {xs : List Value} (hg : P.globalNamed name = some g) (hty : (P.globals[g]?).map (·.type) = some t) (hf : flat P k t d = some xs) (h : laidMet P ((name, d) :: rest) W) : ∀ j v, xs[j]? = some v → W.cell? ⟨g, j, none⟩ = some v := by
  obtain ⟨ps, hv, _, _⟩ := h
  obtain ⟨g', t', cs, fuel, p, q, h1, h2, h3, h4, _, _⟩ := hv
  rw [hg] at h1
  obtain rfl := Option.some.inj h1
  rw [hty] at h2
  obtain rfl := Option.some.inj h2
  have hx := flat_trod k fuel t cs.toList d p xs h4 hf
  unfold World.var? at h3
  rw [hg] at h3
  simp only [Option.bind_some] at h3
  split at h3
  · rename_i C T fr hb
    obtain rfl := Option.some.inj h3
    intro j v hj
    unfold World.cell?
    simp only [hb]
    rw [← hx] at hj
    simpa using hj
  · cases h3
end Go.Proofs.YtdcbnkimjhefkaaGreatDoor

namespace Go.Proofs.YtdcbnkimjhefkaaGreatDoor
open Go.ChangeShapes Go.WideShapes Go.ChangeAt Go.RowKit

theorem ownKnobNone : ownKnob Tryz.prog.godebug = none := by kernel_rfl

/-- The cells of a datum of numbers, at most three deep. -/
def litCells : DataW Unit → List Value
  | .lit (.int k n) => [.int k n]
  | .lit (.string s) => [.string ⟨s.toArray⟩]
  | .agg xs => xs.flatMap fun
    | .lit (.int k n) => [.int k n]
    | .lit (.string s) => [.string ⟨s.toArray⟩]
    | .agg ys => ys.flatMap fun
      | .lit (.int k n) => [.int k n]
      | .lit (.string s) => [.string ⟨s.toArray⟩]
      | _ => []
    | _ => []
  | _ => []
def setRow (cs : Array Value) : Obj → Obj
  | .cells _ t frozen => .cells cs t frozen
  | o => o

section
variable {H : Type} {enc : TypeId × Value → H} {P : Program}
/-- The row's last step where all old memory is as it was. -/
theorem post_of_below {f : Func} {s : ChangeSpec} {apart fresh handsOn again : Bool} {W W' : World} {args : Array Value} {v : Value} {ds gs : List (DataW H)} {before pa pv : List MemPlace}
    (hW : DataW.Whole enc P f.params.toList s.vars apart W args.toList ds gs before)
    (hres : ∀ (b : Nat) (sp : Nat → Bool) (hd : Bool), DataW.TrodAll enc P W' b sp hd f.resultTypes.toList (v.resultList f.resultTypes.size) (s.fn H (ds ++ gs)).results [])
    (hargs : ∀ sp : Nat → Bool, (∀ p ∈ before, sp p.block = true) → DataW.TrodAll enc P W' 0 sp true f.params.toList args.toList (s.fn H (ds ++ gs)).args pa)
    (hvars : ∀ sp : Nat → Bool, (∀ p ∈ before, sp p.block = true) → DataW.TrodVars enc P W' sp s.vars (s.fn H (ds ++ gs)).vars pv)
    (hps : before = pa ++ pv) (hb : Below W.heap.size W W')
    (hok : ∀ (j : Nat) (t : TypeId) (r : Value), f.resultTypes[j]? = some t → (v.resultList f.resultTypes.size)[j]? = some r → Value.okWide P W' .any 0 t r) :
    s.post enc P f apart fresh handsOn again W args v W' := by
  have hlt : ∀ p ∈ before, p.block < W.heap.size := fun p hp => hW.lt p hp
  have hold : ∀ p ∈ before, (fun b => decide (b < W.heap.size)) p.block = true := fun p hp => by simpa using hlt p hp
  refine ⟨ds, gs, before, [], pa, pv, hW, hres _ _ _, hargs _ hold, hvars _ hold, World.keptBut_mono (fun p hp => ⟨hp, ?_⟩) (hb.frame (· ∈ before)), fun _ => ?_⟩
  · rw [hps, List.mem_append] at hp
    exact Or.inr hp
  · obtain ⟨_, _, _, _, _, hz, hn⟩ := hW
    refine ⟨hok, _, _, ([] ++ pa) ++ pv, ⟨[] ++ pa, pv, trodAll_append (hargs _ (fun _ _ => rfl)) (hres _ _ _), hvars _ (fun _ _ => rfl), rfl, ?_, ?_⟩, ?_⟩
    · intro b off hp
      have hin : MemPlace.cell b off ∈ before := by rw [hps]; simpa using hp
      rw [hb.frozen (hlt _ hin)]
      exact hz b off hin
    · intro ha
      have := hn ha
      rw [hps] at this
      simpa using this
    · intro p hp _
      rw [hps]
      simpa using hp
end

/-- The text of a listed error. -/
def errText : DataW Unit → Option (List UInt8)
  | .iface _ (.ptr (.agg [.lit (.string s)])) => some s
  | _ => none
/-- One listed variable laid into a heap. -/
noncomputable def layOne (h : Array Obj) (x : String × DataW Unit) : Array Obj :=
  match Tryz.prog.globalNamed x.1 with
  | some g => match errText x.2 with
    | some s => (h.push (.cells #[.string ⟨s.toArray⟩] 401)).modify g (setRow #[.iface 399 (.pointer (some ⟨h.size, 0, none⟩))])
    | none => h.modify g (setRow (litCells x.2).toArray)
  | none => h
theorem gForms : Tryz.prog.globalNamed "payroll/console.forms" = some 0 := by kernel_rfl
theorem gFormsType : (Tryz.prog.globals[0]?).map (·.type) = some 194 := by kernel_rfl
theorem gFormsLt : 0 < Tryz.prog.globals.size := of_decide_eq_true (by kernel_rfl)
theorem flatForms : flat Tryz.prog 4 194 Rows.laid_payroll_console_forms = some formsL := by kernel_rfl
theorem formsRow {W : World} {rest : List (String × DataW Unit)} (h : laidMet Tryz.prog (("payroll/console.forms", Rows.laid_payroll_console_forms) :: rest) W) : ∀ j v, formsL[j]? = some v → W.cell? ⟨0, j, none⟩ = some v :=
  laid_head 4 gForms gFormsType flatForms h
theorem H0_get : ∀ b i x, H0.get b = some ⟨i, x⟩ → x ≠ .dead → b = 0 ∧ i = some (0, 56) ∧ x = .cells 194 formsL := by
  intro b i x h hx
  have hlt : b < 12 := by
    rcases Nat.lt_or_ge b 12 with h1 | h1
    · exact h1
    · have := Tr.get_of_lt (t := H0.m) (n := 12) rfl h1
      unfold AH.get at h
      rw [this] at h; cases h
  have : b = 0 ∨ b = 1 ∨ b = 2 ∨ b = 3 ∨ b = 4 ∨ b = 5 ∨ b = 6 ∨ b = 7 ∨ b = 8 ∨ b = 9 ∨ b = 10 ∨ b = 11 := by omega
  rcases this with rfl | rfl | rfl | rfl | rfl | rfl | rfl | rfl | rfl | rfl | rfl | rfl
  all_goals first
    | (cases h; exact absurd rfl hx)
    | (cases h; exact ⟨rfl, rfl, rfl⟩)
theorem reads_forms {W : World} {rest : List (String × DataW Unit)} (h : laidMet Tryz.prog (("payroll/console.forms", Rows.laid_payroll_console_forms) :: rest) W) : Reads0 Tryz.prog H0 W := by
  refine ⟨fun b i x hb hx => ?_⟩
  obtain ⟨rfl, rfl, rfl⟩ := H0_get b i x hb hx
  exact ⟨_, _, rfl, gFormsLt, rfl, by kernel_rfl, formsRow h⟩
end Go.Proofs.YtdcbnkimjhefkaaGreatDoor

namespace Go.Proofs.YtdcbnkimjhefkaaGreatDoor
set_option maxRecDepth 100000 in
theorem awake_run : (evalK Tryz.prog orcC (drawK Tryz.prog orcC) 60 12 [] H0).map (·.1) = some (.bool true) := by kernel_rfl
end Go.Proofs.YtdcbnkimjhefkaaGreatDoor

namespace Go.Proofs
open Go.Shelf
def Tryz.cc_ren : Go.Shelf.Ren := ⟨fun | 240 => 68 | 276 => 115 | n => n, fun | 0 => 0 | 3 => 3 | 4 => 4 | 5 => 5 | 9 => 9 | 20 => 20 | 37 => 68 | 70 => 87 | 72 => 89 | 164 => 196 | n => n, fun | n => n⟩
theorem Tryz.cc240 : Go.Proofs.Lays.n240 Tryz.prog Tryz.cc_ren := {
  mixed := by kernel_rfl
  f240 := Tryz.func68.trans (congrArg some (by kernel_rfl))
  f276 := Tryz.func115.trans (congrArg some (by kernel_rfl))
  t0 := Tryz.underlying0
  a0 := Tryz.isAgg0
  z0 := Tryz.sizeOf0
  v0 := Tryz.zeroValue0
  t4 := Tryz.underlying4
  a4 := Tryz.isAgg4
  z4 := Tryz.sizeOf4
  v4 := Tryz.zeroValue4
  t9 := Tryz.underlying9
  a9 := Tryz.isAgg9
  z9 := Tryz.sizeOf9
  v9 := Tryz.zeroValue9
  t20 := Tryz.underlying20
  a20 := Tryz.isAgg20
  z20 := Tryz.sizeOf20
  v20 := Tryz.zeroValue20
  t70 := Tryz.underlying87
  a70 := Tryz.isAgg87
  z70 := Tryz.sizeOf87
  v70 := Tryz.zeroValue87
  t72 := Tryz.underlying89
  a72 := Tryz.isAgg89
  z72 := Tryz.sizeOf89
  v72 := Tryz.zeroValue89
  t164 := Tryz.underlying196
  a164 := Tryz.isAgg196
  z164 := Tryz.sizeOf196
  v164 := Tryz.zeroValue196 }
theorem Tryz.ccX : Builder.X72 Tryz.prog Tryz.cc_ren := {
  sizeBuilder := by kernel_rfl
  liesBuilder := by kernel_rfl }
open Go.RowKit in
theorem Tryz.copyCheck_used (b : Nat) (w : World) (h : w.cell? ⟨b, 0, none⟩ = some (.pointer (some ⟨b, 0, none⟩))) : Calls Tryz.prog 68 #[.pointer (some ⟨b, 0, none⟩)] w fun e w' => e = .returned (.tuple #[]) ∧ w' = w := Any.Builder_copyCheck_used Tryz.cc240 Tryz.ccX b w h
open Go.RowKit in
theorem Tryz.copyCheck_fresh (b : Nat) (w : World) (h0 : w.cell? ⟨b, 0, none⟩ = some (.pointer none)) (hsh : w.shape? b = some (89, 2)) (hfz : w.frozen? ⟨b, 0, none⟩ = false) : Calls Tryz.prog 68 #[.pointer (some ⟨b, 0, none⟩)] w fun e w' => e = .returned (.tuple #[]) ∧ w' = w.setCell ⟨b, 0, none⟩ (.pointer (some ⟨b, 0, none⟩)) := Any.Builder_copyCheck_fresh Tryz.cc240 Tryz.ccX b w h0 hsh hfz
end Go.Proofs

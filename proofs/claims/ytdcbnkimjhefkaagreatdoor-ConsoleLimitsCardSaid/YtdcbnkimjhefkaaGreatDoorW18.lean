/-
  What a listed variable of numbers and texts lays into memory, cell for cell.
  Rows of the console's laws: a world for a witness, the last step, what the listed variables give.
  The plain functions behind package token: what a text's tokens are. No program in sight.
  Small lemmas for the walks over package token.
  The walks of package token's small functions.
  The walks of package token's IsName, symbolLength, isDate, skip.
  The walks of the reference's IsName (payrollref17).
  The reference's Decimal, for every int.
  Lines and Words of the reference (payrollref34).
  Commands and forms of the console, in plain words.
-/
import Derived.Test.YtdcbnkimjhefkaaGreatDoorW17
import Derived.Lib.LaidTab
import Derived.Stop.LaidErr
import Derived.Test.YtdcbnkimjhefkaaGreatDoorCards
import Derived.Test.YtdcbnkimjhefkaaGreatDoorW02
import Derived.WalkKit
import Derived.ProofKit
import Derived.OpenShut
import Derived.Deep.DeepHandedRow
import Derived.Test.YtdcbnkimjhefkaaGreatDoorProg
import Derived.WalkSpells
import Derived.WalkLawsBesides
import Derived.Outline
import Derived.Lib.Hide
import Derived.Deep.DeepFit
import Derived.Deep.QuietTactic
import Derived.BigQuiet
import Derived.Test.YtdcbnkimjhefkaaGreatDoorShelf
import Derived.Lib.SlBytesConst
import Derived.Laws.BytesArg
import Derived.Lib.ItoaLen
import Derived.OwnWalk
namespace Go.Proofs.YtdcbnkimjhefkaaGreatDoor
noncomputable def catO : List (Option (List Value)) → Option (List Value)
  | [] => some []
  | some x :: l => match catO l with
    | some r => some (x ++ r)
    | none => none
  | none :: _ => none
/-- Places one behind the other: sizes out of a list. -/
noncomputable def placesOk : Nat → List (Nat × Nat) → Nat → Bool
  | o, [], n => Nat.beq o n
  | o, (off, sz) :: l, n => Nat.beq off o && placesOk (o + sz) l n
noncomputable def flat (P : Program) : Nat → TypeId → DataW Unit → Option (List Value)
  | 0, _, _ => none
  | fuel + 1, t, d => match P.underlying t, d with
    | some .bool, .lit (.bool b) => some [.bool b]
    | some (.int _), .lit (.int k n) => some [.int k n]
    | some .string, .lit (.string s) => some [.string ⟨⟨s⟩⟩]
    | some (.struct fs), .agg ds => match placesOk 0 (fs.toList.map fun f => (f.offset, P.cellsOf f.type)) (P.cellsOf t) with
      | true => catO ((fs.toList.zip ds).map fun x => flat P fuel x.1.type x.2)
      | false => none
    | some (.array n e), .agg ds => match Nat.beq (n * P.cellsOf e) (P.cellsOf t) with
      | true => catO (ds.map fun x => flat P fuel e x)
      | false => none
    | _, _ => none
theorem catO_cons {x : Option (List Value)} {l : List (Option (List Value))} {r : List Value} (h : catO (x :: l) = some r) : ∃ a b, x = some a ∧ catO l = some b ∧ r = a ++ b := by
  cases x with
  | none => cases h
  | some a =>
    unfold catO at h
    split at h
    · rename_i b hb; exact ⟨a, b, rfl, hb, (Option.some.inj h).symm⟩
    · cases h
theorem take_drop_next (cs : List Value) (o m n : Nat) : (cs.drop o).take (m + n) = (cs.drop o).take m ++ (cs.drop (o + m)).take n := by
  rw [List.take_add, List.drop_drop]
theorem flat_trod {P : Program} {w : World} {base : Nat} {sp : Nat → Bool} {enc : TypeId × Value → Unit} : ∀ (k fuel : Nat) (t : TypeId) (cs : List Value) (d : DataW Unit) (p : List MemPlace) (xs : List Value), DataW.trod enc P w base sp false fuel t cs = some (d, p) → flat P k t d = some xs → cs = xs
  | 0, _, _, _, _, _, _, _, h => by cases h
  | k + 1, 0, _, _, _, _, _, h, _ => by cases h
  | k + 1, fuel + 1, t, cs, d, p, xs, h, hf => by
    have ih := flat_trod (P := P) (w := w) (base := base) (sp := sp) (enc := enc) k fuel
    unfold flat at hf
    split at hf
    · rename_i b hu
      simp only [DataW.trod, hu] at h
      obtain rfl := Option.some.inj hf
      split at h <;> simp_all
    · rename_i k1 k2 n hu
      simp only [DataW.trod, hu] at h
      obtain rfl := Option.some.inj hf
      split at h <;> simp_all
    · rename_i s hu
      simp only [DataW.trod, hu] at h
      obtain rfl := Option.some.inj hf
      split at h <;> simp_all
      obtain ⟨h1, h2, _⟩ := h
      subst h2
      rfl
    · rename_i fs ds hu
      simp only [DataW.trod, hu] at h
      split at hf
      · rename_i hp
        split at h
        · rename_i hl
          rw [Option.map_eq_some_iff] at h
          obtain ⟨ys, hy, he⟩ := h
          simp only [Prod.mk.injEq, DataW.agg.injEq] at he
          obtain ⟨rfl, _⟩ := he
          have key : ∀ (l : List Field) (ys : List (DataW Unit × List MemPlace)) (o : Nat) (r : List Value), l.mapM (fun f => DataW.trod enc P w base sp false fuel f.type ((cs.drop f.offset).take (P.cellsOf f.type))) = some ys → placesOk o (l.map fun f => (f.offset, P.cellsOf f.type)) (P.cellsOf t) = true → catO ((l.zip (ys.map (·.1))).map fun x => flat P k x.1.type x.2) = some r → o ≤ P.cellsOf t ∧ (cs.drop o).take (P.cellsOf t - o) = r := by
            intro l
            induction l with
            | nil =>
              intro ys o r h1 h2 h3
              have : o = P.cellsOf t := Nat.eq_of_beq_eq_true h2
              subst this
              obtain rfl := Option.some.inj h3
              exact ⟨Nat.le_refl _, by simp⟩
            | cons f l ihl =>
              intro ys o r h1 h2 h3
              simp only [List.mapM_cons, Option.bind_eq_bind, Option.bind_eq_some_iff, Option.pure_def, Option.some.injEq] at h1
              obtain ⟨y, hy1, ys', hy2, rfl⟩ := h1
              unfold placesOk at h2
              simp only [List.map_cons, Bool.and_eq_true] at h2
              have ho : f.offset = o := Nat.eq_of_beq_eq_true h2.1
              simp only [List.map_cons, List.zip_cons_cons] at h3
              obtain ⟨a, b, q1, q2, rfl⟩ := catO_cons h3
              obtain ⟨g1, g2⟩ := ihl ys' (o + P.cellsOf f.type) b hy2 h2.2 q2
              have hya := ih f.type _ y.1 y.2 a hy1 q1
              refine ⟨by omega, ?_⟩
              rw [show P.cellsOf t - o = P.cellsOf f.type + (P.cellsOf t - (o + P.cellsOf f.type)) by omega, take_drop_next, g2, ← hya, ho]
          obtain ⟨_, g⟩ := key fs.toList ys 0 xs hy hp hf
          rw [← g, Nat.sub_zero, List.drop_zero, ← hl, List.take_length]
        · cases h
      · cases hf
    · rename_i n e ds hu
      simp only [DataW.trod, hu] at h
      split at hf
      · rename_i hp
        have hp' : n * P.cellsOf e = P.cellsOf t := Nat.eq_of_beq_eq_true hp
        split at h
        · rename_i hl
          rw [Option.map_eq_some_iff] at h
          obtain ⟨ys, hy, he⟩ := h
          simp only [Prod.mk.injEq, DataW.agg.injEq] at he
          obtain ⟨rfl, _⟩ := he
          have key : ∀ (m o : Nat) (ys : List (DataW Unit × List MemPlace)) (r : List Value), (List.range' o m).mapM (fun i => DataW.trod enc P w base sp false fuel e ((cs.drop (i * P.cellsOf e)).take (P.cellsOf e))) = some ys → catO ((ys.map (·.1)).map fun x => flat P k e x) = some r → (cs.drop (o * P.cellsOf e)).take (m * P.cellsOf e) = r := by
            intro m
            induction m with
            | zero =>
              intro o ys r h1 h3
              simp at h1
              subst h1
              obtain rfl := Option.some.inj h3
              simp
            | succ m ihm =>
              intro o ys r h1 h3
              rw [List.range'_succ] at h1
              simp only [List.mapM_cons, Option.bind_eq_bind, Option.bind_eq_some_iff, Option.pure_def, Option.some.injEq] at h1
              obtain ⟨y, hy1, ys', hy2, rfl⟩ := h1
              simp only [List.map_cons] at h3
              obtain ⟨a, b, q1, q2, rfl⟩ := catO_cons h3
              have g2 := ihm (o + 1) ys' b hy2 q2
              have hya := ih e _ y.1 y.2 a hy1 q1
              rw [show (m + 1) * P.cellsOf e = P.cellsOf e + m * P.cellsOf e by rw [Nat.add_mul]; omega, take_drop_next, ← hya]
              rw [show o * P.cellsOf e + P.cellsOf e = (o + 1) * P.cellsOf e by rw [Nat.add_mul]; omega, g2]
          have g := key n 0 ys xs (by rw [← List.range_eq_range']; exact hy) hf
          rw [← g, Nat.zero_mul, List.drop_zero, hp', ← hl, List.take_length]
        · cases h
      · cases hf
    · cases hf
/-- The variable that stands first on the list. -/
theorem laid_head {P : Program} {W : World} {name : String} {d : DataW Unit} {rest : List (String × DataW Unit)} (k : Nat) {g : Nat} {t : TypeId} {xs : List Value} (hg : P.globalNamed name = some g) (hty : (P.globals[g]?).map (·.type) = some t) (hf : flat P k t d = some xs) (h : laidMet P ((name, d) :: rest) W) : ∀ j v, xs[j]? = some v → W.cell? ⟨g, j, none⟩ = some v := by
  obtain ⟨ps, hv, _, _⟩ := h
  obtain ⟨g', t', cs, fuel, p, q, h1, h2, h3, h4, _, _⟩ := hv
  rw [hg] at h1
  obtain rfl := Option.some.inj h1
  rw [hty] at h2
  obtain rfl := Option.some.inj h2
  have hx := flat_trod k fuel t cs.toList d p xs h4 hf
  unfold World.var? at h3
  rw [hg] at h3
  simp only [Option.bind_some] at h3
  split at h3
  · rename_i C T fr hb
    obtain rfl := Option.some.inj h3
    intro j v hj
    unfold World.cell?
    simp only [hb]
    rw [← hx] at hj
    simpa using hj
  · cases h3
end Go.Proofs.YtdcbnkimjhefkaaGreatDoor

namespace Go.Proofs.YtdcbnkimjhefkaaGreatDoor
open Go.ChangeShapes Go.WideShapes Go.ChangeAt Go.RowKit

theorem ownKnobNone : ownKnob Tryz.prog.godebug = none := by kernel_rfl

/-- The cells of a datum of numbers, at most three deep. -/
def litCells : DataW Unit → List Value
  | .lit (.int k n) => [.int k n]
  | .lit (.string s) => [.string ⟨s.toArray⟩]
  | .agg xs => xs.flatMap fun
    | .lit (.int k n) => [.int k n]
    | .lit (.string s) => [.string ⟨s.toArray⟩]
    | .agg ys => ys.flatMap fun
      | .lit (.int k n) => [.int k n]
      | .lit (.string s) => [.string ⟨s.toArray⟩]
      | _ => []
    | _ => []
  | _ => []
def setRow (cs : Array Value) : Obj → Obj
  | .cells _ t frozen => .cells cs t frozen
  | o => o

section
variable {H : Type} {enc : TypeId × Value → H} {P : Program}
/-- The row's last step where all old memory is as it was. -/
theorem post_of_below {f : Func} {s : ChangeSpec} {apart fresh handsOn again : Bool} {W W' : World} {args : Array Value} {v : Value} {ds gs : List (DataW H)} {before pa pv : List MemPlace}
    (hW : DataW.Whole enc P f.params.toList s.vars apart W args.toList ds gs before)
    (hres : ∀ (b : Nat) (sp : Nat → Bool) (hd : Bool), DataW.TrodAll enc P W' b sp hd f.resultTypes.toList (v.resultList f.resultTypes.size) (s.fn H (ds ++ gs)).results [])
    (hargs : ∀ sp : Nat → Bool, (∀ p ∈ before, sp p.block = true) → DataW.TrodAll enc P W' 0 sp true f.params.toList args.toList (s.fn H (ds ++ gs)).args pa)
    (hvars : ∀ sp : Nat → Bool, (∀ p ∈ before, sp p.block = true) → DataW.TrodVars enc P W' sp s.vars (s.fn H (ds ++ gs)).vars pv)
    (hps : before = pa ++ pv) (hb : Below W.heap.size W W')
    (hok : ∀ (j : Nat) (t : TypeId) (r : Value), f.resultTypes[j]? = some t → (v.resultList f.resultTypes.size)[j]? = some r → Value.okWide P W' .any 0 t r) :
    s.post enc P f apart fresh handsOn again W args v W' := by
  have hlt : ∀ p ∈ before, p.block < W.heap.size := fun p hp => hW.lt p hp
  have hold : ∀ p ∈ before, (fun b => decide (b < W.heap.size)) p.block = true := fun p hp => by simpa using hlt p hp
  refine ⟨ds, gs, before, [], pa, pv, hW, hres _ _ _, hargs _ hold, hvars _ hold, World.keptBut_mono (fun p hp => ⟨hp, ?_⟩) (hb.frame (· ∈ before)), fun _ => ?_⟩
  · rw [hps, List.mem_append] at hp
    exact Or.inr hp
  · obtain ⟨_, _, _, _, _, hz, hn⟩ := hW
    refine ⟨hok, _, _, ([] ++ pa) ++ pv, ⟨[] ++ pa, pv, trodAll_append (hargs _ (fun _ _ => rfl)) (hres _ _ _), hvars _ (fun _ _ => rfl), rfl, ?_, ?_⟩, ?_⟩
    · intro b off hp
      have hin : MemPlace.cell b off ∈ before := by rw [hps]; simpa using hp
      rw [hb.frozen (hlt _ hin)]
      exact hz b off hin
    · intro ha
      have := hn ha
      rw [hps] at this
      simpa using this
    · intro p hp _
      rw [hps]
      simpa using hp
end

/-- The text of a listed error. -/
def errText : DataW Unit → Option (List UInt8)
  | .iface _ (.ptr (.agg [.lit (.string s)])) => some s
  | _ => none
/-- One listed variable laid into a heap. -/
noncomputable def layOne (h : Array Obj) (x : String × DataW Unit) : Array Obj :=
  match Tryz.prog.globalNamed x.1 with
  | some g => match errText x.2 with
    | some s => (h.push (.cells #[.string ⟨s.toArray⟩] 401)).modify g (setRow #[.iface 399 (.pointer (some ⟨h.size, 0, none⟩))])
    | none => h.modify g (setRow (litCells x.2).toArray)
  | none => h
theorem gForms : Tryz.prog.globalNamed "payroll/console.forms" = some 0 := by kernel_rfl
theorem gFormsType : (Tryz.prog.globals[0]?).map (·.type) = some 194 := by kernel_rfl
theorem gFormsLt : 0 < Tryz.prog.globals.size := of_decide_eq_true (by kernel_rfl)
theorem flatForms : flat Tryz.prog 4 194 Rows.laid_payroll_console_forms = some formsL := by kernel_rfl
theorem formsRow {W : World} {rest : List (String × DataW Unit)} (h : laidMet Tryz.prog (("payroll/console.forms", Rows.laid_payroll_console_forms) :: rest) W) : ∀ j v, formsL[j]? = some v → W.cell? ⟨0, j, none⟩ = some v :=
  laid_head 4 gForms gFormsType flatForms h
theorem H0_get : ∀ b i x, H0.get b = some ⟨i, x⟩ → x ≠ .dead → b = 0 ∧ i = some (0, 56) ∧ x = .cells 194 formsL := by
  intro b i x h hx
  have hlt : b < 12 := by
    rcases Nat.lt_or_ge b 12 with h1 | h1
    · exact h1
    · have := Tr.get_of_lt (t := H0.m) (n := 12) rfl h1
      unfold AH.get at h
      rw [this] at h; cases h
  have : b = 0 ∨ b = 1 ∨ b = 2 ∨ b = 3 ∨ b = 4 ∨ b = 5 ∨ b = 6 ∨ b = 7 ∨ b = 8 ∨ b = 9 ∨ b = 10 ∨ b = 11 := by omega
  rcases this with rfl | rfl | rfl | rfl | rfl | rfl | rfl | rfl | rfl | rfl | rfl | rfl
  all_goals first
    | (cases h; exact absurd rfl hx)
    | (cases h; exact ⟨rfl, rfl, rfl⟩)
theorem reads_forms {W : World} {rest : List (String × DataW Unit)} (h : laidMet Tryz.prog (("payroll/console.forms", Rows.laid_payroll_console_forms) :: rest) W) : Reads0 Tryz.prog H0 W := by
  refine ⟨fun b i x hb hx => ?_⟩
  obtain ⟨rfl, rfl, rfl⟩ := H0_get b i x hb hx
  exact ⟨_, _, rfl, gFormsLt, rfl, by kernel_rfl, formsRow h⟩
end Go.Proofs.YtdcbnkimjhefkaaGreatDoor

namespace Go.Proofs.YtdcbnkimjhefkaaGreatDoor
namespace Tk

def isDig (c : UInt8) : Bool := decide (48 ≤ c.toNat ∧ c.toNat ≤ 57)
def isLow (c : UInt8) : Bool := decide (97 ≤ c.toNat ∧ c.toNat ≤ 122)
def isWord (c : UInt8) : Bool := isLow c || isDig c || decide (c.toNat = 95)
/-- The number of elements at the head that meet a test. -/
def lead (p : UInt8 → Bool) : List UInt8 → Nat
  | [] => 0
  | c :: r => if p c = true then lead p r + 1 else 0

theorem lead_le (p : UInt8 → Bool) (l : List UInt8) : lead p l ≤ l.length := by
  induction l with
  | nil => simp [lead]
  | cons c r ih => unfold lead; split <;> simp <;> omega

theorem lead_all (p : UInt8 → Bool) (l : List UInt8) (j : Nat) (hj : j < lead p l) (h : j < l.length) : p l[j] = true := by
  induction l generalizing j with
  | nil => simp at h
  | cons c r ih =>
    unfold lead at hj
    split at hj
    · rename_i hc
      cases j with
      | zero => simpa using hc
      | succ j => simp at h ⊢; exact ih j (by omega) h
    · omega

theorem lead_stop (p : UInt8 → Bool) (l : List UInt8) (h : lead p l < l.length) : p l[lead p l] = false := by
  induction l with
  | nil => simp at h
  | cons c r ih =>
    by_cases hc : p c = true
    · have e : lead p (c :: r) = lead p r + 1 := by simp [lead, hc]
      simp only [e, List.length_cons] at h ⊢
      simp only [List.getElem_cons_succ]
      exact ih (by omega)
    · have e : lead p (c :: r) = 0 := by simp [lead, hc]
      simp only [e]
      simpa using hc

/-- A count that stops rightly is the count. -/
theorem lead_eq (p : UInt8 → Bool) (l : List UInt8) (k : Nat) (hk : k ≤ l.length) (ha : ∀ j (h : j < l.length), j < k → p l[j] = true) (hs : ∀ h : k < l.length, p l[k] = false) : lead p l = k := by
  have h1 := lead_le p l
  rcases Nat.lt_trichotomy (lead p l) k with h | h | h
  · have := lead_stop p l (by omega)
    rw [ha _ _ h] at this
    cases this
  · exact h
  · have := lead_all p l k h (by omega)
    rw [hs (by omega)] at this
    cases this

def digs (l : List UInt8) : Nat := lead isDig l

/-- The keywords. -/
def keywords : List (List UInt8) := [[97, 103, 114, 101, 101, 109, 101, 110, 116], [105, 110, 112, 117, 116], [112, 97, 115, 116], [115, 99, 97, 108, 101], [114, 117, 108, 101], [112, 97, 121], [102, 114, 111, 109], [114, 111, 117, 110, 100, 101, 100], [116, 111], [105, 102], [116, 104, 101, 110], [101, 108, 115, 101], [97, 110, 100], [111, 114], [110, 111, 116], [116, 114, 117, 101], [102, 97, 108, 115, 101], [109, 105, 110], [109, 97, 120], [114, 111, 117, 110, 100], [97, 118, 101, 114, 97, 103, 101], [108, 97, 115, 116], [109, 111, 110, 101, 121], [104, 111, 117, 114, 115], [100, 97, 121, 115], [110, 117, 109, 98, 101, 114], [98, 111, 111, 108], [100, 111, 119, 110], [117, 112], [102, 108, 111, 111, 114], [99, 101, 105, 108, 105, 110, 103], [104, 97, 108, 102, 95, 117, 112], [104, 97, 108, 102, 95, 100, 111, 119, 110], [104, 97, 108, 102, 95, 101, 118, 101, 110]]
def isKey (l : List UInt8) : Bool := keywords.contains l
def wordLen : List UInt8 → Nat
  | [] => 0
  | c :: r => if isLow c = true then lead isWord r + 1 else 0
def isName (l : List UInt8) : Bool := decide (0 < l.length) && decide (l.length ≤ 24) && decide (wordLen l = l.length) && !isKey l

def pair (c d : UInt8) : Bool := decide (c = 60 ∧ d = 61 ∨ c = 62 ∧ d = 61 ∨ c = 60 ∧ d = 62)
/-- The form of a date: digits at the places 'true', hyphens at the others. -/
def form : List Bool → List UInt8 → Bool
  | [], _ => true
  | _ :: _, [] => false
  | p :: ps, c :: r => (if p = true then isDig c else decide (c.toNat = 45)) && form ps r
/-- The number that digits write. -/
def val (l : List UInt8) : Nat := l.foldl (fun n c => n * 10 + (c.toNat - 48)) 0

structure Tok where
  kind : Int := 0
  text : List UInt8 := []
  num : Int := 0
  den : Int := 0
  day : Int := 0
  place : Int := 0

/-- A number at the beginning of a text: how many digits, is there a point, a percent sign. -/
def hasFrac (l : List UInt8) : Bool := decide ((l.getD (digs l) 0).toNat = 46) && isDig (l.getD (digs l + 1) 0)
def frac (l : List UInt8) : Nat := if hasFrac l = true then digs (l.drop (digs l + 1)) else 0
def numEnd (l : List UInt8) : Nat := if hasFrac l = true then digs l + (1 + frac l) else digs l
def pct (l : List UInt8) : Bool := decide ((l.getD (numEnd l) 0).toNat = 37)
def most (l : List UInt8) : Nat := if pct l = true then 4 else 6
end Tk
end Go.Proofs.YtdcbnkimjhefkaaGreatDoor

namespace Go.Proofs.YtdcbnkimjhefkaaGreatDoor
open Go.RowKit

theorem ret_int {k : IntKind} {a b : Int} (h : a = b) : Ending.returned (.int k a) = .returned (.int k b) := by rw [h]
theorem ret_bool {a b : Bool} (h : a = b) : Ending.returned (.bool a) = .returned (.bool b) := by rw [h]
/-- A string's bytes, as the list has them. -/
theorem ba_get (l : List UInt8) (k : Nat) (h : k < (⟨l.toArray⟩ : ByteArray).size) : (⟨l.toArray⟩ : ByteArray)[k] = l[k]'h := rfl
/-- A cut of a string, as the list has it. -/
theorem ba_extract (l : List UInt8) (a b : Nat) : ByteArray.extract ⟨l.toArray⟩ a b = ⟨((l.drop a).take (b - a)).toArray⟩ := by
  apply ByteArray.ext
  simp [List.extract_eq_take_drop, List.extract_toArray]
/-- Two strings joined, as lists. -/
theorem ba_append (a b : List UInt8) : (⟨a.toArray⟩ ++ ⟨b.toArray⟩ : ByteArray) = ⟨(a ++ b).toArray⟩ := by
  apply ByteArray.ext
  simp
theorem take_rest (l : List UInt8) (a : Nat) : (l.drop a).take (l.length - a) = l.drop a := List.take_of_length_le (by simp)
end Go.Proofs.YtdcbnkimjhefkaaGreatDoor

namespace Go.Proofs.YtdcbnkimjhefkaaGreatDoor
open Go.RowKit

theorem isDigit_any (c : UInt8) (w : World) :
    Calls Tryz.prog 123 #[.int .u8 c.toNat] w fun e w' => e = .returned (.bool (Tk.isDig c)) ∧ w = w' := by
  go_enter Tryz.func123, Tryz.ntmps123
  go_wp2
  all_goals
    go_ret
    refine ⟨ret_bool ?_, rfl⟩
    unfold Tk.isDig
    rw [Bool.eq_iff_iff]
    simp
    omega

theorem isLower_any (c : UInt8) (w : World) :
    Calls Tryz.prog 122 #[.int .u8 c.toNat] w fun e w' => e = .returned (.bool (Tk.isLow c)) ∧ w = w' := by
  go_enter Tryz.func122, Tryz.ntmps122
  go_wp2
  all_goals
    go_ret
    refine ⟨ret_bool ?_, rfl⟩
    unfold Tk.isLow
    rw [Bool.eq_iff_iff]
    simp
    omega

attribute [local go_sem] ba_get

theorem isWord_cases (c : UInt8) : Tk.isWord c = true ↔ (Tk.isLow c = true ∨ (Tk.isLow c = false ∧ Tk.isDig c = true) ∨ (Tk.isLow c = false ∧ Tk.isDig c = false ∧ c.toNat = 95)) := by
  unfold Tk.isWord
  cases Tk.isLow c <;> cases Tk.isDig c <;> simp

theorem isWord_false {c : UInt8} (h : Tk.isWord c = false) : Tk.isLow c = false ∧ Tk.isDig c = false ∧ ((c.toNat : Int) == 95) = false := by
  unfold Tk.isWord at h
  cases hl : Tk.isLow c <;> cases hd : Tk.isDig c <;> simp_all
  omega

set_option maxHeartbeats 400000 in
theorem wordLength_any (l : List UInt8) (w : World) (hs : l.length ≤ maxLen) :
    Calls Tryz.prog 77 #[.string ⟨l.toArray⟩] w fun e w' => e = .returned (.int .i64 (Tk.wordLen l)) ∧ w = w' := by
  unfold maxLen at hs
  cases l with
  | nil =>
    go_enter Tryz.func77, Tryz.ntmps77
    go_wp2
    go_ret
    exact ⟨rfl, rfl⟩
  | cons c r =>
    by_cases hc : Tk.isLow c = true
    · have HC := Lib.hid hc
      simp only [List.length_cons] at hs
      go_enter Tryz.func77, Tryz.ntmps77
      go_wp2_with ((go_at_call 122; refine (isLower_any _ _).mono ?_; rintro e w' ⟨rfl, rfl⟩))
      clear hc
      go_loop [3] (fun n => ∃ k : Nat, k ≤ r.length ∧ n = .int .i64 (k + 1) ∧ Hid (∀ j (h : j < r.length), j < k → Tk.isWord r[j] = true)) (fun i => r.length + 1 - (intOf i).toNat)
      case atStart => exact ⟨0, Nat.zero_le _, rfl, fun _ _ h => by omega⟩
      case round =>
        obtain ⟨k, hk, rfl, HA⟩ := hrel
        by_cases hlt : k < r.length
        · by_cases hd : Tk.isWord r[k] = true
          · have HD := Lib.hid hd
            rcases (isWord_cases _).1 hd with h1 | ⟨h1, h2⟩ | ⟨h1, h2, h3⟩
            all_goals clear hd
            · go_wp2_with ((first | (go_at_call 122; refine (isLower_any _ _).mono ?_; rintro e w' ⟨rfl, rfl⟩) | (go_at_call 123; refine (isDigit_any _ _).mono ?_; rintro e w' ⟨rfl, rfl⟩)))
              go_round
              case rel => exact ⟨k + 1, by omega, by go_num, fun j h hj => if e : j = k then by subst e; exact HD.out else HA.out j h (by omega)⟩
              case measure => simp [intOf]; omega
            · go_wp2_with ((first | (go_at_call 122; refine (isLower_any _ _).mono ?_; rintro e w' ⟨rfl, rfl⟩) | (go_at_call 123; refine (isDigit_any _ _).mono ?_; rintro e w' ⟨rfl, rfl⟩)))
              go_round
              case rel => exact ⟨k + 1, by omega, by go_num, fun j h hj => if e : j = k then by subst e; exact HD.out else HA.out j h (by omega)⟩
              case measure => simp [intOf]; omega
            · have h4 : ((r[k].toNat : Int) == 95) = true := by simp; omega
              clear h3
              go_wp2_with ((first | (go_at_call 122; refine (isLower_any _ _).mono ?_; rintro e w' ⟨rfl, rfl⟩) | (go_at_call 123; refine (isDigit_any _ _).mono ?_; rintro e w' ⟨rfl, rfl⟩)))
              go_round
              case rel => exact ⟨k + 1, by omega, by go_num, fun j h hj => if e : j = k then by subst e; exact HD.out else HA.out j h (by omega)⟩
              case measure => simp [intOf]; omega
          · have hd : Tk.isWord r[k] = false := by simpa using hd
            have HD := Lib.hid hd
            obtain ⟨h1, h2, h4⟩ := isWord_false hd
            clear hd
            go_wp2_with ((first | (go_at_call 122; refine (isLower_any _ _).mono ?_; rintro e w' ⟨rfl, rfl⟩) | (go_at_call 123; refine (isDigit_any _ _).mono ?_; rintro e w' ⟨rfl, rfl⟩)))
            go_ret
            exact ⟨ret_int (by simp only [Tk.wordLen, HC.out, if_true]; rw [Tk.lead_eq _ _ k hk HA.out (fun _ => HD.out)]; omega), rfl⟩
        · go_wp2_with fail
          go_ret
          exact ⟨ret_int (by simp only [Tk.wordLen, HC.out, if_true]; rw [Tk.lead_eq _ _ k hk HA.out (fun h => absurd h hlt)]; omega), rfl⟩
    · have hc : Tk.isLow c = false := by simpa using hc
      have HC := Lib.hid hc
      go_enter Tryz.func77, Tryz.ntmps77
      go_wp2_with ((go_at_call 122; refine (isLower_any _ _).mono ?_; rintro e w' ⟨rfl, rfl⟩))
      go_ret
      exact ⟨ret_int (by simp [Tk.wordLen, HC.out]), rfl⟩

theorem key_false {l k : List UInt8} (h : Tk.isKey l = false) (hk : k ∈ Tk.keywords) : (l == k) = false := by
  rw [beq_eq_false_iff_ne]
  rintro rfl
  unfold Tk.isKey at h
  rw [List.contains_iff_mem.2 hk] at h
  cases h

set_option maxHeartbeats 2000000 in
theorem isKeyword_any (l : List UInt8) (w : World) :
    Calls Tryz.prog 78 #[.string ⟨l.toArray⟩] w fun e w' => e = .returned (.bool (Tk.isKey l)) ∧ w = w' := by
  by_cases hk : Tk.isKey l = true
  · have hm : l ∈ Tk.keywords := List.contains_iff_mem.1 hk
    rw [hk]
    clear hk
    simp only [Tk.keywords, List.mem_cons, List.not_mem_nil, or_false] at hm
    rcases hm with rfl | rfl | rfl | rfl | rfl | rfl | rfl | rfl | rfl | rfl | rfl | rfl | rfl | rfl | rfl | rfl | rfl | rfl | rfl | rfl | rfl | rfl | rfl | rfl | rfl | rfl | rfl | rfl | rfl | rfl | rfl | rfl | rfl | rfl
    all_goals
      go_enter Tryz.func78, Tryz.ntmps78
      go_wp2
      go_ret
      exact ⟨rfl, rfl⟩
  · have hk : Tk.isKey l = false := by simpa using hk
    rw [hk]
    have k0 := key_false (k := [97, 103, 114, 101, 101, 109, 101, 110, 116]) hk (by decide)
    have k1 := key_false (k := [105, 110, 112, 117, 116]) hk (by decide)
    have k2 := key_false (k := [112, 97, 115, 116]) hk (by decide)
    have k3 := key_false (k := [115, 99, 97, 108, 101]) hk (by decide)
    have k4 := key_false (k := [114, 117, 108, 101]) hk (by decide)
    have k5 := key_false (k := [112, 97, 121]) hk (by decide)
    have k6 := key_false (k := [102, 114, 111, 109]) hk (by decide)
    have k7 := key_false (k := [114, 111, 117, 110, 100, 101, 100]) hk (by decide)
    have k8 := key_false (k := [116, 111]) hk (by decide)
    have k9 := key_false (k := [105, 102]) hk (by decide)
    have k10 := key_false (k := [116, 104, 101, 110]) hk (by decide)
    have k11 := key_false (k := [101, 108, 115, 101]) hk (by decide)
    have k12 := key_false (k := [97, 110, 100]) hk (by decide)
    have k13 := key_false (k := [111, 114]) hk (by decide)
    have k14 := key_false (k := [110, 111, 116]) hk (by decide)
    have k15 := key_false (k := [116, 114, 117, 101]) hk (by decide)
    have k16 := key_false (k := [102, 97, 108, 115, 101]) hk (by decide)
    have k17 := key_false (k := [109, 105, 110]) hk (by decide)
    have k18 := key_false (k := [109, 97, 120]) hk (by decide)
    have k19 := key_false (k := [114, 111, 117, 110, 100]) hk (by decide)
    have k20 := key_false (k := [97, 118, 101, 114, 97, 103, 101]) hk (by decide)
    have k21 := key_false (k := [108, 97, 115, 116]) hk (by decide)
    have k22 := key_false (k := [109, 111, 110, 101, 121]) hk (by decide)
    have k23 := key_false (k := [104, 111, 117, 114, 115]) hk (by decide)
    have k24 := key_false (k := [100, 97, 121, 115]) hk (by decide)
    have k25 := key_false (k := [110, 117, 109, 98, 101, 114]) hk (by decide)
    have k26 := key_false (k := [98, 111, 111, 108]) hk (by decide)
    have k27 := key_false (k := [100, 111, 119, 110]) hk (by decide)
    have k28 := key_false (k := [117, 112]) hk (by decide)
    have k29 := key_false (k := [102, 108, 111, 111, 114]) hk (by decide)
    have k30 := key_false (k := [99, 101, 105, 108, 105, 110, 103]) hk (by decide)
    have k31 := key_false (k := [104, 97, 108, 102, 95, 117, 112]) hk (by decide)
    have k32 := key_false (k := [104, 97, 108, 102, 95, 100, 111, 119, 110]) hk (by decide)
    have k33 := key_false (k := [104, 97, 108, 102, 95, 101, 118, 101, 110]) hk (by decide)
    clear hk
    go_enter Tryz.func78, Tryz.ntmps78
    go_wp2
    go_ret
    exact ⟨rfl, rfl⟩
end Go.Proofs.YtdcbnkimjhefkaaGreatDoor

namespace Go.Proofs.YtdcbnkimjhefkaaGreatDoor
open Go.RowKit
attribute [local go_sem] ba_get ba_extract take_rest

set_option maxHeartbeats 1000000 in
theorem isName_any (l : List UInt8) (w : World) (hs : l.length ≤ maxLen) :
    Calls Tryz.prog 45 #[.string ⟨l.toArray⟩] w fun e w' => e = .returned (.bool (Tk.isName l)) ∧ w = w' := by
  have hs' := hs
  unfold maxLen at hs
  by_cases h0 : 0 < l.length
  · by_cases h1 : l.length ≤ 24
    · by_cases h2 : Tk.wordLen l = l.length
      · have hn : Tk.isName l = !Tk.isKey l := by simp [Tk.isName, h0, h1, h2]
        rw [hn]
        have h3 : ((Tk.wordLen l : Int) == l.length) = true := by simp; omega
        clear hn h2
        go_enter Tryz.func45, Tryz.ntmps45
        go_wp2_with ((first | (go_at_call 77; refine (wordLength_any _ _ hs').mono ?_; rintro e w' ⟨rfl, rfl⟩) | (go_at_call 78; refine (isKeyword_any _ _).mono ?_; rintro e w' ⟨rfl, rfl⟩)))
        go_ret
        exact ⟨rfl, rfl⟩
      · have hn : Tk.isName l = false := by simp [Tk.isName, h2]
        rw [hn]
        have h3 : ((Tk.wordLen l : Int) == l.length) = false := by simp; omega
        clear hn h2
        go_enter Tryz.func45, Tryz.ntmps45
        go_wp2_with ((first | (go_at_call 77; refine (wordLength_any _ _ hs').mono ?_; rintro e w' ⟨rfl, rfl⟩) | (go_at_call 78; refine (isKeyword_any _ _).mono ?_; rintro e w' ⟨rfl, rfl⟩)))
        go_ret
        exact ⟨rfl, rfl⟩
    · have hn : Tk.isName l = false := by simp [Tk.isName, h1]
      rw [hn]
      clear hn
      go_enter Tryz.func45, Tryz.ntmps45
      go_wp2_with fail
      go_ret
      exact ⟨rfl, rfl⟩
  · have hn : Tk.isName l = false := by simp [Tk.isName, h0]
    rw [hn]
    clear hn
    go_enter Tryz.func45, Tryz.ntmps45
    go_wp2_with fail
    go_ret
    exact ⟨rfl, rfl⟩

end Go.Proofs.YtdcbnkimjhefkaaGreatDoor

namespace Go.Proofs.YtdcbnkimjhefkaaGreatDoor
open Go.RowKit
attribute [local go_sem] ba_get ba_extract take_rest

end Go.Proofs.YtdcbnkimjhefkaaGreatDoor

namespace Go.Proofs.YtdcbnkimjhefkaaGreatDoor
open Go.RowKit
theorem conv_one (w : World) (n : Int) : (convert 68 9 (.slice (some ⟨w.heap.size, 0, none⟩) 1 1)).run Tryz.prog (w.alloc (.cells #[.int .u8 n] 5)) = .ok (.string ⟨[UInt8.ofNat n.toNat].toArray⟩) (w.alloc (.cells #[.int .u8 n] 5)) :=
  run_convert_bytes_arg _ 68 5 Tryz.underlying68 Tryz.underlying5 w.heap.size 0 1 1 [n] rfl (fun i hi => by
    obtain rfl : i = 0 := by omega
    simp) 9 Tryz.underlying9
attribute [local go_sem] ba_get ba_extract take_rest ba_append conv_one

/-- What stands in the text s while the digits of m are still to come. -/
def DecPre (D : List UInt8) (m : Nat) (s : List UInt8) : Prop := (s = [] ∧ D = Lib.decDigits m) ∨ (s ≠ [] ∧ ((m = 0 ∧ s = D) ∨ (0 < m ∧ Lib.decDigits m ++ s = D)))
theorem dec_last (m : Nat) : Lib.decDigits m = (if m < 10 then [] else Lib.decDigits (m / 10)) ++ [UInt8.ofNat (48 + m % 10)] := by
  rw [Lib.decDigits]
  split
  · rename_i h; rw [Nat.mod_eq_of_lt h]; rfl
  · rfl
theorem DecPre.next {D : List UInt8} {m : Nat} {s : List UInt8} (h : DecPre D m s) (hc : 0 < m ∨ s = []) : DecPre D (m / 10) (UInt8.ofNat (48 + m % 10) :: s) := by
  have hD : Lib.decDigits m ++ s = D := by
    rcases h with ⟨rfl, rfl⟩ | ⟨h1, ⟨h2, h3⟩ | ⟨_, h2⟩⟩
    · simp
    · rcases hc with hc | hc
      · omega
      · exact (h1 hc).elim
    · exact h2
  rw [dec_last m, List.append_assoc] at hD
  refine .inr ⟨by simp, ?_⟩
  by_cases h10 : m < 10
  · rw [if_pos h10] at hD
    exact .inl ⟨by omega, hD⟩
  · rw [if_neg h10] at hD
    exact .inr ⟨by omega, hD⟩
theorem DecPre.len {n : Int} {m : Nat} {s : List UInt8} (h : DecPre (Lib.decDigits n.natAbs) m s) (h0 : -9223372036854775808 ≤ n) (h1 : n ≤ 9223372036854775807) : s.length ≤ 22 := by
  have hl : (Lib.decDigits n.natAbs).length ≤ 21 := by
    rw [Lib.decDigits_length]
    have := Lib.nDigits_le20 n.natAbs (by omega)
    omega
  rcases h with ⟨rfl, _⟩ | ⟨_, ⟨_, rfl⟩ | ⟨_, e⟩⟩
  · simp
  · omega
  · have := congrArg List.length e
    rw [List.length_append] at this
    omega
theorem DecPre.done {D : List UInt8} {s : List UInt8} (h : DecPre D 0 s) (hs : s ≠ []) : s = D := by
  rcases h with ⟨e, _⟩ | ⟨_, ⟨_, e⟩ | ⟨e, _⟩⟩
  · exact (hs e).elim
  · exact e
  · omega
end Go.Proofs.YtdcbnkimjhefkaaGreatDoor

namespace Go.Proofs.YtdcbnkimjhefkaaGreatDoor
open Go.RowKit
attribute [local go_sem] ba_get ba_extract take_rest
/-- The lines that end, and what follows the last of them. -/
def splitL (d : UInt8) : List UInt8 → List (List UInt8) × List UInt8
  | [] => ([], [])
  | c :: r => if c = d then ([] :: (splitL d r).1, (splitL d r).2) else match (splitL d r).1 with
    | [] => ([], c :: (splitL d r).2)
    | l :: ls => ((c :: l) :: ls, (splitL d r).2)
theorem info_partsC {P : Program} {t : TypeId} {z : Option Value} {s b : Nat} (h : (P.info? t).map (fun i => (i.zero, i.size, i.bytes)) = some (z, s, b)) : ∃ i, P.info? t = some i ∧ i.zero = z ∧ i.size = s ∧ i.bytes = b := by
  cases hi : P.info? t with
  | none => rw [hi] at h; cases h
  | some i =>
    rw [hi] at h
    simp only [Option.map_some, Option.some.injEq, Prod.mk.injEq] at h
    exact ⟨i, rfl, h.1, h.2.1, h.2.2⟩
end Go.Proofs.YtdcbnkimjhefkaaGreatDoor

namespace Go.Proofs.YtdcbnkimjhefkaaGreatDoor
structure Cmd where
  kind : Int
  emp : Int
  fk : Int
  fr : Int
  nm : List UInt8
  val : Int
  ext : Int
  rnk : Int
  txt : List UInt8
  per : Int
  wh : Nat
  torn : Int
  stop : Int
  deriving DecidableEq
def Cmd.cells (c : Cmd) : List Value := [.int .i64 c.kind, .int .i64 c.emp, .int .i64 c.fk, .int .i64 c.fr, .string ⟨⟨c.nm⟩⟩, .int .i64 c.val, .int .i64 c.ext, .int .i64 c.rnk, .string ⟨⟨c.txt⟩⟩, .int .i64 c.per, .int .u64 c.wh, .int .i64 c.torn, .int .i64 c.stop]
structure Form where
  word : List UInt8
  kind : Int
  fact : Int
  letters : List UInt8
  deriving DecidableEq
def Form.cells (f : Form) : List Value := [.string ⟨⟨f.word⟩⟩, .int .i64 f.kind, .int .i64 f.fact, .string ⟨⟨f.letters⟩⟩]
def Form.zero : Form := ⟨[], 0, 0, []⟩
def forms : List Form := [⟨[104, 105, 114, 101], 1, 1, [69, 68]⟩, ⟨[108, 101, 97, 118, 101], 1, 2, [69, 68]⟩, ⟨[105, 110, 112, 117, 116], 1, 3, [69, 78, 68, 86]⟩, ⟨[104, 111, 117, 114, 115], 1, 4, [69, 78, 68, 86]⟩, ⟨[97, 103, 114, 101, 101, 109, 101, 110, 116], 1, 5, [68]⟩, ⟨[114, 117, 108, 101, 115], 1, 6, [68, 86]⟩, ⟨[100, 101, 112, 101, 110, 100, 101, 110, 116, 115], 1, 7, [69, 68, 86]⟩, ⟨[111, 114, 100, 101, 114], 1, 8, [69, 78, 68, 86, 88, 82]⟩, ⟨[100, 101, 100, 117, 99, 116, 105, 111, 110], 1, 9, [69, 78, 68, 86, 88, 82]⟩, ⟨[112, 114, 101, 112, 97, 114, 101], 2, 0, [80]⟩, ⟨[114, 101, 108, 101, 97, 115, 101], 3, 0, []⟩, ⟨[112, 97, 121], 4, 0, []⟩, ⟨[114, 101, 118, 101, 114, 115, 101], 5, 0, []⟩, ⟨[99, 114, 97, 115, 104], 6, 0, [87, 84, 83]⟩]
theorem forms_len : forms.length = 14 := rfl
end Go.Proofs.YtdcbnkimjhefkaaGreatDoor

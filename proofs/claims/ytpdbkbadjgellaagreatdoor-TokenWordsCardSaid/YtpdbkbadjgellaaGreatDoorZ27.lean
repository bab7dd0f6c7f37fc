/-
  Code on closed values: tests and loops are run too. Which entry of the known memory an address slot points into is told by slot.
  The reference's FormatUnit on made units (printed by gen_fu.py).
  The reference's Decimal and two.
-/
import Derived.Test.YtpdbkbadjgellaaGreatDoorZ09
import Derived.Test.YtpdbkbadjgellaaGreatDoorZ26
import Derived.Test.YtpdbkbadjgellaaGreatDoorZ14
import Derived.Test.YtpdbkbadjgellaaGreatDoorZ04
import Derived.Laws.BytesArg
namespace Go.Proofs.YtpdbkbadjgellaaGreatDoor
section
variable {P : Program} {f : FuncId} {R : Ending → World → Prop}
def entOf : List (Tmp × Nat) → Tmp → Nat
  | [], _ => 0
  | p :: r, t => match Nat.beq p.1 t with
    | true => p.2
    | false => entOf r t
/-- Where a load or store begins: the entry by slot, the cell by the address. -/
def hintC (H : List (Tmp × Nat)) (n : Nat) (E : Nat → Value) : Op → Nat × Nat
  | .load _ (.tmp t) | .store _ (.tmp t) _ => match evE n E (.tmp t) with
    | .pointer (some a) => (entOf H t, a.off)
    | _ => (0, 0)
  | _ => (0, 0)
def opC (P : Program) (H : List (Tmp × Nat)) (n : Nat) (ops : Array Oper) (i : Nat) (s : St) (todo : List Item) : Option St :=
  match ops[i]? with
  | none => none
  | some o => opS P n ops i { s with hs := hintC H n s.env o.op :: s.hs } todo
def dropH : Option St → List (Nat × Nat) → Option St
  | some s, h => some { s with hs := h }
  | none, _ => none
def stepC (P : Program) (H : List (Tmp × Nat)) (n : Nat) (s : St) : Option St :=
  match s.todo with
  | .code (.cond c x y) :: k => match evE n s.env c with
    | .bool true => some { s with todo := .code x :: k }
    | .bool false => some { s with todo := .code y :: k }
    | _ => none
  | .code (.loop c) :: k => some { s with todo := .code c :: .inLoop c :: k }
  | .inLoop c :: k => some { s with todo := .code c :: .inLoop c :: k }
  | .inRegion ops (i :: r) :: k => dropH (opC P H n ops i s (.inRegion ops r :: k)) []
  | _ => stepS P n s
def advC (P : Program) (H : List (Tmp × Nat)) (n : Nat) : Nat → St → St
  | 0, s => s
  | m + 1, s => match stepC P H n s with
    | some s' => advC P H n m s'
    | none => s
theorem opC_eqs {H : List (Tmp × Nat)} {n : Nat} {ops : Array Oper} {i : Nat} {s s' : St} {todo : List Item} {h : List (Nat × Nat)} (hs : dropH (opC P H n ops i s todo) h = some s') : ∀ p ∈ s.ms.eqs, p ∈ s'.ms.eqs := by
  unfold opC at hs
  split at hs
  · cases hs
  · rename_i o ho
    cases hq : opS P n ops i { s with hs := hintC H n s.env o.op :: s.hs } todo with
    | none => rw [hq] at hs; cases hs
    | some q =>
      rw [hq] at hs
      obtain rfl := Option.some.inj hs
      have := opS_eqs hq
      exact this
theorem stepC_eqs {H : List (Tmp × Nat)} {n : Nat} {s s' : St} (h : stepC P H n s = some s') : ∀ p ∈ s.ms.eqs, p ∈ s'.ms.eqs := by
  unfold stepC at h
  split at h
  · split at h
    · obtain rfl := Option.some.inj h; exact fun p hp => hp
    · obtain rfl := Option.some.inj h; exact fun p hp => hp
    · cases h
  · obtain rfl := Option.some.inj h; exact fun p hp => hp
  · obtain rfl := Option.some.inj h; exact fun p hp => hp
  · exact opC_eqs h
  · exact stepS_eqs h
theorem advC_eqs {H : List (Tmp × Nat)} {n : Nat} : ∀ (m : Nat) (s : St), ∀ p ∈ s.ms.eqs, p ∈ (advC P H n m s).ms.eqs
  | 0, _, p, hp => hp
  | m + 1, s, p, hp => by
    unfold advC
    split
    · rename_i s' hs; exact advC_eqs m s' p (stepC_eqs hs p hp)
    · exact hp
theorem stepC_sound {O : List Nat} {B n : Nat} {H : List (Tmp × Nat)} {s s' : St} {w : World}
    (h : stepC P H n s = some s') (hL : Lies O B w s.ms) (he : ∀ p ∈ s'.ms.eqs, p.1 = p.2)
    (hk : ∀ w', Lies O B w' s'.ms → Kept O B w w' → At P f R s'.todo (Fr n s'.env) w') : At P f R s.todo (Fr n s.env) w := by
  unfold stepC at h
  split at h
  · rename_i c x y k hc
    split at h
    · rename_i hv
      obtain rfl := Option.some.inj h
      rw [hc]
      exact at_steps (by simp) (fun _ => step_cond (t := true) (by rw [eval_Fr]; exact hv)) (hk w hL (.refl _ _ _))
    · rename_i hv
      obtain rfl := Option.some.inj h
      rw [hc]
      exact at_steps (by simp) (fun _ => step_cond (t := false) (by rw [eval_Fr]; exact hv)) (hk w hL (.refl _ _ _))
    · cases h
  · rename_i hc; obtain rfl := Option.some.inj h; rw [hc]; exact at_steps (by simp) (fun _ => step_loop) (hk w hL (.refl _ _ _))
  · rename_i hc; obtain rfl := Option.some.inj h; rw [hc]; exact at_steps (by simp) (fun _ => step_inLoop) (hk w hL (.refl _ _ _))
  · rename_i ops i r k hc
    rw [hc]
    unfold opC at h
    split at h
    · cases h
    · rename_i o ho
      cases hq : opS P n ops i { s with hs := hintC H n s.env o.op :: s.hs } (.inRegion ops r :: k) with
      | none => rw [hq] at h; cases h
      | some q =>
        rw [hq] at h
        obtain rfl := Option.some.inj h
        exact opS_sound (s := { s with hs := hintC H n s.env o.op :: s.hs }) (s' := q) hq hL he hk
  · exact stepS_sound h hL he hk
theorem advC_sound {O : List Nat} {B n : Nat} {H : List (Tmp × Nat)} : ∀ (m : Nat) (s : St) (w : World), Lies O B w s.ms → (∀ p ∈ (advC P H n m s).ms.eqs, p.1 = p.2) →
    (∀ w', Lies O B w' (advC P H n m s).ms → Kept O B w w' → At P f R (advC P H n m s).todo (Fr n (advC P H n m s).env) w') → At P f R s.todo (Fr n s.env) w
  | 0, s, w, hL, _, hk => hk w hL (.refl _ _ _)
  | m + 1, s, w, hL, he, hk => by
    unfold advC at he hk
    split at he
    · rename_i s' hs
      simp only [hs] at hk
      refine stepC_sound hs hL (fun p hp => he p (advC_eqs m s' p hp)) fun w' hL' hK => ?_
      exact advC_sound m s' w' hL' he fun w'' hL'' hK' => hk w'' hL'' (hK.trans hK')
    · rename_i hs
      simp only [hs] at hk
      exact hk w hL (.refl _ _ _)
end
end Go.Proofs.YtpdbkbadjgellaaGreatDoor

namespace Go.Proofs.YtpdbkbadjgellaaGreatDoor
open Go.RowKit
section
set_option maxRecDepth 100000
noncomputable def codeFU : Code := Tryz.f88.body.getD .skip
noncomputable def tU0 : List Item := advG [.code codeFU]
noncomputable def tU1 : List Item := advG (popOp tU0)
def memU (z : Nat) (m h d : Int) : List Ent := [⟨z, 0, [.int .i64 m, .int .i64 h, .int .i64 d], 85, true⟩]
def hU : List (Tmp × Nat) := [(13, 0), (15, 0), (17, 0), (4, 1), (5, 2), (27, 1), (38, 2), (49, 1), (57, 2)]
noncomputable def runU (E : Nat → Value) (z zz : Nat) (m h d : Int) : St := advC Tryz.prog hU 62 1500 ⟨elseT tU1, updL E [(1, pt z 0)], ⟨zz, memU z m h d, (0, 0), []⟩, []⟩
def RunsU (m h d : Int) (v : ByteArray) : Prop := ∀ (E : Nat → Value) (z zz : Nat), (fun a : St => (isRet a.todo, a.env 2, a.ms.eqs.map Prod.fst)) (runU E z zz m h d) = (true, .string v, (runU E z zz m h d).ms.eqs.map Prod.snd)
theorem below_unit {w wx wy : World} {m h d : Int} (hB : Below w.heap.size w wx) (hK : Kept ((memU w.heap.size m h d).map (·.id)) wx.heap.size wx wy) : Below w.heap.size w wy :=
  ⟨hK.os.trans hB.os, hK.tape.trans hB.tape, hK.output.trans hB.output, Nat.le_trans hB.size hK.size, fun i hi => (hK.block i (by have := hB.size; omega) (by simp [memU]; omega)).trans (hB.block i hi)⟩
theorem rfmt_of {m h d : Int} {v : ByteArray} (hu : isUnitB m h d = true) (hr : RunsU m h d v) (w : World) : Calls Tryz.prog 88 #[.agg #[.int .i64 m, .int .i64 h, .int .i64 d]] w fun e w' => e = .returned (.string v) ∧ Below w.heap.size w w' := by
  refine calls_at (args := [.agg #[.int .i64 m, .int .i64 h, .int .i64 d]]) (fn := Tryz.f88) (c := codeFU) (n := 62) (by kernel_rfl) (by kernel_rfl) (by kernel_rfl) (by kernel_rfl) ?_
  refine at_run (cntG 90 [.code codeFU]) [.code codeFU] w.heap.size [] [(0, 0)] tU0 [(1, pt w.heap.size 0), (10, .agg #[.int .i64 m, .int .i64 h, .int .i64 d])] (w.heap.size + 1) (memU w.heap.size m h d) (lies_nil w) (by kernel_rfl) fun w1 E1 L K => ?_
  have B := below_kept K
  replace L := lies_sz (lies_any L)
  clear K
  refine at_call 113 [.tmp 10] (some 11) [.agg #[.int .i64 m, .int .i64 h, .int .i64 d]] (by kernel_rfl) (by kernel_rfl) (by kernel_rfl) ?_
  refine (risUnit_any m h d w1).mono ?_
  rintro en w2 ⟨rfl, hB2⟩
  rw [hu]
  refine ⟨_, rfl, ?_⟩
  replace B := B.trans (hB2.mono B.size)
  replace L := lies_below L hB2
  clear hB2
  refine at_run (cntG 90 (popOp tU0)) (popOp tU0) w2.heap.size _ [] tU1 [(1, pt w.heap.size 0), (12, .bool false)] w2.heap.size (memU w.heap.size m h d) L (by kernel_rfl) fun w3 E3 L2 K => ?_
  replace B := below_unit B K
  replace L := lies_sz (lies_any L2)
  clear L2 K
  refine at_cond false (by kernel_rfl) (fun h => (by cases h)) (fun _ => ?_)
  refine at_known [(1, pt w.heap.size 0)] (by kernel_rfl) fun E4 => ?_
  have hrun := hr E4 w.heap.size w3.heap.size
  simp only [Prod.mk.injEq] at hrun
  obtain ⟨h1, h2, h3⟩ := hrun
  refine advC_sound (H := hU) 1500 ⟨elseT tU1, updL E4 [(1, pt w.heap.size 0)], ⟨w3.heap.size, memU w.heap.size m h d, (0, 0), []⟩, []⟩ w3 L (fun p hp => ?_) fun w5 _ K => ?_
  · obtain ⟨i, hi⟩ := List.mem_iff_getElem?.1 hp
    have g1 : ((runU E4 w.heap.size w3.heap.size m h d).ms.eqs.map Prod.fst)[i]? = some p.1 := by rw [List.getElem?_map]; show Option.map _ ((runU E4 w.heap.size w3.heap.size m h d).ms.eqs[i]?) = _; unfold runU; rw [hi]; rfl
    have g2 : ((runU E4 w.heap.size w3.heap.size m h d).ms.eqs.map Prod.snd)[i]? = some p.2 := by rw [List.getElem?_map]; unfold runU; rw [hi]; rfl
    rw [h3, g2] at g1
    exact (Option.some.inj g1).symm
  · refine at_known [(2, .string v)] (by simp only [List.map_cons, List.map_nil]; rw [← h2]; rfl) fun E5 => ?_
    refine at_ret (fn := Tryz.f88) h1 (by kernel_rfl) ⟨0, [], (0, 0), []⟩ (fun e he => (by cases he)) (.string v) (by kernel_rfl) (by kernel_rfl) ⟨rfl, below_unit B K⟩
theorem fu_000 : RunsU (-1) (-1) (-1) ⟨#[110, 117, 109, 98, 101, 114, 47, 109, 111, 110, 101, 121, 47, 104, 111, 117, 114, 115, 47, 100, 97, 121, 115]⟩ := fun E z zz => by kernel_rfl
theorem fu_001 : RunsU (-1) (-1) 0 ⟨#[110, 117, 109, 98, 101, 114, 47, 109, 111, 110, 101, 121, 47, 104, 111, 117, 114, 115]⟩ := fun E z zz => by kernel_rfl
theorem fu_002 : RunsU (-1) (-1) 1 ⟨#[100, 97, 121, 115, 47, 109, 111, 110, 101, 121, 47, 104, 111, 117, 114, 115]⟩ := fun E z zz => by kernel_rfl
theorem fu_010 : RunsU (-1) 0 (-1) ⟨#[110, 117, 109, 98, 101, 114, 47, 109, 111, 110, 101, 121, 47, 100, 97, 121, 115]⟩ := fun E z zz => by kernel_rfl
theorem fu_011 : RunsU (-1) 0 0 ⟨#[110, 117, 109, 98, 101, 114, 47, 109, 111, 110, 101, 121]⟩ := fun E z zz => by kernel_rfl
theorem fu_012 : RunsU (-1) 0 1 ⟨#[100, 97, 121, 115, 47, 109, 111, 110, 101, 121]⟩ := fun E z zz => by kernel_rfl
theorem fu_020 : RunsU (-1) 1 (-1) ⟨#[104, 111, 117, 114, 115, 47, 109, 111, 110, 101, 121, 47, 100, 97, 121, 115]⟩ := fun E z zz => by kernel_rfl
theorem fu_021 : RunsU (-1) 1 0 ⟨#[104, 111, 117, 114, 115, 47, 109, 111, 110, 101, 121]⟩ := fun E z zz => by kernel_rfl
theorem fu_022 : RunsU (-1) 1 1 ⟨#[104, 111, 117, 114, 115, 42, 100, 97, 121, 115, 47, 109, 111, 110, 101, 121]⟩ := fun E z zz => by kernel_rfl
theorem fu_100 : RunsU 0 (-1) (-1) ⟨#[110, 117, 109, 98, 101, 114, 47, 104, 111, 117, 114, 115, 47, 100, 97, 121, 115]⟩ := fun E z zz => by kernel_rfl
theorem fu_101 : RunsU 0 (-1) 0 ⟨#[110, 117, 109, 98, 101, 114, 47, 104, 111, 117, 114, 115]⟩ := fun E z zz => by kernel_rfl
theorem fu_102 : RunsU 0 (-1) 1 ⟨#[100, 97, 121, 115, 47, 104, 111, 117, 114, 115]⟩ := fun E z zz => by kernel_rfl
theorem fu_110 : RunsU 0 0 (-1) ⟨#[110, 117, 109, 98, 101, 114, 47, 100, 97, 121, 115]⟩ := fun E z zz => by kernel_rfl
theorem fu_111 : RunsU 0 0 0 ⟨#[110, 117, 109, 98, 101, 114]⟩ := fun E z zz => by kernel_rfl
theorem fu_112 : RunsU 0 0 1 ⟨#[100, 97, 121, 115]⟩ := fun E z zz => by kernel_rfl
theorem fu_120 : RunsU 0 1 (-1) ⟨#[104, 111, 117, 114, 115, 47, 100, 97, 121, 115]⟩ := fun E z zz => by kernel_rfl
theorem fu_121 : RunsU 0 1 0 ⟨#[104, 111, 117, 114, 115]⟩ := fun E z zz => by kernel_rfl
theorem fu_122 : RunsU 0 1 1 ⟨#[104, 111, 117, 114, 115, 42, 100, 97, 121, 115]⟩ := fun E z zz => by kernel_rfl
theorem fu_200 : RunsU 1 (-1) (-1) ⟨#[109, 111, 110, 101, 121, 47, 104, 111, 117, 114, 115, 47, 100, 97, 121, 115]⟩ := fun E z zz => by kernel_rfl
theorem fu_201 : RunsU 1 (-1) 0 ⟨#[109, 111, 110, 101, 121, 47, 104, 111, 117, 114, 115]⟩ := fun E z zz => by kernel_rfl
theorem fu_202 : RunsU 1 (-1) 1 ⟨#[109, 111, 110, 101, 121, 42, 100, 97, 121, 115, 47, 104, 111, 117, 114, 115]⟩ := fun E z zz => by kernel_rfl
theorem fu_210 : RunsU 1 0 (-1) ⟨#[109, 111, 110, 101, 121, 47, 100, 97, 121, 115]⟩ := fun E z zz => by kernel_rfl
theorem fu_211 : RunsU 1 0 0 ⟨#[109, 111, 110, 101, 121]⟩ := fun E z zz => by kernel_rfl
theorem fu_212 : RunsU 1 0 1 ⟨#[109, 111, 110, 101, 121, 42, 100, 97, 121, 115]⟩ := fun E z zz => by kernel_rfl
theorem fu_220 : RunsU 1 1 (-1) ⟨#[109, 111, 110, 101, 121, 42, 104, 111, 117, 114, 115, 47, 100, 97, 121, 115]⟩ := fun E z zz => by kernel_rfl
theorem fu_221 : RunsU 1 1 0 ⟨#[109, 111, 110, 101, 121, 42, 104, 111, 117, 114, 115]⟩ := fun E z zz => by kernel_rfl
theorem fu_222 : RunsU 1 1 1 ⟨#[109, 111, 110, 101, 121, 42, 104, 111, 117, 114, 115, 42, 100, 97, 121, 115]⟩ := fun E z zz => by kernel_rfl
def unitText (m h d : Int) : ByteArray :=
  bif (m == (-1) && (h == (-1) && d == (-1))) then ⟨#[110, 117, 109, 98, 101, 114, 47, 109, 111, 110, 101, 121, 47, 104, 111, 117, 114, 115, 47, 100, 97, 121, 115]⟩ else
  bif (m == (-1) && (h == (-1) && d == 0)) then ⟨#[110, 117, 109, 98, 101, 114, 47, 109, 111, 110, 101, 121, 47, 104, 111, 117, 114, 115]⟩ else
  bif (m == (-1) && (h == (-1) && d == 1)) then ⟨#[100, 97, 121, 115, 47, 109, 111, 110, 101, 121, 47, 104, 111, 117, 114, 115]⟩ else
  bif (m == (-1) && (h == 0 && d == (-1))) then ⟨#[110, 117, 109, 98, 101, 114, 47, 109, 111, 110, 101, 121, 47, 100, 97, 121, 115]⟩ else
  bif (m == (-1) && (h == 0 && d == 0)) then ⟨#[110, 117, 109, 98, 101, 114, 47, 109, 111, 110, 101, 121]⟩ else
  bif (m == (-1) && (h == 0 && d == 1)) then ⟨#[100, 97, 121, 115, 47, 109, 111, 110, 101, 121]⟩ else
  bif (m == (-1) && (h == 1 && d == (-1))) then ⟨#[104, 111, 117, 114, 115, 47, 109, 111, 110, 101, 121, 47, 100, 97, 121, 115]⟩ else
  bif (m == (-1) && (h == 1 && d == 0)) then ⟨#[104, 111, 117, 114, 115, 47, 109, 111, 110, 101, 121]⟩ else
  bif (m == (-1) && (h == 1 && d == 1)) then ⟨#[104, 111, 117, 114, 115, 42, 100, 97, 121, 115, 47, 109, 111, 110, 101, 121]⟩ else
  bif (m == 0 && (h == (-1) && d == (-1))) then ⟨#[110, 117, 109, 98, 101, 114, 47, 104, 111, 117, 114, 115, 47, 100, 97, 121, 115]⟩ else
  bif (m == 0 && (h == (-1) && d == 0)) then ⟨#[110, 117, 109, 98, 101, 114, 47, 104, 111, 117, 114, 115]⟩ else
  bif (m == 0 && (h == (-1) && d == 1)) then ⟨#[100, 97, 121, 115, 47, 104, 111, 117, 114, 115]⟩ else
  bif (m == 0 && (h == 0 && d == (-1))) then ⟨#[110, 117, 109, 98, 101, 114, 47, 100, 97, 121, 115]⟩ else
  bif (m == 0 && (h == 0 && d == 0)) then ⟨#[110, 117, 109, 98, 101, 114]⟩ else
  bif (m == 0 && (h == 0 && d == 1)) then ⟨#[100, 97, 121, 115]⟩ else
  bif (m == 0 && (h == 1 && d == (-1))) then ⟨#[104, 111, 117, 114, 115, 47, 100, 97, 121, 115]⟩ else
  bif (m == 0 && (h == 1 && d == 0)) then ⟨#[104, 111, 117, 114, 115]⟩ else
  bif (m == 0 && (h == 1 && d == 1)) then ⟨#[104, 111, 117, 114, 115, 42, 100, 97, 121, 115]⟩ else
  bif (m == 1 && (h == (-1) && d == (-1))) then ⟨#[109, 111, 110, 101, 121, 47, 104, 111, 117, 114, 115, 47, 100, 97, 121, 115]⟩ else
  bif (m == 1 && (h == (-1) && d == 0)) then ⟨#[109, 111, 110, 101, 121, 47, 104, 111, 117, 114, 115]⟩ else
  bif (m == 1 && (h == (-1) && d == 1)) then ⟨#[109, 111, 110, 101, 121, 42, 100, 97, 121, 115, 47, 104, 111, 117, 114, 115]⟩ else
  bif (m == 1 && (h == 0 && d == (-1))) then ⟨#[109, 111, 110, 101, 121, 47, 100, 97, 121, 115]⟩ else
  bif (m == 1 && (h == 0 && d == 0)) then ⟨#[109, 111, 110, 101, 121]⟩ else
  bif (m == 1 && (h == 0 && d == 1)) then ⟨#[109, 111, 110, 101, 121, 42, 100, 97, 121, 115]⟩ else
  bif (m == 1 && (h == 1 && d == (-1))) then ⟨#[109, 111, 110, 101, 121, 42, 104, 111, 117, 114, 115, 47, 100, 97, 121, 115]⟩ else
  bif (m == 1 && (h == 1 && d == 0)) then ⟨#[109, 111, 110, 101, 121, 42, 104, 111, 117, 114, 115]⟩ else
  ⟨#[109, 111, 110, 101, 121, 42, 104, 111, 117, 114, 115, 42, 100, 97, 121, 115]⟩
theorem unit_cases {m : Int} (h0 : -1 ≤ m) (h1 : m ≤ 1) : m = -1 ∨ m = 0 ∨ m = 1 := by omega
theorem rfmtUnit_any (m h d : Int) (w : World) (m0 : -1 ≤ m) (m1 : m ≤ 1) (h0 : -1 ≤ h) (h1 : h ≤ 1) (d0 : -1 ≤ d) (d1 : d ≤ 1) : Calls Tryz.prog 88 #[.agg #[.int .i64 m, .int .i64 h, .int .i64 d]] w fun e w' => e = .returned (.string (unitText m h d)) ∧ Below w.heap.size w w' := by
  rcases unit_cases m0 m1 with rfl | rfl | rfl <;> rcases unit_cases h0 h1 with rfl | rfl | rfl <;> rcases unit_cases d0 d1 with rfl | rfl | rfl
  · exact rfmt_of (v := ⟨#[110, 117, 109, 98, 101, 114, 47, 109, 111, 110, 101, 121, 47, 104, 111, 117, 114, 115, 47, 100, 97, 121, 115]⟩) (by decide) fu_000 w
  · exact rfmt_of (v := ⟨#[110, 117, 109, 98, 101, 114, 47, 109, 111, 110, 101, 121, 47, 104, 111, 117, 114, 115]⟩) (by decide) fu_001 w
  · exact rfmt_of (v := ⟨#[100, 97, 121, 115, 47, 109, 111, 110, 101, 121, 47, 104, 111, 117, 114, 115]⟩) (by decide) fu_002 w
  · exact rfmt_of (v := ⟨#[110, 117, 109, 98, 101, 114, 47, 109, 111, 110, 101, 121, 47, 100, 97, 121, 115]⟩) (by decide) fu_010 w
  · exact rfmt_of (v := ⟨#[110, 117, 109, 98, 101, 114, 47, 109, 111, 110, 101, 121]⟩) (by decide) fu_011 w
  · exact rfmt_of (v := ⟨#[100, 97, 121, 115, 47, 109, 111, 110, 101, 121]⟩) (by decide) fu_012 w
  · exact rfmt_of (v := ⟨#[104, 111, 117, 114, 115, 47, 109, 111, 110, 101, 121, 47, 100, 97, 121, 115]⟩) (by decide) fu_020 w
  · exact rfmt_of (v := ⟨#[104, 111, 117, 114, 115, 47, 109, 111, 110, 101, 121]⟩) (by decide) fu_021 w
  · exact rfmt_of (v := ⟨#[104, 111, 117, 114, 115, 42, 100, 97, 121, 115, 47, 109, 111, 110, 101, 121]⟩) (by decide) fu_022 w
  · exact rfmt_of (v := ⟨#[110, 117, 109, 98, 101, 114, 47, 104, 111, 117, 114, 115, 47, 100, 97, 121, 115]⟩) (by decide) fu_100 w
  · exact rfmt_of (v := ⟨#[110, 117, 109, 98, 101, 114, 47, 104, 111, 117, 114, 115]⟩) (by decide) fu_101 w
  · exact rfmt_of (v := ⟨#[100, 97, 121, 115, 47, 104, 111, 117, 114, 115]⟩) (by decide) fu_102 w
  · exact rfmt_of (v := ⟨#[110, 117, 109, 98, 101, 114, 47, 100, 97, 121, 115]⟩) (by decide) fu_110 w
  · exact rfmt_of (v := ⟨#[110, 117, 109, 98, 101, 114]⟩) (by decide) fu_111 w
  · exact rfmt_of (v := ⟨#[100, 97, 121, 115]⟩) (by decide) fu_112 w
  · exact rfmt_of (v := ⟨#[104, 111, 117, 114, 115, 47, 100, 97, 121, 115]⟩) (by decide) fu_120 w
  · exact rfmt_of (v := ⟨#[104, 111, 117, 114, 115]⟩) (by decide) fu_121 w
  · exact rfmt_of (v := ⟨#[104, 111, 117, 114, 115, 42, 100, 97, 121, 115]⟩) (by decide) fu_122 w
  · exact rfmt_of (v := ⟨#[109, 111, 110, 101, 121, 47, 104, 111, 117, 114, 115, 47, 100, 97, 121, 115]⟩) (by decide) fu_200 w
  · exact rfmt_of (v := ⟨#[109, 111, 110, 101, 121, 47, 104, 111, 117, 114, 115]⟩) (by decide) fu_201 w
  · exact rfmt_of (v := ⟨#[109, 111, 110, 101, 121, 42, 100, 97, 121, 115, 47, 104, 111, 117, 114, 115]⟩) (by decide) fu_202 w
  · exact rfmt_of (v := ⟨#[109, 111, 110, 101, 121, 47, 100, 97, 121, 115]⟩) (by decide) fu_210 w
  · exact rfmt_of (v := ⟨#[109, 111, 110, 101, 121]⟩) (by decide) fu_211 w
  · exact rfmt_of (v := ⟨#[109, 111, 110, 101, 121, 42, 100, 97, 121, 115]⟩) (by decide) fu_212 w
  · exact rfmt_of (v := ⟨#[109, 111, 110, 101, 121, 42, 104, 111, 117, 114, 115, 47, 100, 97, 121, 115]⟩) (by decide) fu_220 w
  · exact rfmt_of (v := ⟨#[109, 111, 110, 101, 121, 42, 104, 111, 117, 114, 115]⟩) (by decide) fu_221 w
  · exact rfmt_of (v := ⟨#[109, 111, 110, 101, 121, 42, 104, 111, 117, 114, 115, 42, 100, 97, 121, 115]⟩) (by decide) fu_222 w
theorem unitText_size (m h d : Int) : (unitText m h d).size ≤ 24 := by
  unfold unitText
  repeat' (first | (show ByteArray.size ⟨_⟩ ≤ 24; decide) | (rw [cond_eq_ite]; split))
end
end Go.Proofs.YtpdbkbadjgellaaGreatDoor

namespace Go.Proofs.YtpdbkbadjgellaaGreatDoor
open Go.RowKit
theorem conv_one (w : World) (n : Int) : (convert 73 9 (.slice (some ⟨w.heap.size, 0, none⟩) 1 1)).run Tryz.prog (w.alloc (.cells #[.int .u8 n] 5)) = .ok (.string ⟨[UInt8.ofNat n.toNat].toArray⟩) (w.alloc (.cells #[.int .u8 n] 5)) :=
  run_convert_bytes_arg _ 73 5 Tryz.underlying73 Tryz.underlying5 w.heap.size 0 1 1 [n] rfl (fun i hi => by
    obtain rfl : i = 0 := by omega
    simp) 9 Tryz.underlying9
theorem conv_two (w : World) (n m : Int) : (convert 73 9 (.slice (some ⟨w.heap.size, 0, none⟩) 2 2)).run Tryz.prog (w.alloc (.cells #[.int .u8 n, .int .u8 m] 5)) = .ok (.string ⟨[UInt8.ofNat n.toNat, UInt8.ofNat m.toNat].toArray⟩) (w.alloc (.cells #[.int .u8 n, .int .u8 m] 5)) :=
  run_convert_bytes_arg _ 73 5 Tryz.underlying73 Tryz.underlying5 w.heap.size 0 2 2 [n, m] rfl (fun i hi => by
    rcases (show i = 0 ∨ i = 1 by omega) with rfl | rfl <;> simp) 9 Tryz.underlying9
attribute [local go_sem] ba_get ba_extract take_rest ba_append conv_one conv_two

/-- What stands in the text s while the digits of m are still to come. -/
def DecPre (D : List UInt8) (m : Nat) (s : List UInt8) : Prop := (s = [] ∧ D = Lib.decDigits m) ∨ (s ≠ [] ∧ ((m = 0 ∧ s = D) ∨ (0 < m ∧ Lib.decDigits m ++ s = D)))
theorem dec_last (m : Nat) : Lib.decDigits m = (if m < 10 then [] else Lib.decDigits (m / 10)) ++ [UInt8.ofNat (48 + m % 10)] := by
  rw [Lib.decDigits]
  split
  · rename_i h; rw [Nat.mod_eq_of_lt h]; rfl
  · rfl
theorem DecPre.next {D : List UInt8} {m : Nat} {s : List UInt8} (h : DecPre D m s) (hc : 0 < m ∨ s = []) : DecPre D (m / 10) (UInt8.ofNat (48 + m % 10) :: s) := by
  have hD : Lib.decDigits m ++ s = D := by
    rcases h with ⟨rfl, rfl⟩ | ⟨h1, ⟨h2, h3⟩ | ⟨_, h2⟩⟩
    · simp
    · rcases hc with hc | hc
      · omega
      · exact (h1 hc).elim
    · exact h2
  rw [dec_last m, List.append_assoc] at hD
  refine .inr ⟨by simp, ?_⟩
  by_cases h10 : m < 10
  · rw [if_pos h10] at hD
    exact .inl ⟨by omega, hD⟩
  · rw [if_neg h10] at hD
    exact .inr ⟨by omega, hD⟩
theorem DecPre.len {n : Int} {m : Nat} {s : List UInt8} (h : DecPre (Lib.decDigits n.natAbs) m s) (h0 : -4000000000000000000 ≤ n) (h1 : n ≤ 4000000000000000000) : s.length ≤ 22 := by
  have hl : (Lib.decDigits n.natAbs).length ≤ 21 := by
    have := Lib.itoa_length_le (n.natAbs : Nat) (by omega) (by omega)
    unfold Lib.itoa at this
    rw [if_neg (by omega)] at this
    simpa using this
  rcases h with ⟨rfl, _⟩ | ⟨_, ⟨_, rfl⟩ | ⟨_, e⟩⟩
  · simp
  · omega
  · have := congrArg List.length e
    rw [List.length_append] at this
    omega
theorem DecPre.done {D : List UInt8} {s : List UInt8} (h : DecPre D 0 s) (hs : s ≠ []) : s = D := by
  rcases h with ⟨e, _⟩ | ⟨_, ⟨_, e⟩ | ⟨e, _⟩⟩
  · exact (hs e).elim
  · exact e
  · omega
def emptyOf : Value → Nat
  | .string ⟨⟨[]⟩⟩ => 1
  | _ => 0
theorem emptyOf_cons (c : UInt8) (l : List UInt8) : emptyOf (.string ⟨(c :: l).toArray⟩) = 0 := rfl
theorem byte_add (k : Nat) : 48 + UInt8.ofNat k = UInt8.ofNat (48 + k) := by simp [UInt8.ofNat_add]

set_option maxHeartbeats 2000000 in
set_option maxRecDepth 100000 in
theorem rdecimal_any (n : Int) (w : World) (h0 : -4000000000000000000 ≤ n) (h1 : n ≤ 4000000000000000000) :
    Calls Tryz.prog 39 #[.int .i64 n] w fun e w' => e = .returned (.string ⟨(Lib.itoa n).toArray⟩) ∧ Below w.heap.size w w' := by
  go_enter Tryz.func39, Tryz.ntmps39
  go_wp2_with fail
  refine (size_any n _ h0 h1).mono ?_
  rintro e w' ⟨rfl, rfl⟩
  go_wp2_with fail
  go_loopw [3, 4] (fun s m wr => ∃ (l : List UInt8) (k : Nat), s = .string ⟨l.toArray⟩ ∧ m = .int .u64 (k : Nat) ∧ k ≤ 4000000000000000000 ∧ Hid (DecPre (Lib.decDigits n.natAbs) k l) ∧ l.length ≤ 22 ∧ Below w.heap.size w wr) (fun s m _ => 2 * (intOf m).toNat + emptyOf s)
  case atStart => exact ⟨[], n.natAbs, rfl, rfl, by omega, .inl ⟨rfl, rfl⟩, by simp, Below.refl _ _⟩
  case round =>
    obtain ⟨l, k, rfl, rfl, hk, HD, hl, hB⟩ := hrel
    have HB := Lib.hid hB
    by_cases hc : 0 < k ∨ l = []
    · have HN := Lib.hid (HD.out.next hc)
      have HL : Hid ((UInt8.ofNat (48 + k % 10) :: l).length ≤ 22) := HN.out.len h0 h1
      have hm : k % 10 < 10 := Nat.mod_lt _ (by decide)
      by_cases hk0 : 0 < k
      · clear hc hB
        go_wp2_with fail
        go_round
        case rel => exact ⟨UInt8.ofNat (48 + k % 10) :: l, k / 10, by simp, by go_num, by omega, HN, HL.out, HB.out.alloc HB.out.size _⟩
        case measure =>
          rw [byte_add, emptyOf_cons]
          show 2 * ((k : Int) / 10).toNat + 0 < 2 * (k : Int).toNat + _
          omega
      · have hl0 : l = [] := by rcases hc with h | h; exact (hk0 h).elim; exact h
        have hk1 : k = 0 := by omega
        subst hl0 hk1
        clear hc hB hk0
        go_wp2_with fail
        go_round
        case rel => exact ⟨[48], 0, by simp, by go_num, by omega, HN, by simp, HB.out.alloc HB.out.size _⟩
        case measure => decide
    · have hk0 : k = 0 := by omega
      subst hk0
      have hl0 : l ≠ [] := fun e => hc (.inr e)
      have HE := Lib.hid (HD.out.done hl0)
      obtain ⟨c, r, rfl⟩ := List.exists_cons_of_ne_nil hl0
      have hl0 : (c :: r).isEmpty = false := rfl
      have hl1 : r.length ≤ 21 := by simpa using hl
      clear hl
      clear hc hB
      by_cases hn : n < 0
      · have HI : Hid (Lib.itoa n = 45 :: (c :: r)) := by show _ = _; unfold Lib.itoa; rw [if_pos hn, HE.out]
        go_wp2_with fail
        go_ret
        exact ⟨ret_str (by rw [HI.out]), HB.out⟩
      · have HI : Hid (Lib.itoa n = c :: r) := by show _ = _; unfold Lib.itoa; rw [if_neg hn, HE.out, show n.toNat = n.natAbs by omega]
        go_wp2_with fail
        go_ret
        exact ⟨ret_str HI.out.symm, HB.out⟩
/-- Two digits. -/
def twoD (n : Int) : List UInt8 := [UInt8.ofNat (48 + n / 10).toNat, UInt8.ofNat (48 + n % 10).toNat]
theorem rtwo_any (n : Int) (w : World) (h0 : 0 ≤ n) (h1 : n ≤ 99) :
    Calls Tryz.prog 83 #[.int .i64 n] w fun e w' => e = .returned (.string ⟨(twoD n).toArray⟩) ∧ Below w.heap.size w w' := by
  have hq : 0 ≤ n / 10 ∧ n / 10 ≤ 9 := by omega
  have hm : 0 ≤ n % 10 ∧ n % 10 ≤ 9 := by omega
  obtain ⟨q1, q2⟩ := hq
  obtain ⟨m1, m2⟩ := hm
  go_enter Tryz.func83, Tryz.ntmps83
  go_wp2_with fail
  go_ret
  exact ⟨rfl, (Below.refl _ _).alloc (Nat.le_refl _) _⟩
end Go.Proofs.YtpdbkbadjgellaaGreatDoor

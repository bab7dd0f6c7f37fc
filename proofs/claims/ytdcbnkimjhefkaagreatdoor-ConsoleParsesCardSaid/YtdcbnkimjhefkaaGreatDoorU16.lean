/-
 Regions with guards (&&, ||) whose Bools are open: every guarded operation is carried out as if it were wanted; which slots are there in truth is told by a list of guards.
 Code on closed values: tests and loops are run too. Which entry of the known memory an address slot points into is told by slot.
-/
import Derived.Test.YtdcbnkimjhefkaaGreatDoorU15
import Derived.Deep.Quiet
import Derived.Below
namespace Go.Proofs.YtdcbnkimjhefkaaGreatDoor
open Go.RowKit
section
variable {P : Program} {ops : Array Oper} {n : Nat} {C : World → Prop}

abbrev Cx := List (Tmp × Bool)
def cxOf : List (Tmp × Cx) → Tmp → Cx
 | [], _ => []
 | p :: r, t => match Nat.beq p.1 t with
  | true => p.2
  | false => cxOf r t
def hasCx (p : Tmp × Bool) : Cx → Bool
 | [] => false
 | q :: r => (Nat.beq p.1 q.1 && (p.2 == q.2)) || hasCx p r
def subCx : Cx → Cx → Bool
 | [], _ => true
 | p :: r, c => hasCx p c && subCx r c
def freeCx (d : Tmp) : Cx → Bool
 | [] => true
 | q :: r => !(Nat.beq q.1 d) && freeCx d r
def freeAll (d : Tmp) : List (Tmp × Cx) → Bool
 | [] => true
 | p :: r => freeCx d p.2 && freeAll d r
def holds (G : Nat → Value) (c : Cx) : Prop := ∀ p ∈ c, G p.1 = .bool p.2
theorem hasCx_mem {p : Tmp × Bool} : ∀ {c : Cx}, hasCx p c = true → p ∈ c
 | [], h => by cases h
 | q :: r, h => by
  unfold hasCx at h
  rw [Bool.or_eq_true, Bool.and_eq_true] at h
  rcases h with ⟨h1, h2⟩ | h
  ·have e1 := Nat.eq_of_beq_eq_true h1
   have e2 : p.2 = q.2 := by simpa using h2
   have : p = q := Prod.ext e1 e2
   simp [this]
  ·exact List.mem_cons_of_mem _ (hasCx_mem h)
theorem subCx_holds {G : Nat → Value} {c : Cx} (hc : holds G c) : ∀ {a : Cx}, subCx a c = true → holds G a
 | [], _ => fun p hp => by cases hp
 | p :: r, h => by
  unfold subCx at h
  rw [Bool.and_eq_true] at h
  intro q hq
  rcases List.mem_cons.1 hq with rfl | hq
  ·exact hc _ (hasCx_mem h.1)
  ·exact subCx_holds hc h.2 q hq
theorem freeCx_holds {G : Nat → Value} {d : Tmp} {v : Value} : ∀ {c : Cx}, freeCx d c = true → (holds (upd G d v) c ↔ holds G c)
 | [], _ => ⟨fun _ p hp => (by cases hp), fun _ p hp => (by cases hp)⟩
 | q :: r, h => by
  unfold freeCx at h
  rw [Bool.and_eq_true] at h
  have ih := freeCx_holds (G := G) (v := v) h.2
  have hq : upd G d v q.1 = G q.1 := by
   unfold upd
   rw [if_neg]
   intro e
   have : Nat.beq q.1 d = true := by rw [e]; exact Nat.beq_refl d
   rw [this] at h
   cases h.1
  constructor
  ·intro hh p hp
   rcases List.mem_cons.1 hp with rfl | hp
   ·rw [← hq]; exact hh _ (by simp)
   ·exact ih.1 (fun p hp => hh p (by simp [hp])) p hp
  ·intro hh p hp
   rcases List.mem_cons.1 hp with rfl | hp
   ·rw [hq]; exact hh _ (by simp)
   ·exact ih.2 (fun p hp => hh p (by simp [hp])) p hp
theorem freeAll_cx {d : Tmp} : ∀ {cx : List (Tmp × Cx)} (t : Tmp), freeAll d cx = true → freeCx d (cxOf cx t) = true
 | [], _, _ => rfl
 | p :: r, t, h => by
  unfold freeAll at h
  rw [Bool.and_eq_true] at h
  unfold cxOf
  split
  ·exact h.1
  ·exact freeAll_cx t h.2

def Rel (G : Nat → Value) (cx : List (Tmp × Cx)) (E : Nat → Value) : Prop := ∀ t, (holds G (cxOf cx t) → E t = G t) ∧ (¬ holds G (cxOf cx t) → E t = undef)
theorem Rel.start (G : Nat → Value) : Rel G [] G := fun _ => ⟨fun _ => rfl, fun h => (h (fun p hp => by cases hp)).elim⟩
def ghEnv (G : Nat → Value) (cx : List (Tmp × Cx)) (c : Cx) (X : Nat → Value) : Nat → Value := fun t => match subCx (cxOf cx t) c with
 | true => G t
 | false => X t
theorem ghEnv_self {G E : Nat → Value} {cx : List (Tmp × Cx)} {c : Cx} (h : Rel G cx E) (hc : holds G c) : ghEnv G cx c E = E := by
 funext t
 unfold ghEnv
 split
 ·rename_i hs; exact ((h t).1 (subCx_holds hc hs)).symm
 ·rfl
theorem Rel.put {G E : Nat → Value} {cx : List (Tmp × Cx)} {c : Cx} {v u : Value} (h : Rel G cx E) (d : Tmp) (hf : freeAll d cx = true) (hfc : freeCx d c = true) (hu : (holds G c → u = v) ∧ (¬ holds G c → u = undef)) : Rel (upd G d v) ((d, c) :: cx) (upd E d u) := by
 intro t
 unfold cxOf
 by_cases ht : d = t
 ·subst ht
  simp only [Nat.beq_refl]
  rw [freeCx_holds hfc]
  simp only [upd, if_true]
  exact hu
 ·have hb : Nat.beq d t = false := by
   cases hh : Nat.beq d t with
   | false => rfl
   | true => exact (ht (Nat.eq_of_beq_eq_true hh)).elim
  simp only [hb]
  rw [freeCx_holds (freeAll_cx t hf)]
  have h1 : upd E d u t = E t := by unfold upd; rw [if_neg (fun e => ht e.symm)]
  have h2 : upd G d v t = G t := by unfold upd; rw [if_neg (fun e => ht e.symm)]
  rw [h1, h2]
  exact h t

/-! ### One operation -/
structure Sp where
 i : Nat
 l : List (Tmp × Value)
 v : Value
 cond : Bool
def spOf : List Sp → Nat → Option Sp
 | [], _ => none
 | s :: r, i => match Nat.beq s.i i with
  | true => some s
  | false => spOf r i
def ctxB (G : Nat → Value) : Cx → Bool
 | [] => true
 | p :: r => (match G p.1 with
  | .bool b => (match p.2 with
   | true => b
   | false => !b)
  | _ => false) && ctxB G r
theorem ctxB_holds {G : Nat → Value} : ∀ {c : Cx}, holds G c → ctxB G c = true
 | [], _ => rfl
 | p :: r, h => by
  unfold ctxB
  rw [h p (by simp)]
  have ih := ctxB_holds (G := G) (c := r) (fun q hq => h q (by simp [hq]))
  rw [ih]
  obtain ⟨t, b⟩ := p
  cases b <;> rfl
def mergeV (b : Bool) : Value → Value → Value
 | .bool x, .bool y => .bool (cond b x y)
 | x, y => cond b x y
theorem mergeV_eq (b : Bool) (x y : Value) : mergeV b x y = cond b x y := by
 unfold mergeV
 split
 ·cases b <;> rfl
 ·rfl
def hintOf : List (Nat × Nat × Nat) → Nat → Nat × Nat
 | [], _ => (0, 0)
 | p :: r, i => match Nat.beq p.1 i with
  | true => p.2
  | false => hintOf r i
def okAt (cx : List (Tmp × Cx)) (c : Cx) : Operand → Bool
 | .tmp t => subCx (cxOf cx t) c
 | _ => true
structure GhIn where
 mem : List Ent
 hints : List (Nat × Nat × Nat)
 specs : List Sp
structure GS where
 G : Nat → Value
 cx : List (Tmp × Cx)
def ctxOf (n : Nat) (ops : Array Oper) (o : Oper) (cx : List (Tmp × Cx)) : Option Cx :=
 match o.guard with
 | none => some []
 | some (g, want) => match (ops[g]?).bind (·.dst) with
  | some t => match Nat.blt t n with
   | true => some ((t, want) :: cxOf cx t)
   | false => none
  | none => none
def plain (P : Program) (n : Nat) (I : GhIn) (i : Nat) (o : Oper) (s : GS) (c : Cx) (X : Nat → Value) : Option (Next × MS) := lrun P (execOp (evE n (ghEnv s.G s.cx c X)) o) ⟨0, I.mem, hintOf I.hints i, []⟩
def strAdd (n : Nat) (s : GS) (c : Cx) : Op → Option (ByteArray × ByteArray)
 | .binOp .add _ x y _ => match okAt s.cx c x && okAt s.cx c y with
  | true => match evE n s.G x, evE n s.G y with
   | .string a, .string b => some (a, b)
   | _, _ => none
  | false => none
 | _ => none
def ghVal (P : Program) (n : Nat) (I : GhIn) (i : Nat) (o : Oper) (s : GS) (c : Cx) : Option Value :=
 match spOf I.specs i with
 | some sp => match sp.l.all (fun p => subCx (cxOf s.cx p.1) c) with
  | true => some sp.v
  | false => none
 | none => match o.op with
  | .pick (.tmp t) x y => match subCx (cxOf s.cx t) c && (okAt s.cx ((t, true) :: c) x && okAt s.cx ((t, false) :: c) y) with
   | true => match evE n s.G (.tmp t) with
    | .bool b => some (mergeV b (evE n s.G x) (evE n s.G y))
    | _ => none
   | false => none
  | _ => match strAdd n s c o.op with
   | some (a, b) => some (.string (a ++ b))
   | none => match plain P n I i o s c (fun _ => undef) with
    | some (.value v, _) => some v
    | _ => none
def ghPairs1 (P : Program) (n : Nat) (I : GhIn) (X : Nat → Value) (i : Nat) (o : Oper) (s : GS) (c : Cx) : List ((Option Next × List Nat) × (Option Next × List Nat)) :=
 match spOf I.specs i with
 | some sp => ((some (.value (.bool sp.cond)), []), (some (.value (.bool (ctxB s.G c))), [])) :: sp.l.map (fun p => ((some (.value (evE n s.G (.tmp p.1))), []), (some (.value p.2), [])))
 | none => match o.op with
  | .pick (.tmp _) _ _ => []
  | _ => match strAdd n s c o.op with
   | some _ => []
   | none => match plain P n I i o s c X with
    | some (r, m) => [((some r, m.eqs.map Prod.fst), ((plain P n I i o s c (fun _ => undef)).map (·.1), m.eqs.map Prod.snd))]
    | none => [((none, []), (some .skip, []))]
def ghObl1 (n : Nat) (I : GhIn) (i : Nat) (o : Oper) (s : GS) (c : Cx) : List Nat :=
 match spOf I.specs i with
 | some _ => []
 | none => match strAdd n s c o.op with
  | some (a, b) => [a.size + b.size]
  | none => []
def ghStep (P : Program) (n : Nat) (ops : Array Oper) (I : GhIn) (i : Nat) (s : GS) : Option (Oper × Cx × GS) :=
 match ops[i]? with
 | none => none
 | some o => match ctxOf n ops o s.cx with
  | none => none
  | some c => match ghVal P n I i o s c, o.dst with
   | some v, some d => match freeAll d s.cx && freeCx d c with
    | true => some (o, c, ⟨upd s.G d v, (d, c) :: s.cx⟩)
    | false => none
   | _, _ => none
def ghRun (P : Program) (n : Nat) (ops : Array Oper) (I : GhIn) : List Nat → GS → Option GS
 | [], s => some s
 | i :: r, s => match ghStep P n ops I i s with
  | some (_, _, s') => ghRun P n ops I r s'
  | none => none
def ghPairs (P : Program) (n : Nat) (ops : Array Oper) (I : GhIn) (X : Nat → Value) : List Nat → GS → List ((Option Next × List Nat) × (Option Next × List Nat))
 | [], _ => []
 | i :: r, s => match ghStep P n ops I i s with
  | some (o, c, s') => ghPairs1 P n I X i o s c ++ ghPairs P n ops I X r s'
  | none => []

def ghObl (P : Program) (n : Nat) (ops : Array Oper) (I : GhIn) : List Nat → GS → List Nat
 | [], _ => []
 | i :: r, s => match ghStep P n ops I i s with
  | some (o, c, s') => ghObl1 n I i o s c ++ ghObl P n ops I r s'
  | none => []
theorem exec_add {o : Oper} {ρ : Operand → Value} {w : World} {T T' : TypeId} {x y : Operand} {a b : ByteArray} (hop : o.op = .binOp .add T x y T') (hx : ρ x = .string a) (hy : ρ y = .string b) (hs : ((a.size + b.size : Nat) : Int) ≤ IntKind.i64.max) : (execOp ρ o).run P w = .ok (.value (.string (a ++ b))) w := by
 have h2 : ¬ ((a.size + b.size : Nat) : Int) > IntKind.i64.max := by omega
 unfold execOp
 simp only [hop, hx, hy]
 unfold binOp Op.stringOp
 simp [eqGuard]
 have h3 : IntKind.i64.max = 9223372036854775807 := by decide
 omega

theorem wanted_ctx {o : Oper} {s : GS} {E : Nat → Value} {c : Cx} (hr : Rel s.G s.cx E) (hc : ctxOf n ops o s.cx = some c) : (holds s.G c → Region.wanted o (yieldE n ops E) = true) ∧ (¬ holds s.G c → Region.wanted o (yieldE n ops E) = false) := by
 unfold ctxOf at hc
 unfold Region.wanted
 split at hc
 ·rename_i hg
  obtain rfl := Option.some.inj hc
  simp only [hg]
  exact ⟨fun _ => trivial, fun h => (h (fun p hp => (by cases hp))).elim⟩
 ·rename_i g want hg
  simp only [hg]
  split at hc
  ·rename_i t ht
   split at hc
   ·rename_i hlt
    obtain rfl := Option.some.inj hc
    have hlt' : t < n := Nat.le_of_ble_eq_true hlt
    have hy : yieldE n ops E g = match E t with
     | .bool b => some b
     | _ => none := by
     unfold yieldE
     simp only [ht, evE, hlt', decide_true]
     cases E t <;> rfl
    rw [hy]
    constructor
    ·intro hh
     have h1 : holds s.G (cxOf s.cx t) := fun p hp => hh p (by simp [hp])
     rw [(hr t).1 h1, hh (t, want) (by simp)]
     simp
    ·intro hh
     by_cases h1 : holds s.G (cxOf s.cx t)
     ·rw [(hr t).1 h1]
      cases hG : s.G t with
      | bool b =>
       have : b ≠ want := by
        intro e
        subst e
        exact hh (fun p hp => by
         rcases List.mem_cons.1 hp with rfl | hp
         ·exact hG
         ·exact h1 p hp)
       simp [this]
      | _ => rfl
     ·rw [(hr t).2 h1]
      rfl
   ·cases hc
  ·cases hc
theorem evE_rel {s : GS} {E : Nat → Value} {c : Cx} {x : Operand} (hr : Rel s.G s.cx E) (hc : holds s.G c) (hx : okAt s.cx c x = true) : evE n E x = evE n s.G x := by
 cases x with
 | tmp t =>
  have := (hr t).1 (subCx_holds hc hx)
  simp only [evE, this]
 | _ => rfl
theorem pair_lookup {l : List ((Option Next × List Nat) × (Option Next × List Nat))} (h : l.map Prod.fst = l.map Prod.snd) : ∀ p ∈ l, p.1 = p.2 := by
 intro p hp
 obtain ⟨i, hi⟩ := List.mem_iff_getElem?.1 hp
 have h1 : (l.map Prod.fst)[i]? = some p.1 := by rw [List.getElem?_map, hi]; rfl
 have h2 : (l.map Prod.snd)[i]? = some p.2 := by rw [List.getElem?_map, hi]; rfl
 rw [h, h2] at h1
 exact (Option.some.inj h1).symm
def SpecOk (P : Program) (n : Nat) (C : World → Prop) (ops : Array Oper) (sp : Sp) : Prop := sp.cond = true → ∀ E, Knows (evE n E) sp.l → ∀ w, C w → Oper.quietUpon P C w sp.v ((execOp (evE n E) (ops.getD sp.i default)).run P w)
theorem spOf_mem : ∀ {l : List Sp} {i : Nat} {sp : Sp}, spOf l i = some sp → sp ∈ l ∧ sp.i = i
 | [], _, _, h => by cases h
 | s :: r, i, sp, h => by
  unfold spOf at h
  split at h
  ·rename_i hb
   obtain rfl := Option.some.inj h
   exact ⟨by simp, Nat.eq_of_beq_eq_true hb⟩
  ·exact ⟨List.mem_cons_of_mem _ (spOf_mem h).1, (spOf_mem h).2⟩
theorem knows_of {ρ : Operand → Value} : ∀ {l : List (Tmp × Value)}, (∀ p ∈ l, ρ (.tmp p.1) = p.2) → Knows ρ l
 | [], _ => trivial
 | p :: l, h => ⟨h p (by simp), knows_of fun q hq => h q (by simp [hq])⟩
theorem ghVal_sound {I : GhIn} {i : Nat} {o : Oper} {s : GS} {c : Cx} {v : Value} {E : Nat → Value} (hz : ∀ z ∈ ghObl1 n I i o s c, (z : Int) ≤ IntKind.i64.max) (ho : ops[i]? = some o) (hr : Rel s.G s.cx E) (hc : holds s.G c) (hv : ghVal P n I i o s c = some v)
  (hp : ∀ X, ∀ p ∈ ghPairs1 P n I X i o s c, p.1 = p.2) (hM : ∀ w, C w → ∀ e ∈ I.mem, e.good w) (hS : ∀ sp ∈ I.specs, SpecOk P n C ops sp) : ∀ w, C w → Oper.quietAt P o (Fr n E) C w v := by
 intro w hw
 unfold Oper.quietAt
 rw [eval_Fr]
 have hp := hp E
 unfold ghVal at hv
 unfold ghPairs1 at hp
 split at hv
 ·rename_i sp hsp
  simp only [hsp] at hp
  split at hv
  ·rename_i hall
   obtain rfl := Option.some.inj hv
   obtain ⟨hmem, hi⟩ := spOf_mem hsp
   have hcond : sp.cond = true := by
    have := hp _ (List.mem_cons_self ..)
    simp only [Prod.mk.injEq, Option.some.injEq, Next.value.injEq, Value.bool.injEq, and_true] at this
    rw [this]
    exact ctxB_holds hc
   have hk : Knows (evE n E) sp.l := knows_of fun p hpm => by
    rw [List.all_eq_true] at hall
    have h1 := hall p hpm
    rw [evE_rel (x := .tmp p.1) hr hc h1]
    have := hp _ (List.mem_cons_of_mem _ (List.mem_map.2 ⟨p, hpm, rfl⟩))
    simp only [Prod.mk.injEq, Option.some.injEq, Next.value.injEq, and_true] at this
    exact this
   have := hS sp hmem hcond E hk w hw
   have e : ops.getD sp.i default = o := by rw [hi, Array.getD_eq_getD_getElem?, ho]; rfl
   rw [e] at this
   exact this
  ·cases hv
 ·rename_i hsp
  simp only [hsp] at hp
  split at hv
  ·rename_i t x y hop
   split at hv
   ·rename_i hb
    rw [Bool.and_eq_true, Bool.and_eq_true] at hb
    split at hv
    ·rename_i b hG
     obtain rfl := Option.some.inj hv
     have ht : evE n E (.tmp t) = .bool b := by rw [evE_rel (x := .tmp t) hr hc hb.1]; exact hG
     have hGt : s.G t = .bool b := by
      simp only [evE] at hG
      split at hG
      ·exact hG
      ·cases hG
     obtain ⟨d, op, ty, pos, af, gd⟩ := o
     simp only at hop
     subst hop
     have e : (execOp (evE n E) ⟨d, .pick (.tmp t) x y, ty, pos, af, gd⟩).run P w = .ok (.value (if b then evE n E x else evE n E y)) w := by
      show ((asBool (evE n E (.tmp t))).bind fun b => Sem.pure (Next.value (if b then evE n E x else evE n E y))).run P w = _
      rw [ht]
      rfl
     rw [e]
     refine ⟨rfl, ?_⟩
     rw [mergeV_eq]
     cases b with
     | true => exact evE_rel (c := (t, true) :: c) hr (fun p hp => (List.mem_cons.1 hp).elim (fun e => e ▸ hGt) (hc p)) hb.2.1
     | false => exact evE_rel (c := (t, false) :: c) hr (fun p hp => (List.mem_cons.1 hp).elim (fun e => e ▸ hGt) (hc p)) hb.2.2
    ·cases hv
   ·cases hv
  ·rename_i hnp
   cases hsa : strAdd n s c o.op with
   | some ab =>
    obtain ⟨a, b⟩ := ab
    rw [hsa] at hv
    obtain rfl := Option.some.inj hv
    unfold ghObl1 at hz
    simp only [hsp, hsa] at hz
    have hz' := hz _ (List.mem_singleton.2 rfl)
    unfold strAdd at hsa
    split at hsa
    ·rename_i T x y T' hop
     split at hsa
     ·rename_i hok
      rw [Bool.and_eq_true] at hok
      split at hsa
      ·rename_i a' b' hx hy
       simp only [Option.some.injEq, Prod.mk.injEq] at hsa
       obtain ⟨rfl, rfl⟩ := hsa
       rw [exec_add hop ((evE_rel hr hc hok.1).trans hx) ((evE_rel hr hc hok.2).trans hy) hz']
       exact ⟨rfl, rfl⟩
      ·cases hsa
     ·cases hsa
    ·cases hsa
   | none =>
   rw [hsa] at hv
   have hp : ∀ p ∈ (match plain P n I i o s c E with
     | some (r, m) => [((some r, m.eqs.map Prod.fst), ((plain P n I i o s c (fun _ => undef)).map (·.1), m.eqs.map Prod.snd))]
     | none => [((none, []), (some .skip, []))] : List ((Option Next × List Nat) × (Option Next × List Nat))), p.1 = p.2 := by
    split at hp
    ·rename_i t x y hop; exact (hnp t x y hop).elim
    ·rw [hsa] at hp; exact hp
   simp only at hv
   split at hv
   ·rename_i v' m' hpl
    obtain rfl := Option.some.inj hv
    cases hE : plain P n I i o s c E with
    | none =>
     rw [hE] at hp
     have := hp _ (List.mem_singleton.2 rfl)
     simp at this
    | some q =>
     obtain ⟨r, m⟩ := q
     rw [hE] at hp
     have := hp _ (List.mem_singleton.2 rfl)
     rw [hpl] at this
     simp only [Option.map_some, Prod.mk.injEq, Option.some.injEq] at this
     obtain ⟨rfl, he⟩ := this
     unfold plain at hE
     rw [ghEnv_self hr hc] at hE
     rw [lrun_sound _ _ _ _ hE (hM w hw) fun p hp => by
      obtain ⟨i, hi⟩ := List.mem_iff_getElem?.1 hp
      have h1 : (m.eqs.map Prod.fst)[i]? = some p.1 := by rw [List.getElem?_map, hi]; rfl
      have h2 : (m.eqs.map Prod.snd)[i]? = some p.2 := by rw [List.getElem?_map, hi]; rfl
      rw [he, h2] at h1
      exact (Option.some.inj h1).symm]
     exact ⟨rfl, rfl⟩
   ·cases hv

theorem gh_sound {I : GhIn} {Q : Act → Prop} (hM : ∀ w, C w → ∀ e ∈ I.mem, e.good w) (hS : ∀ sp ∈ I.specs, SpecOk P n C ops sp) : ∀ (l : List Nat) (s s' : GS) (E : Nat → Value), Rel s.G s.cx E → ghRun P n ops I l s = some s' → (∀ X, ∀ p ∈ ghPairs P n ops I X l s, p.1 = p.2) → (∀ z ∈ ghObl P n ops I l s, (z : Int) ≤ IntKind.i64.max) →
  (∀ E', Rel s'.G s'.cx E' → Q (Fr n E')) → wpQuiet P ops C Q (l.map (ops.getD · default)) (Fr n E)
 | [], s, s', E, hr, h, _, _, hk => by obtain rfl := Option.some.inj h; exact hk E hr
 | i :: l, s, s', E, hr, h, hp, hz, hk => by
  unfold ghRun at h
  cases hs : ghStep P n ops I i s with
  | none => rw [hs] at h; cases h
  | some q =>
   obtain ⟨o, c, s1⟩ := q
   rw [hs] at h
   have hp1 : ∀ X, ∀ p ∈ ghPairs1 P n I X i o s c, p.1 = p.2 := fun X p hpm => hp X p (by unfold ghPairs; rw [hs]; exact List.mem_append_left _ hpm)
   have hp2 : ∀ X, ∀ p ∈ ghPairs P n ops I X l s1, p.1 = p.2 := fun X p hpm => hp X p (by unfold ghPairs; rw [hs]; exact List.mem_append_right _ hpm)
   have hz1 : ∀ z ∈ ghObl1 n I i o s c, (z : Int) ≤ IntKind.i64.max := fun z hzm => hz z (by unfold ghObl; rw [hs]; exact List.mem_append_left _ hzm)
   have hz2 : ∀ z ∈ ghObl P n ops I l s1, (z : Int) ≤ IntKind.i64.max := fun z hzm => hz z (by unfold ghObl; rw [hs]; exact List.mem_append_right _ hzm)
   unfold ghStep at hs
   split at hs
   ·cases hs
   ·rename_i o' ho
    split at hs
    ·cases hs
    ·rename_i c' hcx
     split at hs
     ·rename_i v d hv hd
      split at hs
      ·rename_i hfree
       simp only [Option.some.injEq, Prod.mk.injEq] at hs
       obtain ⟨rfl, rfl, rfl⟩ := hs
       rw [Bool.and_eq_true] at hfree
       have hw := wanted_ctx hr hcx
       have e : ops.getD i default = o' := by rw [Array.getD_eq_getD_getElem?, ho]; rfl
       rw [List.map_cons, e]
       unfold wpQuiet
       rw [yielded_Fr]
       by_cases hh : holds s.G c'
       ·rw [if_pos (hw.1 hh)]
        refine ⟨v, ghVal_sound hz1 ho hr hh hv hp1 hM hS, ?_⟩
        rw [Fr_put, hd]
        exact gh_sound hM hS l _ s' _ (hr.put d hfree.1 hfree.2 ⟨fun _ => rfl, fun h => (h hh).elim⟩) h hp2 hz2 hk
       ·rw [hw.2 hh, if_neg (by simp), Fr_put, hd]
        exact gh_sound hM hS l _ s' _ (hr.put d hfree.1 hfree.2 ⟨fun h => (hh h).elim, fun _ => rfl⟩) h hp2 hz2 hk
      ·cases hs
     ·cases hs

/-! ### Whole regions -/
theorem wpQuiet_mono {Q Q' : Act → Prop} : ∀ (l : List Oper) (a : Act), (∀ a, Q a → Q' a) → wpQuiet P ops C Q l a → wpQuiet P ops C Q' l a
 | [], a, h, hh => h a hh
 | o :: l, a, h, hh => by
  unfold wpQuiet at hh ⊢
  split
  ·rename_i hw
   rw [if_pos hw] at hh
   exact Oper.quiet_mono (fun a' h' => wpQuiet_mono l a' h h') hh
  ·rename_i hw
   rw [if_neg hw] at hh
   exact wpQuiet_mono l _ h hh
theorem quiet_ops {Q : Exit → Act → World → Prop} : ∀ (l : List Nat) (a : Act) (w : World), (∀ i ∈ l, i < ops.size) → C w → wpQuiet P ops C (fun a' => ∀ w', C w' → Q .normal a' w') (l.map (ops.getD · default)) a → wpOps P ops Q l a w
 | [], a, w, _, hw, h => h w hw
 | i :: l, a, w, hi, hw, h => by
  have hlt := hi i (by simp)
  have ho : ops[i]? = some (ops.getD i default) := by rw [Array.getD_eq_getD_getElem?, Array.getElem?_eq_getElem hlt]; rfl
  rw [List.map_cons] at h
  generalize ops.getD i default = o at h ho
  unfold wpQuiet at h
  by_cases hwt : Region.wanted o (yielded ops a.tmps) = true
  ·rw [if_pos hwt] at h
   obtain ⟨v, h1, h2⟩ := h
   refine wpOps_some ho hwt ?_
   have h3 := h1 w hw
   unfold Oper.quietAt at h3
   unfold Oper.wp
   generalize (execOp a.eval o).run P w = r at *
   cases r with
   | ok x w' =>
    cases x with
    | value u => obtain ⟨rfl, rfl⟩ := h3; exact quiet_ops l _ _ (fun j hj => hi j (by simp [hj])) hw h2
    | skip => obtain ⟨rfl, rfl⟩ := h3; exact quiet_ops l _ _ (fun j hj => hi j (by simp [hj])) hw h2
    | enter f args =>
     obtain ⟨rfl, h4⟩ := h3
     refine h4.mono fun e w'' hh => ?_
     obtain ⟨rfl, hC⟩ := hh
     exact quiet_ops l _ _ (fun j hj => hi j (by simp [hj])) hC h2
    | _ => exact h3.elim
   | _ => exact h3.elim
  ·rw [if_neg hwt] at h
   exact wpOps_not ho (by simpa using hwt) (quiet_ops l _ _ (fun j hj => hi j (by simp [hj])) hw h)
theorem range_ops (ops : Array Oper) : (List.range ops.size).map (ops.getD · default) = ops.toList := by
 refine List.ext_getElem? fun i => ?_
 rw [List.getElem?_map, range_get]
 by_cases h : i < ops.size
 ·simp [h, Array.getD_eq_getD_getElem?]
 ·simp [h]
variable {f : FuncId} {R : Ending → World → Prop}
theorem good_below {w w' : World} {e : Ent} (h : e.good w) (hb : Below w.heap.size w w') : e.good w' := by
 have hk := hb.block e.id h.1
 refine ⟨Nat.lt_of_lt_of_le h.1 hb.size, ?_⟩
 have h2 := h.2
 split at h2
 ·rename_i ho; rw [if_pos ho, hk]; exact h2
 ·rename_i ho
  rw [if_neg ho]
  intro j v hv
  rw [World.cell?_of_block (w := w) hk]
  exact h2 j v hv
theorem known_rel {G E : Nat → Value} {cx : List (Tmp × Cx)} (hr : Rel G cx E) : ∀ (l : List (Nat × Value)), l.map (fun p => (G p.1, cxOf cx p.1)) = l.map (fun p => (p.2, [])) → l.map (fun p => E p.1) = l.map (·.2)
 | [], _ => rfl
 | p :: l, h => by
  simp only [List.map_cons, List.cons.injEq, Prod.mk.injEq] at h ⊢
  refine ⟨?_, known_rel hr l h.2⟩
  rw [(hr p.1).1 (by rw [h.1.2]; exact fun q hq => (by cases hq))]
  exact h.1.1
def curReg : List Item → Option (Array Oper)
 | .code (.region _ ops _) :: _ => some ops
 | _ => none
theorem at_ghostS {E : Nat → Value} {w : World} {todo : List Item} (ops : Array Oper) (I : GhIn) (l : List (Nat × Value)) (ht : curReg todo = some ops) (hB : Region.lexB .any ops = true) (hm : P.follows .mixedOrders = true)
  (hM : ∀ e ∈ I.mem, e.good w) (hS : ∀ sp ∈ I.specs, SpecOk P n (Below w.heap.size w) ops sp)
  (hp : ∀ X, (ghPairs P n ops I X (List.range ops.size) ⟨E, []⟩).map Prod.fst = (ghPairs P n ops I X (List.range ops.size) ⟨E, []⟩).map Prod.snd)
  (hl : (ghRun P n ops I (List.range ops.size) ⟨E, []⟩).map (fun s => l.map (fun p => (s.G p.1, cxOf s.cx p.1))) = some (l.map (fun p => (p.2, []))))
  (zs : List Nat) (hzs : ghObl P n ops I (List.range ops.size) ⟨E, []⟩ = zs) (hz : ∀ z ∈ zs, (z : Int) ≤ IntKind.i64.max)
  (hk : ∀ w' E', Below w.heap.size w w' → At P f R (tailT todo) (Fr n (updL E' l)) w') : At P f R todo (Fr n E) w := by
 cases hrun : ghRun P n ops I (List.range ops.size) ⟨E, []⟩ with
 | none => rw [hrun] at hl; cases hl
 | some s' =>
  rw [hrun] at hl
  have hl' := Option.some.inj hl
  have hq : wpQuiet P ops (Below w.heap.size w) (fun a' => ∀ w', Below w.heap.size w w' → Mid P f R (tailT todo) a' w') ((List.range ops.size).map (ops.getD · default)) (Fr n E) := by
   refine gh_sound (C := Below w.heap.size w) (fun w' hw e he => good_below (hM e he) hw) hS _ _ _ E (.start E) hrun (fun X => pair_lookup (hp X)) (by rw [hzs]; exact hz) fun E' hr w' hw => ?_
   exact (at_known l (known_rel hr l hl') fun E'' => hk w' E'' hw).mid
  unfold curReg at ht
  split at ht
  ·rename_i id ops' dr k
   obtain rfl := Option.some.inj ht
   cases dr with
   | true =>
    refine mid_wp (wp_region_quiet (C := Below w.heap.size w) hm hB (Below.refl _ _).drew ?_)
    rw [← range_ops]
    exact wpQuiet_mono _ _ (fun a' h w' hw => ⟨rfl, h w' hw⟩) hq
   | false =>
    refine at_steps (todo' := .inRegion ops' (List.range ops'.size) :: k) (by simp) (fun _ => step_region) ?_
    refine quiet_ops (C := Below w.heap.size w) _ _ _ (fun i hi => by simpa using hi) (Below.refl _ _) ?_
    exact wpQuiet_mono _ _ (fun a' h w' hw => ⟨rfl, h w' hw⟩) hq
  ·cases ht
theorem at_ghost {E : Nat → Value} {w : World} {todo : List Item} (ops : Array Oper) (I : GhIn) (l : List (Nat × Value)) (ht : curReg todo = some ops) (hB : Region.lexB .any ops = true) (hm : P.follows .mixedOrders = true)
  (hM : ∀ e ∈ I.mem, e.good w) (hS : ∀ sp ∈ I.specs, SpecOk P n (Below w.heap.size w) ops sp)
  (hp : ∀ X, (ghPairs P n ops I X (List.range ops.size) ⟨E, []⟩).map Prod.fst = (ghPairs P n ops I X (List.range ops.size) ⟨E, []⟩).map Prod.snd)
  (hl : (ghRun P n ops I (List.range ops.size) ⟨E, []⟩).map (fun s => l.map (fun p => (s.G p.1, cxOf s.cx p.1))) = some (l.map (fun p => (p.2, []))))
  (hk : ∀ w' E', Below w.heap.size w w' → At P f R (tailT todo) (Fr n (updL E' l)) w') (hzs : ghObl P n ops I (List.range ops.size) ⟨E, []⟩ = [] := by kernel_rfl) : At P f R todo (Fr n E) w :=
 at_ghostS ops I l ht hB hm hM hS hp hl [] hzs (fun z hz => (by cases hz)) hk

/-! ### Operations given by hand -/
def callOf : Oper → Option (FuncId × List Operand)
 | ⟨_, .call ⟨.value (.func g), xs, _⟩, _, _, _, _⟩ => some (g, xs.toList)
 | _ => none
theorem exec_call {o : Oper} {g : FuncId} {xs : List Operand} {args : List Value} {E : Nat → Value} {w : World} (ho : callOf o = some (g, xs)) (hg : callable P g = true) (ha : xs.map (evE n E) = args) : (execOp (evE n E) o).run P w = .ok (.enter g args.toArray) w := by
 unfold callOf at ho
 split at ho
 ·rename_i d g' xs' ats ty pos af gd
  simp only [Option.some.injEq, Prod.mk.injEq] at ho
  obtain ⟨rfl, rfl⟩ := ho
  rw [← run_callable hg args.toArray w, ← ha]
  unfold execOp resolve
  have hxs : xs'.toList.map (evE n E) = (xs'.map (evE n E)).toList := by simp
  simp only [hxs, Array.toArray_toList]
  show ((Deferred.ofValue (.func (.func g') #[] #[]) (xs'.map (evE n E))).bind fun d => invoke d.target d.args).run P w = _
  unfold Deferred.ofValue
  simp [invoke, pure, Sem.bind]
 ·cases ho
theorem spec_call {sp : Sp} (g : FuncId) (xs : List Operand) (args : List Value) (ho : callOf (ops.getD sp.i default) = some (g, xs)) (hg : callable P g = true) (ha : ∀ E, xs.map (ovr sp.l (evE n E)) = args)
  (h : sp.cond = true → ∀ w, C w → Calls P g args.toArray w fun e w' => e = .returned sp.v ∧ C w') : SpecOk P n C ops sp := by
 intro hc E hk w hw
 have e : xs.map (evE n E) = args := by
  have := ha E
  rw [ovr_eq hk] at this
  exact this
 rw [exec_call (w := w) ho hg e]
 exact ⟨rfl, h hc w hw⟩
theorem spec_op {sp : Sp} (h : sp.cond = true → ∀ E w, C w → (execOp (ovr sp.l (evE n E)) (ops.getD sp.i default)).run P w = .ok (.value sp.v) w) : SpecOk P n C ops sp := by
 intro hc E hk w hw
 have := h hc E w hw
 rw [ovr_eq hk] at this
 rw [this]
 exact ⟨rfl, rfl⟩
theorem below_call {g : FuncId} {args : Array Value} {v : Value} {w0 w : World} (hb : Below w0.heap.size w0 w) (h : Calls P g args w fun e w' => e = .returned v ∧ Below w.heap.size w w') : Calls P g args w fun e w' => e = .returned v ∧ Below w0.heap.size w0 w' :=
 h.mono fun _ _ ⟨h1, h2⟩ => ⟨h1, hb.trans (h2.mono hb.size)⟩
end
end Go.Proofs.YtdcbnkimjhefkaaGreatDoor

namespace Go.Proofs.YtdcbnkimjhefkaaGreatDoor
section
variable {P : Program} {f : FuncId} {R : Ending → World → Prop}
def entOf : List (Tmp × Nat) → Tmp → Nat
 | [], _ => 0
 | p :: r, t => match Nat.beq p.1 t with
  | true => p.2
  | false => entOf r t
def hintC (H : List (Tmp × Nat)) (n : Nat) (E : Nat → Value) : Op → Nat × Nat
 | .load _ (.tmp t) | .store _ (.tmp t) _ => match evE n E (.tmp t) with
  | .pointer (some a) => (entOf H t, a.off)
  | _ => (0, 0)
 | _ => (0, 0)
def opC (P : Program) (H : List (Tmp × Nat)) (n : Nat) (ops : Array Oper) (i : Nat) (s : St) (todo : List Item) : Option St :=
 match ops[i]? with
 | none => none
 | some o => opS P n ops i { s with hs := hintC H n s.env o.op :: s.hs } todo
def dropH : Option St → List (Nat × Nat) → Option St
 | some s, h => some { s with hs := h }
 | none, _ => none
def stepC (P : Program) (H : List (Tmp × Nat)) (n : Nat) (s : St) : Option St :=
 match s.todo with
 | .code (.cond c x y) :: k => match evE n s.env c with
  | .bool true => some { s with todo := .code x :: k }
  | .bool false => some { s with todo := .code y :: k }
  | _ => none
 | .code (.loop c) :: k => some { s with todo := .code c :: .inLoop c :: k }
 | .inLoop c :: k => some { s with todo := .code c :: .inLoop c :: k }
 | .inRegion ops (i :: r) :: k => dropH (opC P H n ops i s (.inRegion ops r :: k)) []
 | _ => stepS P n s
def advC (P : Program) (H : List (Tmp × Nat)) (n : Nat) : Nat → St → St
 | 0, s => s
 | m + 1, s => match stepC P H n s with
  | some s' => advC P H n m s'
  | none => s
theorem opC_eqs {H : List (Tmp × Nat)} {n : Nat} {ops : Array Oper} {i : Nat} {s s' : St} {todo : List Item} {h : List (Nat × Nat)} (hs : dropH (opC P H n ops i s todo) h = some s') : ∀ p ∈ s.ms.eqs, p ∈ s'.ms.eqs := by
 unfold opC at hs
 split at hs
 ·cases hs
 ·rename_i o ho
  cases hq : opS P n ops i { s with hs := hintC H n s.env o.op :: s.hs } todo with
  | none => rw [hq] at hs; cases hs
  | some q =>
   rw [hq] at hs
   obtain rfl := Option.some.inj hs
   have := opS_eqs hq
   exact this
theorem stepC_eqs {H : List (Tmp × Nat)} {n : Nat} {s s' : St} (h : stepC P H n s = some s') : ∀ p ∈ s.ms.eqs, p ∈ s'.ms.eqs := by
 unfold stepC at h
 split at h
 ·split at h
  ·obtain rfl := Option.some.inj h; exact fun p hp => hp
  ·obtain rfl := Option.some.inj h; exact fun p hp => hp
  ·cases h
 ·obtain rfl := Option.some.inj h; exact fun p hp => hp
 ·obtain rfl := Option.some.inj h; exact fun p hp => hp
 ·exact opC_eqs h
 ·exact stepS_eqs h
theorem advC_eqs {H : List (Tmp × Nat)} {n : Nat} : ∀ (m : Nat) (s : St), ∀ p ∈ s.ms.eqs, p ∈ (advC P H n m s).ms.eqs
 | 0, _, p, hp => hp
 | m + 1, s, p, hp => by
  unfold advC
  split
  ·rename_i s' hs; exact advC_eqs m s' p (stepC_eqs hs p hp)
  ·exact hp
theorem stepC_sound {O : List Nat} {B n : Nat} {H : List (Tmp × Nat)} {s s' : St} {w : World}
  (h : stepC P H n s = some s') (hL : Lies O B w s.ms) (he : ∀ p ∈ s'.ms.eqs, p.1 = p.2)
  (hk : ∀ w', Lies O B w' s'.ms → Kept O B w w' → At P f R s'.todo (Fr n s'.env) w') : At P f R s.todo (Fr n s.env) w := by
 unfold stepC at h
 split at h
 ·rename_i c x y k hc
  split at h
  ·rename_i hv
   obtain rfl := Option.some.inj h
   rw [hc]
   exact at_steps (by simp) (fun _ => step_cond (t := true) (by rw [eval_Fr]; exact hv)) (hk w hL (.refl _ _ _))
  ·rename_i hv
   obtain rfl := Option.some.inj h
   rw [hc]
   exact at_steps (by simp) (fun _ => step_cond (t := false) (by rw [eval_Fr]; exact hv)) (hk w hL (.refl _ _ _))
  ·cases h
 ·rename_i hc; obtain rfl := Option.some.inj h; rw [hc]; exact at_steps (by simp) (fun _ => step_loop) (hk w hL (.refl _ _ _))
 ·rename_i hc; obtain rfl := Option.some.inj h; rw [hc]; exact at_steps (by simp) (fun _ => step_inLoop) (hk w hL (.refl _ _ _))
 ·rename_i ops i r k hc
  rw [hc]
  unfold opC at h
  split at h
  ·cases h
  ·rename_i o ho
   cases hq : opS P n ops i { s with hs := hintC H n s.env o.op :: s.hs } (.inRegion ops r :: k) with
   | none => rw [hq] at h; cases h
   | some q =>
    rw [hq] at h
    obtain rfl := Option.some.inj h
    exact opS_sound (s := { s with hs := hintC H n s.env o.op :: s.hs }) (s' := q) hq hL he hk
 ·exact stepS_sound h hL he hk
theorem advC_sound {O : List Nat} {B n : Nat} {H : List (Tmp × Nat)} : ∀ (m : Nat) (s : St) (w : World), Lies O B w s.ms → (∀ p ∈ (advC P H n m s).ms.eqs, p.1 = p.2) →
  (∀ w', Lies O B w' (advC P H n m s).ms → Kept O B w w' → At P f R (advC P H n m s).todo (Fr n (advC P H n m s).env) w') → At P f R s.todo (Fr n s.env) w
 | 0, s, w, hL, _, hk => hk w hL (.refl _ _ _)
 | m + 1, s, w, hL, he, hk => by
  unfold advC at he hk
  split at he
  ·rename_i s' hs
   simp only [hs] at hk
   refine stepC_sound hs hL (fun p hp => he p (advC_eqs m s' p hp)) fun w' hL' hK => ?_
   exact advC_sound m s' w' hL' he fun w'' hL'' hK' => hk w'' hL'' (hK.trans hK')
  ·rename_i hs
   simp only [hs] at hk
   exact hk w hL (.refl _ _ _)
theorem at_runC {n : Nat} {E : Nat → Value} {w : World} (m : Nat) (H : List (Tmp × Nat)) (todo : List Item) (z : Nat) (mem : List Ent) (todo' : List Item) (l : List (Nat × Value)) (z' : Nat) (mem' : List Ent)
  (hL : Lies (mem.map (·.id)) w.heap.size w ⟨z, mem, (0, 0), []⟩)
  (he : (fun a : St => (a.todo, a.ms.mem, a.ms.sz, l.map (fun p => a.env p.1), a.ms.eqs.map Prod.fst)) (advC P H n m ⟨todo, E, ⟨z, mem, (0, 0), []⟩, []⟩) = (todo', mem', z', l.map (·.2), (advC P H n m ⟨todo, E, ⟨z, mem, (0, 0), []⟩, []⟩).ms.eqs.map Prod.snd))
  (hk : ∀ w' E', Lies (mem.map (·.id)) w.heap.size w' ⟨z', mem', (0, 0), []⟩ → Kept (mem.map (·.id)) w.heap.size w w' → At P f R todo' (Fr n (updL E' l)) w') : At P f R todo (Fr n E) w := by
 simp only [Prod.mk.injEq] at he
 obtain ⟨h1, h2, h3, h4, h5⟩ := he
 refine advC_sound (H := H) m ⟨todo, E, ⟨z, mem, (0, 0), []⟩, []⟩ w hL (fun p hp => ?_) fun w' hL' hK => ?_
 ·obtain ⟨i, hi⟩ := List.mem_iff_getElem?.1 hp
  have g1 : ((advC P H n m ⟨todo, E, ⟨z, mem, (0, 0), []⟩, []⟩).ms.eqs.map Prod.fst)[i]? = some p.1 := by rw [List.getElem?_map, hi]; rfl
  have g2 : ((advC P H n m ⟨todo, E, ⟨z, mem, (0, 0), []⟩, []⟩).ms.eqs.map Prod.snd)[i]? = some p.2 := by rw [List.getElem?_map, hi]; rfl
  rw [h5, g2] at g1
  exact (Option.some.inj g1).symm
 ·rw [h1]
  exact at_known l h4 fun E' => hk w' E' (lies_lit hL' z' mem' h3 h2) hK
end
end Go.Proofs.YtdcbnkimjhefkaaGreatDoor

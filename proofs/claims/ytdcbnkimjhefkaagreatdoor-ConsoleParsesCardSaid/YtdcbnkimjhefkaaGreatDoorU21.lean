/-
 Regions that draw their order, part by part, where what holds of the world may depend on how many operations are still to come (a counter that each call moves on).
 paygen's Fact: its ordered branches.
 The console's text of a command is the reference's.
-/
import Derived.Test.YtdcbnkimjhefkaaGreatDoorU15
import Derived.Test.YtdcbnkimjhefkaaGreatDoorU20
namespace Go.Proofs.YtdcbnkimjhefkaaGreatDoor
section
variable {P : Program} {ops : Array Oper} {Q : Exit → Act → World → Prop} {md : Region.Mode} {W : Wr} {listed0 : Array Bool} {a0 : Act} {C : Nat → World → Prop} {Ext : World → World → Prop} {L : List Loc} {w0 : World}
def Loc.obN (P : Program) (ops : Array Oper) (a0 : Act) (W : Wr) (C C' : World → Prop) (Ext : World → World → Prop) (L : List Loc) (l : Loc) : Prop :=
 ∀ (vals : Nat → Value) (w : World), C w → (∀ m ∈ L, m.idx ∈ l.before → m.holds vals w) → ∀ o, ops[l.idx]? = some o →
  if Region.wanted o (yieldV ops a0 W vals) then OpOk P o (evalV a0 W vals) w (fun v w' => C' w' ∧ Ext w w' ∧ l.holds (upv vals l.idx v) w')
  else l.holds (upv vals l.idx undef) w
theorem wpAny_locN (hok : locOk md ops W listed0 a0.tmps.size L = true) (hC : C L.length w0) (hdn : ∀ m w, C (m + 1) w → C m w) (hrf' : ∀ w : World, Ext w w) (htr : ∀ a b c : World, Ext a b → Ext b c → Ext a c)
  (hst : ∀ l ∈ L, ∀ vs w w', Ext w w' → l.says vs w → l.says vs w') (hob : ∀ m, ∀ l ∈ L, l.obN P ops a0 W (C (m + 1)) (C m) Ext L) {fuel : Nat}
  (H : ∀ vals w, C 0 w → Ext w0 w → (∀ l ∈ L, l.holds vals w) → wpAny P md ops Q fuel ((L.map (·.idx)).foldl (fun b i => b.setIfInBounds i true) listed0) (fin ops vals (L.map (·.idx)) a0) w) :
  wpAny P md ops Q (L.length + fuel) listed0 a0 w0 := by
 have F := locOk_facts hok
 have key : ∀ (m : Nat) (listed : Array Bool) (vals : Nat → Value) (a : Act) (w : World), LocInv md ops W listed0 a0 (fun _ => True) Ext L w0 listed vals a w → undone listed L = m → C m w → wpAny P md ops Q (m + fuel) listed a w := by
  intro m
  induction m with
  | zero =>
   intro listed vals a w I hu hCm
   have hall := fun l (hl : l ∈ L) => undone_zero hu hl
   have h := H vals w hCm I.ext (fun l hl => I.says l hl (hall l hl))
   have e1 : listed = (L.map (·.idx)).foldl (fun b i => b.setIfInBounds i true) listed0 := by
    refine Array.ext_getElem? fun j => ?_
    rw [fold_listed]
    by_cases hj : j ∈ L.map (·.idx)
    ·obtain ⟨l, hl, rfl⟩ := List.mem_map.1 hj
     have hlt : l.idx < listed0.size := getD_lt (F.fresh l hl)
     rw [if_pos ⟨hj, hlt⟩, get_of_getD (by rw [I.size, ← F.size]; exact hlt) false, hall l hl]
    ·rw [if_neg (fun h => hj h.1)]; exact I.keep j hj
   have e2 : a = fin ops vals (L.map (·.idx)) a0 := by
    have hs := fin_size ops vals (L.map (·.idx)) a0
    have ht : a.tmps = (fin ops vals (L.map (·.idx)) a0).tmps := by
     refine Array.ext_getElem? fun t => ?_
     cases hw : W.of t with
     | none =>
      rw [I.other t hw, fin_not]
      intro i hi hd
      obtain ⟨l, hl, rfl⟩ := List.mem_map.1 hi
      obtain ⟨o, ho⟩ := F.op l hl
      have hdo : o.dst = some t := by unfold dstOf at hd; rw [ho] at hd; exact hd
      have := (F.dst l hl o ho t hdo).2
      rw [hw] at this; cases this
     | some j =>
      obtain ⟨hjA, hjd⟩ := F.wr t j hw
      obtain ⟨l, hl, rfl⟩ := List.mem_map.1 hjA
      obtain ⟨o, ho⟩ := F.op l hl
      have hdo : o.dst = some t := by unfold dstOf at hjd; rw [ho] at hjd; exact hjd
      rw [I.done t _ hw (hall l hl), fin_at ops vals t l.idx _ _ _ hjA hjd (F.dst l hl o ho t hdo).1]
      intro i hi hd
      obtain ⟨l', hl', rfl⟩ := List.mem_map.1 hi
      obtain ⟨o', ho'⟩ := F.op l' hl'
      have hdo' : o'.dst = some t := by unfold dstOf at hd; rw [ho'] at hd; exact hd
      have := (F.dst l' hl' o' ho' t hdo').2
      rw [hw] at this; exact (Option.some.inj this).symm
    cases a; cases hf : fin ops vals (L.map (·.idx)) a0
    rw [hf] at hs ht
    simp only at hs ht
    have hd := I.defers
    simp only at hd
    subst ht
    rw [hs.2, hd]
   rw [Nat.zero_add, e1, e2]; exact h
  | succ m ih =>
   intro listed vals a w I hu hCm
   rw [Nat.succ_add]
   have some : ∃ l ∈ L, listed.getD l.idx true = false := by
    rcases hx : L.filter (fun l => !listed.getD l.idx false) with _ | ⟨l, r⟩
    ·unfold undone at hu; rw [hx] at hu; simp at hu
    ·have : l ∈ L.filter (fun l => !listed.getD l.idx false) := by rw [hx]; simp
     rw [List.mem_filter] at this
     refine ⟨l, this.1, ?_⟩
     have hlt : l.idx < listed.size := by rw [I.size, ← F.size]; exact getD_lt (F.fresh l this.1)
     have h2 := this.2
     simp [hlt] at h2 ⊢; exact h2
   refine ⟨fun hr => ?_, fun i hi => ?_⟩
   ·exfalso
    have : ∀ (k : Nat) (l : Loc), l ∈ L → l.idx = k → listed.getD l.idx true = true := by
     intro k
     induction k using Nat.strongRecOn with
     | _ k ihk =>
      intro l hl hk
      cases hu : listed.getD l.idx true with
      | true => rfl
      | false =>
       exfalso
       obtain ⟨o, ho⟩ := F.op l hl
       have hm : l.idx ∈ Region.ready md ops listed := by
        rw [mem_ready]
        refine ⟨hu, o, ho, fun e he hb => ?_⟩
        rcases F.edge l hl o ho e he hb with ⟨h1, h2⟩ | ⟨h1, h2⟩
        ·have := I.keep _ h2
         rw [Array.getD_eq_getD_getElem?, this, ← Array.getD_eq_getD_getElem?]; exact h1
        ·obtain ⟨m', hm', hme⟩ := List.mem_map.1 h2
         have g := ihk m'.idx (by omega) m' hm' rfl
         rw [hme] at g
         have hlt : e.on < listed.size := by rw [I.size, ← F.size, ← hme]; exact getD_lt (F.fresh m' hm')
         simp [hlt] at g ⊢; exact g
       rw [hr] at hm; cases hm
    obtain ⟨l, hl, hf⟩ := some
    rw [this _ l hl rfl] at hf; cases hf
   ·have hi' := hi
    rw [mem_ready] at hi
    obtain ⟨hui, o, ho, hedges⟩ := hi
    have hA : i ∈ L.map (·.idx) := by
     by_cases hA : i ∈ L.map (·.idx)
     ·exact hA
     ·exfalso
      have hk := I.keep i hA
      have hu0 : listed0.getD i true = false := by rw [Array.getD_eq_getD_getElem?, ← hk, ← Array.getD_eq_getD_getElem?]; exact hui
      rcases F.tail i o ho hu0 hA with ⟨e, he, hb, hne, hx⟩ | hx
      ·have hd := hedges e he hb
       have := I.keep _ hx
       rw [Array.getD_eq_getD_getElem?, this, ← Array.getD_eq_getD_getElem?, hne] at hd; cases hd
      ·obtain ⟨l, hl, hf⟩ := some
       have hlf := getD_any hf
       obtain ⟨e, he, hb, hy⟩ := hx l.idx (List.mem_map.2 ⟨l, hl, rfl⟩)
       have hd := hedges e he hb
       rcases hy with h | ⟨m', hm', hme, h⟩
       ·rw [← h, hd] at hlf; cases hlf
       ·have := I.shut m' hm' (by rw [hme]; exact hd) _ h
        rw [this] at hlf; cases hlf
    obtain ⟨l, hl, rfl⟩ := List.mem_map.1 hA
    have hb : ∀ j ∈ l.before, listed.getD j false = true := by
     intro j hj
     obtain ⟨_, _, e, he, heb, hx⟩ := F.bef l hl o ho j hj
     have hd := hedges e he heb
     rcases hx with rfl | ⟨m', hm', hme, hx⟩
     ·exact hd
     ·exact I.shut m' hm' (by rw [hme]; exact hd) j hx
    have hlt := getD_lt hui
    have hcount : undone (listed.setIfInBounds l.idx true) L = m := by
     have := undone_set hlt (getD_any hui) F.nodup hA
     omega
    have obl := hob m l hl vals w hCm (fun m' hm' hbm => I.says m' hm' (hb _ hbm)) o ho
    unfold wpOp
    simp only [ho]
    rw [I.wanted F hl ho hb]
    split
    ·rename_i hw
     rw [if_pos hw] at obl
     refine .inl ?_
     unfold Oper.wp
     rw [I.exec F hl ho hb]
     unfold OpOk at obl
     cases hr : (execOp (evalV a0 W vals) o).run P w with
     | halt x w' => rw [hr] at obl; exact obl.elim
     | ok n w' =>
      rw [hr] at obl
      cases n <;> simp only at obl <;> simp only [Oper.upon]
      case value v => exact ih _ _ _ _ (I.step F (fun l hl vs w w' _ he h => hst l hl vs w w' he h) htr hl ho hb hui trivial obl.2.1 obl.2.2) hcount obl.1
      case skip => exact ih _ _ _ _ (I.step F (fun l hl vs w w' _ he h => hst l hl vs w w' he h) htr hl ho hb hui trivial obl.2.1 obl.2.2) hcount obl.1
      case enter f args =>
       refine obl.mono fun e w'' he => ?_
       obtain ⟨v, rfl, h1, h2, h3⟩ := he
       exact ih _ _ _ _ (I.step F (fun l hl vs w w' _ he h => hst l hl vs w w' he h) htr hl ho hb hui trivial h2 h3) hcount h1
    ·rename_i hw
     rw [if_neg hw] at obl
     exact ih _ _ _ _ (I.step F (fun l hl vs w w' _ he h => hst l hl vs w w' he h) htr hl ho hb hui trivial (hrf' w) obl) hcount (hdn m w hCm)
 refine key L.length listed0 (fun _ => undef) a0 w0 ⟨F.size, fun _ _ => rfl, ?_, rfl, rfl, ?_, fun _ _ _ _ => rfl, fun _ _ => rfl, trivial, hrf' _, ?_⟩ ?_ hC
 ·intro l hl hd; rw [getD_any (F.fresh l hl)] at hd; cases hd
 ·intro t j hw hd
  obtain ⟨l, hl, rfl⟩ := List.mem_map.1 (F.wr t j hw).1
  rw [getD_any (F.fresh l hl)] at hd; cases hd
 ·intro l hl hd; rw [getD_any (F.fresh l hl)] at hd; cases hd
 ·unfold undone
  rw [List.filter_eq_self.2]
  intro l hl; rw [getD_any (F.fresh l hl)]; rfl

end
section
variable {P : Program} {ops : Array Oper} {Q : Exit → Act → World → Prop} {md : Region.Mode} {W : Wr} {listed0 : Array Bool} {n : Nat} {E : Nat → Value} {C : Nat → World → Prop} {Ext : World → World → Prop} {L : List Loc} {w0 : World}
def PartN (P : Program) (ops : Array Oper) (n : Nat) (E : Nat → Value) (W : Wr) (C : Nat → World → Prop) (Ext : World → World → Prop) (L : List Loc) (l : Loc) : Prop :=
 (∀ vs w w', Ext w w' → l.says vs w → l.says vs w') ∧
  ∀ (m : Nat) (vals : Nat → Value) (w : World), C (m + 1) w → heldBy l.before vals w L → OpOk P (ops.getD l.idx default) (evalVE n E W vals) w (fun v w' => C m w' ∧ Ext w w' ∧ l.says (l.deps.map (upv vals l.idx v)) w')
def PartsN (P : Program) (ops : Array Oper) (n : Nat) (E : Nat → Value) (W : Wr) (C : Nat → World → Prop) (Ext : World → World → Prop) (L : List Loc) : List Loc → Prop
 | [] => True
 | l :: r => PartN P ops n E W C Ext L l ∧ PartsN P ops n E W C Ext L r
theorem PartsN.all : ∀ {r : List Loc}, PartsN P ops n E W C Ext L r → ∀ l ∈ r, PartN P ops n E W C Ext L l
 | [], _, l, hl => by cases hl
 | m :: r, h, l, hl => by
  rcases List.mem_cons.1 hl with rfl | hl2
  ·exact h.1
  ·exact PartsN.all h.2 l hl2
theorem any_partsN (hok : (locOk md ops W listed0 n L && bare ops L) = true) (hC : C L.length w0) (hdn : ∀ m w, C (m + 1) w → C m w) (hrf : ∀ w : World, Ext w w) (htr : ∀ a b c : World, Ext a b → Ext b c → Ext a c)
  (hp : PartsN P ops n E W C Ext L L) {fuel k : Nat} (hk : k = L.length + fuel)
  (H : ∀ vals w, C 0 w → Ext w0 w → heldAll vals w L → wpAny P md ops Q fuel ((L.map (·.idx)).foldl (fun b i => b.setIfInBounds i true) listed0) (Fr n (finE ops vals (L.map (·.idx)) E)) w) :
  wpAny P md ops Q k listed0 (Fr n E) w0 := by
 subst hk
 rw [Bool.and_eq_true] at hok
 refine wpAny_locN (a0 := Fr n E) (by rw [Fr_size]; exact hok.1) hC hdn hrf htr (fun l hl => (hp.all l hl).1) (fun m l hl => ?_) (fun vals w h1 h2 h3 => by rw [fin_Fr]; exact H vals w h1 h2 (heldAll_of h3))
 intro vals w hCw hm o ho
 have hb := hok.2
 unfold bare at hb
 rw [List.all_eq_true] at hb
 have hg := hb l hl
 have hx := (hp.all l hl).2 m vals w hCw (heldBy_of hm)
 have ho' : ops.getD l.idx default = o := by rw [Array.getD_eq_getD_getElem?, ho]; rfl
 rw [ho'] at hg hx
 have hw : Region.wanted o (yieldV ops (Fr n E) W vals) = true := by
  unfold Region.wanted
  cases hgg : o.guard with
  | none => rfl
  | some x => rw [hgg] at hg; cases hg
 rw [if_pos hw, evalV_Fr]
 exact hx
theorem partN_pure {i : Nat} {B : List Nat} {v : Value} (hdn : ∀ m w, C (m + 1) w → C m w) (hrf : ∀ w : World, Ext w w)
  (h : ∀ (m : Nat) (vals : Nat → Value) (w : World), C (m + 1) w → heldBy B vals w L → (execOp (evalVE n E W vals) (ops.getD i default)).run P w = .ok (.value v) w) : PartN P ops n E W C Ext L (pureL i B v) :=
 ⟨fun _ _ _ _ h => h, fun m vals w hC hb => OpOk.value (h m vals w hC hb) ⟨hdn m w hC, hrf w, by simp [pureL, upv]⟩⟩
end
end Go.Proofs.YtdcbnkimjhefkaaGreatDoor

namespace Go.Proofs.YtdcbnkimjhefkaaGreatDoor
open Go.RowKit
set_option maxRecDepth 100000
def zeroF : List Value := [.int .i64 0, .int .i64 0, .int .i64 0, .string ⟨⟨[]⟩⟩, .int .i64 0, .int .i64 0, .int .i64 0, .string ⟨⟨[]⟩⟩]
structure FaS (b : Nat) (ns : List Int) (lim : Nat) (w0 : World) (k2 k3 : Nat) (c : Cmd) (w : World) : Prop where
 dk : DK b ns lim w0 w
 h2 : w.heap[k2]? = some (.cells zeroF.toArray 61 (0, 0))
 h3 : w.heap[k3]? = some (.cells c.fact.toArray 61 (0, 0))
 l2 : w0.heap.size ≤ k2
 l3 : k2 < k3
 lb : b < w0.heap.size
variable {b : Nat} {ns : List Int} {lim lim' : Nat} {w0 : World} {k2 k3 : Nat} {c c' : Cmd} {w w' : World} {R : Ending → World → Prop} {E : Nat → Value}
theorem FaS.call (h : FaS b ns lim w0 k2 k3 c w) (D : DK b ns lim' w w') : FaS b ns lim' w0 k2 k3 c w' := by
 have := h.l2
 have := h.l3
 have := h.lb
 exact ⟨h.dk.next D, (D.but.block _ (heap_lt h.h2) (by omega)).trans h.h2, (D.but.block _ (heap_lt h.h3) (by omega)).trans h.h3, h.l2, h.l3, h.lb⟩
theorem FaS.below (h : FaS b ns lim w0 k2 k3 c w) (hb : Below w.heap.size w w') : FaS b ns lim w0 k2 k3 c w' := h.call ⟨h.dk.deck.below hb, .of_below hb⟩
theorem FaS.more (h : FaS b ns lim w0 k2 k3 c w) (hl : lim ≤ lim') : FaS b ns lim' w0 k2 k3 c w := ⟨⟨h.dk.deck.more hl, h.dk.but⟩, h.h2, h.h3, h.l2, h.l3, h.lb⟩
theorem FaS.ne (h : FaS b ns lim w0 k2 k3 c w) : k3 ≠ k2 := by have := h.l3; omega
abbrev pb (k : Nat) : Value := .pointer (some ⟨k, 0, none⟩)
abbrev entF (k : Nat) (c : Cmd) : Ent := ⟨k, 0, c.fact, 61, true⟩
abbrev entZ (k : Nat) : Ent := ⟨k, 0, zeroF, 61, true⟩
def FactPost (b : Nat) (ns : List Int) (lim : Nat) (w0 : World) (e : Ending) (w : World) : Prop := ∃ c, GenF c ∧ e = .returned (.agg ⟨c.fact⟩) ∧ DK b ns lim w0 w
noncomputable def codeFt : Code := Tryz.f60.body.getD .skip
noncomputable def tFt0 : List Item := advT 60 [.code codeFt]
noncomputable def tFt1 : List Item := advT 60 (popOp tFt0)
noncomputable def tFt2 : List Item := advT 60 (popOp tFt1)
noncomputable def tFe1 : List Item := advT 60 (elseT (advT 60 (popOp tFt2)))
noncomputable def tFe2 : List Item := advT 60 (elseT tFe1)
noncomputable def tFc1 : List Item := advT 60 (thenT tFe2)
noncomputable def tFq1 : List Item := advT 60 (thenT tFc1)
noncomputable def tFe3 : List Item := advT 60 (elseT tFc1)
noncomputable def tFc2 : List Item := advT 60 (thenT tFe3)
noncomputable def tFq2 : List Item := advT 60 (thenT tFc2)
noncomputable def tFe4 : List Item := advT 60 (elseT tFc2)
noncomputable def tFq3 : List Item := advT 60 (thenT tFe4)
noncomputable def tFe5 : List Item := advT 60 (elseT tFe4)
noncomputable def tFq4 : List Item := advT 60 (thenT tFe5)
noncomputable def tFe6 : List Item := advT 60 (elseT tFe5)
noncomputable def tFq5 : List Item := advT 60 (thenT tFe6)
noncomputable def tFe7 : List Item := advT 60 (elseT tFe6)
noncomputable def tFc3 : List Item := advT 60 (thenT tFe7)
noncomputable def tFq6 : List Item := advT 60 (thenT tFc3)
noncomputable def tFq7 : List Item := advT 60 (elseT tFc3)
noncomputable def tFz : List Item := advT 80 (thenT (advT 60 (popOp tFt2)))
abbrev envF (b k2 k3 : Nat) : List (Nat × Value) := [(0, pb b), (2, pb k2), (3, pb k3)]
theorem fact_ret {O : List Nat} {B z : Nat} {x : Nat × Nat} {q : List (Nat × Nat)} (hG : GenF c') (S : FaS b ns lim w0 k2 k3 c w) (hL : Lies O B w' ⟨z, [entF k3 c', ⟨k2, 0, c'.fact, 61, true⟩], x, q⟩) (hK : Kept [k3, k2] w.heap.size w w') :
  At Tryz.prog 60 (FactPost b ns lim w0) tFz (Fr 101 (updL E [(2, pb k2)])) w' := by
 have g2 := hL.sat.good ⟨k2, 0, c'.fact, 61, true⟩ (by simp)
 have h1 := S.l2
 have h3 := S.l3
 have h4 := S.lb
 refine at_ret (fn := Tryz.f60) (by kernel_rfl) (by kernel_rfl) ⟨0, [⟨k2, 0, c'.fact, 61, true⟩], (0, 0), []⟩ (fun e he => by rw [List.mem_singleton.1 he]; exact g2) (.agg ⟨c'.fact⟩) (by kernel_rfl) (by kernel_rfl) ⟨c', hG, rfl, ?_, ?_⟩
 ·exact S.dk.deck.kept (fun k hk => by simp at hk; omega) hK
 ·exact S.dk.but.kept (fun k hk => by simp at hk; omega) hK
theorem pick_call {td : List Item} {l : List (Nat × Value)} {g cap : Nat} {xs : List Int} {dst : Option Tmp} {ops : List Operand} (S : FaS b ns lim w0 k2 k3 c w) (hg : w.heap[g]? = some (.cells (xs.map (.int .i64)).toArray 3 (0, 0))) (hgk : k3 < g) (hx : xs ≠ []) (hxl : xs.length ≤ 100) (hlim : lim ≤ 4611686018427380000)
  (hc : curCall 101 (updL E l) td = some (59, ops, dst)) (ha : ops.map (evE 101 (updL E l)) = [pb b, .slice (some ⟨g, 0, none⟩) xs.length cap])
  (hk : ∀ x w2, x ∈ xs → FaS b ns (lim + 1) w0 k2 k3 c w2 → At Tryz.prog 60 R (popOp td) (Fr 101 (updO (updL E l) dst (.int .i64 x))) w2) :
  At Tryz.prog 60 R td (Fr 101 (updL E l)) w := by
 have h1 := S.l2
 have h3 := S.l3
 have h4 := S.lb
 refine at_call 59 ops dst [pb b, .slice (some ⟨g, 0, none⟩) xs.length cap] hc ha (by kernel_rfl) ((dpick_any b ns lim w S.dk.deck (by omega) g cap xs hx hxl (by omega) (heap_lt hg) (rangeAt_lit hg 0 _ (by rw [List.drop_zero, List.take_length]))).mono fun e w2 hh => ?_)
 obtain ⟨x, hxm, rfl, D⟩ := hh
 exact ⟨_, rfl, hk x w2 hxm (S.call D)⟩
theorem next_call {td : List Item} {l : List (Nat × Value)} {n : Nat} {dst : Option Tmp} {ops : List Operand} (S : FaS b ns lim w0 k2 k3 c w) (hn : 1 ≤ n) (hn2 : n ≤ 1000000) (hlim : lim ≤ 4611686018427380000)
  (hc : curCall 101 (updL E l) td = some (32, ops, dst)) (ha : ops.map (evE 101 (updL E l)) = [pb b, .int .i64 n])
  (hk : ∀ (k : Nat) w2, k < n → FaS b ns (lim + 1) w0 k2 k3 c w2 → At Tryz.prog 60 R (popOp td) (Fr 101 (updO (updL E l) dst (.int .i64 k))) w2) :
  At Tryz.prog 60 R td (Fr 101 (updL E l)) w := by
 refine at_call 32 ops dst [pb b, .int .i64 n] hc ha (by kernel_rfl) ((dnext_any b ns lim n w S.dk.deck (by omega) (by omega) (by omega)).mono fun e w2 hh => ?_)
 obtain ⟨k, hk2, rfl, D⟩ := hh
 exact ⟨_, rfl, hk k w2 (by omega) (S.call D)⟩
theorem fact_input {e d : Int} (he : mid e) (hd : mid d) (hlim : lim ≤ 4611686018427380000) (S : FaS b ns lim w0 k2 k3 (fc e 0 d [] 0 0 0 []) w) (k : Nat) (hk : k = 2 ∨ k = 3 ∨ k = 4 ∨ k = 5) :
  At Tryz.prog 60 (FactPost b ns (lim + 1) w0) (popOp tFt2) (Fr 101 (updL E (envF b k2 k3 ++ [(11, .int .i64 k)]))) w := by
 have h3 := S.l3
 have go : At Tryz.prog 60 (FactPost b ns (lim + 1) w0) (popOp tFt2) (Fr 101 (updL E (envF b k2 k3 ++ [(11, .int .i64 k)]))) w := by
  have key : ∀ w1 E1, FaS b ns lim w0 k2 k3 (fc e 0 d [] 0 0 0 []) w1 → w1.heap[w.heap.size]? = some (.cells (([3000000, 1500000, 2499990, 0, -100000, 1000000000, 4000001] : List Int).map (.int .i64)).toArray 3 (0, 0)) → At Tryz.prog 60 (FactPost b ns (lim + 1) w0) tFq1 (Fr 101 (updL E1 (envF b k2 k3 ++ [(41, pb b), (42, .slice (some ⟨w.heap.size, 0, none⟩) 7 7)]))) w1 := by
   intro w1 E1 S1 hg
   have hk3 := heap_lt S.h3
   refine pick_call (dst := some 43) (ops := [.tmp 41, .tmp 42]) (cap := 7) S1 hg (by omega) (by simp) (by simp) hlim (by kernel_rfl) (by kernel_rfl) fun x w2 hx S2 => ?_
   have hv : mid x := by
    simp only [List.mem_cons, List.not_mem_nil, or_false] at hx
    rcases hx with rfl | rfl | rfl | rfl | rfl | rfl | rfl <;> exact ⟨by decide, by decide⟩
   refine at_runC 300 [(2, 1)] (popOp tFq1) w2.heap.size [entF k3 (fc e 0 d [] 0 0 0 []), entZ k2] tFz [(2, pb k2)] w2.heap.size [entF k3 (fc e 3 d [114, 97, 116, 101] x 0 0 []), ⟨k2, 0, (fc e 3 d [114, 97, 116, 101] x 0 0 []).fact, 61, true⟩] (lies_two S2.h3 S2.h2 S2.ne) (by kernel_rfl) fun w9 E9 hL9 hK9 => ?_
   exact fact_ret (gen3rate e d x he hd hv) S2 hL9 hK9
  have hsz := S.h3
  rcases hk with rfl | rfl | rfl | rfl
  all_goals
   refine at_runC 300 [] (popOp tFt2) w.heap.size [] tFq1 (envF b k2 k3 ++ [(41, pb b), (42, .slice (some ⟨w.heap.size, 0, none⟩) 7 7)]) (w.heap.size + 1) [⟨w.heap.size, 0, ([3000000, 1500000, 2499990, 0, -100000, 1000000000, 4000001] : List Int).map (.int .i64), 3, true⟩] (lies_nil w) (by kernel_rfl) fun w1 E1 hL1 hK1 => ?_
   exact key w1 E1 (S.below (hK1.below (Nat.le_refl _) (fun k hk => by cases hk))) (own_good (hL1.sat.good _ (List.mem_singleton.2 rfl)))
 exact go
theorem fact_hours {e d : Int} (he : mid e) (hd : mid d) (hlim : lim ≤ 4611686018427380000) (S : FaS b ns lim w0 k2 k3 (fc e 0 d [] 0 0 0 []) w) (k : Nat) (hk : k = 6 ∨ k = 7) :
  At Tryz.prog 60 (FactPost b ns (lim + 1) w0) (popOp tFt2) (Fr 101 (updL E (envF b k2 k3 ++ [(11, .int .i64 k)]))) w := by
 have h3 := S.l3
 have go : At Tryz.prog 60 (FactPost b ns (lim + 1) w0) (popOp tFt2) (Fr 101 (updL E (envF b k2 k3 ++ [(11, .int .i64 k)]))) w := by
  have key : ∀ w1 E1, FaS b ns lim w0 k2 k3 (fc e 0 d [] 0 0 0 []) w1 → w1.heap[w.heap.size]? = some (.cells (([480, 60, 7, 0, 1440] : List Int).map (.int .i64)).toArray 3 (0, 0)) → At Tryz.prog 60 (FactPost b ns (lim + 1) w0) tFq2 (Fr 101 (updL E1 (envF b k2 k3 ++ [(50, pb b), (51, .slice (some ⟨w.heap.size, 0, none⟩) 5 5)]))) w1 := by
   intro w1 E1 S1 hg
   have hk3 := heap_lt S.h3
   refine pick_call (dst := some 52) (ops := [.tmp 50, .tmp 51]) (cap := 5) S1 hg (by omega) (by simp) (by simp) hlim (by kernel_rfl) (by kernel_rfl) fun x w2 hx S2 => ?_
   have hv : mid x := by
    simp only [List.mem_cons, List.not_mem_nil, or_false] at hx
    rcases hx with rfl | rfl | rfl | rfl | rfl <;> exact ⟨by decide, by decide⟩
   refine at_runC 300 [(2, 1)] (popOp tFq2) w2.heap.size [entF k3 (fc e 0 d [] 0 0 0 []), entZ k2] tFz [(2, pb k2)] w2.heap.size [entF k3 (fc e 4 d [115, 104, 105, 102, 116, 115] x 0 0 []), ⟨k2, 0, (fc e 4 d [115, 104, 105, 102, 116, 115] x 0 0 []).fact, 61, true⟩] (lies_two S2.h3 S2.h2 S2.ne) (by kernel_rfl) fun w9 E9 hL9 hK9 => ?_
   exact fact_ret (gen4shifts e d x he hd hv) S2 hL9 hK9
  have hsz := S.h3
  rcases hk with rfl | rfl
  all_goals
   refine at_runC 300 [] (popOp tFt2) w.heap.size [] tFq2 (envF b k2 k3 ++ [(50, pb b), (51, .slice (some ⟨w.heap.size, 0, none⟩) 5 5)]) (w.heap.size + 1) [⟨w.heap.size, 0, ([480, 60, 7, 0, 1440] : List Int).map (.int .i64), 3, true⟩] (lies_nil w) (by kernel_rfl) fun w1 E1 hL1 hK1 => ?_
   exact key w1 E1 (S.below (hK1.below (Nat.le_refl _) (fun k hk => by cases hk))) (own_good (hL1.sat.good _ (List.mem_singleton.2 rfl)))
 exact go
variable {w2 : World}
theorem fact_hired {e d : Int} (he : mid e) (hd : mid d) (S2 : FaS b ns lim w0 k2 k3 (fc e 0 d [] 0 0 0 []) w2) :
  At Tryz.prog 60 (FactPost b ns lim w0) (popOp tFt2) (Fr 101 (updL E (envF b k2 k3 ++ [(11, .int .i64 (0 : Nat))]))) w2 := by
  refine at_runC 300 [(2, 1)] (popOp tFt2) w2.heap.size [entF k3 (fc e 0 d [] 0 0 0 []), entZ k2] tFz [(2, pb k2)] w2.heap.size [entF k3 (fc e 1 d [] 0 0 0 []), ⟨k2, 0, (fc e 1 d [] 0 0 0 []).fact, 61, true⟩] (lies_two S2.h3 S2.h2 S2.ne) (by kernel_rfl) fun w9 E9 hL9 hK9 => ?_
  exact fact_ret (gen1 e d he hd) S2 hL9 hK9
theorem fact_left {e d : Int} (he : mid e) (hd : mid d) (S2 : FaS b ns lim w0 k2 k3 (fc e 0 d [] 0 0 0 []) w2) :
  At Tryz.prog 60 (FactPost b ns lim w0) (popOp tFt2) (Fr 101 (updL E (envF b k2 k3 ++ [(11, .int .i64 (1 : Nat))]))) w2 := by
  refine at_runC 300 [(2, 1)] (popOp tFt2) w2.heap.size [entF k3 (fc e 0 d [] 0 0 0 []), entZ k2] tFz [(2, pb k2)] w2.heap.size [entF k3 (fc e 2 d [] 0 0 0 []), ⟨k2, 0, (fc e 2 d [] 0 0 0 []).fact, 61, true⟩] (lies_two S2.h3 S2.h2 S2.ne) (by kernel_rfl) fun w9 E9 hL9 hK9 => ?_
  exact fact_ret (gen2 e d he hd) S2 hL9 hK9
theorem fact_rules {e d : Int} (_he : mid e) (hd : mid d) (hlim : lim ≤ 4611686018427380000) (S : FaS b ns lim w0 k2 k3 (fc e 0 d [] 0 0 0 []) w) :
  At Tryz.prog 60 (FactPost b ns (lim + 1) w0) (popOp tFt2) (Fr 101 (updL E (envF b k2 k3 ++ [(11, .int .i64 (9 : Nat))]))) w := by
 refine at_runC 300 [] (popOp tFt2) w.heap.size [] tFq4 (envF b k2 k3 ++ [(68, pb b)]) w.heap.size [] (lies_nil w) (by kernel_rfl) fun w1 E1 hL1 hK1 => ?_
 have S1 := S.below (hK1.below (Nat.le_refl _) (fun k hk => by cases hk))
 refine next_call (n := 2) (dst := some 69) (ops := [.tmp 68, .const (.int .i64 2)]) S1 (by omega) (by omega) hlim (by kernel_rfl) (by kernel_rfl) fun k w2 hk S2 => ?_
 have hv : mid (k : Int) := ⟨by omega, by omega⟩
 refine at_runC 300 [(2, 1)] (popOp tFq4) w2.heap.size [entF k3 (fc e 0 d [] 0 0 0 []), entZ k2] tFz [(2, pb k2)] w2.heap.size [entF k3 (fc 0 6 d [] k 0 0 []), ⟨k2, 0, (fc 0 6 d [] k 0 0 []).fact, 61, true⟩] (lies_two S2.h3 S2.h2 S2.ne) (by kernel_rfl) fun w9 E9 hL9 hK9 => ?_
 exact fact_ret (gen6 d k hd hv) S2 hL9 hK9
theorem fact_depend {e d : Int} (he : mid e) (hd : mid d) (hlim : lim ≤ 4611686018427380000) (S : FaS b ns lim w0 k2 k3 (fc e 0 d [] 0 0 0 []) w) :
  At Tryz.prog 60 (FactPost b ns (lim + 1) w0) (popOp tFt2) (Fr 101 (updL E (envF b k2 k3 ++ [(11, .int .i64 (10 : Nat))]))) w := by
 refine at_runC 300 [] (popOp tFt2) w.heap.size [] tFq5 (envF b k2 k3 ++ [(75, pb b)]) w.heap.size [] (lies_nil w) (by kernel_rfl) fun w1 E1 hL1 hK1 => ?_
 have S1 := S.below (hK1.below (Nat.le_refl _) (fun k hk => by cases hk))
 refine next_call (n := 4) (dst := some 76) (ops := [.tmp 75, .const (.int .i64 4)]) S1 (by omega) (by omega) hlim (by kernel_rfl) (by kernel_rfl) fun k w2 hk S2 => ?_
 have hv : mid (k : Int) := ⟨by omega, by omega⟩
 refine at_runC 300 [(2, 1)] (popOp tFq5) w2.heap.size [entF k3 (fc e 0 d [] 0 0 0 []), entZ k2] tFz [(2, pb k2)] w2.heap.size [entF k3 (fc e 7 d [] k 0 0 []), ⟨k2, 0, (fc e 7 d [] k 0 0 []).fact, 61, true⟩] (lies_two S2.h3 S2.h2 S2.ne) (by kernel_rfl) fun w9 E9 hL9 hK9 => ?_
 exact fact_ret (gen7 e d k he hd hv) S2 hL9 hK9
end Go.Proofs.YtdcbnkimjhefkaaGreatDoor

namespace Go.Proofs.YtdcbnkimjhefkaaGreatDoor
def crashC (c : Cmd) : Cmd := { kindC c with wh := c.wh, torn := c.torn, stop := c.stop }
def crashR (c : Cmd) : List UInt8 × Bool :=
 if (c.wh : Int) ≤ 1000000000000000000 ∧ fitsP c.torn = true ∧ fitsP c.stop = true then ([99, 114, 97, 115, 104, 32] ++ Lib.decDigits c.wh ++ [32] ++ Lib.itoa c.torn ++ [32] ++ Lib.itoa c.stop ++ [10], decide (crashC c = c)) else ([], false)
def commandR (c : Cmd) : List UInt8 × Bool := if c.kind = 6 then crashR c else plainR c
def SameC (c : Cmd) : Prop := (commandR c).2 = okC c ∧ (okC c = true → (commandR c).1 = textC c)
theorem agree_of {c : Cmd} {F : Form} {s : List UInt8} {b b' e e' : Bool} (hf : formOf c = some F) (hr : commandR c = if b = true then (s, e) else ([], false)) (h1 : okF c F = (b' && e')) (hb : b = b') (he : e = e') (hs : linesP c F = s) : SameC c := by
 subst hb he
 unfold SameC
 have ho : okC c = (b && e) := by simp only [okC, hf, h1]
 have ht : textC c = s := by simp only [textC, hf, hs]
 rw [ho, ht, hr]
 cases b <;> simp
set_option maxRecDepth 100000 in
theorem agree_release (c : Cmd) (h : c.kind = 3) (hk : c.fk = 0) : SameC c := by
 have hf : formOf c = some ⟨[114, 101, 108, 101, 97, 115, 101], 3, 0, []⟩ := by simp [formOf, forms, List.find?, formIs, h, hk]
 refine agree_of (b := true) (b' := true) (e := decide (kindC c = c)) (e' := decide (kindC c = c)) (s := [114, 101, 108, 101, 97, 115, 101, 10]) hf (by simp [commandR, plainR, h]) ?_ rfl rfl (by simp [linesP, itemsP])
 have e1 : okL c [] = true := rfl
 simp only [okF, leftP, restP, List.foldl, e1]
 simp
 obtain ⟨a, b, d, f, g, i, j, k, l, m, n, o, p⟩ := c
 simp only at h hk
 subst h hk
 simp [kindC, Cmd.of, eq_comm]
theorem agree_pay (c : Cmd) (h : c.kind = 4) (hk : c.fk = 0) : SameC c := by
 have hf : formOf c = some ⟨[112, 97, 121], 4, 0, []⟩ := by simp [formOf, forms, List.find?, formIs, h, hk]
 refine agree_of (b := true) (b' := true) (e := decide (kindC c = c)) (e' := decide (kindC c = c)) (s := [112, 97, 121, 10]) hf (by simp [commandR, plainR, h]) ?_ rfl rfl (by simp [linesP, itemsP])
 have e1 : okL c [] = true := rfl
 simp only [okF, leftP, restP, List.foldl, e1]
 simp
 obtain ⟨a, b, d, f, g, i, j, k, l, m, n, o, p⟩ := c
 simp only at h hk
 subst h hk
 simp [kindC, Cmd.of, eq_comm]
theorem agree_reverse (c : Cmd) (h : c.kind = 5) (hk : c.fk = 0) : SameC c := by
 have hf : formOf c = some ⟨[114, 101, 118, 101, 114, 115, 101], 5, 0, []⟩ := by simp [formOf, forms, List.find?, formIs, h, hk]
 refine agree_of (b := true) (b' := true) (e := decide (kindC c = c)) (e' := decide (kindC c = c)) (s := [114, 101, 118, 101, 114, 115, 101, 10]) hf (by simp [commandR, plainR, h]) ?_ rfl rfl (by simp [linesP, itemsP])
 have e1 : okL c [] = true := rfl
 simp only [okF, leftP, restP, List.foldl, e1]
 simp
 obtain ⟨a, b, d, f, g, i, j, k, l, m, n, o, p⟩ := c
 simp only at h hk
 subst h hk
 simp [kindC, Cmd.of, eq_comm]
theorem agree_prepare (c : Cmd) (h : c.kind = 2) (hk : c.fk = 0) : SameC c := by
 have hf : formOf c = some ⟨[112, 114, 101, 112, 97, 114, 101], 2, 0, [80]⟩ := by simp [formOf, forms, List.find?, formIs, h, hk]
 have ho : okC c = (fitsP c.per && decide (perC c = c)) := by
  have e1 : okL c [80] = fitsP c.per := by simp [okL, okP, numP]
  simp only [okC, hf, okF, leftP, restP, List.foldl, e1]
  simp
  obtain ⟨a, b, d, f, g, i, j, k, l, m, n, o, p⟩ := c
  simp only at h hk
  subst h hk
  simp [zeroP, zeroN, perC, kindC, Cmd.of, eq_comm]
 have ht : textC c = [112, 114, 101, 112, 97, 114, 101, 32] ++ Lib.itoa c.per ++ [10] := by simp [textC, hf, linesP, itemsP, itemP, numP]
 unfold SameC
 rw [ho, ht]
 have hr : commandR c = ([112, 114, 101, 112, 97, 114, 101, 32] ++ Lib.itoa c.per ++ [10], fitsP c.per && decide (perC c = c)) := by simp [commandR, plainR, h]
 rw [hr]
 exact ⟨rfl, fun _ => rfl⟩
theorem agree_crash (c : Cmd) (h : c.kind = 6) (hk : c.fk = 0) : SameC c := by
 have hf : formOf c = some ⟨[99, 114, 97, 115, 104], 6, 0, [87, 84, 83]⟩ := by simp [formOf, forms, List.find?, formIs, h, hk]
 have ho : okC c = ((decide ((c.wh : Int) ≤ 1000000000000000000) && (fitsP c.torn && fitsP c.stop)) && decide (crashC c = c)) := by
  have e1 : okL c [87, 84, 83] = (decide ((c.wh : Int) ≤ 1000000000000000000) && (fitsP c.torn && fitsP c.stop)) := by simp [okL, okP, numP]
  simp only [okC, hf, okF, leftP, restP, List.foldl, e1]
  simp
  obtain ⟨a, b, d, f, g, i, j, k, l, m, n, o, p⟩ := c
  simp only at h hk
  subst h hk
  simp [zeroP, zeroN, crashC, kindC, Cmd.of, eq_comm]
 have ht : textC c = [99, 114, 97, 115, 104, 32] ++ Lib.decDigits c.wh ++ [32] ++ Lib.itoa c.torn ++ [32] ++ Lib.itoa c.stop ++ [10] := by simp [textC, hf, linesP, itemsP, itemP, numP]
 unfold SameC
 rw [ho, ht]
 have hr : commandR c = crashR c := by simp [commandR, h]
 rw [hr]
 unfold crashR
 by_cases hc : (c.wh : Int) ≤ 1000000000000000000 ∧ fitsP c.torn = true ∧ fitsP c.stop = true
 ·rw [if_pos hc]
  simp [hc.1, hc.2.1, hc.2.2]
 ·rw [if_neg hc]
  have : (decide ((c.wh : Int) ≤ 1000000000000000000) && (fitsP c.torn && fitsP c.stop)) = false := by
   cases hq : (decide ((c.wh : Int) ≤ 1000000000000000000) && (fitsP c.torn && fitsP c.stop)) with
   | false => rfl
   | true => simp only [Bool.and_eq_true, decide_eq_true_eq] at hq; exact absurd hq hc
  simp [this]
theorem agree_none (c : Cmd) (h : formOf c = none) (hr : (commandR c).2 = false) : SameC c := by
 have ho : okC c = false := by simp [okC, h]
 unfold SameC
 rw [ho, hr]
 exact ⟨rfl, fun h => nomatch h⟩
theorem fk_other (c : Cmd) (h : c.kind = 2 ∨ c.kind = 3 ∨ c.kind = 4 ∨ c.kind = 5 ∨ c.kind = 6) (hk : c.fk ≠ 0) : SameC c := by
 refine agree_none c ?_ ?_
 ·have hk' : ¬ (0 = c.fk) := fun e => hk e.symm
  have hk2 : ((0 : Int) == c.fk) = false := by simpa using hk'
  rcases h with h | h | h | h | h <;> simp [formOf, forms, List.find?, formIs, h, hk2]
 ·have hk' : ¬ (0 = c.fk) := fun e => hk e.symm
  obtain ⟨a, b, d, f, g, i, j, k, l, m, n, o, p⟩ := c
  simp only at h hk hk'
  rcases h with h | h | h | h | h <;> subst h <;> simp [commandR, plainR, crashR, crashC, perC, kindC, hk']
  split <;> rfl
end Go.Proofs.YtdcbnkimjhefkaaGreatDoor

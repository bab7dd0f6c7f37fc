/-
  Part 0 of a proof: contracts of functions.
-/
import Derived.KernelRfl
import Derived.Orders
set_option linter.all false
namespace Go.Proofs.YtmcpjkcggfmcmaaGreatDoor
abbrev Wr:=List (Tmp×Nat)
def Wr.of (W:Wr) (t:Tmp):Option Nat:=(W.find? fun p=>p.1 == t).map (·.2)
def FW (vals:Nat→Value) (i:Nat) (v:Value):Nat→Value:=fun j=>if j=i then v else vals j
def Hh (a0:Act) (W:Wr) (vals:Nat→Value):Operand→Value
 | .tmp t=>match W.of t with
  | some j=>vals j
  | none=>a0.eval (.tmp t)
 | x=>a0.eval x
def Jm (ops:Array Oper) (a0:Act) (W:Wr) (vals:Nat→Value) (j:Nat):Option Bool:=
 match (ops[j]?).bind (·.dst) with
 | some t=>match Hh a0 W vals (.tmp t) with
  | .bool b=>some b
  | _=>none
 | none=>none
def AN (P:Program) (o:Oper) (ρ:Operand→Value) (w:World) (K:Value→World→Prop):Prop:=
 match (execOp ρ o).run P w with
 | .ok (.value v) w'=>K v w'
 | .ok .skip w'=>K undef w'
 | .ok (.enter f args) w'=>Calls P f args w' fun e w''=>∃ v,e=.returned v∧K v w''
 | _=>False
theorem AN.value {P:Program} {o:Oper} {ρ:Operand→Value} {w w':World} {K:Value→World→Prop} {v:Value} (h:(execOp ρ o).run P w=.ok (.value v) w') (hk:K v w'):AN P o ρ w K:=by
 unfold AN; rw [h]; exact hk
theorem AN.enter {P:Program} {o:Oper} {ρ:Operand→Value} {w w':World} {K:Value→World→Prop} {f:FuncId} {args:Array Value} (h:(execOp ρ o).run P w=.ok (.enter f args) w')
  (hk:Calls P f args w' fun e w''=>∃ v,e=.returned v∧K v w''):AN P o ρ w K:=by
 unfold AN; rw [h]; exact hk
section
variable {P:Program} {ops:Array Oper} {Q:Exit→Act→World→Prop} {md:Region.Mode}
structure C3 where
 idx:Nat
 before:List Nat
 deps:List Nat
 says:List Value→World→Prop
def C3.holds (l:C3) (vals:Nat→Value) (w:World):Prop:=l.says (l.deps.map vals) w
def C3.ob (P:Program) (ops:Array Oper) (a0:Act) (W:Wr) (C:World→Prop) (Ext:World→World→Prop) (L:List C3) (l:C3):Prop:=
 ∀ (vals:Nat→Value) (w:World),C w→(∀ m∈L,m.idx∈l.before→m.holds vals w)→∀ o,ops[l.idx]?=some o→
  if Region.wanted o (Jm ops a0 W vals) then AN P o (Hh a0 W vals) w (fun v w'=>C w'∧Ext w w'∧l.holds (FW vals l.idx v) w')
  else l.holds (FW vals l.idx undef) w
def He (md:Region.Mode) (ops:Array Oper) (W:Wr) (listed:Array Bool) (n:Nat) (L:List C3):Bool:=
 let A:=L.map (·.idx)
 A.Nodup && listed.size == ops.size &&
 (L.all fun l=>listed.getD l.idx true == false && (match ops[l.idx]? with
  | some o=>
   (match o.op with | .select ..=>false | _=>true) &&
   (l.before.all fun j=>A.contains j && j != l.idx && o.after.any fun e=>Region.binds md e && (e.on == j || L.any fun m=>m.idx == e.on && m.before.contains j)) &&
   (o.after.all fun e=>!Region.binds md e || (listed.getD e.on false && !A.contains e.on) || (decide (e.on < l.idx) && A.contains e.on)) &&
   (l.deps.all fun j=>j == l.idx || l.before.contains j) &&
   (o.looksAt ops).all (fun t=>match W.of t with | some j=>l.before.contains j | none=>true) &&
   (match o.dst with | some d=>decide (d < n) && W.of d == some l.idx | none=>true)
  | none=>false)) &&
 (W.all fun p=>W.of p.1 == some p.2 && A.contains p.2 && (match ops[p.2]? with | some o=>o.dst == some p.1 | none=>false)) &&
 (List.range ops.size).all (fun t=>listed.getD t true || A.contains t || (match ops[t]? with
  | some o=>(o.after.any fun e=>Region.binds md e && !listed.getD e.on false && !A.contains e.on) ||
    A.all fun i=>o.after.any fun e=>Region.binds md e && (e.on == i || L.any fun m=>m.idx == e.on && m.before.contains i)
  | none=>true))
theorem LH:∀ (A:List Nat) (b:Array Bool) (j:Nat),(A.foldl (fun b i=>b.setIfInBounds i true) b)[j]?=if j∈A∧j < b.size then some true else b[j]?
 | [],b,j=>by simp
 | i :: A,b,j=>by
  rw [List.foldl_cons,LH A,Array.size_setIfInBounds,Array.getElem?_setIfInBounds]
  by_cases hj:j∈A
  ·by_cases hs:j < b.size
   ·simp [hj,hs]
   ·by_cases hij:i=j
    ·subst hij; simp [hs]
    ·simp [hs,hij]
  ·by_cases hij:i=j
   ·subst hij
    by_cases hs:i < b.size
    ·simp [hs,hj]
    ·simp [hs,hj]
   ·have:¬ j=i:=fun h=>hij h.symm
    simp [hj,hij,this]
def Dz (ops:Array Oper) (i:Nat):Option Tmp:=(ops[i]?).bind (·.dst)
def Ix (ops:Array Oper) (vals:Nat→Value) (A:List Nat) (a:Act):Act:=A.foldl (fun a i=>a.put (Dz ops i) (vals i)) a
theorem Hk (a:Act) (d:Option Tmp) (v:Value) (t:Nat):(a.put d v).tmps[t]?=if d=some t∧t < a.tmps.size then some v else a.tmps[t]?:=by
 cases d with
 | none=>simp [Act.put]
 | some d=>
  simp only [Act.put,Array.getElem?_setIfInBounds,Option.some.injEq]
  by_cases h:d=t
  ·subst h
   by_cases hs:d < a.tmps.size
   ·simp [hs]
   ·simp [hs]
  ·simp [h]
theorem LQ (a:Act) (d:Option Tmp) (v:Value):(a.put d v).tmps.size=a.tmps.size:=by cases d <;> simp [Act.put]
theorem NP (a:Act) (d:Option Tmp) (v:Value):(a.put d v).defers=a.defers:=by cases d <;> rfl
theorem Qu (ops:Array Oper) (vals:Nat→Value):∀ (A:List Nat) (a:Act),(Ix ops vals A a).tmps.size=a.tmps.size∧(Ix ops vals A a).defers=a.defers
 | [],a=>⟨rfl,rfl⟩
 | i :: A,a=>by
  have:=Qu ops vals A (a.put (Dz ops i) (vals i))
  rw [LQ,NP] at this
  exact this
theorem NU (ops:Array Oper) (vals:Nat→Value) (t:Nat):∀ (A:List Nat) (a:Act),(∀ i∈A,Dz ops i≠some t)→(Ix ops vals A a).tmps[t]?=a.tmps[t]?
 | [],_,_=>rfl
 | i :: A,a,h=>by
  have h1:=NU ops vals t A (a.put (Dz ops i) (vals i)) (fun k hk=>h k (by simp [hk]))
  have h2:=h i (by simp)
  rw [Hk] at h1
  simp only [h2,false_and,if_false] at h1
  exact h1
theorem XY (ops:Array Oper) (vals:Nat→Value) (t j:Nat):∀ (A:List Nat) (a:Act),(∀ i∈A,Dz ops i=some t→i=j)→j∈A→Dz ops j=some t→t < a.tmps.size→(Ix ops vals A a).tmps[t]?=some (vals j)
 | [],_,_,h,_,_=>by cases h
 | i :: A,a,h,hj,hd,ht=>by
  by_cases hA:j∈A
  ·exact XY ops vals t j A (a.put (Dz ops i) (vals i)) (fun k hk=>h k (by simp [hk])) hA hd (by rw [LQ]; exact ht)
  ·have hij:i=j:=by simp [hA] at hj; exact hj.symm
   subst hij
   have h1:=NU ops vals t A (a.put (Dz ops i) (vals i)) (fun k hk hd'=>hA ((h k (by simp [hk]) hd') ▸ hk))
   rw [Hk] at h1
   simp only [hd,ht,and_self,if_true] at h1
   have e:Ix ops vals (i :: A) a=Ix ops vals A (a.put (some t) (vals i)):=by unfold Ix; rw [List.foldl_cons,hd]
   rw [e]; exact h1
structure F6 (md:Region.Mode) (ops:Array Oper) (W:Wr) (listed0:Array Bool) (a0:Act) (C:World→Prop) (Ext:World→World→Prop) (L:List C3) (w0:World) (listed:Array Bool) (vals:Nat→Value) (a:Act) (w:World):Prop where
 size:listed.size=ops.size
 keep:∀ j,j∉L.map (·.idx)→listed[j]?=listed0[j]?
 shut:∀ l∈L,listed.getD l.idx false=true→∀ j∈l.before,listed.getD j false=true
 defers:a.defers=a0.defers
 slots:a.tmps.size=a0.tmps.size
 done:∀ t j,W.of t=some j→listed.getD j false=true→a.tmps[t]?=some (vals j)
 wait:∀ t j,W.of t=some j→listed.getD j false=false→a.tmps[t]?=a0.tmps[t]?
 other:∀ t,W.of t=none→a.tmps[t]?=a0.tmps[t]?
 cls:C w
 ext:Ext w0 w
 says:∀ l∈L,listed.getD l.idx false=true→l.holds vals w
theorem Ro {b:Array Bool} {j:Nat} (h:j < b.size) (d:Bool):b[j]?=some (b.getD j d):=by simp [h]
structure IG (md:Region.Mode) (ops:Array Oper) (W:Wr) (listed:Array Bool) (n:Nat) (L:List C3):Prop where
 nodup:(L.map (·.idx)).Nodup
 size:listed.size=ops.size
 fresh:∀ l∈L,listed.getD l.idx true=false
 op:∀ l∈L,∃ o,ops[l.idx]?=some o
 sel:∀ l∈L,∀ o,ops[l.idx]?=some o→∀ cs b,o.op≠.select cs b
 bef:∀ l∈L,∀ o,ops[l.idx]?=some o→∀ j∈l.before,j∈L.map (·.idx)∧j≠l.idx∧∃ e∈o.after,Region.binds md e=true∧(e.on=j∨∃ m∈L,m.idx=e.on∧j∈m.before)
 edge:∀ l∈L,∀ o,ops[l.idx]?=some o→∀ e∈o.after,Region.binds md e=true→(listed.getD e.on false=true∧e.on∉L.map (·.idx))∨(e.on < l.idx∧e.on∈L.map (·.idx))
 deps:∀ l∈L,∀ j∈l.deps,j=l.idx∨j∈l.before
 looks:∀ l∈L,∀ o,ops[l.idx]?=some o→∀ t∈o.looksAt ops,∀ j,W.of t=some j→j∈l.before
 dst:∀ l∈L,∀ o,ops[l.idx]?=some o→∀ d,o.dst=some d→d < n∧W.of d=some l.idx
 wr:∀ t j,W.of t=some j→j∈L.map (·.idx)∧Dz ops j=some t
 tail:∀ t o,ops[t]?=some o→listed.getD t true=false→t∉L.map (·.idx)→(∃ e∈o.after,Region.binds md e=true∧listed.getD e.on false=false∧e.on∉L.map (·.idx))∨
  ∀ i∈L.map (·.idx),∃ e∈o.after,Region.binds md e=true∧(e.on=i∨∃ m∈L,m.idx=e.on∧i∈m.before)
theorem LD {W:Wr} {listed:Array Bool} {n:Nat} {L:List C3} (h:He md ops W listed n L=true):IG md ops W listed n L:=by
 unfold He at h
 simp only [Bool.and_eq_true,decide_eq_true_eq,beq_iff_eq,List.all_eq_true] at h
 obtain ⟨⟨⟨⟨h1,h2⟩,h3⟩,h4⟩,h5⟩:=h
 have H:∀ l∈L,∃ o,ops[l.idx]?=some o:=fun l hl=>by
  have:=(h3 l hl).2
  cases ho:ops[l.idx]? with
  | none=>simp [ho] at this
  | some o=>exact ⟨o,rfl⟩
 have G:=fun (l:C3) (hl:l∈L) (o:Oper) (ho:ops[l.idx]?=some o)=>by
  have:=(h3 l hl).2
  simp only [ho,Bool.and_eq_true,List.all_eq_true] at this
  exact this
 refine ⟨h1,h2,fun l hl=>(h3 l hl).1,H,?_,?_,?_,?_,?_,?_,?_,?_⟩
 ·intro l hl o ho cs b hs
  have:=(G l hl o ho).1.1.1.1.1
  rw [hs] at this; cases this
 ·intro l hl o ho j hj
  have:=(G l hl o ho).1.1.1.1.2 j hj
  simp only [Bool.and_eq_true,Array.any_eq_true',List.contains_iff_mem,bne_iff_ne,Bool.or_eq_true,beq_iff_eq,List.any_eq_true] at this
  obtain ⟨⟨g1,g2⟩,e,he,hb,g3⟩:=this
  exact ⟨g1,g2,e,he,hb,g3.imp id (fun ⟨m,hm,g4,g5⟩=>⟨m,hm,g4,g5⟩)⟩
 ·intro l hl o ho e he hb
  have:=(G l hl o ho).1.1.1.2
  rw [Array.all_eq_true_iff_forall_mem] at this
  have:=this e he
  simp only [hb,Bool.not_true,Bool.false_or,Bool.or_eq_true,Bool.and_eq_true,Bool.not_eq_true',decide_eq_true_eq,List.contains_iff_mem] at this
  rcases this with ⟨g1,g2⟩ | g
  ·exact .inl ⟨g1,fun hm=>(by rw [List.contains_iff_mem.2 hm] at g2; cases g2)⟩
  ·exact .inr g
 ·intro l hl j hj
  obtain ⟨o,ho⟩:=H l hl
  have:=(G l hl o ho).1.1.2 j hj
  simp only [Bool.or_eq_true,beq_iff_eq,List.contains_iff_mem] at this
  exact this
 ·intro l hl o ho t ht j hj
  have:=(G l hl o ho).1.2 t ht
  rw [hj] at this
  simpa using this
 ·intro l hl o ho d hd
  have:=(G l hl o ho).2
  rw [hd] at this
  simpa using this
 ·intro t j hj
  unfold Wr.of at hj
  rw [Option.map_eq_some_iff] at hj
  obtain ⟨p,hp,rfl⟩:=hj
  have hm:=List.mem_of_find?_eq_some hp
  have ht:p.1=t:=by simpa using List.find?_some hp
  have:=h4 p hm
  simp only [List.contains_iff_mem] at this
  refine ⟨this.1.2,?_⟩
  have g:=this.2
  unfold Dz
  cases ho:ops[p.2]? with
  | none=>simp [ho] at g
  | some o=>simp [ho] at g ⊢; rw [g,ht]
 ·intro t o ho hl hA
  have hlt:t < ops.size:=(Array.getElem?_eq_some_iff.1 ho).1
  have:=h5 t (List.mem_range.2 hlt)
  have hc:(List.map (fun x=>x.idx) L).contains t=false:=by
   rw [Bool.eq_false_iff]; intro hh; exact hA (List.contains_iff_mem.1 hh)
  simp only [hl,hc,Bool.false_or,ho,Array.any_eq_true',Bool.and_eq_true,Bool.not_eq_true',Bool.or_eq_true,List.any_eq_true,beq_iff_eq,List.all_eq_true,List.contains_iff_mem] at this
  rcases this with ⟨e,he,⟨hb,hu⟩,g⟩ | g
  ·exact .inl ⟨e,he,hb,hu,fun hm=>(by rw [List.contains_iff_mem.2 hm] at g; cases g)⟩
  ·exact .inr fun i hi=>g i hi
theorem C3.eq_of_idx {L:List C3} (h:(L.map (·.idx)).Nodup) {l m:C3} (hl:l∈L) (hm:m∈L) (e:l.idx=m.idx):l=m:=by
 induction L with
 | nil=>cases hl
 | cons x L ih=>
  rw [List.map_cons,List.nodup_cons] at h
  rcases List.mem_cons.1 hl with rfl | hl2
  ·rcases List.mem_cons.1 hm with rfl | hm2
   ·rfl
   ·exact absurd (List.mem_map.2 ⟨m,hm2,e.symm⟩) h.1
  ·rcases List.mem_cons.1 hm with rfl | hm2
   ·exact absurd (List.mem_map.2 ⟨l,hl2,e⟩) h.1
   ·exact ih h.2 hl2 hm2
theorem XS {l:C3} {vals:Nat→Value} {i:Nat} {v:Value} {w:World} (h:l.holds vals w) (hi:i∉l.deps):l.holds (FW vals i v) w:=by
 unfold C3.holds at *
 have:l.deps.map (FW vals i v)=l.deps.map vals:=List.map_congr_left fun j hj=>by
  have hne:¬ j=i:=fun e=>hi (e ▸ hj)
  unfold FW; rw [if_neg hne]
 rw [this]; exact h
def Fy (listed:Array Bool) (L:List C3):Nat:=(L.filter fun l=>!listed.getD l.idx false).length
theorem Lv {listed:Array Bool} {i:Nat} (hi:i < listed.size) (h0:listed.getD i false=false):∀ {L:List C3},(L.map (·.idx)).Nodup→i∈L.map (·.idx)→Fy listed L=Fy (listed.setIfInBounds i true) L + 1
 | [],_,h=>by cases h
 | l :: L,hn,h=>by
  rw [List.map_cons,List.nodup_cons] at hn
  unfold Fy
  by_cases hl:l.idx=i
  ·subst hl
   have e1:(listed.setIfInBounds l.idx true).getD l.idx false=true:=by simp [hi]
   have e2:(L.filter fun m=>!(listed.setIfInBounds l.idx true).getD m.idx false)=L.filter fun m=>!listed.getD m.idx false:=List.filter_congr fun m hm=>by
    rw [getD_set_ne false (fun e=>hn.1 (List.mem_map.2 ⟨m,hm,e.symm⟩))]
   rw [List.filter_cons,List.filter_cons,h0,e1,e2]
   simp
  ·have hA:i∈L.map (·.idx):=by
    rcases List.mem_cons.1 h with e | e
    ·exact absurd e.symm hl
    ·exact e
   have ih:=Lv hi h0 hn.2 hA
   unfold Fy at ih
   rw [List.filter_cons,List.filter_cons,getD_set_ne false (Ne.symm hl)]
   split
   ·rw [List.length_cons,List.length_cons,ih]
   ·exact ih
theorem RX {listed:Array Bool} {L:List C3} (h:Fy listed L=0) {l:C3} (hl:l∈L):listed.getD l.idx false=true:=by
 unfold Fy at h
 rw [List.length_eq_zero_iff,List.filter_eq_nil_iff] at h
 have:=h l hl
 simpa using this
theorem Gl {b:Array Bool} {j:Nat} (h:b.getD j true=false):j < b.size:=by
 rcases Nat.lt_or_ge j b.size with h' | h'
 ·exact h'
 ·simp [Array.getElem?_eq_none h'] at h
theorem Fa {b:Array Bool} {j:Nat} (h:b.getD j true=false):b.getD j false=false:=by
 have:=Gl h
 simp [this] at h ⊢; exact h
variable {W:Wr} {listed0:Array Bool} {a0:Act} {C:World→Prop} {Ext:World→World→Prop} {L:List C3} {w0:World}
theorem F6.evals (F:IG md ops W listed0 a0.tmps.size L) {listed:Array Bool} {vals:Nat→Value} {a:Act} {w:World} (I:F6 md ops W listed0 a0 C Ext L w0 listed vals a w) {l:C3} (hl:l∈L) {o:Oper} (ho:ops[l.idx]?=some o)
  (hb:∀ j∈l.before,listed.getD j false=true) {t:Tmp} (ht:t∈o.looksAt ops):a.tmps[t]?=(match W.of t with | some j=>some (vals j) | none=>a0.tmps[t]?):=by
 cases hw:W.of t with
 | none=>exact I.other t hw
 | some j=>exact I.done t j hw (hb j (F.looks l hl o ho t ht j hw))
theorem F6.exec (F:IG md ops W listed0 a0.tmps.size L) {listed:Array Bool} {vals:Nat→Value} {a:Act} {w:World} (I:F6 md ops W listed0 a0 C Ext L w0 listed vals a w) {l:C3} (hl:l∈L) {o:Oper} (ho:ops[l.idx]?=some o)
  (hb:∀ j∈l.before,listed.getD j false=true):execOp a.eval o=execOp (Hh a0 W vals) o:=by
 refine execOp_congr o (F.sel l hl o ho) fun x hx=>?_
 cases x with
 | tmp t=>
  have ht:t∈o.looksAt ops:=List.mem_append_left _ (List.mem_filterMap.2 ⟨.tmp t,by simpa using hx,rfl⟩)
  have:=I.evals F hl ho hb ht
  unfold Hh Act.eval
  cases hw:W.of t with
  | none=>rw [hw] at this; simp only [Array.getD_eq_getD_getElem?,this,hw]
  | some j=>rw [hw] at this; simp only [Array.getD_eq_getD_getElem?,this,hw]; rfl
 | const v=>rfl
 | global g=>rfl
 | func f=>rfl
theorem F6.wanted (F:IG md ops W listed0 a0.tmps.size L) {listed:Array Bool} {vals:Nat→Value} {a:Act} {w:World} (I:F6 md ops W listed0 a0 C Ext L w0 listed vals a w) {l:C3} (hl:l∈L) {o:Oper} (ho:ops[l.idx]?=some o)
  (hb:∀ j∈l.before,listed.getD j false=true):Region.wanted o (yielded ops a.tmps)=Region.wanted o (Jm ops a0 W vals):=by
 unfold Region.wanted
 cases hg:o.guard with
 | none=>rfl
 | some gw=>
  obtain ⟨g,want⟩:=gw
  have hy:yielded ops a.tmps g=Jm ops a0 W vals g:=by
   unfold yielded Jm
   cases ht:(ops[g]?).bind (·.dst) with
   | none=>rfl
   | some t=>
    have hm:t∈o.looksAt ops:=by simp [Oper.looksAt,hg,ht]
    have:=I.evals F hl ho hb hm
    simp only [Option.bind_some]
    unfold Hh Act.eval
    cases hw:W.of t with
    | none=>
     rw [hw] at this
     simp only [this,hw,Array.getD_eq_getD_getElem?]
     cases hx:a0.tmps[t]? with
     | none=>rfl
     | some v=>cases v <;> rfl
    | some j=>
     rw [hw] at this
     simp only [this,hw]
     cases vals j <;> rfl
  simp only [hy]
theorem F6.step (F:IG md ops W listed0 a0.tmps.size L) (hst:∀ l∈L,∀ vs w w',C w→Ext w w'→l.says vs w→l.says vs w') (htr:∀ a b c:World,Ext a b→Ext b c→Ext a c)
  {listed:Array Bool} {vals:Nat→Value} {a:Act} {w:World} (I:F6 md ops W listed0 a0 C Ext L w0 listed vals a w) {l:C3} (hl:l∈L) {o:Oper} (ho:ops[l.idx]?=some o)
  (hb:∀ j∈l.before,listed.getD j false=true) (hu:listed.getD l.idx true=false) {v:Value} {w':World} (hC:C w') (hE:Ext w w') (hs:l.holds (FW vals l.idx v) w') :
  F6 md ops W listed0 a0 C Ext L w0 (listed.setIfInBounds l.idx true) (FW vals l.idx v) (a.put o.dst v) w':=by
 have hlt:=Gl hu
 have hff:=Fa hu
 have hown:(listed.setIfInBounds l.idx true).getD l.idx false=true:=by simp [hlt]
 refine ⟨by simp [I.size],?_,?_,?_,?_,?_,?_,?_,hC,htr _ _ _ I.ext hE,?_⟩
 ·intro j hj
  have hne:l.idx≠j:=fun e=>hj (List.mem_map.2 ⟨l,hl,e⟩)
  rw [Array.getElem?_setIfInBounds_ne hne]; exact I.keep j hj
 ·intro m hm hd j hj
  by_cases e:l.idx=m.idx
  ·obtain rfl:=C3.eq_of_idx F.nodup hl hm e
   exact getD_set_true (hb j hj)
  ·rw [getD_set_ne false e] at hd
   exact getD_set_true (I.shut m hm hd j hj)
 ·rw [NP]; exact I.defers
 ·rw [LQ]; exact I.slots
 ·intro t j hw hd
  rw [Hk]
  obtain ⟨hjA,hjd⟩:=F.wr t j hw
  by_cases e:l.idx=j
  ·subst e
   have hdo:o.dst=some t:=by unfold Dz at hjd; rw [ho] at hjd; exact hjd
   have hlt':=(F.dst l hl o ho t hdo).1
   rw [hdo,if_pos ⟨rfl,by rw [I.slots]; exact hlt'⟩]
   simp [FW]
  ·have hdo:o.dst≠some t:=fun h=>by
    have:=(F.dst l hl o ho t h).2
    rw [hw] at this
    exact e (Option.some.inj this).symm
   rw [if_neg (fun h=>hdo h.1)]
   rw [getD_set_ne false e] at hd
   rw [I.done t j hw hd]
   unfold FW; rw [if_neg (fun h=>e h.symm)]
 ·intro t j hw hd
  have e:l.idx≠j:=fun e=>by subst e; rw [hown] at hd; cases hd
  rw [getD_set_ne false e] at hd
  have hdo:o.dst≠some t:=fun h=>by
   have:=(F.dst l hl o ho t h).2
   rw [hw] at this
   exact e (Option.some.inj this).symm
  rw [Hk,if_neg (fun h=>hdo h.1)]
  exact I.wait t j hw hd
 ·intro t hw
  have hdo:o.dst≠some t:=fun h=>by
   have:=(F.dst l hl o ho t h).2
   rw [hw] at this; cases this
  rw [Hk,if_neg (fun h=>hdo h.1)]
  exact I.other t hw
 ·intro m hm hd
  by_cases e:l.idx=m.idx
  ·obtain rfl:=C3.eq_of_idx F.nodup hl hm e
   exact hs
  ·rw [getD_set_ne false e] at hd
   refine XS (hst m hm _ _ _ I.cls hE (I.says m hm hd)) fun hi=>?_
   rcases F.deps m hm _ hi with h | h
   ·exact e h
   ·have:=I.shut m hm hd _ h
    rw [hff] at this; cases this
theorem Vv (hok:He md ops W listed0 a0.tmps.size L=true) (hC:C w0) (hrf':∀ w:World,Ext w w) (htr:∀ a b c:World,Ext a b→Ext b c→Ext a c)
  (hst:∀ l∈L,∀ vs w w',C w→Ext w w'→l.says vs w→l.says vs w') (hob:∀ l∈L,l.ob P ops a0 W C Ext L) {fuel:Nat}
  (H:∀ vals w,C w→Ext w0 w→(∀ l∈L,l.holds vals w)→wpAny P md ops Q fuel ((L.map (·.idx)).foldl (fun b i=>b.setIfInBounds i true) listed0) (Ix ops vals (L.map (·.idx)) a0) w) :
  wpAny P md ops Q (L.length + fuel) listed0 a0 w0:=by
 have F:=LD hok
 have key:∀ (m:Nat) (listed:Array Bool) (vals:Nat→Value) (a:Act) (w:World),F6 md ops W listed0 a0 C Ext L w0 listed vals a w→Fy listed L=m→wpAny P md ops Q (m + fuel) listed a w:=by
  intro m
  induction m with
  | zero=>
   intro listed vals a w I hu
   have hall:=fun l (hl:l∈L)=>RX hu hl
   have h:=H vals w I.cls I.ext (fun l hl=>I.says l hl (hall l hl))
   have e1:listed=(L.map (·.idx)).foldl (fun b i=>b.setIfInBounds i true) listed0:=by
    refine Array.ext_getElem? fun j=>?_
    rw [LH]
    by_cases hj:j∈L.map (·.idx)
    ·obtain ⟨l,hl,rfl⟩:=List.mem_map.1 hj
     have hlt:l.idx < listed0.size:=Gl (F.fresh l hl)
     rw [if_pos ⟨hj,hlt⟩,Ro (by rw [I.size,← F.size]; exact hlt) false,hall l hl]
    ·rw [if_neg (fun h=>hj h.1)]; exact I.keep j hj
   have e2:a=Ix ops vals (L.map (·.idx)) a0:=by
    have hs:=Qu ops vals (L.map (·.idx)) a0
    have ht:a.tmps=(Ix ops vals (L.map (·.idx)) a0).tmps:=by
     refine Array.ext_getElem? fun t=>?_
     cases hw:W.of t with
     | none=>
      rw [I.other t hw,NU]
      intro i hi hd
      obtain ⟨l,hl,rfl⟩:=List.mem_map.1 hi
      obtain ⟨o,ho⟩:=F.op l hl
      have hdo:o.dst=some t:=by unfold Dz at hd; rw [ho] at hd; exact hd
      have:=(F.dst l hl o ho t hdo).2
      rw [hw] at this; cases this
     | some j=>
      obtain ⟨hjA,hjd⟩:=F.wr t j hw
      obtain ⟨l,hl,rfl⟩:=List.mem_map.1 hjA
      obtain ⟨o,ho⟩:=F.op l hl
      have hdo:o.dst=some t:=by unfold Dz at hjd; rw [ho] at hjd; exact hjd
      rw [I.done t _ hw (hall l hl),XY ops vals t l.idx _ _ _ hjA hjd (F.dst l hl o ho t hdo).1]
      intro i hi hd
      obtain ⟨l',hl',rfl⟩:=List.mem_map.1 hi
      obtain ⟨o',ho'⟩:=F.op l' hl'
      have hdo':o'.dst=some t:=by unfold Dz at hd; rw [ho'] at hd; exact hd
      have:=(F.dst l' hl' o' ho' t hdo').2
      rw [hw] at this; exact (Option.some.inj this).symm
    cases a; cases hf:Ix ops vals (L.map (·.idx)) a0
    rw [hf] at hs ht
    simp only at hs ht
    have hd:=I.defers
    simp only at hd
    subst ht
    rw [hs.2,hd]
   rw [Nat.zero_add,e1,e2]; exact h
  | succ m ih=>
   intro listed vals a w I hu
   rw [Nat.succ_add]
   have some:∃ l∈L,listed.getD l.idx true=false:=by
    rcases hx:L.filter (fun l=>!listed.getD l.idx false) with _ | ⟨l,r⟩
    ·unfold Fy at hu; rw [hx] at hu; simp at hu
    ·have:l∈L.filter (fun l=>!listed.getD l.idx false):=by rw [hx]; simp
     rw [List.mem_filter] at this
     refine ⟨l,this.1,?_⟩
     have hlt:l.idx < listed.size:=by rw [I.size,← F.size]; exact Gl (F.fresh l this.1)
     have h2:=this.2
     simp [hlt] at h2 ⊢; exact h2
   refine ⟨fun hr=>?_,fun i hi=>?_⟩
   ·exfalso
    have:∀ (k:Nat) (l:C3),l∈L→l.idx=k→listed.getD l.idx true=true:=by
     intro k
     induction k using Nat.strongRecOn with
     | _ k ihk=>
      intro l hl hk
      cases hu:listed.getD l.idx true with
      | true=>rfl
      | false=>
       exfalso
       obtain ⟨o,ho⟩:=F.op l hl
       have hm:l.idx∈Region.ready md ops listed:=by
        rw [mem_ready]
        refine ⟨hu,o,ho,fun e he hb=>?_⟩
        rcases F.edge l hl o ho e he hb with ⟨h1,h2⟩ | ⟨h1,h2⟩
        ·have:=I.keep _ h2
         rw [Array.getD_eq_getD_getElem?,this,← Array.getD_eq_getD_getElem?]; exact h1
        ·obtain ⟨m',hm',hme⟩:=List.mem_map.1 h2
         have g:=ihk m'.idx (by omega) m' hm' rfl
         rw [hme] at g
         have hlt:e.on < listed.size:=by rw [I.size,← F.size,← hme]; exact Gl (F.fresh m' hm')
         simp [hlt] at g ⊢; exact g
       rw [hr] at hm; cases hm
    obtain ⟨l,hl,hf⟩:=some
    rw [this _ l hl rfl] at hf; cases hf
   ·have hi':=hi
    rw [mem_ready] at hi
    obtain ⟨hui,o,ho,hedges⟩:=hi
    have hA:i∈L.map (·.idx):=by
     by_cases hA:i∈L.map (·.idx)
     ·exact hA
     ·exfalso
      have hk:=I.keep i hA
      have hu0:listed0.getD i true=false:=by rw [Array.getD_eq_getD_getElem?,← hk,← Array.getD_eq_getD_getElem?]; exact hui
      rcases F.tail i o ho hu0 hA with ⟨e,he,hb,hne,hx⟩ | hx
      ·have hd:=hedges e he hb
       have:=I.keep _ hx
       rw [Array.getD_eq_getD_getElem?,this,← Array.getD_eq_getD_getElem?,hne] at hd; cases hd
      ·obtain ⟨l,hl,hf⟩:=some
       have hlf:=Fa hf
       obtain ⟨e,he,hb,hy⟩:=hx l.idx (List.mem_map.2 ⟨l,hl,rfl⟩)
       have hd:=hedges e he hb
       rcases hy with h | ⟨m',hm',hme,h⟩
       ·rw [← h,hd] at hlf; cases hlf
       ·have:=I.shut m' hm' (by rw [hme]; exact hd) _ h
        rw [this] at hlf; cases hlf
    obtain ⟨l,hl,rfl⟩:=List.mem_map.1 hA
    have hb:∀ j∈l.before,listed.getD j false=true:=by
     intro j hj
     obtain ⟨_,_,e,he,heb,hx⟩:=F.bef l hl o ho j hj
     have hd:=hedges e he heb
     rcases hx with rfl | ⟨m',hm',hme,hx⟩
     ·exact hd
     ·exact I.shut m' hm' (by rw [hme]; exact hd) j hx
    have hlt:=Gl hui
    have hcount:Fy (listed.setIfInBounds l.idx true) L=m:=by
     have:=Lv hlt (Fa hui) F.nodup hA
     omega
    have obl:=hob l hl vals w I.cls (fun m' hm' hbm=>I.says m' hm' (hb _ hbm)) o ho
    unfold wpOp
    simp only [ho]
    rw [I.wanted F hl ho hb]
    split
    ·rename_i hw
     rw [if_pos hw] at obl
     refine .inl ?_
     unfold Oper.wp
     rw [I.exec F hl ho hb]
     unfold AN at obl
     cases hr:(execOp (Hh a0 W vals) o).run P w with
     | halt x w'=>rw [hr] at obl; exact obl.elim
     | ok n w'=>
      rw [hr] at obl
      cases n <;> simp only at obl <;> simp only [Oper.upon]
      case value v=>exact ih _ _ _ _ (I.step F hst htr hl ho hb hui obl.1 obl.2.1 obl.2.2) hcount
      case skip=>exact ih _ _ _ _ (I.step F hst htr hl ho hb hui obl.1 obl.2.1 obl.2.2) hcount
      case enter f args=>
       refine obl.mono fun e w'' he=>?_
       obtain ⟨v,rfl,h1,h2,h3⟩:=he
       exact ih _ _ _ _ (I.step F hst htr hl ho hb hui h1 h2 h3) hcount
    ·rename_i hw
     rw [if_neg hw] at obl
     exact ih _ _ _ _ (I.step F hst htr hl ho hb hui I.cls (hrf' w) obl) hcount
 refine key L.length listed0 (fun _=>undef) a0 w0 ⟨F.size,fun _ _=>rfl,?_,rfl,rfl,?_,fun _ _ _ _=>rfl,fun _ _=>rfl,hC,hrf' _,?_⟩ ?_
 ·intro l hl hd; rw [Fa (F.fresh l hl)] at hd; cases hd
 ·intro t j hw hd
  obtain ⟨l,hl,rfl⟩:=List.mem_map.1 (F.wr t j hw).1
  rw [Fa (F.fresh l hl)] at hd; cases hd
 ·intro l hl hd; rw [Fa (F.fresh l hl)] at hd; cases hd
 ·unfold Fy
  rw [List.filter_eq_self.2]
  intro l hl; rw [Fa (F.fresh l hl)]; rfl
def GY (B:List Nat) (vals:Nat→Value) (w:World):List C3→Prop
 | []=>True
 | m :: L=>match B.contains m.idx with
  | true=>m.says (m.deps.map vals) w∧GY B vals w L
  | false=>GY B vals w L
def Hl (vals:Nat→Value) (w:World):List C3→Prop
 | []=>True
 | m :: L=>m.says (m.deps.map vals) w∧Hl vals w L
theorem N3 {B:List Nat} {vals:Nat→Value} {w:World}:∀ {L:List C3},(∀ m∈L,m.idx∈B→m.holds vals w)→GY B vals w L
 | [],_=>trivial
 | m :: L,h=>by
  unfold GY
  have h2:=N3 (L:=L) fun m' hm'=>h m' (by simp [hm'])
  split
  ·rename_i hb; exact ⟨h m (by simp) (List.contains_iff_mem.1 hb),h2⟩
  ·exact h2
theorem Mm {vals:Nat→Value} {w:World}:∀ {L:List C3},(∀ m∈L,m.holds vals w)→Hl vals w L
 | [],_=>trivial
 | m :: L,h=>⟨h m (by simp),Mm fun m' hm'=>h m' (by simp [hm'])⟩
def kK (P:Program) (ops:Array Oper) (a0:Act) (W:Wr) (C:World→Prop) (Ext:World→World→Prop) (L:List C3) (l:C3):Prop:=
 (∀ vs w w',C w→Ext w w'→l.says vs w→l.says vs w')∧
  ∀ (vals:Nat→Value) (w:World),C w→GY l.before vals w L→AN P (ops.getD l.idx default) (Hh a0 W vals) w (fun v w'=>C w'∧Ext w w'∧l.says (l.deps.map (FW vals l.idx v)) w')
def Kk (P:Program) (ops:Array Oper) (a0:Act) (W:Wr) (C:World→Prop) (Ext:World→World→Prop) (L:List C3):List C3→Prop
 | []=>True
 | l :: r=>kK P ops a0 W C Ext L l∧Kk P ops a0 W C Ext L r
theorem Kk.all:∀ {r:List C3},Kk P ops a0 W C Ext L r→∀ l∈r,kK P ops a0 W C Ext L l
 | [],_,l,hl=>by cases hl
 | m :: r,h,l,hl=>by
  rcases List.mem_cons.1 hl with rfl | hl2
  ·exact h.1
  ·exact Kk.all h.2 l hl2
def bare (ops:Array Oper) (L:List C3):Bool:=L.all fun l=>(ops.getD l.idx default).guard.isNone
theorem Ym (hok:(He md ops W listed0 a0.tmps.size L && bare ops L)=true) (hC:C w0) (hrf:∀ w:World,Ext w w) (htr:∀ a b c:World,Ext a b→Ext b c→Ext a c)
  (hp:Kk P ops a0 W C Ext L L) {fuel:Nat}
  (H:∀ vals w,C w→Ext w0 w→Hl vals w L→wpAny P md ops Q fuel ((L.map (·.idx)).foldl (fun b i=>b.setIfInBounds i true) listed0) (Ix ops vals (L.map (·.idx)) a0) w) :
  wpAny P md ops Q (L.length + fuel) listed0 a0 w0:=by
 rw [Bool.and_eq_true] at hok
 refine Vv hok.1 hC hrf htr (fun l hl=>(hp.all l hl).1) (fun l hl=>?_) (fun vals w h1 h2 h3=>H vals w h1 h2 (Mm h3))
 intro vals w hCw hm o ho
 have hb:=hok.2
 unfold bare at hb
 rw [List.all_eq_true] at hb
 have hg:=hb l hl
 have hx:=(hp.all l hl).2 vals w hCw (N3 hm)
 have ho':ops.getD l.idx default=o:=by rw [Array.getD_eq_getD_getElem?,ho]; rfl
 rw [ho'] at hg hx
 have hw:Region.wanted o (Jm ops a0 W vals)=true:=by
  unfold Region.wanted
  cases hgg:o.guard with
  | none=>rfl
  | some x=>rw [hgg] at hg; cases hg
 rw [if_pos hw]
 exact hx
theorem Kj {listed:Array Bool} {fuel i:Nat} {a:Act} {w:World} {o:Oper} (hr:Region.ready md ops listed=[i]) (ho:ops[i]?=some o) (hg:o.guard=none)
  (h:o.wp P a w (wpAny P md ops Q fuel (listed.setIfInBounds i true)) Q):wpAny P md ops Q (fuel + 1) listed a w:=by
 refine ⟨fun h0=>(by rw [h0] at hr; cases hr),fun j hj=>?_⟩
 rw [hr,List.mem_singleton] at hj
 subst hj
 unfold wpOp
 simp only [ho]
 have hw:Region.wanted o (yielded ops a.tmps)=true:=by unfold Region.wanted; rw [hg]
 rw [if_pos hw]
 exact .inl h
theorem AN.call {P:Program} {o:Oper} {f:FuncId} (xs:List Operand) {ats:Array TypeId} {ρ:Operand→Value} {w:World} {K:Value→World→Prop} {args:List Value} (hρ:ρ (.func f)=.func (.func f) #[] #[]) (hf:(callFunc f args.toArray).run P w=.ok (.enter f args.toArray) w) (h:Calls P f args.toArray w fun e w''=>∃ v,e=.returned v∧K v w'') (hop:o.op=.call ⟨.value (.func f),xs.toArray,ats⟩:=by kernel_rfl) (ha:xs.map ρ=args:=by kernel_rfl):AN P o ρ w K:=by
 obtain ⟨dst,op,ty,pos,after,guard⟩:=o
 simp only at hop
 subst hop
 refine AN.enter (f:=f) (args:=args.toArray) (w':=w) ?_ h
 rw [← hf,← ha]
 unfold execOp resolve
 simp only [hρ,List.map_toArray]
 unfold Deferred.ofValue
 simp [invoke,bind,Sem.bind,pure]
end
end Go.Proofs.YtmcpjkcggfmcmaaGreatDoor

/-
  Part 0 of a proof: contracts of functions.
-/
import Derived.Test.YtmcpjkcggfmcmaaGreatDoorProg
import Derived.KernelRfl
import Derived.Orders
set_option linter.all false
namespace Go.Proofs.YtmcpjkcggfmcmaaGreatDoor
abbrev D (x:Int):Value:=.int .i64 x
abbrev AI (w:World):Nat:=w.heap.size
end Go.Proofs.YtmcpjkcggfmcmaaGreatDoor
namespace Go.Proofs.YtmcpjkcggfmcmaaGreatDoor
abbrev Wr:=List (Tmp×Nat)
def Wr.of (W:Wr) (t:Tmp):Option Nat:=(W.find? fun p=>p.1 == t).map (·.2)
def FR (vals:Nat→Value) (i:Nat) (v:Value):Nat→Value:=fun j=>if j=i then v else vals j
def CM (a0:Act) (W:Wr) (vals:Nat→Value):Operand→Value
 | .tmp t=>match W.of t with
  | some j=>vals j
  | none=>a0.eval (.tmp t)
 | x=>a0.eval x
def J1 (ops:Array Oper) (a0:Act) (W:Wr) (vals:Nat→Value) (j:Nat):Option Bool:=
 match (ops[j]?).bind (·.dst) with
 | some t=>match CM a0 W vals (.tmp t) with
  | .bool b=>some b
  | _=>none
 | none=>none
def AH (P:Program) (o:Oper) (ρ:Operand→Value) (w:World) (K:Value→World→Prop):Prop:=
 match (execOp ρ o).run P w with
 | .ok (.value v) w'=>K v w'
 | .ok .skip w'=>K undef w'
 | .ok (.enter f args) w'=>Calls P f args w' fun e w''=>∃ v,e=.returned v∧K v w''
 | _=>False
theorem AH.value {P:Program} {o:Oper} {ρ:Operand→Value} {w w':World} {K:Value→World→Prop} {v:Value} (a:K v w') (h:(execOp ρ o).run P w=.ok (.value v) w':=by kernel_rfl):AH P o ρ w K:=by
 unfold AH; rw [h]; exact a
theorem AH.enter {P:Program} {o:Oper} {ρ:Operand→Value} {w w':World} {K:Value→World→Prop} {f:FuncId} {args:Array Value} (h:(execOp ρ o).run P w=.ok (.enter f args) w')
  (b:Calls P f args w' fun e a=>∃ v,e=.returned v∧K v a):AH P o ρ w K:=by
 unfold AH; rw [h]; exact b
section
variable {P:Program} {ops:Array Oper} {Q:Exit→Act→World→Prop} {md:Region.Mode}
structure Ci where
 idx:Nat
 before:List Nat
 deps:List Nat
 says:List Value→World→Prop
def Ci.holds (l:Ci) (vals:Nat→Value) (w:World):Prop:=l.says (l.deps.map vals) w
def Ci.ob (P:Program) (ops:Array Oper) (a0:Act) (W:Wr) (C:World→Prop) (Ext:World→World→Prop) (L:List Ci) (l:Ci):Prop:=
 ∀ (vals:Nat→Value) (w:World),C w→(∀ m∈L,m.idx∈l.before→m.holds vals w)→∀ o,ops[l.idx]?=some o→
  if Region.wanted o (J1 ops a0 W vals) then AH P o (CM a0 W vals) w (fun v w'=>C w'∧Ext w w'∧l.holds (FR vals l.idx v) w')
  else l.holds (FR vals l.idx undef) w
def EY (md:Region.Mode) (ops:Array Oper) (W:Wr) (listed:Array Bool) (n:Nat) (L:List Ci):Bool:=
 let A:=L.map (·.idx)
 A.Nodup && listed.size == ops.size &&
 (L.all fun l=>listed.getD l.idx true == false && (match ops[l.idx]? with
  | some o=>
   (match o.op with | .select ..=>false | _=>true) &&
   (l.before.all fun j=>A.contains j && j != l.idx && o.after.any fun e=>Region.binds md e && (e.on == j || L.any fun m=>m.idx == e.on && m.before.contains j)) &&
   (o.after.all fun e=>!Region.binds md e || (listed.getD e.on false && !A.contains e.on) || (decide (e.on < l.idx) && A.contains e.on)) &&
   (l.deps.all fun j=>j == l.idx || l.before.contains j) &&
   (o.looksAt ops).all (fun t=>match W.of t with | some j=>l.before.contains j | none=>true) &&
   (match o.dst with | some d=>decide (d < n) && W.of d == some l.idx | none=>true)
  | none=>false)) &&
 (W.all fun p=>W.of p.1 == some p.2 && A.contains p.2 && (match ops[p.2]? with | some o=>o.dst == some p.1 | none=>false)) &&
 (List.range ops.size).all (fun t=>listed.getD t true || A.contains t || (match ops[t]? with
  | some o=>(o.after.any fun e=>Region.binds md e && !listed.getD e.on false && !A.contains e.on) ||
    A.all fun i=>o.after.any fun e=>Region.binds md e && (e.on == i || L.any fun m=>m.idx == e.on && m.before.contains i)
  | none=>true))
theorem Km:∀ (A:List Nat) (b:Array Bool) (j:Nat),(A.foldl (fun b i=>b.setIfInBounds i true) b)[j]?=if j∈A∧j < b.size then some true else b[j]?
 | [],b,j=>by simp
 | i :: A,b,j=>by
  rw [List.foldl_cons,Km A,Array.size_setIfInBounds,Array.getElem?_setIfInBounds]
  by_cases hj:j∈A
  ·by_cases hs:j < b.size
   ·simp [hj,hs]
   ·by_cases hij:i=j
    ·subst hij; simp [hs]
    ·simp [hs,hij]
  ·by_cases hij:i=j
   ·subst hij
    by_cases hs:i < b.size
    ·simp [hs,hj]
    ·simp [hs,hj]
   ·have:¬ j=i:=fun h=>hij h.symm
    simp [hj,hij,this]
def D9 (ops:Array Oper) (i:Nat):Option Tmp:=(ops[i]?).bind (·.dst)
def Ey (ops:Array Oper) (vals:Nat→Value) (A:List Nat) (a:Act):Act:=A.foldl (fun a i=>a.put (D9 ops i) (vals i)) a
theorem Jx (a:Act) (d:Option Tmp) (v:Value) (t:Nat):(a.put d v).tmps[t]?=if d=some t∧t < a.tmps.size then some v else a.tmps[t]?:=by
 cases d with
 | none=>simp [Act.put]
 | some d=>
  simp only [Act.put,Array.getElem?_setIfInBounds,Option.some.injEq]
  by_cases h:d=t
  ·subst h
   by_cases hs:d < a.tmps.size
   ·simp [hs]
   ·simp [hs]
  ·simp [h]
theorem N8 (a:Act) (d:Option Tmp) (v:Value):(a.put d v).tmps.size=a.tmps.size:=by cases d <;> simp [Act.put]
theorem QV (a:Act) (d:Option Tmp) (v:Value):(a.put d v).defers=a.defers:=by cases d <;> rfl
theorem HM (ops:Array Oper) (b:Nat→Value):∀ (A:List Nat) (a:Act),(Ey ops b A a).tmps.size=a.tmps.size∧(Ey ops b A a).defers=a.defers
 | [],a=>⟨rfl,rfl⟩
 | i :: A,a=>by
  have:=HM ops b A (a.put (D9 ops i) (b i))
  rw [N8,QV] at this
  exact this
theorem LM (ops:Array Oper) (b:Nat→Value) (t:Nat):∀ (A:List Nat) (a:Act),(∀ i∈A,D9 ops i≠some t)→(Ey ops b A a).tmps[t]?=a.tmps[t]?
 | [],_,_=>rfl
 | i :: A,a,h=>by
  have c:=LM ops b t A (a.put (D9 ops i) (b i)) (fun k d=>h k (by simp [d]))
  have h2:=h i (by simp)
  rw [Jx] at c
  simp only [h2,false_and,if_false] at c
  exact c
theorem Pp (ops:Array Oper) (b:Nat→Value) (t j:Nat):∀ (A:List Nat) (a:Act),(∀ i∈A,D9 ops i=some t→i=j)→j∈A→D9 ops j=some t→t < a.tmps.size→(Ey ops b A a).tmps[t]?=some (b j)
 | [],_,_,h,_,_=>by cases h
 | i :: A,a,h,hj,hd,ht=>by
  by_cases hA:j∈A
  ·exact Pp ops b t j A (a.put (D9 ops i) (b i)) (fun k c=>h k (by simp [c])) hA hd (by rw [N8]; exact ht)
  ·have d:i=j:=by simp [hA] at hj; exact hj.symm
   subst d
   have g:=LM ops b t A (a.put (D9 ops i) (b i)) (fun k c f=>hA ((h k (by simp [c]) f) ▸ c))
   rw [Jx] at g
   simp only [hd,ht,and_self,if_true] at g
   have e:Ey ops b (i :: A) a=Ey ops b A (a.put (some t) (b i)):=by unfold Ey; rw [List.foldl_cons,hd]
   rw [e]; exact g
structure Hc (md:Region.Mode) (ops:Array Oper) (W:Wr) (listed0:Array Bool) (a0:Act) (C:World→Prop) (Ext:World→World→Prop) (L:List Ci) (w0:World) (listed:Array Bool) (vals:Nat→Value) (a:Act) (w:World):Prop where
 size:listed.size=ops.size
 keep:∀ j,j∉L.map (·.idx)→listed[j]?=listed0[j]?
 shut:∀ l∈L,listed.getD l.idx false=true→∀ j∈l.before,listed.getD j false=true
 defers:a.defers=a0.defers
 slots:a.tmps.size=a0.tmps.size
 done:∀ t j,W.of t=some j→listed.getD j false=true→a.tmps[t]?=some (vals j)
 wait:∀ t j,W.of t=some j→listed.getD j false=false→a.tmps[t]?=a0.tmps[t]?
 other:∀ t,W.of t=none→a.tmps[t]?=a0.tmps[t]?
 cls:C w
 ext:Ext w0 w
 says:∀ l∈L,listed.getD l.idx false=true→l.holds vals w
theorem Nv {b:Array Bool} {j:Nat} (h:j < b.size) (d:Bool):b[j]?=some (b.getD j d):=by simp [h]
structure KP (md:Region.Mode) (ops:Array Oper) (W:Wr) (listed:Array Bool) (n:Nat) (L:List Ci):Prop where
 nodup:(L.map (·.idx)).Nodup
 size:listed.size=ops.size
 fresh:∀ l∈L,listed.getD l.idx true=false
 op:∀ l∈L,∃ o,ops[l.idx]?=some o
 sel:∀ l∈L,∀ o,ops[l.idx]?=some o→∀ cs b,o.op≠.select cs b
 bef:∀ l∈L,∀ o,ops[l.idx]?=some o→∀ j∈l.before,j∈L.map (·.idx)∧j≠l.idx∧∃ e∈o.after,Region.binds md e=true∧(e.on=j∨∃ m∈L,m.idx=e.on∧j∈m.before)
 edge:∀ l∈L,∀ o,ops[l.idx]?=some o→∀ e∈o.after,Region.binds md e=true→(listed.getD e.on false=true∧e.on∉L.map (·.idx))∨(e.on < l.idx∧e.on∈L.map (·.idx))
 deps:∀ l∈L,∀ j∈l.deps,j=l.idx∨j∈l.before
 looks:∀ l∈L,∀ o,ops[l.idx]?=some o→∀ t∈o.looksAt ops,∀ j,W.of t=some j→j∈l.before
 dst:∀ l∈L,∀ o,ops[l.idx]?=some o→∀ d,o.dst=some d→d < n∧W.of d=some l.idx
 wr:∀ t j,W.of t=some j→j∈L.map (·.idx)∧D9 ops j=some t
 tail:∀ t o,ops[t]?=some o→listed.getD t true=false→t∉L.map (·.idx)→(∃ e∈o.after,Region.binds md e=true∧listed.getD e.on false=false∧e.on∉L.map (·.idx))∨
  ∀ i∈L.map (·.idx),∃ e∈o.after,Region.binds md e=true∧(e.on=i∨∃ m∈L,m.idx=e.on∧i∈m.before)
theorem JI {W:Wr} {a:Array Bool} {n:Nat} {L:List Ci} (h:EY md ops W a n L=true):KP md ops W a n L:=by
 unfold EY at h
 simp only [Bool.and_eq_true,decide_eq_true_eq,beq_iff_eq,List.all_eq_true] at h
 obtain ⟨⟨⟨⟨z,h2⟩,q⟩,y⟩,w⟩:=h
 have H:∀ l∈L,∃ o,ops[l.idx]?=some o:=fun l hl=>by
  have:=(q l hl).2
  cases ho:ops[l.idx]? with
  | none=>simp [ho] at this
  | some o=>exact ⟨o,rfl⟩
 have G:=fun (l:Ci) (hl:l∈L) (o:Oper) (ho:ops[l.idx]?=some o)=>by
  have:=(q l hl).2
  simp only [ho,Bool.and_eq_true,List.all_eq_true] at this
  exact this
 refine ⟨z,h2,fun l hl=>(q l hl).1,H,?_,?_,?_,?_,?_,?_,?_,?_⟩
 ·intro l hl o ho cs b hs
  have:=(G l hl o ho).1.1.1.1.1
  rw [hs] at this; cases this
 ·intro l hl o ho j c
  have:=(G l hl o ho).1.1.1.1.2 j c
  simp only [Bool.and_eq_true,Array.any_eq_true',List.contains_iff_mem,bne_iff_ne,Bool.or_eq_true,beq_iff_eq,List.any_eq_true] at this
  obtain ⟨⟨r,f⟩,e,he,hb,g3⟩:=this
  exact ⟨r,f,e,he,hb,g3.imp id (fun ⟨m,hm,g4,g5⟩=>⟨m,hm,g4,g5⟩)⟩
 ·intro l hl o ho e he hb
  have:=(G l hl o ho).1.1.1.2
  rw [Array.all_eq_true_iff_forall_mem] at this
  have:=this e he
  simp only [hb,Bool.not_true,Bool.false_or,Bool.or_eq_true,Bool.and_eq_true,Bool.not_eq_true',decide_eq_true_eq,List.contains_iff_mem] at this
  rcases this with ⟨r,f⟩ | g
  ·exact .inl ⟨r,fun hm=>(by rw [List.contains_iff_mem.2 hm] at f; cases f)⟩
  ·exact .inr g
 ·intro l hl j c
  obtain ⟨o,ho⟩:=H l hl
  have:=(G l hl o ho).1.1.2 j c
  simp only [Bool.or_eq_true,beq_iff_eq,List.contains_iff_mem] at this
  exact this
 ·intro l hl o ho t ht j c
  have:=(G l hl o ho).1.2 t ht
  rw [c] at this
  simpa using this
 ·intro l hl o ho d hd
  have:=(G l hl o ho).2
  rw [hd] at this
  simpa using this
 ·intro t j c
  unfold Wr.of at c
  rw [Option.map_eq_some_iff] at c
  obtain ⟨p,s,rfl⟩:=c
  have hm:=List.mem_of_find?_eq_some s
  have ht:p.1=t:=by simpa using List.find?_some s
  have:=y p hm
  simp only [List.contains_iff_mem] at this
  refine ⟨this.1.2,?_⟩
  have g:=this.2
  unfold D9
  cases ho:ops[p.2]? with
  | none=>simp [ho] at g
  | some o=>simp [ho] at g ⊢; rw [g,ht]
 ·intro t o ho hl v
  have k:t < ops.size:=(Array.getElem?_eq_some_iff.1 ho).1
  have:=w t (List.mem_range.2 k)
  have hc:(List.map (fun x=>x.idx) L).contains t=false:=by
   rw [Bool.eq_false_iff]; intro u; exact v (List.contains_iff_mem.1 u)
  simp only [hl,hc,Bool.false_or,ho,Array.any_eq_true',Bool.and_eq_true,Bool.not_eq_true',Bool.or_eq_true,List.any_eq_true,beq_iff_eq,List.all_eq_true,List.contains_iff_mem] at this
  rcases this with ⟨e,he,⟨hb,hu⟩,g⟩ | g
  ·exact .inl ⟨e,he,hb,hu,fun hm=>(by rw [List.contains_iff_mem.2 hm] at g; cases g)⟩
  ·exact .inr fun i hi=>g i hi
theorem Ci.eq_of_idx {L:List Ci} (h:(L.map (·.idx)).Nodup) {l m:Ci} (hl:l∈L) (hm:m∈L) (e:l.idx=m.idx):l=m:=by
 induction L with
 | nil=>cases hl
 | cons x L ih=>
  rw [List.map_cons,List.nodup_cons] at h
  rcases List.mem_cons.1 hl with rfl | b
  ·rcases List.mem_cons.1 hm with rfl | a
   ·rfl
   ·exact absurd (List.mem_map.2 ⟨m,a,e.symm⟩) h.1
  ·rcases List.mem_cons.1 hm with rfl | a
   ·exact absurd (List.mem_map.2 ⟨l,b,e⟩) h.1
   ·exact ih h.2 b a
theorem cN {l:Ci} {a:Nat→Value} {i:Nat} {v:Value} {w:World} (h:l.holds a w) (hi:i∉l.deps):l.holds (FR a i v) w:=by
 unfold Ci.holds at *
 have:l.deps.map (FR a i v)=l.deps.map a:=List.map_congr_left fun j c=>by
  have b:¬ j=i:=fun e=>hi (e ▸ c)
  unfold FR; rw [if_neg b]
 rw [this]; exact h
def Fz (listed:Array Bool) (L:List Ci):Nat:=(L.filter fun l=>!listed.getD l.idx false).length
theorem LY {a:Array Bool} {i:Nat} (hi:i < a.size) (c:a.getD i false=false):∀ {L:List Ci},(L.map (·.idx)).Nodup→i∈L.map (·.idx)→Fz a L=Fz (a.setIfInBounds i true) L + 1
 | [],_,h=>by cases h
 | l :: L,hn,h=>by
  rw [List.map_cons,List.nodup_cons] at hn
  unfold Fz
  by_cases hl:l.idx=i
  ·subst hl
   have g:(a.setIfInBounds l.idx true).getD l.idx false=true:=by simp [hi]
   have f:(L.filter fun m=>!(a.setIfInBounds l.idx true).getD m.idx false)=L.filter fun m=>!a.getD m.idx false:=List.filter_congr fun m hm=>by
    rw [getD_set_ne false (fun e=>hn.1 (List.mem_map.2 ⟨m,hm,e.symm⟩))]
   rw [List.filter_cons,List.filter_cons,c,g,f]
   simp
  ·have d:i∈L.map (·.idx):=by
    rcases List.mem_cons.1 h with e | e
    ·exact absurd e.symm hl
    ·exact e
   have b:=LY hi c hn.2 d
   unfold Fz at b
   rw [List.filter_cons,List.filter_cons,getD_set_ne false (Ne.symm hl)]
   split
   ·rw [List.length_cons,List.length_cons,b]
   ·exact b
theorem Nc {a:Array Bool} {L:List Ci} (h:Fz a L=0) {l:Ci} (hl:l∈L):a.getD l.idx false=true:=by
 unfold Fz at h
 rw [List.length_eq_zero_iff,List.filter_eq_nil_iff] at h
 have:=h l hl
 simpa using this
theorem GQ {b:Array Bool} {j:Nat} (h:b.getD j true=false):j < b.size:=by
 rcases Nat.lt_or_ge j b.size with a | a
 ·exact a
 ·simp [Array.getElem?_eq_none a] at h
theorem Dv {b:Array Bool} {j:Nat} (h:b.getD j true=false):b.getD j false=false:=by
 have:=GQ h
 simp [this] at h ⊢; exact h
variable {W:Wr} {listed0:Array Bool} {a0:Act} {C:World→Prop} {Ext:World→World→Prop} {L:List Ci} {w0:World}
theorem Hc.evals (F:KP md ops W listed0 a0.tmps.size L) {b:Array Bool} {c:Nat→Value} {a:Act} {w:World} (I:Hc md ops W listed0 a0 C Ext L w0 b c a w) {l:Ci} (hl:l∈L) {o:Oper} (ho:ops[l.idx]?=some o)
  (hb:∀ j∈l.before,b.getD j false=true) {t:Tmp} (ht:t∈o.looksAt ops):a.tmps[t]?=(match W.of t with | some j=>some (c j) | none=>a0.tmps[t]?):=by
 cases hw:W.of t with
 | none=>exact I.other t hw
 | some j=>exact I.done t j hw (hb j (F.looks l hl o ho t ht j hw))
theorem Hc.exec (F:KP md ops W listed0 a0.tmps.size L) {b:Array Bool} {c:Nat→Value} {a:Act} {w:World} (I:Hc md ops W listed0 a0 C Ext L w0 b c a w) {l:Ci} (hl:l∈L) {o:Oper} (ho:ops[l.idx]?=some o)
  (hb:∀ j∈l.before,b.getD j false=true):execOp a.eval o=execOp (CM a0 W c) o:=by
 refine execOp_congr o (F.sel l hl o ho) fun x d=>?_
 cases x with
 | tmp t=>
  have ht:t∈o.looksAt ops:=List.mem_append_left _ (List.mem_filterMap.2 ⟨.tmp t,by simpa using d,rfl⟩)
  have:=I.evals F hl ho hb ht
  unfold CM Act.eval
  cases hw:W.of t with
  | none=>rw [hw] at this; simp only [Array.getD_eq_getD_getElem?,this,hw]
  | some j=>rw [hw] at this; simp only [Array.getD_eq_getD_getElem?,this,hw]; rfl
 | const v=>rfl
 | global g=>rfl
 | func f=>rfl
theorem Hc.wanted (F:KP md ops W listed0 a0.tmps.size L) {c:Array Bool} {b:Nat→Value} {a:Act} {w:World} (I:Hc md ops W listed0 a0 C Ext L w0 c b a w) {l:Ci} (hl:l∈L) {o:Oper} (ho:ops[l.idx]?=some o)
  (hb:∀ j∈l.before,c.getD j false=true):Region.wanted o (yielded ops a.tmps)=Region.wanted o (J1 ops a0 W b):=by
 unfold Region.wanted
 cases hg:o.guard with
 | none=>rfl
 | some gw=>
  obtain ⟨g,d⟩:=gw
  have e:yielded ops a.tmps g=J1 ops a0 W b g:=by
   unfold yielded J1
   cases ht:(ops[g]?).bind (·.dst) with
   | none=>rfl
   | some t=>
    have hm:t∈o.looksAt ops:=by simp [Oper.looksAt,hg,ht]
    have:=I.evals F hl ho hb hm
    simp only [Option.bind_some]
    unfold CM Act.eval
    cases hw:W.of t with
    | none=>
     rw [hw] at this
     simp only [this,hw,Array.getD_eq_getD_getElem?]
     cases hx:a0.tmps[t]? with
     | none=>rfl
     | some v=>cases v <;> rfl
    | some j=>
     rw [hw] at this
     simp only [this,hw]
     cases b j <;> rfl
  simp only [e]
theorem Hc.step (F:KP md ops W listed0 a0.tmps.size L) (s:∀ l∈L,∀ vs w w',C w→Ext w w'→l.says vs w→l.says vs w') (r:∀ a b c:World,Ext a b→Ext b c→Ext a c)
  {d:Array Bool} {g:Nat→Value} {a:Act} {w:World} (I:Hc md ops W listed0 a0 C Ext L w0 d g a w) {l:Ci} (hl:l∈L) {o:Oper} (ho:ops[l.idx]?=some o)
  (hb:∀ j∈l.before,d.getD j false=true) (hu:d.getD l.idx true=false) {v:Value} {w':World} (hC:C w') (z:Ext w w') (hs:l.holds (FR g l.idx v) w') :
  Hc md ops W listed0 a0 C Ext L w0 (d.setIfInBounds l.idx true) (FR g l.idx v) (a.put o.dst v) w':=by
 have x:=GQ hu
 have y:=Dv hu
 have n:(d.setIfInBounds l.idx true).getD l.idx false=true:=by simp [x]
 refine ⟨by simp [I.size],?_,?_,?_,?_,?_,?_,?_,hC,r _ _ _ I.ext z,?_⟩
 ·intro j q
  have u:l.idx≠j:=fun e=>q (List.mem_map.2 ⟨l,hl,e⟩)
  rw [Array.getElem?_setIfInBounds_ne u]; exact I.keep j q
 ·intro m hm hd j q
  by_cases e:l.idx=m.idx
  ·obtain rfl:=Ci.eq_of_idx F.nodup hl hm e
   exact getD_set_true (hb j q)
  ·rw [getD_set_ne false e] at hd
   exact getD_set_true (I.shut m hm hd j q)
 ·rw [QV]; exact I.defers
 ·rw [N8]; exact I.slots
 ·intro t j i hd
  rw [Jx]
  obtain ⟨b0,k⟩:=F.wr t j i
  by_cases e:l.idx=j
  ·subst e
   have f:o.dst=some t:=by unfold D9 at k; rw [ho] at k; exact k
   have p:=(F.dst l hl o ho t f).1
   rw [f,if_pos ⟨rfl,by rw [I.slots]; exact p⟩]
   simp [FR]
  ·have f:o.dst≠some t:=fun h=>by
    have:=(F.dst l hl o ho t h).2
    rw [i] at this
    exact e (Option.some.inj this).symm
   rw [if_neg (fun h=>f h.1)]
   rw [getD_set_ne false e] at hd
   rw [I.done t j i hd]
   unfold FR; rw [if_neg (fun h=>e h.symm)]
 ·intro t j i hd
  have e:l.idx≠j:=fun e=>by subst e; rw [n] at hd; cases hd
  rw [getD_set_ne false e] at hd
  have f:o.dst≠some t:=fun h=>by
   have:=(F.dst l hl o ho t h).2
   rw [i] at this
   exact e (Option.some.inj this).symm
  rw [Jx,if_neg (fun h=>f h.1)]
  exact I.wait t j i hd
 ·intro t i
  have f:o.dst≠some t:=fun h=>by
   have:=(F.dst l hl o ho t h).2
   rw [i] at this; cases this
  rw [Jx,if_neg (fun h=>f h.1)]
  exact I.other t i
 ·intro m hm hd
  by_cases e:l.idx=m.idx
  ·obtain rfl:=Ci.eq_of_idx F.nodup hl hm e
   exact hs
  ·rw [getD_set_ne false e] at hd
   refine cN (s m hm _ _ _ I.cls z (I.says m hm hd)) fun hi=>?_
   rcases F.deps m hm _ hi with h | h
   ·exact e h
   ·have:=I.shut m hm hd _ h
    rw [y] at this; cases this
theorem Ze (hok:EY md ops W listed0 a0.tmps.size L=true) (hC:C w0) (k0:∀ w:World,Ext w w) (e0:∀ a b c:World,Ext a b→Ext b c→Ext a c)
  (f0:∀ l∈L,∀ vs w w',C w→Ext w w'→l.says vs w→l.says vs w') (y0:∀ l∈L,l.ob P ops a0 W C Ext L) {fuel:Nat}
  (H:∀ p w,C w→Ext w0 w→(∀ l∈L,l.holds p w)→wpAny P md ops Q fuel ((L.map (·.idx)).foldl (fun b i=>b.setIfInBounds i true) listed0) (Ey ops p (L.map (·.idx)) a0) w) :
  wpAny P md ops Q (L.length + fuel) listed0 a0 w0:=by
 have F:=JI hok
 have key:∀ (m:Nat) (d:Array Bool) (p:Nat→Value) (a:Act) (w:World),Hc md ops W listed0 a0 C Ext L w0 d p a w→Fz d L=m→wpAny P md ops Q (m + fuel) d a w:=by
  intro m
  induction m with
  | zero=>
   intro d p a w I hu
   have d0:=fun l (hl:l∈L)=>Nc hu hl
   have h:=H p w I.cls I.ext (fun l hl=>I.says l hl (d0 l hl))
   have e1:d=(L.map (·.idx)).foldl (fun b i=>b.setIfInBounds i true) listed0:=by
    refine Array.ext_getElem? fun j=>?_
    rw [Km]
    by_cases hj:j∈L.map (·.idx)
    ·obtain ⟨l,hl,rfl⟩:=List.mem_map.1 hj
     have z:l.idx < listed0.size:=GQ (F.fresh l hl)
     rw [if_pos ⟨hj,z⟩,Nv (by rw [I.size,← F.size]; exact z) false,d0 l hl]
    ·rw [if_neg (fun h=>hj h.1)]; exact I.keep j hj
   have e2:a=Ey ops p (L.map (·.idx)) a0:=by
    have hs:=HM ops p (L.map (·.idx)) a0
    have ht:a.tmps=(Ey ops p (L.map (·.idx)) a0).tmps:=by
     refine Array.ext_getElem? fun t=>?_
     cases hw:W.of t with
     | none=>
      rw [I.other t hw,LM]
      intro i hi hd
      obtain ⟨l,hl,rfl⟩:=List.mem_map.1 hi
      obtain ⟨o,ho⟩:=F.op l hl
      have p0:o.dst=some t:=by unfold D9 at hd; rw [ho] at hd; exact hd
      have:=(F.dst l hl o ho t p0).2
      rw [hw] at this; cases this
     | some j=>
      obtain ⟨t0,i0⟩:=F.wr t j hw
      obtain ⟨l,hl,rfl⟩:=List.mem_map.1 t0
      obtain ⟨o,ho⟩:=F.op l hl
      have p0:o.dst=some t:=by unfold D9 at i0; rw [ho] at i0; exact i0
      rw [I.done t _ hw (d0 l hl),Pp ops p t l.idx _ _ _ t0 i0 (F.dst l hl o ho t p0).1]
      intro i hi hd
      obtain ⟨l',r0,rfl⟩:=List.mem_map.1 hi
      obtain ⟨o',q0⟩:=F.op l' r0
      have v0:o'.dst=some t:=by unfold D9 at hd; rw [q0] at hd; exact hd
      have:=(F.dst l' r0 o' q0 t v0).2
      rw [hw] at this; exact (Option.some.inj this).symm
    cases a; cases hf:Ey ops p (L.map (·.idx)) a0
    rw [hf] at hs ht
    simp only at hs ht
    have hd:=I.defers
    simp only at hd
    subst ht
    rw [hs.2,hd]
   rw [Nat.zero_add,e1,e2]; exact h
  | succ m ih=>
   intro d p a w I hu
   rw [Nat.succ_add]
   have some:∃ l∈L,d.getD l.idx true=false:=by
    rcases hx:L.filter (fun l=>!d.getD l.idx false) with _ | ⟨l,r⟩
    ·unfold Fz at hu; rw [hx] at hu; simp at hu
    ·have:l∈L.filter (fun l=>!d.getD l.idx false):=by rw [hx]; simp
     rw [List.mem_filter] at this
     refine ⟨l,this.1,?_⟩
     have z:l.idx < d.size:=by rw [I.size,← F.size]; exact GQ (F.fresh l this.1)
     have h2:=this.2
     simp [z] at h2 ⊢; exact h2
   refine ⟨fun hr=>?_,fun i hi=>?_⟩
   ·exfalso
    have:∀ (k:Nat) (l:Ci),l∈L→l.idx=k→d.getD l.idx true=true:=by
     intro k
     induction k using Nat.strongRecOn with
     | _ k ihk=>
      intro l hl hk
      cases hu:d.getD l.idx true with
      | true=>rfl
      | false=>
       exfalso
       obtain ⟨o,ho⟩:=F.op l hl
       have hm:l.idx∈Region.ready md ops d:=by
        rw [mem_ready]
        refine ⟨hu,o,ho,fun e he hb=>?_⟩
        rcases F.edge l hl o ho e he hb with ⟨h1,h2⟩ | ⟨h1,h2⟩
        ·have:=I.keep _ h2
         rw [Array.getD_eq_getD_getElem?,this,← Array.getD_eq_getD_getElem?]; exact h1
        ·obtain ⟨m',y,c0⟩:=List.mem_map.1 h2
         have g:=ihk m'.idx (by omega) m' y rfl
         rw [c0] at g
         have z:e.on < d.size:=by rw [I.size,← F.size,← c0]; exact GQ (F.fresh m' y)
         simp [z] at g ⊢; exact g
       rw [hr] at hm; cases hm
    obtain ⟨l,hl,hf⟩:=some
    rw [this _ l hl rfl] at hf; cases hf
   ·have d1:=hi
    rw [mem_ready] at hi
    obtain ⟨b0,o,ho,u⟩:=hi
    have hA:i∈L.map (·.idx):=by
     by_cases hA:i∈L.map (·.idx)
     ·exact hA
     ·exfalso
      have hk:=I.keep i hA
      have x0:listed0.getD i true=false:=by rw [Array.getD_eq_getD_getElem?,← hk,← Array.getD_eq_getD_getElem?]; exact b0
      rcases F.tail i o ho x0 hA with ⟨e,he,hb,z0,hx⟩ | hx
      ·have hd:=u e he hb
       have:=I.keep _ hx
       rw [Array.getD_eq_getD_getElem?,this,← Array.getD_eq_getD_getElem?,z0] at hd; cases hd
      ·obtain ⟨l,hl,hf⟩:=some
       have h0:=Dv hf
       obtain ⟨e,he,hb,hy⟩:=hx l.idx (List.mem_map.2 ⟨l,hl,rfl⟩)
       have hd:=u e he hb
       rcases hy with h | ⟨m',y,c0,h⟩
       ·rw [← h,hd] at h0; cases h0
       ·have:=I.shut m' y (by rw [c0]; exact hd) _ h
        rw [this] at h0; cases h0
    obtain ⟨l,hl,rfl⟩:=List.mem_map.1 hA
    have hb:∀ j∈l.before,d.getD j false=true:=by
     intro j hj
     obtain ⟨_,_,e,he,a1,hx⟩:=F.bef l hl o ho j hj
     have hd:=u e he a1
     rcases hx with rfl | ⟨m',y,c0,hx⟩
     ·exact hd
     ·exact I.shut m' y (by rw [c0]; exact hd) j hx
    have z:=GQ b0
    have s:Fz (d.setIfInBounds l.idx true) L=m:=by
     have:=LY z (Dv b0) F.nodup hA
     omega
    have q:=y0 l hl p w I.cls (fun m' y b1=>I.says m' y (hb _ b1)) o ho
    unfold wpOp
    simp only [ho]
    rw [I.wanted F hl ho hb]
    split
    ·rename_i hw
     rw [if_pos hw] at q
     refine .inl ?_
     unfold Oper.wp
     rw [I.exec F hl ho hb]
     unfold AH at q
     cases hr:(execOp (CM a0 W p) o).run P w with
     | halt x w'=>rw [hr] at q; exact q.elim
     | ok n w'=>
      rw [hr] at q
      cases n <;> simp only at q <;> simp only [Oper.upon]
      case value v=>exact ih _ _ _ _ (I.step F f0 e0 hl ho hb b0 q.1 q.2.1 q.2.2) s
      case skip=>exact ih _ _ _ _ (I.step F f0 e0 hl ho hb b0 q.1 q.2.1 q.2.2) s
      case enter f args=>
       refine q.mono fun e c1 he=>?_
       obtain ⟨v,rfl,h1,h2,h3⟩:=he
       exact ih _ _ _ _ (I.step F f0 e0 hl ho hb b0 h1 h2 h3) s
    ·rename_i hw
     rw [if_neg hw] at q
     exact ih _ _ _ _ (I.step F f0 e0 hl ho hb b0 I.cls (k0 w) q) s
 refine key L.length listed0 (fun _=>undef) a0 w0 ⟨F.size,fun _ _=>rfl,?_,rfl,rfl,?_,fun _ _ _ _=>rfl,fun _ _=>rfl,hC,k0 _,?_⟩ ?_
 ·intro l hl hd; rw [Dv (F.fresh l hl)] at hd; cases hd
 ·intro t j hw hd
  obtain ⟨l,hl,rfl⟩:=List.mem_map.1 (F.wr t j hw).1
  rw [Dv (F.fresh l hl)] at hd; cases hd
 ·intro l hl hd; rw [Dv (F.fresh l hl)] at hd; cases hd
 ·unfold Fz
  rw [List.filter_eq_self.2]
  intro l hl; rw [Dv (F.fresh l hl)]; rfl
def HL (B:List Nat) (vals:Nat→Value) (w:World):List Ci→Prop
 | []=>True
 | m :: L=>match B.contains m.idx with
  | true=>m.says (m.deps.map vals) w∧HL B vals w L
  | false=>HL B vals w L
def I7 (vals:Nat→Value) (w:World):List Ci→Prop
 | []=>True
 | m :: L=>m.says (m.deps.map vals) w∧I7 vals w L
theorem Mu {B:List Nat} {a:Nat→Value} {w:World}:∀ {L:List Ci},(∀ m∈L,m.idx∈B→m.holds a w)→HL B a w L
 | [],_=>trivial
 | m :: L,h=>by
  unfold HL
  have h2:=Mu (L:=L) fun c b=>h c (by simp [b])
  split
  ·rename_i hb; exact ⟨h m (by simp) (List.contains_iff_mem.1 hb),h2⟩
  ·exact h2
theorem Lx {a:Nat→Value} {w:World}:∀ {L:List Ci},(∀ m∈L,m.holds a w)→I7 a w L
 | [],_=>trivial
 | m :: L,h=>⟨h m (by simp),Lx fun c b=>h c (by simp [b])⟩
def DU (P:Program) (ops:Array Oper) (a0:Act) (W:Wr) (C:World→Prop) (Ext:World→World→Prop) (L:List Ci) (l:Ci):Prop:=
 (∀ vs w w',C w→Ext w w'→l.says vs w→l.says vs w')∧
  ∀ (vals:Nat→Value) (w:World),C w→HL l.before vals w L→AH P (ops.getD l.idx default) (CM a0 W vals) w (fun v w'=>C w'∧Ext w w'∧l.says (l.deps.map (FR vals l.idx v)) w')
def Io (P:Program) (ops:Array Oper) (a0:Act) (W:Wr) (C:World→Prop) (Ext:World→World→Prop) (L:List Ci):List Ci→Prop
 | []=>True
 | l :: r=>DU P ops a0 W C Ext L l∧Io P ops a0 W C Ext L r
theorem Io.all:∀ {r:List Ci},Io P ops a0 W C Ext L r→∀ l∈r,DU P ops a0 W C Ext L l
 | [],_,l,hl=>by cases hl
 | m :: r,h,l,hl=>by
  rcases List.mem_cons.1 hl with rfl | a
  ·exact h.1
  ·exact Io.all h.2 l a
def bare (ops:Array Oper) (L:List Ci):Bool:=L.all fun l=>(ops.getD l.idx default).guard.isNone
theorem IZ (hok:(EY md ops W listed0 a0.tmps.size L && bare ops L)=true) (n:C w0) (f:∀ w:World,Ext w w) (e:∀ a b c:World,Ext a b→Ext b c→Ext a c)
  (k:Io P ops a0 W C Ext L L) {fuel:Nat}
  (H:∀ d w,C w→Ext w0 w→I7 d w L→wpAny P md ops Q fuel ((L.map (·.idx)).foldl (fun b i=>b.setIfInBounds i true) listed0) (Ey ops d (L.map (·.idx)) a0) w) :
  wpAny P md ops Q (L.length + fuel) listed0 a0 w0:=by
 rw [Bool.and_eq_true] at hok
 refine Ze hok.1 n f e (fun l hl=>(k.all l hl).1) (fun l hl=>?_) (fun d w q h2 p=>H d w q h2 (Lx p))
 intro d w h hm o ho
 have hb:=hok.2
 unfold bare at hb
 rw [List.all_eq_true] at hb
 have hg:=hb l hl
 have j:=(k.all l hl).2 d w h (Mu hm)
 have g:ops.getD l.idx default=o:=by rw [Array.getD_eq_getD_getElem?,ho]; rfl
 rw [g] at hg j
 have m:Region.wanted o (J1 ops a0 W d)=true:=by
  unfold Region.wanted
  cases hgg:o.guard with
  | none=>rfl
  | some x=>rw [hgg] at hg; cases hg
 rw [if_pos m]
 exact j
theorem Gs {b:Array Bool} {fuel i:Nat} {a:Act} {w:World} {o:Oper} (hr:Region.ready md ops b=[i]) (ho:ops[i]?=some o) (hg:o.guard=none)
  (h:o.wp P a w (wpAny P md ops Q fuel (b.setIfInBounds i true)) Q):wpAny P md ops Q (fuel + 1) b a w:=by
 refine ⟨fun e=>(by rw [e] at hr; cases hr),fun j c=>?_⟩
 rw [hr,List.mem_singleton] at c
 subst c
 unfold wpOp
 simp only [ho]
 have d:Region.wanted o (yielded ops a.tmps)=true:=by unfold Region.wanted; rw [hg]
 rw [if_pos d]
 exact .inl h
theorem KM {b:Array Bool} {i:Nat} {a:Act} {w:World} {o:Oper} (hr:Region.ready md ops b=[i]) (ho:ops[i]?=some o) (hg:o.guard=none) (c:Region.ready md ops (b.setIfInBounds i true)=[])
  (h:o.wp P a w (Q .normal) Q):wpAny P md ops Q 1 b a w:=
 Gs (fuel:=0) hr ho hg (Oper.wp_mono (fun _ _ h=>⟨c,h⟩) h)
def G6:Code→Nat→Option (Array Oper)
 | .region id ops _,n=>if id=n then some ops else none
 | .seq a b,n=>match G6 a n with
  | some o=>some o
  | none=>G6 b n
 | .cond _ a b,n=>match G6 a n with
  | some o=>some o
  | none=>G6 b n
 | .block _ c,n=>G6 c n
 | .loop c,n=>G6 c n
 | .scope c,n=>G6 c n
 | _,_=>none
def ID (f:Func) (n:Nat):Array Oper:=(f.body.bind (G6 · n)).getD #[]
theorem AH.call {P:Program} {o:Oper} {f:FuncId} (xs:List Operand) {ats:Array TypeId} {ρ:Operand→Value} {w:World} {K:Value→World→Prop} {args:List Value} (hρ:ρ (.func f)=.func (.func f) #[] #[]) (ha:xs.map ρ=args) (hf:(callFunc f args.toArray).run P w=.ok (.enter f args.toArray) w) (h:Calls P f args.toArray w fun e a=>∃ v,e=.returned v∧K v a) (hop:o.op=.call ⟨.value (.func f),xs.toArray,ats⟩:=by kernel_rfl):AH P o ρ w K:=by
 obtain ⟨dst,op,ty,b,after,guard⟩:=o
 simp only at hop
 subst hop
 refine AH.enter (f:=f) (args:=args.toArray) (w':=w) ?_ h
 rw [← hf,← ha]
 unfold execOp resolve
 simp only [hρ,List.map_toArray]
 unfold Deferred.ofValue
 simp [invoke,bind,Sem.bind,pure]
end
end Go.Proofs.YtmcpjkcggfmcmaaGreatDoor

/- Contracts of functions, part 0. -/
import Derived.Test.YtkjbdagicjbjjaaGreatProg
import Derived.KernelRfl
import Derived.Orders
import Derived.Deep.MidRow
set_option linter.all false
namespace Go.Proofs.YtkjbdagicjbjjaaGreat
abbrev δ (x:Int):Value:=.int .i64 x
abbrev ε (w:World):Nat:=w.heap.size
abbrev ζ (b:Nat):Value:=.pointer (some ⟨b,0,none⟩)
abbrev η (l:List UInt8):Value:=.string ⟨⟨l⟩⟩
abbrev θ (b:Nat):Option Addr:=some ⟨b,0,none⟩
abbrev κ {α:Type} [Inhabited α] (l:List α) (i:Nat):α:=l.getD i default
abbrev ξ (b:Bool):Value:=.bool b
abbrev τ (a:Option Addr) (n c:Nat):Value:=.slice a n c
abbrev χ (b n c:Nat):Value:=.slice (some ⟨b,0,none⟩) n c
abbrev ψ (l:List Value):Value:=.agg ⟨l⟩
namespace Tk
def isDig (c:UInt8):Bool:=decide (48≤c.toNat∧c.toNat≤57)
def isLow (c:UInt8):Bool:=decide (97≤c.toNat∧c.toNat≤122)
def isWord (c:UInt8):Bool:=isLow c || isDig c || decide (c.toNat=95)
def lead (p:UInt8→Bool):List UInt8→Nat
 | []=>0
 | c :: r=>if p c=true then lead p r + 1 else 0
theorem lead_le (p:UInt8→Bool) (l:List UInt8):lead p l≤l.length:=by
 induction l with
 | nil=>simp [lead]
 | cons c r ih=>unfold lead; split <;> simp <;> omega
theorem lead_all (p:UInt8→Bool) (l:List UInt8) (j:Nat) (a:j < lead p l) (h:j < l.length):p l[j]=true:=by
 induction l generalizing j with
 | nil=>simp at h
 | cons c r ih=>
  unfold lead at a
  split at a
  ·rename_i hc
   cases j with
   | zero=>simpa using hc
   | succ j=>simp at h ⊢; exact ih j (by omega) h
  omega
theorem lead_stop (p:UInt8→Bool) (l:List UInt8) (h:lead p l < l.length):p l[lead p l]=false:=by
 induction l with
 | nil=>simp at h
 | cons c r ih=>
  by_cases hc:p c=true
  ·have e:lead p (c :: r)=lead p r + 1:=by simp [lead,hc]
   simp only [e,List.length_cons] at h ⊢
   simp only [List.getElem_cons_succ]
   exact ih (by omega)
  have e:lead p (c :: r)=0:=by simp [lead,hc]
  simp only [e]
  simpa using hc
theorem lead_eq (p:UInt8→Bool) (l:List UInt8) (k:Nat) (a:k≤l.length) (ha:∀ j (h:j < l.length),j < k→p l[j]=true) (hs:∀ h:k < l.length,p l[k]=false):lead p l=k:=by
 have b:=lead_le p l
 rcases Nat.lt_trichotomy (lead p l) k with h | h | h
 ·have:=lead_stop p l (by omega)
  rw [ha _ _ h] at this
  cases this
 ·exact h
 have:=lead_all p l k h (by omega)
 rw [hs (by omega)] at this
 cases this
def digs (l:List UInt8):Nat:=lead isDig l
def keywords:List (List UInt8):=[[97,103,114,101,101,109,101,110,116],[105,110,112,117,116],[112,97,115,116],[115,99,97,108,101],[114,117,108,101],[112,97,121],[102,114,111,109],[114,111,117,110,100,101,100],[116,111],[105,102],[116,104,101,110],[101,108,115,101],[97,110,100],[111,114],[110,111,116],[116,114,117,101],[102,97,108,115,101],[109,105,110],[109,97,120],[114,111,117,110,100],[97,118,101,114,97,103,101],[108,97,115,116],[109,111,110,101,121],[104,111,117,114,115],[100,97,121,115],[110,117,109,98,101,114],[98,111,111,108],[100,111,119,110],[117,112],[102,108,111,111,114],[99,101,105,108,105,110,103],[104,97,108,102,95,117,112],[104,97,108,102,95,100,111,119,110],[104,97,108,102,95,101,118,101,110]]
def isKey (l:List UInt8):Bool:=keywords.contains l
def wordLen:List UInt8→Nat
 | []=>0
 | c :: r=>if isLow c=true then lead isWord r + 1 else 0
def isName (l:List UInt8):Bool:=decide (0 < l.length) && decide (l.length≤24) && decide (wordLen l=l.length) && !isKey l
def val (l:List UInt8):Nat:=l.foldl (fun n c=>n * 10 + (c.toNat - 48)) 0
def newR (n d:Nat):Option (Nat×Nat):=
 if n / Nat.gcd n d > 1000000000000∨d / Nat.gcd n d > 1000000 then none else some (n / Nat.gcd n d,d / Nat.gcd n d)
structure Tok where
 kind:Int:=0
 text:List UInt8:=[]
 num:Int:=0
 den:Int:=0
 day:Int:=0
 place:Int:=0
def hasFrac (l:List UInt8):Bool:=decide ((l.getD (digs l) 0).toNat=46) && isDig (l.getD (digs l + 1) 0)
def frac (l:List UInt8):Nat:=if hasFrac l=true then digs (l.drop (digs l + 1)) else 0
def numEnd (l:List UInt8):Nat:=if hasFrac l=true then digs l + (1 + frac l) else digs l
def pct (l:List UInt8):Bool:=decide ((l.getD (numEnd l) 0).toNat=37)
def most (l:List UInt8):Nat:=if pct l=true then 4 else 6
end Tk
abbrev Wr:=List (Tmp×Nat)
def Wr.of (W:Wr) (t:Tmp):Option Nat:=(W.find? fun p=>p.1 == t).map (·.2)
def Dw (vals:Nat→Value) (i:Nat) (v:Value):Nat→Value:=fun j=>if j=i then v else vals j
def Iu (a0:Act) (W:Wr) (vals:Nat→Value):Operand→Value
 | .tmp t=>match W.of t with
  | some j=>vals j
  | none=>a0.eval (.tmp t)
 | x=>a0.eval x
def KI (ops:Array Oper) (a0:Act) (W:Wr) (vals:Nat→Value) (j:Nat):Option Bool:=
 match (ops[j]?).bind (·.dst) with
 | some t=>match Iu a0 W vals (.tmp t) with
  | .bool b=>some b
  | _=>none
 | none=>none
def AN (P:Program) (o:Oper) (ρ:Operand→Value) (w:World) (K:Value→World→Prop):Prop:=
 match (execOp ρ o).run P w with
 | .ok (.value v) w'=>K v w'
 | .ok .skip w'=>K undef w'
 | .ok (.enter f args) w'=>Calls P f args w' fun e w''=>∃ v,e=.returned v∧K v w''
 | _=>False
theorem AN.value {P:Program} {o:Oper} {ρ:Operand→Value} {w w':World} {K:Value→World→Prop} {v:Value} (h:(execOp ρ o).run P w=.ok (.value v) w') (a:K v w'):AN P o ρ w K:=by
 unfold AN; rw [h]; exact a
theorem AN.enter {P:Program} {o:Oper} {ρ:Operand→Value} {w w':World} {K:Value→World→Prop} {f:FuncId} {args:Array Value} (h:(execOp ρ o).run P w=.ok (.enter f args) w')
  (b:Calls P f args w' fun e a=>∃ v,e=.returned v∧K v a):AN P o ρ w K:=by
 unfold AN; rw [h]; exact b
section
variable {P:Program} {ops:Array Oper} {Q:Exit→Act→World→Prop} {md:Region.Mode}
structure DA where
 idx:Nat
 before:List Nat
 deps:List Nat
 says:List Value→World→Prop
def DA.holds (l:DA) (vals:Nat→Value) (w:World):Prop:=l.says (l.deps.map vals) w
def DA.ob (P:Program) (ops:Array Oper) (a0:Act) (W:Wr) (C:World→Prop) (Ext:World→World→Prop) (L:List DA) (l:DA):Prop:=
 ∀ (vals:Nat→Value) (w:World),C w→(∀ m∈L,m.idx∈l.before→m.holds vals w)→∀ o,ops[l.idx]?=some o→
  if Region.wanted o (KI ops a0 W vals) then AN P o (Iu a0 W vals) w (fun v w'=>C w'∧Ext w w'∧l.holds (Dw vals l.idx v) w')
  else l.holds (Dw vals l.idx undef) w
def Ev (md:Region.Mode) (ops:Array Oper) (W:Wr) (listed:Array Bool) (n:Nat) (L:List DA):Bool:=
 let A:=L.map (·.idx)
 A.Nodup && listed.size == ops.size &&
 (L.all fun l=>listed.getD l.idx true == false && (match ops[l.idx]? with
  | some o=>
   (match o.op with | .select ..=>false | _=>true) &&
   (l.before.all fun j=>A.contains j && j != l.idx && o.after.any fun e=>Region.binds md e && (e.on == j || L.any fun m=>m.idx == e.on && m.before.contains j)) &&
   (o.after.all fun e=>!Region.binds md e || (listed.getD e.on false && !A.contains e.on) || (decide (e.on < l.idx) && A.contains e.on)) &&
   (l.deps.all fun j=>j == l.idx || l.before.contains j) &&
   (o.looksAt ops).all (fun t=>match W.of t with | some j=>l.before.contains j | none=>true) &&
   (match o.dst with | some d=>decide (d < n) && W.of d == some l.idx | none=>true)
  | none=>false)) &&
 (W.all fun p=>W.of p.1 == some p.2 && A.contains p.2 && (match ops[p.2]? with | some o=>o.dst == some p.1 | none=>false)) &&
 (List.range ops.size).all (fun t=>listed.getD t true || A.contains t || (match ops[t]? with
  | some o=>(o.after.any fun e=>Region.binds md e && !listed.getD e.on false && !A.contains e.on) ||
    A.all fun i=>o.after.any fun e=>Region.binds md e && (e.on == i || L.any fun m=>m.idx == e.on && m.before.contains i)
  | none=>true))
theorem Lh:∀ (A:List Nat) (b:Array Bool) (j:Nat),(A.foldl (fun b i=>b.setIfInBounds i true) b)[j]?=if j∈A∧j < b.size then some true else b[j]?
 | [],b,j=>by simp
 | i :: A,b,j=>by
  rw [List.foldl_cons,Lh A,Array.size_setIfInBounds,Array.getElem?_setIfInBounds]
  by_cases hj:j∈A
  ·by_cases hs:j < b.size
   ·simp [hj,hs]
   by_cases hij:i=j
   ·subst hij; simp [hs]
   simp [hs,hij]
  by_cases hij:i=j
  ·subst hij
   by_cases hs:i < b.size
   ·simp [hs,hj]
   simp [hs,hj]
  have:¬ j=i:=fun h=>hij h.symm
  simp [hj,hij,this]
def C3 (ops:Array Oper) (i:Nat):Option Tmp:=(ops[i]?).bind (·.dst)
def fin (ops:Array Oper) (vals:Nat→Value) (A:List Nat) (a:Act):Act:=A.foldl (fun a i=>a.put (C3 ops i) (vals i)) a
theorem KD (a:Act) (d:Option Tmp) (v:Value) (t:Nat):(a.put d v).tmps[t]?=if d=some t∧t < a.tmps.size then some v else a.tmps[t]?:=by
 cases d with
 | none=>simp [Act.put]
 | some d=>
  simp only [Act.put,Array.getElem?_setIfInBounds,Option.some.injEq]
  by_cases h:d=t
  ·subst h
   by_cases hs:d < a.tmps.size
   ·simp [hs]
   simp [hs]
  simp [h]
theorem PR (a:Act) (d:Option Tmp) (v:Value):(a.put d v).tmps.size=a.tmps.size:=by cases d <;> simp [Act.put]
theorem R3 (a:Act) (d:Option Tmp) (v:Value):(a.put d v).defers=a.defers:=by cases d <;> rfl
theorem Pq (ops:Array Oper) (vals:Nat→Value):∀ (A:List Nat) (a:Act),(fin ops vals A a).tmps.size=a.tmps.size∧(fin ops vals A a).defers=a.defers
 | [],a=>⟨rfl,rfl⟩
 | i :: A,a=>by
  have:=Pq ops vals A (a.put (C3 ops i) (vals i))
  rw [PR,R3] at this
  exact this
theorem OZ (ops:Array Oper) (vals:Nat→Value) (t:Nat):∀ (A:List Nat) (a:Act),(∀ i∈A,C3 ops i≠some t)→(fin ops vals A a).tmps[t]?=a.tmps[t]?
 | [],_,_=>rfl
 | i :: A,a,h=>by
  have b:=OZ ops vals t A (a.put (C3 ops i) (vals i)) (fun k c=>h k (by simp [c]))
  have h2:=h i (by simp)
  rw [KD] at b
  simp only [h2,false_and,if_false] at b
  exact b
theorem XY (ops:Array Oper) (vals:Nat→Value) (t j:Nat):∀ (A:List Nat) (a:Act),(∀ i∈A,C3 ops i=some t→i=j)→j∈A→C3 ops j=some t→t < a.tmps.size→(fin ops vals A a).tmps[t]?=some (vals j)
 | [],_,_,h,_,_=>by cases h
 | i :: A,a,h,hj,hd,ht=>by
  by_cases hA:j∈A
  ·exact XY ops vals t j A (a.put (C3 ops i) (vals i)) (fun k b=>h k (by simp [b])) hA hd (by rw [PR]; exact ht)
  have c:i=j:=by simp [hA] at hj; exact hj.symm
  subst c
  have f:=OZ ops vals t A (a.put (C3 ops i) (vals i)) (fun k b d=>hA ((h k (by simp [b]) d) ▸ b))
  rw [KD] at f
  simp only [hd,ht,and_self,if_true] at f
  have e:fin ops vals (i :: A) a=fin ops vals A (a.put (some t) (vals i)):=by unfold fin; rw [List.foldl_cons,hd]
  rw [e]; exact f
structure Hs (md:Region.Mode) (ops:Array Oper) (W:Wr) (listed0:Array Bool) (a0:Act) (C:World→Prop) (Ext:World→World→Prop) (L:List DA) (w0:World) (listed:Array Bool) (vals:Nat→Value) (a:Act) (w:World):Prop where
 size:listed.size=ops.size
 keep:∀ j,j∉L.map (·.idx)→listed[j]?=listed0[j]?
 shut:∀ l∈L,listed.getD l.idx false=true→∀ j∈l.before,listed.getD j false=true
 defers:a.defers=a0.defers
 slots:a.tmps.size=a0.tmps.size
 done:∀ t j,W.of t=some j→listed.getD j false=true→a.tmps[t]?=some (vals j)
 wait:∀ t j,W.of t=some j→listed.getD j false=false→a.tmps[t]?=a0.tmps[t]?
 other:∀ t,W.of t=none→a.tmps[t]?=a0.tmps[t]?
 cls:C w
 ext:Ext w0 w
 says:∀ l∈L,listed.getD l.idx false=true→l.holds vals w
theorem O7 {b:Array Bool} {j:Nat} (h:j < b.size) (d:Bool):b[j]?=some (b.getD j d):=by simp [h]
structure LB (md:Region.Mode) (ops:Array Oper) (W:Wr) (listed:Array Bool) (n:Nat) (L:List DA):Prop where
 nodup:(L.map (·.idx)).Nodup
 size:listed.size=ops.size
 fresh:∀ l∈L,listed.getD l.idx true=false
 op:∀ l∈L,∃ o,ops[l.idx]?=some o
 sel:∀ l∈L,∀ o,ops[l.idx]?=some o→∀ cs b,o.op≠.select cs b
 bef:∀ l∈L,∀ o,ops[l.idx]?=some o→∀ j∈l.before,j∈L.map (·.idx)∧j≠l.idx∧∃ e∈o.after,Region.binds md e=true∧(e.on=j∨∃ m∈L,m.idx=e.on∧j∈m.before)
 edge:∀ l∈L,∀ o,ops[l.idx]?=some o→∀ e∈o.after,Region.binds md e=true→(listed.getD e.on false=true∧e.on∉L.map (·.idx))∨(e.on < l.idx∧e.on∈L.map (·.idx))
 deps:∀ l∈L,∀ j∈l.deps,j=l.idx∨j∈l.before
 looks:∀ l∈L,∀ o,ops[l.idx]?=some o→∀ t∈o.looksAt ops,∀ j,W.of t=some j→j∈l.before
 dst:∀ l∈L,∀ o,ops[l.idx]?=some o→∀ d,o.dst=some d→d < n∧W.of d=some l.idx
 wr:∀ t j,W.of t=some j→j∈L.map (·.idx)∧C3 ops j=some t
 tail:∀ t o,ops[t]?=some o→listed.getD t true=false→t∉L.map (·.idx)→(∃ e∈o.after,Region.binds md e=true∧listed.getD e.on false=false∧e.on∉L.map (·.idx))∨
  ∀ i∈L.map (·.idx),∃ e∈o.after,Region.binds md e=true∧(e.on=i∨∃ m∈L,m.idx=e.on∧i∈m.before)
theorem Eu {W:Wr} {a:Array Bool} {n:Nat} {L:List DA} (h:Ev md ops W a n L=true):LB md ops W a n L:=by
 unfold Ev at h
 simp only [Bool.and_eq_true,decide_eq_true_eq,beq_iff_eq,List.all_eq_true] at h
 obtain ⟨⟨⟨⟨z,h2⟩,q⟩,y⟩,w⟩:=h
 have H:∀ l∈L,∃ o,ops[l.idx]?=some o:=fun l hl=>by
  have:=(q l hl).2
  cases ho:ops[l.idx]? with
  | none=>simp [ho] at this
  | some o=>exact ⟨o,rfl⟩
 have G:=fun (l:DA) (hl:l∈L) (o:Oper) (ho:ops[l.idx]?=some o)=>by
  have:=(q l hl).2
  simp only [ho,Bool.and_eq_true,List.all_eq_true] at this
  exact this
 refine ⟨z,h2,fun l hl=>(q l hl).1,H,?_,?_,?_,?_,?_,?_,?_,?_⟩
 ·intro l hl o ho cs b hs
  have:=(G l hl o ho).1.1.1.1.1
  rw [hs] at this; cases this
 ·intro l hl o ho j c
  have:=(G l hl o ho).1.1.1.1.2 j c
  simp only [Bool.and_eq_true,Array.any_eq_true',List.contains_iff_mem,bne_iff_ne,Bool.or_eq_true,beq_iff_eq,List.any_eq_true] at this
  obtain ⟨⟨r,f⟩,e,he,hb,g3⟩:=this
  exact ⟨r,f,e,he,hb,g3.imp id (fun ⟨m,hm,g4,g5⟩=>⟨m,hm,g4,g5⟩)⟩
 ·intro l hl o ho e he hb
  have:=(G l hl o ho).1.1.1.2
  rw [Array.all_eq_true_iff_forall_mem] at this
  have:=this e he
  simp only [hb,Bool.not_true,Bool.false_or,Bool.or_eq_true,Bool.and_eq_true,Bool.not_eq_true',decide_eq_true_eq,List.contains_iff_mem] at this
  rcases this with ⟨r,f⟩ | g
  ·exact .inl ⟨r,fun hm=>(by rw [List.contains_iff_mem.2 hm] at f; cases f)⟩
  exact .inr g
 ·intro l hl j c
  obtain ⟨o,ho⟩:=H l hl
  have:=(G l hl o ho).1.1.2 j c
  simp only [Bool.or_eq_true,beq_iff_eq,List.contains_iff_mem] at this
  exact this
 ·intro l hl o ho t ht j c
  have:=(G l hl o ho).1.2 t ht
  rw [c] at this
  simpa using this
 ·intro l hl o ho d hd
  have:=(G l hl o ho).2
  rw [hd] at this
  simpa using this
 ·intro t j c
  unfold Wr.of at c
  rw [Option.map_eq_some_iff] at c
  obtain ⟨p,s,rfl⟩:=c
  have hm:=List.mem_of_find?_eq_some s
  have ht:p.1=t:=by simpa using List.find?_some s
  have:=y p hm
  simp only [List.contains_iff_mem] at this
  refine ⟨this.1.2,?_⟩
  have g:=this.2
  unfold C3
  cases ho:ops[p.2]? with
  | none=>simp [ho] at g
  | some o=>simp [ho] at g ⊢; rw [g,ht]
 intro t o ho hl v
 have k:t < ops.size:=(Array.getElem?_eq_some_iff.1 ho).1
 have:=w t (List.mem_range.2 k)
 have hc:(List.map (fun x=>x.idx) L).contains t=false:=by
  rw [Bool.eq_false_iff]; intro u; exact v (List.contains_iff_mem.1 u)
 simp only [hl,hc,Bool.false_or,ho,Array.any_eq_true',Bool.and_eq_true,Bool.not_eq_true',Bool.or_eq_true,List.any_eq_true,beq_iff_eq,List.all_eq_true,List.contains_iff_mem] at this
 rcases this with ⟨e,he,⟨hb,hu⟩,g⟩ | g
 ·exact .inl ⟨e,he,hb,hu,fun hm=>(by rw [List.contains_iff_mem.2 hm] at g; cases g)⟩
 exact .inr fun i hi=>g i hi
theorem DA.eq_of_idx {L:List DA} (h:(L.map (·.idx)).Nodup) {l m:DA} (hl:l∈L) (hm:m∈L) (e:l.idx=m.idx):l=m:=by
 induction L with
 | nil=>cases hl
 | cons x L ih=>
  rw [List.map_cons,List.nodup_cons] at h
  rcases List.mem_cons.1 hl with rfl | b
  ·rcases List.mem_cons.1 hm with rfl | a
   ·rfl
   exact absurd (List.mem_map.2 ⟨m,a,e.symm⟩) h.1
  rcases List.mem_cons.1 hm with rfl | a
  ·exact absurd (List.mem_map.2 ⟨l,b,e⟩) h.1
  exact ih h.2 b a
theorem mT {l:DA} {vals:Nat→Value} {i:Nat} {v:Value} {w:World} (h:l.holds vals w) (hi:i∉l.deps):l.holds (Dw vals i v) w:=by
 unfold DA.holds at *
 have:l.deps.map (Dw vals i v)=l.deps.map vals:=List.map_congr_left fun j b=>by
  have a:¬ j=i:=fun e=>hi (e ▸ b)
  unfold Dw; rw [if_neg a]
 rw [this]; exact h
def F2 (listed:Array Bool) (L:List DA):Nat:=(L.filter fun l=>!listed.getD l.idx false).length
theorem MM {a:Array Bool} {i:Nat} (hi:i < a.size) (c:a.getD i false=false):∀ {L:List DA},(L.map (·.idx)).Nodup→i∈L.map (·.idx)→F2 a L=F2 (a.setIfInBounds i true) L + 1
 | [],_,h=>by cases h
 | l :: L,hn,h=>by
  rw [List.map_cons,List.nodup_cons] at hn
  unfold F2
  by_cases hl:l.idx=i
  ·subst hl
   have g:(a.setIfInBounds l.idx true).getD l.idx false=true:=by simp [hi]
   have f:(L.filter fun m=>!(a.setIfInBounds l.idx true).getD m.idx false)=L.filter fun m=>!a.getD m.idx false:=List.filter_congr fun m hm=>by
    rw [getD_set_ne false (fun e=>hn.1 (List.mem_map.2 ⟨m,hm,e.symm⟩))]
   rw [List.filter_cons,List.filter_cons,c,g,f]
   simp
  have d:i∈L.map (·.idx):=by
   rcases List.mem_cons.1 h with e | e
   ·exact absurd e.symm hl
   exact e
  have b:=MM hi c hn.2 d
  unfold F2 at b
  rw [List.filter_cons,List.filter_cons,getD_set_ne false (Ne.symm hl)]
  split
  ·rw [List.length_cons,List.length_cons,b]
  exact b
theorem On {a:Array Bool} {L:List DA} (h:F2 a L=0) {l:DA} (hl:l∈L):a.getD l.idx false=true:=by
 unfold F2 at h
 rw [List.length_eq_zero_iff,List.filter_eq_nil_iff] at h
 have:=h l hl
 simpa using this
theorem HE {b:Array Bool} {j:Nat} (h:b.getD j true=false):j < b.size:=by
 rcases Nat.lt_or_ge j b.size with a | a
 ·exact a
 simp [Array.getElem?_eq_none a] at h
theorem En {b:Array Bool} {j:Nat} (h:b.getD j true=false):b.getD j false=false:=by
 have:=HE h
 simp [this] at h ⊢; exact h
variable {W:Wr} {listed0:Array Bool} {a0:Act} {C:World→Prop} {Ext:World→World→Prop} {L:List DA} {w0:World}
theorem Hs.evals (F:LB md ops W listed0 a0.tmps.size L) {b:Array Bool} {vals:Nat→Value} {a:Act} {w:World} (I:Hs md ops W listed0 a0 C Ext L w0 b vals a w) {l:DA} (hl:l∈L) {o:Oper} (ho:ops[l.idx]?=some o)
  (hb:∀ j∈l.before,b.getD j false=true) {t:Tmp} (ht:t∈o.looksAt ops):a.tmps[t]?=(match W.of t with | some j=>some (vals j) | none=>a0.tmps[t]?):=by
 cases hw:W.of t with
 | none=>exact I.other t hw
 | some j=>exact I.done t j hw (hb j (F.looks l hl o ho t ht j hw))
theorem Hs.exec (F:LB md ops W listed0 a0.tmps.size L) {b:Array Bool} {vals:Nat→Value} {a:Act} {w:World} (I:Hs md ops W listed0 a0 C Ext L w0 b vals a w) {l:DA} (hl:l∈L) {o:Oper} (ho:ops[l.idx]?=some o)
  (hb:∀ j∈l.before,b.getD j false=true):execOp a.eval o=execOp (Iu a0 W vals) o:=by
 refine execOp_congr o (F.sel l hl o ho) fun x hx=>?_
 cases x with
 | tmp t=>
  have ht:t∈o.looksAt ops:=List.mem_append_left _ (List.mem_filterMap.2 ⟨.tmp t,by simpa using hx,rfl⟩)
  have:=I.evals F hl ho hb ht
  unfold Iu Act.eval
  cases hw:W.of t with
  | none=>rw [hw] at this; simp only [Array.getD_eq_getD_getElem?,this,hw]
  | some j=>rw [hw] at this; simp only [Array.getD_eq_getD_getElem?,this,hw]; rfl
 | const v=>rfl
 | global g=>rfl
 | func f=>rfl
theorem Hs.wanted (F:LB md ops W listed0 a0.tmps.size L) {b:Array Bool} {vals:Nat→Value} {a:Act} {w:World} (I:Hs md ops W listed0 a0 C Ext L w0 b vals a w) {l:DA} (hl:l∈L) {o:Oper} (ho:ops[l.idx]?=some o)
  (hb:∀ j∈l.before,b.getD j false=true):Region.wanted o (yielded ops a.tmps)=Region.wanted o (KI ops a0 W vals):=by
 unfold Region.wanted
 cases hg:o.guard with
 | none=>rfl
 | some gw=>
  obtain ⟨g,c⟩:=gw
  have d:yielded ops a.tmps g=KI ops a0 W vals g:=by
   unfold yielded KI
   cases ht:(ops[g]?).bind (·.dst) with
   | none=>rfl
   | some t=>
    have hm:t∈o.looksAt ops:=by simp [Oper.looksAt,hg,ht]
    have:=I.evals F hl ho hb hm
    simp only [Option.bind_some]
    unfold Iu Act.eval
    cases hw:W.of t with
    | none=>
     rw [hw] at this
     simp only [this,hw,Array.getD_eq_getD_getElem?]
     cases hx:a0.tmps[t]? with
     | none=>rfl
     | some v=>cases v <;> rfl
    | some j=>
     rw [hw] at this
     simp only [this,hw]
     cases vals j <;> rfl
  simp only [d]
theorem Hs.step (F:LB md ops W listed0 a0.tmps.size L) (r:∀ l∈L,∀ vs w w',C w→Ext w w'→l.says vs w→l.says vs w') (q:∀ a b c:World,Ext a b→Ext b c→Ext a c)
  {d:Array Bool} {vals:Nat→Value} {a:Act} {w:World} (I:Hs md ops W listed0 a0 C Ext L w0 d vals a w) {l:DA} (hl:l∈L) {o:Oper} (ho:ops[l.idx]?=some o)
  (hb:∀ j∈l.before,d.getD j false=true) (hu:d.getD l.idx true=false) {v:Value} {w':World} (hC:C w') (y:Ext w w') (hs:l.holds (Dw vals l.idx v) w') :
  Hs md ops W listed0 a0 C Ext L w0 (d.setIfInBounds l.idx true) (Dw vals l.idx v) (a.put o.dst v) w':=by
 have u:=HE hu
 have x:=En hu
 have k:(d.setIfInBounds l.idx true).getD l.idx false=true:=by simp [u]
 refine ⟨by simp [I.size],?_,?_,?_,?_,?_,?_,?_,hC,q _ _ _ I.ext y,?_⟩
 ·intro j p
  have s:l.idx≠j:=fun e=>p (List.mem_map.2 ⟨l,hl,e⟩)
  rw [Array.getElem?_setIfInBounds_ne s]; exact I.keep j p
 ·intro m hm hd j p
  by_cases e:l.idx=m.idx
  ·obtain rfl:=DA.eq_of_idx F.nodup hl hm e
   exact getD_set_true (hb j p)
  rw [getD_set_ne false e] at hd
  exact getD_set_true (I.shut m hm hd j p)
 ·rw [R3]; exact I.defers
 ·rw [PR]; exact I.slots
 ·intro t j g hd
  rw [KD]
  obtain ⟨z,i⟩:=F.wr t j g
  by_cases e:l.idx=j
  ·subst e
   have f:o.dst=some t:=by unfold C3 at i; rw [ho] at i; exact i
   have n:=(F.dst l hl o ho t f).1
   rw [f,if_pos ⟨rfl,by rw [I.slots]; exact n⟩]
   simp [Dw]
  have f:o.dst≠some t:=fun h=>by
   have:=(F.dst l hl o ho t h).2
   rw [g] at this
   exact e (Option.some.inj this).symm
  rw [if_neg (fun h=>f h.1)]
  rw [getD_set_ne false e] at hd
  rw [I.done t j g hd]
  unfold Dw; rw [if_neg (fun h=>e h.symm)]
 ·intro t j g hd
  have e:l.idx≠j:=fun e=>by subst e; rw [k] at hd; cases hd
  rw [getD_set_ne false e] at hd
  have f:o.dst≠some t:=fun h=>by
   have:=(F.dst l hl o ho t h).2
   rw [g] at this
   exact e (Option.some.inj this).symm
  rw [KD,if_neg (fun h=>f h.1)]
  exact I.wait t j g hd
 ·intro t g
  have f:o.dst≠some t:=fun h=>by
   have:=(F.dst l hl o ho t h).2
   rw [g] at this; cases this
  rw [KD,if_neg (fun h=>f h.1)]
  exact I.other t g
 intro m hm hd
 by_cases e:l.idx=m.idx
 ·obtain rfl:=DA.eq_of_idx F.nodup hl hm e
  exact hs
 rw [getD_set_ne false e] at hd
 refine mT (r m hm _ _ _ I.cls y (I.says m hm hd)) fun hi=>?_
 rcases F.deps m hm _ hi with h | h
 ·exact e h
 have:=I.shut m hm hd _ h
 rw [x] at this; cases this
theorem iG (hok:Ev md ops W listed0 a0.tmps.size L=true) (hC:C w0) (i0:∀ w:World,Ext w w) (d0:∀ a b c:World,Ext a b→Ext b c→Ext a c)
  (e0:∀ l∈L,∀ vs w w',C w→Ext w w'→l.says vs w→l.says vs w') (r0:∀ l∈L,l.ob P ops a0 W C Ext L) {fuel:Nat}
  (H:∀ vals w,C w→Ext w0 w→(∀ l∈L,l.holds vals w)→wpAny P md ops Q fuel ((L.map (·.idx)).foldl (fun b i=>b.setIfInBounds i true) listed0) (fin ops vals (L.map (·.idx)) a0) w) :
  wpAny P md ops Q (L.length + fuel) listed0 a0 w0:=by
 have F:=Eu hok
 have key:∀ (m:Nat) (d:Array Bool) (vals:Nat→Value) (a:Act) (w:World),Hs md ops W listed0 a0 C Ext L w0 d vals a w→F2 d L=m→wpAny P md ops Q (m + fuel) d a w:=by
  intro m
  induction m with
  | zero=>
   intro d vals a w I hu
   have c0:=fun l (hl:l∈L)=>On hu hl
   have h:=H vals w I.cls I.ext (fun l hl=>I.says l hl (c0 l hl))
   have e1:d=(L.map (·.idx)).foldl (fun b i=>b.setIfInBounds i true) listed0:=by
    refine Array.ext_getElem? fun j=>?_
    rw [Lh]
    by_cases hj:j∈L.map (·.idx)
    ·obtain ⟨l,hl,rfl⟩:=List.mem_map.1 hj
     have y:l.idx < listed0.size:=HE (F.fresh l hl)
     rw [if_pos ⟨hj,y⟩,O7 (by rw [I.size,← F.size]; exact y) false,c0 l hl]
    rw [if_neg (fun h=>hj h.1)]; exact I.keep j hj
   have e2:a=fin ops vals (L.map (·.idx)) a0:=by
    have hs:=Pq ops vals (L.map (·.idx)) a0
    have ht:a.tmps=(fin ops vals (L.map (·.idx)) a0).tmps:=by
     refine Array.ext_getElem? fun t=>?_
     cases hw:W.of t with
     | none=>
      rw [I.other t hw,OZ]
      intro i hi hd
      obtain ⟨l,hl,rfl⟩:=List.mem_map.1 hi
      obtain ⟨o,ho⟩:=F.op l hl
      have j0:o.dst=some t:=by unfold C3 at hd; rw [ho] at hd; exact hd
      have:=(F.dst l hl o ho t j0).2
      rw [hw] at this; cases this
     | some j=>
      obtain ⟨m0,h0⟩:=F.wr t j hw
      obtain ⟨l,hl,rfl⟩:=List.mem_map.1 m0
      obtain ⟨o,ho⟩:=F.op l hl
      have j0:o.dst=some t:=by unfold C3 at h0; rw [ho] at h0; exact h0
      rw [I.done t _ hw (c0 l hl),XY ops vals t l.idx _ _ _ m0 h0 (F.dst l hl o ho t j0).1]
      intro i hi hd
      obtain ⟨l',l0,rfl⟩:=List.mem_map.1 hi
      obtain ⟨o',k0⟩:=F.op l' l0
      have p0:o'.dst=some t:=by unfold C3 at hd; rw [k0] at hd; exact hd
      have:=(F.dst l' l0 o' k0 t p0).2
      rw [hw] at this; exact (Option.some.inj this).symm
    cases a; cases hf:fin ops vals (L.map (·.idx)) a0
    rw [hf] at hs ht
    simp only at hs ht
    have hd:=I.defers
    simp only at hd
    subst ht
    rw [hs.2,hd]
   rw [Nat.zero_add,e1,e2]; exact h
  | succ m ih=>
   intro d vals a w I hu
   rw [Nat.succ_add]
   have some:∃ l∈L,d.getD l.idx true=false:=by
    rcases hx:L.filter (fun l=>!d.getD l.idx false) with _ | ⟨l,r⟩
    ·unfold F2 at hu; rw [hx] at hu; simp at hu
    have:l∈L.filter (fun l=>!d.getD l.idx false):=by rw [hx]; simp
    rw [List.mem_filter] at this
    refine ⟨l,this.1,?_⟩
    have y:l.idx < d.size:=by rw [I.size,← F.size]; exact HE (F.fresh l this.1)
    have h2:=this.2
    simp [y] at h2 ⊢; exact h2
   refine ⟨fun hr=>?_,fun i hi=>?_⟩
   ·exfalso
    have:∀ (k:Nat) (l:DA),l∈L→l.idx=k→d.getD l.idx true=true:=by
     intro k
     induction k using Nat.strongRecOn with
     | _ k ihk=>
      intro l hl hk
      cases hu:d.getD l.idx true with
      | true=>rfl
      | false=>
       exfalso
       obtain ⟨o,ho⟩:=F.op l hl
       have hm:l.idx∈Region.ready md ops d:=by
        rw [mem_ready]
        refine ⟨hu,o,ho,fun e he hb=>?_⟩
        rcases F.edge l hl o ho e he hb with ⟨h1,h2⟩ | ⟨h1,h2⟩
        ·have:=I.keep _ h2
         rw [Array.getD_eq_getD_getElem?,this,← Array.getD_eq_getD_getElem?]; exact h1
        obtain ⟨m',u,b0⟩:=List.mem_map.1 h2
        have g:=ihk m'.idx (by omega) m' u rfl
        rw [b0] at g
        have y:e.on < d.size:=by rw [I.size,← F.size,← b0]; exact HE (F.fresh m' u)
        simp [y] at g ⊢; exact g
       rw [hr] at hm; cases hm
    obtain ⟨l,hl,hf⟩:=some
    rw [this _ l hl rfl] at hf; cases hf
   have z0:=hi
   rw [mem_ready] at hi
   obtain ⟨z,o,ho,s⟩:=hi
   have hA:i∈L.map (·.idx):=by
    by_cases hA:i∈L.map (·.idx)
    ·exact hA
    exfalso
    have hk:=I.keep i hA
    have q0:listed0.getD i true=false:=by rw [Array.getD_eq_getD_getElem?,← hk,← Array.getD_eq_getD_getElem?]; exact z
    rcases F.tail i o ho q0 hA with ⟨e,he,hb,s0,hx⟩ | hx
    ·have hd:=s e he hb
     have:=I.keep _ hx
     rw [Array.getD_eq_getD_getElem?,this,← Array.getD_eq_getD_getElem?,s0] at hd; cases hd
    obtain ⟨l,hl,hf⟩:=some
    have g0:=En hf
    obtain ⟨e,he,hb,hy⟩:=hx l.idx (List.mem_map.2 ⟨l,hl,rfl⟩)
    have hd:=s e he hb
    rcases hy with h | ⟨m',u,b0,h⟩
    ·rw [← h,hd] at g0; cases g0
    have:=I.shut m' u (by rw [b0]; exact hd) _ h
    rw [this] at g0; cases g0
   obtain ⟨l,hl,rfl⟩:=List.mem_map.1 hA
   have hb:∀ j∈l.before,d.getD j false=true:=by
    intro j hj
    obtain ⟨_,_,e,he,t0,hx⟩:=F.bef l hl o ho j hj
    have hd:=s e he t0
    rcases hx with rfl | ⟨m',u,b0,hx⟩
    ·exact hd
    exact I.shut m' u (by rw [b0]; exact hd) j hx
   have y:=HE z
   have q:F2 (d.setIfInBounds l.idx true) L=m:=by
    have:=MM y (En z) F.nodup hA
    omega
   have p:=r0 l hl vals w I.cls (fun m' u v0=>I.says m' u (hb _ v0)) o ho
   unfold wpOp
   simp only [ho]
   rw [I.wanted F hl ho hb]
   split
   ·rename_i hw
    rw [if_pos hw] at p
    refine .inl ?_
    unfold Oper.wp
    rw [I.exec F hl ho hb]
    unfold AN at p
    cases hr:(execOp (Iu a0 W vals) o).run P w with
    | halt x w'=>rw [hr] at p; exact p.elim
    | ok n w'=>
     rw [hr] at p
     cases n <;> simp only at p <;> simp only [Oper.upon]
     case value v=>exact ih _ _ _ _ (I.step F e0 d0 hl ho hb z p.1 p.2.1 p.2.2) q
     case skip=>exact ih _ _ _ _ (I.step F e0 d0 hl ho hb z p.1 p.2.1 p.2.2) q
     case enter f args=>
      refine p.mono fun e x0 he=>?_
      obtain ⟨v,rfl,h1,h2,h3⟩:=he
      exact ih _ _ _ _ (I.step F e0 d0 hl ho hb z h1 h2 h3) q
   rename_i hw
   rw [if_neg hw] at p
   exact ih _ _ _ _ (I.step F e0 d0 hl ho hb z I.cls (i0 w) p) q
 refine key L.length listed0 (fun _=>undef) a0 w0 ⟨F.size,fun _ _=>rfl,?_,rfl,rfl,?_,fun _ _ _ _=>rfl,fun _ _=>rfl,hC,i0 _,?_⟩ ?_
 ·intro l hl hd; rw [En (F.fresh l hl)] at hd; cases hd
 ·intro t j hw hd
  obtain ⟨l,hl,rfl⟩:=List.mem_map.1 (F.wr t j hw).1
  rw [En (F.fresh l hl)] at hd; cases hd
 ·intro l hl hd; rw [En (F.fresh l hl)] at hd; cases hd
 unfold F2
 rw [List.filter_eq_self.2]
 intro l hl; rw [En (F.fresh l hl)]; rfl
def Fn (B:List Nat) (vals:Nat→Value) (w:World):List DA→Prop
 | []=>True
 | m :: L=>match B.contains m.idx with
  | true=>m.says (m.deps.map vals) w∧Fn B vals w L
  | false=>Fn B vals w L
def Ff (vals:Nat→Value) (w:World):List DA→Prop
 | []=>True
 | m :: L=>m.says (m.deps.map vals) w∧Ff vals w L
theorem Nq {B:List Nat} {vals:Nat→Value} {w:World}:∀ {L:List DA},(∀ m∈L,m.idx∈B→m.holds vals w)→Fn B vals w L
 | [],_=>trivial
 | m :: L,h=>by
  unfold Fn
  have h2:=Nq (L:=L) fun b a=>h b (by simp [a])
  split
  ·rename_i hb; exact ⟨h m (by simp) (List.contains_iff_mem.1 hb),h2⟩
  exact h2
theorem Mj {vals:Nat→Value} {w:World}:∀ {L:List DA},(∀ m∈L,m.holds vals w)→Ff vals w L
 | [],_=>trivial
 | m :: L,h=>⟨h m (by simp),Mj fun b a=>h b (by simp [a])⟩
def ABs (P:Program) (ops:Array Oper) (a0:Act) (W:Wr) (C:World→Prop) (Ext:World→World→Prop) (L:List DA) (l:DA):Prop:=
 (∀ vs w w',C w→Ext w w'→l.says vs w→l.says vs w')∧
  ∀ (vals:Nat→Value) (w:World),C w→Fn l.before vals w L→AN P (ops.getD l.idx default) (Iu a0 W vals) w (fun v w'=>C w'∧Ext w w'∧l.says (l.deps.map (Dw vals l.idx v)) w')
def Oi (P:Program) (ops:Array Oper) (a0:Act) (W:Wr) (C:World→Prop) (Ext:World→World→Prop) (L:List DA):List DA→Prop
 | []=>True
 | l :: r=>ABs P ops a0 W C Ext L l∧Oi P ops a0 W C Ext L r
theorem Oi.all:∀ {r:List DA},Oi P ops a0 W C Ext L r→∀ l∈r,ABs P ops a0 W C Ext L l
 | [],_,l,hl=>by cases hl
 | m :: r,h,l,hl=>by
  rcases List.mem_cons.1 hl with rfl | a
  ·exact h.1
  exact Oi.all h.2 l a
def HM (ops:Array Oper) (L:List DA):Bool:=L.all fun l=>(ops.getD l.idx default).guard.isNone
theorem n7 (hok:(Ev md ops W listed0 a0.tmps.size L && HM ops L)=true) (k:C w0) (e:∀ w:World,Ext w w) (d:∀ a b c:World,Ext a b→Ext b c→Ext a c)
  (h:Oi P ops a0 W C Ext L L) {fuel:Nat}
  (H:∀ vals w,C w→Ext w0 w→Ff vals w L→wpAny P md ops Q fuel ((L.map (·.idx)).foldl (fun b i=>b.setIfInBounds i true) listed0) (fin ops vals (L.map (·.idx)) a0) w) :
  wpAny P md ops Q (L.length + fuel) listed0 a0 w0:=by
 rw [Bool.and_eq_true] at hok
 refine iG hok.1 k e d (fun l hl=>(h.all l hl).1) (fun l hl=>?_) (fun vals w n h2 m=>H vals w n h2 (Mj m))
 intro vals w g hm o ho
 have hb:=hok.2
 unfold HM at hb
 rw [List.all_eq_true] at hb
 have hg:=hb l hl
 have hx:=(h.all l hl).2 vals w g (Nq hm)
 have f:ops.getD l.idx default=o:=by rw [Array.getD_eq_getD_getElem?,ho]; rfl
 rw [f] at hg hx
 have j:Region.wanted o (KI ops a0 W vals)=true:=by
  unfold Region.wanted
  cases hgg:o.guard with
  | none=>rfl
  | some x=>rw [hgg] at hg; cases hg
 rw [if_pos j]
 exact hx
theorem KH {b:Array Bool} {fuel i:Nat} {a:Act} {w:World} {o:Oper} (hr:Region.ready md ops b=[i]) (ho:ops[i]?=some o) (hg:o.guard=none)
  (h:o.wp P a w (wpAny P md ops Q fuel (b.setIfInBounds i true)) Q):wpAny P md ops Q (fuel + 1) b a w:=by
 refine ⟨fun e=>(by rw [e] at hr; cases hr),fun j c=>?_⟩
 rw [hr,List.mem_singleton] at c
 subst c
 unfold wpOp
 simp only [ho]
 have d:Region.wanted o (yielded ops a.tmps)=true:=by unfold Region.wanted; rw [hg]
 rw [if_pos d]
 exact .inl h
theorem AN.call {P:Program} {o:Oper} {f:FuncId} (xs:List Operand) {ats:Array TypeId} {ρ:Operand→Value} {w:World} {K:Value→World→Prop} {args:List Value} (hρ:ρ (.func f)=.func (.func f) #[] #[]) (hf:(callFunc f args.toArray).run P w=.ok (.enter f args.toArray) w) (h:Calls P f args.toArray w fun e a=>∃ v,e=.returned v∧K v a) (hop:o.op=.call ⟨.value (.func f),xs.toArray,ats⟩:=by kernel_rfl) (ha:xs.map ρ=args:=by kernel_rfl):AN P o ρ w K:=by
 obtain ⟨dst,op,ty,b,after,guard⟩:=o
 simp only at hop
 subst hop
 refine AN.enter (f:=f) (args:=args.toArray) (w':=w) ?_ h
 rw [← hf,← ha]
 unfold execOp resolve
 simp only [hρ,List.map_toArray]
 unfold Deferred.ofValue
 simp [invoke,bind,Sem.bind,pure]
end
def Q6 (l:List (Tmp×Value)) (ρ:Operand→Value):Operand→Value
 | .tmp t=>match l.find? (fun p=>p.1 == t) with
  | some p=>p.2
  | none=>ρ (.tmp t)
 | x=>ρ x
def Ix (ρ:Operand→Value):List (Tmp×Value)→Prop
 | []=>True
 | p :: l=>ρ (.tmp p.1)=p.2∧Ix ρ l
theorem Ix.mem {ρ:Operand→Value}:∀ {l:List (Tmp×Value)},Ix ρ l→∀ p∈l,ρ (.tmp p.1)=p.2
 | [],_,p,hp=>by cases hp
 | q :: l,h,p,hp=>by
  rcases List.mem_cons.1 hp with rfl | a
  ·exact h.1
  exact Ix.mem h.2 p a
theorem W6 {ρ:Operand→Value} {l:List (Tmp×Value)} (h:Ix ρ l):Q6 l ρ=ρ:=by
 funext x
 cases x with
 | tmp t=>
  unfold Q6
  cases hf:l.find? (fun p=>p.1 == t) with
  | none=>simp only [hf]
  | some p=>
   have hm:=List.mem_of_find?_eq_some hf
   have ht:p.1=t:=by simpa using List.find?_some hf
   have:=h.mem p hm
   rw [ht] at this
   simp only [hf]
   exact this.symm
 | const v=>rfl
 | global g=>rfl
 | func f=>rfl
theorem AN.over {P:Program} {o:Oper} {ρ:Operand→Value} {w:World} {K:Value→World→Prop} (l:List (Tmp×Value)) (h:Ix ρ l) (a:AN P o (Q6 l ρ) w K):AN P o ρ w K:=by
 rw [W6 h] at a; exact a
def KV (vals:Nat→Value):List (Tmp×Nat×Value)→Prop
 | []=>True
 | p :: l=>vals p.2.1=p.2.2∧KV vals l
theorem AN.loadMid {P:Program} {o:Oper} {ρ:Operand→Value} {w:World} {K:Value→World→Prop} (ty:TypeId) (x:Operand) (ho:o.op=.load ty x)
  {b off:Nat} (hx:ρ x=.pointer (some ⟨b,off,none⟩)) (a:List Value) (hc:w.rangeAt b off a) (hr:(P.underlying ty).map TypeDesc.isRow=some true) (hi:(P.info? ty).map (·.size)=some a.length)
  (c:K (.agg a.toArray) w):AN P o ρ w K:=by
 cases hu:P.underlying ty with
 | none=>rw [hu] at hr; cases hr
 | some d=>
  have hd:d.isRow=true:=by rw [hu] at hr; exact Option.some.inj hr
  refine AN.value (v:=.agg a.toArray) (w':=w) ?_ c
  unfold execOp
  simp only [ho,hx,Instr.loadAt,Instr.sureAddr,Sem.run_bind,Sem.run_pure,Result.andThen_ok,run_loadVar_mid w b off ty a d hc hu hd hi]
theorem AN.loadOne {P:Program} {o:Oper} {ρ:Operand→Value} {w:World} {K:Value→World→Prop} (ty:TypeId) (x:Operand) (ho:o.op=.load ty x)
  {a:Addr} (hx:ρ x=.pointer (some a)) {v:Value} (hc:w.cell? a=some v) (hg:(isAgg ty).run P w=.ok false w)
  (b:K v w):AN P o ρ w K:=by
 refine AN.value (v:=v) (w':=w) ?_ b
 unfold execOp
 have hl:(load a).run P w=.ok v w:=by unfold load; simp [Sem.run,hc]
 simp only [ho,hx,Instr.loadAt,Instr.sureAddr,Sem.run_bind,Sem.run_pure,Result.andThen_ok,loadVar,hg,Bool.false_eq_true,if_false,hl]
def Bd (i:Nat) (B:List Nat) (v:Value):DA:=⟨i,B,[i],fun vs _=>vs=[v]⟩
end Go.Proofs.YtkjbdagicjbjjaaGreat

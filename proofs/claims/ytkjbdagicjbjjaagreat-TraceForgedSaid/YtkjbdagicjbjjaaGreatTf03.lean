/-
  Part 3 of a proof: contracts of functions.
-/
import Derived.KernelRfl
import Derived.Test.YtkjbdagicjbjjaaGreatTf02
import Derived.Deep.Quiet
import Derived.Below
import Derived.Test.YtkjbdagicjbjjaaGreatTf00
import Derived.Orders
import Derived.Laws.Cells
set_option linter.all false
namespace Go.Proofs.YtkjbdagicjbjjaaGreat
section
variable {P:Program} {ops:Array Oper} {Q:Exit→Act→World→Prop} {md:Region.Mode} {W:Wr} {listed0:Array Bool} {n:Nat} {E:Nat→Value} {C:World→Prop} {Ext:World→World→Prop} {L:List Ct} {w0:World}
def C0 (n:Nat) (E:Nat→Value) (W:Wr) (vals:Nat→Value):Operand→Value
 | .tmp t=>match W.of t with
  | some j=>vals j
  | none=>Ax n E (.tmp t)
 | x=>Ax n E x
theorem V4 (vals:Nat→Value):IM (Fr n E) W vals=C0 n E W vals:=by
 funext x
 unfold IM C0
 rw [Db]
 cases x <;> rfl
def ACH (P:Program) (ops:Array Oper) (n:Nat) (E:Nat→Value) (W:Wr) (C:World→Prop) (Ext:World→World→Prop) (L:List Ct) (l:Ct):Prop:=
 (∀ vs w w',C w→Ext w w'→l.says vs w→l.says vs w')∧
  ∀ (vals:Nat→Value) (w:World),C w→FP l.before vals w L→AM P (ops.getD l.idx default) (C0 n E W vals) w (fun v w'=>C w'∧Ext w w'∧l.says (l.deps.map (Dw vals l.idx v)) w')
def I9 (P:Program) (ops:Array Oper) (n:Nat) (E:Nat→Value) (W:Wr) (C:World→Prop) (Ext:World→World→Prop) (L:List Ct):List Ct→Prop
 | []=>True
 | l :: r=>ACH P ops n E W C Ext L l∧I9 P ops n E W C Ext L r
theorem I9.parts:∀ {r:List Ct},I9 P ops n E W C Ext L r→NZ P ops (Fr n E) W C Ext L r
 | [],_=>trivial
 | l :: r,h=>by
  refine ⟨⟨h.1.1,fun vals w a hb=>?_⟩,I9.parts h.2⟩
  rw [V4]
  exact h.1.2 vals w a hb
theorem Dq (h:C w0) (e:∀ w:World,Ext w w) (d:∀ a b c:World,Ext a b→Ext b c→Ext a c) (f:I9 P ops n E W C Ext L L) {fuel k:Nat} (g:k=L.length + fuel) (H:∀ vals w,C w→Ext w0 w→FK vals w L→wpAny P md ops Q fuel ((L.map (·.idx)).foldl (fun b i=>b.setIfInBounds i true) listed0) (Fr n (Kq ops vals (L.map (·.idx)) E)) w) (hok:(EZ md ops W listed0 n L && Gc ops L)=true:=by kernel_rfl) :
  wpAny P md ops Q k listed0 (Fr n E) w0:=by
 subst g
 refine lV (by rw [RD]; exact hok) h e d f.parts fun vals w l h2 j=>?_
 rw [V0]
 exact H vals w l h2 j
theorem Np {vals:Nat→Value}:∀ {l:List (Tmp×Nat×Value)},(∀ p∈l,W.of p.1=some p.2.1)→KV vals l→IU (C0 n E W vals) (l.map (fun p=>(p.1,p.2.2)))
 | [],_,_=>trivial
 | p :: l,hw,hv=>by
  refine ⟨?_,Np (fun q a=>hw q (by simp [a])) hv.2⟩
  have:=hw p (by simp)
  unfold C0
  simp only [this]
  exact hv.1
theorem AM.knownE {o:Oper} {vals:Nat→Value} {w:World} {K:Value→World→Prop} (l:List (Tmp×Nat×Value)) (hv:KV vals l) (a:AM P o (RS (l.map (fun p=>(p.1,p.2.2))) (C0 n E W vals)) w K) (hc:(l.all (fun p=>W.of p.1 == some p.2.1))=true:=by kernel_rfl):AM P o (C0 n E W vals) w K:=by
 simp only [List.all_eq_true,beq_iff_eq] at hc
 exact AM.over _ (Np hc hv) a
theorem AM.reads {o:Oper} {ρ:Operand→Value} {w:World} {K:Value→World→Prop} (m:MS) (hg:∀ e∈m.mem,e.good w) (v:Value) (h:K v w) (hv:(DO P (execOp ρ o) m).map (·.1)=some (.value v):=by kernel_rfl) (he:((DO P (execOp ρ o) m).map (·.2.eqs.map Prod.fst))=((DO P (execOp ρ o) m).map (·.2.eqs.map Prod.snd)):=by kernel_rfl):AM P o ρ w K:=by
 cases hl:DO P (execOp ρ o) m with
 | none=>rw [hl] at hv; cases hv
 | some p=>
  obtain ⟨f,a⟩:=p
  rw [hl] at hv he
  have b:f=.value v:=Option.some.inj hv
  have c:a.eqs.map Prod.fst=a.eqs.map Prod.snd:=Option.some.inj he
  subst b
  refine AM.value (v:=v) (w':=w) (Fb _ _ _ _ hl hg fun p g=>?_) h
  obtain ⟨i,hi⟩:=List.mem_iff_getElem?.1 g
  have d:(a.eqs.map Prod.fst)[i]?=some p.1:=by rw [List.getElem?_map,hi]; rfl
  have h2:(a.eqs.map Prod.snd)[i]?=some p.2:=by rw [List.getElem?_map,hi]; rfl
  rw [c,h2] at d
  exact (Option.some.inj d).symm
theorem Vp {O:List Nat} {B:Nat} {w:World} {s:MS} (h:EB O B w s) (z:Nat) (m:List Az) (hz:s.sz=z) (hm:s.mem=m):EB O B w ⟨z,m,(0,0),[]⟩:=by
 subst hz hm
 exact ⟨h.sat,h.le,h.own⟩
def NJ:List Item→Option (List Item)
 | .code .skip :: k=>some k
 | .code (.label _) :: k=>some k
 | .inBlock _ :: k=>some k
 | .code (.seq x y) :: k=>some (.code x :: .code y :: k)
 | .code (.block id c) :: k=>some (.code c :: .inBlock id :: k)
 | .code (.exit id) :: k=>exitTo id k
 | .code (.region _ ops false) :: k=>some (.inRegion ops (List.range ops.size) :: k)
 | .inRegion _ [] :: k=>some k
 | .inRegion ops (i :: r) :: k=>match ops[i]? with
  | some o=>match sj o.op with
   | true=>none
   | false=>some (.inRegion ops r :: k)
  | none=>none
 | _=>none
def AA:Nat→List Item→List Item
 | 0,t=>t
 | m + 1,t=>match NJ t with
  | some t'=>AA m t'
  | none=>t
theorem CY {f:FuncId} {R:Ending→World→Prop} {w:World} (m:Nat) (todo:List Item) (z:Nat) (mem:List Az) (hints:List (Nat×Nat)) (todo':List Item) (l:List (Nat×Value)) (z':Nat) (mem':List Az) (hL:EB (mem.map (·.id)) w.heap.size w ⟨z,mem,(0,0),[]⟩) (hk:∀ w' E',EB (mem.map (·.id)) w.heap.size w' ⟨z',mem',(0,0),[]⟩→Eh (mem.map (·.id)) w.heap.size w w'→At P f R todo' (Fr n (BC E' l)) w') (he:(fun a:St=>(a.todo,a.ms.mem,a.ms.sz,l.map (fun p=>a.env p.1),a.ms.eqs.map Prod.fst)) (HL P n m ⟨todo,E,⟨z,mem,(0,0),[]⟩,hints⟩)=(todo',mem',z',l.map (·.2),(HL P n m ⟨todo,E,⟨z,mem,(0,0),[]⟩,hints⟩).ms.eqs.map Prod.snd):=by kernel_rfl):At P f R todo (Fr n E) w:=by
 simp only [Prod.mk.injEq] at he
 obtain ⟨h1,h2,h3,h4,h5⟩:=he
 refine WX m ⟨todo,E,⟨z,mem,(0,0),[]⟩,hints⟩ hL h5 fun w' hL' hK=>?_
 rw [h1]
 exact Oa l h4 fun E'=>hk w' E' (Vp hL' z' mem' h3 h2) hK
theorem CH (w:World):EB [] w.heap.size w ⟨w.heap.size,[],(0,0),[]⟩:=
 ⟨⟨rfl,fun e he=>(by cases he),fun i j e e' hi=>(by simp at hi)⟩,Nat.le_refl _,fun e he=>(by cases he)⟩
theorem Mc {w w':World} {base:Nat} {e:TypeId} {size:Nat} {v:Value} {k:Nat} {xs:List Value} (h:w.ownsRow base e size v k xs) (b:∀ g,v.ownBlock=some g→w'.heap[g]?=w.heap[g]?):w'.ownsRow base e size v k xs:=by
 obtain ⟨d,h2⟩:=h
 refine ⟨d,?_⟩
 rcases h2 with h2 | ⟨g,cap,a,rfl,hg,hb,c⟩
 ·exact .inl h2
 ·exact .inr ⟨g,cap,a,rfl,hg,(b g rfl).trans hb,c⟩
theorem Hs {f:FuncId} {R:Ending→World→Prop} {fn:Func} {c:Code} {args:List Value} {w:World} (h:At P f R [.code c] (Fr n (fun t=>args.getD t undef)) w) (hf:P.funcs[f]?=some fn:=by kernel_rfl) (hb:fn.body=some c:=by kernel_rfl) (hn:fn.ntmps=n:=by kernel_rfl) (hl:Nat.ble args.length n=true:=by kernel_rfl):Calls P f args.toArray w R:=by
 subst hn
 exact lP hf hb h.mid (Nat.le_of_ble_eq_true hl)
theorem Yh {O:List Nat} {B:Nat} {a:Array Bool} {fuel i:Nat} {w:World} (o:Oper) (ms b:MS) (r:Next) (v:Value) (hr:Region.ready md ops a=[i]) (ho:ops[i]?=some o) (hg:o.guard=none)
  (hm:CL P (execOp (Ax n E) o) ms=some (r,b)) (hv:r=.value v∨(r=.skip∧v=undef)) (d:EB O B w ms) (he:b.eqs.map Prod.fst=b.eqs.map Prod.snd)
  (j:∀ w',EB O B w' b→Eh O B w w'→wpAny P md ops Q fuel (a.setIfInBounds i true) (Fr n (Aq E o.dst v)) w'):wpAny P md ops Q (fuel + 1) a (Fr n E) w:=by
 refine Jc hr ho hg ?_
 have f:∀ p∈b.eqs,p.1=p.2:=fun p h=>by
  obtain ⟨i,hi⟩:=List.mem_iff_getElem?.1 h
  have e:(b.eqs.map Prod.fst)[i]?=some p.1:=by rw [List.getElem?_map,hi]; rfl
  have h2:(b.eqs.map Prod.snd)[i]?=some p.2:=by rw [List.getElem?_map,hi]; rfl
  rw [he,h2] at e
  exact (Option.some.inj e).symm
 obtain ⟨w',e,h2,g,k⟩:=JR _ _ _ _ w hm d.sat d.le d.own f
 unfold Oper.wp
 rw [Db,e]
 have c:=j w' ⟨h2,Nat.le_trans d.le g.size,k⟩ g
 rw [← EJ] at c
 rcases hv with rfl | ⟨rfl,rfl⟩
 ·exact c
 ·exact c
theorem Em {b:Array Bool} {fuel:Nat} {a:Act} {w:World} (h:Q .normal a w) (hr:Region.ready md ops b=[]:=by kernel_rfl):wpAny P md ops Q fuel b a w:=wpAny_done hr h fuel
end
end Go.Proofs.YtkjbdagicjbjjaaGreat
namespace Go.Proofs.YtkjbdagicjbjjaaGreat
open Go.RowKit
section
variable {P:Program} {ops:Array Oper} {n:Nat} {C:World→Prop}
abbrev Cx:=List (Tmp×Bool)
def Gx:List (Tmp×Cx)→Tmp→Cx
 | [],_=>[]
 | p :: r,t=>match Nat.beq p.1 t with
  | true=>p.2
  | false=>Gx r t
def Sq (p:Tmp×Bool):Cx→Bool
 | []=>false
 | q :: r=>(Nat.beq p.1 q.1 && (p.2 == q.2)) || Sq p r
def Lb:Cx→Cx→Bool
 | [],_=>true
 | p :: r,c=>Sq p c && Lb r c
def Jz (d:Tmp):Cx→Bool
 | []=>true
 | q :: r=>!(Nat.beq q.1 d) && Jz d r
def LO (d:Tmp):List (Tmp×Cx)→Bool
 | []=>true
 | p :: r=>Jz d p.2 && LO d r
def holds (G:Nat→Value) (c:Cx):Prop:=∀ p∈c,G p.1=.bool p.2
theorem Rd {p:Tmp×Bool}:∀ {c:Cx},Sq p c=true→p∈c
 | [],h=>by cases h
 | q :: r,h=>by
  unfold Sq at h
  rw [Bool.or_eq_true,Bool.and_eq_true] at h
  rcases h with ⟨a,h2⟩ | h
  ·have d:=Nat.eq_of_beq_eq_true a
   have b:p.2=q.2:=by simpa using h2
   have:p=q:=Prod.ext d b
   simp [this]
  ·exact List.mem_cons_of_mem _ (Rd h)
theorem Kh {G:Nat→Value} {c:Cx} (hc:holds G c):∀ {a:Cx},Lb a c=true→holds G a
 | [],_=>fun p d=>by cases d
 | p :: r,h=>by
  unfold Lb at h
  rw [Bool.and_eq_true] at h
  intro q b
  rcases List.mem_cons.1 b with rfl | b
  ·exact hc _ (Rd h.1)
  ·exact Kh hc h.2 q b
theorem Jy {G:Nat→Value} {d:Tmp} {v:Value}:∀ {c:Cx},Jz d c=true→(holds (JI G d v) c↔holds G c)
 | [],_=>⟨fun _ p a=>(by cases a),fun _ p a=>(by cases a)⟩
 | q :: r,h=>by
  unfold Jz at h
  rw [Bool.and_eq_true] at h
  have f:=Jy (G:=G) (v:=v) h.2
  have g:JI G d v q.1=G q.1:=by
   unfold JI
   rw [if_neg]
   intro e
   have:Nat.beq q.1 d=true:=by rw [e]; exact Nat.beq_refl d
   rw [this] at h
   cases h.1
  constructor
  ·intro b p a
   rcases List.mem_cons.1 a with rfl | a
   ·rw [← g]; exact b _ (by simp)
   ·exact f.1 (fun p a=>b p (by simp [a])) p a
  ·intro b p a
   rcases List.mem_cons.1 a with rfl | a
   ·rw [g]; exact b _ (by simp)
   ·exact f.2 (fun p a=>b p (by simp [a])) p a
theorem P5 {d:Tmp}:∀ {cx:List (Tmp×Cx)} (t:Tmp),LO d cx=true→Jz d (Gx cx t)=true
 | [],_,_=>rfl
 | p :: r,t,h=>by
  unfold LO at h
  rw [Bool.and_eq_true] at h
  unfold Gx
  split
  ·exact h.1
  ·exact P5 t h.2
def MK (G:Nat→Value) (cx:List (Tmp×Cx)) (E:Nat→Value):Prop:=∀ t,(holds G (Gx cx t)→E t=G t)∧(¬ holds G (Gx cx t)→E t=undef)
theorem MK.start (G:Nat→Value):MK G [] G:=fun _=>⟨fun _=>rfl,fun h=>(h (fun p a=>by cases a)).elim⟩
def d6 (G:Nat→Value) (cx:List (Tmp×Cx)) (c:Cx) (X:Nat→Value):Nat→Value:=fun t=>match Lb (Gx cx t) c with
 | true=>G t
 | false=>X t
theorem d5 {G E:Nat→Value} {cx:List (Tmp×Cx)} {c:Cx} (h:MK G cx E) (hc:holds G c):d6 G cx c E=E:=by
 funext t
 unfold d6
 split
 ·rename_i hs; exact ((h t).1 (Kh hc hs)).symm
 ·rfl
theorem MK.put {G E:Nat→Value} {cx:List (Tmp×Cx)} {c:Cx} {v u:Value} (h:MK G cx E) (d:Tmp) (hf:LO d cx=true) (a:Jz d c=true) (hu:(holds G c→u=v)∧(¬ holds G c→u=undef)):MK (JI G d v) ((d,c) :: cx) (JI E d u):=by
 intro t
 unfold Gx
 by_cases ht:d=t
 ·subst ht
  simp only [Nat.beq_refl]
  rw [Jy a]
  simp only [JI,if_true]
  exact hu
 ·have hb:Nat.beq d t=false:=by
   cases hh:Nat.beq d t with
   | false=>rfl
   | true=>exact (ht (Nat.eq_of_beq_eq_true hh)).elim
  simp only [hb]
  rw [Jy (P5 t hf)]
  have b:JI E d u t=E t:=by unfold JI; rw [if_neg (fun e=>ht e.symm)]
  have h2:JI G d v t=G t:=by unfold JI; rw [if_neg (fun e=>ht e.symm)]
  rw [b,h2]
  exact h t
structure Sp where
 i:Nat
 l:List (Tmp×Value)
 v:Value
 cond:Bool
def Gr:List Sp→Nat→Option Sp
 | [],_=>none
 | s :: r,i=>match Nat.beq s.i i with
  | true=>some s
  | false=>Gr r i
def eE (G:Nat→Value):Cx→Bool
 | []=>true
 | p :: r=>(match G p.1 with
  | .bool b=>(match p.2 with
   | true=>b
   | false=>!b)
  | _=>false) && eE G r
theorem QA {G:Nat→Value}:∀ {c:Cx},holds G c→eE G c=true
 | [],_=>rfl
 | p :: r,h=>by
  unfold eE
  rw [h p (by simp)]
  have a:=QA (G:=G) (c:=r) (fun q d=>h q (by simp [d]))
  rw [a]
  obtain ⟨t,b⟩:=p
  cases b <;> rfl
def Vi (b:Bool):Value→Value→Value
 | .bool x,.bool y=>.bool (cond b x y)
 | x,y=>cond b x y
theorem j1 (b:Bool) (x y:Value):Vi b x y=cond b x y:=by
 unfold Vi
 split
 ·cases b <;> rfl
 ·rfl
def j8:List (Nat×Nat×Nat)→Nat→Nat×Nat
 | [],_=>(0,0)
 | p :: r,i=>match Nat.beq p.1 i with
  | true=>p.2
  | false=>j8 r i
def Ve (cx:List (Tmp×Cx)) (c:Cx):Operand→Bool
 | .tmp t=>Lb (Gx cx t) c
 | _=>true
structure Ij where
 mem:List Az
 hints:List (Nat×Nat×Nat)
 specs:List Sp
structure GS where
 G:Nat→Value
 cx:List (Tmp×Cx)
def eD (n:Nat) (ops:Array Oper) (o:Oper) (cx:List (Tmp×Cx)):Option Cx:=
 match o.guard with
 | none=>some []
 | some (g,want)=>match (ops[g]?).bind (·.dst) with
  | some t=>match Nat.blt t n with
   | true=>some ((t,want) :: Gx cx t)
   | false=>none
  | none=>none
def plain (P:Program) (n:Nat) (I:Ij) (i:Nat) (o:Oper) (s:GS) (c:Cx) (X:Nat→Value):Option (Next×MS):=DO P (execOp (Ax n (d6 s.G s.cx c X)) o) ⟨0,I.mem,j8 I.hints i,[]⟩
def MX (n:Nat) (s:GS) (c:Cx):Op→Option (ByteArray×ByteArray)
 | .binOp .add _ x y _=>match Ve s.cx c x && Ve s.cx c y with
  | true=>match Ax n s.G x,Ax n s.G y with
   | .string a,.string b=>some (a,b)
   | _,_=>none
  | false=>none
 | _=>none
def d4 (P:Program) (n:Nat) (I:Ij) (i:Nat) (o:Oper) (s:GS) (c:Cx):Option Value:=
 match Gr I.specs i with
 | some sp=>match sp.l.all (fun p=>Lb (Gx s.cx p.1) c) with
  | true=>some sp.v
  | false=>none
 | none=>match o.op with
  | .pick (.tmp t) x y=>match Lb (Gx s.cx t) c && (Ve s.cx ((t,true) :: c) x && Ve s.cx ((t,false) :: c) y) with
   | true=>match Ax n s.G (.tmp t) with
    | .bool b=>some (Vi b (Ax n s.G x) (Ax n s.G y))
    | _=>none
   | false=>none
  | _=>match MX n s c o.op with
   | some (a,b)=>some (.string (a++b))
   | none=>match plain P n I i o s c (fun _=>undef) with
    | some (.value v,_)=>some v
    | _=>none
def Lx (P:Program) (n:Nat) (I:Ij) (X:Nat→Value) (i:Nat) (o:Oper) (s:GS) (c:Cx):List ((Option Next×List Nat)×(Option Next×List Nat)):=
 match Gr I.specs i with
 | some sp=>((some (.value (.bool sp.cond)),[]),(some (.value (.bool (eE s.G c))),[])) :: sp.l.map (fun p=>((some (.value (Ax n s.G (.tmp p.1))),[]),(some (.value p.2),[])))
 | none=>match o.op with
  | .pick (.tmp _) _ _=>[]
  | _=>match MX n s c o.op with
   | some _=>[]
   | none=>match plain P n I i o s c X with
    | some (r,m)=>[((some r,m.eqs.map Prod.fst),((plain P n I i o s c (fun _=>undef)).map (·.1),m.eqs.map Prod.snd))]
    | none=>[((none,[]),(some .skip,[]))]
def P4 (n:Nat) (I:Ij) (i:Nat) (o:Oper) (s:GS) (c:Cx):List Nat:=
 match Gr I.specs i with
 | some _=>[]
 | none=>match MX n s c o.op with
  | some (a,b)=>[a.size + b.size]
  | none=>[]
def Mm (P:Program) (n:Nat) (ops:Array Oper) (I:Ij) (i:Nat) (s:GS):Option (Oper×Cx×GS):=
 match ops[i]? with
 | none=>none
 | some o=>match eD n ops o s.cx with
  | none=>none
  | some c=>match d4 P n I i o s c,o.dst with
   | some v,some d=>match LO d s.cx && Jz d c with
    | true=>some (o,c,⟨JI s.G d v,(d,c) :: s.cx⟩)
    | false=>none
   | _,_=>none
def KY (P:Program) (n:Nat) (ops:Array Oper) (I:Ij):List Nat→GS→Option GS
 | [],s=>some s
 | i :: r,s=>match Mm P n ops I i s with
  | some (_,_,s')=>KY P n ops I r s'
  | none=>none
def F7 (P:Program) (n:Nat) (ops:Array Oper) (I:Ij) (X:Nat→Value):List Nat→GS→List ((Option Next×List Nat)×(Option Next×List Nat))
 | [],_=>[]
 | i :: r,s=>match Mm P n ops I i s with
  | some (o,c,s')=>Lx P n I X i o s c++F7 P n ops I X r s'
  | none=>[]
def KZ (P:Program) (n:Nat) (ops:Array Oper) (I:Ij):List Nat→GS→List Nat
 | [],_=>[]
 | i :: r,s=>match Mm P n ops I i s with
  | some (o,c,s')=>P4 n I i o s c++KZ P n ops I r s'
  | none=>[]
theorem na {o:Oper} {ρ:Operand→Value} {w:World} {T T':TypeId} {x y:Operand} {a b:ByteArray} (hop:o.op=.binOp .add T x y T') (hx:ρ x=.string a) (c:ρ y=.string b) (hs:((a.size + b.size:Nat):Int)≤IntKind.i64.max):(execOp ρ o).run P w=.ok (.value (.string (a++b))) w:=by
 have h2:¬ ((a.size + b.size:Nat):Int) > IntKind.i64.max:=by omega
 unfold execOp
 simp only [hop,hx,c]
 unfold binOp Op.stringOp
 simp [eqGuard]
 have d:IntKind.i64.max=9223372036854775807:=by decide
 omega
theorem Yo {o:Oper} {s:GS} {E:Nat→Value} {c:Cx} (hr:MK s.G s.cx E) (hc:eD n ops o s.cx=some c):(holds s.G c→Region.wanted o (HS n ops E)=true)∧(¬ holds s.G c→Region.wanted o (HS n ops E)=false):=by
 unfold eD at hc
 unfold Region.wanted
 split at hc
 ·rename_i hg
  obtain rfl:=Option.some.inj hc
  simp only [hg]
  exact ⟨fun _=>trivial,fun h=>(h (fun p a=>(by cases a))).elim⟩
 ·rename_i g want hg
  simp only [hg]
  split at hc
  ·rename_i t ht
   split at hc
   ·rename_i hlt
    obtain rfl:=Option.some.inj hc
    have d:t < n:=Nat.le_of_ble_eq_true hlt
    have j:HS n ops E g=match E t with
     | .bool b=>some b
     | _=>none:=by
     unfold HS
     simp only [ht,Ax,d,decide_true]
     cases E t <;> rfl
    rw [j]
    constructor
    ·intro i
     have f:holds s.G (Gx s.cx t):=fun p a=>i p (by simp [a])
     rw [(hr t).1 f,i (t,want) (by simp)]
     simp
    ·intro i
     by_cases f:holds s.G (Gx s.cx t)
     ·rw [(hr t).1 f]
      cases hG:s.G t with
      | bool b=>
       have:b≠want:=by
        intro e
        subst e
        exact i (fun p a=>by
         rcases List.mem_cons.1 a with rfl | a
         ·exact hG
         ·exact f p a)
       simp [this]
      | _=>rfl
     ·rw [(hr t).2 f]
      rfl
   ·cases hc
  ·cases hc
theorem Ja {s:GS} {E:Nat→Value} {c:Cx} {x:Operand} (hr:MK s.G s.cx E) (hc:holds s.G c) (hx:Ve s.cx c x=true):Ax n E x=Ax n s.G x:=by
 cases x with
 | tmp t=>
  have:=(hr t).1 (Kh hc hx)
  simp only [Ax,this]
 | _=>rfl
theorem Wo {l:List ((Option Next×List Nat)×(Option Next×List Nat))} (h:l.map Prod.fst=l.map Prod.snd):∀ p∈l,p.1=p.2:=by
 intro p b
 obtain ⟨i,hi⟩:=List.mem_iff_getElem?.1 b
 have a:(l.map Prod.fst)[i]?=some p.1:=by rw [List.getElem?_map,hi]; rfl
 have h2:(l.map Prod.snd)[i]?=some p.2:=by rw [List.getElem?_map,hi]; rfl
 rw [h,h2] at a
 exact (Option.some.inj a).symm
def Eg (P:Program) (n:Nat) (C:World→Prop) (ops:Array Oper) (sp:Sp):Prop:=sp.cond=true→∀ E,IU (Ax n E) sp.l→∀ w,C w→Oper.quietUpon P C w sp.v ((execOp (Ax n E) (ops.getD sp.i default)).run P w)
theorem Ib:∀ {l:List Sp} {i:Nat} {a:Sp},Gr l i=some a→a∈l∧a.i=i
 | [],_,_,h=>by cases h
 | s :: r,i,a,h=>by
  unfold Gr at h
  split at h
  ·rename_i hb
   obtain rfl:=Option.some.inj h
   exact ⟨by simp,Nat.eq_of_beq_eq_true hb⟩
  ·exact ⟨List.mem_cons_of_mem _ (Ib h).1,(Ib h).2⟩
theorem Vq {ρ:Operand→Value}:∀ {l:List (Tmp×Value)},(∀ p∈l,ρ (.tmp p.1)=p.2)→IU ρ l
 | [],_=>trivial
 | p :: l,h=>⟨h p (by simp),Vq fun q a=>h q (by simp [a])⟩
theorem Wz {I:Ij} {i:Nat} {o:Oper} {s:GS} {c:Cx} {v:Value} {E:Nat→Value} (hz:∀ z∈P4 n I i o s c,(z:Int)≤IntKind.i64.max) (ho:ops[i]?=some o) (hr:MK s.G s.cx E) (hc:holds s.G c) (hv:d4 P n I i o s c=some v)
  (f:∀ X,∀ p∈Lx P n I X i o s c,p.1=p.2) (hM:∀ w,C w→∀ e∈I.mem,e.good w) (hS:∀ sp∈I.specs,Eg P n C ops sp):∀ w,C w→Oper.quietAt P o (Fr n E) C w v:=by
 intro w hw
 unfold Oper.quietAt
 rw [Db]
 have f:=f E
 unfold d4 at hv
 unfold Lx at f
 split at hv
 ·rename_i sp hsp
  simp only [hsp] at f
  split at hv
  ·rename_i hall
   obtain rfl:=Option.some.inj hv
   obtain ⟨j,hi⟩:=Ib hsp
   have g:sp.cond=true:=by
    have:=f _ (List.mem_cons_self ..)
    simp only [Prod.mk.injEq,Option.some.injEq,Next.value.injEq,Value.bool.injEq,and_true] at this
    rw [this]
    exact QA hc
   have hk:IU (Ax n E) sp.l:=Vq fun p h=>by
    rw [List.all_eq_true] at hall
    have u:=hall p h
    rw [Ja (x:=.tmp p.1) hr hc u]
    have:=f _ (List.mem_cons_of_mem _ (List.mem_map.2 ⟨p,h,rfl⟩))
    simp only [Prod.mk.injEq,Option.some.injEq,Next.value.injEq,and_true] at this
    exact this
   have:=hS sp j g E hk w hw
   have e:ops.getD sp.i default=o:=by rw [hi,Array.getD_eq_getD_getElem?,ho]; rfl
   rw [e] at this
   exact this
  ·cases hv
 ·rename_i hsp
  simp only [hsp] at f
  split at hv
  ·rename_i t x y hop
   split at hv
   ·rename_i hb
    rw [Bool.and_eq_true,Bool.and_eq_true] at hb
    split at hv
    ·rename_i b hG
     obtain rfl:=Option.some.inj hv
     have ht:Ax n E (.tmp t)=.bool b:=by rw [Ja (x:=.tmp t) hr hc hb.1]; exact hG
     have k:s.G t=.bool b:=by
      simp only [Ax] at hG
      split at hG
      ·exact hG
      ·cases hG
     obtain ⟨d,op,ty,a0,af,gd⟩:=o
     simp only at hop
     subst hop
     have e:(execOp (Ax n E) ⟨d,.pick (.tmp t) x y,ty,a0,af,gd⟩).run P w=.ok (.value (if b then Ax n E x else Ax n E y)) w:=by
      show ((asBool (Ax n E (.tmp t))).bind fun b=>Sem.pure (Next.value (if b then Ax n E x else Ax n E y))).run P w=_
      rw [ht]
      rfl
     rw [e]
     refine ⟨rfl,?_⟩
     rw [j1]
     cases b with
     | true=>exact Ja (c:=(t,true) :: c) hr (fun p f=>(List.mem_cons.1 f).elim (fun e=>e ▸ k) (hc p)) hb.2.1
     | false=>exact Ja (c:=(t,false) :: c) hr (fun p f=>(List.mem_cons.1 f).elim (fun e=>e ▸ k) (hc p)) hb.2.2
    ·cases hv
   ·cases hv
  ·rename_i hnp
   cases hsa:MX n s c o.op with
   | some ab=>
    obtain ⟨a,b⟩:=ab
    rw [hsa] at hv
    obtain rfl:=Option.some.inj hv
    unfold P4 at hz
    simp only [hsp,hsa] at hz
    have b0:=hz _ (List.mem_singleton.2 rfl)
    unfold MX at hsa
    split at hsa
    ·rename_i T x y T' hop
     split at hsa
     ·rename_i hok
      rw [Bool.and_eq_true] at hok
      split at hsa
      ·rename_i a' b' hx hy
       simp only [Option.some.injEq,Prod.mk.injEq] at hsa
       obtain ⟨rfl,rfl⟩:=hsa
       rw [na hop ((Ja hr hc hok.1).trans hx) ((Ja hr hc hok.2).trans hy) b0]
       exact ⟨rfl,rfl⟩
      ·cases hsa
     ·cases hsa
    ·cases hsa
   | none=>
   rw [hsa] at hv
   have f:∀ p∈(match plain P n I i o s c E with
     | some (r,m)=>[((some r,m.eqs.map Prod.fst),((plain P n I i o s c (fun _=>undef)).map (·.1),m.eqs.map Prod.snd))]
     | none=>[((none,[]),(some .skip,[]))]:List ((Option Next×List Nat)×(Option Next×List Nat))),p.1=p.2:=by
    split at f
    ·rename_i t x y hop; exact (hnp t x y hop).elim
    ·rw [hsa] at f; exact f
   simp only at hv
   split at hv
   ·rename_i v' m' hpl
    obtain rfl:=Option.some.inj hv
    cases hE:plain P n I i o s c E with
    | none=>
     rw [hE] at f
     have:=f _ (List.mem_singleton.2 rfl)
     simp at this
    | some q=>
     obtain ⟨r,m⟩:=q
     rw [hE] at f
     have:=f _ (List.mem_singleton.2 rfl)
     rw [hpl] at this
     simp only [Option.map_some,Prod.mk.injEq,Option.some.injEq] at this
     obtain ⟨rfl,he⟩:=this
     unfold plain at hE
     rw [d5 hr hc] at hE
     rw [Fb _ _ _ _ hE (hM w hw) fun p f=>by
      obtain ⟨i,hi⟩:=List.mem_iff_getElem?.1 f
      have u:(m.eqs.map Prod.fst)[i]?=some p.1:=by rw [List.getElem?_map,hi]; rfl
      have h2:(m.eqs.map Prod.snd)[i]?=some p.2:=by rw [List.getElem?_map,hi]; rfl
      rw [he,h2] at u
      exact (Option.some.inj u).symm]
     exact ⟨rfl,rfl⟩
   ·cases hv
theorem OR {I:Ij} {Q:Act→Prop} (r:∀ w,C w→∀ e∈I.mem,e.good w) (m:∀ sp∈I.specs,Eg P n C ops sp):∀ (l:List Nat) (s s':GS) (E:Nat→Value),MK s.G s.cx E→KY P n ops I l s=some s'→(∀ X,∀ p∈F7 P n ops I X l s,p.1=p.2)→(∀ z∈KZ P n ops I l s,(z:Int)≤IntKind.i64.max)→
  (∀ E',MK s'.G s'.cx E'→Q (Fr n E'))→wpQuiet P ops C Q (l.map (ops.getD · default)) (Fr n E)
 | [],s,s',E,hr,h,_,_,hk=>by obtain rfl:=Option.some.inj h; exact hk E hr
 | i :: l,s,s',E,hr,h,hp,hz,hk=>by
  unfold KY at h
  cases hs:Mm P n ops I i s with
  | none=>rw [hs] at h; cases h
  | some q=>
   obtain ⟨o,c,t⟩:=q
   rw [hs] at h
   have k:∀ X,∀ p∈Lx P n I X i o s c,p.1=p.2:=fun X p b=>hp X p (by unfold F7; rw [hs]; exact List.mem_append_left _ b)
   have g:∀ X,∀ p∈F7 P n ops I X l t,p.1=p.2:=fun X p b=>hp X p (by unfold F7; rw [hs]; exact List.mem_append_right _ b)
   have j:∀ z∈P4 n I i o s c,(z:Int)≤IntKind.i64.max:=fun z a=>hz z (by unfold KZ; rw [hs]; exact List.mem_append_left _ a)
   have f:∀ z∈KZ P n ops I l t,(z:Int)≤IntKind.i64.max:=fun z a=>hz z (by unfold KZ; rw [hs]; exact List.mem_append_right _ a)
   unfold Mm at hs
   split at hs
   ·cases hs
   ·rename_i o' ho
    split at hs
    ·cases hs
    ·rename_i c' hcx
     split at hs
     ·rename_i v d hv hd
      split at hs
      ·rename_i hfree
       simp only [Option.some.injEq,Prod.mk.injEq] at hs
       obtain ⟨rfl,rfl,rfl⟩:=hs
       rw [Bool.and_eq_true] at hfree
       have u:=Yo hr hcx
       have e:ops.getD i default=o':=by rw [Array.getD_eq_getD_getElem?,ho]; rfl
       rw [List.map_cons,e]
       unfold wpQuiet
       rw [FE]
       by_cases hh:holds s.G c'
       ·rw [if_pos (u.1 hh)]
        refine ⟨v,Wz j ho hr hh hv k r m,?_⟩
        rw [EJ,hd]
        exact OR r m l _ s' _ (hr.put d hfree.1 hfree.2 ⟨fun _=>rfl,fun h=>(h hh).elim⟩) h g f hk
       ·rw [u.2 hh,if_neg (by simp),EJ,hd]
        exact OR r m l _ s' _ (hr.put d hfree.1 hfree.2 ⟨fun h=>(hh h).elim,fun _=>rfl⟩) h g f hk
      ·cases hs
     ·cases hs
theorem H6 {Q b:Act→Prop}:∀ (l:List Oper) (a:Act),(∀ a,Q a→b a)→wpQuiet P ops C Q l a→wpQuiet P ops C b l a
 | [],a,h,hh=>h a hh
 | o :: l,a,h,hh=>by
  unfold wpQuiet at hh ⊢
  split
  ·rename_i hw
   rw [if_pos hw] at hh
   exact Oper.quiet_mono (fun d c=>H6 l d h c) hh
  ·rename_i hw
   rw [if_neg hw] at hh
   exact H6 l _ h hh
theorem I1 {Q:Exit→Act→World→Prop}:∀ (l:List Nat) (a:Act) (w:World),(∀ i∈l,i < ops.size)→C w→wpQuiet P ops C (fun q=>∀ w',C w'→Q .normal q w') (l.map (ops.getD · default)) a→wpOps P ops Q l a w
 | [],a,w,_,hw,h=>h w hw
 | i :: l,a,w,hi,hw,h=>by
  have d:=hi i (by simp)
  have ho:ops[i]?=some (ops.getD i default):=by rw [Array.getD_eq_getD_getElem?,Array.getElem?_eq_getElem d]; rfl
  rw [List.map_cons] at h
  generalize ops.getD i default=o at h ho
  unfold wpQuiet at h
  by_cases hwt:Region.wanted o (yielded ops a.tmps)=true
  ·rw [if_pos hwt] at h
   obtain ⟨v,p,h2⟩:=h
   refine FZ ho hwt ?_
   have c:=p w hw
   unfold Oper.quietAt at c
   unfold Oper.wp
   generalize (execOp a.eval o).run P w=r at *
   cases r with
   | ok x w'=>
    cases x with
    | value u=>obtain ⟨rfl,rfl⟩:=c; exact I1 l _ _ (fun j b=>hi j (by simp [b])) hw h2
    | skip=>obtain ⟨rfl,rfl⟩:=c; exact I1 l _ _ (fun j b=>hi j (by simp [b])) hw h2
    | enter f args=>
     obtain ⟨rfl,n⟩:=c
     refine n.mono fun e g k=>?_
     obtain ⟨rfl,m⟩:=k
     exact I1 l _ _ (fun j b=>hi j (by simp [b])) m h2
    | _=>exact c.elim
   | _=>exact c.elim
  ·rw [if_neg hwt] at h
   exact RE ho (by simpa using hwt) (I1 l _ _ (fun j b=>hi j (by simp [b])) hw h)
theorem jl (ops:Array Oper):(List.range ops.size).map (ops.getD · default)=ops.toList:=by
 refine List.ext_getElem? fun i=>?_
 rw [List.getElem?_map,I0]
 by_cases h:i < ops.size
 ·simp [h,Array.getD_eq_getD_getElem?]
 ·simp [h]
variable {f:FuncId} {R:Ending→World→Prop}
theorem dz {w w':World} {e:Az} (h:e.good w) (hb:Below w.heap.size w w'):e.good w':=by
 have a:=hb.block e.id h.1
 refine ⟨Nat.lt_of_lt_of_le h.1 hb.size,?_⟩
 have h2:=h.2
 split at h2
 ·rename_i ho; rw [if_pos ho,a]; exact h2
 ·rename_i ho
  rw [if_neg ho]
  intro j v hv
  rw [World.cell?_of_block (w:=w) a]
  exact h2 j v hv
theorem Ra {G E:Nat→Value} {cx:List (Tmp×Cx)} (hr:MK G cx E):∀ (l:List (Nat×Value)),l.map (fun p=>(G p.1,Gx cx p.1))=l.map (fun p=>(p.2,[]))→l.map (fun p=>E p.1)=l.map (·.2)
 | [],_=>rfl
 | p :: l,h=>by
  simp only [List.map_cons,List.cons.injEq,Prod.mk.injEq] at h ⊢
  refine ⟨?_,Ra hr l h.2⟩
  rw [(hr p.1).1 (by rw [h.1.2]; exact fun q a=>(by cases a))]
  exact h.1.1
def FD:List Item→Option (Array Oper)
 | .code (.region _ ops _) :: _=>some ops
 | _=>none
theorem lU {E:Nat→Value} {w:World} {todo:List Item} (ops:Array Oper) (I:Ij) (l:List (Nat×Value)) (ht:FD todo=some ops) (v:Region.lexB .any ops=true) (hm:P.follows .mixedOrders=true)
  (u:∀ e∈I.mem,e.good w) (t:∀ sp∈I.specs,Eg P n (Below w.heap.size w) ops sp)
  (q:∀ X,(F7 P n ops I X (List.range ops.size) ⟨E,[]⟩).map Prod.fst=(F7 P n ops I X (List.range ops.size) ⟨E,[]⟩).map Prod.snd)
  (hl:(KY P n ops I (List.range ops.size) ⟨E,[]⟩).map (fun s=>l.map (fun p=>(s.G p.1,Gx s.cx p.1)))=some (l.map (fun p=>(p.2,[]))))
  (j:List Nat) (b:KZ P n ops I (List.range ops.size) ⟨E,[]⟩=j) (hz:∀ z∈j,(z:Int)≤IntKind.i64.max)
  (r:∀ w' o,Below w.heap.size w w'→At P f R (AL todo) (Fr n (BC o l)) w'):At P f R todo (Fr n E) w:=by
 cases hrun:KY P n ops I (List.range ops.size) ⟨E,[]⟩ with
 | none=>rw [hrun] at hl; cases hl
 | some s'=>
  rw [hrun] at hl
  have c:=Option.some.inj hl
  have m:wpQuiet P ops (Below w.heap.size w) (fun d=>∀ w',Below w.heap.size w w'→HM P f R (AL todo) d w') ((List.range ops.size).map (ops.getD · default)) (Fr n E):=by
   refine OR (C:=Below w.heap.size w) (fun w' a e he=>dz (u e he) a) t _ _ _ E (.start E) hrun (fun X=>Wo (q X)) (by rw [b]; exact hz) fun o hr w' a=>?_
   exact (Oa l (Ra hr l c) fun g=>r w' g a).mid
  unfold FD at ht
  split at ht
  ·rename_i id ops' dr k
   obtain rfl:=Option.some.inj ht
   cases dr with
   | true=>
    refine jz (wp_region_quiet (C:=Below w.heap.size w) hm v (Below.refl _ _).drew ?_)
    rw [← jl]
    exact H6 _ _ (fun d h w' a=>⟨rfl,h w' a⟩) m
   | false=>
    refine DW (todo':=.inRegion ops' (List.range ops'.size) :: k) (by simp) (fun _=>step_region) ?_
    refine I1 (C:=Below w.heap.size w) _ _ _ (fun i hi=>by simpa using hi) (Below.refl _ _) ?_
    exact H6 _ _ (fun d h w' a=>⟨rfl,h w' a⟩) m
  ·cases ht
theorem Hv {E:Nat→Value} {w:World} {todo:List Item} (ops:Array Oper) (I:Ij) (l:List (Nat×Value)) (ht:FD todo=some ops) (h:Region.lexB .any ops=true) (hm:P.follows .mixedOrders=true)
  (g:∀ e∈I.mem,e.good w) (d:∀ sp∈I.specs,Eg P n (Below w.heap.size w) ops sp)
  (b:∀ X,(F7 P n ops I X (List.range ops.size) ⟨E,[]⟩).map Prod.fst=(F7 P n ops I X (List.range ops.size) ⟨E,[]⟩).map Prod.snd)
  (hl:(KY P n ops I (List.range ops.size) ⟨E,[]⟩).map (fun s=>l.map (fun p=>(s.G p.1,Gx s.cx p.1)))=some (l.map (fun p=>(p.2,[]))))
  (c:∀ w' E',Below w.heap.size w w'→At P f R (AL todo) (Fr n (BC E' l)) w') (a:KZ P n ops I (List.range ops.size) ⟨E,[]⟩=[]:=by kernel_rfl):At P f R todo (Fr n E) w:=
 lU ops I l ht h hm g d b hl [] a (fun z hz=>(by cases hz)) c
def WS:Oper→Option (FuncId×List Operand)
 | ⟨_,.call ⟨.value (.func g),xs,_⟩,_,_,_,_⟩=>some (g,xs.toList)
 | _=>none
theorem kH {o:Oper} {g:FuncId} {xs:List Operand} {args:List Value} {E:Nat→Value} {w:World} (ho:WS o=some (g,xs)) (hg:DG P g=true) (ha:xs.map (Ax n E)=args):(execOp (Ax n E) o).run P w=.ok (.enter g args.toArray) w:=by
 unfold WS at ho
 split at ho
 ·rename_i d g' xs' ats ty pos af gd
  simp only [Option.some.injEq,Prod.mk.injEq] at ho
  obtain ⟨rfl,rfl⟩:=ho
  rw [← CG (h:=hg) args.toArray w,← ha]
  unfold execOp resolve
  have a:xs'.toList.map (Ax n E)=(xs'.map (Ax n E)).toList:=by simp
  simp only [a,Array.toArray_toList]
  show ((Deferred.ofValue (.func (.func g') #[] #[]) (xs'.map (Ax n E))).bind fun d=>invoke d.target d.args).run P w=_
  unfold Deferred.ofValue
  simp [invoke,pure,Sem.bind]
 ·cases ho
theorem AV {a:Sp} (g:FuncId) (xs:List Operand) (args:List Value) (ha:∀ E,xs.map (RS a.l (Ax n E))=args) (h:a.cond=true→∀ w,C w→Calls P g args.toArray w fun e w'=>e=.returned a.v∧C w') (ho:WS (ops.getD a.i default)=some (g,xs):=by kernel_rfl) (hg:DG P g=true:=by kernel_rfl):Eg P n C ops a:=by
 intro hc E c w b
 have e:xs.map (Ax n E)=args:=by
  have:=ha E
  rw [Vc c] at this
  exact this
 rw [kH (w:=w) ho hg e]
 exact ⟨rfl,h hc w b⟩
theorem BG {a:Sp} (h:a.cond=true→∀ E w,C w→(execOp (RS a.l (Ax n E)) (ops.getD a.i default)).run P w=.ok (.value a.v) w):Eg P n C ops a:=by
 intro hc E c w b
 have:=h hc E w b
 rw [Vc c] at this
 rw [this]
 exact ⟨rfl,rfl⟩
theorem AN {g:FuncId} {args:Array Value} {v:Value} {w0 w:World} (hb:Below w0.heap.size w0 w) (h:Calls P g args w fun e w'=>e=.returned v∧Below w.heap.size w w'):Calls P g args w fun e w'=>e=.returned v∧Below w0.heap.size w0 w':=
 h.mono fun _ _ ⟨a,h2⟩=>⟨a,hb.trans (h2.mono hb.size)⟩
end
end Go.Proofs.YtkjbdagicjbjjaaGreat
namespace Go.Proofs.YtkjbdagicjbjjaaGreat
section
variable {P:Program} {f:FuncId} {R:Ending→World→Prop}
def so:List (Tmp×Nat)→Tmp→Nat
 | [],_=>0
 | p :: r,t=>match Nat.beq p.1 t with
  | true=>p.2
  | false=>so r t
def So (H:List (Tmp×Nat)) (n:Nat) (E:Nat→Value):Op→Nat×Nat
 | .load _ (.tmp t) | .store _ (.tmp t) _=>match Ax n E (.tmp t) with
  | .pointer (some a)=>(so H t,a.off)
  | _=>(0,0)
 | _=>(0,0)
def sY (P:Program) (H:List (Tmp×Nat)) (n:Nat) (ops:Array Oper) (i:Nat) (s:St) (todo:List Item):Option St:=
 match ops[i]? with
 | none=>none
 | some o=>RU P n ops i { s with hs:=So H n s.env o.op :: s.hs } todo
def sq:Option St→List (Nat×Nat)→Option St
 | some s,h=>some { s with hs:=h }
 | none,_=>none
def PX (P:Program) (H:List (Tmp×Nat)) (n:Nat) (s:St):Option St:=
 match s.todo with
 | .code (.cond c x y) :: k=>match Ax n s.env c with
  | .bool true=>some { s with todo:=.code x :: k }
  | .bool false=>some { s with todo:=.code y :: k }
  | _=>none
 | .code (.loop c) :: k=>some { s with todo:=.code c :: .inLoop c :: k }
 | .inLoop c :: k=>some { s with todo:=.code c :: .inLoop c :: k }
 | .inRegion ops (i :: r) :: k=>sq (sY P H n ops i s (.inRegion ops r :: k)) []
 | _=>NK P n s
def MB (P:Program) (H:List (Tmp×Nat)) (n:Nat):Nat→St→St
 | 0,s=>s
 | m + 1,s=>match PX P H n s with
  | some s'=>MB P H n m s'
  | none=>s
theorem tN {H:List (Tmp×Nat)} {n:Nat} {ops:Array Oper} {i:Nat} {s s':St} {todo:List Item} {h:List (Nat×Nat)} (hs:sq (sY P H n ops i s todo) h=some s'):∀ p∈s.ms.eqs,p∈s'.ms.eqs:=by
 unfold sY at hs
 split at hs
 ·cases hs
 ·rename_i o ho
  cases hq:RU P n ops i { s with hs:=So H n s.env o.op :: s.hs } todo with
  | none=>rw [hq] at hs; cases hs
  | some q=>
   rw [hq] at hs
   obtain rfl:=Option.some.inj hs
   have:=XX hq
   exact this
theorem jb {H:List (Tmp×Nat)} {n:Nat} {s s':St} (h:PX P H n s=some s'):∀ p∈s.ms.eqs,p∈s'.ms.eqs:=by
 unfold PX at h
 split at h
 ·split at h
  ·obtain rfl:=Option.some.inj h; exact fun p a=>a
  ·obtain rfl:=Option.some.inj h; exact fun p a=>a
  ·cases h
 ·obtain rfl:=Option.some.inj h; exact fun p a=>a
 ·obtain rfl:=Option.some.inj h; exact fun p a=>a
 ·exact tN h
 ·exact RK h
theorem Wa {H:List (Tmp×Nat)} {n:Nat}:∀ (m:Nat) (s:St),∀ p∈s.ms.eqs,p∈(MB P H n m s).ms.eqs
 | 0,_,p,hp=>hp
 | m + 1,s,p,hp=>by
  unfold MB
  split
  ·rename_i s' hs; exact Wa m s' p (jb hs p hp)
  ·exact hp
theorem Wh {O:List Nat} {B n:Nat} {H:List (Tmp×Nat)} {s s':St} {w:World}
  (h:PX P H n s=some s') (b:EB O B w s.ms) (he:∀ p∈s'.ms.eqs,p.1=p.2)
  (a:∀ w',EB O B w' s'.ms→Eh O B w w'→At P f R s'.todo (Fr n s'.env) w'):At P f R s.todo (Fr n s.env) w:=by
 unfold PX at h
 split at h
 ·rename_i c x y k hc
  split at h
  ·rename_i hv
   obtain rfl:=Option.some.inj h
   rw [hc]
   exact DW (by simp) (fun _=>step_cond (t:=true) (by rw [Db]; exact hv)) (a w b (.refl _ _ _))
  ·rename_i hv
   obtain rfl:=Option.some.inj h
   rw [hc]
   exact DW (by simp) (fun _=>step_cond (t:=false) (by rw [Db]; exact hv)) (a w b (.refl _ _ _))
  ·cases h
 ·rename_i hc; obtain rfl:=Option.some.inj h; rw [hc]; exact DW (by simp) (fun _=>step_loop) (a w b (.refl _ _ _))
 ·rename_i hc; obtain rfl:=Option.some.inj h; rw [hc]; exact DW (by simp) (fun _=>step_inLoop) (a w b (.refl _ _ _))
 ·rename_i ops i r k hc
  rw [hc]
  unfold sY at h
  split at h
  ·cases h
  ·rename_i o ho
   cases hq:RU P n ops i { s with hs:=So H n s.env o.op :: s.hs } (.inRegion ops r :: k) with
   | none=>rw [hq] at h; cases h
   | some q=>
    rw [hq] at h
    obtain rfl:=Option.some.inj h
    exact RT (s:={ s with hs:=So H n s.env o.op :: s.hs }) (s':=q) hq b he a
 ·exact Ng h b he a
theorem QO {O:List Nat} {B n:Nat} {H:List (Tmp×Nat)}:∀ (m:Nat) (s:St) (w:World),EB O B w s.ms→(∀ p∈(MB P H n m s).ms.eqs,p.1=p.2)→
  (∀ w',EB O B w' (MB P H n m s).ms→Eh O B w w'→At P f R (MB P H n m s).todo (Fr n (MB P H n m s).env) w')→At P f R s.todo (Fr n s.env) w
 | 0,s,w,hL,_,hk=>hk w hL (.refl _ _ _)
 | m + 1,s,w,hL,he,hk=>by
  unfold MB at he hk
  split at he
  ·rename_i s' hs
   simp only [hs] at hk
   refine Wh hs hL (fun p e=>he p (Wa m s' p e)) fun w' c g=>?_
   exact QO m s' w' c he fun b a d=>hk b a (g.trans d)
  ·rename_i hs
   simp only [hs] at hk
   exact hk w hL (.refl _ _ _)
end
end Go.Proofs.YtkjbdagicjbjjaaGreat
namespace Go.Proofs.YtkjbdagicjbjjaaGreat
section
variable (P:Program)
noncomputable def P1 (t:TypeId):Option Bool:=match P.underlying t with
 | some (.struct _) | some (.array _ _)=>some true
 | some _=>some false
 | none=>none
noncomputable def JO (t:TypeId):Option Nat:=(P.info? t).map (·.size)
end
section
variable {P:Program}
theorem Gs {t:TypeId} {n:Nat} (h:JO P t=some n) (w:World):(sizeOf t).run P w=.ok n w:=by
 unfold JO at h
 rw [Option.map_eq_some_iff] at h
 obtain ⟨i,a,h2⟩:=h
 simp [sizeOf,typeInfo,a,h2]
theorem RL {t:TypeId} {b:Bool} (h:P1 P t=some b) (w:World):(isAgg t).run P w=.ok b w:=by
 unfold P1 at h
 split at h
 ·rename_i fs hu; obtain rfl:=Option.some.inj h; simp [isAgg,run_underlying hu]
 ·rename_i n e hu; obtain rfl:=Option.some.inj h; simp [isAgg,run_underlying hu]
 ·rename_i d h1 h2 hu
  obtain rfl:=Option.some.inj h
  cases d <;> first | (exact (h1 _ rfl).elim) | (exact (h2 _ _ rfl).elim) | simp [isAgg,run_underlying hu]
 ·cases h
end
theorem nu (a:Addr) (n:Nat) (hs:a.spot=none):a.add n=⟨a.block,a.off + n,none⟩:=by
 unfold Addr.add
 split
 ·rename_i e; subst e; cases a; simp_all
 ·simp
end Go.Proofs.YtkjbdagicjbjjaaGreat

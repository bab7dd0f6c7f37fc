/-
  Part 2 of a proof: contracts of functions.
-/
import Derived.KernelRfl
import Derived.Test.YtmcpjkcggfmcmaaGreatDoorL01
set_option linter.all false
namespace Go.Proofs.YtmcpjkcggfmcmaaGreatDoor
section
variable {P:Program} {f:FuncId} {R:Ending→World→Prop}
theorem RQ {O:List Nat} {B n:Nat} (m:Nat) (s:St) {w:World} (hL:C8 O B w s.ms) (he:(Ft P n m s).ms.eqs.map Prod.fst=(Ft P n m s).ms.eqs.map Prod.snd)
  (hk:∀ w',C8 O B w' (Ft P n m s).ms→Dh O B w w'→At P f R (Ft P n m s).todo (Fr n (Ft P n m s).env) w'):At P f R s.todo (Fr n s.env) w:=by
 refine M9 m s w hL (fun p hp=>?_) hk
 obtain ⟨i,hi⟩:=List.mem_iff_getElem?.1 hp
 have h1:((Ft P n m s).ms.eqs.map Prod.fst)[i]?=some p.1:=by rw [List.getElem?_map,hi]; rfl
 have h2:((Ft P n m s).ms.eqs.map Prod.snd)[i]?=some p.2:=by rw [List.getElem?_map,hi]; rfl
 rw [he,h2] at h1
 exact (Option.some.inj h1).symm
def CX (E:Nat→Value):List (Nat×Value)→Nat→Value
 | []=>E
 | p :: l=>HV (CX E l) p.1 p.2
theorem Jq {E:Nat→Value}:∀ {l:List (Nat×Value)},l.map (fun p=>E p.1)=l.map (·.2)→CX E l=E
 | [],_=>rfl
 | p :: l,h=>by
  rw [List.map_cons,List.map_cons,List.cons.injEq] at h
  unfold CX
  rw [Jq h.2]
  funext t
  unfold HV
  split
  ·rename_i ht; rw [ht]; exact h.1.symm
  ·rfl
theorem FF {n:Nat} {todo:List Item} {E:Nat→Value} {w:World} (l:List (Nat×Value)) (h:l.map (fun p=>E p.1)=l.map (·.2)) (hk:∀ E',At P f R todo (Fr n (CX E' l)) w):At P f R todo (Fr n E) w:=by
 have:=hk E
 rw [Jq h] at this
 exact this
theorem Kh {n:Nat} {todo todo':List Item} {E:Nat→Value} {w:World} (h:todo=todo') (hk:At P f R todo' (Fr n E) w):At P f R todo (Fr n E) w:=h ▸ hk
def AF:List Item→List Item
 | .inRegion ops (_ :: r) :: k=>.inRegion ops r :: k
 | t=>t
def Hp (n:Nat) (E:Nat→Value):List Item→Option (FuncId×List Operand×Option Tmp)
 | .inRegion ops (i :: _) :: _=>match ops[i]? with
  | some o=>match Region.wanted o (Fx n ops E) with
   | true=>match o.op with
    | .call ⟨.value (.func g),xs,_⟩=>some (g,xs.toList,o.dst)
    | _=>none
   | false=>none
  | none=>none
 | _=>none
def DO (P:Program) (g:FuncId):Bool:=match P.funcs[g]? with
 | some fn=>fn.body.isSome && !(fn.name == "runtime.NumGoroutine")
 | none=>false
theorem Ci {g:FuncId} (args:Array Value) (w:World) (h:DO P g=true:=by kernel_rfl):(callFunc g args).run P w=.ok (.enter g args) w:=by
 unfold DO at h
 split at h
 ·rename_i fn hf
  rw [Bool.and_eq_true] at h
  obtain ⟨h1,h2⟩:=h
  have h3:(fn.name == "runtime.NumGoroutine")=false:=by simpa using h2
  have h4:fn.body.isNone=false:=by cases hb:fn.body <;> simp [hb] at h1 ⊢
  obtain ⟨X,e⟩:∃ X:Sem Next,(callFunc g args).run P w=(if fn.name == "runtime.NumGoroutine" then (pure .numGoroutine:Sem Next) else if fn.body.isNone then X else pure (.enter g args)).run P w:=by
   apply Exists.intro
   unfold callFunc
   rw [Sem.run_bind]
   simp only [program,Sem.run,Result.andThen_ok,hf]
   rfl
  rw [e,h3,h4]
  rfl
 ·cases h
theorem I0 {n:Nat} {todo:List Item} {E:Nat→Value} {w:World} (g:FuncId) (xs:List Operand) (dst:Option Tmp) (args:List Value) (hc:Hp n E todo=some (g,xs,dst)) (ha:xs.map (BJ n E)=args) (hg:DO P g=true)
  (h:Calls P g args.toArray w fun e w'=>∃ v,e=.returned v∧At P f R (AF todo) (Fr n (BO E dst v)) w'):At P f R todo (Fr n E) w:=by
 unfold Hp at hc
 split at hc
 ·rename_i ops i r k
  split at hc
  ·rename_i o ho
   split at hc
   ·rename_i hw
    split at hc
    ·rename_i g' xs' ats hop
     simp only [Option.some.injEq,Prod.mk.injEq] at hc
     obtain ⟨rfl,rfl,rfl⟩:=hc
     refine EE ho (by rw [Dv]; exact hw) ?_
     unfold Oper.wp
     rw [DU]
     have e:(execOp (BJ n E) o).run P w=.ok (.enter g' args.toArray) w:=by
      rw [← Ci (h:=hg) args.toArray w,← ha]
      obtain ⟨d,op,ty,pos,af,gd⟩:=o
      simp only at hop
      subst hop
      unfold execOp resolve
      have hxs:xs'.toList.map (BJ n E)=(xs'.map (BJ n E)).toList:=by simp
      simp only [hxs,Array.toArray_toList]
      show ((Deferred.ofValue (.func (.func g') #[] #[]) (xs'.map (BJ n E))).bind fun d=>invoke d.target d.args).run P w=_
      unfold Deferred.ofValue
      simp [invoke,pure,Sem.bind]
     rw [e]
     refine h.mono fun en w' hh=>?_
     obtain ⟨v,rfl,hat⟩:=hh
     show wpOps P ops _ r ((Fr n E).put o.dst v) w'
     rw [Dp]
     exact hat
    ·cases hc
   ·cases hc
  ·cases hc
 ·cases hc
def NW:List Item→Option Operand
 | .code (.cond c _ _) :: _=>some c
 | _=>none
def AG:List Item→List Item
 | .code (.cond _ x _) :: k=>.code x :: k
 | t=>t
def AL:List Item→List Item
 | .code (.cond _ _ y) :: k=>.code y :: k
 | t=>t
theorem DB {n:Nat} {todo:List Item} {E:Nat→Value} {w:World} (t:Bool) (h1:t=true→At P f R (AG todo) (Fr n E) w) (h2:t=false→At P f R (AL todo) (Fr n E) w) (hc:(NW todo).map (BJ n E)=some (.bool t):=by kernel_rfl):At P f R todo (Fr n E) w:=by
 unfold NW at hc
 split at hc
 ·rename_i c x y k
  have hv:(Fr n E).eval c=.bool t:=by rw [DU]; simpa using hc
  cases t with
  | true=>exact DD (by simp) (fun _=>step_cond hv) (h1 rfl)
  | false=>exact DD (by simp) (fun _=>step_cond hv) (h2 rfl)
 ·cases hc
def It:List Item→Bool
 | .code (.loop _) :: _=>true
 | _=>false
def A4:List Item→List Item
 | .code (.loop c) :: k=>.code c :: .inLoop c :: k
 | t=>t
def Ai:List Item→List Item
 | .code (.loop c) :: k=>.inLoop c :: k
 | t=>t
theorem Bj {n:Nat} {todo:List Item} {E:Nat→Value} {w:World} (hl:It todo=true) (I:(Nat→Value)→World→Prop) (μ:(Nat→Value)→World→Nat) (h0:I E w)
  (round:∀ E w,I E w→(∀ E' w',I E' w'→μ E' w' < μ E w→At P f R (Ai todo) (Fr n E') w')→At P f R (A4 todo) (Fr n E) w):At P f R todo (Fr n E) w:=by
 unfold It at hl
 split at hl
 ·rename_i c k
  have key:∀ (m:Nat) (E:Nat→Value) (w:World),μ E w=m→I E w→At P f R (.code c :: .inLoop c :: k) (Fr n E) w:=by
   intro m
   induction m using Nat.strongRecOn with
   | _ m ih=>
    intro E w hm hI
    refine round E w hI fun E' w' hI' hlt=>?_
    exact DD (by simp [Ai]) (fun _=>step_inLoop) (ih _ (hm ▸ hlt) E' w' rfl hI')
  exact DD (by simp) (fun _=>step_loop) (key _ E w rfl h0)
 ·cases hl
def DH {α:Type} (P:Program):Sem α→MS→Option (α×MS)
 | .pure a,s=>some (a,s)
 | .load _ a k,s=>match s.mem[s.hint.1]? with
  | some e=>match e.cells[s.hint.2]?,a.spot with
   | some v,none=>DH P (k v) { s with hint:=(s.hint.1,s.hint.2 + 1),eqs:=(a.block,e.id) :: (a.off,e.off + s.hint.2) :: s.eqs }
   | _,_=>none
  | none=>none
 | .program k,s=>DH P (k P) s
 | .mark _ k,s=>DH P k s
 | _,_=>none
theorem aZ {α:Type}:∀ (s:Sem α) (m m':MS) (a:α),DH P s m=some (a,m')→∀ p∈m.eqs,p∈m'.eqs:=by
 intro s
 induction s with
 | pure a=>intro m m' x h p hp; simp only [DH,Option.some.injEq,Prod.mk.injEq] at h; rw [← h.2]; exact hp
 | load md a k ih=>
  intro m m' x h p hp
  unfold DH at h
  split at h
  ·split at h
   ·exact ih _ _ _ _ h p (by simp [hp])
   ·cases h
  ·cases h
 | program k ih=>intro m m' x h p hp; unfold DH at h; exact ih _ _ _ _ h p hp
 | mark mk k ih=>intro m m' x h p hp; unfold DH at h; exact ih _ _ _ h p hp
 | _=>intro m m' x h; unfold DH at h; cases h
theorem GX {α:Type} {w:World}:∀ (s:Sem α) (m m':MS) (a:α),DH P s m=some (a,m')→(∀ e∈m.mem,e.good w)→(∀ p∈m'.eqs,p.1=p.2)→s.run P w=.ok a w:=by
 intro s
 induction s with
 | pure a=>intro m m' x h hS he; simp only [DH,Option.some.injEq,Prod.mk.injEq] at h; rw [← h.1]; rfl
 | load md a k ih=>
  intro m m' x h hS he
  unfold DH at h
  split at h
  ·rename_i e hm
   split at h
   ·rename_i v hv hsp
    have hq:=aZ _ _ _ _ h
    have e1:=he _ (hq (a.block,e.id) (by simp))
    have e2:=he _ (hq (a.off,e.off + m.hint.2) (by simp))
    unfold Sem.run
    rw [EX (hS e (List.mem_of_getElem? hm)) hv e1 e2 hsp]
    exact ih v _ _ _ h hS he
   ·cases h
  ·cases h
 | program k ih=>intro m m' x h hS he; unfold DH at h; exact ih _ _ _ _ h hS he
 | mark mk k ih=>intro m m' x h hS he; unfold DH at h; exact ih _ _ _ h hS he
 | _=>intro m m' x h; unfold DH at h; cases h
def ET (fn:Func) (n:Nat) (E:Nat→Value):Sem Value:=do
 let vs ← fn.results.mapM fun
  | .tmp t=>pure (BJ n E (.tmp t))
  | .cell a t=>do loadVar t (← asAddr (BJ n E (.tmp a)))
 pure (if h:vs.size=1 then vs[0] else .tuple vs)
theorem VO (fn:Func) (n:Nat) (E:Nat→Value):results fn (Fr n E).tmps=ET fn n E:=by
 unfold results ET
 have:∀ t,(Fr n E).tmps.getD t undef=BJ n E (.tmp t):=fun t=>congrFun (DU n E) (.tmp t)
 simp only [this]
 rfl
def Mh:List Item→Bool
 | .code .ret :: _ | []=>true
 | _=>false
theorem RP {n:Nat} {todo:List Item} {E:Nat→Value} {w:World} {fn:Func} (hr:Mh todo=true) (hf:P.funcs[f]?=some fn) (m:MS) (hg:∀ e∈m.mem,e.good w) (v:Value) (hv:(DH P (ET fn n E) m).map (·.1)=some v)
  (he:((DH P (ET fn n E) m).map (·.2.eqs.map Prod.fst))=((DH P (ET fn n E) m).map (·.2.eqs.map Prod.snd))) (hR:R (.returned v) w):At P f R todo (Fr n E) w:=by
 cases hl:DH P (ET fn n E) m with
 | none=>rw [hl] at hv; cases hv
 | some p=>
  obtain ⟨v',m'⟩:=p
  rw [hl] at hv he
  obtain rfl:v'=v:=Option.some.inj hv
  have he':m'.eqs.map Prod.fst=m'.eqs.map Prod.snd:=Option.some.inj he
  have hrun:(results fn (Fr n E).tmps).run P w=.ok v' w:=by
   rw [VO]
   refine GX _ _ _ _ hl hg fun p hp=>?_
   obtain ⟨i,hi⟩:=List.mem_iff_getElem?.1 hp
   have h1:(m'.eqs.map Prod.fst)[i]?=some p.1:=by rw [List.getElem?_map,hi]; rfl
   have h2:(m'.eqs.map Prod.snd)[i]?=some p.2:=by rw [List.getElem?_map,hi]; rfl
   rw [he',h2] at h1
   exact (Option.some.inj h1).symm
  unfold Mh at hr
  split at hr
  ·intro cs
   exact ⟨.returned v',w,_,hR,.one step_ret,rfl,rfl,rfl,rfl,fn,hf,hrun⟩
  ·intro cs
   exact ⟨.returned v',w,_,hR,.one step_end,rfl,rfl,rfl,rfl,fn,hf,hrun⟩
  ·cases hr
def Gn:List Item→Option (Array Oper)
 | .code (.region _ ops true) :: _=>some ops
 | _=>none
def AO:List Item→List Item
 | _ :: k=>k
 | []=>[]
theorem DY {n:Nat} {todo:List Item} {E:Nat→Value} {w:World} (ops:Array Oper) (m:Nat) (h:wpAny P .any ops (fun e a w=>e=.normal∧HJ P f R (AO todo) a w) m (Array.replicate m false) (Fr n E) w.drew) (hd:Gn todo=some ops:=by kernel_rfl) (hm:P.follows .mixedOrders=true:=by kernel_rfl) (hs:ops.size=m:=by kernel_rfl):At P f R todo (Fr n E) w:=by
 unfold Gn at hd
 split at hd
 ·rename_i id ops' k
  obtain rfl:=Option.some.inj hd
  subst hs
  exact XN (wp_region_any hm h)
 ·cases hd
def ar (ops:Array Oper) (vals:Nat→Value) (A:List Nat) (E:Nat→Value):Nat→Value:=A.foldl (fun E i=>BO E (Dz ops i) (vals i)) E
theorem XZ (ops:Array Oper) (vals:Nat→Value) (n:Nat):∀ (A:List Nat) (E:Nat→Value),Ix ops vals A (Fr n E)=Fr n (ar ops vals A E)
 | [],_=>rfl
 | i :: A,E=>by
  have:=XZ ops vals n A (BO E (Dz ops i) (vals i))
  rw [← Dp] at this
  exact this
end
end Go.Proofs.YtmcpjkcggfmcmaaGreatDoor
namespace Go.Proofs.YtmcpjkcggfmcmaaGreatDoor
section
variable {P:Program} {ops:Array Oper} {Q:Exit→Act→World→Prop} {md:Region.Mode} {W:Wr} {listed0:Array Bool} {n:Nat} {E:Nat→Value} {C:World→Prop} {Ext:World→World→Prop} {L:List C3} {w0:World}
def FL (n:Nat) (E:Nat→Value) (W:Wr) (vals:Nat→Value):Operand→Value
 | .tmp t=>match W.of t with
  | some j=>vals j
  | none=>BJ n E (.tmp t)
 | x=>BJ n E x
theorem aw (vals:Nat→Value):Hh (Fr n E) W vals=FL n E W vals:=by
 funext x
 unfold Hh FL
 rw [DU]
 cases x <;> rfl
def mz (P:Program) (ops:Array Oper) (n:Nat) (E:Nat→Value) (W:Wr) (C:World→Prop) (Ext:World→World→Prop) (L:List C3) (l:C3):Prop:=
 (∀ vs w w',C w→Ext w w'→l.says vs w→l.says vs w')∧
  ∀ (vals:Nat→Value) (w:World),C w→GY l.before vals w L→AN P (ops.getD l.idx default) (FL n E W vals) w (fun v w'=>C w'∧Ext w w'∧l.says (l.deps.map (FW vals l.idx v)) w')
def I2 (P:Program) (ops:Array Oper) (n:Nat) (E:Nat→Value) (W:Wr) (C:World→Prop) (Ext:World→World→Prop) (L:List C3):List C3→Prop
 | []=>True
 | l :: r=>mz P ops n E W C Ext L l∧I2 P ops n E W C Ext L r
theorem I2.parts:∀ {r:List C3},I2 P ops n E W C Ext L r→Kk P ops (Fr n E) W C Ext L r
 | [],_=>trivial
 | l :: r,h=>by
  refine ⟨⟨h.1.1,fun vals w hC hb=>?_⟩,I2.parts h.2⟩
  rw [aw]
  exact h.1.2 vals w hC hb
theorem Ce (hC:C w0) (hrf:∀ w:World,Ext w w) (htr:∀ a b c:World,Ext a b→Ext b c→Ext a c) (hp:I2 P ops n E W C Ext L L) {fuel k:Nat} (hk:k=L.length + fuel) (H:∀ vals w,C w→Ext w0 w→Hl vals w L→wpAny P md ops Q fuel ((L.map (·.idx)).foldl (fun b i=>b.setIfInBounds i true) listed0) (Fr n (ar ops vals (L.map (·.idx)) E)) w) (hok:(He md ops W listed0 n L && bare ops L)=true:=by kernel_rfl) :
  wpAny P md ops Q k listed0 (Fr n E) w0:=by
 subst hk
 refine Ym (by rw [Sc]; exact hok) hC hrf htr hp.parts fun vals w h1 h2 h3=>?_
 rw [XZ]
 exact H vals w h1 h2 h3
theorem LE {vals:Nat→Value}:∀ {l:List (Tmp×Nat×Value)},(∀ p∈l,W.of p.1=some p.2.1)→KV vals l→Gd (FL n E W vals) (l.map (fun p=>(p.1,p.2.2)))
 | [],_,_=>trivial
 | p :: l,hw,hv=>by
  refine ⟨?_,LE (fun q hq=>hw q (by simp [hq])) hv.2⟩
  have:=hw p (by simp)
  unfold FL
  simp only [this]
  exact hv.1
theorem AN.knownE {o:Oper} {vals:Nat→Value} {w:World} {K:Value→World→Prop} (l:List (Tmp×Nat×Value)) (hv:KV vals l) (hk:AN P o (R9 (l.map (fun p=>(p.1,p.2.2))) (FL n E W vals)) w K) (hc:(l.all (fun p=>W.of p.1 == some p.2.1))=true:=by kernel_rfl):AN P o (FL n E W vals) w K:=by
 simp only [List.all_eq_true,beq_iff_eq] at hc
 exact AN.over _ (LE hc hv) hk
theorem AN.reads {o:Oper} {ρ:Operand→Value} {w:World} {K:Value→World→Prop} (m:MS) (hg:∀ e∈m.mem,e.good w) (v:Value) (hk:K v w) (hv:(DH P (execOp ρ o) m).map (·.1)=some (.value v):=by kernel_rfl) (he:((DH P (execOp ρ o) m).map (·.2.eqs.map Prod.fst))=((DH P (execOp ρ o) m).map (·.2.eqs.map Prod.snd)):=by kernel_rfl):AN P o ρ w K:=by
 cases hl:DH P (execOp ρ o) m with
 | none=>rw [hl] at hv; cases hv
 | some p=>
  obtain ⟨v',m'⟩:=p
  rw [hl] at hv he
  have hv':v'=.value v:=Option.some.inj hv
  have he':m'.eqs.map Prod.fst=m'.eqs.map Prod.snd:=Option.some.inj he
  subst hv'
  refine AN.value (v:=v) (w':=w) (GX _ _ _ _ hl hg fun p hp=>?_) hk
  obtain ⟨i,hi⟩:=List.mem_iff_getElem?.1 hp
  have h1:(m'.eqs.map Prod.fst)[i]?=some p.1:=by rw [List.getElem?_map,hi]; rfl
  have h2:(m'.eqs.map Prod.snd)[i]?=some p.2:=by rw [List.getElem?_map,hi]; rfl
  rw [he',h2] at h1
  exact (Option.some.inj h1).symm
theorem Qh {O:List Nat} {B:Nat} {w:World} {s:MS} (h:C8 O B w s) (z:Nat) (m:List BM) (hz:s.sz=z) (hm:s.mem=m):C8 O B w ⟨z,m,(0,0),[]⟩:=by
 subst hz hm
 exact ⟨h.sat,h.le,h.own⟩
theorem N0 {O:List Nat} {B:Nat} {w w':World} {z:Nat} {m:List BM} {x:Nat×Nat} {q:List (Nat×Nat)} (h:C8 O B w ⟨z,m,x,q⟩) (hs:w.heap.size≤w'.heap.size) (hb:∀ e∈m,w'.heap[e.id]?=w.heap[e.id]?):C8 O B w' ⟨w'.heap.size,m,(0,0),[]⟩:=by
 refine ⟨⟨rfl,fun e he=>?_,h.sat.apart⟩,Nat.le_trans h.le hs,h.own⟩
 have hg:=h.sat.good e he
 refine ⟨Nat.lt_of_lt_of_le hg.1 hs,?_⟩
 have h2:=hg.2
 split at h2
 ·rename_i ho; rw [if_pos ho,hb e he]; exact h2
 ·rename_i ho
  rw [if_neg ho]
  intro j v hv
  rw [World.cell?_of_block (w:=w) (hb e he)]
  exact h2 j v hv
def KU:List Item→Option (List Item)
 | .code .skip :: k=>some k
 | .code (.label _) :: k=>some k
 | .inBlock _ :: k=>some k
 | .code (.seq x y) :: k=>some (.code x :: .code y :: k)
 | .code (.block id c) :: k=>some (.code c :: .inBlock id :: k)
 | .code (.exit id) :: k=>exitTo id k
 | .code (.region _ ops false) :: k=>some (.inRegion ops (List.range ops.size) :: k)
 | .inRegion _ [] :: k=>some k
 | .inRegion ops (i :: r) :: k=>match ops[i]? with
  | some o=>match eR o.op with
   | true=>none
   | false=>some (.inRegion ops r :: k)
  | none=>none
 | _=>none
def AB:Nat→List Item→List Item
 | 0,t=>t
 | m + 1,t=>match KU t with
  | some t'=>AB m t'
  | none=>t
theorem Bi {f:FuncId} {R:Ending→World→Prop} {w:World} (m:Nat) (todo:List Item) (z:Nat) (mem:List BM) (hints:List (Nat×Nat)) (todo':List Item) (l:List (Nat×Value)) (z':Nat) (mem':List BM) (hL:C8 (mem.map (·.id)) w.heap.size w ⟨z,mem,(0,0),[]⟩) (hk:∀ w' E',C8 (mem.map (·.id)) w.heap.size w' ⟨z',mem',(0,0),[]⟩→Dh (mem.map (·.id)) w.heap.size w w'→At P f R todo' (Fr n (CX E' l)) w') (he:(fun a:St=>(a.todo,a.ms.mem,a.ms.sz,l.map (fun p=>a.env p.1),a.ms.eqs.map Prod.fst)) (Ft P n m ⟨todo,E,⟨z,mem,(0,0),[]⟩,hints⟩)=(todo',mem',z',l.map (·.2),(Ft P n m ⟨todo,E,⟨z,mem,(0,0),[]⟩,hints⟩).ms.eqs.map Prod.snd):=by kernel_rfl):At P f R todo (Fr n E) w:=by
 simp only [Prod.mk.injEq] at he
 obtain ⟨h1,h2,h3,h4,h5⟩:=he
 refine RQ m ⟨todo,E,⟨z,mem,(0,0),[]⟩,hints⟩ hL h5 fun w' hL' hK=>?_
 rw [h1]
 exact FF l h4 fun E'=>hk w' E' (Qh hL' z' mem' h3 h2) hK
theorem ah {O:List Nat} {B:Nat} {w:World} {z:Nat} {mem:List BM} {x:Nat×Nat} {q:List (Nat×Nat)} (h:C8 O B w ⟨z,mem,x,q⟩):C8 (mem.map (·.id)) w.heap.size w ⟨z,mem,(0,0),[]⟩:=
 ⟨h.sat,Nat.le_refl _,fun e he _=>.inl (List.mem_map.2 ⟨e,he,rfl⟩)⟩
theorem Bm (w:World):C8 [] w.heap.size w ⟨w.heap.size,[],(0,0),[]⟩:=
 ⟨⟨rfl,fun e he=>(by cases he),fun i j e e' hi=>(by simp at hi)⟩,Nat.le_refl _,fun e he=>(by cases he)⟩
theorem IQ {w w':World} {base:Nat} {e:TypeId} {size:Nat} {v:Value} {k:Nat} {xs:List Value} (h:w.ownsRow base e size v k xs) (hk:∀ g,v.ownBlock=some g→w'.heap[g]?=w.heap[g]?):w'.ownsRow base e size v k xs:=by
 obtain ⟨h1,h2⟩:=h
 refine ⟨h1,?_⟩
 rcases h2 with h2 | ⟨g,cap,cur,rfl,hg,hb,h3⟩
 ·exact .inl h2
 ·exact .inr ⟨g,cap,cur,rfl,hg,(hk g rfl).trans hb,h3⟩
theorem Ff {f:FuncId} {R:Ending→World→Prop} {fn:Func} {c:Code} {args:List Value} {w:World} (h:At P f R [.code c] (Fr n (fun t=>args.getD t undef)) w) (hf:P.funcs[f]?=some fn:=by kernel_rfl) (hb:fn.body=some c:=by kernel_rfl) (hn:fn.ntmps=n:=by kernel_rfl) (hl:Nat.ble args.length n=true:=by kernel_rfl):Calls P f args.toArray w R:=by
 subst hn
 exact Ye hf hb h.mid (Nat.le_of_ble_eq_true hl)
theorem Sa {O:List Nat} {B:Nat} {listed:Array Bool} {fuel i:Nat} {w:World} (o:Oper) (ms ms':MS) (r:Next) (v:Value) (hr:Region.ready md ops listed=[i]) (ho:ops[i]?=some o) (hg:o.guard=none)
  (hm:CB P (execOp (BJ n E) o) ms=some (r,ms')) (hv:r=.value v∨(r=.skip∧v=undef)) (hL:C8 O B w ms) (he:ms'.eqs.map Prod.fst=ms'.eqs.map Prod.snd)
  (hk:∀ w',C8 O B w' ms'→Dh O B w w'→wpAny P md ops Q fuel (listed.setIfInBounds i true) (Fr n (BO E o.dst v)) w'):wpAny P md ops Q (fuel + 1) listed (Fr n E) w:=by
 refine Kj hr ho hg ?_
 have he':∀ p∈ms'.eqs,p.1=p.2:=fun p hp=>by
  obtain ⟨i,hi⟩:=List.mem_iff_getElem?.1 hp
  have h1:(ms'.eqs.map Prod.fst)[i]?=some p.1:=by rw [List.getElem?_map,hi]; rfl
  have h2:(ms'.eqs.map Prod.snd)[i]?=some p.2:=by rw [List.getElem?_map,hi]; rfl
  rw [he,h2] at h1
  exact (Option.some.inj h1).symm
 obtain ⟨w',h1,h2,h3,h4⟩:=Hd _ _ _ _ w hm hL.sat hL.le hL.own he'
 unfold Oper.wp
 rw [DU,h1]
 have hk':=hk w' ⟨h2,Nat.le_trans hL.le h3.size,h4⟩ h3
 rw [← Dp] at hk'
 rcases hv with rfl | ⟨rfl,rfl⟩
 ·exact hk'
 ·exact hk'
theorem DV {listed:Array Bool} {fuel:Nat} {a:Act} {w:World} (h:Q .normal a w) (hr:Region.ready md ops listed=[]:=by kernel_rfl):wpAny P md ops Q fuel listed a w:=wpAny_done hr h fuel
end
end Go.Proofs.YtmcpjkcggfmcmaaGreatDoor

/- Contracts of functions, part 2. -/
import Derived.KernelRfl
import Derived.Test.YtkjbdagicjbjjaaGreatTs01
import Derived.Test.YtkjbdagicjbjjaaGreatTs00
import Derived.Orders
import Derived.Laws.Cells
import Derived.Test.YtkjbdagicjbjjaaGreatProg
import Derived.WalkKit
import Derived.WalkSpells
import Derived.WalkLawsBesides
import Derived.Outline
import Derived.Lib.Hide
import Derived.Deep.DeepFit
import Derived.Deep.QuietTactic
import Derived.BigQuiet
set_option linter.all false
namespace Go.Proofs.YtkjbdagicjbjjaaGreat
section
variable {P:Program} {ops:Array Oper} {Q:Exit→Act→World→Prop} {md:Region.Mode} {W:Wr} {listed0:Array Bool} {n:Nat} {E:Nat→Value} {C:World→Prop} {Ext:World→World→Prop} {L:List DA} {w0:World}
def DF (n:Nat) (E:Nat→Value) (W:Wr) (vals:Nat→Value):Operand→Value
 | .tmp t=>match W.of t with
  | some j=>vals j
  | none=>A8 n E (.tmp t)
 | x=>A8 n E x
theorem Xd (vals:Nat→Value):Iu (Fr n E) W vals=DF n E W vals:=by
 funext x
 unfold Iu DF
 rw [D7]
 cases x <;> rfl
def AEr (P:Program) (ops:Array Oper) (n:Nat) (E:Nat→Value) (W:Wr) (C:World→Prop) (Ext:World→World→Prop) (L:List DA) (l:DA):Prop:=
 (∀ vs w w',C w→Ext w w'→l.says vs w→l.says vs w')∧
  ∀ (vals:Nat→Value) (w:World),C w→Fn l.before vals w L→AN P (ops.getD l.idx default) (DF n E W vals) w (fun v w'=>C w'∧Ext w w'∧l.says (l.deps.map (Dw vals l.idx v)) w')
def Jg (P:Program) (ops:Array Oper) (n:Nat) (E:Nat→Value) (W:Wr) (C:World→Prop) (Ext:World→World→Prop) (L:List DA):List DA→Prop
 | []=>True
 | l :: r=>AEr P ops n E W C Ext L l∧Jg P ops n E W C Ext L r
theorem Jg.parts:∀ {r:List DA},Jg P ops n E W C Ext L r→Oi P ops (Fr n E) W C Ext L r
 | [],_=>trivial
 | l :: r,h=>by
  refine ⟨⟨h.1.1,fun vals w a hb=>?_⟩,Jg.parts h.2⟩
  rw [Xd]
  exact h.1.2 vals w a hb
theorem D8 (h:C w0) (e:∀ w:World,Ext w w) (d:∀ a b c:World,Ext a b→Ext b c→Ext a c) (f:Jg P ops n E W C Ext L L) {fuel k:Nat} (g:k=L.length + fuel) (H:∀ vals w,C w→Ext w0 w→Ff vals w L→wpAny P md ops Q fuel ((L.map (·.idx)).foldl (fun b i=>b.setIfInBounds i true) listed0) (Fr n (Lj ops vals (L.map (·.idx)) E)) w) (hok:(Ev md ops W listed0 n L && HM ops L)=true:=by kernel_rfl) :
  wpAny P md ops Q k listed0 (Fr n E) w0:=by
 subst g
 refine n7 (by rw [Sa]; exact hok) h e d f.parts fun vals w l h2 j=>?_
 rw [XZ]
 exact H vals w l h2 j
theorem O2 {vals:Nat→Value}:∀ {l:List (Tmp×Nat×Value)},(∀ p∈l,W.of p.1=some p.2.1)→KV vals l→Ix (DF n E W vals) (l.map (fun p=>(p.1,p.2.2)))
 | [],_,_=>trivial
 | p :: l,hw,hv=>by
  refine ⟨?_,O2 (fun q a=>hw q (by simp [a])) hv.2⟩
  have:=hw p (by simp)
  unfold DF
  simp only [this]
  exact hv.1
theorem AN.knownE {o:Oper} {vals:Nat→Value} {w:World} {K:Value→World→Prop} (l:List (Tmp×Nat×Value)) (hv:KV vals l) (a:AN P o (Q6 (l.map (fun p=>(p.1,p.2.2))) (DF n E W vals)) w K) (hc:(l.all (fun p=>W.of p.1 == some p.2.1))=true:=by kernel_rfl):AN P o (DF n E W vals) w K:=by
 simp only [List.all_eq_true,beq_iff_eq] at hc
 exact AN.over _ (O2 hc hv) a
theorem AN.reads {o:Oper} {ρ:Operand→Value} {w:World} {K:Value→World→Prop} (m:MS) (hg:∀ e∈m.mem,e.good w) (v:Value) (h:K v w) (hv:(Dh P (execOp ρ o) m).map (·.1)=some (.value v):=by kernel_rfl) (he:((Dh P (execOp ρ o) m).map (·.2.eqs.map Prod.fst))=((Dh P (execOp ρ o) m).map (·.2.eqs.map Prod.snd)):=by kernel_rfl):AN P o ρ w K:=by
 cases hl:Dh P (execOp ρ o) m with
 | none=>rw [hl] at hv; cases hv
 | some p=>
  obtain ⟨f,a⟩:=p
  rw [hl] at hv he
  have b:f=.value v:=Option.some.inj hv
  have c:a.eqs.map Prod.fst=a.eqs.map Prod.snd:=Option.some.inj he
  subst b
  refine AN.value (v:=v) (w':=w) (F4 _ _ _ _ hl hg fun p g=>?_) h
  obtain ⟨i,hi⟩:=List.mem_iff_getElem?.1 g
  have d:(a.eqs.map Prod.fst)[i]?=some p.1:=by rw [List.getElem?_map,hi]; rfl
  have h2:(a.eqs.map Prod.snd)[i]?=some p.2:=by rw [List.getElem?_map,hi]; rfl
  rw [c,h2] at d
  exact (Option.some.inj d).symm
theorem XK {O:List Nat} {B:Nat} {w:World} {s:MS} (h:EU O B w s) (z:Nat) (m:List A7) (hz:s.sz=z) (hm:s.mem=m):EU O B w ⟨z,m,(0,0),[]⟩:=by
 subst hz hm
 exact ⟨h.sat,h.le,h.own⟩
def OM:List Item→Option (List Item)
 | .code .skip :: k=>some k
 | .code (.label _) :: k=>some k
 | .inBlock _ :: k=>some k
 | .code (.seq x y) :: k=>some (.code x :: .code y :: k)
 | .code (.block id c) :: k=>some (.code c :: .inBlock id :: k)
 | .code (.exit id) :: k=>exitTo id k
 | .code (.region _ ops false) :: k=>some (.inRegion ops (List.range ops.size) :: k)
 | .inRegion _ [] :: k=>some k
 | .inRegion ops (i :: r) :: k=>match ops[i]? with
  | some o=>match vO o.op with
   | true=>none
   | false=>some (.inRegion ops r :: k)
  | none=>none
 | _=>none
def AA:Nat→List Item→List Item
 | 0,t=>t
 | m + 1,t=>match OM t with
  | some t'=>AA m t'
  | none=>t
theorem Cn {f:FuncId} {R:Ending→World→Prop} {w:World} (m:Nat) (todo:List Item) (z:Nat) (mem:List A7) (hints:List (Nat×Nat)) (todo':List Item) (l:List (Nat×Value)) (z':Nat) (mem':List A7) (hL:EU (mem.map (·.id)) w.heap.size w ⟨z,mem,(0,0),[]⟩) (hk:∀ w' E',EU (mem.map (·.id)) w.heap.size w' ⟨z',mem',(0,0),[]⟩→FH (mem.map (·.id)) w.heap.size w w'→At P f R todo' (Fr n (BE E' l)) w') (he:(fun a:St=>(a.todo,a.ms.mem,a.ms.sz,l.map (fun p=>a.env p.1),a.ms.eqs.map Prod.fst)) (H0 P n m ⟨todo,E,⟨z,mem,(0,0),[]⟩,hints⟩)=(todo',mem',z',l.map (·.2),(H0 P n m ⟨todo,E,⟨z,mem,(0,0),[]⟩,hints⟩).ms.eqs.map Prod.snd):=by kernel_rfl):At P f R todo (Fr n E) w:=by
 simp only [Prod.mk.injEq] at he
 obtain ⟨h1,h2,h3,h4,h5⟩:=he
 refine YA m ⟨todo,E,⟨z,mem,(0,0),[]⟩,hints⟩ hL h5 fun w' hL' hK=>?_
 rw [h1]
 exact Py l h4 fun E'=>hk w' E' (XK hL' z' mem' h3 h2) hK
theorem CW (w:World):EU [] (ε w) w ⟨ε w,[],(0,0),[]⟩:=
 ⟨⟨rfl,fun e he=>(by cases he),fun i j e e' hi=>(by simp at hi)⟩,Nat.le_refl _,fun e he=>(by cases he)⟩
theorem Nb {w w':World} {base:Nat} {e:TypeId} {size:Nat} {v:Value} {k:Nat} {xs:List Value} (h:w.ownsRow base e size v k xs) (b:∀ g,v.ownBlock=some g→w'.heap[g]?=w.heap[g]?):w'.ownsRow base e size v k xs:=by
 obtain ⟨d,h2⟩:=h
 refine ⟨d,?_⟩
 rcases h2 with h2 | ⟨g,cap,a,rfl,hg,hb,c⟩
 ·exact .inl h2
 exact .inr ⟨g,cap,a,rfl,hg,(b g rfl).trans hb,c⟩
theorem Ia {f:FuncId} {R:Ending→World→Prop} {fn:Func} {c:Code} {args:List Value} {w:World} (h:At P f R [.code c] (Fr n (fun t=>args.getD t undef)) w) (hf:P.funcs[f]?=some fn:=by kernel_rfl) (hb:fn.body=some c:=by kernel_rfl) (hn:fn.ntmps=n:=by kernel_rfl) (hl:Nat.ble args.length n=true:=by kernel_rfl):Calls P f args.toArray w R:=by
 subst hn
 exact ny hf hb h.mid (Nat.le_of_ble_eq_true hl)
theorem aQ {O:List Nat} {B:Nat} {a:Array Bool} {fuel i:Nat} {w:World} (o:Oper) (ms b:MS) (r:Next) (v:Value) (hr:Region.ready md ops a=[i]) (ho:ops[i]?=some o) (hg:o.guard=none)
  (hm:Cd P (execOp (A8 n E) o) ms=some (r,b)) (hv:r=.value v∨(r=.skip∧v=undef)) (d:EU O B w ms) (he:b.eqs.map Prod.fst=b.eqs.map Prod.snd)
  (j:∀ w',EU O B w' b→FH O B w w'→wpAny P md ops Q fuel (a.setIfInBounds i true) (Fr n (Aw E o.dst v)) w'):wpAny P md ops Q (fuel + 1) a (Fr n E) w:=by
 refine KH hr ho hg ?_
 have f:∀ p∈b.eqs,p.1=p.2:=fun p h=>by
  obtain ⟨i,hi⟩:=List.mem_iff_getElem?.1 h
  have e:(b.eqs.map Prod.fst)[i]?=some p.1:=by rw [List.getElem?_map,hi]; rfl
  have h2:(b.eqs.map Prod.snd)[i]?=some p.2:=by rw [List.getElem?_map,hi]; rfl
  rw [he,h2] at e
  exact (Option.some.inj e).symm
 obtain ⟨w',e,h2,g,k⟩:=Jx _ _ _ _ w hm d.sat d.le d.own f
 unfold Oper.wp
 rw [D7,e]
 have c:=j w' ⟨h2,Nat.le_trans d.le g.size,k⟩ g
 rw [← El] at c
 rcases hv with rfl | ⟨rfl,rfl⟩
 ·exact c
 exact c
theorem FN {b:Array Bool} {fuel:Nat} {a:Act} {w:World} (h:Q .normal a w) (hr:Region.ready md ops b=[]:=by kernel_rfl):wpAny P md ops Q fuel b a w:=wpAny_done hr h fuel
abbrev ν (t:List Item):List Item:=AA 60 t
abbrev Ξ (t:List Item):List Item:=AA 60 (AD t)
abbrev Ψ (t:List Item):List Item:=AA 60 (AF t)
abbrev Ω (t:List Item):List Item:=AA 60 (AC t)
abbrev AI (t:List Item):List Item:=AA 60 (AM t)
end
section
variable {P:Program} {f:FuncId} {R:Ending→World→Prop}
def vT:List (Tmp×Nat)→Tmp→Nat
 | [],_=>0
 | p :: r,t=>match Nat.beq p.1 t with
  | true=>p.2
  | false=>vT r t
def UJ (H:List (Tmp×Nat)) (n:Nat) (E:Nat→Value):Op→Nat×Nat
 | .load _ (.tmp t) | .store _ (.tmp t) _=>match A8 n E (.tmp t) with
  | .pointer (some a)=>(vT H t,a.off)
  | _=>(0,0)
 | _=>(0,0)
def vI (P:Program) (H:List (Tmp×Nat)) (n:Nat) (ops:Array Oper) (i:Nat) (s:St) (todo:List Item):Option St:=
 match ops[i]? with
 | none=>none
 | some o=>Sw P n ops i { s with hs:=UJ H n s.env o.op :: s.hs } todo
def vU:Option St→List (Nat×Nat)→Option St
 | some s,h=>some { s with hs:=h }
 | none,_=>none
def Qt (P:Program) (H:List (Tmp×Nat)) (n:Nat) (s:St):Option St:=
 match s.todo with
 | .code (.cond c x y) :: k=>match A8 n s.env c with
  | .bool true=>some { s with todo:=.code x :: k }
  | .bool false=>some { s with todo:=.code y :: k }
  | _=>none
 | .code (.loop c) :: k=>some { s with todo:=.code c :: .inLoop c :: k }
 | .inLoop c :: k=>some { s with todo:=.code c :: .inLoop c :: k }
 | .inRegion ops (i :: r) :: k=>vU (vI P H n ops i s (.inRegion ops r :: k)) []
 | _=>ON P n s
def M3 (P:Program) (H:List (Tmp×Nat)) (n:Nat):Nat→St→St
 | 0,s=>s
 | m + 1,s=>match Qt P H n s with
  | some s'=>M3 P H n m s'
  | none=>s
theorem wI {H:List (Tmp×Nat)} {n:Nat} {ops:Array Oper} {i:Nat} {s s':St} {todo:List Item} {h:List (Nat×Nat)} (hs:vU (vI P H n ops i s todo) h=some s'):∀ p∈s.ms.eqs,p∈s'.ms.eqs:=by
 unfold vI at hs
 split at hs
 ·cases hs
 rename_i o ho
 cases hq:Sw P n ops i { s with hs:=UJ H n s.env o.op :: s.hs } todo with
 | none=>rw [hq] at hs; cases hs
 | some q=>
  rw [hq] at hs
  obtain rfl:=Option.some.inj hs
  have:=Y8 hq
  exact this
theorem lp {H:List (Tmp×Nat)} {n:Nat} {s s':St} (h:Qt P H n s=some s'):∀ p∈s.ms.eqs,p∈s'.ms.eqs:=by
 unfold Qt at h
 split at h
 ·split at h
  ·obtain rfl:=Option.some.inj h; exact fun p a=>a
  ·obtain rfl:=Option.some.inj h; exact fun p a=>a
  cases h
 ·obtain rfl:=Option.some.inj h; exact fun p a=>a
 ·obtain rfl:=Option.some.inj h; exact fun p a=>a
 ·exact wI h
 exact Sh h
theorem YD {H:List (Tmp×Nat)} {n:Nat}:∀ (m:Nat) (s:St),∀ p∈s.ms.eqs,p∈(M3 P H n m s).ms.eqs
 | 0,_,p,hp=>hp
 | m + 1,s,p,hp=>by
  unfold M3
  split
  ·rename_i s' hs; exact YD m s' p (lp hs p hp)
  exact hp
theorem YM {O:List Nat} {B n:Nat} {H:List (Tmp×Nat)} {s s':St} {w:World}
  (h:Qt P H n s=some s') (b:EU O B w s.ms) (he:∀ p∈s'.ms.eqs,p.1=p.2)
  (a:∀ w',EU O B w' s'.ms→FH O B w w'→At P f R s'.todo (Fr n s'.env) w'):At P f R s.todo (Fr n s.env) w:=by
 unfold Qt at h
 split at h
 ·rename_i c x y k hc
  split at h
  ·rename_i hv
   obtain rfl:=Option.some.inj h
   rw [hc]
   exact Dq (by simp) (fun _=>step_cond (t:=true) (by rw [D7]; exact hv)) (a w b (.refl _ _ _))
  ·rename_i hv
   obtain rfl:=Option.some.inj h
   rw [hc]
   exact Dq (by simp) (fun _=>step_cond (t:=false) (by rw [D7]; exact hv)) (a w b (.refl _ _ _))
  cases h
 ·rename_i hc; obtain rfl:=Option.some.inj h; rw [hc]; exact Dq (by simp) (fun _=>step_loop) (a w b (.refl _ _ _))
 ·rename_i hc; obtain rfl:=Option.some.inj h; rw [hc]; exact Dq (by simp) (fun _=>step_inLoop) (a w b (.refl _ _ _))
 ·rename_i ops i r k hc
  rw [hc]
  unfold vI at h
  split at h
  ·cases h
  rename_i o ho
  cases hq:Sw P n ops i { s with hs:=UJ H n s.env o.op :: s.hs } (.inRegion ops r :: k) with
  | none=>rw [hq] at h; cases h
  | some q=>
   rw [hq] at h
   obtain rfl:=Option.some.inj h
   exact Sv (s:={ s with hs:=UJ H n s.env o.op :: s.hs }) (s':=q) hq b he a
 exact Oo h b he a
theorem Rk {O:List Nat} {B n:Nat} {H:List (Tmp×Nat)}:∀ (m:Nat) (s:St) (w:World),EU O B w s.ms→(∀ p∈(M3 P H n m s).ms.eqs,p.1=p.2)→
  (∀ w',EU O B w' (M3 P H n m s).ms→FH O B w w'→At P f R (M3 P H n m s).todo (Fr n (M3 P H n m s).env) w')→At P f R s.todo (Fr n s.env) w
 | 0,s,w,hL,_,hk=>hk w hL (.refl _ _ _)
 | m + 1,s,w,hL,he,hk=>by
  unfold M3 at he hk
  split at he
  ·rename_i s' hs
   simp only [hs] at hk
   refine YM hs hL (fun p e=>he p (YD m s' p e)) fun w' c g=>?_
   exact Rk m s' w' c he fun b a d=>hk b a (g.trans d)
  rename_i hs
  simp only [hs] at hk
  exact hk w hL (.refl _ _ _)
end
section
variable (P:Program)
noncomputable def RM (t:TypeId):Option Bool:=match P.underlying t with
 | some (.struct _) | some (.array _ _)=>some true
 | some _=>some false
 | none=>none
noncomputable def MT (t:TypeId):Option Nat:=(P.info? t).map (·.size)
end
section
variable {P:Program}
theorem I6 {t:TypeId} {n:Nat} (h:MT P t=some n) (w:World):(sizeOf t).run P w=.ok n w:=by
 unfold MT at h
 rw [Option.map_eq_some_iff] at h
 obtain ⟨i,a,h2⟩:=h
 simp [sizeOf,typeInfo,a,h2]
theorem Sj {t:TypeId} {b:Bool} (h:RM P t=some b) (w:World):(isAgg t).run P w=.ok b w:=by
 unfold RM at h
 split at h
 ·rename_i fs hu; obtain rfl:=Option.some.inj h; simp [isAgg,run_underlying hu]
 ·rename_i n e hu; obtain rfl:=Option.some.inj h; simp [isAgg,run_underlying hu]
 ·rename_i d h1 h2 hu
  obtain rfl:=Option.some.inj h
  cases d <;> first | (exact (h1 _ rfl).elim) | (exact (h2 _ _ rfl).elim) | simp [isAgg,run_underlying hu]
 cases h
end
theorem qX (a:Addr) (n:Nat) (hs:a.spot=none):a.add n=⟨a.block,a.off + n,none⟩:=by
 unfold Addr.add
 split
 ·rename_i e; subst e; cases a; simp_all
 simp
section
variable {P:Program} {ops:Array Oper} {Q:Exit→Act→World→Prop} {md:Region.Mode} {W:Wr} {listed0:Array Bool} {a0:Act} {J:Array Bool→(Nat→Value)→World→Prop} {Ext:World→World→Prop} {L:List DA} {w0:World}
def DA.obJ (P:Program) (ops:Array Oper) (a0:Act) (W:Wr) (J:Array Bool→(Nat→Value)→World→Prop) (Ext:World→World→Prop) (L:List DA) (l:DA):Prop:=
 ∀ (listed:Array Bool) (vals:Nat→Value) (w:World),listed.getD l.idx true=false→J listed vals w→(∀ m∈L,m.idx∈l.before→listed.getD m.idx false=true∧m.holds vals w)→∀ o,ops[l.idx]?=some o→
  if Region.wanted o (KI ops a0 W vals) then AN P o (Iu a0 W vals) w (fun v w'=>J (listed.setIfInBounds l.idx true) (Dw vals l.idx v) w'∧Ext w w'∧l.holds (Dw vals l.idx v) w')
  else J (listed.setIfInBounds l.idx true) (Dw vals l.idx undef) w∧l.holds (Dw vals l.idx undef) w
theorem gz {n:Nat} (h:Ev md ops W listed0 n L=true) {l:DA} (hl:l∈L) {j:Nat} (a:j∈l.before):(∃ m∈L,m.idx=j)∧True:=by
 have F:=Eu h
 obtain ⟨o,ho⟩:=F.op l hl
 obtain ⟨b,_⟩:=F.bef l hl o ho j a
 obtain ⟨m,hm,he⟩:=List.mem_map.1 b
 exact ⟨⟨m,hm,he⟩,trivial⟩
theorem aU (hok:Ev md ops W listed0 a0.tmps.size L=true) (hC:J listed0 (fun _=>undef) w0) (i0:∀ w:World,Ext w w) (d0:∀ a b c:World,Ext a b→Ext b c→Ext a c)
  (e0:∀ l∈L,∀ vs w w',Ext w w'→l.says vs w→l.says vs w') (t0:∀ l∈L,l.obJ P ops a0 W J Ext L) {fuel:Nat}
  (H:∀ vals w,J ((L.map (·.idx)).foldl (fun b i=>b.setIfInBounds i true) listed0) vals w→Ext w0 w→(∀ l∈L,l.holds vals w)→wpAny P md ops Q fuel ((L.map (·.idx)).foldl (fun b i=>b.setIfInBounds i true) listed0) (fin ops vals (L.map (·.idx)) a0) w) :
  wpAny P md ops Q (L.length + fuel) listed0 a0 w0:=by
 have F:=Eu hok
 have key:∀ (m:Nat) (d:Array Bool) (vals:Nat→Value) (a:Act) (w:World),Hs md ops W listed0 a0 (fun _=>True) Ext L w0 d vals a w→F2 d L=m→J d vals w→wpAny P md ops Q (m + fuel) d a w:=by
  intro m
  induction m with
  | zero=>
   intro d vals a w I hu k0
   have c0:=fun l (hl:l∈L)=>On hu hl
   have h:=fun hj=>H vals w hj I.ext (fun l hl=>I.says l hl (c0 l hl))
   have e1:d=(L.map (·.idx)).foldl (fun b i=>b.setIfInBounds i true) listed0:=by
    refine Array.ext_getElem? fun j=>?_
    rw [Lh]
    by_cases hj:j∈L.map (·.idx)
    ·obtain ⟨l,hl,rfl⟩:=List.mem_map.1 hj
     have z:l.idx < listed0.size:=HE (F.fresh l hl)
     rw [if_pos ⟨hj,z⟩,O7 (by rw [I.size,← F.size]; exact z) false,c0 l hl]
    rw [if_neg (fun h=>hj h.1)]; exact I.keep j hj
   have e2:a=fin ops vals (L.map (·.idx)) a0:=by
    have hs:=Pq ops vals (L.map (·.idx)) a0
    have ht:a.tmps=(fin ops vals (L.map (·.idx)) a0).tmps:=by
     refine Array.ext_getElem? fun t=>?_
     cases hw:W.of t with
     | none=>
      rw [I.other t hw,OZ]
      intro i hi hd
      obtain ⟨l,hl,rfl⟩:=List.mem_map.1 hi
      obtain ⟨o,ho⟩:=F.op l hl
      have j0:o.dst=some t:=by unfold C3 at hd; rw [ho] at hd; exact hd
      have:=(F.dst l hl o ho t j0).2
      rw [hw] at this; cases this
     | some j=>
      obtain ⟨p0,h0⟩:=F.wr t j hw
      obtain ⟨l,hl,rfl⟩:=List.mem_map.1 p0
      obtain ⟨o,ho⟩:=F.op l hl
      have j0:o.dst=some t:=by unfold C3 at h0; rw [ho] at h0; exact h0
      rw [I.done t _ hw (c0 l hl),XY ops vals t l.idx _ _ _ p0 h0 (F.dst l hl o ho t j0).1]
      intro i hi hd
      obtain ⟨l',m0,rfl⟩:=List.mem_map.1 hi
      obtain ⟨o',l0⟩:=F.op l' m0
      have q0:o'.dst=some t:=by unfold C3 at hd; rw [l0] at hd; exact hd
      have:=(F.dst l' m0 o' l0 t q0).2
      rw [hw] at this; exact (Option.some.inj this).symm
    cases a; cases hf:fin ops vals (L.map (·.idx)) a0
    rw [hf] at hs ht
    simp only at hs ht
    have hd:=I.defers
    simp only at hd
    subst ht
    rw [hs.2,hd]
   have h:=h (by rw [← e1]; exact k0)
   rw [Nat.zero_add,e1,e2]; exact h
  | succ m ih=>
   intro d vals a w I hu k0
   rw [Nat.succ_add]
   have some:∃ l∈L,d.getD l.idx true=false:=by
    rcases hx:L.filter (fun l=>!d.getD l.idx false) with _ | ⟨l,r⟩
    ·unfold F2 at hu; rw [hx] at hu; simp at hu
    have:l∈L.filter (fun l=>!d.getD l.idx false):=by rw [hx]; simp
    rw [List.mem_filter] at this
    refine ⟨l,this.1,?_⟩
    have z:l.idx < d.size:=by rw [I.size,← F.size]; exact HE (F.fresh l this.1)
    have h2:=this.2
    simp [z] at h2 ⊢; exact h2
   refine ⟨fun hr=>?_,fun i hi=>?_⟩
   ·exfalso
    have:∀ (k:Nat) (l:DA),l∈L→l.idx=k→d.getD l.idx true=true:=by
     intro k
     induction k using Nat.strongRecOn with
     | _ k ihk=>
      intro l hl hk
      cases hu:d.getD l.idx true with
      | true=>rfl
      | false=>
       exfalso
       obtain ⟨o,ho⟩:=F.op l hl
       have hm:l.idx∈Region.ready md ops d:=by
        rw [mem_ready]
        refine ⟨hu,o,ho,fun e he hb=>?_⟩
        rcases F.edge l hl o ho e he hb with ⟨h1,h2⟩ | ⟨h1,h2⟩
        ·have:=I.keep _ h2
         rw [Array.getD_eq_getD_getElem?,this,← Array.getD_eq_getD_getElem?]; exact h1
        obtain ⟨m',y,b0⟩:=List.mem_map.1 h2
        have g:=ihk m'.idx (by omega) m' y rfl
        rw [b0] at g
        have z:e.on < d.size:=by rw [I.size,← F.size,← b0]; exact HE (F.fresh m' y)
        simp [z] at g ⊢; exact g
       rw [hr] at hm; cases hm
    obtain ⟨l,hl,hf⟩:=some
    rw [this _ l hl rfl] at hf; cases hf
   have a1:=hi
   rw [mem_ready] at hi
   obtain ⟨u,o,ho,s⟩:=hi
   have hA:i∈L.map (·.idx):=by
    by_cases hA:i∈L.map (·.idx)
    ·exact hA
    exfalso
    have hk:=I.keep i hA
    have s0:listed0.getD i true=false:=by rw [Array.getD_eq_getD_getElem?,← hk,← Array.getD_eq_getD_getElem?]; exact u
    rcases F.tail i o ho s0 hA with ⟨e,he,hb,v0,hx⟩ | hx
    ·have hd:=s e he hb
     have:=I.keep _ hx
     rw [Array.getD_eq_getD_getElem?,this,← Array.getD_eq_getD_getElem?,v0] at hd; cases hd
    obtain ⟨l,hl,hf⟩:=some
    have g0:=En hf
    obtain ⟨e,he,hb,hy⟩:=hx l.idx (List.mem_map.2 ⟨l,hl,rfl⟩)
    have hd:=s e he hb
    rcases hy with h | ⟨m',y,b0,h⟩
    ·rw [← h,hd] at g0; cases g0
    have:=I.shut m' y (by rw [b0]; exact hd) _ h
    rw [this] at g0; cases g0
   obtain ⟨l,hl,rfl⟩:=List.mem_map.1 hA
   have hb:∀ j∈l.before,d.getD j false=true:=by
    intro j hj
    obtain ⟨_,_,e,he,x0,hx⟩:=F.bef l hl o ho j hj
    have hd:=s e he x0
    rcases hx with rfl | ⟨m',y,b0,hx⟩
    ·exact hd
    exact I.shut m' y (by rw [b0]; exact hd) j hx
   have z:=HE u
   have q:F2 (d.setIfInBounds l.idx true) L=m:=by
    have:=MM z (En u) F.nodup hA
    omega
   have p:=t0 l hl d vals w u k0 (fun m' y r0=>⟨hb _ r0,I.says m' y (hb _ r0)⟩) o ho
   unfold wpOp
   simp only [ho]
   rw [I.wanted F hl ho hb]
   split
   ·rename_i hw
    rw [if_pos hw] at p
    refine .inl ?_
    unfold Oper.wp
    rw [I.exec F hl ho hb]
    unfold AN at p
    cases hr:(execOp (Iu a0 W vals) o).run P w with
    | halt x w'=>rw [hr] at p; exact p.elim
    | ok n w'=>
     rw [hr] at p
     cases n <;> simp only at p <;> simp only [Oper.upon]
     case value v=>exact ih _ _ _ _ (I.step F (fun l hl vs w w' _ he h=>e0 l hl vs w w' he h) d0 hl ho hb u trivial p.2.1 p.2.2) q p.1
     case skip=>exact ih _ _ _ _ (I.step F (fun l hl vs w w' _ he h=>e0 l hl vs w w' he h) d0 hl ho hb u trivial p.2.1 p.2.2) q p.1
     case enter f args=>
      refine p.mono fun e z0 he=>?_
      obtain ⟨v,rfl,h1,h2,h3⟩:=he
      exact ih _ _ _ _ (I.step F (fun l hl vs w w' _ he h=>e0 l hl vs w w' he h) d0 hl ho hb u trivial h2 h3) q h1
   rename_i hw
   rw [if_neg hw] at p
   exact ih _ _ _ _ (I.step F (fun l hl vs w w' _ he h=>e0 l hl vs w w' he h) d0 hl ho hb u trivial (i0 w) p.2) q p.1
 refine key L.length listed0 (fun _=>undef) a0 w0 ⟨F.size,fun _ _=>rfl,?_,rfl,rfl,?_,fun _ _ _ _=>rfl,fun _ _=>rfl,trivial,i0 _,?_⟩ ?_ hC
 ·intro l hl hd; rw [En (F.fresh l hl)] at hd; cases hd
 ·intro t j hw hd
  obtain ⟨l,hl,rfl⟩:=List.mem_map.1 (F.wr t j hw).1
  rw [En (F.fresh l hl)] at hd; cases hd
 ·intro l hl hd; rw [En (F.fresh l hl)] at hd; cases hd
 unfold F2
 rw [List.filter_eq_self.2]
 intro l hl; rw [En (F.fresh l hl)]; rfl
end
section
variable {P:Program} {ops:Array Oper} {Q:Exit→Act→World→Prop} {md:Region.Mode} {W:Wr} {listed0:Array Bool} {n:Nat} {E:Nat→Value} {J:Array Bool→(Nat→Value)→World→Prop} {Ext:World→World→Prop} {L:List DA} {w0:World}
def vY (P:Program) (ops:Array Oper) (n:Nat) (E:Nat→Value) (W:Wr) (J:Array Bool→(Nat→Value)→World→Prop) (Ext:World→World→Prop) (L:List DA) (l:DA):Prop:=
 (∀ vs w w',Ext w w'→l.says vs w→l.says vs w')∧
  ∀ (listed:Array Bool) (vals:Nat→Value) (w:World),listed.getD l.idx true=false→(∀ j∈l.before,listed.getD j false=true)→J listed vals w→Fn l.before vals w L→AN P (ops.getD l.idx default) (DF n E W vals) w (fun v w'=>J (listed.setIfInBounds l.idx true) (Dw vals l.idx v) w'∧Ext w w'∧l.says (l.deps.map (Dw vals l.idx v)) w')
def ME (P:Program) (ops:Array Oper) (n:Nat) (E:Nat→Value) (W:Wr) (J:Array Bool→(Nat→Value)→World→Prop) (Ext:World→World→Prop) (L:List DA):List DA→Prop
 | []=>True
 | l :: r=>vY P ops n E W J Ext L l∧ME P ops n E W J Ext L r
theorem ME.all:∀ {r:List DA},ME P ops n E W J Ext L r→∀ l∈r,vY P ops n E W J Ext L l
 | [],_,l,hl=>by cases hl
 | m :: r,h,l,hl=>by
  rcases List.mem_cons.1 hl with rfl | a
  ·exact h.1
  exact ME.all h.2 l a
theorem g8 (hok:(Ev md ops W listed0 n L && HM ops L)=true) (z:J listed0 (fun _=>undef) w0) (g:∀ w:World,Ext w w) (f:∀ a b c:World,Ext a b→Ext b c→Ext a c)
  (t:ME P ops n E W J Ext L L) {fuel k:Nat} (y:k=L.length + fuel)
  (H:∀ vals w,J ((L.map (·.idx)).foldl (fun b i=>b.setIfInBounds i true) listed0) vals w→Ext w0 w→Ff vals w L→wpAny P md ops Q fuel ((L.map (·.idx)).foldl (fun b i=>b.setIfInBounds i true) listed0) (Fr n (Lj ops vals (L.map (·.idx)) E)) w) :
  wpAny P md ops Q k listed0 (Fr n E) w0:=by
 subst y
 rw [Bool.and_eq_true] at hok
 refine aU (a0:=Fr n E) (by rw [Sa]; exact hok.1) z g f (fun l hl=>(t.all l hl).1) (fun l hl=>?_) (fun vals w h1 h2 h3=>by rw [XZ]; exact H vals w h1 h2 (Mj h3))
 intro d vals w q s hm o ho
 have hb:=hok.2
 unfold HM at hb
 rw [List.all_eq_true] at hb
 have hg:=hb l hl
 have hx:=(t.all l hl).2 d vals w q (fun j u=>by
  obtain ⟨⟨m,e,p⟩,_⟩:=gz hok.1 hl u
  obtain rfl:=p
  exact (hm m e u).1) s (Nq fun m e r=>(hm m e r).2)
 have h:ops.getD l.idx default=o:=by rw [Array.getD_eq_getD_getElem?,ho]; rfl
 rw [h] at hg hx
 have v:Region.wanted o (KI ops (Fr n E) W vals)=true:=by
  unfold Region.wanted
  cases hgg:o.guard with
  | none=>rfl
  | some x=>rw [hgg] at hg; cases hg
 rw [if_pos v,Xd]
 exact hx
end
end Go.Proofs.YtkjbdagicjbjjaaGreat
namespace Go.Proofs.YtkjbdagicjbjjaaGreat
open Go.RowKit
theorem Em {k:IntKind} {a b:Int} (h:a=b):Ending.returned (.int k a)=.returned (.int k b):=by rw [h]
theorem IR {a b:Bool} (h:a=b):Ending.returned (ξ a)=.returned (ξ b):=by rw [h]
theorem nz (l:List UInt8) (k:Nat) (h:k < (⟨l.toArray⟩:ByteArray).size):(⟨l.toArray⟩:ByteArray)[k]=l[k]'h:=rfl
theorem g7 (l:List UInt8) (a b:Nat):ByteArray.extract ⟨l.toArray⟩ a b=⟨((l.drop a).take (b - a)).toArray⟩:=by
 apply ByteArray.ext
 simp [List.extract_eq_take_drop,List.extract_toArray]
theorem iU (l:List UInt8) (a:Nat):(l.drop a).take (l.length - a)=l.drop a:=List.take_of_length_le (by simp)
theorem GB {B:Nat} {a w:World} (h:Below B a w) (n:Nat):Below B a (w.drewN n):=⟨h.os,h.tape,h.output,h.size,h.block⟩
theorem Q4 {P:Program} {f:FuncId} {args:Array Value} {w:World} {n:Nat} {v:Value}
  (h:Calls P f args (w.drewN n) fun e w'=>e=.returned v∧w.drewN n=w'):Calls P f args (w.drewN n) fun e a=>e=.returned v∧∃ m,a=w.drewN m:=
 h.mono fun _ _ ⟨he,hm⟩=>⟨he,n,hm.symm⟩
set_option maxHeartbeats 1000000 in
theorem wM (v n:Int) (w:World) (h0:-9223372036854775808≤v) (h1:v≤9223372036854775807) (hn:1≤n) (hn2:n≤2000000000000) :
  Calls Tryz.prog 13 #[δ v,δ n] w fun e w'=>e=.returned (δ (v % n))∧w=w':=by
 have hm0:=Int.emod_nonneg v (show n≠0 by omega)
 have hm1:=Int.emod_lt_of_pos v (show 0 < n by omega)
 have gn:(n == 0)=false:=by simp; omega
 by_cases hv:0≤v
 ·go_enter Tryz.func13,Tryz.ntmps13
  go_wp2_with fail
  go_ret
  exact ⟨rfl,rfl⟩
 by_cases hd:n∣v
 ·have ht:v.tmod n=0:=Int.tmod_eq_zero_of_dvd hd
  have HR:Hid (v % n=0):=Int.emod_eq_zero_of_dvd hd
  clear hd
  go_enter Tryz.func13,Tryz.ntmps13
  go_wp2_with fail
  go_ret
  exact ⟨Em HR.out.symm,rfl⟩
 obtain ⟨r,hr⟩:∃ r,v % n=r:=⟨_,rfl⟩
 have ht:v.tmod n=r - n:=by
  rw [Int.tmod_eq_emod,if_neg (by omega),hr]
  omega
 rw [hr] at hm0 hm1
 have HR:=Lib.hid hr
 clear hd hr
 go_enter Tryz.func13,Tryz.ntmps13
 go_wp2_with fail
 go_ret
 exact ⟨Em (by rw [HR.out]),rfl⟩
structure CG (b:Nat) (w w':World):Prop where
 os:w'.os=w.os
 tape:w'.tape=w.tape
 output:w'.output=w.output
 size:w.heap.size≤w'.heap.size
 block:∀ k,k < w.heap.size→k≠b→w'.heap[k]?=w.heap[k]?
theorem CG.refl (b:Nat) (w:World):CG b w w:=⟨rfl,rfl,rfl,Nat.le_refl _,fun _ _ _=>rfl⟩
theorem CG.trans {b:Nat} {u v w:World} (h:CG b u v) (k:CG b v w):CG b u w:=
 ⟨k.os.trans h.os,k.tape.trans h.tape,k.output.trans h.output,Nat.le_trans h.size k.size,fun i hi hb=>(k.block i (Nat.lt_of_lt_of_le hi h.size) hb).trans (h.block i hi hb)⟩
theorem CG.of_below {b:Nat} {w w':World} (h:Below w.heap.size w w'):CG b w w':=⟨h.os,h.tape,h.output,h.size,fun k hk _=>h.block k hk⟩
theorem CG.alloc {b:Nat} {u w:World} (h:CG b u w) (o:Obj):CG b u (w.alloc o):=
 h.trans (.of_below ((Below.refl _ _).alloc (Nat.le_refl _) _))
theorem CG.drew {b:Nat} {u w:World} (h:CG b u w):CG b u w.drew:=h.trans (.of_below (Below.refl _ _).drew)
theorem CG.drewN {b:Nat} {u w:World} (h:CG b u w) (n:Nat):CG b u (w.drewN n):=⟨h.os,h.tape,h.output,h.size,h.block⟩
theorem CG.setCell {b:Nat} {u w:World} (h:CG b u w) {p:Addr} (hp:p.block=b) (x:Value):CG b u (w.setCell p x):=
 h.trans ⟨rfl,rfl,rfl,by simp [World.setCell],fun k _ hk=>Below.heap_setCell _ _ _ _ (by rw [hp]; exact hk)⟩
theorem CG.below {b B:Nat} {w w':World} (h:CG b w w') (hB:B≤b) (hs:B≤w.heap.size):Below B w w':=
 ⟨h.os,h.tape,h.output,h.size,fun k hk=>h.block k (by omega) (by omega)⟩
theorem CG.cell {b:Nat} {w w':World} (h:CG b w w') {p:Addr} (hp:p.block < w.heap.size) (hb:p.block≠b):w'.cell? p=w.cell? p:=
 World.cell?_of_block (w:=w) (h.block p.block hp hb)
def Hu (w:World) (b:Nat) (v:Value) (ns:List Int):Prop:=
 ∃ A c,v=.slice A ns.length c∧ns.length≤maxLen∧(∀ x∈ns,-9223372036854775808≤x∧x≤9223372036854775807)∧
  (0 < ns.length→∃ g off,A=some ⟨g,off,none⟩∧g < b∧∀ i (h:i < ns.length),w.cell? ⟨g,off + i,none⟩=some (δ ns[i]))
def Be (b:Nat) (ns:List Int) (w:World):Prop:=
 ∃ (v:Value) (k:Nat),k≤ns.length∧w.heap[b]?=some (.cells #[v,δ k] 62 (0,0))∧Hu w b v ns
theorem L3 {w:World} {b:Nat} {o:Obj} (h:w.heap[b]?=some o):b < w.heap.size:=by
 rcases Nat.lt_or_ge b w.heap.size with h' | h'
 ·exact h'
 rw [Array.getElem?_eq_none h'] at h; cases h
theorem Be.lt {b:Nat} {ns:List Int} {w:World} (h:Be b ns w):b < w.heap.size:=by
 obtain ⟨v,k,_,hb,_⟩:=h
 exact L3 hb
theorem Hu.keep {w w':World} {b:Nat} {v:Value} {ns:List Int} (h:Hu w b v ns) (hk:∀ g,g < b→w'.heap[g]?=w.heap[g]?):Hu w' b v ns:=by
 obtain ⟨A,c,rfl,h1,h2,h3⟩:=h
 refine ⟨A,c,rfl,h1,h2,fun hn=>?_⟩
 obtain ⟨g,off,rfl,hg,hc⟩:=h3 hn
 exact ⟨g,off,rfl,hg,fun i hi=>by rw [World.cell?_of_block (w:=w) (hk g hg)]; exact hc i hi⟩
theorem Be.below {b:Nat} {ns:List Int} {w w':World} (h:Be b ns w) (hb:Below w.heap.size w w'):Be b ns w':=by
 have hlt:=h.lt
 obtain ⟨v,k,hk,hc,hi⟩:=h
 exact ⟨v,k,hk,(hb.block b hlt).trans hc,hi.keep (fun g hg=>hb.block g (by omega))⟩
def BX (b:Nat) (ns:List Int) (n:Int) (w:World) (e:Ending) (w':World):Prop:=
 ∃ k:Nat,(k=0∨(k:Int) < n)∧e=.returned (δ k)∧Be b ns w'∧CG b w w'
end Go.Proofs.YtkjbdagicjbjjaaGreat

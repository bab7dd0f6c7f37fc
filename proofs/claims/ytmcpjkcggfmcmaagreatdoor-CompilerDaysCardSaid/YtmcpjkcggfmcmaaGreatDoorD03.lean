/-
  Part 3 of a proof: contracts of functions.
-/
import Derived.KernelRfl
import Derived.Test.YtmcpjkcggfmcmaaGreatDoorD02
set_option linter.all false
namespace Go.Proofs.YtmcpjkcggfmcmaaGreatDoor
section
variable {P:Program} {ops:Array Oper} {Q:Exit→Act→World→Prop} {md:Region.Mode} {W:Wr} {listed0:Array Bool} {n:Nat} {E:Nat→Value} {C:World→Prop} {Ext:World→World→Prop} {L:List Ci} {w0:World}
def C0 (n:Nat) (E:Nat→Value) (W:Wr) (vals:Nat→Value):Operand→Value
 | .tmp t=>match W.of t with
  | some j=>vals j
  | none=>BN n E (.tmp t)
 | x=>BN n E x
theorem UZ (a:Nat→Value):CM (Fr n E) W a=C0 n E W a:=by
 funext x
 unfold CM C0
 rw [Cm]
 cases x <;> rfl
def l7 (P:Program) (ops:Array Oper) (n:Nat) (E:Nat→Value) (W:Wr) (C:World→Prop) (Ext:World→World→Prop) (L:List Ci) (l:Ci):Prop:=
 (∀ vs w w',C w→Ext w w'→l.says vs w→l.says vs w')∧
  ∀ (vals:Nat→Value) (w:World),C w→HL l.before vals w L→AH P (ops.getD l.idx default) (C0 n E W vals) w (fun v w'=>C w'∧Ext w w'∧l.says (l.deps.map (FR vals l.idx v)) w')
def GW (P:Program) (ops:Array Oper) (n:Nat) (E:Nat→Value) (W:Wr) (C:World→Prop) (Ext:World→World→Prop) (L:List Ci):List Ci→Prop
 | []=>True
 | l :: r=>l7 P ops n E W C Ext L l∧GW P ops n E W C Ext L r
theorem GW.parts:∀ {r:List Ci},GW P ops n E W C Ext L r→Io P ops (Fr n E) W C Ext L r
 | [],_=>trivial
 | l :: r,h=>by
  refine ⟨⟨h.1.1,fun a w b hb=>?_⟩,GW.parts h.2⟩
  rw [UZ]
  exact h.1.2 a w b hb
theorem CG (j:C w0) (f:∀ w:World,Ext w w) (e:∀ a b c:World,Ext a b→Ext b c→Ext a c) (g:GW P ops n E W C Ext L L) {fuel k:Nat} (h:k=L.length + fuel) (H:∀ d w,C w→Ext w0 w→I7 d w L→wpAny P md ops Q fuel ((L.map (·.idx)).foldl (fun b i=>b.setIfInBounds i true) listed0) (Fr n (Eu ops d (L.map (·.idx)) E)) w) (hok:(EY md ops W listed0 n L && bare ops L)=true:=by kernel_rfl) :
  wpAny P md ops Q k listed0 (Fr n E) w0:=by
 subst h
 refine IZ (by rw [Qr]; exact hok) j f e g.parts fun d w m h2 l=>?_
 rw [UV]
 exact H d w m h2 l
theorem Nr {a:Nat→Value}:∀ {l:List (Tmp×Nat×Value)},(∀ p∈l,W.of p.1=some p.2.1)→KV a l→Gy (C0 n E W a) (l.map (fun p=>(p.1,p.2.2)))
 | [],_,_=>trivial
 | p :: l,hw,hv=>by
  refine ⟨?_,Nr (fun q b=>hw q (by simp [b])) hv.2⟩
  have:=hw p (by simp)
  unfold C0
  simp only [this]
  exact hv.1
theorem AH.knownE {o:Oper} {a:Nat→Value} {w:World} {K:Value→World→Prop} (l:List (Tmp×Nat×Value))
  (hc:(l.all (fun p=>W.of p.1 == some p.2.1))=true) (hv:KV a l)
  (b:AH P o (T9 (l.map (fun p=>(p.1,p.2.2))) (C0 n E W a)) w K):AH P o (C0 n E W a) w K:=by
 simp only [List.all_eq_true,beq_iff_eq] at hc
 exact AH.over _ (Nr hc hv) b
theorem BF {i:Nat} {B:List Nat} {v:Value} (b:∀ w:World,Ext w w)
  (h:∀ (a:Nat→Value) (w:World),C w→HL B a w L→(execOp (C0 n E W a) (ops.getD i default)).run P w=.ok (.value v) w):l7 P ops n E W C Ext L (AN i B v):=
 ⟨fun _ _ _ _ _ h=>h,fun a w c hb=>AH.value (h:=(h a w c hb)) ⟨c,b w,by simp [AN,FR]⟩⟩
theorem AH.reads {o:Oper} {ρ:Operand→Value} {w:World} {K:Value→World→Prop} (m:MS) (hg:∀ e∈m.mem,e.good w) (v:Value) (j:K v w) (hv:(Dn P (execOp ρ o) m).map (·.1)=some (.value v):=by kernel_rfl) (he:((Dn P (execOp ρ o) m).map (·.2.eqs.map Prod.fst))=((Dn P (execOp ρ o) m).map (·.2.eqs.map Prod.snd)):=by kernel_rfl):AH P o ρ w K:=by
 cases hl:Dn P (execOp ρ o) m with
 | none=>rw [hl] at hv; cases hv
 | some p=>
  obtain ⟨f,a⟩:=p
  rw [hl] at hv he
  have b:f=.value v:=Option.some.inj hv
  have c:a.eqs.map Prod.fst=a.eqs.map Prod.snd:=Option.some.inj he
  subst b
  refine AH.value (v:=v) (w':=w) (h:=(Ij _ _ _ _ hl hg fun p g=>?_)) j
  obtain ⟨i,hi⟩:=List.mem_iff_getElem?.1 g
  have d:(a.eqs.map Prod.fst)[i]?=some p.1:=by rw [List.getElem?_map,hi]; rfl
  have h2:(a.eqs.map Prod.snd)[i]?=some p.2:=by rw [List.getElem?_map,hi]; rfl
  rw [c,h2] at d
  exact (Option.some.inj d).symm
theorem UH {O:List Nat} {B:Nat} {w:World} {s:MS} (h:DH O B w s) (z:Nat) (m:List BI) (hz:s.sz=z) (hm:s.mem=m):DH O B w ⟨z,m,(0,0),[]⟩:=by
 subst hz hm
 exact ⟨h.sat,h.le,h.own⟩
theorem RA {O:List Nat} {B:Nat} {w w':World} {z:Nat} {m:List BI} {x:Nat×Nat} {q:List (Nat×Nat)} (h:DH O B w ⟨z,m,x,q⟩) (hs:w.heap.size≤w'.heap.size) (hb:∀ e∈m,w'.heap[e.id]?=w.heap[e.id]?):DH O B w' ⟨w'.heap.size,m,(0,0),[]⟩:=by
 refine ⟨⟨rfl,fun e he=>?_,h.sat.apart⟩,Nat.le_trans h.le hs,h.own⟩
 have hg:=h.sat.good e he
 refine ⟨Nat.lt_of_lt_of_le hg.1 hs,?_⟩
 have h2:=hg.2
 split at h2
 ·rename_i ho; rw [if_pos ho,hb e he]; exact h2
 ·rename_i ho
  rw [if_neg ho]
  intro j v hv
  rw [World.cell?_of_block (w:=w) (hb e he)]
  exact h2 j v hv
def NB:List Item→Option (List Item)
 | .code .skip :: k=>some k
 | .code (.label _) :: k=>some k
 | .inBlock _ :: k=>some k
 | .code (.seq x y) :: k=>some (.code x :: .code y :: k)
 | .code (.block id c) :: k=>some (.code c :: .inBlock id :: k)
 | .code (.exit id) :: k=>exitTo id k
 | .code (.region _ ops false) :: k=>some (.inRegion ops (List.range ops.size) :: k)
 | .inRegion _ [] :: k=>some k
 | .inRegion ops (i :: r) :: k=>match ops[i]? with
  | some o=>match lx o.op with
   | true=>none
   | false=>some (.inRegion ops r :: k)
  | none=>none
 | _=>none
def AB:Nat→List Item→List Item
 | 0,t=>t
 | m + 1,t=>match NB t with
  | some t'=>AB m t'
  | none=>t
theorem Am {f:FuncId} {R:Ending→World→Prop} {w:World} (m:Nat) (todo:List Item) (z:Nat) (mem:List BI) (hints:List (Nat×Nat)) (todo':List Item) (l:List (Nat×Value)) (z':Nat) (mem':List BI) (hL:DH (mem.map (·.id)) w.heap.size w ⟨z,mem,(0,0),[]⟩) (hk:∀ w' E',DH (mem.map (·.id)) w.heap.size w' ⟨z',mem',(0,0),[]⟩→EC (mem.map (·.id)) w.heap.size w w'→At P f R todo' (Fr n (Aw E' l)) w') (he:(fun a:St=>(a.todo,a.ms.mem,a.ms.sz,l.map (fun p=>a.env p.1),a.ms.eqs.map Prod.fst)) (Hu P n m ⟨todo,E,⟨z,mem,(0,0),[]⟩,hints⟩)=(todo',mem',z',l.map (·.2),(Hu P n m ⟨todo,E,⟨z,mem,(0,0),[]⟩,hints⟩).ms.eqs.map Prod.snd):=by kernel_rfl):At P f R todo (Fr n E) w:=by
 simp only [Prod.mk.injEq] at he
 obtain ⟨h1,h2,h3,h4,h5⟩:=he
 refine U4 m ⟨todo,E,⟨z,mem,(0,0),[]⟩,hints⟩ hL h5 fun w' hL' hK=>?_
 rw [h1]
 exact EQ l h4 fun E'=>hk w' E' (UH hL' z' mem' h3 h2) hK
theorem iP {O:List Nat} {B:Nat} {w:World} {z:Nat} {mem:List BI} {x:Nat×Nat} {q:List (Nat×Nat)} (h:DH O B w ⟨z,mem,x,q⟩):DH (mem.map (·.id)) w.heap.size w ⟨z,mem,(0,0),[]⟩:=
 ⟨h.sat,Nat.le_refl _,fun e he _=>.inl (List.mem_map.2 ⟨e,he,rfl⟩)⟩
theorem Br (w:World):DH [] w.heap.size w ⟨w.heap.size,[],(0,0),[]⟩:=
 ⟨⟨rfl,fun e he=>(by cases he),fun i j e e' hi=>(by simp at hi)⟩,Nat.le_refl _,fun e he=>(by cases he)⟩
theorem GY {w w':World} {base:Nat} {e:TypeId} {size:Nat} {v:Value} {k:Nat} {xs:List Value} (h:w.ownsRow base e size v k xs) (b:∀ g,v.ownBlock=some g→w'.heap[g]?=w.heap[g]?):w'.ownsRow base e size v k xs:=by
 obtain ⟨d,h2⟩:=h
 refine ⟨d,?_⟩
 rcases h2 with h2 | ⟨g,cap,a,rfl,hg,hb,c⟩
 ·exact .inl h2
 ·exact .inr ⟨g,cap,a,rfl,hg,(b g rfl).trans hb,c⟩
theorem GD {f:FuncId} {R:Ending→World→Prop} {fn:Func} {c:Code} {args:List Value} {w:World} (h:At P f R [.code c] (Fr n (fun t=>args.getD t undef)) w) (hf:P.funcs[f]?=some fn:=by kernel_rfl) (hb:fn.body=some c:=by kernel_rfl) (hn:fn.ntmps=n:=by kernel_rfl) (hl:Nat.ble args.length n=true:=by kernel_rfl):Calls P f args.toArray w R:=by
 subst hn
 exact dv hf hb h.mid (Nat.le_of_ble_eq_true hl)
theorem FL {O:List Nat} {B:Nat} {a:Array Bool} {fuel i:Nat} {w:World} (o:Oper) (ms b:MS) (r:Next) (v:Value) (hr:Region.ready md ops a=[i]) (hv:r=.value v∨(r=.skip∧v=undef)) (d:DH O B w ms) (he:b.eqs.map Prod.fst=b.eqs.map Prod.snd) (j:∀ w',DH O B w' b→EC O B w w'→wpAny P md ops Q fuel (a.setIfInBounds i true) (Fr n (Bc E o.dst v)) w') (ho:ops[i]?=some o:=by kernel_rfl) (hg:o.guard=none:=by kernel_rfl) (hm:CS P (execOp (BN n E) o) ms=some (r,b):=by kernel_rfl):wpAny P md ops Q (fuel + 1) a (Fr n E) w:=by
 refine Gs hr ho hg ?_
 have f:∀ p∈b.eqs,p.1=p.2:=fun p h=>by
  obtain ⟨i,hi⟩:=List.mem_iff_getElem?.1 h
  have e:(b.eqs.map Prod.fst)[i]?=some p.1:=by rw [List.getElem?_map,hi]; rfl
  have h2:(b.eqs.map Prod.snd)[i]?=some p.2:=by rw [List.getElem?_map,hi]; rfl
  rw [he,h2] at e
  exact (Option.some.inj e).symm
 obtain ⟨w',e,h2,g,k⟩:=Jt _ _ _ _ w hm d.sat d.le d.own f
 unfold Oper.wp
 rw [Cm,e]
 have c:=j w' ⟨h2,Nat.le_trans d.le g.size,k⟩ g
 rw [← Dy] at c
 rcases hv with rfl | ⟨rfl,rfl⟩
 ·exact c
 ·exact c
theorem Cy {b:Array Bool} {fuel:Nat} {a:Act} {w:World} (h:Q .normal a w) (hr:Region.ready md ops b=[]:=by kernel_rfl):wpAny P md ops Q fuel b a w:=wpAny_done hr h fuel
end
end Go.Proofs.YtmcpjkcggfmcmaaGreatDoor

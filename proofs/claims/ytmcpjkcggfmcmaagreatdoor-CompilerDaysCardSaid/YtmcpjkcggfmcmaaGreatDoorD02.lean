/-
  Part 2 of a proof: contracts of functions.
-/
import Derived.Test.YtmcpjkcggfmcmaaGreatDoorD01
import Derived.KernelRfl
set_option linter.all false
namespace Go.Proofs.YtmcpjkcggfmcmaaGreatDoor
def base (f:FuncId):Frame:={ (default:Frame) with fn:=f,kind:=.normal }
def JZ (P:Program) (f:FuncId) (R:Ending→World→Prop) (todo:List Item) (a:Act) (w:World):Prop:=
 ∀ cs,∃ e w' fr,R e w'∧Comes P (lone ((base f).at a todo) cs w) (lone fr cs w') e∧fr.fn=f∧fr.leaving P w' e
section
variable {P:Program} {f:FuncId} {R:Ending→World→Prop}
theorem JZ.steps {todo todo':List Item} {a b:Act} {w w':World} (hs:∀ cs,Steps P (lone ((base f).at a todo) cs w) (lone ((base f).at b todo') cs w')) (h:JZ P f R todo' b w'):JZ P f R todo a w:=
 fun cs=>let ⟨e,u,fr,h1,h2,h3⟩:=h cs; ⟨e,u,fr,h1,Comes.of_steps (hs cs) h2,h3⟩
theorem cG {c:Code} {k:List Item} {a:Act} {w:World} (h:c.wp P (fun e d w'=>e=.normal∧JZ P f R k d w') a w):JZ P f R (.code c :: k) a w:=by
 intro cs
 obtain ⟨e,d,w',⟨rfl,hm⟩,b⟩:=h (base f) k cs
 obtain ⟨e,u,fr,i,h2,g⟩:=hm cs
 exact ⟨e,u,fr,i,Comes.of_steps b h2,g⟩
theorem mc {ops:Array Oper} {l:List Nat} {k:List Item} {a:Act} {w:World} (h:wpOps P ops (fun e c w'=>e=.normal∧JZ P f R k c w') l a w):JZ P f R (.inRegion ops l :: k) a w:=by
 intro cs
 obtain ⟨e,c,w',⟨rfl,hm⟩,b⟩:=wp_ops l a w h (base f) k cs
 obtain ⟨e,u,fr,g,h2,d⟩:=hm cs
 exact ⟨e,u,fr,g,Comes.of_steps b h2,d⟩
theorem dv {fn:Func} {c:Code} {args:List Value} {w:World} (hf:P.funcs[f]?=some fn) (hb:fn.body=some c)
  (h:JZ P f R [.code c] (Fr fn.ntmps (fun t=>args.getD t undef)) w) (hn:args.length≤fn.ntmps):Calls P f args.toArray w R:=by
 intro cs
 have a:Frame.enter P f args.toArray .normal=(base f).at (Fr fn.ntmps (fun t=>args.getD t undef)) [.code c]:=by
  have e:(args.toArray++Array.replicate (fn.ntmps - args.toArray.size) undef)=(Fr fn.ntmps (fun t=>args.getD t undef)).tmps:=by
   refine Array.ext_getElem? fun t=>?_
   rw [M8,Array.getElem?_append,Array.getElem?_replicate]
   simp only [List.size_toArray,List.getElem?_toArray]
   by_cases h1:t < args.length
   ·have h2:t < fn.ntmps:=by omega
    simp [h1,h2,List.getD_eq_getElem?_getD]
   ·by_cases h2:t < fn.ntmps
    ·have b:t - args.length < fn.ntmps - args.length:=by omega
     simp [h1,h2,b,List.getD_eq_getElem?_getD]
    ·have b:¬ t - args.length < fn.ntmps - args.length:=by omega
     simp [h1,h2,b]
  simp [Frame.enter,Frame.at,hf,hb,base]
  exact ⟨by simpa using e,rfl⟩
 rw [a]
 exact h cs
def At (P:Program) (f:FuncId) (R:Ending→World→Prop):List Item→Act→World→Prop
 | .inRegion ops l :: k,a,w=>wpOps P ops (fun e a w=>e=.normal∧JZ P f R k a w) l a w
 | todo,a,w=>JZ P f R todo a w
theorem At.mid {todo:List Item} {a:Act} {w:World} (h:At P f R todo a w):JZ P f R todo a w:=by
 cases todo with
 | nil=>exact h
 | cons x k=>cases x <;> first | exact mc h | exact h
theorem dz {todo:List Item} {a:Act} {w:World} (h:JZ P f R todo a w) (hn:∀ ops l k,todo≠.inRegion ops l :: k):At P f R todo a w:=by
 cases todo with
 | nil=>exact h
 | cons x k=>cases x <;> first | exact (hn _ _ _ rfl).elim | exact h
structure St where
 todo:List Item
 env:Nat→Value
 ms:MS
 hs:List (Nat×Nat)
def lx:Op→Bool
 | .call ⟨.builtin .len,_,_⟩ | .call ⟨.builtin .cap,_,_⟩ | .call ⟨.builtin .min,_,_⟩ | .call ⟨.builtin .max,_,_⟩=>false
 | .call _ | .select .. | .go _ | .defer _ | .panic _ | .send .. | .recv .. | .range .. | .next .. | .entry _ | .mapUpdate .. | .lookup .. | .index ..=>true
 | _=>false
def uF:Op→Bool
 | .load .. | .store ..=>true
 | _=>false
def QT (P:Program) (n:Nat) (o:Oper) (E:Nat→Value) (todo:List Item) (ms:MS) (hs:List (Nat×Nat)):Option St:=
 match CS P (execOp (BN n E) o) ms with
 | some (.value v,ms')=>some ⟨todo,Bc E o.dst v,ms',hs⟩
 | some (.skip,ms')=>some ⟨todo,Bc E o.dst undef,ms',hs⟩
 | _=>none
def Q5 (P:Program) (n:Nat) (ops:Array Oper) (i:Nat) (s:St) (todo:List Item):Option St:=
 match ops[i]? with
 | none=>none
 | some o=>match Region.wanted o (Hy n ops s.env) with
  | false=>some { s with todo:=todo,env:=Bc s.env o.dst undef }
  | true=>match lx o.op with
   | true=>none
   | false=>match uF o.op with
    | true=>match s.hs with
     | h :: hs=>QT P n o s.env todo { s.ms with hint:=h } hs
     | []=>none
    | false=>QT P n o s.env todo s.ms s.hs
def NC (P:Program) (n:Nat) (s:St):Option St:=
 match s.todo with
 | .code .skip :: k=>some { s with todo:=k }
 | .code (.label _) :: k=>some { s with todo:=k }
 | .inBlock _ :: k=>some { s with todo:=k }
 | .code (.seq x y) :: k=>some { s with todo:=.code x :: .code y :: k }
 | .code (.block id c) :: k=>some { s with todo:=.code c :: .inBlock id :: k }
 | .code (.exit id) :: k=>match exitTo id k with
  | some k'=>some { s with todo:=k' }
  | none=>none
 | .code (.region _ ops false) :: k=>some { s with todo:=.inRegion ops (List.range ops.size) :: k }
 | .inRegion _ [] :: k=>some { s with todo:=k }
 | .inRegion ops (i :: r) :: k=>Q5 P n ops i s (.inRegion ops r :: k)
 | _=>none
def Hu (P:Program) (n:Nat):Nat→St→St
 | 0,s=>s
 | m + 1,s=>match NC P n s with
  | some s'=>Hu P n m s'
  | none=>s
theorem Tq {n:Nat} {o:Oper} {E:Nat→Value} {todo:List Item} {ms:MS} {hs:List (Nat×Nat)} {s':St} (h:QT P n o E todo ms hs=some s'):∀ p∈ms.eqs,p∈s'.ms.eqs:=by
 unfold QT at h
 split at h
 ·rename_i v ms' hr; obtain rfl:=Option.some.inj h; exact Lt _ _ _ _ hr
 ·rename_i ms' hr; obtain rfl:=Option.some.inj h; exact Lt _ _ _ _ hr
 ·cases h
theorem Vr {n:Nat} {ops:Array Oper} {i:Nat} {s s':St} {todo:List Item} (h:Q5 P n ops i s todo=some s'):∀ p∈s.ms.eqs,p∈s'.ms.eqs:=by
 unfold Q5 at h
 split at h
 ·cases h
 ·split at h
  ·obtain rfl:=Option.some.inj h; exact fun p a=>a
  ·split at h
   ·cases h
   ·split at h
    ·split at h
     ·exact fun p a=>Tq h p a
     ·cases h
    ·exact Tq h
theorem Qu {n:Nat} {s s':St} (h:NC P n s=some s'):∀ p∈s.ms.eqs,p∈s'.ms.eqs:=by
 unfold NC at h
 split at h
 case h_9=>exact Vr h
 case h_6=>
  split at h
  ·obtain rfl:=Option.some.inj h; exact fun p a=>a
  ·cases h
 case h_10=>cases h
 all_goals (obtain rfl:=Option.some.inj h; exact fun p a=>a)
theorem WC {n:Nat}:∀ (m:Nat) (s:St),∀ p∈s.ms.eqs,p∈(Hu P n m s).ms.eqs
 | 0,_,p,hp=>hp
 | m + 1,s,p,hp=>by
  unfold Hu
  split
  ·rename_i s' hs; exact WC m s' p (Qu hs p hp)
  ·exact hp
structure DH (O:List Nat) (B:Nat) (w:World) (s:MS):Prop where
 sat:QL w s.sz s.mem
 le:B≤w.heap.size
 own:∀ e∈s.mem,e.own=true→e.id∈O∨B≤e.id
theorem FU {ops:Array Oper} {Q:Exit→Act→World→Prop} {i:Nat} {b:List Nat} {a:Act} {w:World} {o:Oper} (ho:ops[i]?=some o) (c:Region.wanted o (yielded ops a.tmps)=true) (h:o.wp P a w (wpOps P ops Q b) Q):wpOps P ops Q (i :: b) a w:=by
 unfold wpOps
 simp only [ho,c,if_true]
 exact .inl h
theorem Qt {ops:Array Oper} {Q:Exit→Act→World→Prop} {i:Nat} {b:List Nat} {a:Act} {w:World} {o:Oper} (ho:ops[i]?=some o) (c:Region.wanted o (yielded ops a.tmps)=false) (h:wpOps P ops Q b (a.put o.dst undef) w):wpOps P ops Q (i :: b) a w:=by
 unfold wpOps
 simp only [ho,c,Bool.false_eq_true,if_false]
 exact h
theorem PL {O:List Nat} {B n:Nat} {ops:Array Oper} {i:Nat} {r:List Nat} {k:List Item} {o:Oper} {E:Nat→Value} {ms:MS} {hs:List (Nat×Nat)} {s':St} {w:World} (ho:ops[i]?=some o) (g:Region.wanted o (Hy n ops E)=true)
  (h:QT P n o E (.inRegion ops r :: k) ms hs=some s') (a:DH O B w ms) (he:∀ p∈s'.ms.eqs,p.1=p.2)
  (e:∀ w',DH O B w' s'.ms→EC O B w w'→At P f R s'.todo (Fr n s'.env) w'):At P f R (.inRegion ops (i :: r) :: k) (Fr n E) w:=by
 refine FU ho (by rw [Ez]; exact g) ?_
 unfold Oper.wp
 rw [Cm]
 unfold QT at h
 split at h
 ·rename_i v ms' hr
  obtain rfl:=Option.some.inj h
  obtain ⟨w',d,h2,b,c⟩:=Jt _ _ _ _ w hr a.sat a.le a.own he
  rw [d]
  show wpOps P ops _ r ((Fr n E).put o.dst v) w'
  rw [Dy]
  exact e w' ⟨h2,Nat.le_trans a.le b.size,c⟩ b
 ·rename_i ms' hr
  obtain rfl:=Option.some.inj h
  obtain ⟨w',d,h2,b,c⟩:=Jt _ _ _ _ w hr a.sat a.le a.own he
  rw [d]
  show wpOps P ops _ r ((Fr n E).put o.dst undef) w'
  rw [Dy]
  exact e w' ⟨h2,Nat.le_trans a.le b.size,c⟩ b
 ·cases h
theorem Q4 {O:List Nat} {B n:Nat} {ops:Array Oper} {i:Nat} {r:List Nat} {k:List Item} {s s':St} {w:World}
  (h:Q5 P n ops i s (.inRegion ops r :: k)=some s') (a:DH O B w s.ms) (he:∀ p∈s'.ms.eqs,p.1=p.2)
  (b:∀ w',DH O B w' s'.ms→EC O B w w'→At P f R s'.todo (Fr n s'.env) w'):At P f R (.inRegion ops (i :: r) :: k) (Fr n s.env) w:=by
 unfold Q5 at h
 split at h
 ·cases h
 ·rename_i o ho
  split at h
  ·rename_i hw
   obtain rfl:=Option.some.inj h
   refine Qt ho (by rw [Ez]; exact hw) ?_
   rw [Dy]
   exact b w a (.refl _ _ _)
  ·rename_i hw
   split at h
   ·cases h
   ·split at h
    ·split at h
     ·exact PL ho hw h ⟨a.sat,a.le,a.own⟩ he b
     ·cases h
    ·exact PL ho hw h a he b
theorem Di {todo todo':List Item} {a:Act} {w:World} (hn:∀ ops l k,todo≠.inRegion ops l :: k) (hs:∀ cs,step P (lone ((base f).at a todo) cs w)=.next (lone ((base f).at a todo') cs w)) (h:At P f R todo' a w):At P f R todo a w:=
 dz (JZ.steps (fun cs=>.one (hs cs)) h.mid) hn
theorem Nf {O:List Nat} {B n:Nat} {s s':St} {w:World}
  (h:NC P n s=some s') (b:DH O B w s.ms) (he:∀ p∈s'.ms.eqs,p.1=p.2)
  (a:∀ w',DH O B w' s'.ms→EC O B w w'→At P f R s'.todo (Fr n s'.env) w'):At P f R s.todo (Fr n s.env) w:=by
 unfold NC at h
 split at h
 case h_1 hc=>obtain rfl:=Option.some.inj h; rw [hc]; exact Di (by simp) (fun _=>step_skip) (a w b (.refl _ _ _))
 case h_2 hc=>obtain rfl:=Option.some.inj h; rw [hc]; exact Di (by simp) (fun _=>step_label) (a w b (.refl _ _ _))
 case h_3 hc=>obtain rfl:=Option.some.inj h; rw [hc]; exact Di (by simp) (fun _=>step_inBlock) (a w b (.refl _ _ _))
 case h_4 hc=>obtain rfl:=Option.some.inj h; rw [hc]; exact Di (by simp) (fun _=>step_seq) (a w b (.refl _ _ _))
 case h_5 hc=>obtain rfl:=Option.some.inj h; rw [hc]; exact Di (by simp) (fun _=>step_block) (a w b (.refl _ _ _))
 case h_6 hc=>
  split at h
  ·rename_i k' hx
   obtain rfl:=Option.some.inj h; rw [hc]; exact Di (by simp) (fun _=>step_exit hx) (a w b (.refl _ _ _))
  ·cases h
 case h_7 hc=>obtain rfl:=Option.some.inj h; rw [hc]; exact Di (by simp) (fun _=>step_region) (a w b (.refl _ _ _))
 case h_8 hc=>
  obtain rfl:=Option.some.inj h; rw [hc]
  exact ⟨rfl,(a w b (.refl _ _ _)).mid⟩
 case h_9 hc=>rw [hc]; exact Q4 h b he a
 case h_10=>cases h
theorem QH {O:List Nat} {B n:Nat}:∀ (m:Nat) (s:St) (w:World),DH O B w s.ms→(∀ p∈(Hu P n m s).ms.eqs,p.1=p.2)→
  (∀ w',DH O B w' (Hu P n m s).ms→EC O B w w'→At P f R (Hu P n m s).todo (Fr n (Hu P n m s).env) w')→At P f R s.todo (Fr n s.env) w
 | 0,s,w,hL,_,hk=>hk w hL (.refl _ _ _)
 | m + 1,s,w,hL,he,hk=>by
  unfold Hu at he hk
  split at he
  ·rename_i s' hs
   simp only [hs] at hk
   refine Nf hs hL (fun p e=>he p (WC m s' p e)) fun w' c g=>?_
   exact QH m s' w' c he fun b a d=>hk b a (g.trans d)
  ·rename_i hs
   simp only [hs] at hk
   exact hk w hL (.refl _ _ _)
end
end Go.Proofs.YtmcpjkcggfmcmaaGreatDoor
namespace Go.Proofs.YtmcpjkcggfmcmaaGreatDoor
section
variable {P:Program} {f:FuncId} {R:Ending→World→Prop}
theorem U4 {O:List Nat} {B n:Nat} (m:Nat) (s:St) {w:World} (d:DH O B w s.ms) (he:(Hu P n m s).ms.eqs.map Prod.fst=(Hu P n m s).ms.eqs.map Prod.snd)
  (c:∀ w',DH O B w' (Hu P n m s).ms→EC O B w w'→At P f R (Hu P n m s).todo (Fr n (Hu P n m s).env) w'):At P f R s.todo (Fr n s.env) w:=by
 refine QH m s w d (fun p b=>?_) c
 obtain ⟨i,hi⟩:=List.mem_iff_getElem?.1 b
 have a:((Hu P n m s).ms.eqs.map Prod.fst)[i]?=some p.1:=by rw [List.getElem?_map,hi]; rfl
 have h2:((Hu P n m s).ms.eqs.map Prod.snd)[i]?=some p.2:=by rw [List.getElem?_map,hi]; rfl
 rw [he,h2] at a
 exact (Option.some.inj a).symm
def Aw (E:Nat→Value):List (Nat×Value)→Nat→Value
 | []=>E
 | p :: l=>Jj (Aw E l) p.1 p.2
theorem Fy {E:Nat→Value}:∀ {l:List (Nat×Value)},l.map (fun p=>E p.1)=l.map (·.2)→Aw E l=E
 | [],_=>rfl
 | p :: l,h=>by
  rw [List.map_cons,List.map_cons,List.cons.injEq] at h
  unfold Aw
  rw [Fy h.2]
  funext t
  unfold Jj
  split
  ·rename_i ht; rw [ht]; exact h.1.symm
  ·rfl
theorem EQ {n:Nat} {todo:List Item} {E:Nat→Value} {w:World} (l:List (Nat×Value)) (h:l.map (fun p=>E p.1)=l.map (·.2)) (a:∀ E',At P f R todo (Fr n (Aw E' l)) w):At P f R todo (Fr n E) w:=by
 have:=a E
 rw [Fy h] at this
 exact this
theorem NO {n:Nat} {todo todo':List Item} {E:Nat→Value} {w:World} (h:todo=todo') (a:At P f R todo' (Fr n E) w):At P f R todo (Fr n E) w:=h ▸ a
def AE:List Item→List Item
 | .inRegion ops (_ :: r) :: k=>.inRegion ops r :: k
 | t=>t
def J0 (n:Nat) (E:Nat→Value):List Item→Option (FuncId×List Operand×Option Tmp)
 | .inRegion ops (i :: _) :: _=>match ops[i]? with
  | some o=>match Region.wanted o (Hy n ops E) with
   | true=>match o.op with
    | .call ⟨.value (.func g),xs,_⟩=>some (g,xs.toList,o.dst)
    | _=>none
   | false=>none
  | none=>none
 | _=>none
def Dw (P:Program) (g:FuncId):Bool:=match P.funcs[g]? with
 | some fn=>fn.body.isSome && !(fn.name == "runtime.NumGoroutine")
 | none=>false
theorem BW {g:FuncId} (args:Array Value) (w:World) (h:Dw P g=true:=by kernel_rfl):(callFunc g args).run P w=.ok (.enter g args) w:=by
 unfold Dw at h
 split at h
 ·rename_i fn hf
  rw [Bool.and_eq_true] at h
  obtain ⟨h1,h2⟩:=h
  have h3:(fn.name == "runtime.NumGoroutine")=false:=by simpa using h2
  have h4:fn.body.isNone=false:=by cases hb:fn.body <;> simp [hb] at h1 ⊢
  obtain ⟨X,e⟩:∃ X:Sem Next,(callFunc g args).run P w=(if fn.name == "runtime.NumGoroutine" then (pure .numGoroutine:Sem Next) else if fn.body.isNone then X else pure (.enter g args)).run P w:=by
   apply Exists.intro
   unfold callFunc
   rw [Sem.run_bind]
   simp only [program,Sem.run,Result.andThen_ok,hf]
   rfl
  rw [e,h3,h4]
  rfl
 ·cases h
theorem Cw {n:Nat} {todo:List Item} {E:Nat→Value} {w:World} (g:FuncId) (xs:List Operand) (dst:Option Tmp) (args:List Value) (h:Calls P g args.toArray w fun e w'=>∃ v,e=.returned v∧At P f R (AE todo) (Fr n (Bc E dst v)) w') (hc:J0 n E todo=some (g,xs,dst):=by kernel_rfl) (ha:xs.map (BN n E)=args:=by kernel_rfl) (hg:Dw P g=true:=by kernel_rfl):At P f R todo (Fr n E) w:=by
 unfold J0 at hc
 split at hc
 ·rename_i ops i r k
  split at hc
  ·rename_i o ho
   split at hc
   ·rename_i hw
    split at hc
    ·rename_i g' xs' ats hop
     simp only [Option.some.injEq,Prod.mk.injEq] at hc
     obtain ⟨rfl,rfl,rfl⟩:=hc
     refine FU ho (by rw [Ez]; exact hw) ?_
     unfold Oper.wp
     rw [Cm]
     have e:(execOp (BN n E) o).run P w=.ok (.enter g' args.toArray) w:=by
      rw [← BW (h:=hg) args.toArray w,← ha]
      obtain ⟨d,op,ty,c,p,l⟩:=o
      simp only at hop
      subst hop
      unfold execOp resolve
      have a:xs'.toList.map (BN n E)=(xs'.map (BN n E)).toList:=by simp
      simp only [a,Array.toArray_toList]
      show ((Deferred.ofValue (.func (.func g') #[] #[]) (xs'.map (BN n E))).bind fun d=>invoke d.target d.args).run P w=_
      unfold Deferred.ofValue
      simp [invoke,pure,Sem.bind]
     rw [e]
     refine h.mono fun m w' j=>?_
     obtain ⟨v,rfl,b⟩:=j
     show wpOps P ops _ r ((Fr n E).put o.dst v) w'
     rw [Dy]
     exact b
    ·cases hc
   ·cases hc
  ·cases hc
 ·cases hc
def Qd:List Item→Option Operand
 | .code (.cond c _ _) :: _=>some c
 | _=>none
def AG:List Item→List Item
 | .code (.cond _ x _) :: k=>.code x :: k
 | t=>t
def AL:List Item→List Item
 | .code (.cond _ _ y) :: k=>.code y :: k
 | t=>t
theorem Cf {n:Nat} {todo:List Item} {E:Nat→Value} {w:World} (t:Bool) (a:t=true→At P f R (AG todo) (Fr n E) w) (h2:t=false→At P f R (AL todo) (Fr n E) w) (hc:(Qd todo).map (BN n E)=some (.bool t):=by kernel_rfl):At P f R todo (Fr n E) w:=by
 unfold Qd at hc
 split at hc
 ·rename_i c x y k
  have hv:(Fr n E).eval c=.bool t:=by rw [Cm]; simpa using hc
  cases t with
  | true=>exact Di (by simp) (fun _=>step_cond hv) (a rfl)
  | false=>exact Di (by simp) (fun _=>step_cond hv) (h2 rfl)
 ·cases hc
def LH:List Item→Bool
 | .code (.loop _) :: _=>true
 | _=>false
def Ay:List Item→List Item
 | .code (.loop c) :: k=>.code c :: .inLoop c :: k
 | t=>t
def Aj:List Item→List Item
 | .code (.loop c) :: k=>.inLoop c :: k
 | t=>t
theorem Bi {n:Nat} {todo:List Item} {E:Nat→Value} {w:World} (hl:LH todo=true) (I:(Nat→Value)→World→Prop) (μ:(Nat→Value)→World→Nat) (h:I E w)
  (a:∀ E w,I E w→(∀ b w',I b w'→μ b w' < μ E w→At P f R (Aj todo) (Fr n b) w')→At P f R (Ay todo) (Fr n E) w):At P f R todo (Fr n E) w:=by
 unfold LH at hl
 split at hl
 ·rename_i c k
  have key:∀ (m:Nat) (E:Nat→Value) (w:World),μ E w=m→I E w→At P f R (.code c :: .inLoop c :: k) (Fr n E) w:=by
   intro m
   induction m using Nat.strongRecOn with
   | _ m ih=>
    intro E w hm g
    refine a E w g fun b w' e d=>?_
    exact Di (by simp [Aj]) (fun _=>step_inLoop) (ih _ (hm ▸ d) b w' rfl e)
  exact Di (by simp) (fun _=>step_loop) (key _ E w rfl h)
 ·cases hl
def Dn {α:Type} (P:Program):Sem α→MS→Option (α×MS)
 | .pure a,s=>some (a,s)
 | .load _ a k,s=>match s.mem[s.hint.1]? with
  | some e=>match e.cells[s.hint.2]?,a.spot with
   | some v,none=>Dn P (k v) { s with hint:=(s.hint.1,s.hint.2 + 1),eqs:=(a.block,e.id) :: (a.off,e.off + s.hint.2) :: s.eqs }
   | _,_=>none
  | none=>none
 | .program k,s=>Dn P (k P) s
 | .mark _ k,s=>Dn P k s
 | _,_=>none
theorem iK {α:Type}:∀ (s:Sem α) (m b:MS) (a:α),Dn P s m=some (a,b)→∀ p∈m.eqs,p∈b.eqs:=by
 intro s
 induction s with
 | pure a=>intro m b x h p c; simp only [Dn,Option.some.injEq,Prod.mk.injEq] at h; rw [← h.2]; exact c
 | load md a k ih=>
  intro m b x h p c
  unfold Dn at h
  split at h
  ·split at h
   ·exact ih _ _ _ _ h p (by simp [c])
   ·cases h
  ·cases h
 | program k ih=>intro m b x h p c; unfold Dn at h; exact ih _ _ _ _ h p c
 | mark mk k ih=>intro m b x h p c; unfold Dn at h; exact ih _ _ _ h p c
 | _=>intro m b x h; unfold Dn at h; cases h
theorem Ij {α:Type} {w:World}:∀ (s:Sem α) (m b:MS) (a:α),Dn P s m=some (a,b)→(∀ e∈m.mem,e.good w)→(∀ p∈b.eqs,p.1=p.2)→s.run P w=.ok a w:=by
 intro s
 induction s with
 | pure a=>intro m b x h c he; simp only [Dn,Option.some.injEq,Prod.mk.injEq] at h; rw [← h.1]; rfl
 | load md a k ih=>
  intro m b x h c he
  unfold Dn at h
  split at h
  ·rename_i e hm
   split at h
   ·rename_i v hv hsp
    have d:=iK _ _ _ _ h
    have g:=he _ (d (a.block,e.id) (by simp))
    have f:=he _ (d (a.off,e.off + m.hint.2) (by simp))
    unfold Sem.run
    rw [Fl (c e (List.mem_of_getElem? hm)) hv g f hsp]
    exact ih v _ _ _ h c he
   ·cases h
  ·cases h
 | program k ih=>intro m b x h c he; unfold Dn at h; exact ih _ _ _ _ h c he
 | mark mk k ih=>intro m b x h c he; unfold Dn at h; exact ih _ _ _ h c he
 | _=>intro m b x h; unfold Dn at h; cases h
def Fg (fn:Func) (n:Nat) (E:Nat→Value):Sem Value:=do
 let vs ← fn.results.mapM fun
  | .tmp t=>pure (BN n E (.tmp t))
  | .cell a t=>do loadVar t (← asAddr (BN n E (.tmp a)))
 pure (if h:vs.size=1 then vs[0] else .tuple vs)
theorem Y3 (fn:Func) (n:Nat) (E:Nat→Value):results fn (Fr n E).tmps=Fg fn n E:=by
 unfold results Fg
 have:∀ t,(Fr n E).tmps.getD t undef=BN n E (.tmp t):=fun t=>congrFun (Cm n E) (.tmp t)
 simp only [this]
 rfl
def Pa:List Item→Bool
 | .code .ret :: _ | []=>true
 | _=>false
theorem QE {n:Nat} {todo:List Item} {E:Nat→Value} {w:World} {fn:Func} (hr:Pa todo=true) (hf:P.funcs[f]?=some fn) (m:MS) (hg:∀ e∈m.mem,e.good w) (v:Value) (hv:(Dn P (Fg fn n E) m).map (·.1)=some v)
  (he:((Dn P (Fg fn n E) m).map (·.2.eqs.map Prod.fst))=((Dn P (Fg fn n E) m).map (·.2.eqs.map Prod.snd))) (hR:R (.returned v) w):At P f R todo (Fr n E) w:=by
 cases hl:Dn P (Fg fn n E) m with
 | none=>rw [hl] at hv; cases hv
 | some p=>
  obtain ⟨b,c⟩:=p
  rw [hl] at hv he
  obtain rfl:b=v:=Option.some.inj hv
  have d:c.eqs.map Prod.fst=c.eqs.map Prod.snd:=Option.some.inj he
  have a:(results fn (Fr n E).tmps).run P w=.ok b w:=by
   rw [Y3]
   refine Ij _ _ _ _ hl hg fun p h=>?_
   obtain ⟨i,hi⟩:=List.mem_iff_getElem?.1 h
   have g:(c.eqs.map Prod.fst)[i]?=some p.1:=by rw [List.getElem?_map,hi]; rfl
   have h2:(c.eqs.map Prod.snd)[i]?=some p.2:=by rw [List.getElem?_map,hi]; rfl
   rw [d,h2] at g
   exact (Option.some.inj g).symm
  unfold Pa at hr
  split at hr
  ·intro cs
   exact ⟨.returned b,w,_,hR,.one step_ret,rfl,rfl,rfl,rfl,fn,hf,a⟩
  ·intro cs
   exact ⟨.returned b,w,_,hR,.one step_end,rfl,rfl,rfl,rfl,fn,hf,a⟩
  ·cases hr
def Fc:List Item→Option (Array Oper)
 | .code (.region _ ops true) :: _=>some ops
 | _=>none
def AP:List Item→List Item
 | _ :: k=>k
 | []=>[]
theorem C4 {n:Nat} {todo:List Item} {E:Nat→Value} {w:World} (ops:Array Oper) (m:Nat) (h:wpAny P .any ops (fun e a w=>e=.normal∧JZ P f R (AP todo) a w) m (Array.replicate m false) (Fr n E) w.drew) (hd:Fc todo=some ops:=by kernel_rfl) (hm:P.follows .mixedOrders=true:=by kernel_rfl) (hs:ops.size=m:=by kernel_rfl):At P f R todo (Fr n E) w:=by
 unfold Fc at hd
 split at hd
 ·rename_i id ops' k
  obtain rfl:=Option.some.inj hd
  subst hs
  exact cG (wp_region_any hm h)
 ·cases hd
def Eu (ops:Array Oper) (vals:Nat→Value) (A:List Nat) (E:Nat→Value):Nat→Value:=A.foldl (fun E i=>Bc E (D9 ops i) (vals i)) E
theorem UV (ops:Array Oper) (a:Nat→Value) (n:Nat):∀ (A:List Nat) (E:Nat→Value),Ey ops a A (Fr n E)=Fr n (Eu ops a A E)
 | [],_=>rfl
 | i :: A,E=>by
  have:=UV ops a n A (Bc E (D9 ops i) (a i))
  rw [← Dy] at this
  exact this
end
end Go.Proofs.YtmcpjkcggfmcmaaGreatDoor

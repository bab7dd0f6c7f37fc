/- Contracts of functions, part 1. -/
import Derived.Test.YtkpemkkbjfbmaaaGreatMc00
import Derived.KernelRfl
import Derived.Orders
import Derived.Laws.Cells
import Derived.Laws.MakeOwn
import Derived.Test.YtkpemkkbjfbmaaaGreatProg
import Derived.WalkKit
import Derived.WalkSpells
import Derived.WalkLawsBesides
import Derived.Outline
import Derived.Lib.Hide
import Derived.Deep.DeepFit
import Derived.Deep.QuietTactic
import Derived.BigQuiet
set_option linter.all false
namespace Go.Proofs.YtkpemkkbjfbmaaaGreat
open List
def base (f:FuncId):Frame:={ (default:Frame)with fn:=f,kind:=.normal }
def IM (P:Program) (f:FuncId) (R:Ending->World->Prop) (todo:List Item) (a:Act) (w:World):Prop:=
 ∀cs,∃e w' fr,R e w'/\Comes P (lone ((base f).at a todo) cs w) (lone fr cs w') e/\fr.fn=f/\fr.leaving P w' e
section
variable {P:Program} {f:FuncId} {R:Ending->World->Prop}
theorem IM.steps {todo todo':List Item} {a b:Act} {w w':World} (hs:∀cs,Steps P (lone ((base f).at a todo) cs w) (lone ((base f).at b todo') cs w')) (h:IM P f R todo' b w'):IM P f R todo a w:=
 λcs=>let ⟨e,u,fr,h1,h2,h3⟩:=h cs;⟨e,u,fr,h1,Comes.of_steps (hs cs) h2,h3⟩
theorem mW {c:Code} {k:List Item} {a:Act} {w:World} (h:c.wp P (λe d w'=>e=.normal/\IM P f R k d w') a w):IM P f R (.code c::k) a w:=by intro cs;obtain⟨e,d,w',⟨rfl,hm⟩,b⟩:=h (base f) k cs;obtain⟨e,u,fr,i,h2,g⟩:=hm cs;exact⟨e,u,fr,i,Comes.of_steps b h2,g⟩
theorem xm {ops:Array Oper} {l:List Nat} {k:List Item} {a:Act} {w:World} (h:wpOps P ops (λe c w'=>e=.normal/\IM P f R k c w') l a w):IM P f R (.inRegion ops l::k) a w:=by intro cs;obtain⟨e,c,w',⟨rfl,hm⟩,b⟩:=wp_ops l a w h (base f) k cs;obtain⟨e,u,fr,g,h2,d⟩:=hm cs;exact⟨e,u,fr,g,Comes.of_steps b h2,d⟩
theorem oQ {fn:Func} {c:Code} {args:List Value} {w:World} (hf:P.funcs[f]?=some fn) (hb:fn.body=some c)
  (h:IM P f R [.code c] (Fr fn.ntmps (λt=>args.getD t undef)) w) (hn:args.length<=fn.ntmps):Calls P f args.toArray w R:=by
 intro cs;have a:Frame.enter P f args.toArray .normal=(base f).at (Fr fn.ntmps (λt=>args.getD t undef)) [.code c]:=by
  have e:(args.toArray++Array.replicate (fn.ntmps-args.toArray.size) undef)=(Fr fn.ntmps (λt=>args.getD t undef)).tmps:=by
   refine Array.ext_getElem? λt=>?_;rw[OO,Array.getElem?_append,Array.getElem?_replicate];simp only[size_toArray,getElem?_toArray];by_cases h1:t<args.length
   ·have h2:t<fn.ntmps:=by omega
    simp[h1,h2,getD_eq_getElem?_getD]
   by_cases h2:t<fn.ntmps
   ·have b:t-args.length<fn.ntmps-args.length:=by omega
    simp[h1,h2,b,getD_eq_getElem?_getD]
   have b:¬t-args.length<fn.ntmps-args.length:=by omega
   simp[h1,h2,b]
  simp[Frame.enter,Frame.at,hf,hb,base];exact⟨by simpa using e,rfl⟩
 rw[a];exact h cs
def At (P:Program) (f:FuncId) (R:Ending->World->Prop):List Item->Act->World->Prop
 | .inRegion ops l::k,a,w=>wpOps P ops (λe a w=>e=.normal/\IM P f R k a w) l a w
 | todo,a,w=>IM P f R todo a w
theorem At.mid {todo:List Item} {a:Act} {w:World} (h:At P f R todo a w):IM P f R todo a w:=by
 cases todo with
 | nil=>exact h
 | cons x k=>cases x<;>first | exact xm h | exact h
theorem oV {todo:List Item} {a:Act} {w:World} (h:IM P f R todo a w) (hn:∀ops l k,todo≠.inRegion ops l::k):At P f R todo a w:=by
 cases todo with
 | nil=>exact h
 | cons x k=>cases x<;>first | exact(hn _ _ _ rfl).elim | exact h
structure St where
 todo:List Item
 env:Nat->Value
 ms:MS
 hs:List (Nat×Nat)
def wi:Op->Bool
 | .call ⟨.builtin .len,_,_⟩ | .call ⟨.builtin .cap,_,_⟩ | .call ⟨.builtin .min,_,_⟩ | .call ⟨.builtin .max,_,_⟩=>false
 | .call _ | .select .. | .go _ | .defer _ | .panic _ | .send .. | .recv .. | .range .. | .next .. | .entry _ | .mapUpdate .. | .lookup .. | .index ..=>true
 | _=>false
def AGK:Op->Bool
 | .load .. | .store ..=>true
 | _=>false
def SH (P:Program) (n:Nat) (o:Oper) (E:Nat->Value) (todo:List Item) (ms:MS) (hs:List (Nat×Nat)):Option St:=
 match Ce P (execOp (BK n E) o) ms with
 | some (.value v,ms')=>some ⟨todo,A8 E o.dst v,ms',hs⟩
 | some (.skip,ms')=>some ⟨todo,A8 E o.dst undef,ms',hs⟩
 | _=>none
def TG (P:Program) (n:Nat) (ops:Array Oper) (i:Nat) (s:St) (todo:List Item):Option St:=
 match ops[i]? with
 | none=>none
 | some o=>match Region.wanted o (IU n ops s.env)with
  | false=>some { s with todo:=todo,env:=A8 s.env o.dst undef }
  | true=>match wi o.op with
   | true=>none
   | false=>match AGK o.op with
    | true=>match s.hs with
     | h::hs=>SH P n o s.env todo { s.ms with hint:=h } hs
     | []=>none
    | false=>SH P n o s.env todo s.ms s.hs
def OW (P:Program) (n:Nat) (s:St):Option St:=
 match s.todo with
 | .code .skip::k=>some { s with todo:=k }
 | .code (.label _)::k=>some { s with todo:=k }
 | .inBlock _::k=>some { s with todo:=k }
 | .code (.seq x y)::k=>some { s with todo:=.code x :: .code y::k }
 | .code (.block id c)::k=>some { s with todo:=.code c :: .inBlock id::k }
 | .code (.exit id)::k=>match exitTo id k with
  | some k'=>some { s with todo:=k' }
  | none=>none
 | .code (.region _ ops false)::k=>some { s with todo:=.inRegion ops (List.range ops.size)::k }
 | .inRegion _ []::k=>some { s with todo:=k }
 | .inRegion ops (i::r)::k=>TG P n ops i s (.inRegion ops r::k)
 | _=>none
def IL (P:Program) (n:Nat):Nat->St->St
 | 0,s=>s
 | m+1,s=>match OW P n s with
  | some s'=>IL P n m s'
  | none=>s
theorem W4 {n:Nat} {o:Oper} {E:Nat->Value} {todo:List Item} {ms:MS} {hs:List (Nat×Nat)} {s':St} (h:SH P n o E todo ms hs=some s'):∀p∈ms.eqs,p∈s'.ms.eqs:=by
 unfold SH at h
 split at h
 ·rename_i v ms' hr;obtain rfl:=Option.some.inj h;exact Ms _ _ _ _ hr
 ·rename_i ms' hr;obtain rfl:=Option.some.inj h;exact Ms _ _ _ _ hr
 cases h
theorem Za {n:Nat} {ops:Array Oper} {i:Nat} {s s':St} {todo:List Item} (h:TG P n ops i s todo=some s'):∀p∈s.ms.eqs,p∈s'.ms.eqs:=by
 unfold TG at h
 split at h
 ·cases h
 split at h
 ·obtain rfl:=Option.some.inj h;exact λp a=>a
 split at h
 ·cases h
 split at h
 ·split at h
  ·exact λp a=>W4 h p a
  cases h
 exact W4 h
theorem Sx {n:Nat} {s s':St} (h:OW P n s=some s'):∀p∈s.ms.eqs,p∈s'.ms.eqs:=by
 unfold OW at h
 split at h
 case h_9=>exact Za h
 case h_6=>
  split at h
  ·obtain rfl:=Option.some.inj h;exact λp a=>a
  cases h
 case h_10=>cases h
 all_goals (obtain rfl:=Option.some.inj h;exact λp a=>a)
theorem bD {n:Nat}:∀(m:Nat) (s:St),∀p∈s.ms.eqs,p∈(IL P n m s).ms.eqs
 | 0,_,p,hp=>hp
 | m+1,s,p,hp=>by
  unfold IL
  split
  ·rename_i s' hs;exact bD m s' p (Sx hs p hp)
  exact hp
structure En (O:List Nat) (B:Nat) (w:World) (s:MS):Prop where
 sat:SA w s.sz s.mem
 le:B<=(U w)
 own:∀e∈s.mem,e.own=true->e.id∈O\/B<=e.id
theorem GC {ops:Array Oper} {Q:Exit->Act->World->Prop} {i:Nat} {b:List Nat} {a:Act} {w:World} {o:Oper} (ho:ops[i]?=some o) (c:Region.wanted o (yielded ops a.tmps)=true) (h:o.wp P a w (wpOps P ops Q b) Q):wpOps P ops Q (i::b) a w:=by unfold wpOps;simp only[ho,c,if_true];exact .inl h
theorem Su {ops:Array Oper} {Q:Exit->Act->World->Prop} {i:Nat} {b:List Nat} {a:Act} {w:World} {o:Oper} (ho:ops[i]?=some o) (c:Region.wanted o (yielded ops a.tmps)=false) (h:wpOps P ops Q b (a.put o.dst undef) w):wpOps P ops Q (i::b) a w:=by unfold wpOps;simp only[ho,c,Bool.false_eq_true,if_false];exact h
theorem Q9 {O:List Nat} {B n:Nat} {ops:Array Oper} {i:Nat} {r:List Nat} {k:List Item} {o:Oper} {E:Nat->Value} {ms:MS} {hs:List (Nat×Nat)} {s':St} {w:World} (ho:ops[i]?=some o) (g:Region.wanted o (IU n ops E)=true)
  (h:SH P n o E (.inRegion ops r::k) ms hs=some s') (a:En O B w ms) (he:∀p∈s'.ms.eqs,p.1=p.2)
  (e:∀w',En O B w' s'.ms->FN O B w w'->At P f R s'.todo (Fr n s'.env) w'):At P f R (.inRegion ops (i::r)::k) (Fr n E) w:=by
 refine GC ho (by rw[Fi];exact g) ?_;unfold Oper.wp;rw[D8];unfold SH at h
 split at h
 ·rename_i v ms' hr
  obtain rfl:=Option.some.inj h;obtain⟨w',d,h2,b,c⟩:=KT _ _ _ _ w hr a.sat a.le a.own he;rw[d];show wpOps P ops _ r ((Fr n E).put o.dst v) w';rw[Eo];exact e w' ⟨h2,Nat.le_trans a.le b.size,c⟩ b
 ·rename_i ms' hr
  obtain rfl:=Option.some.inj h;obtain⟨w',d,h2,b,c⟩:=KT _ _ _ _ w hr a.sat a.le a.own he;rw[d];show wpOps P ops _ r ((Fr n E).put o.dst undef) w';rw[Eo];exact e w' ⟨h2,Nat.le_trans a.le b.size,c⟩ b
 cases h
theorem TF {O:List Nat} {B n:Nat} {ops:Array Oper} {i:Nat} {r:List Nat} {k:List Item} {s s':St} {w:World}
  (h:TG P n ops i s (.inRegion ops r::k)=some s') (a:En O B w s.ms) (he:∀p∈s'.ms.eqs,p.1=p.2)
  (b:∀w',En O B w' s'.ms->FN O B w w'->At P f R s'.todo (Fr n s'.env) w'):At P f R (.inRegion ops (i::r)::k) (Fr n s.env) w:=by
 unfold TG at h
 split at h
 ·cases h
 rename_i o ho
 split at h
 ·rename_i hw
  obtain rfl:=Option.some.inj h;refine Su ho (by rw[Fi];exact hw) ?_;rw[Eo];exact b w a (.refl _ _ _)
 rename_i hw
 split at h
 ·cases h
 split at h
 ·split at h
  ·exact Q9 ho hw h ⟨a.sat,a.le,a.own⟩ he b
  cases h
 exact Q9 ho hw h a he b
theorem EP {todo todo':List Item} {a:Act} {w:World} (hn:∀ops l k,todo≠.inRegion ops l::k) (hs:∀cs,step P (lone ((base f).at a todo) cs w)=.next (lone ((base f).at a todo') cs w)) (h:At P f R todo' a w):At P f R todo a w:=
 oV (IM.steps (λcs=>.one (hs cs)) h.mid) hn
theorem O6 {O:List Nat} {B n:Nat} {s s':St} {w:World}
  (h:OW P n s=some s') (b:En O B w s.ms) (he:∀p∈s'.ms.eqs,p.1=p.2)
  (a:∀w',En O B w' s'.ms->FN O B w w'->At P f R s'.todo (Fr n s'.env) w'):At P f R s.todo (Fr n s.env) w:=by
 unfold OW at h
 split at h
 case h_1 hc=>obtain rfl:=Option.some.inj h;rw[hc];exact EP (by simp) (λ_=>step_skip) (a w b (.refl _ _ _))
 case h_2 hc=>obtain rfl:=Option.some.inj h;rw[hc];exact EP (by simp) (λ_=>step_label) (a w b (.refl _ _ _))
 case h_3 hc=>obtain rfl:=Option.some.inj h;rw[hc];exact EP (by simp) (λ_=>step_inBlock) (a w b (.refl _ _ _))
 case h_4 hc=>obtain rfl:=Option.some.inj h;rw[hc];exact EP (by simp) (λ_=>step_seq) (a w b (.refl _ _ _))
 case h_5 hc=>obtain rfl:=Option.some.inj h;rw[hc];exact EP (by simp) (λ_=>step_block) (a w b (.refl _ _ _))
 case h_6 hc=>
  split at h
  ·rename_i k' hx
   obtain rfl:=Option.some.inj h;rw[hc];exact EP (by simp) (λ_=>step_exit hx) (a w b (.refl _ _ _))
  cases h
 case h_7 hc=>obtain rfl:=Option.some.inj h;rw[hc];exact EP (by simp) (λ_=>step_region) (a w b (.refl _ _ _))
 case h_8 hc=>
  obtain rfl:=Option.some.inj h;rw[hc];exact⟨rfl,(a w b (.refl _ _ _)).mid⟩
 case h_9 hc=>rw[hc];exact TF h b he a
 case h_10=>cases h
theorem R6 {O:List Nat} {B n:Nat}:∀(m:Nat) (s:St) (w:World),En O B w s.ms->(∀p∈(IL P n m s).ms.eqs,p.1=p.2)->
  (∀w',En O B w' (IL P n m s).ms->FN O B w w'->At P f R (IL P n m s).todo (Fr n (IL P n m s).env) w')->At P f R s.todo (Fr n s.env) w
 | 0,s,w,hL,_,hk=>hk w hL (.refl _ _ _)
 | m+1,s,w,hL,he,hk=>by
  unfold IL at he hk
  split at he
  ·rename_i s' hs
   simp only[hs]at hk;refine O6 hs hL (λp e=>he p (bD m s' p e)) λw' c g=>?_;exact R6 m s' w' c he λb a d=>hk b a (g.trans d)
  rename_i hs
  simp only[hs]at hk;exact hk w hL (.refl _ _ _)
end
section
variable {P:Program} {f:FuncId} {R:Ending->World->Prop}
theorem YQ {O:List Nat} {B n:Nat} (m:Nat) (s:St) {w:World} (d:En O B w s.ms) (he:(IL P n m s).ms.eqs.map Prod.fst=(IL P n m s).ms.eqs.map Prod.snd)
  (c:∀w',En O B w' (IL P n m s).ms->FN O B w w'->At P f R (IL P n m s).todo (Fr n (IL P n m s).env) w'):At P f R s.todo (Fr n s.env) w:=by
 refine R6 m s w d (λp b=>?_) c;obtain⟨i,hi⟩:=mem_iff_getElem?.1 b;have a:((IL P n m s).ms.eqs.map Prod.fst)[i]?=some p.1:=by rw[getElem?_map,hi];rfl
 have h2:((IL P n m s).ms.eqs.map Prod.snd)[i]?=some p.2:=by rw[getElem?_map,hi];rfl
 rw[he,h2]at a;exact(Option.some.inj a).symm
def BN (E:Nat->Value):List (Nat×Value)->Nat->Value
 | []=>E
 | p::l=>KI (BN E l) p.1 p.2
theorem Nb {E:Nat->Value}:∀ {l:List (Nat×Value)},l.map (λp=>E p.1)=l.map (·.2)->BN E l=E
 | [],_=>rfl
 | p::l,h=>by
  rw[map_cons,map_cons,List.cons.injEq]at h;unfold BN;rw[Nb h.2];funext t;unfold KI
  split
  ·rename_i ht;rw[ht];exact h.1.symm
  rfl
theorem HE {n:Nat} {todo:List Item} {E:Nat->Value} {w:World} (l:List (Nat×Value)) (h:l.map (λp=>E p.1)=l.map (·.2)) (a:∀E',At P f R todo (Fr n (BN E' l)) w):At P f R todo (Fr n E) w:=by have:=a E;rw[Nb h]at this;exact this
theorem Ol {n:Nat} {todo todo':List Item} {E:Nat->Value} {w:World} (h:todo=todo') (a:At P f R todo' (Fr n E) w):At P f R todo (Fr n E) w:=h ▸ a
def AD:List Item->List Item
 | .inRegion ops (_::r)::k=>.inRegion ops r::k
 | t=>t
def Ja (n:Nat) (E:Nat->Value):List Item->Option (FuncId×List Operand×Option Tmp)
 | .inRegion ops (i::_)::_=>match ops[i]? with
  | some o=>match Region.wanted o (IU n ops E)with
   | true=>match o.op with
    | .call ⟨.value (.func g),xs,_⟩=>some (g,xs.toList,o.dst)
    | _=>none
   | false=>none
  | none=>none
 | _=>none
def Dr (P:Program) (g:FuncId):Bool:=match P.funcs[g]? with
 | some fn=>fn.body.isSome && !(fn.name == "runtime.NumGoroutine")
 | none=>false
theorem Cf {g:FuncId} (args:Array Value) (w:World) (h:Dr P g=true:=by kernel_rfl):(callFunc g args).run P w=.ok (.enter g args) w:=by
 unfold Dr at h
 split at h
 ·rename_i fn hf
  rw[Bool.and_eq_true]at h;obtain⟨h1,h2⟩:=h;have h3:(fn.name == "runtime.NumGoroutine")=false:=by simpa using h2
  have h4:fn.body.isNone=false:=by cases hb:fn.body<;>simp[hb]at h1 ⊢
  obtain⟨X,e⟩:∃X:Sem Next,(callFunc g args).run P w=(if fn.name == "runtime.NumGoroutine" then(pure .numGoroutine:Sem Next)else if fn.body.isNone then X else pure (.enter g args)).run P w:=by apply Exists.intro;unfold callFunc;rw[Sem.run_bind];simp only[program,Sem.run,Result.andThen_ok,hf];rfl
  rw[e,h3,h4];rfl
 cases h
theorem MP {n:Nat} {todo:List Item} {E:Nat->Value} {w:World} (g:FuncId) (xs:List Operand) (dst:Option Tmp) (args:List Value) (hc:Ja n E todo=some (g,xs,dst)) (ha:xs.map (BK n E)=args) (hg:Dr P g=true)
  (h:Calls P g args.toArray w λe w'=>∃v,e=.returned v/\At P f R (AD todo) (Fr n (A8 E dst v)) w'):At P f R todo (Fr n E) w:=by
 unfold Ja at hc
 split at hc
 ·rename_i ops i r k
  split at hc
  ·rename_i o ho
   split at hc
   ·rename_i hw
    split at hc
    ·rename_i g' xs' ats hop
     simp only[Option.some.injEq,Prod.mk.injEq]at hc;obtain⟨rfl,rfl,rfl⟩:=hc;refine GC ho (by rw[Fi];exact hw) ?_;unfold Oper.wp;rw[D8];have e:(execOp (BK n E) o).run P w=.ok (.enter g' args.toArray) w:=by
      rw[<-Cf (h:=hg) args.toArray w,<-ha];obtain⟨d,op,ty,pos,m,j⟩:=o;simp only at hop;subst hop;unfold execOp resolve;have a:xs'.toList.map (BK n E)=(xs'.map (BK n E)).toList:=by simp
      simp only[a,Array.toArray_toList];show((Deferred.ofValue (.func (.func g') #[] #[]) (xs'.map (BK n E))).bind λd=>invoke d.target d.args).run P w=_;unfold Deferred.ofValue;simp[invoke,pure,Sem.bind]
     rw[e];refine h.mono λl w' c=>?_;obtain⟨v,rfl,b⟩:=c;show wpOps P ops _ r ((Fr n E).put o.dst v) w';rw[Eo];exact b
    cases hc
   cases hc
  cases hc
 cases hc
def SV:List Item->Option Operand
 | .code (.cond c _ _)::_=>some c
 | _=>none
def AE:List Item->List Item
 | .code (.cond _ x _)::k=>.code x::k
 | t=>t
def AG:List Item->List Item
 | .code (.cond _ _ y)::k=>.code y::k
 | t=>t
theorem D9 {n:Nat} {todo:List Item} {E:Nat->Value} {w:World} (t:Bool) (a:t=true->At P f R (AE todo) (Fr n E) w) (h2:t=false->At P f R (AG todo) (Fr n E) w) (hc:(SV todo).map (BK n E)=some (I t):=by kernel_rfl):At P f R todo (Fr n E) w:=by
 unfold SV at hc
 split at hc
 ·rename_i c x y k
  have hv:(Fr n E).eval c=I t:=by rw[D8];simpa using hc
  cases t with
  | true=>exact EP (by simp) (λ_=>step_cond hv) (a rfl)
  | false=>exact EP (by simp) (λ_=>step_cond hv) (h2 rfl)
 cases hc
def mg:List Item->Bool
 | .code (.loop _)::_=>true
 | _=>false
def Au:List Item->List Item
 | .code (.loop c)::k=>.code c :: .inLoop c::k
 | t=>t
def Ab:List Item->List Item
 | .code (.loop c)::k=>.inLoop c::k
 | t=>t
theorem Bp {n:Nat} {todo:List Item} {E:Nat->Value} {w:World} (hl:mg todo=true) (ξ:(Nat->Value)->World->Prop) (μ:(Nat->Value)->World->Nat) (g:ξ E w)
  (round:∀E w,ξ E w->(∀a w',ξ a w'->μ a w' < μ E w->At P f R (Ab todo) (Fr n a) w')->At P f R (Au todo) (Fr n E) w):At P f R todo (Fr n E) w:=by
 unfold mg at hl
 split at hl
 ·rename_i c k
  have key:∀(m:Nat) (E:Nat->Value) (w:World),μ E w=m->ξ E w->At P f R (.code c :: .inLoop c::k) (Fr n E) w:=by
   intro m
   induction m using Nat.strongRecOn with
   | _ m ih=>
    intro E w hm e;refine round E w e λa w' d b=>?_;exact EP (by simp[Ab]) (λ_=>step_inLoop) (ih _ (hm ▸ b) a w' rfl d)
  exact EP (by simp) (λ_=>step_loop) (key _ E w rfl g)
 cases hl
def Dp {α:Type} (P:Program):Sem α->MS->Option (α×MS)
 | .pure a,s=>some (a,s)
 | .load _ a k,s=>match s.mem[s.hint.1]? with
  | some e=>match e.cells[s.hint.2]?,a.spot with
   | some v,none=>Dp P (k v) { s with hint:=(s.hint.1,s.hint.2+1),eqs:=(a.block,e.id)::(a.off,e.off+s.hint.2)::s.eqs }
   | _,_=>none
  | none=>none
 | .program k,s=>Dp P (k P) s
 | .mark _ k,s=>Dp P k s
 | _,_=>none
theorem qe {α:Type}:∀(s:Sem α) (m b:MS) (a:α),Dp P s m=some (a,b)->∀p∈m.eqs,p∈b.eqs:=by
 intro s
 induction s with
 | pure a=>intro m b x h p c;simp only[Dp,Option.some.injEq,Prod.mk.injEq]at h;rw[<-h.2];exact c
 | load md a k ih=>
  intro m b x h p c;unfold Dp at h
  split at h
  ·split at h
   ·exact ih _ _ _ _ h p (by simp[c])
   cases h
  cases h
 | program k ih=>intro m b x h p c;unfold Dp at h;exact ih _ _ _ _ h p c
 | mark mk k ih=>intro m b x h p c;unfold Dp at h;exact ih _ _ _ h p c
 | _=>intro m b x h;unfold Dp at h;cases h
theorem GK {α:Type} {w:World}:∀(s:Sem α) (m b:MS) (a:α),Dp P s m=some (a,b)->(∀e∈m.mem,e.good w)->(∀p∈b.eqs,p.1=p.2)->s.run P w=.ok a w:=by
 intro s
 induction s with
 | pure a=>intro m b x h c he;simp only[Dp,Option.some.injEq,Prod.mk.injEq]at h;rw[<-h.1];rfl
 | load md a k ih=>
  intro m b x h c he;unfold Dp at h
  split at h
  ·rename_i e hm
   split at h
   ·rename_i v hv hsp
    have d:=qe _ _ _ _ h;have g:=he _ (d (a.block,e.id) (by simp));have f:=he _ (d (a.off,e.off+m.hint.2) (by simp));unfold Sem.run;rw[FI (c e (mem_of_getElem? hm)) hv g f hsp];exact ih v _ _ _ h c he
   cases h
  cases h
 | program k ih=>intro m b x h c he;unfold Dp at h;exact ih _ _ _ _ h c he
 | mark mk k ih=>intro m b x h c he;unfold Dp at h;exact ih _ _ _ h c he
 | _=>intro m b x h;unfold Dp at h;cases h
def Fw (fn:Func) (n:Nat) (E:Nat->Value):Sem Value:=do
 let vs <-fn.results.mapM fun
  | .tmp t=>pure (BK n E (.tmp t))
  | .cell a t=>do loadVar t (<-asAddr (BK n E (.tmp a)))
 pure (if h:vs.size=1 then vs[0]else .tuple vs)
theorem gF (fn:Func) (n:Nat) (E:Nat->Value):results fn (Fr n E).tmps=Fw fn n E:=by unfold results Fw;have:∀t,(Fr n E).tmps.getD t undef=BK n E (.tmp t):=λt=>congrFun (D8 n E) (.tmp t);simp only[this];rfl
def Ra:List Item->Bool
 | .code .ret::_ | []=>true
 | _=>false
theorem oU {n:Nat} {todo:List Item} {E:Nat->Value} {w:World} {fn:Func} (hr:Ra todo=true) (hf:P.funcs[f]?=some fn) (m:MS) (hg:∀e∈m.mem,e.good w) (v:Value) (hv:(Dp P (Fw fn n E) m).map (·.1)=some v)
  (he:((Dp P (Fw fn n E) m).map (·.2.eqs.map Prod.fst))=((Dp P (Fw fn n E) m).map (·.2.eqs.map Prod.snd))) (hR:R (.returned v) w):At P f R todo (Fr n E) w:=by
 cases hl:Dp P (Fw fn n E) m with
 | none=>rw[hl]at hv;cases hv
 | some p=>
  obtain⟨b,c⟩:=p;rw[hl]at hv he;obtain rfl:b=v:=Option.some.inj hv;have d:c.eqs.map Prod.fst=c.eqs.map Prod.snd:=Option.some.inj he;have a:(results fn (Fr n E).tmps).run P w=.ok b w:=by
   rw[gF];refine GK _ _ _ _ hl hg λp h=>?_;obtain⟨i,hi⟩:=mem_iff_getElem?.1 h;have g:(c.eqs.map Prod.fst)[i]?=some p.1:=by rw[getElem?_map,hi];rfl
   have h2:(c.eqs.map Prod.snd)[i]?=some p.2:=by rw[getElem?_map,hi];rfl
   rw[d,h2]at g;exact(Option.some.inj g).symm
  unfold Ra at hr
  split at hr
  ·intro cs;exact⟨.returned b,w,_,hR,.one step_ret,rfl,rfl,rfl,rfl,fn,hf,a⟩
  ·intro cs;exact⟨.returned b,w,_,hR,.one step_end,rfl,rfl,rfl,rfl,fn,hf,a⟩
  cases hr
def GB:List Item->Option (Array Oper)
 | .code (.region _ ops true)::_=>some ops
 | _=>none
def AO:List Item->List Item
 | _::k=>k
 | []=>[]
theorem DK {n:Nat} {todo:List Item} {E:Nat->Value} {w:World} (ops:Array Oper) (m:Nat) (h:wpAny P .any ops (λe a w=>e=.normal/\IM P f R (AO todo) a w) m (Array.replicate m false) (Fr n E) w.drew) (hd:GB todo=some ops:=by kernel_rfl) (hm:P.follows .mixedOrders=true:=by kernel_rfl) (hs:ops.size=m:=by kernel_rfl):At P f R todo (Fr n E) w:=by
 unfold GB at hd
 split at hd
 ·rename_i id ops' k
  obtain rfl:=Option.some.inj hd;subst hs;exact mW (wp_region_any hm h)
 cases hd
def Ly (ops:Array Oper) (vals:Nat->Value) (A:List Nat) (E:Nat->Value):Nat->Value:=A.foldl (λE i=>A8 E (C6 ops i) (vals i)) E
theorem Xp (ops:Array Oper) (vals:Nat->Value) (n:Nat):∀(A:List Nat) (E:Nat->Value),fin ops vals A (Fr n E)=Fr n (Ly ops vals A E)
 | [],_=>rfl
 | i::A,E=>by have:=Xp ops vals n A (A8 E (C6 ops i) (vals i));rw[<-Eo]at this;exact this
end
section
variable {P:Program} {ops:Array Oper} {Q:Exit->Act->World->Prop} {md:Region.Mode} {W:Wr} {listed0:Array Bool} {n:Nat} {E:Nat->Value} {C:World->Prop} {Ext:World->World->Prop} {L:List DA} {w0:World}
def DE (n:Nat) (E:Nat->Value) (W:Wr) (vals:Nat->Value):Operand->Value
 | .tmp t=>match W.of t with
  | some j=>vals j
  | none=>BK n E (.tmp t)
 | x=>BK n E x
theorem Xt (vals:Nat->Value):F5 (Fr n E) W vals=DE n E W vals:=by
 funext x;unfold F5 DE;rw[D8]
 cases x<;>rfl
def AGX (P:Program) (ops:Array Oper) (n:Nat) (E:Nat->Value) (W:Wr) (C:World->Prop) (Ext:World->World->Prop) (L:List DA) (l:DA):Prop:=
 (∀vs w w',C w->Ext w w'->l.says vs w->l.says vs w')/\
  ∀(vals:Nat->Value) (w:World),C w->Fz l.before vals w L->AL P (ops.getD l.idx default) (DE n E W vals) w (λv w'=>C w'/\Ext w w'/\l.says (l.deps.map (EM vals l.idx v)) w')
def Jy (P:Program) (ops:Array Oper) (n:Nat) (E:Nat->Value) (W:Wr) (C:World->Prop) (Ext:World->World->Prop) (L:List DA):List DA->Prop
 | []=>True
 | l::r=>AGX P ops n E W C Ext L l/\Jy P ops n E W C Ext L r
theorem Jy.parts:∀ {r:List DA},Jy P ops n E W C Ext L r->Oo P ops (Fr n E) W C Ext L r
 | [],_=>trivial
 | l::r,h=>by refine⟨⟨h.1.1,λvals w a hb=>?_⟩,Jy.parts h.2⟩;rw[Xt];exact h.1.2 vals w a hb
theorem Cm (h:C w0) (e:∀w:World,Ext w w) (d:∀a b c:World,Ext a b->Ext b c->Ext a c) (f:Jy P ops n E W C Ext L L) {fuel k:Nat} (g:k=L.length+fuel) (H:∀vals w,C w->Ext w0 w->Fq vals w L->wpAny P md ops Q fuel ((L.map (·.idx)).foldl (λb i=>b.setIfInBounds i true) listed0) (Fr n (Ly ops vals (L.map (·.idx)) E)) w) (hok:(F4 md ops W listed0 n L&&It ops L)=true:=by kernel_rfl) :
  wpAny P md ops Q k listed0 (Fr n E) w0:=by subst g;refine oX (by rw[Ss];exact hok) h e d f.parts λvals w l h2 j=>?_;rw[Xp];exact H vals w l h2 j
theorem PF {vals:Nat->Value}:∀ {l:List (Tmp×Nat×Value)},(∀p∈l,W.of p.1=some p.2.1)->KV vals l->He (DE n E W vals) (l.map (λp=>(p.1,p.2.2)))
 | [],_,_=>trivial
 | p::l,hw,hv=>by refine⟨?_,PF (λq a=>hw q (by simp[a])) hv.2⟩;have:=hw p (by simp);unfold DE;simp only[this];exact hv.1
theorem AL.knownE {o:Oper} {vals:Nat->Value} {w:World} {K:Value->World->Prop} (l:List (Tmp×Nat×Value)) (hv:KV vals l) (a:AL P o (TD (l.map (λp=>(p.1,p.2.2))) (DE n E W vals)) w K) (hc:(l.all (λp=>W.of p.1==some p.2.1))=true:=by kernel_rfl):AL P o (DE n E W vals) w K:=by simp only[all_eq_true,beq_iff_eq]at hc;exact AL.over _ (PF hc hv) a
theorem AL.reads {o:Oper} {ρ:Operand->Value} {w:World} {K:Value->World->Prop} (m:MS) (hg:∀e∈m.mem,e.good w) (v:Value) (h:K v w) (hv:(Dp P (execOp ρ o) m).map (·.1)=some (.value v):=by kernel_rfl) (he:((Dp P (execOp ρ o) m).map (·.2.eqs.map Prod.fst))=((Dp P (execOp ρ o) m).map (·.2.eqs.map Prod.snd)):=by kernel_rfl):AL P o ρ w K:=by
 cases hl:Dp P (execOp ρ o) m with
 | none=>rw[hl]at hv;cases hv
 | some p=>
  obtain⟨f,a⟩:=p;rw[hl]at hv he;have b:f=.value v:=Option.some.inj hv;have c:a.eqs.map Prod.fst=a.eqs.map Prod.snd:=Option.some.inj he;subst b;refine AL.value (v:=v) (w':=w) (GK _ _ _ _ hl hg λp g=>?_) h;obtain⟨i,hi⟩:=mem_iff_getElem?.1 g;have d:(a.eqs.map Prod.fst)[i]?=some p.1:=by rw[getElem?_map,hi];rfl
  have h2:(a.eqs.map Prod.snd)[i]?=some p.2:=by rw[getElem?_map,hi];rfl
  rw[c,h2]at d;exact(Option.some.inj d).symm
theorem XZ {O:List Nat} {B:Nat} {w:World} {s:MS} (h:En O B w s) (z:Nat) (m:List Ax) (hz:s.sz=z) (hm:s.mem=m):En O B w ⟨z,m,(0,0),[]⟩:=by subst hz hm;exact⟨h.sat,h.le,h.own⟩
def OV:List Item->Option (List Item)
 | .code .skip::k=>some k
 | .code (.label _)::k=>some k
 | .inBlock _::k=>some k
 | .code (.seq x y)::k=>some (.code x :: .code y::k)
 | .code (.block id c)::k=>some (.code c :: .inBlock id::k)
 | .code (.exit id)::k=>exitTo id k
 | .code (.region _ ops false)::k=>some (.inRegion ops (List.range ops.size)::k)
 | .inRegion _ []::k=>some k
 | .inRegion ops (i::r)::k=>match ops[i]? with
  | some o=>match wi o.op with
   | true=>none
   | false=>some (.inRegion ops r::k)
  | none=>none
 | _=>none
def AB:Nat->List Item->List Item
 | 0,t=>t
 | m+1,t=>match OV t with
  | some t'=>AB m t'
  | none=>t
theorem Cp {f:FuncId} {R:Ending->World->Prop} {w:World} (m:Nat) (todo:List Item) (z:Nat) (mem:List Ax) (hints:List (Nat×Nat)) (todo':List Item) (l:List (Nat×Value)) (z':Nat) (mem':List Ax) (hL:En (mem.map (·.id)) w.heap.size w ⟨z,mem,(0,0),[]⟩) (hk:∀w' E',En (mem.map (·.id)) w.heap.size w' ⟨z',mem',(0,0),[]⟩->FN (mem.map (·.id)) w.heap.size w w'->At P f R todo' (Fr n (BN E' l)) w') (he:(λa:St=>(a.todo,a.ms.mem,a.ms.sz,l.map (λp=>a.env p.1),a.ms.eqs.map Prod.fst)) (IL P n m ⟨todo,E,⟨z,mem,(0,0),[]⟩,hints⟩)=(todo',mem',z',l.map (·.2),(IL P n m ⟨todo,E,⟨z,mem,(0,0),[]⟩,hints⟩).ms.eqs.map Prod.snd):=by kernel_rfl):At P f R todo (Fr n E) w:=by simp only[Prod.mk.injEq]at he;obtain⟨h1,h2,h3,h4,h5⟩:=he;refine YQ m ⟨todo,E,⟨z,mem,(0,0),[]⟩,hints⟩ hL h5 λw' hL' hK=>?_;rw[h1];exact HE l h4 λE'=>hk w' E' (XZ hL' z' mem' h3 h2) hK
theorem CQ (w:World):En [] (U w) w ⟨U w,[],(0,0),[]⟩:=
 ⟨⟨rfl,λe he=>(by cases he),λi j e e' hi=>(by simp at hi)⟩,Nat.le_refl _,λe he=>(by cases he)⟩
theorem Nu {w w':World} {base:Nat} {e:TypeId} {size:Nat} {v:Value} {k:Nat} {xs:List Value} (h:w.ownsRow base e size v k xs) (b:∀g,v.ownBlock=some g->w'.heap[g]?=w.heap[g]?):w'.ownsRow base e size v k xs:=by
 obtain⟨d,h2⟩:=h;refine⟨d,?_⟩;rcases h2 with h2 | ⟨g,cap,a,rfl,hg,hb,c⟩
 ·exact .inl h2
 exact .inr ⟨g,cap,a,rfl,hg,(b g rfl).trans hb,c⟩
theorem Is {f:FuncId} {R:Ending->World->Prop} {fn:Func} {c:Code} {args:List Value} {w:World} (h:At P f R [.code c] (Fr n (λt=>args.getD t undef)) w) (hf:P.funcs[f]?=some fn:=by kernel_rfl) (hb:fn.body=some c:=by kernel_rfl) (hn:fn.ntmps=n:=by kernel_rfl) (hl:Nat.ble args.length n=true:=by kernel_rfl):Calls P f args.toArray w R:=by subst hn;exact oQ hf hb h.mid (Nat.le_of_ble_eq_true hl)
theorem bA {O:List Nat} {B:Nat} {a:Array Bool} {fuel i:Nat} {w:World} (o:Oper) (ms b:MS) (r:Next) (v:Value) (hr:Region.ready md ops a=[i]) (ho:ops[i]?=some o) (hg:o.guard=none)
  (hm:Ce P (execOp (BK n E) o) ms=some (r,b)) (hv:r=.value v\/(r=.skip/\v=undef)) (d:En O B w ms) (he:b.eqs.map Prod.fst=b.eqs.map Prod.snd)
  (j:∀w',En O B w' b->FN O B w w'->wpAny P md ops Q fuel (a.setIfInBounds i true) (Fr n (A8 E o.dst v)) w'):wpAny P md ops Q (fuel+1) a (Fr n E) w:=by
 refine Km hr ho hg ?_;have f:∀p∈b.eqs,p.1=p.2:=λp h=>by
  obtain⟨i,hi⟩:=mem_iff_getElem?.1 h;have e:(b.eqs.map Prod.fst)[i]?=some p.1:=by rw[getElem?_map,hi];rfl
  have h2:(b.eqs.map Prod.snd)[i]?=some p.2:=by rw[getElem?_map,hi];rfl
  rw[he,h2]at e;exact(Option.some.inj e).symm
 obtain⟨w',e,h2,g,k⟩:=KT _ _ _ _ w hm d.sat d.le d.own f;unfold Oper.wp;rw[D8,e];have c:=j w' ⟨h2,Nat.le_trans d.le g.size,k⟩ g;rw[<-Eo]at c;rcases hv with rfl | ⟨rfl,rfl⟩
 ·exact c
 exact c
theorem Dm {b:Array Bool} {fuel:Nat} {a:Act} {w:World} (h:Q .normal a w) (hr:Region.ready md ops b=[]:=by kernel_rfl):wpAny P md ops Q fuel b a w:=wpAny_done hr h fuel
abbrev ν (t:List Item):List Item:=AB 60 t
abbrev Θ (t:List Item):List Item:=AB 60 (AE t)
abbrev Ξ (t:List Item):List Item:=AB 60 (AG t)
abbrev Ψ (t:List Item):List Item:=AB 60 (AD t)
abbrev Ω (t:List Item):List Item:=AB 60 (AO t)
end
section
variable {P:Program} {f:FuncId} {R:Ending->World->Prop}
def wm:List (Tmp×Nat)->Tmp->Nat
 | [],_=>0
 | p::r,t=>match Nat.beq p.1 t with
  | true=>p.2
  | false=>wm r t
def Uf (H:List (Tmp×Nat)) (n:Nat) (E:Nat->Value):Op->Nat×Nat
 | .load _ (.tmp t) | .store _ (.tmp t) _=>match BK n E (.tmp t)with
  | .pointer (some a)=>(wm H t,a.off)
  | _=>(0,0)
 | _=>(0,0)
def wZ (P:Program) (H:List (Tmp×Nat)) (n:Nat) (ops:Array Oper) (i:Nat) (s:St) (todo:List Item):Option St:=
 match ops[i]? with
 | none=>none
 | some o=>TG P n ops i { s with hs:=Uf H n s.env o.op::s.hs } todo
def wn:Option St->List (Nat×Nat)->Option St
 | some s,h=>some { s with hs:=h }
 | none,_=>none
def Q8 (P:Program) (H:List (Tmp×Nat)) (n:Nat) (s:St):Option St:=
 match s.todo with
 | .code (.cond c x y)::k=>match BK n s.env c with
  | .bool true=>some { s with todo:=.code x::k }
  | .bool false=>some { s with todo:=.code y::k }
  | _=>none
 | .code (.loop c)::k=>some { s with todo:=.code c :: .inLoop c::k }
 | .inLoop c::k=>some { s with todo:=.code c :: .inLoop c::k }
 | .inRegion ops (i::r)::k=>wn (wZ P H n ops i s (.inRegion ops r::k)) []
 | _=>OW P n s
def NF (P:Program) (H:List (Tmp×Nat)) (n:Nat):Nat->St->St
 | 0,s=>s
 | m+1,s=>match Q8 P H n s with
  | some s'=>NF P H n m s'
  | none=>s
theorem xh {H:List (Tmp×Nat)} {n:Nat} {ops:Array Oper} {i:Nat} {s s':St} {todo:List Item} {h:List (Nat×Nat)} (hs:wn (wZ P H n ops i s todo) h=some s'):∀p∈s.ms.eqs,p∈s'.ms.eqs:=by
 unfold wZ at hs
 split at hs
 ·cases hs
 rename_i o ho
 cases hq:TG P n ops i { s with hs:=Uf H n s.env o.op::s.hs } todo with
 | none=>rw[hq]at hs;cases hs
 | some q=>
  rw[hq]at hs;obtain rfl:=Option.some.inj hs;have:=Za hq;exact this
theorem l4 {H:List (Tmp×Nat)} {n:Nat} {s s':St} (h:Q8 P H n s=some s'):∀p∈s.ms.eqs,p∈s'.ms.eqs:=by
 unfold Q8 at h
 split at h
 ·split at h
  ·obtain rfl:=Option.some.inj h;exact λp a=>a
  ·obtain rfl:=Option.some.inj h;exact λp a=>a
  cases h
 ·obtain rfl:=Option.some.inj h;exact λp a=>a
 ·obtain rfl:=Option.some.inj h;exact λp a=>a
 ·exact xh h
 exact Sx h
theorem YT {H:List (Tmp×Nat)} {n:Nat}:∀(m:Nat) (s:St),∀p∈s.ms.eqs,p∈(NF P H n m s).ms.eqs
 | 0,_,p,hp=>hp
 | m+1,s,p,hp=>by
  unfold NF
  split
  ·rename_i s' hs;exact YT m s' p (l4 hs p hp)
  exact hp
theorem Ye {O:List Nat} {B n:Nat} {H:List (Tmp×Nat)} {s s':St} {w:World}
  (h:Q8 P H n s=some s') (b:En O B w s.ms) (he:∀p∈s'.ms.eqs,p.1=p.2)
  (a:∀w',En O B w' s'.ms->FN O B w w'->At P f R s'.todo (Fr n s'.env) w'):At P f R s.todo (Fr n s.env) w:=by
 unfold Q8 at h
 split at h
 ·rename_i c x y k hc
  split at h
  ·rename_i hv
   obtain rfl:=Option.some.inj h;rw[hc];exact EP (by simp) (λ_=>step_cond (t:=true) (by rw[D8];exact hv)) (a w b (.refl _ _ _))
  ·rename_i hv
   obtain rfl:=Option.some.inj h;rw[hc];exact EP (by simp) (λ_=>step_cond (t:=false) (by rw[D8];exact hv)) (a w b (.refl _ _ _))
  cases h
 ·rename_i hc;obtain rfl:=Option.some.inj h;rw[hc];exact EP (by simp) (λ_=>step_loop) (a w b (.refl _ _ _))
 ·rename_i hc;obtain rfl:=Option.some.inj h;rw[hc];exact EP (by simp) (λ_=>step_inLoop) (a w b (.refl _ _ _))
 ·rename_i ops i r k hc
  rw[hc];unfold wZ at h
  split at h
  ·cases h
  rename_i o ho
  cases hq:TG P n ops i { s with hs:=Uf H n s.env o.op::s.hs } (.inRegion ops r::k)with
  | none=>rw[hq]at h;cases h
  | some q=>
   rw[hq]at h;obtain rfl:=Option.some.inj h;exact TF (s:={ s with hs:=Uf H n s.env o.op::s.hs }) (s':=q) hq b he a
 exact O6 h b he a
theorem R7 {O:List Nat} {B n:Nat} {H:List (Tmp×Nat)}:∀(m:Nat) (s:St) (w:World),En O B w s.ms->(∀p∈(NF P H n m s).ms.eqs,p.1=p.2)->
  (∀w',En O B w' (NF P H n m s).ms->FN O B w w'->At P f R (NF P H n m s).todo (Fr n (NF P H n m s).env) w')->At P f R s.todo (Fr n s.env) w
 | 0,s,w,hL,_,hk=>hk w hL (.refl _ _ _)
 | m+1,s,w,hL,he,hk=>by
  unfold NF at he hk
  split at he
  ·rename_i s' hs
   simp only[hs]at hk;refine Ye hs hL (λp e=>he p (YT m s' p e)) λw' c g=>?_;exact R7 m s' w' c he λb a d=>hk b a (g.trans d)
  rename_i hs
  simp only[hs]at hk;exact hk w hL (.refl _ _ _)
end
section
variable (P:Program)
noncomputable def Rc (t:TypeId):Option Bool:=match P.underlying t with
 | some (.struct _) | some (.array _ _)=>some true
 | some _=>some false
 | none=>none
noncomputable def Le (t:TypeId):Option Nat:=(P.info? t).map (·.size)
end
section
variable {P:Program}
theorem In {t:TypeId} {n:Nat} (h:Le P t=some n) (w:World):(sizeOf t).run P w=.ok n w:=by unfold Le at h;rw[Option.map_eq_some_iff]at h;obtain⟨i,a,h2⟩:=h;simp[sizeOf,typeInfo,a,h2]
theorem S0 {t:TypeId} {b:Bool} (h:Rc P t=some b) (w:World):(isAgg t).run P w=.ok b w:=by
 unfold Rc at h
 split at h
 ·rename_i fs hu;obtain rfl:=Option.some.inj h;simp[isAgg,run_underlying hu]
 ·rename_i n e hu;obtain rfl:=Option.some.inj h;simp[isAgg,run_underlying hu]
 ·rename_i d h1 h2 hu
  obtain rfl:=Option.some.inj h
  cases d<;>first | (exact(h1 _ rfl).elim) | (exact(h2 _ _ rfl).elim) | simp[isAgg,run_underlying hu]
 cases h
end
theorem rC (a:Addr) (n:Nat) (hs:a.spot=none):a.add n=⟨a.block,a.off+n,none⟩:=by
 unfold Addr.add
 split
 ·rename_i e;subst e;cases a;simp_all
 simp
section
variable {P:Program} {ops:Array Oper} {Q:Exit->Act->World->Prop} {md:Region.Mode} {W:Wr} {listed0:Array Bool} {a0:Act} {δ:Array Bool->(Nat->Value)->World->Prop} {Ext:World->World->Prop} {L:List DA} {w0:World}
def DA.obJ (P:Program) (ops:Array Oper) (a0:Act) (W:Wr) (δ:Array Bool->(Nat->Value)->World->Prop) (Ext:World->World->Prop) (L:List DA) (l:DA):Prop:=
 ∀(listed:Array Bool) (vals:Nat->Value) (w:World),listed.getD l.idx true=false->δ listed vals w->(∀m∈L,m.idx∈l.before->listed.getD m.idx false=true/\m.holds vals w)->∀o,ops[l.idx]?=some o->
  if Region.wanted o (Kn ops a0 W vals)then AL P o (F5 a0 W vals) w (λv w'=>δ (listed.setIfInBounds l.idx true) (EM vals l.idx v) w'/\Ext w w'/\l.holds (EM vals l.idx v) w')
  else δ (listed.setIfInBounds l.idx true) (EM vals l.idx undef) w/\l.holds (EM vals l.idx undef) w
theorem iD {n:Nat} (h:F4 md ops W listed0 n L=true) {l:DA} (hl:l∈L) {j:Nat} (a:j∈l.before):(∃m∈L,m.idx=j)/\True:=by have F:=FF h;obtain⟨o,ho⟩:=F.op l hl;obtain⟨b,_⟩:=F.bef l hl o ho j a;obtain⟨m,hm,he⟩:=mem_map.1 b;exact⟨⟨m,hm,he⟩,trivial⟩
theorem bF (hok:F4 md ops W listed0 a0.tmps.size L=true) (hC:δ listed0 (λ_=>undef) w0) (i0:∀w:World,Ext w w) (d0:∀a b c:World,Ext a b->Ext b c->Ext a c)
  (e0:∀l∈L,∀vs w w',Ext w w'->l.says vs w->l.says vs w') (v0:∀l∈L,l.obJ P ops a0 W δ Ext L) {fuel:Nat}
  (H:∀vals w,δ ((L.map (·.idx)).foldl (λb i=>b.setIfInBounds i true) listed0) vals w->Ext w0 w->(∀l∈L,l.holds vals w)->wpAny P md ops Q fuel ((L.map (·.idx)).foldl (λb i=>b.setIfInBounds i true) listed0) (fin ops vals (L.map (·.idx)) a0) w) :
  wpAny P md ops Q (L.length+fuel) listed0 a0 w0:=by
 have F:=FF hok;have key:∀(m:Nat) (d:Array Bool) (vals:Nat->Value) (a:Act) (w:World),Hy md ops W listed0 a0 (λ_=>True) Ext L w0 d vals a w->GD d L=m->δ d vals w->wpAny P md ops Q (m+fuel) d a w:=by
  intro m
  induction m with
  | zero=>
   intro d vals a w ξ hu k0;have c0:=λl (hl:l∈L)=>O3 hu hl;have h:=λhj=>H vals w hj ξ.ext (λl hl=>ξ.says l hl (c0 l hl));have e1:d=(L.map (·.idx)).foldl (λb i=>b.setIfInBounds i true) listed0:=by
    refine Array.ext_getElem? λj=>?_;rw[Lw];by_cases hj:j∈L.map (·.idx)
    ·obtain⟨l,hl,rfl⟩:=mem_map.1 hj;have z:l.idx<listed0.size:=HZ (F.fresh l hl);rw[if_pos ⟨hj,z⟩,PI (by rw[ξ.size,<-F.size];exact z) false,c0 l hl]
    rw[if_neg (λh=>hj h.1)];exact ξ.keep j hj
   have e2:a=fin ops vals (L.map (·.idx)) a0:=by
    have hs:=P1 ops vals (L.map (·.idx)) a0;have ht:a.tmps=(fin ops vals (L.map (·.idx)) a0).tmps:=by
     refine Array.ext_getElem? λt=>?_
     cases hw:W.of t with
     | none=>
      rw[ξ.other t hw,Og];intro i hi hd;obtain⟨l,hl,rfl⟩:=mem_map.1 hi;obtain⟨o,ho⟩:=F.op l hl;have j0:o.dst=some t:=by unfold C6 at hd;rw[ho]at hd;exact hd
      have:=(F.dst l hl o ho t j0).2;rw[hw]at this;cases this
     | some j=>
      obtain⟨p0,h0⟩:=F.wr t j hw;obtain⟨l,hl,rfl⟩:=mem_map.1 p0;obtain⟨o,ho⟩:=F.op l hl;have j0:o.dst=some t:=by unfold C6 at h0;rw[ho]at h0;exact h0
      rw[ξ.done t _ hw (c0 l hl),Xo ops vals t l.idx _ _ _ p0 h0 (F.dst l hl o ho t j0).1];intro i hi hd;obtain⟨l',m0,rfl⟩:=mem_map.1 hi;obtain⟨o',l0⟩:=F.op l' m0;have q0:o'.dst=some t:=by unfold C6 at hd;rw[l0]at hd;exact hd
      have:=(F.dst l' m0 o' l0 t q0).2;rw[hw]at this;exact(Option.some.inj this).symm
    cases a;cases hf:fin ops vals (L.map (·.idx)) a0
    rw[hf]at hs ht;simp only at hs ht;have hd:=ξ.defers;simp only at hd;subst ht;rw[hs.2,hd]
   have h:=h (by rw[<-e1];exact k0);rw[Nat.zero_add,e1,e2];exact h
  | succ m ih=>
   intro d vals a w ξ hu k0;rw[Nat.succ_add];have some:∃l∈L,d.getD l.idx true=false:=by
    rcases hx:L.filter (λl=>!d.getD l.idx false)with _ | ⟨l,r⟩
    ·unfold GD at hu;rw[hx]at hu;simp at hu
    have:l∈L.filter (λl=>!d.getD l.idx false):=by rw[hx];simp
    rw[mem_filter]at this;refine⟨l,this.1,?_⟩;have z:l.idx<d.size:=by rw[ξ.size,<-F.size];exact HZ (F.fresh l this.1)
    have h2:=this.2;simp[z]at h2 ⊢;exact h2
   refine⟨λhr=>?_,λi hi=>?_⟩
   ·exfalso;have:∀(k:Nat) (l:DA),l∈L->l.idx=k->d.getD l.idx true=true:=by
     intro k
     induction k using Nat.strongRecOn with
     | _ k ihk=>
      intro l hl hk
      cases hu:d.getD l.idx true with
      | true=>rfl
      | false=>
       exfalso;obtain⟨o,ho⟩:=F.op l hl;have hm:l.idx∈Region.ready md ops d:=by
        rw[mem_ready];refine⟨hu,o,ho,λe he hb=>?_⟩;rcases F.edge l hl o ho e he hb with⟨h1,h2⟩ | ⟨h1,h2⟩
        ·have:=ξ.keep _ h2;rw[Array.getD_eq_getD_getElem?,this,<-Array.getD_eq_getD_getElem?];exact h1
        obtain⟨m',y,b0⟩:=mem_map.1 h2;have g:=ihk m'.idx (by omega) m' y rfl;rw[b0]at g;have z:e.on<d.size:=by rw[ξ.size,<-F.size,<-b0];exact HZ (F.fresh m' y)
        simp[z]at g ⊢;exact g
       rw[hr]at hm;cases hm
    obtain⟨l,hl,hf⟩:=some;rw[this _ l hl rfl]at hf;cases hf
   have b1:=hi;rw[mem_ready]at hi;obtain⟨u,o,ho,s⟩:=hi;have hA:i∈L.map (·.idx):=by
    by_cases hA:i∈L.map (·.idx)
    ·exact hA
    exfalso;have hk:=ξ.keep i hA;have t0:listed0.getD i true=false:=by rw[Array.getD_eq_getD_getElem?,<-hk,<-Array.getD_eq_getD_getElem?];exact u
    rcases F.tail i o ho t0 hA with⟨e,he,hb,x0,hx⟩ | hx
    ·have hd:=s e he hb;have:=ξ.keep _ hx;rw[Array.getD_eq_getD_getElem?,this,<-Array.getD_eq_getD_getElem?,x0]at hd;cases hd
    obtain⟨l,hl,hf⟩:=some;have g0:=FA hf;obtain⟨e,he,hb,hy⟩:=hx l.idx (mem_map.2 ⟨l,hl,rfl⟩);have hd:=s e he hb;rcases hy with h | ⟨m',y,b0,h⟩
    ·rw[<-h,hd]at g0;cases g0
    have:=ξ.shut m' y (by rw[b0];exact hd) _ h;rw[this]at g0;cases g0
   obtain⟨l,hl,rfl⟩:=mem_map.1 hA;have hb:∀j∈l.before,d.getD j false=true:=by
    intro j hj;obtain⟨_,_,e,he,z0,hx⟩:=F.bef l hl o ho j hj;have hd:=s e he z0;rcases hx with rfl | ⟨m',y,b0,hx⟩
    ·exact hd
    exact ξ.shut m' y (by rw[b0];exact hd) j hx
   have z:=HZ u;have q:GD (d.setIfInBounds l.idx true) L=m:=by have:=MX z (FA u) F.nodup hA;omega
   have p:=v0 l hl d vals w u k0 (λm' y r0=>⟨hb _ r0,ξ.says m' y (hb _ r0)⟩) o ho;unfold wpOp;simp only[ho];rw[ξ.wanted F hl ho hb]
   split
   ·rename_i hw
    rw[if_pos hw]at p;refine .inl ?_;unfold Oper.wp;rw[ξ.exec F hl ho hb];unfold AL at p
    cases hr:(execOp (F5 a0 W vals) o).run P w with
    | halt x w'=>rw[hr]at p;exact p.elim
    | ok n w'=>
     rw[hr]at p
     cases n<;>simp only at p<;>simp only[Oper.upon]
     case value v=>exact ih _ _ _ _ (ξ.step F (λl hl vs w w' _ he h=>e0 l hl vs w w' he h) d0 hl ho hb u trivial p.2.1 p.2.2) q p.1
     case skip=>exact ih _ _ _ _ (ξ.step F (λl hl vs w w' _ he h=>e0 l hl vs w w' he h) d0 hl ho hb u trivial p.2.1 p.2.2) q p.1
     case enter f args=>
      refine p.mono λe a1 he=>?_;obtain⟨v,rfl,h1,h2,h3⟩:=he;exact ih _ _ _ _ (ξ.step F (λl hl vs w w' _ he h=>e0 l hl vs w w' he h) d0 hl ho hb u trivial h2 h3) q h1
   rename_i hw
   rw[if_neg hw]at p;exact ih _ _ _ _ (ξ.step F (λl hl vs w w' _ he h=>e0 l hl vs w w' he h) d0 hl ho hb u trivial (i0 w) p.2) q p.1
 refine key L.length listed0 (λ_=>undef) a0 w0 ⟨F.size,λ_ _=>rfl,?_,rfl,rfl,?_,λ_ _ _ _=>rfl,λ_ _=>rfl,trivial,i0 _,?_⟩ ?_ hC
 ·intro l hl hd;rw[FA (F.fresh l hl)]at hd;cases hd
 ·intro t j hw hd;obtain⟨l,hl,rfl⟩:=mem_map.1 (F.wr t j hw).1;rw[FA (F.fresh l hl)]at hd;cases hd
 ·intro l hl hd;rw[FA (F.fresh l hl)]at hd;cases hd
 unfold GD;rw[filter_eq_self.2];intro l hl;rw[FA (F.fresh l hl)];rfl
end
section
variable {P:Program} {ops:Array Oper} {Q:Exit->Act->World->Prop} {md:Region.Mode} {W:Wr} {listed0:Array Bool} {n:Nat} {E:Nat->Value} {δ:Array Bool->(Nat->Value)->World->Prop} {Ext:World->World->Prop} {L:List DA} {w0:World}
def ww (P:Program) (ops:Array Oper) (n:Nat) (E:Nat->Value) (W:Wr) (δ:Array Bool->(Nat->Value)->World->Prop) (Ext:World->World->Prop) (L:List DA) (l:DA):Prop:=
 (∀vs w w',Ext w w'->l.says vs w->l.says vs w')/\
  ∀(listed:Array Bool) (vals:Nat->Value) (w:World),listed.getD l.idx true=false->(∀j∈l.before,listed.getD j false=true)->δ listed vals w->Fz l.before vals w L->AL P (ops.getD l.idx default) (DE n E W vals) w (λv w'=>δ (listed.setIfInBounds l.idx true) (EM vals l.idx v) w'/\Ext w w'/\l.says (l.deps.map (EM vals l.idx v)) w')
def MU (P:Program) (ops:Array Oper) (n:Nat) (E:Nat->Value) (W:Wr) (δ:Array Bool->(Nat->Value)->World->Prop) (Ext:World->World->Prop) (L:List DA):List DA->Prop
 | []=>True
 | l::r=>ww P ops n E W δ Ext L l/\MU P ops n E W δ Ext L r
theorem MU.all:∀ {r:List DA},MU P ops n E W δ Ext L r->∀l∈r,ww P ops n E W δ Ext L l
 | [],_,l,hl=>by cases hl
 | m::r,h,l,hl=>by
  rcases mem_cons.1 hl with rfl | a
  ·exact h.1
  exact MU.all h.2 l a
theorem iG (hok:(F4 md ops W listed0 n L&&It ops L)=true) (z:δ listed0 (λ_=>undef) w0) (g:∀w:World,Ext w w) (f:∀a b c:World,Ext a b->Ext b c->Ext a c)
  (t:MU P ops n E W δ Ext L L) {fuel k:Nat} (y:k=L.length+fuel)
  (H:∀vals w,δ ((L.map (·.idx)).foldl (λb i=>b.setIfInBounds i true) listed0) vals w->Ext w0 w->Fq vals w L->wpAny P md ops Q fuel ((L.map (·.idx)).foldl (λb i=>b.setIfInBounds i true) listed0) (Fr n (Ly ops vals (L.map (·.idx)) E)) w) :
  wpAny P md ops Q k listed0 (Fr n E) w0:=by
 subst y;rw[Bool.and_eq_true]at hok;refine bF (a0:=Fr n E) (by rw[Ss];exact hok.1) z g f (λl hl=>(t.all l hl).1) (λl hl=>?_) (λvals w h1 h2 h3=>by rw[Xp];exact H vals w h1 h2 (My h3));intro d vals w q s hm o ho;have hb:=hok.2;unfold It at hb;rw[all_eq_true]at hb;have hg:=hb l hl;have hx:=(t.all l hl).2 d vals w q (λj u=>by obtain⟨⟨m,e,p⟩,_⟩:=iD hok.1 hl u;obtain rfl:=p;exact(hm m e u).1) s (N8 λm e r=>(hm m e r).2)
 have h:ops.getD l.idx default=o:=by rw[Array.getD_eq_getD_getElem?,ho];rfl
 rw[h]at hg hx;have v:Region.wanted o (Kn ops (Fr n E) W vals)=true:=by
  unfold Region.wanted
  cases hgg:o.guard with
  | none=>rfl
  | some x=>rw[hgg]at hg;cases hg
 rw[if_pos v,Xt];exact hx
end
noncomputable def Nn:Nat->List Value->List Value
 | 0,_=>[]
 | n+1,z=>z++Nn n z
theorem ZS (z:List Value):∀n,(Nn n z).length=n*z.length
 | 0=>by simp[Nn]
 | n+1=>by rw[Nn,length_append,ZS z n,Nat.succ_mul,Nat.add_comm]
theorem ZT (z:List Value):∀(n j:Nat),j<n*z.length->(Nn n z)[j]?=z[j%z.length]?
 | 0,j,h=>by simp at h
 | n+1,j,h=>by
  rw[Nn,getElem?_append]
  split
  ·rename_i hj
   rw[Nat.mod_eq_of_lt hj]
  rename_i hj
  have hz:z.length<=j:=by omega
  rw[ZT z n (j-z.length) (by rw[Nat.succ_mul]at h;omega),Nat.mod_eq_sub_mod hz]
theorem Tm (z:List Value) (n:Nat):(madeCells z.toArray (n*z.length)).toList=Nn n z:=by
 apply ext_getElem?;intro j;by_cases hj:j<n*z.length
 ·rw[ZT z n j hj];have hz:0<z.length:=Nat.pos_of_ne_zero λe=>by rw[e]at hj;simp at hj
  have hm:j%z.length<z.length:=Nat.mod_lt _ hz;rw[getElem?_eq_getElem hm];simp[madeCells,hj,hm]
 rw[getElem?_eq_none (by rw[Array.length_toList,size_madeCells];omega),getElem?_eq_none (by rw[ZS];omega)]
end Go.Proofs.YtkpemkkbjfbmaaaGreat
namespace Go.Proofs.YtkpemkkbjfbmaaaGreat
open List
open Go.RowKit
theorem Ey {k:IntKind} {a b:Int} (h:a=b):Ending.returned (.int k a)=.returned (.int k b):=by rw[h]
theorem Io {a b:Bool} (h:a=b):Ending.returned (I a)=.returned (I b):=by rw[h]
theorem oT (l:List UInt8) (k:Nat) (h:k<(⟨l.toArray⟩:ByteArray).size):(⟨l.toArray⟩:ByteArray)[k]=l[k]'h:=rfl
theorem iE (l:List UInt8) (a b:Nat):ByteArray.extract ⟨l.toArray⟩ a b=⟨((l.drop a).take (b-a)).toArray⟩:=by apply ByteArray.ext;simp[extract_eq_take_drop,extract_toArray]
theorem iX (l:List UInt8) (a:Nat):(l.drop a).take (l.length-a)=l.drop a:=take_of_length_le (by simp)
theorem GR {B:Nat} {a w:World} (h:Below B a w) (n:Nat):Below B a (w.drewN n):=⟨h.os,h.tape,h.output,h.size,h.block⟩
theorem RJ {P:Program} {f:FuncId} {args:Array Value} {w:World} {n:Nat} {v:Value}
  (h:Calls P f args (w.drewN n) λe w'=>e=.returned v/\w.drewN n=w'):Calls P f args (w.drewN n) λe a=>e=.returned v/\∃m,a=w.drewN m:=
 h.mono λ_ _ ⟨he,hm⟩=>⟨he,n,hm.symm⟩
set_option maxHeartbeats 1000000 in
theorem xl (v n:Int) (w:World) (h0:-9223372036854775808<=v) (h1:v<=9223372036854775807) (hn:1<=n) (hn2:n<=2000000000000) :
  Calls Tryz.prog 41 #[J v,J n] w λe w'=>e=.returned (J (v%n))/\w=w':=by
 have hm0:=Int.emod_nonneg v (show n≠0 by omega);have hm1:=Int.emod_lt_of_pos v (show 0<n by omega);have gn:(n==0)=false:=by simp;omega
 by_cases hv:0<=v
 ·go_enter Tryz.func41,Tryz.ntmps41
  go_wp2_with fail
  go_ret
  exact⟨rfl,rfl⟩
 by_cases hd:n∣v
 ·have ht:v.tmod n=0:=Int.tmod_eq_zero_of_dvd hd;have HR:Hid (v%n=0):=Int.emod_eq_zero_of_dvd hd;clear hd
  go_enter Tryz.func41,Tryz.ntmps41
  go_wp2_with fail
  go_ret
  exact⟨Ey HR.out.symm,rfl⟩
 obtain⟨r,hr⟩:∃r,v%n=r:=⟨_,rfl⟩;have ht:v.tmod n=r-n:=by rw[Int.tmod_eq_emod,if_neg (by omega),hr];omega
 rw[hr]at hm0 hm1;have HR:=Lib.hid hr;clear hd hr
 go_enter Tryz.func41,Tryz.ntmps41
 go_wp2_with fail
 go_ret
 exact⟨Ey (by rw[HR.out]),rfl⟩
structure CU (b:Nat) (w w':World):Prop where
 os:w'.os=w.os
 tape:w'.tape=w.tape
 output:w'.output=w.output
 size:w.heap.size<=w'.heap.size
 block:∀k,k<w.heap.size->k≠b->w'.heap[k]?=w.heap[k]?
theorem CU.refl (b:Nat) (w:World):CU b w w:=⟨rfl,rfl,rfl,Nat.le_refl _,λ_ _ _=>rfl⟩
theorem CU.trans {b:Nat} {u v w:World} (h:CU b u v) (k:CU b v w):CU b u w:=
 ⟨k.os.trans h.os,k.tape.trans h.tape,k.output.trans h.output,Nat.le_trans h.size k.size,λi hi hb=>(k.block i (Nat.lt_of_lt_of_le hi h.size) hb).trans (h.block i hi hb)⟩
theorem CU.of_below {b:Nat} {w w':World} (h:Below w.heap.size w w'):CU b w w':=⟨h.os,h.tape,h.output,h.size,λk hk _=>h.block k hk⟩
theorem CU.alloc {b:Nat} {u w:World} (h:CU b u w) (o:Obj):CU b u (w.alloc o):=
 h.trans (.of_below ((Below.refl _ _).alloc (Nat.le_refl _) _))
theorem CU.drew {b:Nat} {u w:World} (h:CU b u w):CU b u w.drew:=h.trans (.of_below (Below.refl _ _).drew)
theorem CU.drewN {b:Nat} {u w:World} (h:CU b u w) (n:Nat):CU b u (w.drewN n):=⟨h.os,h.tape,h.output,h.size,h.block⟩
theorem CU.setCell {b:Nat} {u w:World} (h:CU b u w) {p:Addr} (hp:p.block=b) (x:Value):CU b u (w.setCell p x):=
 h.trans ⟨rfl,rfl,rfl,by simp[World.setCell],λk _ hk=>Below.heap_setCell _ _ _ _ (by rw[hp];exact hk)⟩
theorem CU.below {b B:Nat} {w w':World} (h:CU b w w') (hB:B<=b) (hs:B<=w.heap.size):Below B w w':=
 ⟨h.os,h.tape,h.output,h.size,λk hk=>h.block k (by omega) (by omega)⟩
theorem CU.cell {b:Nat} {w w':World} (h:CU b w w') {p:Addr} (hp:p.block<w.heap.size) (hb:p.block≠b):w'.cell? p=w.cell? p:=
 World.cell?_of_block (w:=w) (h.block p.block hp hb)
def Hz (w:World) (b:Nat) (v:Value) (ns:List Int):Prop:=
 ∃A c,v=.slice A ns.length c/\ns.length<=maxLen/\(∀x∈ns,-9223372036854775808<=x/\x<=9223372036854775807)/\
  (0<ns.length->∃g off,A=some ⟨g,off,none⟩/\g<b/\∀i (h:i<ns.length),w.cell? ⟨g,off+i,none⟩=some (J ns[i]))
def Br (b:Nat) (ns:List Int) (w:World):Prop:=
 ∃(v:Value) (k:Nat),k<=ns.length/\w.heap[b]?=some (.cells #[v,J k] 61 (0,0))/\Hz w b v ns
theorem MJ {w:World} {b:Nat} {o:Obj} (h:w.heap[b]?=some o):b<w.heap.size:=by
 rcases Nat.lt_or_ge b w.heap.size with h' | h'
 ·exact h'
 rw[Array.getElem?_eq_none h']at h;cases h
theorem Br.lt {b:Nat} {ns:List Int} {w:World} (h:Br b ns w):b<w.heap.size:=by obtain⟨v,k,_,hb,_⟩:=h;exact MJ hb
theorem Hz.keep {w w':World} {b:Nat} {v:Value} {ns:List Int} (h:Hz w b v ns) (hk:∀g,g<b->w'.heap[g]?=w.heap[g]?):Hz w' b v ns:=by obtain⟨A,c,rfl,h1,h2,h3⟩:=h;refine⟨A,c,rfl,h1,h2,λhn=>?_⟩;obtain⟨g,off,rfl,hg,hc⟩:=h3 hn;exact⟨g,off,rfl,hg,λi hi=>by rw[World.cell?_of_block (w:=w) (hk g hg)];exact hc i hi⟩
theorem Br.below {b:Nat} {ns:List Int} {w w':World} (h:Br b ns w) (hb:Below w.heap.size w w'):Br b ns w':=by have hlt:=h.lt;obtain⟨v,k,hk,hc,hi⟩:=h;exact⟨v,k,hk,(hb.block b hlt).trans hc,hi.keep (λg hg=>hb.block g (by omega))⟩
def Bl (b:Nat) (ns:List Int) (n:Int) (w:World) (e:Ending) (w':World):Prop:=
 ∃k:Nat,(k=0\/(k:Int)<n)/\e=.returned (J k)/\Br b ns w'/\CU b w w'
end Go.Proofs.YtkpemkkbjfbmaaaGreat

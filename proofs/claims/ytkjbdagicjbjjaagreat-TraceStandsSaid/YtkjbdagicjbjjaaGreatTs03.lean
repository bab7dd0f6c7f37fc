/- Contracts of functions, part 3. -/
import Derived.Test.YtkjbdagicjbjjaaGreatTs02
import Derived.Deep.Quiet
import Derived.Below
import Derived.Deep.QuietTactic
import Derived.BigQuiet
import Derived.IntWalk
set_option linter.all false
namespace Go.Proofs.YtkjbdagicjbjjaaGreat
open Go.RowKit
section
variable {P:Program} {ops:Array Oper} {n:Nat} {C:World→Prop}
abbrev Cx:=List (Tmp×Bool)
def Ho:List (Tmp×Cx)→Tmp→Cx
 | [],_=>[]
 | p :: r,t=>match Nat.beq p.1 t with
  | true=>p.2
  | false=>Ho r t
def UK (p:Tmp×Bool):Cx→Bool
 | []=>false
 | q :: r=>(Nat.beq p.1 q.1 && (p.2 == q.2)) || UK p r
def MQ:Cx→Cx→Bool
 | [],_=>true
 | p :: r,c=>UK p c && MQ r c
def Ko (d:Tmp):Cx→Bool
 | []=>true
 | q :: r=>!(Nat.beq q.1 d) && Ko d r
def L4 (d:Tmp):List (Tmp×Cx)→Bool
 | []=>true
 | p :: r=>Ko d p.2 && L4 d r
def holds (G:Nat→Value) (c:Cx):Prop:=∀ p∈c,G p.1=ξ p.2
theorem S4 {p:Tmp×Bool}:∀ {c:Cx},UK p c=true→p∈c
 | [],h=>by cases h
 | q :: r,h=>by
  unfold UK at h
  rw [Bool.or_eq_true,Bool.and_eq_true] at h
  rcases h with ⟨a,h2⟩ | h
  ·have d:=Nat.eq_of_beq_eq_true a
   have b:p.2=q.2:=by simpa using h2
   have:p=q:=Prod.ext d b
   simp [this]
  exact List.mem_cons_of_mem _ (S4 h)
theorem LY {G:Nat→Value} {c:Cx} (hc:holds G c):∀ {a:Cx},MQ a c=true→holds G a
 | [],_=>fun p d=>by cases d
 | p :: r,h=>by
  unfold MQ at h
  rw [Bool.and_eq_true] at h
  intro q b
  rcases List.mem_cons.1 b with rfl | b
  ·exact hc _ (S4 h.1)
  exact LY hc h.2 q b
theorem Km {G:Nat→Value} {d:Tmp} {v:Value}:∀ {c:Cx},Ko d c=true→(holds (Jq G d v) c↔holds G c)
 | [],_=>⟨fun _ p a=>(by cases a),fun _ p a=>(by cases a)⟩
 | q :: r,h=>by
  unfold Ko at h
  rw [Bool.and_eq_true] at h
  have f:=Km (G:=G) (v:=v) h.2
  have g:Jq G d v q.1=G q.1:=by
   unfold Jq
   rw [if_neg]
   intro e
   have:Nat.beq q.1 d=true:=by rw [e]; exact Nat.beq_refl d
   rw [this] at h
   cases h.1
  constructor
  ·intro b p a
   rcases List.mem_cons.1 a with rfl | a
   ·rw [← g]; exact b _ (by simp)
   exact f.1 (fun p a=>b p (by simp [a])) p a
  intro b p a
  rcases List.mem_cons.1 a with rfl | a
  ·rw [g]; exact b _ (by simp)
  exact f.2 (fun p a=>b p (by simp [a])) p a
theorem RQ {d:Tmp}:∀ {cx:List (Tmp×Cx)} (t:Tmp),L4 d cx=true→Ko d (Ho cx t)=true
 | [],_,_=>rfl
 | p :: r,t,h=>by
  unfold L4 at h
  rw [Bool.and_eq_true] at h
  unfold Ho
  split
  ·exact h.1
  exact RQ t h.2
def NG (G:Nat→Value) (cx:List (Tmp×Cx)) (E:Nat→Value):Prop:=∀ t,(holds G (Ho cx t)→E t=G t)∧(¬ holds G (Ho cx t)→E t=undef)
theorem NG.start (G:Nat→Value):NG G [] G:=fun _=>⟨fun _=>rfl,fun h=>(h (fun p a=>by cases a)).elim⟩
def gW (G:Nat→Value) (cx:List (Tmp×Cx)) (c:Cx) (X:Nat→Value):Nat→Value:=fun t=>match MQ (Ho cx t) c with
 | true=>G t
 | false=>X t
theorem gV {G E:Nat→Value} {cx:List (Tmp×Cx)} {c:Cx} (h:NG G cx E) (hc:holds G c):gW G cx c E=E:=by
 funext t
 unfold gW
 split
 ·rename_i hs; exact ((h t).1 (LY hc hs)).symm
 rfl
theorem NG.put {G E:Nat→Value} {cx:List (Tmp×Cx)} {c:Cx} {v u:Value} (h:NG G cx E) (d:Tmp) (hf:L4 d cx=true) (a:Ko d c=true) (hu:(holds G c→u=v)∧(¬ holds G c→u=undef)):NG (Jq G d v) ((d,c) :: cx) (Jq E d u):=by
 intro t
 unfold Ho
 by_cases ht:d=t
 ·subst ht
  simp only [Nat.beq_refl]
  rw [Km a]
  simp only [Jq,if_true]
  exact hu
 have hb:Nat.beq d t=false:=by
  cases hh:Nat.beq d t with
  | false=>rfl
  | true=>exact (ht (Nat.eq_of_beq_eq_true hh)).elim
 simp only [hb]
 rw [Km (RQ t hf)]
 have b:Jq E d u t=E t:=by unfold Jq; rw [if_neg (fun e=>ht e.symm)]
 have h2:Jq G d v t=G t:=by unfold Jq; rw [if_neg (fun e=>ht e.symm)]
 rw [b,h2]
 exact h t
structure Sp where
 i:Nat
 l:List (Tmp×Value)
 v:Value
 cond:Bool
def He:List Sp→Nat→Option Sp
 | [],_=>none
 | s :: r,i=>match Nat.beq s.i i with
  | true=>some s
  | false=>He r i
def ge (G:Nat→Value):Cx→Bool
 | []=>true
 | p :: r=>(match G p.1 with
  | .bool b=>(match p.2 with
   | true=>b
   | false=>!b)
  | _=>false) && ge G r
theorem RV {G:Nat→Value}:∀ {c:Cx},holds G c→ge G c=true
 | [],_=>rfl
 | p :: r,h=>by
  unfold ge
  rw [h p (by simp)]
  have a:=RV (G:=G) (c:=r) (fun q d=>h q (by simp [d]))
  rw [a]
  obtain ⟨t,b⟩:=p
  cases b <;> rfl
def XA (b:Bool):Value→Value→Value
 | .bool x,.bool y=>.bool (cond b x y)
 | x,y=>cond b x y
theorem mN (b:Bool) (x y:Value):XA b x y=cond b x y:=by
 unfold XA
 split
 ·cases b <;> rfl
 rfl
def mU:List (Nat×Nat×Nat)→Nat→Nat×Nat
 | [],_=>(0,0)
 | p :: r,i=>match Nat.beq p.1 i with
  | true=>p.2
  | false=>mU r i
def W7 (cx:List (Tmp×Cx)) (c:Cx):Operand→Bool
 | .tmp t=>MQ (Ho cx t) c
 | _=>true
structure JF where
 mem:List A7
 hints:List (Nat×Nat×Nat)
 specs:List Sp
structure GS where
 G:Nat→Value
 cx:List (Tmp×Cx)
def gc (n:Nat) (ops:Array Oper) (o:Oper) (cx:List (Tmp×Cx)):Option Cx:=
 match o.guard with
 | none=>some []
 | some (g,want)=>match (ops[g]?).bind (·.dst) with
  | some t=>match Nat.blt t n with
   | true=>some ((t,want) :: Ho cx t)
   | false=>none
  | none=>none
def plain (P:Program) (n:Nat) (I:JF) (i:Nat) (o:Oper) (s:GS) (c:Cx) (X:Nat→Value):Option (Next×MS):=Dh P (execOp (A8 n (gW s.G s.cx c X)) o) ⟨0,I.mem,mU I.hints i,[]⟩
def NV (n:Nat) (s:GS) (c:Cx):Op→Option (ByteArray×ByteArray)
 | .binOp .add _ x y _=>match W7 s.cx c x && W7 s.cx c y with
  | true=>match A8 n s.G x,A8 n s.G y with
   | .string a,.string b=>some (a,b)
   | _,_=>none
  | false=>none
 | _=>none
def gS (P:Program) (n:Nat) (I:JF) (i:Nat) (o:Oper) (s:GS) (c:Cx):Option Value:=
 match He I.specs i with
 | some sp=>match sp.l.all (fun p=>MQ (Ho s.cx p.1) c) with
  | true=>some sp.v
  | false=>none
 | none=>match o.op with
  | .pick (.tmp t) x y=>match MQ (Ho s.cx t) c && (W7 s.cx ((t,true) :: c) x && W7 s.cx ((t,false) :: c) y) with
   | true=>match A8 n s.G (.tmp t) with
    | .bool b=>some (XA b (A8 n s.G x) (A8 n s.G y))
    | _=>none
   | false=>none
  | _=>match NV n s c o.op with
   | some (a,b)=>some (.string (a++b))
   | none=>match plain P n I i o s c (fun _=>undef) with
    | some (.value v,_)=>some v
    | _=>none
def Mo (P:Program) (n:Nat) (I:JF) (X:Nat→Value) (i:Nat) (o:Oper) (s:GS) (c:Cx):List ((Option Next×List Nat)×(Option Next×List Nat)):=
 match He I.specs i with
 | some sp=>((some (.value (ξ sp.cond)),[]),(some (.value (ξ (ge s.G c))),[])) :: sp.l.map (fun p=>((some (.value (A8 n s.G (.tmp p.1))),[]),(some (.value p.2),[])))
 | none=>match o.op with
  | .pick (.tmp _) _ _=>[]
  | _=>match NV n s c o.op with
   | some _=>[]
   | none=>match plain P n I i o s c X with
    | some (r,m)=>[((some r,m.eqs.map Prod.fst),((plain P n I i o s c (fun _=>undef)).map (·.1),m.eqs.map Prod.snd))]
    | none=>[((none,[]),(some .skip,[]))]
def RP (n:Nat) (I:JF) (i:Nat) (o:Oper) (s:GS) (c:Cx):List Nat:=
 match He I.specs i with
 | some _=>[]
 | none=>match NV n s c o.op with
  | some (a,b)=>[a.size + b.size]
  | none=>[]
def Nr (P:Program) (n:Nat) (ops:Array Oper) (I:JF) (i:Nat) (s:GS):Option (Oper×Cx×GS):=
 match ops[i]? with
 | none=>none
 | some o=>match gc n ops o s.cx with
  | none=>none
  | some c=>match gS P n I i o s c,o.dst with
   | some v,some d=>match L4 d s.cx && Ko d c with
    | true=>some (o,c,⟨Jq s.G d v,(d,c) :: s.cx⟩)
    | false=>none
   | _,_=>none
def LQ (P:Program) (n:Nat) (ops:Array Oper) (I:JF):List Nat→GS→Option GS
 | [],s=>some s
 | i :: r,s=>match Nr P n ops I i s with
  | some (_,_,s')=>LQ P n ops I r s'
  | none=>none
def GZ (P:Program) (n:Nat) (ops:Array Oper) (I:JF) (X:Nat→Value):List Nat→GS→List ((Option Next×List Nat)×(Option Next×List Nat))
 | [],_=>[]
 | i :: r,s=>match Nr P n ops I i s with
  | some (o,c,s')=>Mo P n I X i o s c++GZ P n ops I X r s'
  | none=>[]
def LR (P:Program) (n:Nat) (ops:Array Oper) (I:JF):List Nat→GS→List Nat
 | [],_=>[]
 | i :: r,s=>match Nr P n ops I i s with
  | some (o,c,s')=>RP n I i o s c++LR P n ops I r s'
  | none=>[]
theorem qL {o:Oper} {ρ:Operand→Value} {w:World} {T T':TypeId} {x y:Operand} {a b:ByteArray} (hop:o.op=.binOp .add T x y T') (hx:ρ x=.string a) (c:ρ y=.string b) (hs:((a.size + b.size:Nat):Int)≤IntKind.i64.max):(execOp ρ o).run P w=.ok (.value (.string (a++b))) w:=by
 have h2:¬ ((a.size + b.size:Nat):Int) > IntKind.i64.max:=by omega
 unfold execOp
 simp only [hop,hx,c]
 unfold binOp Op.stringOp
 simp [eqGuard]
 have d:IntKind.i64.max=9223372036854775807:=by decide
 omega
theorem aV {o:Oper} {s:GS} {E:Nat→Value} {c:Cx} (hr:NG s.G s.cx E) (hc:gc n ops o s.cx=some c):(holds s.G c→Region.wanted o (H7 n ops E)=true)∧(¬ holds s.G c→Region.wanted o (H7 n ops E)=false):=by
 unfold gc at hc
 unfold Region.wanted
 split at hc
 ·rename_i hg
  obtain rfl:=Option.some.inj hc
  simp only [hg]
  exact ⟨fun _=>trivial,fun h=>(h (fun p a=>(by cases a))).elim⟩
 rename_i g want hg
 simp only [hg]
 split at hc
 ·rename_i t ht
  split at hc
  ·rename_i hlt
   obtain rfl:=Option.some.inj hc
   have d:t < n:=Nat.le_of_ble_eq_true hlt
   have j:H7 n ops E g=match E t with
    | .bool b=>some b
    | _=>none:=by
    unfold H7
    simp only [ht,A8,d,decide_true]
    cases E t <;> rfl
   rw [j]
   constructor
   ·intro i
    have f:holds s.G (Ho s.cx t):=fun p a=>i p (by simp [a])
    rw [(hr t).1 f,i (t,want) (by simp)]
    simp
   intro i
   by_cases f:holds s.G (Ho s.cx t)
   ·rw [(hr t).1 f]
    cases hG:s.G t with
    | bool b=>
     have:b≠want:=by
      intro e
      subst e
      exact i (fun p a=>by
       rcases List.mem_cons.1 a with rfl | a
       ·exact hG
       exact f p a)
     simp [this]
    | _=>rfl
   rw [(hr t).2 f]
   rfl
  cases hc
 cases hc
theorem KE {s:GS} {E:Nat→Value} {c:Cx} {x:Operand} (hr:NG s.G s.cx E) (hc:holds s.G c) (hx:W7 s.cx c x=true):A8 n E x=A8 n s.G x:=by
 cases x with
 | tmp t=>
  have:=(hr t).1 (LY hc hx)
  simp only [A8,this]
 | _=>rfl
theorem YT {l:List ((Option Next×List Nat)×(Option Next×List Nat))} (h:l.map Prod.fst=l.map Prod.snd):∀ p∈l,p.1=p.2:=by
 intro p b
 obtain ⟨i,hi⟩:=List.mem_iff_getElem?.1 b
 have a:(l.map Prod.fst)[i]?=some p.1:=by rw [List.getElem?_map,hi]; rfl
 have h2:(l.map Prod.snd)[i]?=some p.2:=by rw [List.getElem?_map,hi]; rfl
 rw [h,h2] at a
 exact (Option.some.inj a).symm
def FG (P:Program) (n:Nat) (C:World→Prop) (ops:Array Oper) (sp:Sp):Prop:=sp.cond=true→∀ E,Ix (A8 n E) sp.l→∀ w,C w→Oper.quietUpon P C w sp.v ((execOp (A8 n E) (ops.getD sp.i default)).run P w)
theorem I5:∀ {l:List Sp} {i:Nat} {a:Sp},He l i=some a→a∈l∧a.i=i
 | [],_,_,h=>by cases h
 | s :: r,i,a,h=>by
  unfold He at h
  split at h
  ·rename_i hb
   obtain rfl:=Option.some.inj h
   exact ⟨by simp,Nat.eq_of_beq_eq_true hb⟩
  exact ⟨List.mem_cons_of_mem _ (I5 h).1,(I5 h).2⟩
theorem XL {ρ:Operand→Value}:∀ {l:List (Tmp×Value)},(∀ p∈l,ρ (.tmp p.1)=p.2)→Ix ρ l
 | [],_=>trivial
 | p :: l,h=>⟨h p (by simp),XL fun q a=>h q (by simp [a])⟩
theorem Ye {I:JF} {i:Nat} {o:Oper} {s:GS} {c:Cx} {v:Value} {E:Nat→Value} (hz:∀ z∈RP n I i o s c,(z:Int)≤IntKind.i64.max) (ho:ops[i]?=some o) (hr:NG s.G s.cx E) (hc:holds s.G c) (hv:gS P n I i o s c=some v)
  (f:∀ X,∀ p∈Mo P n I X i o s c,p.1=p.2) (hM:∀ w,C w→∀ e∈I.mem,e.good w) (hS:∀ sp∈I.specs,FG P n C ops sp):∀ w,C w→Oper.quietAt P o (Fr n E) C w v:=by
 intro w hw
 unfold Oper.quietAt
 rw [D7]
 have f:=f E
 unfold gS at hv
 unfold Mo at f
 split at hv
 ·rename_i sp hsp
  simp only [hsp] at f
  split at hv
  ·rename_i hall
   obtain rfl:=Option.some.inj hv
   obtain ⟨j,hi⟩:=I5 hsp
   have g:sp.cond=true:=by
    have:=f _ (List.mem_cons_self ..)
    simp only [Prod.mk.injEq,Option.some.injEq,Next.value.injEq,Value.bool.injEq,and_true] at this
    rw [this]
    exact RV hc
   have hk:Ix (A8 n E) sp.l:=XL fun p h=>by
    rw [List.all_eq_true] at hall
    have u:=hall p h
    rw [KE (x:=.tmp p.1) hr hc u]
    have:=f _ (List.mem_cons_of_mem _ (List.mem_map.2 ⟨p,h,rfl⟩))
    simp only [Prod.mk.injEq,Option.some.injEq,Next.value.injEq,and_true] at this
    exact this
   have:=hS sp j g E hk w hw
   have e:ops.getD sp.i default=o:=by rw [hi,Array.getD_eq_getD_getElem?,ho]; rfl
   rw [e] at this
   exact this
  cases hv
 rename_i hsp
 simp only [hsp] at f
 split at hv
 ·rename_i t x y hop
  split at hv
  ·rename_i hb
   rw [Bool.and_eq_true,Bool.and_eq_true] at hb
   split at hv
   ·rename_i b hG
    obtain rfl:=Option.some.inj hv
    have ht:A8 n E (.tmp t)=ξ b:=by rw [KE (x:=.tmp t) hr hc hb.1]; exact hG
    have k:s.G t=ξ b:=by
     simp only [A8] at hG
     split at hG
     ·exact hG
     cases hG
    obtain ⟨d,op,ty,a0,af,gd⟩:=o
    simp only at hop
    subst hop
    have e:(execOp (A8 n E) ⟨d,.pick (.tmp t) x y,ty,a0,af,gd⟩).run P w=.ok (.value (if b then A8 n E x else A8 n E y)) w:=by
     show ((asBool (A8 n E (.tmp t))).bind fun b=>Sem.pure (Next.value (if b then A8 n E x else A8 n E y))).run P w=_
     rw [ht]
     rfl
    rw [e]
    refine ⟨rfl,?_⟩
    rw [mN]
    cases b with
    | true=>exact KE (c:=(t,true) :: c) hr (fun p f=>(List.mem_cons.1 f).elim (fun e=>e ▸ k) (hc p)) hb.2.1
    | false=>exact KE (c:=(t,false) :: c) hr (fun p f=>(List.mem_cons.1 f).elim (fun e=>e ▸ k) (hc p)) hb.2.2
   cases hv
  cases hv
 rename_i hnp
 cases hsa:NV n s c o.op with
 | some ab=>
  obtain ⟨a,b⟩:=ab
  rw [hsa] at hv
  obtain rfl:=Option.some.inj hv
  unfold RP at hz
  simp only [hsp,hsa] at hz
  have b0:=hz _ (List.mem_singleton.2 rfl)
  unfold NV at hsa
  split at hsa
  ·rename_i T x y T' hop
   split at hsa
   ·rename_i hok
    rw [Bool.and_eq_true] at hok
    split at hsa
    ·rename_i a' b' hx hy
     simp only [Option.some.injEq,Prod.mk.injEq] at hsa
     obtain ⟨rfl,rfl⟩:=hsa
     rw [qL hop ((KE hr hc hok.1).trans hx) ((KE hr hc hok.2).trans hy) b0]
     exact ⟨rfl,rfl⟩
    cases hsa
   cases hsa
  cases hsa
 | none=>
 rw [hsa] at hv
 have f:∀ p∈(match plain P n I i o s c E with
   | some (r,m)=>[((some r,m.eqs.map Prod.fst),((plain P n I i o s c (fun _=>undef)).map (·.1),m.eqs.map Prod.snd))]
   | none=>[((none,[]),(some .skip,[]))]:List ((Option Next×List Nat)×(Option Next×List Nat))),p.1=p.2:=by
  split at f
  ·rename_i t x y hop; exact (hnp t x y hop).elim
  rw [hsa] at f; exact f
 simp only at hv
 split at hv
 ·rename_i v' m' hpl
  obtain rfl:=Option.some.inj hv
  cases hE:plain P n I i o s c E with
  | none=>
   rw [hE] at f
   have:=f _ (List.mem_singleton.2 rfl)
   simp at this
  | some q=>
   obtain ⟨r,m⟩:=q
   rw [hE] at f
   have:=f _ (List.mem_singleton.2 rfl)
   rw [hpl] at this
   simp only [Option.map_some,Prod.mk.injEq,Option.some.injEq] at this
   obtain ⟨rfl,he⟩:=this
   unfold plain at hE
   rw [gV hr hc] at hE
   rw [F4 _ _ _ _ hE (hM w hw) fun p f=>by
    obtain ⟨i,hi⟩:=List.mem_iff_getElem?.1 f
    have u:(m.eqs.map Prod.fst)[i]?=some p.1:=by rw [List.getElem?_map,hi]; rfl
    have h2:(m.eqs.map Prod.snd)[i]?=some p.2:=by rw [List.getElem?_map,hi]; rfl
    rw [he,h2] at u
    exact (Option.some.inj u).symm]
   exact ⟨rfl,rfl⟩
 cases hv
theorem Pn {I:JF} {Q:Act→Prop} (r:∀ w,C w→∀ e∈I.mem,e.good w) (m:∀ sp∈I.specs,FG P n C ops sp):∀ (l:List Nat) (s s':GS) (E:Nat→Value),NG s.G s.cx E→LQ P n ops I l s=some s'→(∀ X,∀ p∈GZ P n ops I X l s,p.1=p.2)→(∀ z∈LR P n ops I l s,(z:Int)≤IntKind.i64.max)→
  (∀ E',NG s'.G s'.cx E'→Q (Fr n E'))→wpQuiet P ops C Q (l.map (ops.getD · default)) (Fr n E)
 | [],s,s',E,hr,h,_,_,hk=>by obtain rfl:=Option.some.inj h; exact hk E hr
 | i :: l,s,s',E,hr,h,hp,hz,hk=>by
  unfold LQ at h
  cases hs:Nr P n ops I i s with
  | none=>rw [hs] at h; cases h
  | some q=>
   obtain ⟨o,c,t⟩:=q
   rw [hs] at h
   have k:∀ X,∀ p∈Mo P n I X i o s c,p.1=p.2:=fun X p b=>hp X p (by unfold GZ; rw [hs]; exact List.mem_append_left _ b)
   have g:∀ X,∀ p∈GZ P n ops I X l t,p.1=p.2:=fun X p b=>hp X p (by unfold GZ; rw [hs]; exact List.mem_append_right _ b)
   have j:∀ z∈RP n I i o s c,(z:Int)≤IntKind.i64.max:=fun z a=>hz z (by unfold LR; rw [hs]; exact List.mem_append_left _ a)
   have f:∀ z∈LR P n ops I l t,(z:Int)≤IntKind.i64.max:=fun z a=>hz z (by unfold LR; rw [hs]; exact List.mem_append_right _ a)
   unfold Nr at hs
   split at hs
   ·cases hs
   rename_i o' ho
   split at hs
   ·cases hs
   rename_i c' hcx
   split at hs
   ·rename_i v d hv hd
    split at hs
    ·rename_i hfree
     simp only [Option.some.injEq,Prod.mk.injEq] at hs
     obtain ⟨rfl,rfl,rfl⟩:=hs
     rw [Bool.and_eq_true] at hfree
     have u:=aV hr hcx
     have e:ops.getD i default=o':=by rw [Array.getD_eq_getD_getElem?,ho]; rfl
     rw [List.map_cons,e]
     unfold wpQuiet
     rw [F1]
     by_cases hh:holds s.G c'
     ·rw [if_pos (u.1 hh)]
      refine ⟨v,Ye j ho hr hh hv k r m,?_⟩
      rw [El,hd]
      exact Pn r m l _ s' _ (hr.put d hfree.1 hfree.2 ⟨fun _=>rfl,fun h=>(h hh).elim⟩) h g f hk
     rw [u.2 hh,if_neg (by simp),El,hd]
     exact Pn r m l _ s' _ (hr.put d hfree.1 hfree.2 ⟨fun h=>(hh h).elim,fun _=>rfl⟩) h g f hk
    cases hs
   cases hs
theorem Ij {Q b:Act→Prop}:∀ (l:List Oper) (a:Act),(∀ a,Q a→b a)→wpQuiet P ops C Q l a→wpQuiet P ops C b l a
 | [],a,h,hh=>h a hh
 | o :: l,a,h,hh=>by
  unfold wpQuiet at hh ⊢
  split
  ·rename_i hw
   rw [if_pos hw] at hh
   exact Oper.quiet_mono (fun d c=>Ij l d h c) hh
  rename_i hw
  rw [if_neg hw] at hh
  exact Ij l _ h hh
theorem JY {Q:Exit→Act→World→Prop}:∀ (l:List Nat) (a:Act) (w:World),(∀ i∈l,i < ops.size)→C w→wpQuiet P ops C (fun q=>∀ w',C w'→Q .normal q w') (l.map (ops.getD · default)) a→wpOps P ops Q l a w
 | [],a,w,_,hw,h=>h w hw
 | i :: l,a,w,hi,hw,h=>by
  have d:=hi i (by simp)
  have ho:ops[i]?=some (ops.getD i default):=by rw [Array.getD_eq_getD_getElem?,Array.getElem?_eq_getElem d]; rfl
  rw [List.map_cons] at h
  generalize ops.getD i default=o at h ho
  unfold wpQuiet at h
  by_cases hwt:Region.wanted o (yielded ops a.tmps)=true
  ·rw [if_pos hwt] at h
   obtain ⟨v,p,h2⟩:=h
   refine Gi ho hwt ?_
   have c:=p w hw
   unfold Oper.quietAt at c
   unfold Oper.wp
   generalize (execOp a.eval o).run P w=r at *
   cases r with
   | ok x w'=>
    cases x with
    | value u=>obtain ⟨rfl,rfl⟩:=c; exact JY l _ _ (fun j b=>hi j (by simp [b])) hw h2
    | skip=>obtain ⟨rfl,rfl⟩:=c; exact JY l _ _ (fun j b=>hi j (by simp [b])) hw h2
    | enter f args=>
     obtain ⟨rfl,n⟩:=c
     refine n.mono fun e g k=>?_
     obtain ⟨rfl,m⟩:=k
     exact JY l _ _ (fun j b=>hi j (by simp [b])) m h2
    | _=>exact c.elim
   | _=>exact c.elim
  rw [if_neg hwt] at h
  exact Sb ho (by simpa using hwt) (JY l _ _ (fun j b=>hi j (by simp [b])) hw h)
theorem l5 (ops:Array Oper):(List.range ops.size).map (ops.getD · default)=ops.toList:=by
 refine List.ext_getElem? fun i=>?_
 rw [List.getElem?_map,JX]
 by_cases h:i < ops.size
 ·simp [h,Array.getD_eq_getD_getElem?]
 simp [h]
variable {f:FuncId} {R:Ending→World→Prop}
theorem gQ {w w':World} {e:A7} (h:e.good w) (hb:Below (ε w) w w'):e.good w':=by
 have a:=hb.block e.id h.1
 refine ⟨Nat.lt_of_lt_of_le h.1 hb.size,?_⟩
 have h2:=h.2
 split at h2
 ·rename_i ho; rw [if_pos ho,a]; exact h2
 rename_i ho
 rw [if_neg ho]
 intro j v hv
 rw [World.cell?_of_block (w:=w) a]
 exact h2 j v hv
theorem S2 {G E:Nat→Value} {cx:List (Tmp×Cx)} (hr:NG G cx E):∀ (l:List (Nat×Value)),l.map (fun p=>(G p.1,Ho cx p.1))=l.map (fun p=>(p.2,[]))→l.map (fun p=>E p.1)=l.map (·.2)
 | [],_=>rfl
 | p :: l,h=>by
  simp only [List.map_cons,List.cons.injEq,Prod.mk.injEq] at h ⊢
  refine ⟨?_,S2 hr l h.2⟩
  rw [(hr p.1).1 (by rw [h.1.2]; exact fun q a=>(by cases a))]
  exact h.1.1
def FY:List Item→Option (Array Oper)
 | .code (.region _ ops _) :: _=>some ops
 | _=>none
theorem n6 {E:Nat→Value} {w:World} {todo:List Item} (ops:Array Oper) (I:JF) (l:List (Nat×Value)) (ht:FY todo=some ops) (v:Region.lexB .any ops=true) (hm:P.follows .mixedOrders=true)
  (u:∀ e∈I.mem,e.good w) (t:∀ sp∈I.specs,FG P n (Below (ε w) w) ops sp)
  (q:∀ X,(GZ P n ops I X (List.range ops.size) ⟨E,[]⟩).map Prod.fst=(GZ P n ops I X (List.range ops.size) ⟨E,[]⟩).map Prod.snd)
  (hl:(LQ P n ops I (List.range ops.size) ⟨E,[]⟩).map (fun s=>l.map (fun p=>(s.G p.1,Ho s.cx p.1)))=some (l.map (fun p=>(p.2,[]))))
  (j:List Nat) (b:LR P n ops I (List.range ops.size) ⟨E,[]⟩=j) (hz:∀ z∈j,(z:Int)≤IntKind.i64.max)
  (r:∀ w' o,Below (ε w) w w'→At P f R (AM todo) (Fr n (BE o l)) w'):At P f R todo (Fr n E) w:=by
 cases hrun:LQ P n ops I (List.range ops.size) ⟨E,[]⟩ with
 | none=>rw [hrun] at hl; cases hl
 | some s'=>
  rw [hrun] at hl
  have c:=Option.some.inj hl
  have m:wpQuiet P ops (Below (ε w) w) (fun d=>∀ w',Below (ε w) w w'→H1 P f R (AM todo) d w') ((List.range ops.size).map (ops.getD · default)) (Fr n E):=by
   refine Pn (C:=Below (ε w) w) (fun w' a e he=>gQ (u e he) a) t _ _ _ E (.start E) hrun (fun X=>YT (q X)) (by rw [b]; exact hz) fun o hr w' a=>?_
   exact (Py l (S2 hr l c) fun g=>r w' g a).mid
  unfold FY at ht
  split at ht
  ·rename_i id ops' dr k
   obtain rfl:=Option.some.inj ht
   cases dr with
   | true=>
    refine mM (wp_region_quiet (C:=Below (ε w) w) hm v (Below.refl _ _).drew ?_)
    rw [← l5]
    exact Ij _ _ (fun d h w' a=>⟨rfl,h w' a⟩) m
   | false=>
    refine Dq (todo':=.inRegion ops' (List.range ops'.size) :: k) (by simp) (fun _=>step_region) ?_
    refine JY (C:=Below (ε w) w) _ _ _ (fun i hi=>by simpa using hi) (Below.refl _ _) ?_
    exact Ij _ _ (fun d h w' a=>⟨rfl,h w' a⟩) m
  cases ht
theorem Ib {E:Nat→Value} {w:World} {todo:List Item} (ops:Array Oper) (I:JF) (l:List (Nat×Value)) (ht:FY todo=some ops) (h:Region.lexB .any ops=true) (hm:P.follows .mixedOrders=true)
  (g:∀ e∈I.mem,e.good w) (d:∀ sp∈I.specs,FG P n (Below (ε w) w) ops sp)
  (b:∀ X,(GZ P n ops I X (List.range ops.size) ⟨E,[]⟩).map Prod.fst=(GZ P n ops I X (List.range ops.size) ⟨E,[]⟩).map Prod.snd)
  (hl:(LQ P n ops I (List.range ops.size) ⟨E,[]⟩).map (fun s=>l.map (fun p=>(s.G p.1,Ho s.cx p.1)))=some (l.map (fun p=>(p.2,[]))))
  (c:∀ w' E',Below (ε w) w w'→At P f R (AM todo) (Fr n (BE E' l)) w') (a:LR P n ops I (List.range ops.size) ⟨E,[]⟩=[]:=by kernel_rfl):At P f R todo (Fr n E) w:=
 n6 ops I l ht h hm g d b hl [] a (fun z hz=>(by cases hz)) c
def X4:Oper→Option (FuncId×List Operand)
 | ⟨_,.call ⟨.value (.func g),xs,_⟩,_,_,_,_⟩=>some (g,xs.toList)
 | _=>none
theorem mc {o:Oper} {g:FuncId} {xs:List Operand} {args:List Value} {E:Nat→Value} {w:World} (ho:X4 o=some (g,xs)) (hg:DX P g=true) (ha:xs.map (A8 n E)=args):(execOp (A8 n E) o).run P w=.ok (.enter g args.toArray) w:=by
 unfold X4 at ho
 split at ho
 ·rename_i d g' xs' ats ty pos af gd
  simp only [Option.some.injEq,Prod.mk.injEq] at ho
  obtain ⟨rfl,rfl⟩:=ho
  rw [← CV (h:=hg) args.toArray w,← ha]
  unfold execOp resolve
  have a:xs'.toList.map (A8 n E)=(xs'.map (A8 n E)).toList:=by simp
  simp only [a,Array.toArray_toList]
  show ((Deferred.ofValue (.func (.func g') #[] #[]) (xs'.map (A8 n E))).bind fun d=>invoke d.target d.args).run P w=_
  unfold Deferred.ofValue
  simp [invoke,pure,Sem.bind]
 cases ho
theorem AY {a:Sp} (g:FuncId) (xs:List Operand) (args:List Value) (ha:∀ E,xs.map (Q6 a.l (A8 n E))=args) (h:a.cond=true→∀ w,C w→Calls P g args.toArray w fun e w'=>e=.returned a.v∧C w') (ho:X4 (ops.getD a.i default)=some (g,xs):=by kernel_rfl) (hg:DX P g=true:=by kernel_rfl):FG P n C ops a:=by
 intro hc E c w b
 have e:xs.map (A8 n E)=args:=by
  have:=ha E
  rw [W6 c] at this
  exact this
 rw [mc (w:=w) ho hg e]
 exact ⟨rfl,h hc w b⟩
theorem BQ {a:Sp} (h:a.cond=true→∀ E w,C w→(execOp (Q6 a.l (A8 n E)) (ops.getD a.i default)).run P w=.ok (.value a.v) w):FG P n C ops a:=by
 intro hc E c w b
 have:=h hc E w b
 rw [W6 c] at this
 rw [this]
 exact ⟨rfl,rfl⟩
theorem AQ {g:FuncId} {args:Array Value} {v:Value} {w0 w:World} (hb:Below (ε w0) w0 w) (h:Calls P g args w fun e w'=>e=.returned v∧Below (ε w) w w'):Calls P g args w fun e w'=>e=.returned v∧Below (ε w0) w0 w':=
 h.mono fun _ _ ⟨a,h2⟩=>⟨a,hb.trans (h2.mono hb.size)⟩
end
theorem JK (c:UInt8) (w:World) :
  Calls Tryz.prog 121 #[.int .u8 c.toNat] w fun e w'=>e=.returned (ξ (Tk.isDig c))∧w=w':=by
 go_enter Tryz.func121,Tryz.ntmps121
 go_wp2
 all_goals
  go_ret
  refine ⟨IR ?_,rfl⟩
  unfold Tk.isDig
  rw [Bool.eq_iff_iff]
  simp
  omega
theorem G6 (c:UInt8) (w:World) :
  Calls Tryz.prog 120 #[.int .u8 c.toNat] w fun e w'=>e=.returned (ξ (Tk.isLow c))∧w=w':=by
 go_enter Tryz.func120,Tryz.ntmps120
 go_wp2
 all_goals
  go_ret
  refine ⟨IR ?_,rfl⟩
  unfold Tk.isLow
  rw [Bool.eq_iff_iff]
  simp
  omega
attribute [local go_sem] nz
theorem XO (c:UInt8):Tk.isWord c=true↔(Tk.isLow c=true∨(Tk.isLow c=false∧Tk.isDig c=true)∨(Tk.isLow c=false∧Tk.isDig c=false∧c.toNat=95)):=by
 unfold Tk.isWord
 cases Tk.isLow c <;> cases Tk.isDig c <;> simp
theorem XN {c:UInt8} (h:Tk.isWord c=false):Tk.isLow c=false∧Tk.isDig c=false∧((c.toNat:Int) == 95)=false:=by
 unfold Tk.isWord at h
 cases hl:Tk.isLow c <;> cases hd:Tk.isDig c <;> simp_all
 omega
set_option maxHeartbeats 400000 in
theorem Lo (l:List UInt8) (w:World) (hs:l.length≤maxLen) :
  Calls Tryz.prog 102 #[.string ⟨l.toArray⟩] w fun e w'=>e=.returned (δ (Tk.wordLen l))∧w=w':=by
 unfold maxLen at hs
 cases l with
 | nil=>
  go_enter Tryz.func102,Tryz.ntmps102
  go_wp2
  go_ret
  exact ⟨rfl,rfl⟩
 | cons c r=>
  by_cases hc:Tk.isLow c=true
  ·have HC:=Lib.hid hc
   simp only [List.length_cons] at hs
   go_enter Tryz.func102,Tryz.ntmps102
   go_wp2_with ((go_at_call 120; refine (G6 _ _).mono ?_; rintro e w' ⟨rfl,rfl⟩))
   clear hc
   go_loop [3] (fun n=>∃ k:Nat,k≤r.length∧n=δ (k + 1)∧Hid (∀ j (h:j < r.length),j < k→Tk.isWord r[j]=true)) (fun i=>r.length + 1 - (intOf i).toNat)
   case atStart=>exact ⟨0,Nat.zero_le _,rfl,fun _ _ h=>by omega⟩
   case round=>
    obtain ⟨k,hk,rfl,HA⟩:=hrel
    by_cases hlt:k < r.length
    ·by_cases hd:Tk.isWord r[k]=true
     ·have HD:=Lib.hid hd
      rcases (XO _).1 hd with h1 | ⟨h1,h2⟩ | ⟨h1,h2,h3⟩
      all_goals clear hd
      ·go_wp2_with ((first | (go_at_call 120; refine (G6 _ _).mono ?_; rintro e w' ⟨rfl,rfl⟩) | (go_at_call 121; refine (JK _ _).mono ?_; rintro e w' ⟨rfl,rfl⟩)))
       go_round
       case rel=>exact ⟨k + 1,by omega,by go_num,fun j h hj=>if e:j=k then by subst e; exact HD.out else HA.out j h (by omega)⟩
       case measure=>simp [intOf]; omega
      ·go_wp2_with ((first | (go_at_call 120; refine (G6 _ _).mono ?_; rintro e w' ⟨rfl,rfl⟩) | (go_at_call 121; refine (JK _ _).mono ?_; rintro e w' ⟨rfl,rfl⟩)))
       go_round
       case rel=>exact ⟨k + 1,by omega,by go_num,fun j h hj=>if e:j=k then by subst e; exact HD.out else HA.out j h (by omega)⟩
       case measure=>simp [intOf]; omega
      have h4:((r[k].toNat:Int) == 95)=true:=by simp; omega
      clear h3
      go_wp2_with ((first | (go_at_call 120; refine (G6 _ _).mono ?_; rintro e w' ⟨rfl,rfl⟩) | (go_at_call 121; refine (JK _ _).mono ?_; rintro e w' ⟨rfl,rfl⟩)))
      go_round
      case rel=>exact ⟨k + 1,by omega,by go_num,fun j h hj=>if e:j=k then by subst e; exact HD.out else HA.out j h (by omega)⟩
      case measure=>simp [intOf]; omega
     have hd:Tk.isWord r[k]=false:=by simpa using hd
     have HD:=Lib.hid hd
     obtain ⟨h1,h2,h4⟩:=XN hd
     clear hd
     go_wp2_with ((first | (go_at_call 120; refine (G6 _ _).mono ?_; rintro e w' ⟨rfl,rfl⟩) | (go_at_call 121; refine (JK _ _).mono ?_; rintro e w' ⟨rfl,rfl⟩)))
     go_ret
     exact ⟨Em (by simp only [Tk.wordLen,HC.out,if_true]; rw [Tk.lead_eq _ _ k hk HA.out (fun _=>HD.out)]; omega),rfl⟩
    go_wp2_with fail
    go_ret
    exact ⟨Em (by simp only [Tk.wordLen,HC.out,if_true]; rw [Tk.lead_eq _ _ k hk HA.out (fun h=>absurd h hlt)]; omega),rfl⟩
  have hc:Tk.isLow c=false:=by simpa using hc
  have HC:=Lib.hid hc
  go_enter Tryz.func102,Tryz.ntmps102
  go_wp2_with ((go_at_call 120; refine (G6 _ _).mono ?_; rintro e w' ⟨rfl,rfl⟩))
  go_ret
  exact ⟨Em (by simp [Tk.wordLen,HC.out]),rfl⟩
theorem Bv {l k:List UInt8} (h:Tk.isKey l=false) (a:k∈Tk.keywords):(l == k)=false:=by
 rw [beq_eq_false_iff_ne]
 rintro rfl
 unfold Tk.isKey at h
 rw [List.contains_iff_mem.2 a] at h
 cases h
set_option maxHeartbeats 2000000 in
theorem ND (l:List UInt8) (w:World) :
  Calls Tryz.prog 103 #[.string ⟨l.toArray⟩] w fun e w'=>e=.returned (ξ (Tk.isKey l))∧w=w':=by
 by_cases hk:Tk.isKey l=true
 ·have hm:l∈Tk.keywords:=List.contains_iff_mem.1 hk
  rw [hk]
  clear hk
  simp only [Tk.keywords,List.mem_cons,List.not_mem_nil,or_false] at hm
  rcases hm with rfl | rfl | rfl | rfl | rfl | rfl | rfl | rfl | rfl | rfl | rfl | rfl | rfl | rfl | rfl | rfl | rfl | rfl | rfl | rfl | rfl | rfl | rfl | rfl | rfl | rfl | rfl | rfl | rfl | rfl | rfl | rfl | rfl | rfl
  all_goals
   go_enter Tryz.func103,Tryz.ntmps103
   go_wp2
   go_ret
   exact ⟨rfl,rfl⟩
 have hk:Tk.isKey l=false:=by simpa using hk
 rw [hk]
 have k0:=Bv (k:=[97,103,114,101,101,109,101,110,116]) hk (by decide)
 have k1:=Bv (k:=[105,110,112,117,116]) hk (by decide)
 have k2:=Bv (k:=[112,97,115,116]) hk (by decide)
 have k3:=Bv (k:=[115,99,97,108,101]) hk (by decide)
 have k4:=Bv (k:=[114,117,108,101]) hk (by decide)
 have k5:=Bv (k:=[112,97,121]) hk (by decide)
 have k6:=Bv (k:=[102,114,111,109]) hk (by decide)
 have k7:=Bv (k:=[114,111,117,110,100,101,100]) hk (by decide)
 have k8:=Bv (k:=[116,111]) hk (by decide)
 have k9:=Bv (k:=[105,102]) hk (by decide)
 have k10:=Bv (k:=[116,104,101,110]) hk (by decide)
 have k11:=Bv (k:=[101,108,115,101]) hk (by decide)
 have k12:=Bv (k:=[97,110,100]) hk (by decide)
 have k13:=Bv (k:=[111,114]) hk (by decide)
 have k14:=Bv (k:=[110,111,116]) hk (by decide)
 have k15:=Bv (k:=[116,114,117,101]) hk (by decide)
 have k16:=Bv (k:=[102,97,108,115,101]) hk (by decide)
 have k17:=Bv (k:=[109,105,110]) hk (by decide)
 have k18:=Bv (k:=[109,97,120]) hk (by decide)
 have k19:=Bv (k:=[114,111,117,110,100]) hk (by decide)
 have k20:=Bv (k:=[97,118,101,114,97,103,101]) hk (by decide)
 have k21:=Bv (k:=[108,97,115,116]) hk (by decide)
 have k22:=Bv (k:=[109,111,110,101,121]) hk (by decide)
 have k23:=Bv (k:=[104,111,117,114,115]) hk (by decide)
 have k24:=Bv (k:=[100,97,121,115]) hk (by decide)
 have k25:=Bv (k:=[110,117,109,98,101,114]) hk (by decide)
 have k26:=Bv (k:=[98,111,111,108]) hk (by decide)
 have k27:=Bv (k:=[100,111,119,110]) hk (by decide)
 have k28:=Bv (k:=[117,112]) hk (by decide)
 have k29:=Bv (k:=[102,108,111,111,114]) hk (by decide)
 have k30:=Bv (k:=[99,101,105,108,105,110,103]) hk (by decide)
 have k31:=Bv (k:=[104,97,108,102,95,117,112]) hk (by decide)
 have k32:=Bv (k:=[104,97,108,102,95,100,111,119,110]) hk (by decide)
 have k33:=Bv (k:=[104,97,108,102,95,101,118,101,110]) hk (by decide)
 clear hk
 go_enter Tryz.func103,Tryz.ntmps103
 go_wp2
 go_ret
 exact ⟨rfl,rfl⟩
set_option maxHeartbeats 1000000 in
theorem OY (a b:Nat) (w:World) (ha:a≤18446744073709551615) (hb:b≤18446744073709551615) :
  Calls Tryz.prog 94 #[.int .u64 a,.int .u64 b] w fun e w'=>e=.returned (.int .u64 (Nat.gcd a b))∧∃ n,w'=w.drewN n:=by
 generalize hG:Nat.gcd a b=G
 have HG:=Lib.hid hG
 clear hG
 go_enter Tryz.func94,Tryz.ntmps94
 go_wp2_with fail
 go_loopw [0,1] (fun p q wr=>∃ x y n:Nat,x≤18446744073709551615∧y≤18446744073709551615∧p=.int .u64 x∧q=.int .u64 y∧Hid (Nat.gcd x y=G)∧wr=w.drewN n) (fun _ q _=>(intOf q).toNat)
 case atStart=>exact ⟨a,b,0,ha,hb,rfl,rfl,HG,rfl⟩
 case round=>
  obtain ⟨x,y,n,hx,hy,rfl,rfl,HX,rfl⟩:=hrel
  by_cases hy0:y=0
  ·subst hy0
   go_wp2_with fail
   go_ret
   exact ⟨Em (by rw [← HX.out]; simp),n,rfl⟩
  have g1:((y:Int) != 0)=true:=by simp; omega
  have g2:((y:Int) == 0)=false:=by simp; omega
  have hyp:1≤y:=by omega
  have hm:=Nat.mod_lt x hyp
  have HN:Hid (Nat.gcd y (x % y)=G):=by
   show _=_
   rw [← HX.out,Nat.gcd_comm x y,Nat.gcd_rec y x,Nat.gcd_comm]
  clear hy0
  go_wp2_with fail
  go_quiet (fail)
  go_wp2_with fail
  go_roundw
  case rel=>exact ⟨y,x % y,_,by omega,by omega,rfl,by go_num,HN,World.drewN_drewN _ _ _⟩
  case measure=>simp [intOf]; omega
theorem TM (n:Int) (w:World) (b:-4000000000000000000≤n) (a:n≤4000000000000000000) :
  Calls Tryz.prog 95 #[δ n] w fun e w'=>e=.returned (.int .u64 (n.natAbs:Nat))∧w=w':=by
 by_cases hn:n < 0
 ·go_enter Tryz.func95,Tryz.ntmps95
  go_wp2_with fail
  go_ret
  refine ⟨Em ?_,rfl⟩
  simp only [IntKind.wrap_u64]
  omega
 go_enter Tryz.func95,Tryz.ntmps95
 go_wp2_with fail
 go_ret
 exact ⟨Em (by first | omega | (simp only [IntKind.wrap_u64]; omega)),rfl⟩
def AV (n d:Int):Bool:=decide (1≤d∧d≤1000000∧-1000000000000≤n∧n≤1000000000000∧Nat.gcd n.natAbs d.natAbs=1)
set_option maxHeartbeats 1000000 in
theorem Bt (n d:Int) (w:World) :
  Calls Tryz.prog 63 #[.agg #[δ n,δ d]] w fun e w'=>e=.returned (ξ (AV n d))∧Below (ε w) w w':=by
 by_cases h1:d < 1
 ·have HF:Hid (AV n d=false):=decide_eq_false (by omega)
  go_enter Tryz.func63,Tryz.ntmps63
  go_wp2_with fail
  go_ret
  exact ⟨IR HF.out.symm,(Below.refl _ _).alloc (Nat.le_refl _) _⟩
 by_cases h2:1000000 < d
 ·have HF:Hid (AV n d=false):=decide_eq_false (by omega)
  go_enter Tryz.func63,Tryz.ntmps63
  go_wp2_with fail
  go_ret
  exact ⟨IR HF.out.symm,(Below.refl _ _).alloc (Nat.le_refl _) _⟩
 by_cases h3:n < -1000000000000
 ·have HF:Hid (AV n d=false):=decide_eq_false (by omega)
  go_enter Tryz.func63,Tryz.ntmps63
  go_wp2_with fail
  go_ret
  exact ⟨IR HF.out.symm,(Below.refl _ _).alloc (Nat.le_refl _) _⟩
 by_cases h4:1000000000000 < n
 ·have HF:Hid (AV n d=false):=decide_eq_false (by omega)
  go_enter Tryz.func63,Tryz.ntmps63
  go_wp2_with fail
  go_ret
  exact ⟨IR HF.out.symm,(Below.refl _ _).alloc (Nat.le_refl _) _⟩
 obtain ⟨k,rfl⟩:=Int.eq_ofNat_of_zero_le (show 0≤d by omega)
 have HF:Hid (AV n k=(((Nat.gcd n.natAbs k:Nat):Int) == 1)):=by
  show _=_
  unfold AV
  rw [Bool.eq_iff_iff]
  simp
  omega
 go_enter Tryz.func63,Tryz.ntmps63
 go_wp2_with fail
 go_quiet ((first | (go_at_call 95; exact Q4 (TM _ _ (by omega) (by omega))) | (go_at_call 94; exact Calls.quiet_of (OY _ _ _ (by omega) (by omega)))))
 go_wp2_with fail
 go_ret
 exact ⟨IR HF.out.symm,GB ((Below.refl _ _).alloc (Nat.le_refl _) _) _⟩
end Go.Proofs.YtkjbdagicjbjjaaGreat

/-
  Part 3 of a proof: contracts of functions.
-/
import Derived.Test.YtmcpjkcggfmcmaaGreatDoorL02
import Derived.Deep.Quiet
import Derived.Below
set_option linter.all false
namespace Go.Proofs.YtmcpjkcggfmcmaaGreatDoor
open Go.RowKit
section
variable {P:Program} {ops:Array Oper} {n:Nat} {C:World→Prop}
abbrev Cx:=List (Tmp×Bool)
def Fd:List (Tmp×Cx)→Tmp→Cx
 | [],_=>[]
 | p :: r,t=>match Nat.beq p.1 t with
  | true=>p.2
  | false=>Fd r t
def O6 (p:Tmp×Bool):Cx→Bool
 | []=>false
 | q :: r=>(Nat.beq p.1 q.1 && (p.2 == q.2)) || O6 p r
def I6:Cx→Cx→Bool
 | [],_=>true
 | p :: r,c=>O6 p c && I6 r c
def ID (d:Tmp):Cx→Bool
 | []=>true
 | q :: r=>!(Nat.beq q.1 d) && ID d r
def Iw (d:Tmp):List (Tmp×Cx)→Bool
 | []=>true
 | p :: r=>ID d p.2 && Iw d r
def holds (G:Nat→Value) (c:Cx):Prop:=∀ p∈c,G p.1=.bool p.2
theorem N4 {p:Tmp×Bool}:∀ {c:Cx},O6 p c=true→p∈c
 | [],h=>by cases h
 | q :: r,h=>by
  unfold O6 at h
  rw [Bool.or_eq_true,Bool.and_eq_true] at h
  rcases h with ⟨h1,h2⟩ | h
  ·have e1:=Nat.eq_of_beq_eq_true h1
   have e2:p.2=q.2:=by simpa using h2
   have:p=q:=Prod.ext e1 e2
   simp [this]
  ·exact List.mem_cons_of_mem _ (N4 h)
theorem IZ {G:Nat→Value} {c:Cx} (hc:holds G c):∀ {a:Cx},I6 a c=true→holds G a
 | [],_=>fun p hp=>by cases hp
 | p :: r,h=>by
  unfold I6 at h
  rw [Bool.and_eq_true] at h
  intro q hq
  rcases List.mem_cons.1 hq with rfl | hq
  ·exact hc _ (N4 h.1)
  ·exact IZ hc h.2 q hq
theorem IC {G:Nat→Value} {d:Tmp} {v:Value}:∀ {c:Cx},ID d c=true→(holds (HV G d v) c↔holds G c)
 | [],_=>⟨fun _ p hp=>(by cases hp),fun _ p hp=>(by cases hp)⟩
 | q :: r,h=>by
  unfold ID at h
  rw [Bool.and_eq_true] at h
  have ih:=IC (G:=G) (v:=v) h.2
  have hq:HV G d v q.1=G q.1:=by
   unfold HV
   rw [if_neg]
   intro e
   have:Nat.beq q.1 d=true:=by rw [e]; exact Nat.beq_refl d
   rw [this] at h
   cases h.1
  constructor
  ·intro hh p hp
   rcases List.mem_cons.1 hp with rfl | hp
   ·rw [← hq]; exact hh _ (by simp)
   ·exact ih.1 (fun p hp=>hh p (by simp [hp])) p hp
  ·intro hh p hp
   rcases List.mem_cons.1 hp with rfl | hp
   ·rw [hq]; exact hh _ (by simp)
   ·exact ih.2 (fun p hp=>hh p (by simp [hp])) p hp
theorem Mq {d:Tmp}:∀ {cx:List (Tmp×Cx)} (t:Tmp),Iw d cx=true→ID d (Fd cx t)=true
 | [],_,_=>rfl
 | p :: r,t,h=>by
  unfold Iw at h
  rw [Bool.and_eq_true] at h
  unfold Fd
  split
  ·exact h.1
  ·exact Mq t h.2
def Ji (G:Nat→Value) (cx:List (Tmp×Cx)) (E:Nat→Value):Prop:=∀ t,(holds G (Fd cx t)→E t=G t)∧(¬ holds G (Fd cx t)→E t=undef)
theorem Ji.start (G:Nat→Value):Ji G [] G:=fun _=>⟨fun _=>rfl,fun h=>(h (fun p hp=>by cases hp)).elim⟩
def Vd (G:Nat→Value) (cx:List (Tmp×Cx)) (c:Cx) (X:Nat→Value):Nat→Value:=fun t=>match I6 (Fd cx t) c with
 | true=>G t
 | false=>X t
theorem Vc {G E:Nat→Value} {cx:List (Tmp×Cx)} {c:Cx} (h:Ji G cx E) (hc:holds G c):Vd G cx c E=E:=by
 funext t
 unfold Vd
 split
 ·rename_i hs; exact ((h t).1 (IZ hc hs)).symm
 ·rfl
theorem Ji.put {G E:Nat→Value} {cx:List (Tmp×Cx)} {c:Cx} {v u:Value} (h:Ji G cx E) (d:Tmp) (hf:Iw d cx=true) (hfc:ID d c=true) (hu:(holds G c→u=v)∧(¬ holds G c→u=undef)):Ji (HV G d v) ((d,c) :: cx) (HV E d u):=by
 intro t
 unfold Fd
 by_cases ht:d=t
 ·subst ht
  simp only [Nat.beq_refl]
  rw [IC hfc]
  simp only [HV,if_true]
  exact hu
 ·have hb:Nat.beq d t=false:=by
   cases hh:Nat.beq d t with
   | false=>rfl
   | true=>exact (ht (Nat.eq_of_beq_eq_true hh)).elim
  simp only [hb]
  rw [IC (Mq t hf)]
  have h1:HV E d u t=E t:=by unfold HV; rw [if_neg (fun e=>ht e.symm)]
  have h2:HV G d v t=G t:=by unfold HV; rw [if_neg (fun e=>ht e.symm)]
  rw [h1,h2]
  exact h t
structure Sp where
 i:Nat
 l:List (Tmp×Value)
 v:Value
 cond:Bool
def Gi:List Sp→Nat→Option Sp
 | [],_=>none
 | s :: r,i=>match Nat.beq s.i i with
  | true=>some s
  | false=>Gi r i
def Vl (G:Nat→Value):Cx→Bool
 | []=>true
 | p :: r=>(match G p.1 with
  | .bool b=>(match p.2 with
   | true=>b
   | false=>!b)
  | _=>false) && Vl G r
theorem Mw {G:Nat→Value}:∀ {c:Cx},holds G c→Vl G c=true
 | [],_=>rfl
 | p :: r,h=>by
  unfold Vl
  rw [h p (by simp)]
  have ih:=Mw (G:=G) (c:=r) (fun q hq=>h q (by simp [hq]))
  rw [ih]
  obtain ⟨t,b⟩:=p
  cases b <;> rfl
def Qf (b:Bool):Value→Value→Value
 | .bool x,.bool y=>.bool (cond b x y)
 | x,y=>cond b x y
theorem XO (b:Bool) (x y:Value):Qf b x y=cond b x y:=by
 unfold Qf
 split
 ·cases b <;> rfl
 ·rfl
def XT:List (Nat×Nat×Nat)→Nat→Nat×Nat
 | [],_=>(0,0)
 | p :: r,i=>match Nat.beq p.1 i with
  | true=>p.2
  | false=>XT r i
def Qc (cx:List (Tmp×Cx)) (c:Cx):Operand→Bool
 | .tmp t=>I6 (Fd cx t) c
 | _=>true
structure Gu where
 mem:List BM
 hints:List (Nat×Nat×Nat)
 specs:List Sp
structure GS where
 G:Nat→Value
 cx:List (Tmp×Cx)
def Vk (n:Nat) (ops:Array Oper) (o:Oper) (cx:List (Tmp×Cx)):Option Cx:=
 match o.guard with
 | none=>some []
 | some (g,want)=>match (ops[g]?).bind (·.dst) with
  | some t=>match Nat.blt t n with
   | true=>some ((t,want) :: Fd cx t)
   | false=>none
  | none=>none
def plain (P:Program) (n:Nat) (I:Gu) (i:Nat) (o:Oper) (s:GS) (c:Cx) (X:Nat→Value):Option (Next×MS):=DH P (execOp (BJ n (Vd s.G s.cx c X)) o) ⟨0,I.mem,XT I.hints i,[]⟩
def Ju (n:Nat) (s:GS) (c:Cx):Op→Option (ByteArray×ByteArray)
 | .binOp .add _ x y _=>match Qc s.cx c x && Qc s.cx c y with
  | true=>match BJ n s.G x,BJ n s.G y with
   | .string a,.string b=>some (a,b)
   | _,_=>none
  | false=>none
 | _=>none
def Vb (P:Program) (n:Nat) (I:Gu) (i:Nat) (o:Oper) (s:GS) (c:Cx):Option Value:=
 match Gi I.specs i with
 | some sp=>match sp.l.all (fun p=>I6 (Fd s.cx p.1) c) with
  | true=>some sp.v
  | false=>none
 | none=>match o.op with
  | .pick (.tmp t) x y=>match I6 (Fd s.cx t) c && (Qc s.cx ((t,true) :: c) x && Qc s.cx ((t,false) :: c) y) with
   | true=>match BJ n s.G (.tmp t) with
    | .bool b=>some (Qf b (BJ n s.G x) (BJ n s.G y))
    | _=>none
   | false=>none
  | _=>match Ju n s c o.op with
   | some (a,b)=>some (.string (a++b))
   | none=>match plain P n I i o s c (fun _=>undef) with
    | some (.value v,_)=>some v
    | _=>none
def JR (P:Program) (n:Nat) (I:Gu) (X:Nat→Value) (i:Nat) (o:Oper) (s:GS) (c:Cx):List ((Option Next×List Nat)×(Option Next×List Nat)):=
 match Gi I.specs i with
 | some sp=>((some (.value (.bool sp.cond)),[]),(some (.value (.bool (Vl s.G c))),[])) :: sp.l.map (fun p=>((some (.value (BJ n s.G (.tmp p.1))),[]),(some (.value p.2),[])))
 | none=>match o.op with
  | .pick (.tmp _) _ _=>[]
  | _=>match Ju n s c o.op with
   | some _=>[]
   | none=>match plain P n I i o s c X with
    | some (r,m)=>[((some r,m.eqs.map Prod.fst),((plain P n I i o s c (fun _=>undef)).map (·.1),m.eqs.map Prod.snd))]
    | none=>[((none,[]),(some .skip,[]))]
def Mp (n:Nat) (I:Gu) (i:Nat) (o:Oper) (s:GS) (c:Cx):List Nat:=
 match Gi I.specs i with
 | some _=>[]
 | none=>match Ju n s c o.op with
  | some (a,b)=>[a.size + b.size]
  | none=>[]
def KE (P:Program) (n:Nat) (ops:Array Oper) (I:Gu) (i:Nat) (s:GS):Option (Oper×Cx×GS):=
 match ops[i]? with
 | none=>none
 | some o=>match Vk n ops o s.cx with
  | none=>none
  | some c=>match Vb P n I i o s c,o.dst with
   | some v,some d=>match Iw d s.cx && ID d c with
    | true=>some (o,c,⟨HV s.G d v,(d,c) :: s.cx⟩)
    | false=>none
   | _,_=>none
def IW (P:Program) (n:Nat) (ops:Array Oper) (I:Gu):List Nat→GS→Option GS
 | [],s=>some s
 | i :: r,s=>match KE P n ops I i s with
  | some (_,_,s')=>IW P n ops I r s'
  | none=>none
def Et (P:Program) (n:Nat) (ops:Array Oper) (I:Gu) (X:Nat→Value):List Nat→GS→List ((Option Next×List Nat)×(Option Next×List Nat))
 | [],_=>[]
 | i :: r,s=>match KE P n ops I i s with
  | some (o,c,s')=>JR P n I X i o s c++Et P n ops I X r s'
  | none=>[]
def IX (P:Program) (n:Nat) (ops:Array Oper) (I:Gu):List Nat→GS→List Nat
 | [],_=>[]
 | i :: r,s=>match KE P n ops I i s with
  | some (o,c,s')=>Mp n I i o s c++IX P n ops I r s'
  | none=>[]
theorem Qv {o:Oper} {ρ:Operand→Value} {w:World} {T T':TypeId} {x y:Operand} {a b:ByteArray} (hop:o.op=.binOp .add T x y T') (hx:ρ x=.string a) (hy:ρ y=.string b) (hs:((a.size + b.size:Nat):Int)≤IntKind.i64.max):(execOp ρ o).run P w=.ok (.value (.string (a++b))) w:=by
 have h2:¬ ((a.size + b.size:Nat):Int) > IntKind.i64.max:=by omega
 unfold execOp
 simp only [hop,hx,hy]
 unfold binOp Op.stringOp
 simp [eqGuard]
 have h3:IntKind.i64.max=9223372036854775807:=by decide
 omega
theorem Sf {o:Oper} {s:GS} {E:Nat→Value} {c:Cx} (hr:Ji s.G s.cx E) (hc:Vk n ops o s.cx=some c):(holds s.G c→Region.wanted o (Fx n ops E)=true)∧(¬ holds s.G c→Region.wanted o (Fx n ops E)=false):=by
 unfold Vk at hc
 unfold Region.wanted
 split at hc
 ·rename_i hg
  obtain rfl:=Option.some.inj hc
  simp only [hg]
  exact ⟨fun _=>trivial,fun h=>(h (fun p hp=>(by cases hp))).elim⟩
 ·rename_i g want hg
  simp only [hg]
  split at hc
  ·rename_i t ht
   split at hc
   ·rename_i hlt
    obtain rfl:=Option.some.inj hc
    have hlt':t < n:=Nat.le_of_ble_eq_true hlt
    have hy:Fx n ops E g=match E t with
     | .bool b=>some b
     | _=>none:=by
     unfold Fx
     simp only [ht,BJ,hlt',decide_true]
     cases E t <;> rfl
    rw [hy]
    constructor
    ·intro hh
     have h1:holds s.G (Fd s.cx t):=fun p hp=>hh p (by simp [hp])
     rw [(hr t).1 h1,hh (t,want) (by simp)]
     simp
    ·intro hh
     by_cases h1:holds s.G (Fd s.cx t)
     ·rw [(hr t).1 h1]
      cases hG:s.G t with
      | bool b=>
       have:b≠want:=by
        intro e
        subst e
        exact hh (fun p hp=>by
         rcases List.mem_cons.1 hp with rfl | hp
         ·exact hG
         ·exact h1 p hp)
       simp [this]
      | _=>rfl
     ·rw [(hr t).2 h1]
      rfl
   ·cases hc
  ·cases hc
theorem Hm {s:GS} {E:Nat→Value} {c:Cx} {x:Operand} (hr:Ji s.G s.cx E) (hc:holds s.G c) (hx:Qc s.cx c x=true):BJ n E x=BJ n s.G x:=by
 cases x with
 | tmp t=>
  have:=(hr t).1 (IZ hc hx)
  simp only [BJ,this]
 | _=>rfl
theorem Rc {l:List ((Option Next×List Nat)×(Option Next×List Nat))} (h:l.map Prod.fst=l.map Prod.snd):∀ p∈l,p.1=p.2:=by
 intro p hp
 obtain ⟨i,hi⟩:=List.mem_iff_getElem?.1 hp
 have h1:(l.map Prod.fst)[i]?=some p.1:=by rw [List.getElem?_map,hi]; rfl
 have h2:(l.map Prod.snd)[i]?=some p.2:=by rw [List.getElem?_map,hi]; rfl
 rw [h,h2] at h1
 exact (Option.some.inj h1).symm
def Fi (P:Program) (n:Nat) (C:World→Prop) (ops:Array Oper) (sp:Sp):Prop:=sp.cond=true→∀ E,Gd (BJ n E) sp.l→∀ w,C w→Oper.quietUpon P C w sp.v ((execOp (BJ n E) (ops.getD sp.i default)).run P w)
theorem I7:∀ {l:List Sp} {i:Nat} {sp:Sp},Gi l i=some sp→sp∈l∧sp.i=i
 | [],_,_,h=>by cases h
 | s :: r,i,sp,h=>by
  unfold Gi at h
  split at h
  ·rename_i hb
   obtain rfl:=Option.some.inj h
   exact ⟨by simp,Nat.eq_of_beq_eq_true hb⟩
  ·exact ⟨List.mem_cons_of_mem _ (I7 h).1,(I7 h).2⟩
theorem Qi {ρ:Operand→Value}:∀ {l:List (Tmp×Value)},(∀ p∈l,ρ (.tmp p.1)=p.2)→Gd ρ l
 | [],_=>trivial
 | p :: l,h=>⟨h p (by simp),Qi fun q hq=>h q (by simp [hq])⟩
theorem Rn {I:Gu} {i:Nat} {o:Oper} {s:GS} {c:Cx} {v:Value} {E:Nat→Value} (hz:∀ z∈Mp n I i o s c,(z:Int)≤IntKind.i64.max) (ho:ops[i]?=some o) (hr:Ji s.G s.cx E) (hc:holds s.G c) (hv:Vb P n I i o s c=some v)
  (hp:∀ X,∀ p∈JR P n I X i o s c,p.1=p.2) (hM:∀ w,C w→∀ e∈I.mem,e.good w) (hS:∀ sp∈I.specs,Fi P n C ops sp):∀ w,C w→Oper.quietAt P o (Fr n E) C w v:=by
 intro w hw
 unfold Oper.quietAt
 rw [DU]
 have hp:=hp E
 unfold Vb at hv
 unfold JR at hp
 split at hv
 ·rename_i sp hsp
  simp only [hsp] at hp
  split at hv
  ·rename_i hall
   obtain rfl:=Option.some.inj hv
   obtain ⟨hmem,hi⟩:=I7 hsp
   have hcond:sp.cond=true:=by
    have:=hp _ (List.mem_cons_self ..)
    simp only [Prod.mk.injEq,Option.some.injEq,Next.value.injEq,Value.bool.injEq,and_true] at this
    rw [this]
    exact Mw hc
   have hk:Gd (BJ n E) sp.l:=Qi fun p hpm=>by
    rw [List.all_eq_true] at hall
    have h1:=hall p hpm
    rw [Hm (x:=.tmp p.1) hr hc h1]
    have:=hp _ (List.mem_cons_of_mem _ (List.mem_map.2 ⟨p,hpm,rfl⟩))
    simp only [Prod.mk.injEq,Option.some.injEq,Next.value.injEq,and_true] at this
    exact this
   have:=hS sp hmem hcond E hk w hw
   have e:ops.getD sp.i default=o:=by rw [hi,Array.getD_eq_getD_getElem?,ho]; rfl
   rw [e] at this
   exact this
  ·cases hv
 ·rename_i hsp
  simp only [hsp] at hp
  split at hv
  ·rename_i t x y hop
   split at hv
   ·rename_i hb
    rw [Bool.and_eq_true,Bool.and_eq_true] at hb
    split at hv
    ·rename_i b hG
     obtain rfl:=Option.some.inj hv
     have ht:BJ n E (.tmp t)=.bool b:=by rw [Hm (x:=.tmp t) hr hc hb.1]; exact hG
     have hGt:s.G t=.bool b:=by
      simp only [BJ] at hG
      split at hG
      ·exact hG
      ·cases hG
     obtain ⟨d,op,ty,pos,af,gd⟩:=o
     simp only at hop
     subst hop
     have e:(execOp (BJ n E) ⟨d,.pick (.tmp t) x y,ty,pos,af,gd⟩).run P w=.ok (.value (if b then BJ n E x else BJ n E y)) w:=by
      show ((asBool (BJ n E (.tmp t))).bind fun b=>Sem.pure (Next.value (if b then BJ n E x else BJ n E y))).run P w=_
      rw [ht]
      rfl
     rw [e]
     refine ⟨rfl,?_⟩
     rw [XO]
     cases b with
     | true=>exact Hm (c:=(t,true) :: c) hr (fun p hp=>(List.mem_cons.1 hp).elim (fun e=>e ▸ hGt) (hc p)) hb.2.1
     | false=>exact Hm (c:=(t,false) :: c) hr (fun p hp=>(List.mem_cons.1 hp).elim (fun e=>e ▸ hGt) (hc p)) hb.2.2
    ·cases hv
   ·cases hv
  ·rename_i hnp
   cases hsa:Ju n s c o.op with
   | some ab=>
    obtain ⟨a,b⟩:=ab
    rw [hsa] at hv
    obtain rfl:=Option.some.inj hv
    unfold Mp at hz
    simp only [hsp,hsa] at hz
    have hz':=hz _ (List.mem_singleton.2 rfl)
    unfold Ju at hsa
    split at hsa
    ·rename_i T x y T' hop
     split at hsa
     ·rename_i hok
      rw [Bool.and_eq_true] at hok
      split at hsa
      ·rename_i a' b' hx hy
       simp only [Option.some.injEq,Prod.mk.injEq] at hsa
       obtain ⟨rfl,rfl⟩:=hsa
       rw [Qv hop ((Hm hr hc hok.1).trans hx) ((Hm hr hc hok.2).trans hy) hz']
       exact ⟨rfl,rfl⟩
      ·cases hsa
     ·cases hsa
    ·cases hsa
   | none=>
   rw [hsa] at hv
   have hp:∀ p∈(match plain P n I i o s c E with
     | some (r,m)=>[((some r,m.eqs.map Prod.fst),((plain P n I i o s c (fun _=>undef)).map (·.1),m.eqs.map Prod.snd))]
     | none=>[((none,[]),(some .skip,[]))]:List ((Option Next×List Nat)×(Option Next×List Nat))),p.1=p.2:=by
    split at hp
    ·rename_i t x y hop; exact (hnp t x y hop).elim
    ·rw [hsa] at hp; exact hp
   simp only at hv
   split at hv
   ·rename_i v' m' hpl
    obtain rfl:=Option.some.inj hv
    cases hE:plain P n I i o s c E with
    | none=>
     rw [hE] at hp
     have:=hp _ (List.mem_singleton.2 rfl)
     simp at this
    | some q=>
     obtain ⟨r,m⟩:=q
     rw [hE] at hp
     have:=hp _ (List.mem_singleton.2 rfl)
     rw [hpl] at this
     simp only [Option.map_some,Prod.mk.injEq,Option.some.injEq] at this
     obtain ⟨rfl,he⟩:=this
     unfold plain at hE
     rw [Vc hr hc] at hE
     rw [GX _ _ _ _ hE (hM w hw) fun p hp=>by
      obtain ⟨i,hi⟩:=List.mem_iff_getElem?.1 hp
      have h1:(m.eqs.map Prod.fst)[i]?=some p.1:=by rw [List.getElem?_map,hi]; rfl
      have h2:(m.eqs.map Prod.snd)[i]?=some p.2:=by rw [List.getElem?_map,hi]; rfl
      rw [he,h2] at h1
      exact (Option.some.inj h1).symm]
     exact ⟨rfl,rfl⟩
   ·cases hv
theorem Le {I:Gu} {Q:Act→Prop} (hM:∀ w,C w→∀ e∈I.mem,e.good w) (hS:∀ sp∈I.specs,Fi P n C ops sp):∀ (l:List Nat) (s s':GS) (E:Nat→Value),Ji s.G s.cx E→IW P n ops I l s=some s'→(∀ X,∀ p∈Et P n ops I X l s,p.1=p.2)→(∀ z∈IX P n ops I l s,(z:Int)≤IntKind.i64.max)→
  (∀ E',Ji s'.G s'.cx E'→Q (Fr n E'))→wpQuiet P ops C Q (l.map (ops.getD · default)) (Fr n E)
 | [],s,s',E,hr,h,_,_,hk=>by obtain rfl:=Option.some.inj h; exact hk E hr
 | i :: l,s,s',E,hr,h,hp,hz,hk=>by
  unfold IW at h
  cases hs:KE P n ops I i s with
  | none=>rw [hs] at h; cases h
  | some q=>
   obtain ⟨o,c,s1⟩:=q
   rw [hs] at h
   have hp1:∀ X,∀ p∈JR P n I X i o s c,p.1=p.2:=fun X p hpm=>hp X p (by unfold Et; rw [hs]; exact List.mem_append_left _ hpm)
   have hp2:∀ X,∀ p∈Et P n ops I X l s1,p.1=p.2:=fun X p hpm=>hp X p (by unfold Et; rw [hs]; exact List.mem_append_right _ hpm)
   have hz1:∀ z∈Mp n I i o s c,(z:Int)≤IntKind.i64.max:=fun z hzm=>hz z (by unfold IX; rw [hs]; exact List.mem_append_left _ hzm)
   have hz2:∀ z∈IX P n ops I l s1,(z:Int)≤IntKind.i64.max:=fun z hzm=>hz z (by unfold IX; rw [hs]; exact List.mem_append_right _ hzm)
   unfold KE at hs
   split at hs
   ·cases hs
   ·rename_i o' ho
    split at hs
    ·cases hs
    ·rename_i c' hcx
     split at hs
     ·rename_i v d hv hd
      split at hs
      ·rename_i hfree
       simp only [Option.some.injEq,Prod.mk.injEq] at hs
       obtain ⟨rfl,rfl,rfl⟩:=hs
       rw [Bool.and_eq_true] at hfree
       have hw:=Sf hr hcx
       have e:ops.getD i default=o':=by rw [Array.getD_eq_getD_getElem?,ho]; rfl
       rw [List.map_cons,e]
       unfold wpQuiet
       rw [Dv]
       by_cases hh:holds s.G c'
       ·rw [if_pos (hw.1 hh)]
        refine ⟨v,Rn hz1 ho hr hh hv hp1 hM hS,?_⟩
        rw [Dp,hd]
        exact Le hM hS l _ s' _ (hr.put d hfree.1 hfree.2 ⟨fun _=>rfl,fun h=>(h hh).elim⟩) h hp2 hz2 hk
       ·rw [hw.2 hh,if_neg (by simp),Dp,hd]
        exact Le hM hS l _ s' _ (hr.put d hfree.1 hfree.2 ⟨fun h=>(hh h).elim,fun _=>rfl⟩) h hp2 hz2 hk
      ·cases hs
     ·cases hs
theorem GN {Q Q':Act→Prop}:∀ (l:List Oper) (a:Act),(∀ a,Q a→Q' a)→wpQuiet P ops C Q l a→wpQuiet P ops C Q' l a
 | [],a,h,hh=>h a hh
 | o :: l,a,h,hh=>by
  unfold wpQuiet at hh ⊢
  split
  ·rename_i hw
   rw [if_pos hw] at hh
   exact Oper.quiet_mono (fun a' h'=>GN l a' h h') hh
  ·rename_i hw
   rw [if_neg hw] at hh
   exact GN l _ h hh
theorem G5 {Q:Exit→Act→World→Prop}:∀ (l:List Nat) (a:Act) (w:World),(∀ i∈l,i < ops.size)→C w→wpQuiet P ops C (fun a'=>∀ w',C w'→Q .normal a' w') (l.map (ops.getD · default)) a→wpOps P ops Q l a w
 | [],a,w,_,hw,h=>h w hw
 | i :: l,a,w,hi,hw,h=>by
  have hlt:=hi i (by simp)
  have ho:ops[i]?=some (ops.getD i default):=by rw [Array.getD_eq_getD_getElem?,Array.getElem?_eq_getElem hlt]; rfl
  rw [List.map_cons] at h
  generalize ops.getD i default=o at h ho
  unfold wpQuiet at h
  by_cases hwt:Region.wanted o (yielded ops a.tmps)=true
  ·rw [if_pos hwt] at h
   obtain ⟨v,h1,h2⟩:=h
   refine EE ho hwt ?_
   have h3:=h1 w hw
   unfold Oper.quietAt at h3
   unfold Oper.wp
   generalize (execOp a.eval o).run P w=r at *
   cases r with
   | ok x w'=>
    cases x with
    | value u=>obtain ⟨rfl,rfl⟩:=h3; exact G5 l _ _ (fun j hj=>hi j (by simp [hj])) hw h2
    | skip=>obtain ⟨rfl,rfl⟩:=h3; exact G5 l _ _ (fun j hj=>hi j (by simp [hj])) hw h2
    | enter f args=>
     obtain ⟨rfl,h4⟩:=h3
     refine h4.mono fun e w'' hh=>?_
     obtain ⟨rfl,hC⟩:=hh
     exact G5 l _ _ (fun j hj=>hi j (by simp [hj])) hC h2
    | _=>exact h3.elim
   | _=>exact h3.elim
  ·rw [if_neg hwt] at h
   exact Nm ho (by simpa using hwt) (G5 l _ _ (fun j hj=>hi j (by simp [hj])) hw h)
theorem XF (ops:Array Oper):(List.range ops.size).map (ops.getD · default)=ops.toList:=by
 refine List.ext_getElem? fun i=>?_
 rw [List.getElem?_map,G4]
 by_cases h:i < ops.size
 ·simp [h,Array.getD_eq_getD_getElem?]
 ·simp [h]
variable {f:FuncId} {R:Ending→World→Prop}
theorem VZ {w w':World} {e:BM} (h:e.good w) (hb:Below w.heap.size w w'):e.good w':=by
 have hk:=hb.block e.id h.1
 refine ⟨Nat.lt_of_lt_of_le h.1 hb.size,?_⟩
 have h2:=h.2
 split at h2
 ·rename_i ho; rw [if_pos ho,hk]; exact h2
 ·rename_i ho
  rw [if_neg ho]
  intro j v hv
  rw [World.cell?_of_block (w:=w) hk]
  exact h2 j v hv
theorem N1 {G E:Nat→Value} {cx:List (Tmp×Cx)} (hr:Ji G cx E):∀ (l:List (Nat×Value)),l.map (fun p=>(G p.1,Fd cx p.1))=l.map (fun p=>(p.2,[]))→l.map (fun p=>E p.1)=l.map (·.2)
 | [],_=>rfl
 | p :: l,h=>by
  simp only [List.map_cons,List.cons.injEq,Prod.mk.injEq] at h ⊢
  refine ⟨?_,N1 hr l h.2⟩
  rw [(hr p.1).1 (by rw [h.1.2]; exact fun q hq=>(by cases hq))]
  exact h.1.1
def Cs:List Item→Option (Array Oper)
 | .code (.region _ ops _) :: _=>some ops
 | _=>none
theorem Yl {E:Nat→Value} {w:World} {todo:List Item} (ops:Array Oper) (I:Gu) (l:List (Nat×Value)) (ht:Cs todo=some ops) (hB:Region.lexB .any ops=true) (hm:P.follows .mixedOrders=true)
  (hM:∀ e∈I.mem,e.good w) (hS:∀ sp∈I.specs,Fi P n (Below w.heap.size w) ops sp)
  (hp:∀ X,(Et P n ops I X (List.range ops.size) ⟨E,[]⟩).map Prod.fst=(Et P n ops I X (List.range ops.size) ⟨E,[]⟩).map Prod.snd)
  (hl:(IW P n ops I (List.range ops.size) ⟨E,[]⟩).map (fun s=>l.map (fun p=>(s.G p.1,Fd s.cx p.1)))=some (l.map (fun p=>(p.2,[]))))
  (zs:List Nat) (hzs:IX P n ops I (List.range ops.size) ⟨E,[]⟩=zs) (hz:∀ z∈zs,(z:Int)≤IntKind.i64.max)
  (hk:∀ w' E',Below w.heap.size w w'→At P f R (AO todo) (Fr n (CX E' l)) w'):At P f R todo (Fr n E) w:=by
 cases hrun:IW P n ops I (List.range ops.size) ⟨E,[]⟩ with
 | none=>rw [hrun] at hl; cases hl
 | some s'=>
  rw [hrun] at hl
  have hl':=Option.some.inj hl
  have hq:wpQuiet P ops (Below w.heap.size w) (fun a'=>∀ w',Below w.heap.size w w'→HJ P f R (AO todo) a' w') ((List.range ops.size).map (ops.getD · default)) (Fr n E):=by
   refine Le (C:=Below w.heap.size w) (fun w' hw e he=>VZ (hM e he) hw) hS _ _ _ E (.start E) hrun (fun X=>Rc (hp X)) (by rw [hzs]; exact hz) fun E' hr w' hw=>?_
   exact (FF l (N1 hr l hl') fun E''=>hk w' E'' hw).mid
  unfold Cs at ht
  split at ht
  ·rename_i id ops' dr k
   obtain rfl:=Option.some.inj ht
   cases dr with
   | true=>
    refine XN (wp_region_quiet (C:=Below w.heap.size w) hm hB (Below.refl _ _).drew ?_)
    rw [← XF]
    exact GN _ _ (fun a' h w' hw=>⟨rfl,h w' hw⟩) hq
   | false=>
    refine DD (todo':=.inRegion ops' (List.range ops'.size) :: k) (by simp) (fun _=>step_region) ?_
    refine G5 (C:=Below w.heap.size w) _ _ _ (fun i hi=>by simpa using hi) (Below.refl _ _) ?_
    exact GN _ _ (fun a' h w' hw=>⟨rfl,h w' hw⟩) hq
  ·cases ht
theorem GJ {E:Nat→Value} {w:World} {todo:List Item} (ops:Array Oper) (I:Gu) (l:List (Nat×Value)) (ht:Cs todo=some ops) (hB:Region.lexB .any ops=true) (hm:P.follows .mixedOrders=true)
  (hM:∀ e∈I.mem,e.good w) (hS:∀ sp∈I.specs,Fi P n (Below w.heap.size w) ops sp)
  (hp:∀ X,(Et P n ops I X (List.range ops.size) ⟨E,[]⟩).map Prod.fst=(Et P n ops I X (List.range ops.size) ⟨E,[]⟩).map Prod.snd)
  (hl:(IW P n ops I (List.range ops.size) ⟨E,[]⟩).map (fun s=>l.map (fun p=>(s.G p.1,Fd s.cx p.1)))=some (l.map (fun p=>(p.2,[]))))
  (hk:∀ w' E',Below w.heap.size w w'→At P f R (AO todo) (Fr n (CX E' l)) w') (hzs:IX P n ops I (List.range ops.size) ⟨E,[]⟩=[]:=by kernel_rfl):At P f R todo (Fr n E) w:=
 Yl ops I l ht hB hm hM hS hp hl [] hzs (fun z hz=>(by cases hz)) hk
def RI:Oper→Option (FuncId×List Operand)
 | ⟨_,.call ⟨.value (.func g),xs,_⟩,_,_,_,_⟩=>some (g,xs.toList)
 | _=>none
theorem Xb {o:Oper} {g:FuncId} {xs:List Operand} {args:List Value} {E:Nat→Value} {w:World} (ho:RI o=some (g,xs)) (hg:DO P g=true) (ha:xs.map (BJ n E)=args):(execOp (BJ n E) o).run P w=.ok (.enter g args.toArray) w:=by
 unfold RI at ho
 split at ho
 ·rename_i d g' xs' ats ty pos af gd
  simp only [Option.some.injEq,Prod.mk.injEq] at ho
  obtain ⟨rfl,rfl⟩:=ho
  rw [← Ci (h:=hg) args.toArray w,← ha]
  unfold execOp resolve
  have hxs:xs'.toList.map (BJ n E)=(xs'.map (BJ n E)).toList:=by simp
  simp only [hxs,Array.toArray_toList]
  show ((Deferred.ofValue (.func (.func g') #[] #[]) (xs'.map (BJ n E))).bind fun d=>invoke d.target d.args).run P w=_
  unfold Deferred.ofValue
  simp [invoke,pure,Sem.bind]
 ·cases ho
theorem AR {sp:Sp} (g:FuncId) (xs:List Operand) (args:List Value) (ha:∀ E,xs.map (R9 sp.l (BJ n E))=args) (h:sp.cond=true→∀ w,C w→Calls P g args.toArray w fun e w'=>e=.returned sp.v∧C w') (ho:RI (ops.getD sp.i default)=some (g,xs):=by kernel_rfl) (hg:DO P g=true:=by kernel_rfl):Fi P n C ops sp:=by
 intro hc E hk w hw
 have e:xs.map (BJ n E)=args:=by
  have:=ha E
  rw [QZ hk] at this
  exact this
 rw [Xb (w:=w) ho hg e]
 exact ⟨rfl,h hc w hw⟩
theorem Av {sp:Sp} (h:sp.cond=true→∀ E w,C w→(execOp (R9 sp.l (BJ n E)) (ops.getD sp.i default)).run P w=.ok (.value sp.v) w):Fi P n C ops sp:=by
 intro hc E hk w hw
 have:=h hc E w hw
 rw [QZ hk] at this
 rw [this]
 exact ⟨rfl,rfl⟩
theorem AP {g:FuncId} {args:Array Value} {v:Value} {w0 w:World} (hb:Below w0.heap.size w0 w) (h:Calls P g args w fun e w'=>e=.returned v∧Below w.heap.size w w'):Calls P g args w fun e w'=>e=.returned v∧Below w0.heap.size w0 w':=
 h.mono fun _ _ ⟨h1,h2⟩=>⟨h1,hb.trans (h2.mono hb.size)⟩
end
end Go.Proofs.YtmcpjkcggfmcmaaGreatDoor
namespace Go.Proofs.YtmcpjkcggfmcmaaGreatDoor
section
variable {P:Program} {f:FuncId} {R:Ending→World→Prop}
def eS:List (Tmp×Nat)→Tmp→Nat
 | [],_=>0
 | p :: r,t=>match Nat.beq p.1 t with
  | true=>p.2
  | false=>eS r t
def O5 (H:List (Tmp×Nat)) (n:Nat) (E:Nat→Value):Op→Nat×Nat
 | .load _ (.tmp t) | .store _ (.tmp t) _=>match BJ n E (.tmp t) with
  | .pointer (some a)=>(eS H t,a.off)
  | _=>(0,0)
 | _=>(0,0)
def eM (P:Program) (H:List (Tmp×Nat)) (n:Nat) (ops:Array Oper) (i:Nat) (s:St) (todo:List Item):Option St:=
 match ops[i]? with
 | none=>none
 | some o=>Ny P n ops i { s with hs:=O5 H n s.env o.op :: s.hs } todo
def eT:Option St→List (Nat×Nat)→Option St
 | some s,h=>some { s with hs:=h }
 | none,_=>none
def MO (P:Program) (H:List (Tmp×Nat)) (n:Nat) (s:St):Option St:=
 match s.todo with
 | .code (.cond c x y) :: k=>match BJ n s.env c with
  | .bool true=>some { s with todo:=.code x :: k }
  | .bool false=>some { s with todo:=.code y :: k }
  | _=>none
 | .code (.loop c) :: k=>some { s with todo:=.code c :: .inLoop c :: k }
 | .inLoop c :: k=>some { s with todo:=.code c :: .inLoop c :: k }
 | .inRegion ops (i :: r) :: k=>eT (eM P H n ops i s (.inRegion ops r :: k)) []
 | _=>KW P n s
def JZ (P:Program) (H:List (Tmp×Nat)) (n:Nat):Nat→St→St
 | 0,s=>s
 | m + 1,s=>match MO P H n s with
  | some s'=>JZ P H n m s'
  | none=>s
theorem eq {H:List (Tmp×Nat)} {n:Nat} {ops:Array Oper} {i:Nat} {s s':St} {todo:List Item} {h:List (Nat×Nat)} (hs:eT (eM P H n ops i s todo) h=some s'):∀ p∈s.ms.eqs,p∈s'.ms.eqs:=by
 unfold eM at hs
 split at hs
 ·cases hs
 ·rename_i o ho
  cases hq:Ny P n ops i { s with hs:=O5 H n s.env o.op :: s.hs } todo with
  | none=>rw [hq] at hs; cases hs
  | some q=>
   rw [hq] at hs
   obtain rfl:=Option.some.inj hs
   have:=SB hq
   exact this
theorem W7 {H:List (Tmp×Nat)} {n:Nat} {s s':St} (h:MO P H n s=some s'):∀ p∈s.ms.eqs,p∈s'.ms.eqs:=by
 unfold MO at h
 split at h
 ·split at h
  ·obtain rfl:=Option.some.inj h; exact fun p hp=>hp
  ·obtain rfl:=Option.some.inj h; exact fun p hp=>hp
  ·cases h
 ·obtain rfl:=Option.some.inj h; exact fun p hp=>hp
 ·obtain rfl:=Option.some.inj h; exact fun p hp=>hp
 ·exact eq h
 ·exact Nn h
theorem RV {H:List (Tmp×Nat)} {n:Nat}:∀ (m:Nat) (s:St),∀ p∈s.ms.eqs,p∈(JZ P H n m s).ms.eqs
 | 0,_,p,hp=>hp
 | m + 1,s,p,hp=>by
  unfold JZ
  split
  ·rename_i s' hs; exact RV m s' p (W7 hs p hp)
  ·exact hp
theorem RZ {O:List Nat} {B n:Nat} {H:List (Tmp×Nat)} {s s':St} {w:World}
  (h:MO P H n s=some s') (hL:C8 O B w s.ms) (he:∀ p∈s'.ms.eqs,p.1=p.2)
  (hk:∀ w',C8 O B w' s'.ms→Dh O B w w'→At P f R s'.todo (Fr n s'.env) w'):At P f R s.todo (Fr n s.env) w:=by
 unfold MO at h
 split at h
 ·rename_i c x y k hc
  split at h
  ·rename_i hv
   obtain rfl:=Option.some.inj h
   rw [hc]
   exact DD (by simp) (fun _=>step_cond (t:=true) (by rw [DU]; exact hv)) (hk w hL (.refl _ _ _))
  ·rename_i hv
   obtain rfl:=Option.some.inj h
   rw [hc]
   exact DD (by simp) (fun _=>step_cond (t:=false) (by rw [DU]; exact hv)) (hk w hL (.refl _ _ _))
  ·cases h
 ·rename_i hc; obtain rfl:=Option.some.inj h; rw [hc]; exact DD (by simp) (fun _=>step_loop) (hk w hL (.refl _ _ _))
 ·rename_i hc; obtain rfl:=Option.some.inj h; rw [hc]; exact DD (by simp) (fun _=>step_inLoop) (hk w hL (.refl _ _ _))
 ·rename_i ops i r k hc
  rw [hc]
  unfold eM at h
  split at h
  ·cases h
  ·rename_i o ho
   cases hq:Ny P n ops i { s with hs:=O5 H n s.env o.op :: s.hs } (.inRegion ops r :: k) with
   | none=>rw [hq] at h; cases h
   | some q=>
    rw [hq] at h
    obtain rfl:=Option.some.inj h
    exact Nx (s:={ s with hs:=O5 H n s.env o.op :: s.hs }) (s':=q) hq hL he hk
 ·exact Kz h hL he hk
theorem NA {O:List Nat} {B n:Nat} {H:List (Tmp×Nat)}:∀ (m:Nat) (s:St) (w:World),C8 O B w s.ms→(∀ p∈(JZ P H n m s).ms.eqs,p.1=p.2)→
  (∀ w',C8 O B w' (JZ P H n m s).ms→Dh O B w w'→At P f R (JZ P H n m s).todo (Fr n (JZ P H n m s).env) w')→At P f R s.todo (Fr n s.env) w
 | 0,s,w,hL,_,hk=>hk w hL (.refl _ _ _)
 | m + 1,s,w,hL,he,hk=>by
  unfold JZ at he hk
  split at he
  ·rename_i s' hs
   simp only [hs] at hk
   refine RZ hs hL (fun p hp=>he p (RV m s' p hp)) fun w' hL' hK=>?_
   exact NA m s' w' hL' he fun w'' hL'' hK'=>hk w'' hL'' (hK.trans hK')
  ·rename_i hs
   simp only [hs] at hk
   exact hk w hL (.refl _ _ _)
end
end Go.Proofs.YtmcpjkcggfmcmaaGreatDoor

/-
  Part 4 of a proof: contracts of functions.
-/
import Derived.Test.YtmcpjkcggfmcmaaGreatDoorD03
import Derived.Deep.Quiet
import Derived.Below
set_option linter.all false
namespace Go.Proofs.YtmcpjkcggfmcmaaGreatDoor
open Go.RowKit
section
variable {P:Program} {ops:Array Oper} {n:Nat} {C:World→Prop}
abbrev Cx:=List (Tmp×Bool)
def HU:List (Tmp×Cx)→Tmp→Cx
 | [],_=>[]
 | p :: r,t=>match Nat.beq p.1 t with
  | true=>p.2
  | false=>HU r t
def SK (p:Tmp×Bool):Cx→Bool
 | []=>false
 | q :: r=>(Nat.beq p.1 q.1 && (p.2 == q.2)) || SK p r
def La:Cx→Cx→Bool
 | [],_=>true
 | p :: r,c=>SK p c && La r c
def KI (d:Tmp):Cx→Bool
 | []=>true
 | q :: r=>!(Nat.beq q.1 d) && KI d r
def LK (d:Tmp):List (Tmp×Cx)→Bool
 | []=>true
 | p :: r=>KI d p.2 && LK d r
def holds (G:Nat→Value) (c:Cx):Prop:=∀ p∈c,G p.1=.bool p.2
theorem RE {p:Tmp×Bool}:∀ {c:Cx},SK p c=true→p∈c
 | [],h=>by cases h
 | q :: r,h=>by
  unfold SK at h
  rw [Bool.or_eq_true,Bool.and_eq_true] at h
  rcases h with ⟨a,h2⟩ | h
  ·have d:=Nat.eq_of_beq_eq_true a
   have b:p.2=q.2:=by simpa using h2
   have:p=q:=Prod.ext d b
   simp [this]
  ·exact List.mem_cons_of_mem _ (RE h)
theorem Kj {G:Nat→Value} {c:Cx} (hc:holds G c):∀ {a:Cx},La a c=true→holds G a
 | [],_=>fun p d=>by cases d
 | p :: r,h=>by
  unfold La at h
  rw [Bool.and_eq_true] at h
  intro q b
  rcases List.mem_cons.1 b with rfl | b
  ·exact hc _ (RE h.1)
  ·exact Kj hc h.2 q b
theorem KH {G:Nat→Value} {d:Tmp} {v:Value}:∀ {c:Cx},KI d c=true→(holds (Jj G d v) c↔holds G c)
 | [],_=>⟨fun _ p a=>(by cases a),fun _ p a=>(by cases a)⟩
 | q :: r,h=>by
  unfold KI at h
  rw [Bool.and_eq_true] at h
  have f:=KH (G:=G) (v:=v) h.2
  have g:Jj G d v q.1=G q.1:=by
   unfold Jj
   rw [if_neg]
   intro e
   have:Nat.beq q.1 d=true:=by rw [e]; exact Nat.beq_refl d
   rw [this] at h
   cases h.1
  constructor
  ·intro b p a
   rcases List.mem_cons.1 a with rfl | a
   ·rw [← g]; exact b _ (by simp)
   ·exact f.1 (fun p a=>b p (by simp [a])) p a
  ·intro b p a
   rcases List.mem_cons.1 a with rfl | a
   ·rw [g]; exact b _ (by simp)
   ·exact f.2 (fun p a=>b p (by simp [a])) p a
theorem Pl {d:Tmp}:∀ {cx:List (Tmp×Cx)} (t:Tmp),LK d cx=true→KI d (HU cx t)=true
 | [],_,_=>rfl
 | p :: r,t,h=>by
  unfold LK at h
  rw [Bool.and_eq_true] at h
  unfold HU
  split
  ·exact h.1
  ·exact Pl t h.2
def MJ (G:Nat→Value) (cx:List (Tmp×Cx)) (E:Nat→Value):Prop:=∀ t,(holds G (HU cx t)→E t=G t)∧(¬ holds G (HU cx t)→E t=undef)
theorem MJ.start (G:Nat→Value):MJ G [] G:=fun _=>⟨fun _=>rfl,fun h=>(h (fun p a=>by cases a)).elim⟩
def ZJ (G:Nat→Value) (cx:List (Tmp×Cx)) (c:Cx) (X:Nat→Value):Nat→Value:=fun t=>match La (HU cx t) c with
 | true=>G t
 | false=>X t
theorem ZI {G E:Nat→Value} {cx:List (Tmp×Cx)} {c:Cx} (h:MJ G cx E) (hc:holds G c):ZJ G cx c E=E:=by
 funext t
 unfold ZJ
 split
 ·rename_i hs; exact ((h t).1 (Kj hc hs)).symm
 ·rfl
theorem MJ.put {G E:Nat→Value} {cx:List (Tmp×Cx)} {c:Cx} {v u:Value} (h:MJ G cx E) (d:Tmp) (hf:LK d cx=true) (a:KI d c=true) (hu:(holds G c→u=v)∧(¬ holds G c→u=undef)):MJ (Jj G d v) ((d,c) :: cx) (Jj E d u):=by
 intro t
 unfold HU
 by_cases ht:d=t
 ·subst ht
  simp only [Nat.beq_refl]
  rw [KH a]
  simp only [Jj,if_true]
  exact hu
 ·have hb:Nat.beq d t=false:=by
   cases hh:Nat.beq d t with
   | false=>rfl
   | true=>exact (ht (Nat.eq_of_beq_eq_true hh)).elim
  simp only [hb]
  rw [KH (Pl t hf)]
  have b:Jj E d u t=E t:=by unfold Jj; rw [if_neg (fun e=>ht e.symm)]
  have h2:Jj G d v t=G t:=by unfold Jj; rw [if_neg (fun e=>ht e.symm)]
  rw [b,h2]
  exact h t
structure Sp where
 i:Nat
 l:List (Tmp×Value)
 v:Value
 cond:Bool
def I0:List Sp→Nat→Option Sp
 | [],_=>none
 | s :: r,i=>match Nat.beq s.i i with
  | true=>some s
  | false=>I0 r i
def ZS (G:Nat→Value):Cx→Bool
 | []=>true
 | p :: r=>(match G p.1 with
  | .bool b=>(match p.2 with
   | true=>b
   | false=>!b)
  | _=>false) && ZS G r
theorem Pt {G:Nat→Value}:∀ {c:Cx},holds G c→ZS G c=true
 | [],_=>rfl
 | p :: r,h=>by
  unfold ZS
  rw [h p (by simp)]
  have a:=Pt (G:=G) (c:=r) (fun q d=>h q (by simp [d]))
  rw [a]
  obtain ⟨t,b⟩:=p
  cases b <;> rfl
def UF (b:Bool):Value→Value→Value
 | .bool x,.bool y=>.bool (cond b x y)
 | x,y=>cond b x y
theorem cH (b:Bool) (x y:Value):UF b x y=cond b x y:=by
 unfold UF
 split
 ·cases b <;> rfl
 ·rfl
def cO:List (Nat×Nat×Nat)→Nat→Nat×Nat
 | [],_=>(0,0)
 | p :: r,i=>match Nat.beq p.1 i with
  | true=>p.2
  | false=>cO r i
def UC (cx:List (Tmp×Cx)) (c:Cx):Operand→Bool
 | .tmp t=>La (HU cx t) c
 | _=>true
structure JF where
 mem:List BI
 hints:List (Nat×Nat×Nat)
 specs:List Sp
structure GS where
 G:Nat→Value
 cx:List (Tmp×Cx)
def ZR (n:Nat) (ops:Array Oper) (o:Oper) (cx:List (Tmp×Cx)):Option Cx:=
 match o.guard with
 | none=>some []
 | some (g,want)=>match (ops[g]?).bind (·.dst) with
  | some t=>match Nat.blt t n with
   | true=>some ((t,want) :: HU cx t)
   | false=>none
  | none=>none
def plain (P:Program) (n:Nat) (I:JF) (i:Nat) (o:Oper) (s:GS) (c:Cx) (X:Nat→Value):Option (Next×MS):=Dn P (execOp (BN n (ZJ s.G s.cx c X)) o) ⟨0,I.mem,cO I.hints i,[]⟩
def MV (n:Nat) (s:GS) (c:Cx):Op→Option (ByteArray×ByteArray)
 | .binOp .add _ x y _=>match UC s.cx c x && UC s.cx c y with
  | true=>match BN n s.G x,BN n s.G y with
   | .string a,.string b=>some (a,b)
   | _,_=>none
  | false=>none
 | _=>none
def ZH (P:Program) (n:Nat) (I:JF) (i:Nat) (o:Oper) (s:GS) (c:Cx):Option Value:=
 match I0 I.specs i with
 | some sp=>match sp.l.all (fun p=>La (HU s.cx p.1) c) with
  | true=>some sp.v
  | false=>none
 | none=>match o.op with
  | .pick (.tmp t) x y=>match La (HU s.cx t) c && (UC s.cx ((t,true) :: c) x && UC s.cx ((t,false) :: c) y) with
   | true=>match BN n s.G (.tmp t) with
    | .bool b=>some (UF b (BN n s.G x) (BN n s.G y))
    | _=>none
   | false=>none
  | _=>match MV n s c o.op with
   | some (a,b)=>some (.string (a++b))
   | none=>match plain P n I i o s c (fun _=>undef) with
    | some (.value v,_)=>some v
    | _=>none
def Ly (P:Program) (n:Nat) (I:JF) (X:Nat→Value) (i:Nat) (o:Oper) (s:GS) (c:Cx):List ((Option Next×List Nat)×(Option Next×List Nat)):=
 match I0 I.specs i with
 | some sp=>((some (.value (.bool sp.cond)),[]),(some (.value (.bool (ZS s.G c))),[])) :: sp.l.map (fun p=>((some (.value (BN n s.G (.tmp p.1))),[]),(some (.value p.2),[])))
 | none=>match o.op with
  | .pick (.tmp _) _ _=>[]
  | _=>match MV n s c o.op with
   | some _=>[]
   | none=>match plain P n I i o s c X with
    | some (r,m)=>[((some r,m.eqs.map Prod.fst),((plain P n I i o s c (fun _=>undef)).map (·.1),m.eqs.map Prod.snd))]
    | none=>[((none,[]),(some .skip,[]))]
def Pk (n:Nat) (I:JF) (i:Nat) (o:Oper) (s:GS) (c:Cx):List Nat:=
 match I0 I.specs i with
 | some _=>[]
 | none=>match MV n s c o.op with
  | some (a,b)=>[a.size + b.size]
  | none=>[]
def Mw (P:Program) (n:Nat) (ops:Array Oper) (I:JF) (i:Nat) (s:GS):Option (Oper×Cx×GS):=
 match ops[i]? with
 | none=>none
 | some o=>match ZR n ops o s.cx with
  | none=>none
  | some c=>match ZH P n I i o s c,o.dst with
   | some v,some d=>match LK d s.cx && KI d c with
    | true=>some (o,c,⟨Jj s.G d v,(d,c) :: s.cx⟩)
    | false=>none
   | _,_=>none
def Ka (P:Program) (n:Nat) (ops:Array Oper) (I:JF):List Nat→GS→Option GS
 | [],s=>some s
 | i :: r,s=>match Mw P n ops I i s with
  | some (_,_,s')=>Ka P n ops I r s'
  | none=>none
def GO (P:Program) (n:Nat) (ops:Array Oper) (I:JF) (X:Nat→Value):List Nat→GS→List ((Option Next×List Nat)×(Option Next×List Nat))
 | [],_=>[]
 | i :: r,s=>match Mw P n ops I i s with
  | some (o,c,s')=>Ly P n I X i o s c++GO P n ops I X r s'
  | none=>[]
def Kb (P:Program) (n:Nat) (ops:Array Oper) (I:JF):List Nat→GS→List Nat
 | [],_=>[]
 | i :: r,s=>match Mw P n ops I i s with
  | some (o,c,s')=>Pk n I i o s c++Kb P n ops I r s'
  | none=>[]
theorem UX {o:Oper} {ρ:Operand→Value} {w:World} {T T':TypeId} {x y:Operand} {a b:ByteArray} (hop:o.op=.binOp .add T x y T') (d:ρ x=.string a) (c:ρ y=.string b) (hs:((a.size + b.size:Nat):Int)≤IntKind.i64.max):(execOp ρ o).run P w=.ok (.value (.string (a++b))) w:=by
 have h2:¬ ((a.size + b.size:Nat):Int) > IntKind.i64.max:=by omega
 unfold execOp
 simp only [hop,d,c]
 unfold binOp Op.stringOp
 simp [eqGuard]
 have e:IntKind.i64.max=9223372036854775807:=by decide
 omega
theorem WE {o:Oper} {s:GS} {E:Nat→Value} {c:Cx} (hr:MJ s.G s.cx E) (hc:ZR n ops o s.cx=some c):(holds s.G c→Region.wanted o (Hy n ops E)=true)∧(¬ holds s.G c→Region.wanted o (Hy n ops E)=false):=by
 unfold ZR at hc
 unfold Region.wanted
 split at hc
 ·rename_i hg
  obtain rfl:=Option.some.inj hc
  simp only [hg]
  exact ⟨fun _=>trivial,fun h=>(h (fun p a=>(by cases a))).elim⟩
 ·rename_i g want hg
  simp only [hg]
  split at hc
  ·rename_i t ht
   split at hc
   ·rename_i hlt
    obtain rfl:=Option.some.inj hc
    have d:t < n:=Nat.le_of_ble_eq_true hlt
    have j:Hy n ops E g=match E t with
     | .bool b=>some b
     | _=>none:=by
     unfold Hy
     simp only [ht,BN,d,decide_true]
     cases E t <;> rfl
    rw [j]
    constructor
    ·intro i
     have f:holds s.G (HU s.cx t):=fun p a=>i p (by simp [a])
     rw [(hr t).1 f,i (t,want) (by simp)]
     simp
    ·intro i
     by_cases f:holds s.G (HU s.cx t)
     ·rw [(hr t).1 f]
      cases hG:s.G t with
      | bool b=>
       have:b≠want:=by
        intro e
        subst e
        exact i (fun p a=>by
         rcases List.mem_cons.1 a with rfl | a
         ·exact hG
         ·exact f p a)
       simp [this]
      | _=>rfl
     ·rw [(hr t).2 f]
      rfl
   ·cases hc
  ·cases hc
theorem Jy {s:GS} {E:Nat→Value} {c:Cx} {x:Operand} (hr:MJ s.G s.cx E) (hc:holds s.G c) (a:UC s.cx c x=true):BN n E x=BN n s.G x:=by
 cases x with
 | tmp t=>
  have:=(hr t).1 (Kj hc a)
  simp only [BN,this]
 | _=>rfl
theorem VJ {l:List ((Option Next×List Nat)×(Option Next×List Nat))} (h:l.map Prod.fst=l.map Prod.snd):∀ p∈l,p.1=p.2:=by
 intro p b
 obtain ⟨i,hi⟩:=List.mem_iff_getElem?.1 b
 have a:(l.map Prod.fst)[i]?=some p.1:=by rw [List.getElem?_map,hi]; rfl
 have h2:(l.map Prod.snd)[i]?=some p.2:=by rw [List.getElem?_map,hi]; rfl
 rw [h,h2] at a
 exact (Option.some.inj a).symm
def Hb (P:Program) (n:Nat) (C:World→Prop) (ops:Array Oper) (sp:Sp):Prop:=sp.cond=true→∀ E,Gy (BN n E) sp.l→∀ w,C w→Oper.quietUpon P C w sp.v ((execOp (BN n E) (ops.getD sp.i default)).run P w)
theorem Lb:∀ {l:List Sp} {i:Nat} {sp:Sp},I0 l i=some sp→sp∈l∧sp.i=i
 | [],_,_,h=>by cases h
 | s :: r,i,sp,h=>by
  unfold I0 at h
  split at h
  ·rename_i hb
   obtain rfl:=Option.some.inj h
   exact ⟨by simp,Nat.eq_of_beq_eq_true hb⟩
  ·exact ⟨List.mem_cons_of_mem _ (Lb h).1,(Lb h).2⟩
theorem UJ {ρ:Operand→Value}:∀ {l:List (Tmp×Value)},(∀ p∈l,ρ (.tmp p.1)=p.2)→Gy ρ l
 | [],_=>trivial
 | p :: l,h=>⟨h p (by simp),UJ fun q a=>h q (by simp [a])⟩
theorem VU {I:JF} {i:Nat} {o:Oper} {s:GS} {c:Cx} {v:Value} {E:Nat→Value} (hz:∀ z∈Pk n I i o s c,(z:Int)≤IntKind.i64.max) (ho:ops[i]?=some o) (hr:MJ s.G s.cx E) (hc:holds s.G c) (hv:ZH P n I i o s c=some v)
  (f:∀ X,∀ p∈Ly P n I X i o s c,p.1=p.2) (hM:∀ w,C w→∀ e∈I.mem,e.good w) (hS:∀ sp∈I.specs,Hb P n C ops sp):∀ w,C w→Oper.quietAt P o (Fr n E) C w v:=by
 intro w hw
 unfold Oper.quietAt
 rw [Cm]
 have f:=f E
 unfold ZH at hv
 unfold Ly at f
 split at hv
 ·rename_i sp hsp
  simp only [hsp] at f
  split at hv
  ·rename_i hall
   obtain rfl:=Option.some.inj hv
   obtain ⟨j,hi⟩:=Lb hsp
   have g:sp.cond=true:=by
    have:=f _ (List.mem_cons_self ..)
    simp only [Prod.mk.injEq,Option.some.injEq,Next.value.injEq,Value.bool.injEq,and_true] at this
    rw [this]
    exact Pt hc
   have hk:Gy (BN n E) sp.l:=UJ fun p h=>by
    rw [List.all_eq_true] at hall
    have u:=hall p h
    rw [Jy (x:=.tmp p.1) hr hc u]
    have:=f _ (List.mem_cons_of_mem _ (List.mem_map.2 ⟨p,h,rfl⟩))
    simp only [Prod.mk.injEq,Option.some.injEq,Next.value.injEq,and_true] at this
    exact this
   have:=hS sp j g E hk w hw
   have e:ops.getD sp.i default=o:=by rw [hi,Array.getD_eq_getD_getElem?,ho]; rfl
   rw [e] at this
   exact this
  ·cases hv
 ·rename_i hsp
  simp only [hsp] at f
  split at hv
  ·rename_i t x y hop
   split at hv
   ·rename_i hb
    rw [Bool.and_eq_true,Bool.and_eq_true] at hb
    split at hv
    ·rename_i b hG
     obtain rfl:=Option.some.inj hv
     have ht:BN n E (.tmp t)=.bool b:=by rw [Jy (x:=.tmp t) hr hc hb.1]; exact hG
     have k:s.G t=.bool b:=by
      simp only [BN] at hG
      split at hG
      ·exact hG
      ·cases hG
     obtain ⟨d,op,ty,a0,af,gd⟩:=o
     simp only at hop
     subst hop
     have e:(execOp (BN n E) ⟨d,.pick (.tmp t) x y,ty,a0,af,gd⟩).run P w=.ok (.value (if b then BN n E x else BN n E y)) w:=by
      show ((asBool (BN n E (.tmp t))).bind fun b=>Sem.pure (Next.value (if b then BN n E x else BN n E y))).run P w=_
      rw [ht]
      rfl
     rw [e]
     refine ⟨rfl,?_⟩
     rw [cH]
     cases b with
     | true=>exact Jy (c:=(t,true) :: c) hr (fun p f=>(List.mem_cons.1 f).elim (fun e=>e ▸ k) (hc p)) hb.2.1
     | false=>exact Jy (c:=(t,false) :: c) hr (fun p f=>(List.mem_cons.1 f).elim (fun e=>e ▸ k) (hc p)) hb.2.2
    ·cases hv
   ·cases hv
  ·rename_i hnp
   cases hsa:MV n s c o.op with
   | some ab=>
    obtain ⟨a,b⟩:=ab
    rw [hsa] at hv
    obtain rfl:=Option.some.inj hv
    unfold Pk at hz
    simp only [hsp,hsa] at hz
    have b0:=hz _ (List.mem_singleton.2 rfl)
    unfold MV at hsa
    split at hsa
    ·rename_i T x y T' hop
     split at hsa
     ·rename_i hok
      rw [Bool.and_eq_true] at hok
      split at hsa
      ·rename_i a' b' hx hy
       simp only [Option.some.injEq,Prod.mk.injEq] at hsa
       obtain ⟨rfl,rfl⟩:=hsa
       rw [UX hop ((Jy hr hc hok.1).trans hx) ((Jy hr hc hok.2).trans hy) b0]
       exact ⟨rfl,rfl⟩
      ·cases hsa
     ·cases hsa
    ·cases hsa
   | none=>
   rw [hsa] at hv
   have f:∀ p∈(match plain P n I i o s c E with
     | some (r,m)=>[((some r,m.eqs.map Prod.fst),((plain P n I i o s c (fun _=>undef)).map (·.1),m.eqs.map Prod.snd))]
     | none=>[((none,[]),(some .skip,[]))]:List ((Option Next×List Nat)×(Option Next×List Nat))),p.1=p.2:=by
    split at f
    ·rename_i t x y hop; exact (hnp t x y hop).elim
    ·rw [hsa] at f; exact f
   simp only at hv
   split at hv
   ·rename_i v' m' hpl
    obtain rfl:=Option.some.inj hv
    cases hE:plain P n I i o s c E with
    | none=>
     rw [hE] at f
     have:=f _ (List.mem_singleton.2 rfl)
     simp at this
    | some q=>
     obtain ⟨r,m⟩:=q
     rw [hE] at f
     have:=f _ (List.mem_singleton.2 rfl)
     rw [hpl] at this
     simp only [Option.map_some,Prod.mk.injEq,Option.some.injEq] at this
     obtain ⟨rfl,he⟩:=this
     unfold plain at hE
     rw [ZI hr hc] at hE
     rw [Ij _ _ _ _ hE (hM w hw) fun p f=>by
      obtain ⟨i,hi⟩:=List.mem_iff_getElem?.1 f
      have u:(m.eqs.map Prod.fst)[i]?=some p.1:=by rw [List.getElem?_map,hi]; rfl
      have h2:(m.eqs.map Prod.snd)[i]?=some p.2:=by rw [List.getElem?_map,hi]; rfl
      rw [he,h2] at u
      exact (Option.some.inj u).symm]
     exact ⟨rfl,rfl⟩
   ·cases hv
theorem OL {I:JF} {Q:Act→Prop} (r:∀ w,C w→∀ e∈I.mem,e.good w) (m:∀ sp∈I.specs,Hb P n C ops sp):∀ (l:List Nat) (s s':GS) (E:Nat→Value),MJ s.G s.cx E→Ka P n ops I l s=some s'→(∀ X,∀ p∈GO P n ops I X l s,p.1=p.2)→(∀ z∈Kb P n ops I l s,(z:Int)≤IntKind.i64.max)→
  (∀ E',MJ s'.G s'.cx E'→Q (Fr n E'))→wpQuiet P ops C Q (l.map (ops.getD · default)) (Fr n E)
 | [],s,s',E,hr,h,_,_,hk=>by obtain rfl:=Option.some.inj h; exact hk E hr
 | i :: l,s,s',E,hr,h,hp,hz,hk=>by
  unfold Ka at h
  cases hs:Mw P n ops I i s with
  | none=>rw [hs] at h; cases h
  | some q=>
   obtain ⟨o,c,t⟩:=q
   rw [hs] at h
   have k:∀ X,∀ p∈Ly P n I X i o s c,p.1=p.2:=fun X p b=>hp X p (by unfold GO; rw [hs]; exact List.mem_append_left _ b)
   have g:∀ X,∀ p∈GO P n ops I X l t,p.1=p.2:=fun X p b=>hp X p (by unfold GO; rw [hs]; exact List.mem_append_right _ b)
   have j:∀ z∈Pk n I i o s c,(z:Int)≤IntKind.i64.max:=fun z a=>hz z (by unfold Kb; rw [hs]; exact List.mem_append_left _ a)
   have f:∀ z∈Kb P n ops I l t,(z:Int)≤IntKind.i64.max:=fun z a=>hz z (by unfold Kb; rw [hs]; exact List.mem_append_right _ a)
   unfold Mw at hs
   split at hs
   ·cases hs
   ·rename_i o' ho
    split at hs
    ·cases hs
    ·rename_i c' hcx
     split at hs
     ·rename_i v d hv hd
      split at hs
      ·rename_i hfree
       simp only [Option.some.injEq,Prod.mk.injEq] at hs
       obtain ⟨rfl,rfl,rfl⟩:=hs
       rw [Bool.and_eq_true] at hfree
       have u:=WE hr hcx
       have e:ops.getD i default=o':=by rw [Array.getD_eq_getD_getElem?,ho]; rfl
       rw [List.map_cons,e]
       unfold wpQuiet
       rw [Ez]
       by_cases hh:holds s.G c'
       ·rw [if_pos (u.1 hh)]
        refine ⟨v,VU j ho hr hh hv k r m,?_⟩
        rw [Dy,hd]
        exact OL r m l _ s' _ (hr.put d hfree.1 hfree.2 ⟨fun _=>rfl,fun h=>(h hh).elim⟩) h g f hk
       ·rw [u.2 hh,if_neg (by simp),Dy,hd]
        exact OL r m l _ s' _ (hr.put d hfree.1 hfree.2 ⟨fun h=>(hh h).elim,fun _=>rfl⟩) h g f hk
      ·cases hs
     ·cases hs
theorem Ia {Q b:Act→Prop}:∀ (l:List Oper) (a:Act),(∀ a,Q a→b a)→wpQuiet P ops C Q l a→wpQuiet P ops C b l a
 | [],a,h,hh=>h a hh
 | o :: l,a,h,hh=>by
  unfold wpQuiet at hh ⊢
  split
  ·rename_i hw
   rw [if_pos hw] at hh
   exact Oper.quiet_mono (fun d c=>Ia l d h c) hh
  ·rename_i hw
   rw [if_neg hw] at hh
   exact Ia l _ h hh
theorem JR {Q:Exit→Act→World→Prop}:∀ (l:List Nat) (a:Act) (w:World),(∀ i∈l,i < ops.size)→C w→wpQuiet P ops C (fun q=>∀ w',C w'→Q .normal q w') (l.map (ops.getD · default)) a→wpOps P ops Q l a w
 | [],a,w,_,hw,h=>h w hw
 | i :: l,a,w,hi,hw,h=>by
  have d:=hi i (by simp)
  have ho:ops[i]?=some (ops.getD i default):=by rw [Array.getD_eq_getD_getElem?,Array.getElem?_eq_getElem d]; rfl
  rw [List.map_cons] at h
  generalize ops.getD i default=o at h ho
  unfold wpQuiet at h
  by_cases hwt:Region.wanted o (yielded ops a.tmps)=true
  ·rw [if_pos hwt] at h
   obtain ⟨v,p,h2⟩:=h
   refine FU ho hwt ?_
   have c:=p w hw
   unfold Oper.quietAt at c
   unfold Oper.wp
   generalize (execOp a.eval o).run P w=r at *
   cases r with
   | ok x w'=>
    cases x with
    | value u=>obtain ⟨rfl,rfl⟩:=c; exact JR l _ _ (fun j b=>hi j (by simp [b])) hw h2
    | skip=>obtain ⟨rfl,rfl⟩:=c; exact JR l _ _ (fun j b=>hi j (by simp [b])) hw h2
    | enter f args=>
     obtain ⟨rfl,n⟩:=c
     refine n.mono fun e g k=>?_
     obtain ⟨rfl,m⟩:=k
     exact JR l _ _ (fun j b=>hi j (by simp [b])) m h2
    | _=>exact c.elim
   | _=>exact c.elim
  ·rw [if_neg hwt] at h
   exact Qt ho (by simpa using hwt) (JR l _ _ (fun j b=>hi j (by simp [b])) hw h)
theorem bX (ops:Array Oper):(List.range ops.size).map (ops.getD · default)=ops.toList:=by
 refine List.ext_getElem? fun i=>?_
 rw [List.getElem?_map,JQ]
 by_cases h:i < ops.size
 ·simp [h,Array.getD_eq_getD_getElem?]
 ·simp [h]
variable {f:FuncId} {R:Ending→World→Prop}
theorem ZE {w w':World} {e:BI} (h:e.good w) (hb:Below w.heap.size w w'):e.good w':=by
 have a:=hb.block e.id h.1
 refine ⟨Nat.lt_of_lt_of_le h.1 hb.size,?_⟩
 have h2:=h.2
 split at h2
 ·rename_i ho; rw [if_pos ho,a]; exact h2
 ·rename_i ho
  rw [if_neg ho]
  intro j v hv
  rw [World.cell?_of_block (w:=w) a]
  exact h2 j v hv
theorem RC {G E:Nat→Value} {cx:List (Tmp×Cx)} (hr:MJ G cx E):∀ (l:List (Nat×Value)),l.map (fun p=>(G p.1,HU cx p.1))=l.map (fun p=>(p.2,[]))→l.map (fun p=>E p.1)=l.map (·.2)
 | [],_=>rfl
 | p :: l,h=>by
  simp only [List.map_cons,List.cons.injEq,Prod.mk.injEq] at h ⊢
  refine ⟨?_,RC hr l h.2⟩
  rw [(hr p.1).1 (by rw [h.1.2]; exact fun q a=>(by cases a))]
  exact h.1.1
def C6:List Item→Option (Array Oper)
 | .code (.region _ ops _) :: _=>some ops
 | _=>none
theorem d6 {E:Nat→Value} {w:World} {todo:List Item} (ops:Array Oper) (I:JF) (l:List (Nat×Value)) (ht:C6 todo=some ops) (v:Region.lexB .any ops=true) (hm:P.follows .mixedOrders=true)
  (u:∀ e∈I.mem,e.good w) (t:∀ sp∈I.specs,Hb P n (Below w.heap.size w) ops sp)
  (q:∀ X,(GO P n ops I X (List.range ops.size) ⟨E,[]⟩).map Prod.fst=(GO P n ops I X (List.range ops.size) ⟨E,[]⟩).map Prod.snd)
  (hl:(Ka P n ops I (List.range ops.size) ⟨E,[]⟩).map (fun s=>l.map (fun p=>(s.G p.1,HU s.cx p.1)))=some (l.map (fun p=>(p.2,[]))))
  (j:List Nat) (b:Kb P n ops I (List.range ops.size) ⟨E,[]⟩=j) (hz:∀ z∈j,(z:Int)≤IntKind.i64.max)
  (r:∀ w' o,Below w.heap.size w w'→At P f R (AP todo) (Fr n (Aw o l)) w'):At P f R todo (Fr n E) w:=by
 cases hrun:Ka P n ops I (List.range ops.size) ⟨E,[]⟩ with
 | none=>rw [hrun] at hl; cases hl
 | some s'=>
  rw [hrun] at hl
  have c:=Option.some.inj hl
  have m:wpQuiet P ops (Below w.heap.size w) (fun d=>∀ w',Below w.heap.size w w'→JZ P f R (AP todo) d w') ((List.range ops.size).map (ops.getD · default)) (Fr n E):=by
   refine OL (C:=Below w.heap.size w) (fun w' a e he=>ZE (u e he) a) t _ _ _ E (.start E) hrun (fun X=>VJ (q X)) (by rw [b]; exact hz) fun o hr w' a=>?_
   exact (EQ l (RC hr l c) fun g=>r w' g a).mid
  unfold C6 at ht
  split at ht
  ·rename_i id ops' dr k
   obtain rfl:=Option.some.inj ht
   cases dr with
   | true=>
    refine cG (wp_region_quiet (C:=Below w.heap.size w) hm v (Below.refl _ _).drew ?_)
    rw [← bX]
    exact Ia _ _ (fun d h w' a=>⟨rfl,h w' a⟩) m
   | false=>
    refine Di (todo':=.inRegion ops' (List.range ops'.size) :: k) (by simp) (fun _=>step_region) ?_
    refine JR (C:=Below w.heap.size w) _ _ _ (fun i hi=>by simpa using hi) (Below.refl _ _) ?_
    exact Ia _ _ (fun d h w' a=>⟨rfl,h w' a⟩) m
  ·cases ht
theorem HW {E:Nat→Value} {w:World} {todo:List Item} (ops:Array Oper) (I:JF) (l:List (Nat×Value)) (ht:C6 todo=some ops) (h:Region.lexB .any ops=true) (hm:P.follows .mixedOrders=true)
  (g:∀ e∈I.mem,e.good w) (d:∀ sp∈I.specs,Hb P n (Below w.heap.size w) ops sp)
  (b:∀ X,(GO P n ops I X (List.range ops.size) ⟨E,[]⟩).map Prod.fst=(GO P n ops I X (List.range ops.size) ⟨E,[]⟩).map Prod.snd)
  (hl:(Ka P n ops I (List.range ops.size) ⟨E,[]⟩).map (fun s=>l.map (fun p=>(s.G p.1,HU s.cx p.1)))=some (l.map (fun p=>(p.2,[]))))
  (c:∀ w' E',Below w.heap.size w w'→At P f R (AP todo) (Fr n (Aw E' l)) w') (a:Kb P n ops I (List.range ops.size) ⟨E,[]⟩=[]:=by kernel_rfl):At P f R todo (Fr n E) w:=
 d6 ops I l ht h hm g d b hl [] a (fun z hz=>(by cases hz)) c
def Ux:Oper→Option (FuncId×List Operand)
 | ⟨_,.call ⟨.value (.func g),xs,_⟩,_,_,_,_⟩=>some (g,xs.toList)
 | _=>none
theorem cV {o:Oper} {g:FuncId} {xs:List Operand} {args:List Value} {E:Nat→Value} {w:World} (ho:Ux o=some (g,xs)) (hg:Dw P g=true) (ha:xs.map (BN n E)=args):(execOp (BN n E) o).run P w=.ok (.enter g args.toArray) w:=by
 unfold Ux at ho
 split at ho
 ·rename_i d g' xs' ats ty pos af gd
  simp only [Option.some.injEq,Prod.mk.injEq] at ho
  obtain ⟨rfl,rfl⟩:=ho
  rw [← BW (h:=hg) args.toArray w,← ha]
  unfold execOp resolve
  have a:xs'.toList.map (BN n E)=(xs'.map (BN n E)).toList:=by simp
  simp only [a,Array.toArray_toList]
  show ((Deferred.ofValue (.func (.func g') #[] #[]) (xs'.map (BN n E))).bind fun d=>invoke d.target d.args).run P w=_
  unfold Deferred.ofValue
  simp [invoke,pure,Sem.bind]
 ·cases ho
theorem AX {sp:Sp} (g:FuncId) (xs:List Operand) (args:List Value) (ha:∀ E,xs.map (T9 sp.l (BN n E))=args) (h:sp.cond=true→∀ w,C w→Calls P g args.toArray w fun e w'=>e=.returned sp.v∧C w') (ho:Ux (ops.getD sp.i default)=some (g,xs):=by kernel_rfl) (hg:Dw P g=true:=by kernel_rfl):Hb P n C ops sp:=by
 intro hc E b w a
 have e:xs.map (BN n E)=args:=by
  have:=ha E
  rw [T8 b] at this
  exact this
 rw [cV (w:=w) ho hg e]
 exact ⟨rfl,h hc w a⟩
theorem An {sp:Sp} (h:sp.cond=true→∀ E w,C w→(execOp (T9 sp.l (BN n E)) (ops.getD sp.i default)).run P w=.ok (.value sp.v) w):Hb P n C ops sp:=by
 intro hc E b w a
 have:=h hc E w a
 rw [T8 b] at this
 rw [this]
 exact ⟨rfl,rfl⟩
theorem AR {g:FuncId} {args:Array Value} {v:Value} {w0 w:World} (hb:Below w0.heap.size w0 w) (h:Calls P g args w fun e w'=>e=.returned v∧Below w.heap.size w w'):Calls P g args w fun e w'=>e=.returned v∧Below w0.heap.size w0 w':=
 h.mono fun _ _ ⟨a,h2⟩=>⟨a,hb.trans (h2.mono hb.size)⟩
end
end Go.Proofs.YtmcpjkcggfmcmaaGreatDoor
namespace Go.Proofs.YtmcpjkcggfmcmaaGreatDoor
section
variable {P:Program} {f:FuncId} {R:Ending→World→Prop}
def ly:List (Tmp×Nat)→Tmp→Nat
 | [],_=>0
 | p :: r,t=>match Nat.beq p.1 t with
  | true=>p.2
  | false=>ly r t
def SJ (H:List (Tmp×Nat)) (n:Nat) (E:Nat→Value):Op→Nat×Nat
 | .load _ (.tmp t) | .store _ (.tmp t) _=>match BN n E (.tmp t) with
  | .pointer (some a)=>(ly H t,a.off)
  | _=>(0,0)
 | _=>(0,0)
def lq (P:Program) (H:List (Tmp×Nat)) (n:Nat) (ops:Array Oper) (i:Nat) (s:St) (todo:List Item):Option St:=
 match ops[i]? with
 | none=>none
 | some o=>Q5 P n ops i { s with hs:=SJ H n s.env o.op :: s.hs } todo
def lz:Option St→List (Nat×Nat)→Option St
 | some s,h=>some { s with hs:=h }
 | none,_=>none
def PF (P:Program) (H:List (Tmp×Nat)) (n:Nat) (s:St):Option St:=
 match s.todo with
 | .code (.cond c x y) :: k=>match BN n s.env c with
  | .bool true=>some { s with todo:=.code x :: k }
  | .bool false=>some { s with todo:=.code y :: k }
  | _=>none
 | .code (.loop c) :: k=>some { s with todo:=.code c :: .inLoop c :: k }
 | .inLoop c :: k=>some { s with todo:=.code c :: .inLoop c :: k }
 | .inRegion ops (i :: r) :: k=>lz (lq P H n ops i s (.inRegion ops r :: k)) []
 | _=>NC P n s
def L5 (P:Program) (H:List (Tmp×Nat)) (n:Nat):Nat→St→St
 | 0,s=>s
 | m + 1,s=>match PF P H n s with
  | some s'=>L5 P H n m s'
  | none=>s
theorem ma {H:List (Tmp×Nat)} {n:Nat} {ops:Array Oper} {i:Nat} {s s':St} {todo:List Item} {h:List (Nat×Nat)} (hs:lz (lq P H n ops i s todo) h=some s'):∀ p∈s.ms.eqs,p∈s'.ms.eqs:=by
 unfold lq at hs
 split at hs
 ·cases hs
 ·rename_i o ho
  cases hq:Q5 P n ops i { s with hs:=SJ H n s.env o.op :: s.hs } todo with
  | none=>rw [hq] at hs; cases hs
  | some q=>
   rw [hq] at hs
   obtain rfl:=Option.some.inj hs
   have:=Vr hq
   exact this
theorem bI {H:List (Tmp×Nat)} {n:Nat} {s s':St} (h:PF P H n s=some s'):∀ p∈s.ms.eqs,p∈s'.ms.eqs:=by
 unfold PF at h
 split at h
 ·split at h
  ·obtain rfl:=Option.some.inj h; exact fun p a=>a
  ·obtain rfl:=Option.some.inj h; exact fun p a=>a
  ·cases h
 ·obtain rfl:=Option.some.inj h; exact fun p a=>a
 ·obtain rfl:=Option.some.inj h; exact fun p a=>a
 ·exact ma h
 ·exact Qu h
theorem U9 {H:List (Tmp×Nat)} {n:Nat}:∀ (m:Nat) (s:St),∀ p∈s.ms.eqs,p∈(L5 P H n m s).ms.eqs
 | 0,_,p,hp=>hp
 | m + 1,s,p,hp=>by
  unfold L5
  split
  ·rename_i s' hs; exact U9 m s' p (bI hs p hp)
  ·exact hp
theorem VF {O:List Nat} {B n:Nat} {H:List (Tmp×Nat)} {s s':St} {w:World}
  (h:PF P H n s=some s') (b:DH O B w s.ms) (he:∀ p∈s'.ms.eqs,p.1=p.2)
  (a:∀ w',DH O B w' s'.ms→EC O B w w'→At P f R s'.todo (Fr n s'.env) w'):At P f R s.todo (Fr n s.env) w:=by
 unfold PF at h
 split at h
 ·rename_i c x y k hc
  split at h
  ·rename_i hv
   obtain rfl:=Option.some.inj h
   rw [hc]
   exact Di (by simp) (fun _=>step_cond (t:=true) (by rw [Cm]; exact hv)) (a w b (.refl _ _ _))
  ·rename_i hv
   obtain rfl:=Option.some.inj h
   rw [hc]
   exact Di (by simp) (fun _=>step_cond (t:=false) (by rw [Cm]; exact hv)) (a w b (.refl _ _ _))
  ·cases h
 ·rename_i hc; obtain rfl:=Option.some.inj h; rw [hc]; exact Di (by simp) (fun _=>step_loop) (a w b (.refl _ _ _))
 ·rename_i hc; obtain rfl:=Option.some.inj h; rw [hc]; exact Di (by simp) (fun _=>step_inLoop) (a w b (.refl _ _ _))
 ·rename_i ops i r k hc
  rw [hc]
  unfold lq at h
  split at h
  ·cases h
  ·rename_i o ho
   cases hq:Q5 P n ops i { s with hs:=SJ H n s.env o.op :: s.hs } (.inRegion ops r :: k) with
   | none=>rw [hq] at h; cases h
   | some q=>
    rw [hq] at h
    obtain rfl:=Option.some.inj h
    exact Q4 (s:={ s with hs:=SJ H n s.env o.op :: s.hs }) (s':=q) hq b he a
 ·exact Nf h b he a
theorem QI {O:List Nat} {B n:Nat} {H:List (Tmp×Nat)}:∀ (m:Nat) (s:St) (w:World),DH O B w s.ms→(∀ p∈(L5 P H n m s).ms.eqs,p.1=p.2)→
  (∀ w',DH O B w' (L5 P H n m s).ms→EC O B w w'→At P f R (L5 P H n m s).todo (Fr n (L5 P H n m s).env) w')→At P f R s.todo (Fr n s.env) w
 | 0,s,w,hL,_,hk=>hk w hL (.refl _ _ _)
 | m + 1,s,w,hL,he,hk=>by
  unfold L5 at he hk
  split at he
  ·rename_i s' hs
   simp only [hs] at hk
   refine VF hs hL (fun p e=>he p (U9 m s' p e)) fun w' c g=>?_
   exact QI m s' w' c he fun b a d=>hk b a (g.trans d)
  ·rename_i hs
   simp only [hs] at hk
   exact hk w hL (.refl _ _ _)
end
end Go.Proofs.YtmcpjkcggfmcmaaGreatDoor

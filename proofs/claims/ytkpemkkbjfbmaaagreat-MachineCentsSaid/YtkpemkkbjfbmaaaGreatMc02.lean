/- Contracts of functions, part 2. -/
import Derived.Test.YtkpemkkbjfbmaaaGreatMc01
import Derived.Deep.Quiet
import Derived.Below
import Derived.Deep.QuietTactic
import Derived.BigQuiet
import Derived.IntWalk
import Derived.Test.YtkpemkkbjfbmaaaGreatRows
import Derived.WalkKit
import Derived.ProofKit
import Derived.OpenShut
import Derived.Deep.DeepHandedRow
import Derived.Lib.LaidTab
import Derived.Stop.LaidErr
import Derived.Lib.SmallJoins
set_option linter.all false
namespace Go.Proofs.YtkpemkkbjfbmaaaGreat
open List
open Go.RowKit
section
variable {P:Program} {ops:Array Oper} {n:Nat} {C:World->Prop}
abbrev Cx:=List (Tmp×Bool)
def Ho:List (Tmp×Cx)->Tmp->Cx
 | [],_=>[]
 | p::r,t=>match Nat.beq p.1 t with
  | true=>p.2
  | false=>Ho r t
def Ug (p:Tmp×Bool):Cx->Bool
 | []=>false
 | q::r=>(Nat.beq p.1 q.1&&(p.2==q.2))||Ug p r
def Ma:Cx->Cx->Bool
 | [],_=>true
 | p::r,c=>Ug p c&&Ma r c
def LQ (d:Tmp):Cx->Bool
 | []=>true
 | q::r=>!(Nat.beq q.1 d)&&LQ d r
def MK (d:Tmp):List (Tmp×Cx)->Bool
 | []=>true
 | p::r=>LQ d p.2&&MK d r
def holds (G:Nat->Value) (c:Cx):Prop:=∀p∈c,G p.1=I p.2
theorem TN {p:Tmp×Bool}:∀ {c:Cx},Ug p c=true->p∈c
 | [],h=>by cases h
 | q::r,h=>by
  unfold Ug at h;rw[Bool.or_eq_true,Bool.and_eq_true]at h;rcases h with⟨a,h2⟩ | h
  ·have d:=Nat.eq_of_beq_eq_true a;have b:p.2=q.2:=by simpa using h2
   have:p=q:=Prod.ext d b;simp[this]
  exact mem_cons_of_mem _ (TN h)
theorem Lr {G:Nat->Value} {c:Cx} (hc:holds G c):∀ {a:Cx},Ma a c=true->holds G a
 | [],_=>λp d=>by cases d
 | p::r,h=>by
  unfold Ma at h;rw[Bool.and_eq_true]at h;intro q b;rcases mem_cons.1 b with rfl | b
  ·exact hc _ (TN h.1)
  exact Lr hc h.2 q b
theorem LP {G:Nat->Value} {d:Tmp} {v:Value}:∀ {c:Cx},LQ d c=true->(holds (KI G d v) c↔holds G c)
 | [],_=>⟨λ_ p a=>(by cases a),λ_ p a=>(by cases a)⟩
 | q::r,h=>by
  unfold LQ at h;rw[Bool.and_eq_true]at h;have f:=LP (G:=G) (v:=v) h.2;have g:KI G d v q.1=G q.1:=by
   unfold KI;rw[if_neg];intro e;have:Nat.beq q.1 d=true:=by rw[e];exact Nat.beq_refl d
   rw[this]at h
   cases h.1
  constructor
  ·intro b p a;rcases mem_cons.1 a with rfl | a
   ·rw[<-g];exact b _ (by simp)
   exact f.1 (λp a=>b p (by simp[a])) p a
  intro b p a;rcases mem_cons.1 a with rfl | a
  ·rw[g];exact b _ (by simp)
  exact f.2 (λp a=>b p (by simp[a])) p a
theorem Rj {d:Tmp}:∀ {cx:List (Tmp×Cx)} (t:Tmp),MK d cx=true->LQ d (Ho cx t)=true
 | [],_,_=>rfl
 | p::r,t,h=>by
  unfold MK at h;rw[Bool.and_eq_true]at h;unfold Ho
  split
  ·exact h.1
  exact Rj t h.2
def NS (G:Nat->Value) (cx:List (Tmp×Cx)) (E:Nat->Value):Prop:=∀t,(holds G (Ho cx t)->E t=G t)/\(¬holds G (Ho cx t)->E t=undef)
theorem NS.start (G:Nat->Value):NS G [] G:=λ_=>⟨λ_=>rfl,λh=>(h (λp a=>by cases a)).elim⟩
def gm (G:Nat->Value) (cx:List (Tmp×Cx)) (c:Cx) (X:Nat->Value):Nat->Value:=λt=>match Ma (Ho cx t) c with
 | true=>G t
 | false=>X t
theorem gl {G E:Nat->Value} {cx:List (Tmp×Cx)} {c:Cx} (h:NS G cx E) (hc:holds G c):gm G cx c E=E:=by
 funext t;unfold gm
 split
 ·rename_i hs;exact((h t).1 (Lr hc hs)).symm
 rfl
theorem NS.put {G E:Nat->Value} {cx:List (Tmp×Cx)} {c:Cx} {v u:Value} (h:NS G cx E) (d:Tmp) (hf:MK d cx=true) (a:LQ d c=true) (hu:(holds G c->u=v)/\(¬holds G c->u=undef)):NS (KI G d v) ((d,c)::cx) (KI E d u):=by
 intro t;unfold Ho;by_cases ht:d=t
 ·subst ht;simp only[Nat.beq_refl];rw[LP a];simp only[KI,if_true];exact hu
 have hb:Nat.beq d t=false:=by
  cases hh:Nat.beq d t with
  | false=>rfl
  | true=>exact(ht (Nat.eq_of_beq_eq_true hh)).elim
 simp only[hb];rw[LP (Rj t hf)];have b:KI E d u t=E t:=by unfold KI;rw[if_neg (λe=>ht e.symm)]
 have h2:KI G d v t=G t:=by unfold KI;rw[if_neg (λe=>ht e.symm)]
 rw[b,h2];exact h t
structure Sp where
 i:Nat
 l:List (Tmp×Value)
 v:Value
 cond:Bool
def Hh:List Sp->Nat->Option Sp
 | [],_=>none
 | s::r,i=>match Nat.beq s.i i with
  | true=>some s
  | false=>Hh r i
def gy (G:Nat->Value):Cx->Bool
 | []=>true
 | p::r=>(match G p.1 with
  | .bool b=>(match p.2 with
   | true=>b
   | false=>!b)
  | _=>false)&&gy G r
theorem Rs {G:Nat->Value}:∀ {c:Cx},holds G c->gy G c=true
 | [],_=>rfl
 | p::r,h=>by
  unfold gy;rw[h p (by simp)];have a:=Rs (G:=G) (c:=r) (λq d=>h q (by simp[d]));rw[a];obtain⟨t,b⟩:=p
  cases b<;>rfl
def XS (b:Bool):Value->Value->Value
 | .bool x,.bool y=>.bool (cond b x y)
 | x,y=>cond b x y
theorem mX (b:Bool) (x y:Value):XS b x y=cond b x y:=by
 unfold XS
 split
 ·cases b<;>rfl
 rfl
def mn:List (Nat×Nat×Nat)->Nat->Nat×Nat
 | [],_=>(0,0)
 | p::r,i=>match Nat.beq p.1 i with
  | true=>p.2
  | false=>mn r i
def XN (cx:List (Tmp×Cx)) (c:Cx):Operand->Bool
 | .tmp t=>Ma (Ho cx t) c
 | _=>true
structure Jh where
 mem:List Ax
 hints:List (Nat×Nat×Nat)
 specs:List Sp
structure GS where
 G:Nat->Value
 cx:List (Tmp×Cx)
def gx (n:Nat) (ops:Array Oper) (o:Oper) (cx:List (Tmp×Cx)):Option Cx:=
 match o.guard with
 | none=>some []
 | some (g,want)=>match (ops[g]?).bind (·.dst)with
  | some t=>match Nat.blt t n with
   | true=>some ((t,want)::Ho cx t)
   | false=>none
  | none=>none
def plain (P:Program) (n:Nat) (ξ:Jh) (i:Nat) (o:Oper) (s:GS) (c:Cx) (X:Nat->Value):Option (Next×MS):=Dp P (execOp (BK n (gm s.G s.cx c X)) o) ⟨0,ξ.mem,mn ξ.hints i,[]⟩
def Nk (n:Nat) (s:GS) (c:Cx):Op->Option (ByteArray×ByteArray)
 | .binOp .add _ x y _=>match XN s.cx c x&&XN s.cx c y with
  | true=>match BK n s.G x,BK n s.G y with
   | .string a,.string b=>some (a,b)
   | _,_=>none
  | false=>none
 | _=>none
def gj (P:Program) (n:Nat) (ξ:Jh) (i:Nat) (o:Oper) (s:GS) (c:Cx):Option Value:=
 match Hh ξ.specs i with
 | some sp=>match sp.l.all (λp=>Ma (Ho s.cx p.1) c)with
  | true=>some sp.v
  | false=>none
 | none=>match o.op with
  | .pick (.tmp t) x y=>match Ma (Ho s.cx t) c&&(XN s.cx ((t,true)::c) x&&XN s.cx ((t,false)::c) y)with
   | true=>match BK n s.G (.tmp t)with
    | .bool b=>some (XS b (BK n s.G x) (BK n s.G y))
    | _=>none
   | false=>none
  | _=>match Nk n s c o.op with
   | some (a,b)=>some (.string (a++b))
   | none=>match plain P n ξ i o s c (λ_=>undef)with
    | some (.value v,_)=>some v
    | _=>none
def M2 (P:Program) (n:Nat) (ξ:Jh) (X:Nat->Value) (i:Nat) (o:Oper) (s:GS) (c:Cx):List ((Option Next×List Nat)×(Option Next×List Nat)):=
 match Hh ξ.specs i with
 | some sp=>((some (.value (I sp.cond)),[]),(some (.value (I (gy s.G c))),[]))::sp.l.map (λp=>((some (.value (BK n s.G (.tmp p.1))),[]),(some (.value p.2),[])))
 | none=>match o.op with
  | .pick (.tmp _) _ _=>[]
  | _=>match Nk n s c o.op with
   | some _=>[]
   | none=>match plain P n ξ i o s c X with
    | some (r,m)=>[((some r,m.eqs.map Prod.fst),((plain P n ξ i o s c (λ_=>undef)).map (·.1),m.eqs.map Prod.snd))]
    | none=>[((none,[]),(some .skip,[]))]
def Ri (n:Nat) (ξ:Jh) (i:Nat) (o:Oper) (s:GS) (c:Cx):List Nat:=
 match Hh ξ.specs i with
 | some _=>[]
 | none=>match Nk n s c o.op with
  | some (a,b)=>[a.size+b.size]
  | none=>[]
def N9 (P:Program) (n:Nat) (ops:Array Oper) (ξ:Jh) (i:Nat) (s:GS):Option (Oper×Cx×GS):=
 match ops[i]? with
 | none=>none
 | some o=>match gx n ops o s.cx with
  | none=>none
  | some c=>match gj P n ξ i o s c,o.dst with
   | some v,some d=>match MK d s.cx&&LQ d c with
    | true=>some (o,c,⟨KI s.G d v,(d,c)::s.cx⟩)
    | false=>none
   | _,_=>none
def Lk (P:Program) (n:Nat) (ops:Array Oper) (ξ:Jh):List Nat->GS->Option GS
 | [],s=>some s
 | i::r,s=>match N9 P n ops ξ i s with
  | some (_,_,s')=>Lk P n ops ξ r s'
  | none=>none
def Gp (P:Program) (n:Nat) (ops:Array Oper) (ξ:Jh) (X:Nat->Value):List Nat->GS->List ((Option Next×List Nat)×(Option Next×List Nat))
 | [],_=>[]
 | i::r,s=>match N9 P n ops ξ i s with
  | some (o,c,s')=>M2 P n ξ X i o s c++Gp P n ops ξ X r s'
  | none=>[]
def Ll (P:Program) (n:Nat) (ops:Array Oper) (ξ:Jh):List Nat->GS->List Nat
 | [],_=>[]
 | i::r,s=>match N9 P n ops ξ i s with
  | some (o,c,s')=>Ri n ξ i o s c++Ll P n ops ξ r s'
  | none=>[]
theorem qp {o:Oper} {ρ:Operand->Value} {w:World} {T T':TypeId} {x y:Operand} {a b:ByteArray} (hop:o.op=.binOp .add T x y T') (hx:ρ x=.string a) (c:ρ y=.string b) (hs:((a.size+b.size:Nat):Int)<=IntKind.i64.max):(execOp ρ o).run P w=.ok (.value (.string (a++b))) w:=by
 have h2:¬((a.size+b.size:Nat):Int)>IntKind.i64.max:=by omega
 unfold execOp;simp only[hop,hx,c];unfold binOp Op.stringOp;simp[eqGuard];have d:IntKind.i64.max=9223372036854775807:=by decide
 omega
theorem bG {o:Oper} {s:GS} {E:Nat->Value} {c:Cx} (hr:NS s.G s.cx E) (hc:gx n ops o s.cx=some c):(holds s.G c->Region.wanted o (IU n ops E)=true)/\(¬holds s.G c->Region.wanted o (IU n ops E)=false):=by
 unfold gx at hc;unfold Region.wanted
 split at hc
 ·rename_i hg
  obtain rfl:=Option.some.inj hc;simp only[hg];exact⟨λ_=>trivial,λh=>(h (λp a=>(by cases a))).elim⟩
 rename_i g want hg
 simp only[hg]
 split at hc
 ·rename_i t ht
  split at hc
  ·rename_i hlt
   obtain rfl:=Option.some.inj hc;have d:t<n:=Nat.le_of_ble_eq_true hlt;have j:IU n ops E g=match E t with
    | .bool b=>some b
    | _=>none:=by
    unfold IU;simp only[ht,BK,d,decide_true]
    cases E t<;>rfl
   rw[j];constructor
   ·intro i;have f:holds s.G (Ho s.cx t):=λp a=>i p (by simp[a]);rw[(hr t).1 f,i (t,want) (by simp)];simp
   intro i;by_cases f:holds s.G (Ho s.cx t)
   ·rw[(hr t).1 f]
    cases hG:s.G t with
    | bool b=>
     have:b≠want:=by
      intro e;subst e;exact i (λp a=>by
       rcases mem_cons.1 a with rfl | a
       ·exact hG
       exact f p a)
     simp[this]
    | _=>rfl
   rw[(hr t).2 f];rfl
  cases hc
 cases hc
theorem Kj {s:GS} {E:Nat->Value} {c:Cx} {x:Operand} (hr:NS s.G s.cx E) (hc:holds s.G c) (hx:XN s.cx c x=true):BK n E x=BK n s.G x:=by
 cases x with
 | tmp t=>
  have:=(hr t).1 (Lr hc hx);simp only[BK,this]
 | _=>rfl
theorem Yi {l:List ((Option Next×List Nat)×(Option Next×List Nat))} (h:l.map Prod.fst=l.map Prod.snd):∀p∈l,p.1=p.2:=by
 intro p b;obtain⟨i,hi⟩:=mem_iff_getElem?.1 b;have a:(l.map Prod.fst)[i]?=some p.1:=by rw[getElem?_map,hi];rfl
 have h2:(l.map Prod.snd)[i]?=some p.2:=by rw[getElem?_map,hi];rfl
 rw[h,h2]at a;exact(Option.some.inj a).symm
def F1 (P:Program) (n:Nat) (C:World->Prop) (ops:Array Oper) (sp:Sp):Prop:=sp.cond=true->∀E,He (BK n E) sp.l->∀w,C w->Oper.quietUpon P C w sp.v ((execOp (BK n E) (ops.getD sp.i default)).run P w)
theorem JT:∀ {l:List Sp} {i:Nat} {a:Sp},Hh l i=some a->a∈l/\a.i=i
 | [],_,_,h=>by cases h
 | s::r,i,a,h=>by
  unfold Hh at h
  split at h
  ·rename_i hb
   obtain rfl:=Option.some.inj h;exact⟨by simp,Nat.eq_of_beq_eq_true hb⟩
  exact⟨mem_cons_of_mem _ (JT h).1,(JT h).2⟩
theorem Xa {ρ:Operand->Value}:∀ {l:List (Tmp×Value)},(∀p∈l,ρ (.tmp p.1)=p.2)->He ρ l
 | [],_=>trivial
 | p::l,h=>⟨h p (by simp),Xa λq a=>h q (by simp[a])⟩
theorem Yy {ξ:Jh} {i:Nat} {o:Oper} {s:GS} {c:Cx} {v:Value} {E:Nat->Value} (hz:∀z∈Ri n ξ i o s c,(z:Int)<=IntKind.i64.max) (ho:ops[i]?=some o) (hr:NS s.G s.cx E) (hc:holds s.G c) (hv:gj P n ξ i o s c=some v)
  (f:∀X,∀p∈M2 P n ξ X i o s c,p.1=p.2) (hM:∀w,C w->∀e∈ξ.mem,e.good w) (hS:∀sp∈ξ.specs,F1 P n C ops sp):∀w,C w->Oper.quietAt P o (Fr n E) C w v:=by
 intro w hw;unfold Oper.quietAt;rw[D8];have f:=f E;unfold gj at hv;unfold M2 at f
 split at hv
 ·rename_i sp hsp
  simp only[hsp]at f
  split at hv
  ·rename_i hall
   obtain rfl:=Option.some.inj hv;obtain⟨j,hi⟩:=JT hsp;have g:sp.cond=true:=by have:=f _ (mem_cons_self ..);simp only[Prod.mk.injEq,Option.some.injEq,Next.value.injEq,Value.bool.injEq,and_true]at this;rw[this];exact Rs hc
   have hk:He (BK n E) sp.l:=Xa λp h=>by rw[all_eq_true]at hall;have u:=hall p h;rw[Kj (x:=.tmp p.1) hr hc u];have:=f _ (mem_cons_of_mem _ (mem_map.2 ⟨p,h,rfl⟩));simp only[Prod.mk.injEq,Option.some.injEq,Next.value.injEq,and_true]at this;exact this
   have:=hS sp j g E hk w hw;have e:ops.getD sp.i default=o:=by rw[hi,Array.getD_eq_getD_getElem?,ho];rfl
   rw[e]at this;exact this
  cases hv
 rename_i hsp
 simp only[hsp]at f
 split at hv
 ·rename_i t x y hop
  split at hv
  ·rename_i hb
   rw[Bool.and_eq_true,Bool.and_eq_true]at hb
   split at hv
   ·rename_i b hG
    obtain rfl:=Option.some.inj hv;have ht:BK n E (.tmp t)=I b:=by rw[Kj (x:=.tmp t) hr hc hb.1];exact hG
    have k:s.G t=I b:=by
     simp only[BK]at hG
     split at hG
     ·exact hG
     cases hG
    obtain⟨d,op,ty,pos,af,gd⟩:=o;simp only at hop;subst hop;have e:(execOp (BK n E) ⟨d,.pick (.tmp t) x y,ty,pos,af,gd⟩).run P w=.ok (.value (if b then BK n E x else BK n E y)) w:=by show((asBool (BK n E (.tmp t))).bind λb=>Sem.pure (Next.value (if b then BK n E x else BK n E y))).run P w=_;rw[ht];rfl
    rw[e];refine⟨rfl,?_⟩;rw[mX]
    cases b with
    | true=>exact Kj (c:=(t,true)::c) hr (λp f=>(mem_cons.1 f).elim (λe=>e ▸ k) (hc p)) hb.2.1
    | false=>exact Kj (c:=(t,false)::c) hr (λp f=>(mem_cons.1 f).elim (λe=>e ▸ k) (hc p)) hb.2.2
   cases hv
  cases hv
 rename_i hnp
 cases hsa:Nk n s c o.op with
 | some ab=>
  obtain⟨a,b⟩:=ab;rw[hsa]at hv;obtain rfl:=Option.some.inj hv;unfold Ri at hz;simp only[hsp,hsa]at hz;have a0:=hz _ (mem_singleton.2 rfl);unfold Nk at hsa
  split at hsa
  ·rename_i T x y T' hop
   split at hsa
   ·rename_i hok
    rw[Bool.and_eq_true]at hok
    split at hsa
    ·rename_i a' b' hx hy
     simp only[Option.some.injEq,Prod.mk.injEq]at hsa;obtain⟨rfl,rfl⟩:=hsa;rw[qp hop ((Kj hr hc hok.1).trans hx) ((Kj hr hc hok.2).trans hy) a0];exact⟨rfl,rfl⟩
    cases hsa
   cases hsa
  cases hsa
 | none=>
 rw[hsa]at hv;have f:∀p∈(match plain P n ξ i o s c E with
   | some (r,m)=>[((some r,m.eqs.map Prod.fst),((plain P n ξ i o s c (λ_=>undef)).map (·.1),m.eqs.map Prod.snd))]
   | none=>[((none,[]),(some .skip,[]))]:List ((Option Next×List Nat)×(Option Next×List Nat))),p.1=p.2:=by
  split at f
  ·rename_i t x y hop;exact(hnp t x y hop).elim
  rw[hsa]at f;exact f
 simp only at hv
 split at hv
 ·rename_i v' m' hpl
  obtain rfl:=Option.some.inj hv
  cases hE:plain P n ξ i o s c E with
  | none=>
   rw[hE]at f;have:=f _ (mem_singleton.2 rfl);simp at this
  | some q=>
   obtain⟨r,m⟩:=q;rw[hE]at f;have:=f _ (mem_singleton.2 rfl);rw[hpl]at this;simp only[Option.map_some,Prod.mk.injEq,Option.some.injEq]at this;obtain⟨rfl,he⟩:=this;unfold plain at hE;rw[gl hr hc]at hE;rw[GK _ _ _ _ hE (hM w hw) λp f=>by
    obtain⟨i,hi⟩:=mem_iff_getElem?.1 f;have u:(m.eqs.map Prod.fst)[i]?=some p.1:=by rw[getElem?_map,hi];rfl
    have h2:(m.eqs.map Prod.snd)[i]?=some p.2:=by rw[getElem?_map,hi];rfl
    rw[he,h2]at u;exact(Option.some.inj u).symm]
   exact⟨rfl,rfl⟩
 cases hv
theorem Pz {ξ:Jh} {Q:Act->Prop} (r:∀w,C w->∀e∈ξ.mem,e.good w) (m:∀sp∈ξ.specs,F1 P n C ops sp):∀(l:List Nat) (s s':GS) (E:Nat->Value),NS s.G s.cx E->Lk P n ops ξ l s=some s'->(∀X,∀p∈Gp P n ops ξ X l s,p.1=p.2)->(∀z∈Ll P n ops ξ l s,(z:Int)<=IntKind.i64.max)->
  (∀E',NS s'.G s'.cx E'->Q (Fr n E'))->wpQuiet P ops C Q (l.map (ops.getD · default)) (Fr n E)
 | [],s,s',E,hr,h,_,_,hk=>by obtain rfl:=Option.some.inj h;exact hk E hr
 | i::l,s,s',E,hr,h,hp,hz,hk=>by
  unfold Lk at h
  cases hs:N9 P n ops ξ i s with
  | none=>rw[hs]at h;cases h
  | some q=>
   obtain⟨o,c,t⟩:=q;rw[hs]at h;have k:∀X,∀p∈M2 P n ξ X i o s c,p.1=p.2:=λX p b=>hp X p (by unfold Gp;rw[hs];exact mem_append_left _ b);have g:∀X,∀p∈Gp P n ops ξ X l t,p.1=p.2:=λX p b=>hp X p (by unfold Gp;rw[hs];exact mem_append_right _ b);have j:∀z∈Ri n ξ i o s c,(z:Int)<=IntKind.i64.max:=λz a=>hz z (by unfold Ll;rw[hs];exact mem_append_left _ a);have f:∀z∈Ll P n ops ξ l t,(z:Int)<=IntKind.i64.max:=λz a=>hz z (by unfold Ll;rw[hs];exact mem_append_right _ a);unfold N9 at hs
   split at hs
   ·cases hs
   rename_i o' ho
   split at hs
   ·cases hs
   rename_i c' hcx
   split at hs
   ·rename_i v d hv hd
    split at hs
    ·rename_i hfree
     simp only[Option.some.injEq,Prod.mk.injEq]at hs;obtain⟨rfl,rfl,rfl⟩:=hs;rw[Bool.and_eq_true]at hfree;have u:=bG hr hcx;have e:ops.getD i default=o':=by rw[Array.getD_eq_getD_getElem?,ho];rfl
     rw[map_cons,e];unfold wpQuiet;rw[Fi];by_cases hh:holds s.G c'
     ·rw[if_pos (u.1 hh)];refine⟨v,Yy j ho hr hh hv k r m,?_⟩;rw[Eo,hd];exact Pz r m l _ s' _ (hr.put d hfree.1 hfree.2 ⟨λ_=>rfl,λh=>(h hh).elim⟩) h g f hk
     rw[u.2 hh,if_neg (by simp),Eo,hd];exact Pz r m l _ s' _ (hr.put d hfree.1 hfree.2 ⟨λh=>(hh h).elim,λ_=>rfl⟩) h g f hk
    cases hs
   cases hs
theorem I5 {Q b:Act->Prop}:∀(l:List Oper) (a:Act),(∀a,Q a->b a)->wpQuiet P ops C Q l a->wpQuiet P ops C b l a
 | [],a,h,hh=>h a hh
 | o::l,a,h,hh=>by
  unfold wpQuiet at hh ⊢
  split
  ·rename_i hw
   rw[if_pos hw]at hh;exact Oper.quiet_mono (λd c=>I5 l d h c) hh
  rename_i hw
  rw[if_neg hw]at hh;exact I5 l _ h hh
theorem Js {Q:Exit->Act->World->Prop}:∀(l:List Nat) (a:Act) (w:World),(∀i∈l,i<ops.size)->C w->wpQuiet P ops C (λq=>∀w',C w'->Q .normal q w') (l.map (ops.getD · default)) a->wpOps P ops Q l a w
 | [],a,w,_,hw,h=>h w hw
 | i::l,a,w,hi,hw,h=>by
  have d:=hi i (by simp);have ho:ops[i]?=some (ops.getD i default):=by rw[Array.getD_eq_getD_getElem?,Array.getElem?_eq_getElem d];rfl
  rw[map_cons]at h;generalize ops.getD i default=o at h ho;unfold wpQuiet at h;by_cases hwt:Region.wanted o (yielded ops a.tmps)=true
  ·rw[if_pos hwt]at h;obtain⟨v,p,h2⟩:=h;refine GC ho hwt ?_;have c:=p w hw;unfold Oper.quietAt at c;unfold Oper.wp;generalize (execOp a.eval o).run P w=r at *
   cases r with
   | ok x w'=>
    cases x with
    | value u=>obtain⟨rfl,rfl⟩:=c;exact Js l _ _ (λj b=>hi j (by simp[b])) hw h2
    | skip=>obtain⟨rfl,rfl⟩:=c;exact Js l _ _ (λj b=>hi j (by simp[b])) hw h2
    | enter f args=>
     obtain⟨rfl,n⟩:=c;refine n.mono λe g k=>?_;obtain⟨rfl,m⟩:=k;exact Js l _ _ (λj b=>hi j (by simp[b])) m h2
    | _=>exact c.elim
   | _=>exact c.elim
  rw[if_neg hwt]at h;exact Su ho (by simpa using hwt) (Js l _ _ (λj b=>hi j (by simp[b])) hw h)
theorem mE (ops:Array Oper):(List.range ops.size).map (ops.getD · default)=ops.toList:=by
 refine ext_getElem? λi=>?_;rw[getElem?_map,Jr];by_cases h:i<ops.size
 ·simp[h,Array.getD_eq_getD_getElem?]
 simp[h]
variable {f:FuncId} {R:Ending->World->Prop}
theorem gf {w w':World} {e:Ax} (h:e.good w) (hb:Below (U w) w w'):e.good w':=by
 have a:=hb.block e.id h.1;refine⟨Nat.lt_of_lt_of_le h.1 hb.size,?_⟩;have h2:=h.2
 split at h2
 ·rename_i ho;rw[if_pos ho,a];exact h2
 rename_i ho
 rw[if_neg ho];intro j v hv;rw[World.cell?_of_block (w:=w) a];exact h2 j v hv
theorem TL {G E:Nat->Value} {cx:List (Tmp×Cx)} (hr:NS G cx E):∀(l:List (Nat×Value)),l.map (λp=>(G p.1,Ho cx p.1))=l.map (λp=>(p.2,[]))->l.map (λp=>E p.1)=l.map (·.2)
 | [],_=>rfl
 | p::l,h=>by simp only[map_cons,List.cons.injEq,Prod.mk.injEq]at h ⊢;refine⟨?_,TL hr l h.2⟩;rw[(hr p.1).1 (by rw[h.1.2];exact λq a=>(by cases a))];exact h.1.1
def Da:List Item->Option (Array Oper)
 | .code (.region _ ops _)::_=>some ops
 | _=>none
theorem oW {E:Nat->Value} {w:World} {todo:List Item} (ops:Array Oper) (ξ:Jh) (l:List (Nat×Value)) (ht:Da todo=some ops) (v:Region.lexB .any ops=true) (hm:P.follows .mixedOrders=true)
  (u:∀e∈ξ.mem,e.good w) (t:∀sp∈ξ.specs,F1 P n (Below (U w) w) ops sp)
  (q:∀X,(Gp P n ops ξ X (List.range ops.size) ⟨E,[]⟩).map Prod.fst=(Gp P n ops ξ X (List.range ops.size) ⟨E,[]⟩).map Prod.snd)
  (hl:(Lk P n ops ξ (List.range ops.size) ⟨E,[]⟩).map (λs=>l.map (λp=>(s.G p.1,Ho s.cx p.1)))=some (l.map (λp=>(p.2,[]))))
  (j:List Nat) (b:Ll P n ops ξ (List.range ops.size) ⟨E,[]⟩=j) (hz:∀z∈j,(z:Int)<=IntKind.i64.max)
  (r:∀w' o,Below (U w) w w'->At P f R (AO todo) (Fr n (BN o l)) w'):At P f R todo (Fr n E) w:=by
 cases hrun:Lk P n ops ξ (List.range ops.size) ⟨E,[]⟩with
 | none=>rw[hrun]at hl;cases hl
 | some s'=>
  rw[hrun]at hl;have c:=Option.some.inj hl;have m:wpQuiet P ops (Below (U w) w) (λd=>∀w',Below (U w) w w'->IM P f R (AO todo) d w') ((List.range ops.size).map (ops.getD · default)) (Fr n E):=by refine Pz (C:=Below (U w) w) (λw' a e he=>gf (u e he) a) t _ _ _ E (.start E) hrun (λX=>Yi (q X)) (by rw[b];exact hz) λo hr w' a=>?_;exact(HE l (TL hr l c) λg=>r w' g a).mid
  unfold Da at ht
  split at ht
  ·rename_i id ops' dr k
   obtain rfl:=Option.some.inj ht
   cases dr with
   | true=>
    refine mW (wp_region_quiet (C:=Below (U w) w) hm v (Below.refl _ _).drew ?_);rw[<-mE];exact I5 _ _ (λd h w' a=>⟨rfl,h w' a⟩) m
   | false=>
    refine EP (todo':=.inRegion ops' (List.range ops'.size)::k) (by simp) (λ_=>step_region) ?_;refine Js (C:=Below (U w) w) _ _ _ (λi hi=>by simpa using hi) (Below.refl _ _) ?_;exact I5 _ _ (λd h w' a=>⟨rfl,h w' a⟩) m
  cases ht
theorem Iu {E:Nat->Value} {w:World} {todo:List Item} (ops:Array Oper) (ξ:Jh) (l:List (Nat×Value)) (ht:Da todo=some ops) (h:Region.lexB .any ops=true) (hm:P.follows .mixedOrders=true)
  (g:∀e∈ξ.mem,e.good w) (d:∀sp∈ξ.specs,F1 P n (Below (U w) w) ops sp)
  (b:∀X,(Gp P n ops ξ X (List.range ops.size) ⟨E,[]⟩).map Prod.fst=(Gp P n ops ξ X (List.range ops.size) ⟨E,[]⟩).map Prod.snd)
  (hl:(Lk P n ops ξ (List.range ops.size) ⟨E,[]⟩).map (λs=>l.map (λp=>(s.G p.1,Ho s.cx p.1)))=some (l.map (λp=>(p.2,[]))))
  (c:∀w' E',Below (U w) w w'->At P f R (AO todo) (Fr n (BN E' l)) w') (a:Ll P n ops ξ (List.range ops.size) ⟨E,[]⟩=[]:=by kernel_rfl):At P f R todo (Fr n E) w:=
 oW ops ξ l ht h hm g d b hl [] a (λz hz=>(by cases hz)) c
def YI:Oper->Option (FuncId×List Operand)
 | ⟨_,.call ⟨.value (.func g),xs,_⟩,_,_,_,_⟩=>some (g,xs.toList)
 | _=>none
theorem mv {o:Oper} {g:FuncId} {xs:List Operand} {args:List Value} {E:Nat->Value} {w:World} (ho:YI o=some (g,xs)) (hg:Dr P g=true) (ha:xs.map (BK n E)=args):(execOp (BK n E) o).run P w=.ok (.enter g args.toArray) w:=by
 unfold YI at ho
 split at ho
 ·rename_i d g' xs' ats ty pos af gd
  simp only[Option.some.injEq,Prod.mk.injEq]at ho;obtain⟨rfl,rfl⟩:=ho;rw[<-Cf (h:=hg) args.toArray w,<-ha];unfold execOp resolve;have a:xs'.toList.map (BK n E)=(xs'.map (BK n E)).toList:=by simp
  simp only[a,Array.toArray_toList];show((Deferred.ofValue (.func (.func g') #[] #[]) (xs'.map (BK n E))).bind λd=>invoke d.target d.args).run P w=_;unfold Deferred.ofValue;simp[invoke,pure,Sem.bind]
 cases ho
theorem AU {a:Sp} (g:FuncId) (xs:List Operand) (args:List Value) (ha:∀E,xs.map (TD a.l (BK n E))=args) (h:a.cond=true->∀w,C w->Calls P g args.toArray w λe w'=>e=.returned a.v/\C w') (ho:YI (ops.getD a.i default)=some (g,xs):=by kernel_rfl) (hg:Dr P g=true:=by kernel_rfl):F1 P n C ops a:=by
 intro hc E c w b;have e:xs.map (BK n E)=args:=by have:=ha E;rw[XK c]at this;exact this
 rw[mv (w:=w) ho hg e];exact⟨rfl,h hc w b⟩
theorem BR {a:Sp} (h:a.cond=true->∀E w,C w->(execOp (TD a.l (BK n E)) (ops.getD a.i default)).run P w=.ok (.value a.v) w):F1 P n C ops a:=by intro hc E c w b;have:=h hc E w b;rw[XK c]at this;rw[this];exact⟨rfl,rfl⟩
theorem AR {g:FuncId} {args:Array Value} {v:Value} {w0 w:World} (hb:Below (U w0) w0 w) (h:Calls P g args w λe w'=>e=.returned v/\Below (U w) w w'):Calls P g args w λe w'=>e=.returned v/\Below (U w0) w0 w':=
 h.mono λ_ _ ⟨a,h2⟩=>⟨a,hb.trans (h2.mono hb.size)⟩
end
theorem Jj (c:UInt8) (w:World) :
  Calls Tryz.prog 113 #[.int .u8 c.toNat] w λe w'=>e=.returned (I (Tk.isDig c))/\w=w':=by
 go_enter Tryz.func113,Tryz.ntmps113
 go_wp2
 all_goals
  go_ret
  refine⟨Io ?_,rfl⟩;unfold Tk.isDig;rw[Bool.eq_iff_iff];simp;omega
theorem HW (c:UInt8) (w:World) :
  Calls Tryz.prog 112 #[.int .u8 c.toNat] w λe w'=>e=.returned (I (Tk.isLow c))/\w=w':=by
 go_enter Tryz.func112,Tryz.ntmps112
 go_wp2
 all_goals
  go_ret
  refine⟨Io ?_,rfl⟩;unfold Tk.isLow;rw[Bool.eq_iff_iff];simp;omega
attribute [local go_sem] oT
theorem Xe (c:UInt8):Tk.isWord c=true↔(Tk.isLow c=true\/(Tk.isLow c=false/\Tk.isDig c=true)\/(Tk.isLow c=false/\Tk.isDig c=false/\c.toNat=95)):=by
 unfold Tk.isWord
 cases Tk.isLow c<;>cases Tk.isDig c<;>simp
theorem Xd {c:UInt8} (h:Tk.isWord c=false):Tk.isLow c=false/\Tk.isDig c=false/\((c.toNat:Int)==95)=false:=by
 unfold Tk.isWord at h
 cases hl:Tk.isLow c<;>cases hd:Tk.isDig c<;>simp_all
 omega
set_option maxHeartbeats 400000 in
theorem L5 (l:List UInt8) (w:World) (hs:l.length<=maxLen) :
  Calls Tryz.prog 72 #[.string ⟨l.toArray⟩] w λe w'=>e=.returned (J (Tk.wordLen l))/\w=w':=by
 unfold maxLen at hs
 cases l with
 | nil=>
  go_enter Tryz.func72,Tryz.ntmps72
  go_wp2
  go_ret
  exact⟨rfl,rfl⟩
 | cons c r=>
  by_cases hc:Tk.isLow c=true
  ·have HC:=Lib.hid hc;simp only[length_cons]at hs
   go_enter Tryz.func72,Tryz.ntmps72
   go_wp2_with ((go_at_call 112;refine(HW _ _).mono ?_;rintro e w' ⟨rfl,rfl⟩))
   clear hc
   go_loop [3] (λn=>∃k:Nat,k<=r.length/\n=J (k+1)/\Hid (∀j (h:j<r.length),j<k->Tk.isWord r[j]=true)) (λi=>r.length+1-(intOf i).toNat)
   case atStart=>exact⟨0,Nat.zero_le _,rfl,λ_ _ h=>by omega⟩
   case round=>
    obtain⟨k,hk,rfl,HA⟩:=hrel;by_cases hlt:k<r.length
    ·by_cases hd:Tk.isWord r[k]=true
     ·have HD:=Lib.hid hd;rcases(Xe _).1 hd with h1 | ⟨h1,h2⟩ | ⟨h1,h2,h3⟩
      all_goals clear hd
      ·go_wp2_with ((first | (go_at_call 112;refine(HW _ _).mono ?_;rintro e w' ⟨rfl,rfl⟩) | (go_at_call 113;refine(Jj _ _).mono ?_;rintro e w' ⟨rfl,rfl⟩)))
       go_round
       case rel=>exact⟨k+1,by omega,by go_num,λj h hj=>if e:j=k then by subst e;exact HD.out else HA.out j h (by omega)⟩
       case measure=>simp[intOf];omega
      ·go_wp2_with ((first | (go_at_call 112;refine(HW _ _).mono ?_;rintro e w' ⟨rfl,rfl⟩) | (go_at_call 113;refine(Jj _ _).mono ?_;rintro e w' ⟨rfl,rfl⟩)))
       go_round
       case rel=>exact⟨k+1,by omega,by go_num,λj h hj=>if e:j=k then by subst e;exact HD.out else HA.out j h (by omega)⟩
       case measure=>simp[intOf];omega
      have h4:((r[k].toNat:Int)==95)=true:=by simp;omega
      clear h3
      go_wp2_with ((first | (go_at_call 112;refine(HW _ _).mono ?_;rintro e w' ⟨rfl,rfl⟩) | (go_at_call 113;refine(Jj _ _).mono ?_;rintro e w' ⟨rfl,rfl⟩)))
      go_round
      case rel=>exact⟨k+1,by omega,by go_num,λj h hj=>if e:j=k then by subst e;exact HD.out else HA.out j h (by omega)⟩
      case measure=>simp[intOf];omega
     have hd:Tk.isWord r[k]=false:=by simpa using hd
     have HD:=Lib.hid hd;obtain⟨h1,h2,h4⟩:=Xd hd;clear hd
     go_wp2_with ((first | (go_at_call 112;refine(HW _ _).mono ?_;rintro e w' ⟨rfl,rfl⟩) | (go_at_call 113;refine(Jj _ _).mono ?_;rintro e w' ⟨rfl,rfl⟩)))
     go_ret
     exact⟨Ey (by simp only[Tk.wordLen,HC.out,if_true];rw[Tk.lead_eq _ _ k hk HA.out (λ_=>HD.out)];omega),rfl⟩
    go_wp2_with fail
    go_ret
    exact⟨Ey (by simp only[Tk.wordLen,HC.out,if_true];rw[Tk.lead_eq _ _ k hk HA.out (λh=>absurd h hlt)];omega),rfl⟩
  have hc:Tk.isLow c=false:=by simpa using hc
  have HC:=Lib.hid hc
  go_enter Tryz.func72,Tryz.ntmps72
  go_wp2_with ((go_at_call 112;refine(HW _ _).mono ?_;rintro e w' ⟨rfl,rfl⟩))
  go_ret
  exact⟨Ey (by simp[Tk.wordLen,HC.out]),rfl⟩
theorem CG {l k:List UInt8} (h:Tk.isKey l=false) (a:k∈Tk.keywords):(l==k)=false:=by
 rw[beq_eq_false_iff_ne];rintro rfl;unfold Tk.isKey at h;rw[contains_iff_mem.2 a]at h
 cases h
set_option maxHeartbeats 2000000 in
theorem NO (l:List UInt8) (w:World) :
  Calls Tryz.prog 73 #[.string ⟨l.toArray⟩] w λe w'=>e=.returned (I (Tk.isKey l))/\w=w':=by
 by_cases hk:Tk.isKey l=true
 ·have hm:l∈Tk.keywords:=contains_iff_mem.1 hk;rw[hk];clear hk;simp only[Tk.keywords,mem_cons,not_mem_nil,or_false]at hm;rcases hm with rfl | rfl | rfl | rfl | rfl | rfl | rfl | rfl | rfl | rfl | rfl | rfl | rfl | rfl | rfl | rfl | rfl | rfl | rfl | rfl | rfl | rfl | rfl | rfl | rfl | rfl | rfl | rfl | rfl | rfl | rfl | rfl | rfl | rfl
  all_goals
   go_enter Tryz.func73,Tryz.ntmps73
   go_wp2
   go_ret
   exact⟨rfl,rfl⟩
 have hk:Tk.isKey l=false:=by simpa using hk
 rw[hk];have k0:=CG (k:=[97,103,114,101,101,109,101,110,116]) hk (by decide);have k1:=CG (k:=[105,110,112,117,116]) hk (by decide);have k2:=CG (k:=[112,97,115,116]) hk (by decide);have k3:=CG (k:=[115,99,97,108,101]) hk (by decide);have k4:=CG (k:=[114,117,108,101]) hk (by decide);have k5:=CG (k:=[112,97,121]) hk (by decide);have k6:=CG (k:=[102,114,111,109]) hk (by decide);have k7:=CG (k:=[114,111,117,110,100,101,100]) hk (by decide);have k8:=CG (k:=[116,111]) hk (by decide);have k9:=CG (k:=[105,102]) hk (by decide);have k10:=CG (k:=[116,104,101,110]) hk (by decide);have k11:=CG (k:=[101,108,115,101]) hk (by decide);have k12:=CG (k:=[97,110,100]) hk (by decide);have k13:=CG (k:=[111,114]) hk (by decide);have k14:=CG (k:=[110,111,116]) hk (by decide);have k15:=CG (k:=[116,114,117,101]) hk (by decide);have k16:=CG (k:=[102,97,108,115,101]) hk (by decide);have k17:=CG (k:=[109,105,110]) hk (by decide);have k18:=CG (k:=[109,97,120]) hk (by decide);have k19:=CG (k:=[114,111,117,110,100]) hk (by decide);have k20:=CG (k:=[97,118,101,114,97,103,101]) hk (by decide);have k21:=CG (k:=[108,97,115,116]) hk (by decide);have k22:=CG (k:=[109,111,110,101,121]) hk (by decide);have k23:=CG (k:=[104,111,117,114,115]) hk (by decide);have k24:=CG (k:=[100,97,121,115]) hk (by decide);have k25:=CG (k:=[110,117,109,98,101,114]) hk (by decide);have k26:=CG (k:=[98,111,111,108]) hk (by decide);have k27:=CG (k:=[100,111,119,110]) hk (by decide);have k28:=CG (k:=[117,112]) hk (by decide);have k29:=CG (k:=[102,108,111,111,114]) hk (by decide);have k30:=CG (k:=[99,101,105,108,105,110,103]) hk (by decide);have k31:=CG (k:=[104,97,108,102,95,117,112]) hk (by decide);have k32:=CG (k:=[104,97,108,102,95,100,111,119,110]) hk (by decide);have k33:=CG (k:=[104,97,108,102,95,101,118,101,110]) hk (by decide);clear hk
 go_enter Tryz.func73,Tryz.ntmps73
 go_wp2
 go_ret
 exact⟨rfl,rfl⟩
set_option maxHeartbeats 1000000 in
theorem Of (a b:Nat) (w:World) (ha:a<=18446744073709551615) (hb:b<=18446744073709551615) :
  Calls Tryz.prog 70 #[.int .u64 a,.int .u64 b] w λe w'=>e=.returned (.int .u64 (Nat.gcd a b))/\∃n,w'=w.drewN n:=by
 generalize hG:Nat.gcd a b=G;have HG:=Lib.hid hG;clear hG
 go_enter Tryz.func70,Tryz.ntmps70
 go_wp2_with fail
 go_loopw [0,1] (λp q wr=>∃x y n:Nat,x<=18446744073709551615/\y<=18446744073709551615/\p=.int .u64 x/\q=.int .u64 y/\Hid (Nat.gcd x y=G)/\wr=w.drewN n) (λ_ q _=>(intOf q).toNat)
 case atStart=>exact⟨a,b,0,ha,hb,rfl,rfl,HG,rfl⟩
 case round=>
  obtain⟨x,y,n,hx,hy,rfl,rfl,HX,rfl⟩:=hrel;by_cases hy0:y=0
  ·subst hy0
   go_wp2_with fail
   go_ret
   exact⟨Ey (by rw[<-HX.out];simp),n,rfl⟩
  have g1:((y:Int) != 0)=true:=by simp;omega
  have g2:((y:Int)==0)=false:=by simp;omega
  have hyp:1<=y:=by omega
  have hm:=Nat.mod_lt x hyp;have HN:Hid (Nat.gcd y (x%y)=G):=by show _=_;rw[<-HX.out,Nat.gcd_comm x y,Nat.gcd_rec y x,Nat.gcd_comm]
  clear hy0
  go_wp2_with fail
  go_quiet (fail)
  go_wp2_with fail
  go_roundw
  case rel=>exact⟨y,x%y,_,by omega,by omega,rfl,by go_num,HN,World.drewN_drewN _ _ _⟩
  case measure=>simp[intOf];omega
theorem Tl (n:Int) (w:World) (b:-4000000000000000000<=n) (a:n<=4000000000000000000) :
  Calls Tryz.prog 71 #[J n] w λe w'=>e=.returned (.int .u64 (n.natAbs:Nat))/\w=w':=by
 by_cases hn:n<0
 ·go_enter Tryz.func71,Tryz.ntmps71
  go_wp2_with fail
  go_ret
  refine⟨Ey ?_,rfl⟩;simp only[IntKind.wrap_u64];omega
 go_enter Tryz.func71,Tryz.ntmps71
 go_wp2_with fail
 go_ret
 exact⟨Ey (by first | omega | (simp only[IntKind.wrap_u64];omega)),rfl⟩
def AV (n d:Int):Bool:=decide (1<=d/\d<=1000000/\-1000000000000<=n/\n<=1000000000000/\Nat.gcd n.natAbs d.natAbs=1)
set_option maxHeartbeats 1000000 in
theorem Bw (n d:Int) (w:World) :
  Calls Tryz.prog 36 #[.agg #[J n,J d]] w λe w'=>e=.returned (I (AV n d))/\Below (U w) w w':=by
 by_cases h1:d<1
 ·have HF:Hid (AV n d=false):=decide_eq_false (by omega)
  go_enter Tryz.func36,Tryz.ntmps36
  go_wp2_with fail
  go_ret
  exact⟨Io HF.out.symm,(Below.refl _ _).alloc (Nat.le_refl _) _⟩
 by_cases h2:1000000<d
 ·have HF:Hid (AV n d=false):=decide_eq_false (by omega)
  go_enter Tryz.func36,Tryz.ntmps36
  go_wp2_with fail
  go_ret
  exact⟨Io HF.out.symm,(Below.refl _ _).alloc (Nat.le_refl _) _⟩
 by_cases h3:n < -1000000000000
 ·have HF:Hid (AV n d=false):=decide_eq_false (by omega)
  go_enter Tryz.func36,Tryz.ntmps36
  go_wp2_with fail
  go_ret
  exact⟨Io HF.out.symm,(Below.refl _ _).alloc (Nat.le_refl _) _⟩
 by_cases h4:1000000000000<n
 ·have HF:Hid (AV n d=false):=decide_eq_false (by omega)
  go_enter Tryz.func36,Tryz.ntmps36
  go_wp2_with fail
  go_ret
  exact⟨Io HF.out.symm,(Below.refl _ _).alloc (Nat.le_refl _) _⟩
 obtain⟨k,rfl⟩:=Int.eq_ofNat_of_zero_le (show 0<=d by omega);have HF:Hid (AV n k=(((Nat.gcd n.natAbs k:Nat):Int)==1)):=by show _=_;unfold AV;rw[Bool.eq_iff_iff];simp;omega
 go_enter Tryz.func36,Tryz.ntmps36
 go_wp2_with fail
 go_quiet ((first | (go_at_call 71;exact RJ (Tl _ _ (by omega) (by omega))) | (go_at_call 70;exact Calls.quiet_of (Of _ _ _ (by omega) (by omega)))))
 go_wp2_with fail
 go_ret
 exact⟨Io HF.out.symm,GR ((Below.refl _ _).alloc (Nat.le_refl _) _) _⟩
theorem Br.drewN {b:Nat} {ns:List Int} {w:World} (h:Br b ns w) (n:Nat):Br b ns (w.drewN n):=h.below (GR (Below.refl _ _) n)
theorem gE {w:World} {b i:Nat} {cs:Array Value} {t:TypeId} {fr:Nat×Nat} (h:w.heap[b]?=some (.cells cs t fr)) (x:Value):(w.setCell ⟨b,i,none⟩ x).heap[b]?=some (.cells (cs.setIfInBounds i x) t fr):=by simp[World.setCell,Array.getElem?_modify,h]
set_option maxHeartbeats 1000000 in
set_option maxRecDepth 100000 in
theorem Be (b:Nat) (ns:List Int) (n:Int) (w:World) (h:Br b ns w) (hn0:-9223372036854775808<=n) (hn:n<=2000000000000) :
  Calls Tryz.prog 22 #[Z b,J n] w (Bl b ns n w):=by
 have HT:=Lib.hid h;have hlt:=h.lt;obtain⟨v,k,hk,hb,hi⟩:=h;obtain⟨A,c,rfl,hm,hx,hc⟩:=hi;have HB:=Lib.hid hb;have c0:=Lib.cell_of_heap hb 0;have c1:=Lib.cell_of_heap hb 1;simp only[getElem?_toArray,getElem?_cons_zero,getElem?_cons_succ]at c0 c1;have f1:=Lib.frozen_of_heap hb 1;unfold maxLen at hm;clear hb;by_cases h1:n<1
 ·clear hc hx
  go_enter Tryz.func22,Tryz.ntmps22
  go_wp2_with fail
  go_quiet (fail)
  go_wp2_with fail
  go_ret
  exact⟨0,.inl rfl,rfl,HT.out.drewN _,(CU.refl _ _).drewN _⟩
 have hd1:decide (n<1)=false:=decide_eq_false h1;by_cases h2:ns.length<=k
 ·have hd2:decide (ns.length<=k)=true:=decide_eq_true h2;clear hc hx
  go_enter Tryz.func22,Tryz.ntmps22
  go_wp2_with fail
  go_quiet (fail)
  go_wp2_with fail
  go_ret
  exact⟨0,.inl rfl,rfl,HT.out.drewN _,(CU.refl _ _).drewN _⟩
 have hd2:decide (ns.length<=k)=false:=decide_eq_false h2;obtain⟨g,off,rfl,hg,hcell⟩:=hc (by omega);have hck:=hcell k (by omega);obtain⟨x,hx0⟩:∃x,ns[k]=x:=⟨_,rfl⟩;have hxb:=hx ns[k] (getElem_mem _);rw[hx0]at hck hxb;obtain⟨hxl,hxu⟩:=hxb;clear hx hx0 hc hcell
 go_enter Tryz.func22,Tryz.ntmps22
 go_wp2_with fail
 go_quiet (fail)
 go_wp2_with fail
 have hb1:((w.drewN nq).setCell ⟨b,1,none⟩ (J ((k:Int)+1))).heap[b]?=some (.cells #[V (some ⟨g,off,none⟩) ns.length c,J ((k:Int)+1)] 61 (0,0)):=gE (w:=w.drewN nq) (i:=1) HB.out _;have hck1:((w.drewN nq).setCell ⟨b,1,none⟩ (J ((k:Int)+1))).cell? ⟨g,off+k,none⟩=some (J x):=by rw[World.cell?_of_block (w:=w) (Below.heap_setCell (w.drewN nq) _ _ _ (by simp;omega))];exact hck
 have hB1:CU b w ((w.drewN nq).setCell ⟨b,1,none⟩ (J ((k:Int)+1))):=((CU.refl b w).drewN nq).setCell rfl _;clear c0 c1 f1 hck hd1 hd2;generalize (w.drewN nq).setCell ⟨b,1,none⟩ (J ((k:Int)+1))=w1 at *
 have HT1:Hid (Br b ns w1):=by
  obtain⟨v,k',hk',hb',hi⟩:=HT.out;refine⟨_,k+1,by omega,hb1,?_⟩;have hv:v=V (some ⟨g,off,none⟩) ns.length c:=by have:=HB.out;rw[hb']at this;simp at this;exact this.1
  rw[<-hv];exact hi.keep (λg hg=>hB1.block g (by omega) (by omega))
 have c0:=Lib.cell_of_heap hb1 0;have c1:=Lib.cell_of_heap hb1 1;simp only[getElem?_toArray,getElem?_cons_zero,getElem?_cons_succ]at c0 c1;clear hb1 HB HT;have hkn:(k:Int)<ns.length:=by omega
 go_quiet ((go_at_call 41;exact RJ (xl _ _ _ (by omega) (by omega) (by omega) (by omega))))
 go_wp2_with fail
 go_ret
 have hm0:=Int.emod_nonneg x (show n≠0 by omega);have hm1:=Int.emod_lt_of_pos x (show 0<n by omega);obtain⟨r,hr⟩:=Int.eq_ofNat_of_zero_le hm0;exact⟨r,.inr (by omega),Ey hr,HT1.out.drewN _,hB1.drewN _⟩
theorem Yd (v:Value) (ns:List Int) (w:World) (h:Hz w (U w) v ns) :
  Calls Tryz.prog 4 #[v] w λe w'=>e=.returned (Z (U w))/\Br (U w) ns w'/\(U w)<(U w')/\Below (U w) w w':=by
 have a:=Lib.hid h;obtain⟨A,c,rfl,_⟩:=h
 go_enter Tryz.func4,Tryz.ntmps4
 go_wp2_with fail
 go_ret
 refine⟨rfl,⟨_,0,Nat.zero_le _,heap_alloc_new w _,a.out.keep (λg hg=>Below.heap_alloc _ _ _ hg)⟩,by simp,(Below.refl _ _).alloc (Nat.le_refl _) _⟩
set_option maxHeartbeats 1000000 in
theorem M4 (a b:Nat) (w:World) (ha:a<=4000000000000000000) (hb:b<=4000000000000000000) :
  Calls Tryz.prog 70 #[.int .u64 a,.int .u64 b] w λe w'=>e=.returned (.int .u64 (Nat.gcd a b))/\∃n,w'=w.drewN n:=by
 generalize hG:Nat.gcd a b=G;have HG:=Lib.hid hG;clear hG
 go_enter Tryz.func70,Tryz.ntmps70
 go_wp2_with fail
 go_loopw [0,1] (λp q wr=>∃x y n:Nat,x<=4000000000000000000/\y<=4000000000000000000/\p=.int .u64 x/\q=.int .u64 y/\Hid (Nat.gcd x y=G)/\wr=w.drewN n) (λ_ q _=>(intOf q).toNat)
 case atStart=>exact⟨a,b,0,ha,hb,rfl,rfl,HG,rfl⟩
 case round=>
  obtain⟨x,y,n,hx,hy,rfl,rfl,HX,rfl⟩:=hrel;by_cases hy0:y=0
  ·subst hy0
   go_wp2_with fail
   go_ret
   exact⟨Ey (by rw[<-HX.out];simp),n,rfl⟩
  have g1:((y:Int) != 0)=true:=by simp;omega
  have g2:((y:Int)==0)=false:=by simp;omega
  have hyp:1<=y:=by omega
  have hm:=Nat.mod_lt x hyp;have HN:Hid (Nat.gcd y (x%y)=G):=by show _=_;rw[<-HX.out,Nat.gcd_comm x y,Nat.gcd_rec y x,Nat.gcd_comm]
  clear hy0
  go_wp2_with fail
  go_quiet (fail)
  go_wp2_with fail
  go_roundw
  case rel=>exact⟨y,x%y,_,by omega,by omega,rfl,by go_num,HN,World.drewN_drewN _ _ _⟩
  case measure=>simp[intOf];omega
def KE (neg:Bool) (n d:Nat):Int×Int×Int:=
 match Tk.newR n d with
 | none=>(0,0,4)
 | some (a,b)=>(if neg=true then -(a:Int)else a,b,0)
def RI (x:Int×Int×Int):Ending:=.returned (.tuple #[.agg #[J x.1,J x.2.1],J x.2.2])
theorem ME (n:Int) (w:World) (b:-4000000000000000000<=n) (a:n<=4000000000000000000) :
  Calls Tryz.prog 71 #[J n] w λe w'=>e=.returned (.int .u64 (n.natAbs:Nat))/\w=w':=by
 by_cases hn:n<0
 ·go_enter Tryz.func71,Tryz.ntmps71
  go_wp2_with fail
  go_ret
  refine⟨Ey ?_,rfl⟩;simp only[IntKind.wrap_u64];omega
 go_enter Tryz.func71,Tryz.ntmps71
 go_wp2_with fail
 go_ret
 exact⟨Ey (by first | omega | (simp only[IntKind.wrap_u64];omega)),rfl⟩
theorem P0 {neg:Bool} {n d G a b:Nat} (h:Hid (Nat.gcd n d=G)) (g:n/G=a) (h2:d/G=b) (e:a<=1000000000000) (c:b<=1000000):KE neg n d=(if neg=true then -(a:Int)else a,(b:Int),0):=by have f:=h.out;unfold KE Tk.newR;rw[f,g,h2,if_neg (by omega)]
theorem Xl {neg:Bool} {n d G b a:Nat} (g:Hid (Nat.gcd n d=G)) (f:n/G=b) (h2:d/G=a) (c:1000000000000<b\/1000000<a):KE neg n d=(0,0,4):=by have e:=g.out;unfold KE Tk.newR;rw[e,f,h2,if_pos c]
set_option maxHeartbeats 1000000 in
theorem xr (neg:Bool) (n d:Nat) (w:World) (hn:n<=4000000000000000000) (hd0:1<=d) (hd:d<=4000000000000000000) :
  Calls Tryz.prog 111 #[I neg,.int .u64 n,.int .u64 d] w λe w'=>e=RI (KE neg n d)/\Below (U w) w w':=by
 have hg0:1<=Nat.gcd n d:=Nat.gcd_pos_of_pos_right _ hd0;generalize hG:Nat.gcd n d=G at *
 have HG:=Lib.hid hG;clear hG;obtain⟨q1,h1⟩:∃q,n/G=q:=⟨_,rfl⟩;obtain⟨q2,h2⟩:∃q,d/G=q:=⟨_,rfl⟩;have b1:q1<=4000000000000000000:=by rw[<-h1];exact Nat.le_trans (Nat.div_le_self _ _) hn
 have b2:q2<=4000000000000000000:=by rw[<-h2];exact Nat.le_trans (Nat.div_le_self _ _) hd
 have e1:IntKind.u64.wrap ((n:Int)/(G:Int))=(q1:Int):=by rw[<-Int.natCast_ediv,h1];exact IntWalk.u64_in _ (by omega)
 have e2:IntKind.u64.wrap ((d:Int)/(G:Int))=(q2:Int):=by rw[<-Int.natCast_ediv,h2];exact IntWalk.u64_in _ (by omega)
 by_cases hA:1000000000000<q1\/1000000<q2
 ·have HF:Hid (KE neg n d=(0,0,4)):=Xl HG h1 h2 hA;have HE1:=Lib.hid e1;have HE2:=Lib.hid e2;have HA:1000000000000<q1\/(¬ 1000000000000<q1/\1000000<q2):=by omega
  clear h1 h2 e1 e2 hA;rcases HA with hA | ⟨hA1,hA2⟩
  ·go_enter Tryz.func111,Tryz.ntmps111
   go_wp2_with fail
   refine(M4 _ _ _ hn hd).mono ?_;rintro e w' ⟨rfl,nq,rfl⟩;rw[HG.out];have e1:=HE1.out;have e2:=HE2.out
   go_wp2_with fail
   go_quiet (fail)
   clear e1 e2
   go_wp2_with fail
   refine bodyPost_ret (v:=.tuple #[.agg #[J 0,J 0],J 4]) (by simp[results,Tryz.results111,go_sem]) rfl ⟨by rw[HF.out];rfl,?_⟩;exact((GR ((Below.refl _ _).alloc (Nat.le_refl _) _) _).setCell (by simp) _).setCell (by simp) _
  go_enter Tryz.func111,Tryz.ntmps111
  go_wp2_with fail
  refine(M4 _ _ _ hn hd).mono ?_;rintro e w' ⟨rfl,nq,rfl⟩;rw[HG.out];have e1:=HE1.out;have e2:=HE2.out
  go_wp2_with fail
  go_quiet (fail)
  clear e1 e2
  go_wp2_with fail
  refine bodyPost_ret (v:=.tuple #[.agg #[J 0,J 0],J 4]) (by simp[results,Tryz.results111,go_sem]) rfl ⟨by rw[HF.out];rfl,?_⟩;exact((GR ((Below.refl _ _).alloc (Nat.le_refl _) _) _).setCell (by simp) _).setCell (by simp) _
 have HF:Hid (KE neg n d=(if neg=true then -(q1:Int)else q1,(q2:Int),0)):=P0 HG h1 h2 (by omega) (by omega);have HE1:=Lib.hid e1;have HE2:=Lib.hid e2;have hA1:q1<=1000000000000:=by omega
 have hA2:q2<=1000000:=by omega
 clear h1 h2 e1 e2 hA
 cases neg
 ·go_enter Tryz.func111,Tryz.ntmps111
  go_wp2_with fail
  refine(M4 _ _ _ hn hd).mono ?_;rintro e w' ⟨rfl,nq,rfl⟩;rw[HG.out];have e1:=HE1.out;have e2:=HE2.out
  go_wp2_with fail
  go_quiet (fail)
  clear e1 e2
  go_wp2_with fail
  refine bodyPost_ret (v:=.tuple #[.agg #[J q1,J q2],J 0]) (by simp[results,Tryz.results111,go_sem]) rfl ⟨by rw[HF.out];rfl,?_⟩;exact((GR ((Below.refl _ _).alloc (Nat.le_refl _) _) _).setCell (by simp) _).setCell (by simp) _
 go_enter Tryz.func111,Tryz.ntmps111
 go_wp2_with fail
 refine(M4 _ _ _ hn hd).mono ?_;rintro e w' ⟨rfl,nq,rfl⟩;rw[HG.out];have e1:=HE1.out;have e2:=HE2.out
 go_wp2_with fail
 go_quiet (fail)
 clear e1 e2
 go_wp2_with fail
 refine bodyPost_ret (v:=.tuple #[.agg #[J (-(q1:Int)),J q2],J 0]) (by simp[results,Tryz.results111,go_sem]) rfl ⟨by rw[HF.out];rfl,?_⟩;exact((GR ((Below.refl _ _).alloc (Nat.le_refl _) _) _).setCell (by simp) _).setCell (by simp) _
def D1 (n d:Int):Int×Int×Int:=if d=0 then(0,0,5)else KE (!(decide (n<0)==decide (d<0))) n.natAbs d.natAbs
set_option maxHeartbeats 1000000 in
theorem AIN (n d:Int) (w:World) (hn0:-4000000000000000000<=n) (hn:n<=4000000000000000000) (hd0:-4000000000000000000<=d) (hd:d<=4000000000000000000) :
  Calls Tryz.prog 69 #[J n,J d] w λe w'=>e=RI (D1 n d)/\Below (U w) w w':=by
 by_cases h0:d=0
 ·subst h0
  go_enter Tryz.func69,Tryz.ntmps69
  go_wp2_with fail
  refine bodyPost_ret (v:=.tuple #[.agg #[J 0,J 0],J 5]) (by simp[results,Tryz.results69,go_sem]) rfl ⟨rfl,?_⟩;exact(Below.refl _ _).alloc (Nat.le_refl _) _
 have HR:Hid (D1 n d=KE (!(decide (n<0)==decide (d<0))) n.natAbs d.natAbs):=by show _=_;unfold D1;rw[if_neg h0]
 have g0:(d==0)=false:=by simpa using h0
 have hd1:1<=d.natAbs:=by omega
 clear h0
 go_enter Tryz.func69,Tryz.ntmps69
 go_wp2_with fail
 refine(ME n _ hn0 hn).mono ?_;rintro e w' ⟨rfl,rfl⟩
 go_wp2_with fail
 refine(ME d _ hd0 hd).mono ?_;rintro e w' ⟨rfl,rfl⟩
 go_wp2_with fail
 refine(xr _ _ _ _ (by omega) (by omega) (by omega)).mono ?_;rintro e w' ⟨rfl,hb⟩;generalize hx:KE _ _ _=x;obtain⟨x1,x2,x3⟩:=x;have HY:Hid (D1 n d=(x1,x2,x3)):=by show _=_;rw[HR.out,<-hx]
 clear hx HR;simp only[RI];have hc0:w'.cell? ⟨U w,0,none⟩=some (J 0):=by rw[hb.cell (by simp)];simp
 have hc1:w'.cell? ⟨U w,1,none⟩=some (J 0):=by rw[hb.cell (by simp)];simp
 have hf0:w'.frozen? ⟨U w,0,none⟩=false:=by rw[hb.frozen (by simp)];simp
 have hf1:w'.frozen? ⟨U w,1,none⟩=false:=by rw[hb.frozen (by simp)];simp
 go_wp2_with fail
 refine bodyPost_ret (v:=.tuple #[.agg #[J x1,J x2],J x3]) (by simp[results,Tryz.results69,go_sem,hc0,hc1]) rfl ⟨by rw[HY.out];rfl,?_⟩;exact((((Below.refl _ _).alloc (Nat.le_refl _) _).trans (hb.mono (by simp))).setCell (by simp) _).setCell (by simp) _
set_option maxHeartbeats 1000000 in
theorem ND (a b:Nat) (w:World) (ha:a<=4000000000000000000) (hb:b<=4000000000000000000) :
  Calls Tryz.prog 38 #[.int .u64 a,.int .u64 b] w λe w'=>e=.returned (.int .u64 (Nat.gcd a b))/\∃n,w'=w.drewN n:=by
 generalize hG:Nat.gcd a b=G;have HG:=Lib.hid hG;clear hG
 go_enter Tryz.func38,Tryz.ntmps38
 go_wp2_with fail
 go_loopw [0,1] (λp q wr=>∃x y n:Nat,x<=4000000000000000000/\y<=4000000000000000000/\p=.int .u64 x/\q=.int .u64 y/\Hid (Nat.gcd x y=G)/\wr=w.drewN n) (λ_ q _=>(intOf q).toNat)
 case atStart=>exact⟨a,b,0,ha,hb,rfl,rfl,HG,rfl⟩
 case round=>
  obtain⟨x,y,n,hx,hy,rfl,rfl,HX,rfl⟩:=hrel;by_cases hy0:y=0
  ·subst hy0
   go_wp2_with fail
   go_ret
   exact⟨Ey (by rw[<-HX.out];simp),n,rfl⟩
  have g1:((y:Int) != 0)=true:=by simp;omega
  have g2:((y:Int)==0)=false:=by simp;omega
  have hyp:1<=y:=by omega
  have hm:=Nat.mod_lt x hyp;have HN:Hid (Nat.gcd y (x%y)=G):=by show _=_;rw[<-HX.out,Nat.gcd_comm x y,Nat.gcd_rec y x,Nat.gcd_comm]
  clear hy0
  go_wp2_with fail
  go_quiet (fail)
  go_wp2_with fail
  go_roundw
  case rel=>exact⟨y,x%y,_,by omega,by omega,rfl,by go_num,HN,World.drewN_drewN _ _ _⟩
  case measure=>simp[intOf];omega
theorem JU (n:Int) (w:World) (b:-4000000000000000000<=n) (a:n<=4000000000000000000) :
  Calls Tryz.prog 37 #[J n] w λe w'=>e=.returned (.int .u64 (n.natAbs:Nat))/\w=w':=by
 by_cases hn:n<0
 ·go_enter Tryz.func37,Tryz.ntmps37
  go_wp2_with fail
  go_ret
  refine⟨Ey ?_,rfl⟩
  first | omega | (simp only[IntKind.wrap_u64];omega)
 go_enter Tryz.func37,Tryz.ntmps37
 go_wp2_with fail
 go_ret
 exact⟨Ey (by first | omega | (simp only[IntKind.wrap_u64];omega)),rfl⟩
set_option maxHeartbeats 2000000 in
theorem RH (n d:Int) (w:World) (hn0:-4000000000000000000<=n) (hn:n<=4000000000000000000) (hd0:-4000000000000000000<=d) (hd:d<=4000000000000000000) :
  Calls Tryz.prog 12 #[J n,J d] w λe w'=>e=RI (D1 n d)/\Below (U w) w w':=by
 by_cases h0:d=0
 ·subst h0
  go_enter Tryz.func12,Tryz.ntmps12
  go_wp2_with fail
  refine bodyPost_ret (v:=.tuple #[.agg #[J 0,J 0],J 5]) (by simp[results,Tryz.results12,go_sem]) rfl ⟨rfl,?_⟩;exact(Below.refl _ _).alloc (Nat.le_refl _) _
 have HR:Hid (D1 n d=KE (!(decide (n<0)==decide (d<0))) n.natAbs d.natAbs):=by show _=_;unfold D1;rw[if_neg h0]
 have g0:(d==0)=false:=by simpa using h0
 have hd1:1<=d.natAbs:=by omega
 have bn:n.natAbs<=4000000000000000000:=by omega
 have bd:d.natAbs<=4000000000000000000:=by omega
 clear h0;have hg0:1<=Nat.gcd n.natAbs d.natAbs:=Nat.gcd_pos_of_pos_right _ hd1;generalize hG:Nat.gcd n.natAbs d.natAbs=G at *
 have HG:=Lib.hid hG;clear hG;obtain⟨q1,h1⟩:∃q,n.natAbs/G=q:=⟨_,rfl⟩;obtain⟨q2,h2⟩:∃q,d.natAbs/G=q:=⟨_,rfl⟩;have b1:q1<=4000000000000000000:=by rw[<-h1];exact Nat.le_trans (Nat.div_le_self _ _) bn
 have b2:q2<=4000000000000000000:=by rw[<-h2];exact Nat.le_trans (Nat.div_le_self _ _) bd
 have HE1:Hid (IntKind.u64.wrap ((n.natAbs:Int)/(G:Int))=(q1:Int)):=by show _=_;rw[<-Int.natCast_ediv,h1];exact IntWalk.u64_in _ (by omega)
 have HE2:Hid (IntKind.u64.wrap ((d.natAbs:Int)/(G:Int))=(q2:Int)):=by show _=_;rw[<-Int.natCast_ediv,h2];exact IntWalk.u64_in _ (by omega)
 by_cases hA:1000000000000<q1\/1000000<q2
 ·have HF:Hid (D1 n d=(0,0,4)):=by show _=_;rw[HR.out];exact Xl HG h1 h2 hA
  have HA:1000000000000<q1\/(¬ 1000000000000<q1/\1000000<q2):=by omega
  clear h1 h2 hA;rcases HA with hA | ⟨hA1,hA2⟩
  all_goals
   go_enter Tryz.func12,Tryz.ntmps12
   go_wp2_with fail
   refine(JU n _ hn0 hn).mono ?_;rintro e w' ⟨rfl,rfl⟩
   go_wp2_with fail
   refine(JU d _ hd0 hd).mono ?_;rintro e w' ⟨rfl,rfl⟩
   go_wp2_with fail
   refine(ND _ _ _ (by omega) (by omega)).mono ?_;rintro e w' ⟨rfl,nq,rfl⟩;rw[HG.out];have e1:=HE1.out;have e2:=HE2.out
   go_wp2_with fail
   go_quiet (fail)
   clear e1 e2
   go_wp2_with fail
   refine bodyPost_ret (v:=.tuple #[.agg #[J 0,J 0],J 4]) (by simp[results,Tryz.results12,go_sem]) rfl ⟨by rw[HF.out];rfl,?_⟩;exact((GR ((Below.refl _ _).alloc (Nat.le_refl _) _) _).setCell (by simp) _).setCell (by simp) _
 have hA1:q1<=1000000000000:=by omega
 have hA2:q2<=1000000:=by omega
 have HF:Hid (D1 n d=(if(!(decide (n<0)==decide (d<0)))=true then -(q1:Int)else q1,(q2:Int),0)):=by show _=_;rw[HR.out];exact P0 HG h1 h2 (by omega) (by omega)
 clear h1 h2 hA
 go_enter Tryz.func12,Tryz.ntmps12
 go_wp2_with fail
 refine(JU n _ hn0 hn).mono ?_;rintro e w' ⟨rfl,rfl⟩
 go_wp2_with fail
 refine(JU d _ hd0 hd).mono ?_;rintro e w' ⟨rfl,rfl⟩
 go_wp2_with fail
 refine(ND _ _ _ (by omega) (by omega)).mono ?_;rintro e w' ⟨rfl,nq,rfl⟩;rw[HG.out];have e1:=HE1.out;have e2:=HE2.out
 go_wp2_with fail
 go_quiet (fail)
 clear e1 e2
 go_wp2_with fail
 ·have hs:(!decide (n<0)==decide (d<0))=true:=by assumption
  refine bodyPost_ret (v:=.tuple #[.agg #[J (-(q1:Int)),J q2],J 0]) (by simp[results,Tryz.results12,go_sem]) rfl ⟨by rw[HF.out,if_pos hs];rfl,?_⟩
  repeat (first | exact(Below.refl _ _).alloc (Nat.le_refl _) _ | exact GR ((Below.refl _ _).alloc (Nat.le_refl _) _) _ | refine Below.setCell ?_ (by simp) _ | refine Below.alloc ?_ (by simp) _ | refine GR ?_ _)
 have hs:¬(!decide (n<0)==decide (d<0))=true:=by rw[Bool.not_eq_true];assumption
 refine bodyPost_ret (v:=.tuple #[.agg #[J (q1:Int),J q2],J 0]) (by simp[results,Tryz.results12,go_sem]) rfl ⟨by rw[HF.out,if_neg hs];rfl,?_⟩
 repeat (first | exact(Below.refl _ _).alloc (Nat.le_refl _) _ | exact GR ((Below.refl _ _).alloc (Nat.le_refl _) _) _ | refine Below.setCell ?_ (by simp) _ | refine Below.alloc ?_ (by simp) _ | refine GR ?_ _)
end Go.Proofs.YtkpemkkbjfbmaaaGreat
namespace Go.Proofs.YtkpemkkbjfbmaaaGreat
open List
open Go.ChangeShapes Go.WideShapes Go.ChangeAt Go.RowKit
theorem Yj:ownKnob Tryz.prog.godebug=none:=by kernel_rfl
def qf:DataW Unit->List Value
 | .lit (.int k n)=>[.int k n]
 | .lit (.string s)=>[.string ⟨s.toArray⟩]
 | .agg xs=>xs.flatMap fun
  | .lit (.int k n)=>[.int k n]
  | .lit (.string s)=>[.string ⟨s.toArray⟩]
  | .agg ys=>ys.flatMap fun
   | .lit (.int k n)=>[.int k n]
   | .lit (.string s)=>[.string ⟨s.toArray⟩]
   | _=>[]
  | _=>[]
 | _=>[]
def setRow (cs:Array Value):Obj->Obj
 | .cells _ t frozen=>.cells cs t frozen
 | o=>o
section
variable {H:Type} {enc:TypeId×Value->H} {P:Program}
theorem Td {f:Func} {s:ChangeSpec} {apart fresh e l:Bool} {W m:World} {args:Array Value} {v:Value} {ds q:List (DataW H)} {before pa pv:List MemPlace}
  (u:DataW.Whole enc P f.params.toList s.vars apart W args.toList ds q before)
  (h:∀(b:Nat) (k:Nat->Bool) (hd:Bool),DataW.TrodAll enc P m b k hd f.resultTypes.toList (v.resultList f.resultTypes.size) (s.fn H (ds++q)).results [])
  (d:∀k:Nat->Bool,(∀p∈before,k p.block=true)->DataW.TrodAll enc P m 0 k true f.params.toList args.toList (s.fn H (ds++q)).args pa)
  (a:∀k:Nat->Bool,(∀p∈before,k p.block=true)->DataW.TrodVars enc P m k s.vars (s.fn H (ds++q)).vars pv)
  (g:before=pa++pv) (hb:Below (U W) W m)
  (hok:∀(j:Nat) (t:TypeId) (r:Value),f.resultTypes[j]?=some t->(v.resultList f.resultTypes.size)[j]?=some r->Value.okWide P m .any 0 t r) :
  s.post enc P f apart fresh e l W args v m:=by
 have n:∀p∈before,p.block<(U W):=λp c=>u.lt p c;have i:∀p∈before,(λb=>decide (b<(U W))) p.block=true:=λp c=>by simpa using n p c
 refine⟨ds,q,before,[],pa,pv,u,h _ _ _,d _ i,a _ i,World.keptBut_mono (λp c=>⟨c,?_⟩) (hb.frame (·∈before)),λ_=>?_⟩
 ·rw[g,mem_append]at c;exact Or.inr c
 obtain⟨_,_,_,_,_,hz,hn⟩:=u;refine⟨hok,_,_,([]++pa)++pv,⟨[]++pa,pv,trodAll_append (d _ (λ_ _=>rfl)) (h _ _ _),a _ (λ_ _=>rfl),rfl,?_,?_⟩,?_⟩
 ·intro b off c;have o:MemPlace.cell b off∈before:=by rw[g];simpa using c
  rw[hb.frozen (n _ o)];exact hz b off o
 ·intro ha;have:=hn ha;rw[g]at this;simpa using this
 intro p c _;rw[g];simpa using c
end
noncomputable def ACf (h:Array Obj) (x:String×DataW Unit):Array Obj:=
 match Tryz.prog.globalNamed x.1 with
 | some g=>h.modify g (setRow (qf x.2).toArray)
 | none=>h
theorem qt:Tryz.prog.cellsOf 3=1:=by kernel_rfl
theorem xn:laidOutB Tryz.prog=true:=by kernel_rfl
set_option maxRecDepth 100000 in
theorem xo {H:Type} {enc:TypeId×Value->H} {W:World} {r:Reach} {b0:Nat} {v:Value} {d:DataW H} {ps:List MemPlace} (hval:Value.okWide Tryz.prog W r b0 22 v)
  (h:DataW.Trod enc Tryz.prog W 0 (λ_=>true) true 22 v d ps):∃ns,Hz W (U W) v ns:=by
 obtain⟨a0,len,cap,rfl⟩:=okWide_slice Tryz.underlying22 hval;obtain⟨fuel,hf⟩:=h;rcases open_ints Tryz.underlying22 Tryz.underlying3 qt hf with⟨hcs,_⟩ | ⟨a,len',cap',zs,hcs,_,hl,hm,hz,_,hcell,hwz⟩
 ·simp[Value.cells]at hcs;obtain⟨rfl,rfl,rfl⟩:=hcs;exact⟨[],none,0,rfl,Nat.zero_le _,λx hx=>(by cases hx),λh=>(by cases h)⟩
 simp[Value.cells]at hcs;obtain⟨rfl,rfl,rfl⟩:=hcs;rw[if_pos rfl]at hz;have hlen:(zs.take len).length=len:=by simp;omega
 refine⟨zs.take len,some a,cap,by rw[hlen],by omega,λx hx=>bounds_i64 (hwz x (mem_of_mem_take hx)),λh=>?_⟩;obtain⟨b,off,rfl,hc⟩:=Go.ints_at hcell (by omega);refine⟨b,off,rfl,World.block_lt_of_cell? W _ (hc 0 (by omega)),λi hi=>?_⟩;rw[hc i (by omega),getElem_take,getD_eq_getElem?_getD,getElem?_eq_getElem (by omega)];rfl
end Go.Proofs.YtkpemkkbjfbmaaaGreat

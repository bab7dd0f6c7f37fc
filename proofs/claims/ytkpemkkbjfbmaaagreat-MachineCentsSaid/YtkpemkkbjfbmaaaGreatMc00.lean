/- Contracts of functions, part 0. -/
import Derived.Test.YtkpemkkbjfbmaaaGreatProg
import Derived.KernelRfl
import Derived.Orders
import Derived.Deep.MidRow
import Derived.Laws.Cells
import Derived.Laws.AppendOwn
set_option linter.all false
namespace Go.Proofs.YtkpemkkbjfbmaaaGreat
open List
abbrev J (x:Int):Value:=.int .i64 x
abbrev U (w:World):Nat:=w.heap.size
abbrev Z (b:Nat):Value:=.pointer (some ⟨b,0,none⟩)
abbrev Y (l:List UInt8):Value:=.string ⟨⟨l⟩⟩
abbrev θ (b:Nat):Option Addr:=some ⟨b,0,none⟩
abbrev κ {α:Type} [Inhabited α] (l:List α) (i:Nat):α:=l.getD i default
abbrev I (b:Bool):Value:=.bool b
abbrev V (a:Option Addr) (n c:Nat):Value:=.slice a n c
abbrev φ (b n c:Nat):Value:=.slice (some ⟨b,0,none⟩) n c
abbrev D (l:List Value):Value:=.agg ⟨l⟩
namespace Tk
def isDig (c:UInt8):Bool:=decide (48<=c.toNat/\c.toNat<=57)
def isLow (c:UInt8):Bool:=decide (97<=c.toNat/\c.toNat<=122)
def isWord (c:UInt8):Bool:=isLow c||isDig c||decide (c.toNat=95)
def lead (p:UInt8->Bool):List UInt8->Nat
 | []=>0
 | c::r=>if p c=true then lead p r+1 else 0
theorem lead_le (p:UInt8->Bool) (l:List UInt8):lead p l<=l.length:=by
 induction l with
 | nil=>simp[lead]
 | cons c r ih=>unfold lead;split<;>simp<;>omega
theorem lead_all (p:UInt8->Bool) (l:List UInt8) (j:Nat) (a:j<lead p l) (h:j<l.length):p l[j]=true:=by
 induction l generalizing j with
 | nil=>simp at h
 | cons c r ih=>
  unfold lead at a
  split at a
  ·rename_i hc
   cases j with
   | zero=>simpa using hc
   | succ j=>simp at h ⊢;exact ih j (by omega) h
  omega
theorem lead_stop (p:UInt8->Bool) (l:List UInt8) (h:lead p l<l.length):p l[lead p l]=false:=by
 induction l with
 | nil=>simp at h
 | cons c r ih=>
  by_cases hc:p c=true
  ·have e:lead p (c::r)=lead p r+1:=by simp[lead,hc]
   simp only[e,length_cons]at h ⊢;simp only[getElem_cons_succ];exact ih (by omega)
  have e:lead p (c::r)=0:=by simp[lead,hc]
  simp only[e];simpa using hc
theorem lead_eq (p:UInt8->Bool) (l:List UInt8) (k:Nat) (a:k<=l.length) (ha:∀j (h:j<l.length),j<k->p l[j]=true) (hs:∀h:k<l.length,p l[k]=false):lead p l=k:=by
 have b:=lead_le p l;rcases Nat.lt_trichotomy (lead p l) k with h | h | h
 ·have:=lead_stop p l (by omega);rw[ha _ _ h]at this
  cases this
 ·exact h
 have:=lead_all p l k h (by omega);rw[hs (by omega)]at this
 cases this
def digs (l:List UInt8):Nat:=lead isDig l
def keywords:List (List UInt8):=[[97,103,114,101,101,109,101,110,116],[105,110,112,117,116],[112,97,115,116],[115,99,97,108,101],[114,117,108,101],[112,97,121],[102,114,111,109],[114,111,117,110,100,101,100],[116,111],[105,102],[116,104,101,110],[101,108,115,101],[97,110,100],[111,114],[110,111,116],[116,114,117,101],[102,97,108,115,101],[109,105,110],[109,97,120],[114,111,117,110,100],[97,118,101,114,97,103,101],[108,97,115,116],[109,111,110,101,121],[104,111,117,114,115],[100,97,121,115],[110,117,109,98,101,114],[98,111,111,108],[100,111,119,110],[117,112],[102,108,111,111,114],[99,101,105,108,105,110,103],[104,97,108,102,95,117,112],[104,97,108,102,95,100,111,119,110],[104,97,108,102,95,101,118,101,110]]
def isKey (l:List UInt8):Bool:=keywords.contains l
def wordLen:List UInt8->Nat
 | []=>0
 | c::r=>if isLow c=true then lead isWord r+1 else 0
def isName (l:List UInt8):Bool:=decide (0<l.length)&&decide (l.length<=24)&&decide (wordLen l=l.length) && !isKey l
def val (l:List UInt8):Nat:=l.foldl (λn c=>n*10+(c.toNat-48)) 0
def newR (n d:Nat):Option (Nat×Nat):=
 if n/Nat.gcd n d>1000000000000\/d/Nat.gcd n d>1000000 then none else some (n/Nat.gcd n d,d/Nat.gcd n d)
structure Tok where
 kind:Int:=0
 text:List UInt8:=[]
 num:Int:=0
 den:Int:=0
 day:Int:=0
 place:Int:=0
def hasFrac (l:List UInt8):Bool:=decide ((l.getD (digs l) 0).toNat=46)&&isDig (l.getD (digs l+1) 0)
def frac (l:List UInt8):Nat:=if hasFrac l=true then digs (l.drop (digs l+1))else 0
def numEnd (l:List UInt8):Nat:=if hasFrac l=true then digs l+(1+frac l)else digs l
def pct (l:List UInt8):Bool:=decide ((l.getD (numEnd l) 0).toNat=37)
def most (l:List UInt8):Nat:=if pct l=true then 4 else 6
end Tk
abbrev Wr:=List (Tmp×Nat)
def Wr.of (W:Wr) (t:Tmp):Option Nat:=(W.find? λp=>p.1==t).map (·.2)
def EM (vals:Nat->Value) (i:Nat) (v:Value):Nat->Value:=λj=>if j=i then v else vals j
def F5 (a0:Act) (W:Wr) (vals:Nat->Value):Operand->Value
 | .tmp t=>match W.of t with
  | some j=>vals j
  | none=>a0.eval (.tmp t)
 | x=>a0.eval x
def Kn (ops:Array Oper) (a0:Act) (W:Wr) (vals:Nat->Value) (j:Nat):Option Bool:=
 match (ops[j]?).bind (·.dst)with
 | some t=>match F5 a0 W vals (.tmp t)with
  | .bool b=>some b
  | _=>none
 | none=>none
def AL (P:Program) (o:Oper) (ρ:Operand->Value) (w:World) (K:Value->World->Prop):Prop:=
 match (execOp ρ o).run P w with
 | .ok (.value v) w'=>K v w'
 | .ok .skip w'=>K undef w'
 | .ok (.enter f args) w'=>Calls P f args w' λe w''=>∃v,e=.returned v/\K v w''
 | _=>False
theorem AL.value {P:Program} {o:Oper} {ρ:Operand->Value} {w w':World} {K:Value->World->Prop} {v:Value} (h:(execOp ρ o).run P w=.ok (.value v) w') (a:K v w'):AL P o ρ w K:=by unfold AL;rw[h];exact a
theorem AL.enter {P:Program} {o:Oper} {ρ:Operand->Value} {w w':World} {K:Value->World->Prop} {f:FuncId} {args:Array Value} (h:(execOp ρ o).run P w=.ok (.enter f args) w')
  (b:Calls P f args w' λe a=>∃v,e=.returned v/\K v a):AL P o ρ w K:=by unfold AL;rw[h];exact b
section
variable {P:Program} {ops:Array Oper} {Q:Exit->Act->World->Prop} {md:Region.Mode}
structure DA where
 idx:Nat
 before:List Nat
 deps:List Nat
 says:List Value->World->Prop
def DA.holds (l:DA) (vals:Nat->Value) (w:World):Prop:=l.says (l.deps.map vals) w
def DA.ob (P:Program) (ops:Array Oper) (a0:Act) (W:Wr) (C:World->Prop) (Ext:World->World->Prop) (L:List DA) (l:DA):Prop:=
 ∀(vals:Nat->Value) (w:World),C w->(∀m∈L,m.idx∈l.before->m.holds vals w)->∀o,ops[l.idx]?=some o->
  if Region.wanted o (Kn ops a0 W vals)then AL P o (F5 a0 W vals) w (λv w'=>C w'/\Ext w w'/\l.holds (EM vals l.idx v) w')
  else l.holds (EM vals l.idx undef) w
def F4 (md:Region.Mode) (ops:Array Oper) (W:Wr) (listed:Array Bool) (n:Nat) (L:List DA):Bool:=
 let A:=L.map (·.idx)
 A.Nodup&&listed.size==ops.size &&
 (L.all λl=>listed.getD l.idx true==false&&(match ops[l.idx]? with
  | some o=>
   (match o.op with | .select ..=>false | _=>true) &&
   (l.before.all λj=>A.contains j&&j != l.idx&&o.after.any λe=>Region.binds md e&&(e.on==j||L.any λm=>m.idx==e.on&&m.before.contains j)) &&
   (o.after.all λe=>!Region.binds md e||(listed.getD e.on false && !A.contains e.on)||(decide (e.on<l.idx)&&A.contains e.on)) &&
   (l.deps.all λj=>j==l.idx||l.before.contains j) &&
   (o.looksAt ops).all (λt=>match W.of t with | some j=>l.before.contains j | none=>true) &&
   (match o.dst with | some d=>decide (d<n)&&W.of d==some l.idx | none=>true)
  | none=>false)) &&
 (W.all λp=>W.of p.1==some p.2&&A.contains p.2&&(match ops[p.2]? with | some o=>o.dst==some p.1 | none=>false)) &&
 (List.range ops.size).all (λt=>listed.getD t true||A.contains t||(match ops[t]? with
  | some o=>(o.after.any λe=>Region.binds md e && !listed.getD e.on false && !A.contains e.on) ||
    A.all λi=>o.after.any λe=>Region.binds md e&&(e.on==i||L.any λm=>m.idx==e.on&&m.before.contains i)
  | none=>true))
theorem Lw:∀(A:List Nat) (b:Array Bool) (j:Nat),(A.foldl (λb i=>b.setIfInBounds i true) b)[j]?=if j∈A/\j<b.size then some true else b[j]?
 | [],b,j=>by simp
 | i::A,b,j=>by
  rw[foldl_cons,Lw A,Array.size_setIfInBounds,Array.getElem?_setIfInBounds];by_cases hj:j∈A
  ·by_cases hs:j<b.size
   ·simp[hj,hs]
   by_cases hij:i=j
   ·subst hij;simp[hs]
   simp[hs,hij]
  by_cases hij:i=j
  ·subst hij;by_cases hs:i<b.size
   ·simp[hs,hj]
   simp[hs,hj]
  have:¬j=i:=λh=>hij h.symm;simp[hj,hij,this]
def C6 (ops:Array Oper) (i:Nat):Option Tmp:=(ops[i]?).bind (·.dst)
def fin (ops:Array Oper) (vals:Nat->Value) (A:List Nat) (a:Act):Act:=A.foldl (λa i=>a.put (C6 ops i) (vals i)) a
theorem Ki (a:Act) (d:Option Tmp) (v:Value) (t:Nat):(a.put d v).tmps[t]?=if d=some t/\t<a.tmps.size then some v else a.tmps[t]?:=by
 cases d with
 | none=>simp[Act.put]
 | some d=>
  simp only[Act.put,Array.getElem?_setIfInBounds,Option.some.injEq];by_cases h:d=t
  ·subst h;by_cases hs:d<a.tmps.size
   ·simp[hs]
   simp[hs]
  simp[h]
theorem Pg (a:Act) (d:Option Tmp) (v:Value):(a.put d v).tmps.size=a.tmps.size:=by cases d<;>simp[Act.put]
theorem SI (a:Act) (d:Option Tmp) (v:Value):(a.put d v).defers=a.defers:=by cases d<;>rfl
theorem P1 (ops:Array Oper) (vals:Nat->Value):∀(A:List Nat) (a:Act),(fin ops vals A a).tmps.size=a.tmps.size/\(fin ops vals A a).defers=a.defers
 | [],a=>⟨rfl,rfl⟩
 | i::A,a=>by have:=P1 ops vals A (a.put (C6 ops i) (vals i));rw[Pg,SI]at this;exact this
theorem Og (ops:Array Oper) (vals:Nat->Value) (t:Nat):∀(A:List Nat) (a:Act),(∀i∈A,C6 ops i≠some t)->(fin ops vals A a).tmps[t]?=a.tmps[t]?
 | [],_,_=>rfl
 | i::A,a,h=>by have b:=Og ops vals t A (a.put (C6 ops i) (vals i)) (λk c=>h k (by simp[c]));have h2:=h i (by simp);rw[Ki]at b;simp only[h2,false_and,if_false]at b;exact b
theorem Xo (ops:Array Oper) (vals:Nat->Value) (t j:Nat):∀(A:List Nat) (a:Act),(∀i∈A,C6 ops i=some t->i=j)->j∈A->C6 ops j=some t->t<a.tmps.size->(fin ops vals A a).tmps[t]?=some (vals j)
 | [],_,_,h,_,_=>by cases h
 | i::A,a,h,hj,hd,ht=>by
  by_cases hA:j∈A
  ·exact Xo ops vals t j A (a.put (C6 ops i) (vals i)) (λk b=>h k (by simp[b])) hA hd (by rw[Pg];exact ht)
  have c:i=j:=by simp[hA]at hj;exact hj.symm
  subst c;have f:=Og ops vals t A (a.put (C6 ops i) (vals i)) (λk b d=>hA ((h k (by simp[b]) d) ▸ b));rw[Ki]at f;simp only[hd,ht,and_self,if_true]at f;have e:fin ops vals (i::A) a=fin ops vals A (a.put (some t) (vals i)):=by unfold fin;rw[foldl_cons,hd]
  rw[e];exact f
structure Hy (md:Region.Mode) (ops:Array Oper) (W:Wr) (listed0:Array Bool) (a0:Act) (C:World->Prop) (Ext:World->World->Prop) (L:List DA) (w0:World) (listed:Array Bool) (vals:Nat->Value) (a:Act) (w:World):Prop where
 size:listed.size=ops.size
 keep:∀j,j∉L.map (·.idx)->listed[j]?=listed0[j]?
 shut:∀l∈L,listed.getD l.idx false=true->∀j∈l.before,listed.getD j false=true
 defers:a.defers=a0.defers
 slots:a.tmps.size=a0.tmps.size
 done:∀t j,W.of t=some j->listed.getD j false=true->a.tmps[t]?=some (vals j)
 wait:∀t j,W.of t=some j->listed.getD j false=false->a.tmps[t]?=a0.tmps[t]?
 other:∀t,W.of t=none->a.tmps[t]?=a0.tmps[t]?
 cls:C w
 ext:Ext w0 w
 says:∀l∈L,listed.getD l.idx false=true->l.holds vals w
theorem PI {b:Array Bool} {j:Nat} (h:j<b.size) (d:Bool):b[j]?=some (b.getD j d):=by simp[h]
structure LX (md:Region.Mode) (ops:Array Oper) (W:Wr) (listed:Array Bool) (n:Nat) (L:List DA):Prop where
 nodup:(L.map (·.idx)).Nodup
 size:listed.size=ops.size
 fresh:∀l∈L,listed.getD l.idx true=false
 op:∀l∈L,∃o,ops[l.idx]?=some o
 sel:∀l∈L,∀o,ops[l.idx]?=some o->∀cs b,o.op≠.select cs b
 bef:∀l∈L,∀o,ops[l.idx]?=some o->∀j∈l.before,j∈L.map (·.idx)/\j≠l.idx/\∃e∈o.after,Region.binds md e=true/\(e.on=j\/∃m∈L,m.idx=e.on/\j∈m.before)
 edge:∀l∈L,∀o,ops[l.idx]?=some o->∀e∈o.after,Region.binds md e=true->(listed.getD e.on false=true/\e.on∉L.map (·.idx))\/(e.on<l.idx/\e.on∈L.map (·.idx))
 deps:∀l∈L,∀j∈l.deps,j=l.idx\/j∈l.before
 looks:∀l∈L,∀o,ops[l.idx]?=some o->∀t∈o.looksAt ops,∀j,W.of t=some j->j∈l.before
 dst:∀l∈L,∀o,ops[l.idx]?=some o->∀d,o.dst=some d->d<n/\W.of d=some l.idx
 wr:∀t j,W.of t=some j->j∈L.map (·.idx)/\C6 ops j=some t
 tail:∀t o,ops[t]?=some o->listed.getD t true=false->t∉L.map (·.idx)->(∃e∈o.after,Region.binds md e=true/\listed.getD e.on false=false/\e.on∉L.map (·.idx))\/
  ∀i∈L.map (·.idx),∃e∈o.after,Region.binds md e=true/\(e.on=i\/∃m∈L,m.idx=e.on/\i∈m.before)
theorem FF {W:Wr} {a:Array Bool} {n:Nat} {L:List DA} (h:F4 md ops W a n L=true):LX md ops W a n L:=by
 unfold F4 at h;simp only[Bool.and_eq_true,decide_eq_true_eq,beq_iff_eq,all_eq_true]at h;obtain⟨⟨⟨⟨y,h2⟩,q⟩,w⟩,v⟩:=h;have H:∀l∈L,∃o,ops[l.idx]?=some o:=λl hl=>by
  have:=(q l hl).2
  cases ho:ops[l.idx]? with
  | none=>simp[ho]at this
  | some o=>exact⟨o,rfl⟩
 have G:=λ(l:DA) (hl:l∈L) (o:Oper) (ho:ops[l.idx]?=some o)=>by have:=(q l hl).2;simp only[ho,Bool.and_eq_true,all_eq_true]at this;exact this
 refine⟨y,h2,λl hl=>(q l hl).1,H,?_,?_,?_,?_,?_,?_,?_,?_⟩
 ·intro l hl o ho cs b hs;have:=(G l hl o ho).1.1.1.1.1;rw[hs]at this;cases this
 ·intro l hl o ho j c;have:=(G l hl o ho).1.1.1.1.2 j c;simp only[Bool.and_eq_true,Array.any_eq_true',contains_iff_mem,bne_iff_ne,Bool.or_eq_true,beq_iff_eq,any_eq_true]at this;obtain⟨⟨r,f⟩,e,he,hb,g3⟩:=this;exact⟨r,f,e,he,hb,g3.imp id (λ⟨m,hm,g4,z⟩=>⟨m,hm,g4,z⟩)⟩
 ·intro l hl o ho e he hb;have:=(G l hl o ho).1.1.1.2;rw[Array.all_eq_true_iff_forall_mem]at this;have:=this e he;simp only[hb,Bool.not_true,Bool.false_or,Bool.or_eq_true,Bool.and_eq_true,Bool.not_eq_true',decide_eq_true_eq,contains_iff_mem]at this;rcases this with⟨r,f⟩ | g
  ·exact .inl ⟨r,λhm=>(by rw[contains_iff_mem.2 hm]at f;cases f)⟩
  exact .inr g
 ·intro l hl j c;obtain⟨o,ho⟩:=H l hl;have:=(G l hl o ho).1.1.2 j c;simp only[Bool.or_eq_true,beq_iff_eq,contains_iff_mem]at this;exact this
 ·intro l hl o ho t ht j c;have:=(G l hl o ho).1.2 t ht;rw[c]at this;simpa using this
 ·intro l hl o ho d hd;have:=(G l hl o ho).2;rw[hd]at this;simpa using this
 ·intro t j c;unfold Wr.of at c;rw[Option.map_eq_some_iff]at c;obtain⟨p,s,rfl⟩:=c;have hm:=mem_of_find?_eq_some s;have ht:p.1=t:=by simpa using find?_some s
  have:=w p hm;simp only[contains_iff_mem]at this;refine⟨this.1.2,?_⟩;have g:=this.2;unfold C6
  cases ho:ops[p.2]? with
  | none=>simp[ho]at g
  | some o=>simp[ho]at g ⊢;rw[g,ht]
 intro t o ho hl hA;have k:t<ops.size:=(Array.getElem?_eq_some_iff.1 ho).1;have:=v t (mem_range.2 k);have hc:(List.map (λx=>x.idx) L).contains t=false:=by rw[Bool.eq_false_iff];intro u;exact hA (contains_iff_mem.1 u)
 simp only[hl,hc,Bool.false_or,ho,Array.any_eq_true',Bool.and_eq_true,Bool.not_eq_true',Bool.or_eq_true,any_eq_true,beq_iff_eq,all_eq_true,contains_iff_mem]at this;rcases this with⟨e,he,⟨hb,hu⟩,g⟩ | g
 ·exact .inl ⟨e,he,hb,hu,λhm=>(by rw[contains_iff_mem.2 hm]at g;cases g)⟩
 exact .inr λi hi=>g i hi
theorem DA.eq_of_idx {L:List DA} (h:(L.map (·.idx)).Nodup) {l m:DA} (hl:l∈L) (hm:m∈L) (e:l.idx=m.idx):l=m:=by
 induction L with
 | nil=>cases hl
 | cons x L ih=>
  rw[map_cons,nodup_cons]at h;rcases mem_cons.1 hl with rfl | b
  ·rcases mem_cons.1 hm with rfl | a
   ·rfl
   exact absurd (mem_map.2 ⟨m,a,e.symm⟩) h.1
  rcases mem_cons.1 hm with rfl | a
  ·exact absurd (mem_map.2 ⟨l,b,e⟩) h.1
  exact ih h.2 b a
theorem mm {l:DA} {vals:Nat->Value} {i:Nat} {v:Value} {w:World} (h:l.holds vals w) (hi:i∉l.deps):l.holds (EM vals i v) w:=by
 unfold DA.holds at *
 have:l.deps.map (EM vals i v)=l.deps.map vals:=map_congr_left λj b=>by have a:¬j=i:=λe=>hi (e ▸ b);unfold EM;rw[if_neg a]
 rw[this];exact h
def GD (listed:Array Bool) (L:List DA):Nat:=(L.filter λl=>!listed.getD l.idx false).length
theorem MX {a:Array Bool} {i:Nat} (hi:i<a.size) (c:a.getD i false=false):∀ {L:List DA},(L.map (·.idx)).Nodup->i∈L.map (·.idx)->GD a L=GD (a.setIfInBounds i true) L+1
 | [],_,h=>by cases h
 | l::L,hn,h=>by
  rw[map_cons,nodup_cons]at hn;unfold GD;by_cases hl:l.idx=i
  ·subst hl;have f:(a.setIfInBounds l.idx true).getD l.idx false=true:=by simp[hi]
   have d:(L.filter λm=>!(a.setIfInBounds l.idx true).getD m.idx false)=L.filter λm=>!a.getD m.idx false:=filter_congr λm hm=>by rw[getD_set_ne false (λe=>hn.1 (mem_map.2 ⟨m,hm,e.symm⟩))]
   rw[filter_cons,filter_cons,c,f,d];simp
  have hA:i∈L.map (·.idx):=by
   rcases mem_cons.1 h with e | e
   ·exact absurd e.symm hl
   exact e
  have b:=MX hi c hn.2 hA;unfold GD at b;rw[filter_cons,filter_cons,getD_set_ne false (Ne.symm hl)]
  split
  ·rw[length_cons,length_cons,b]
  exact b
theorem O3 {a:Array Bool} {L:List DA} (h:GD a L=0) {l:DA} (hl:l∈L):a.getD l.idx false=true:=by unfold GD at h;rw[length_eq_zero_iff,filter_eq_nil_iff]at h;have:=h l hl;simpa using this
theorem HZ {b:Array Bool} {j:Nat} (h:b.getD j true=false):j<b.size:=by
 rcases Nat.lt_or_ge j b.size with a | a
 ·exact a
 simp[Array.getElem?_eq_none a]at h
theorem FA {b:Array Bool} {j:Nat} (h:b.getD j true=false):b.getD j false=false:=by have:=HZ h;simp[this]at h ⊢;exact h
variable {W:Wr} {listed0:Array Bool} {a0:Act} {C:World->Prop} {Ext:World->World->Prop} {L:List DA} {w0:World}
theorem Hy.evals (F:LX md ops W listed0 a0.tmps.size L) {b:Array Bool} {vals:Nat->Value} {a:Act} {w:World} (ξ:Hy md ops W listed0 a0 C Ext L w0 b vals a w) {l:DA} (hl:l∈L) {o:Oper} (ho:ops[l.idx]?=some o)
  (hb:∀j∈l.before,b.getD j false=true) {t:Tmp} (ht:t∈o.looksAt ops):a.tmps[t]?=(match W.of t with | some j=>some (vals j) | none=>a0.tmps[t]?):=by
 cases hw:W.of t with
 | none=>exact ξ.other t hw
 | some j=>exact ξ.done t j hw (hb j (F.looks l hl o ho t ht j hw))
theorem Hy.exec (F:LX md ops W listed0 a0.tmps.size L) {b:Array Bool} {vals:Nat->Value} {a:Act} {w:World} (ξ:Hy md ops W listed0 a0 C Ext L w0 b vals a w) {l:DA} (hl:l∈L) {o:Oper} (ho:ops[l.idx]?=some o)
  (hb:∀j∈l.before,b.getD j false=true):execOp a.eval o=execOp (F5 a0 W vals) o:=by
 refine execOp_congr o (F.sel l hl o ho) λx hx=>?_
 cases x with
 | tmp t=>
  have ht:t∈o.looksAt ops:=mem_append_left _ (mem_filterMap.2 ⟨.tmp t,by simpa using hx,rfl⟩);have:=ξ.evals F hl ho hb ht;unfold F5 Act.eval
  cases hw:W.of t with
  | none=>rw[hw]at this;simp only[Array.getD_eq_getD_getElem?,this,hw]
  | some j=>rw[hw]at this;simp only[Array.getD_eq_getD_getElem?,this,hw];rfl
 | const v=>rfl
 | global g=>rfl
 | func f=>rfl
theorem Hy.wanted (F:LX md ops W listed0 a0.tmps.size L) {b:Array Bool} {vals:Nat->Value} {a:Act} {w:World} (ξ:Hy md ops W listed0 a0 C Ext L w0 b vals a w) {l:DA} (hl:l∈L) {o:Oper} (ho:ops[l.idx]?=some o)
  (hb:∀j∈l.before,b.getD j false=true):Region.wanted o (yielded ops a.tmps)=Region.wanted o (Kn ops a0 W vals):=by
 unfold Region.wanted
 cases hg:o.guard with
 | none=>rfl
 | some gw=>
  obtain⟨g,c⟩:=gw;have d:yielded ops a.tmps g=Kn ops a0 W vals g:=by
   unfold yielded Kn
   cases ht:(ops[g]?).bind (·.dst)with
   | none=>rfl
   | some t=>
    have hm:t∈o.looksAt ops:=by simp[Oper.looksAt,hg,ht]
    have:=ξ.evals F hl ho hb hm;simp only[Option.bind_some];unfold F5 Act.eval
    cases hw:W.of t with
    | none=>
     rw[hw]at this;simp only[this,hw,Array.getD_eq_getD_getElem?]
     cases hx:a0.tmps[t]? with
     | none=>rfl
     | some v=>cases v<;>rfl
    | some j=>
     rw[hw]at this;simp only[this,hw]
     cases vals j<;>rfl
  simp only[d]
theorem Hy.step (F:LX md ops W listed0 a0.tmps.size L) (r:∀l∈L,∀vs w w',C w->Ext w w'->l.says vs w->l.says vs w') (q:∀a b c:World,Ext a b->Ext b c->Ext a c)
  {d:Array Bool} {vals:Nat->Value} {a:Act} {w:World} (ξ:Hy md ops W listed0 a0 C Ext L w0 d vals a w) {l:DA} (hl:l∈L) {o:Oper} (ho:ops[l.idx]?=some o)
  (hb:∀j∈l.before,d.getD j false=true) (hu:d.getD l.idx true=false) {v:Value} {w':World} (hC:C w') (y:Ext w w') (hs:l.holds (EM vals l.idx v) w') :
  Hy md ops W listed0 a0 C Ext L w0 (d.setIfInBounds l.idx true) (EM vals l.idx v) (a.put o.dst v) w':=by
 have u:=HZ hu;have x:=FA hu;have k:(d.setIfInBounds l.idx true).getD l.idx false=true:=by simp[u]
 refine⟨by simp[ξ.size],?_,?_,?_,?_,?_,?_,?_,hC,q _ _ _ ξ.ext y,?_⟩
 ·intro j p;have s:l.idx≠j:=λe=>p (mem_map.2 ⟨l,hl,e⟩);rw[Array.getElem?_setIfInBounds_ne s];exact ξ.keep j p
 ·intro m hm hd j p;by_cases e:l.idx=m.idx
  ·obtain rfl:=DA.eq_of_idx F.nodup hl hm e;exact getD_set_true (hb j p)
  rw[getD_set_ne false e]at hd;exact getD_set_true (ξ.shut m hm hd j p)
 ·rw[SI];exact ξ.defers
 ·rw[Pg];exact ξ.slots
 ·intro t j g hd;rw[Ki];obtain⟨z,i⟩:=F.wr t j g;by_cases e:l.idx=j
  ·subst e;have f:o.dst=some t:=by unfold C6 at i;rw[ho]at i;exact i
   have n:=(F.dst l hl o ho t f).1;rw[f,if_pos ⟨rfl,by rw[ξ.slots];exact n⟩];simp[EM]
  have f:o.dst≠some t:=λh=>by have:=(F.dst l hl o ho t h).2;rw[g]at this;exact e (Option.some.inj this).symm
  rw[if_neg (λh=>f h.1)];rw[getD_set_ne false e]at hd;rw[ξ.done t j g hd];unfold EM;rw[if_neg (λh=>e h.symm)]
 ·intro t j g hd;have e:l.idx≠j:=λe=>by subst e;rw[k]at hd;cases hd
  rw[getD_set_ne false e]at hd;have f:o.dst≠some t:=λh=>by have:=(F.dst l hl o ho t h).2;rw[g]at this;exact e (Option.some.inj this).symm
  rw[Ki,if_neg (λh=>f h.1)];exact ξ.wait t j g hd
 ·intro t g;have f:o.dst≠some t:=λh=>by have:=(F.dst l hl o ho t h).2;rw[g]at this;cases this
  rw[Ki,if_neg (λh=>f h.1)];exact ξ.other t g
 intro m hm hd;by_cases e:l.idx=m.idx
 ·obtain rfl:=DA.eq_of_idx F.nodup hl hm e;exact hs
 rw[getD_set_ne false e]at hd;refine mm (r m hm _ _ _ ξ.cls y (ξ.says m hm hd)) λhi=>?_;rcases F.deps m hm _ hi with h | h
 ·exact e h
 have:=ξ.shut m hm hd _ h;rw[x]at this;cases this
theorem iP (hok:F4 md ops W listed0 a0.tmps.size L=true) (hC:C w0) (i0:∀w:World,Ext w w) (d0:∀a b c:World,Ext a b->Ext b c->Ext a c)
  (e0:∀l∈L,∀vs w w',C w->Ext w w'->l.says vs w->l.says vs w') (r0:∀l∈L,l.ob P ops a0 W C Ext L) {fuel:Nat}
  (H:∀vals w,C w->Ext w0 w->(∀l∈L,l.holds vals w)->wpAny P md ops Q fuel ((L.map (·.idx)).foldl (λb i=>b.setIfInBounds i true) listed0) (fin ops vals (L.map (·.idx)) a0) w) :
  wpAny P md ops Q (L.length+fuel) listed0 a0 w0:=by
 have F:=FF hok;have key:∀(m:Nat) (d:Array Bool) (vals:Nat->Value) (a:Act) (w:World),Hy md ops W listed0 a0 C Ext L w0 d vals a w->GD d L=m->wpAny P md ops Q (m+fuel) d a w:=by
  intro m
  induction m with
  | zero=>
   intro d vals a w ξ hu;have c0:=λl (hl:l∈L)=>O3 hu hl;have h:=H vals w ξ.cls ξ.ext (λl hl=>ξ.says l hl (c0 l hl));have e1:d=(L.map (·.idx)).foldl (λb i=>b.setIfInBounds i true) listed0:=by
    refine Array.ext_getElem? λj=>?_;rw[Lw];by_cases hj:j∈L.map (·.idx)
    ·obtain⟨l,hl,rfl⟩:=mem_map.1 hj;have y:l.idx<listed0.size:=HZ (F.fresh l hl);rw[if_pos ⟨hj,y⟩,PI (by rw[ξ.size,<-F.size];exact y) false,c0 l hl]
    rw[if_neg (λh=>hj h.1)];exact ξ.keep j hj
   have e2:a=fin ops vals (L.map (·.idx)) a0:=by
    have hs:=P1 ops vals (L.map (·.idx)) a0;have ht:a.tmps=(fin ops vals (L.map (·.idx)) a0).tmps:=by
     refine Array.ext_getElem? λt=>?_
     cases hw:W.of t with
     | none=>
      rw[ξ.other t hw,Og];intro i hi hd;obtain⟨l,hl,rfl⟩:=mem_map.1 hi;obtain⟨o,ho⟩:=F.op l hl;have j0:o.dst=some t:=by unfold C6 at hd;rw[ho]at hd;exact hd
      have:=(F.dst l hl o ho t j0).2;rw[hw]at this;cases this
     | some j=>
      obtain⟨m0,h0⟩:=F.wr t j hw;obtain⟨l,hl,rfl⟩:=mem_map.1 m0;obtain⟨o,ho⟩:=F.op l hl;have j0:o.dst=some t:=by unfold C6 at h0;rw[ho]at h0;exact h0
      rw[ξ.done t _ hw (c0 l hl),Xo ops vals t l.idx _ _ _ m0 h0 (F.dst l hl o ho t j0).1];intro i hi hd;obtain⟨l',l0,rfl⟩:=mem_map.1 hi;obtain⟨o',k0⟩:=F.op l' l0;have p0:o'.dst=some t:=by unfold C6 at hd;rw[k0]at hd;exact hd
      have:=(F.dst l' l0 o' k0 t p0).2;rw[hw]at this;exact(Option.some.inj this).symm
    cases a;cases hf:fin ops vals (L.map (·.idx)) a0
    rw[hf]at hs ht;simp only at hs ht;have hd:=ξ.defers;simp only at hd;subst ht;rw[hs.2,hd]
   rw[Nat.zero_add,e1,e2];exact h
  | succ m ih=>
   intro d vals a w ξ hu;rw[Nat.succ_add];have some:∃l∈L,d.getD l.idx true=false:=by
    rcases hx:L.filter (λl=>!d.getD l.idx false)with _ | ⟨l,r⟩
    ·unfold GD at hu;rw[hx]at hu;simp at hu
    have:l∈L.filter (λl=>!d.getD l.idx false):=by rw[hx];simp
    rw[mem_filter]at this;refine⟨l,this.1,?_⟩;have y:l.idx<d.size:=by rw[ξ.size,<-F.size];exact HZ (F.fresh l this.1)
    have h2:=this.2;simp[y]at h2 ⊢;exact h2
   refine⟨λhr=>?_,λi hi=>?_⟩
   ·exfalso;have:∀(k:Nat) (l:DA),l∈L->l.idx=k->d.getD l.idx true=true:=by
     intro k
     induction k using Nat.strongRecOn with
     | _ k ihk=>
      intro l hl hk
      cases hu:d.getD l.idx true with
      | true=>rfl
      | false=>
       exfalso;obtain⟨o,ho⟩:=F.op l hl;have hm:l.idx∈Region.ready md ops d:=by
        rw[mem_ready];refine⟨hu,o,ho,λe he hb=>?_⟩;rcases F.edge l hl o ho e he hb with⟨h1,h2⟩ | ⟨h1,h2⟩
        ·have:=ξ.keep _ h2;rw[Array.getD_eq_getD_getElem?,this,<-Array.getD_eq_getD_getElem?];exact h1
        obtain⟨m',u,b0⟩:=mem_map.1 h2;have g:=ihk m'.idx (by omega) m' u rfl;rw[b0]at g;have y:e.on<d.size:=by rw[ξ.size,<-F.size,<-b0];exact HZ (F.fresh m' u)
        simp[y]at g ⊢;exact g
       rw[hr]at hm;cases hm
    obtain⟨l,hl,hf⟩:=some;rw[this _ l hl rfl]at hf;cases hf
   have a1:=hi;rw[mem_ready]at hi;obtain⟨z,o,ho,s⟩:=hi;have hA:i∈L.map (·.idx):=by
    by_cases hA:i∈L.map (·.idx)
    ·exact hA
    exfalso;have hk:=ξ.keep i hA;have q0:listed0.getD i true=false:=by rw[Array.getD_eq_getD_getElem?,<-hk,<-Array.getD_eq_getD_getElem?];exact z
    rcases F.tail i o ho q0 hA with⟨e,he,hb,t0,hx⟩ | hx
    ·have hd:=s e he hb;have:=ξ.keep _ hx;rw[Array.getD_eq_getD_getElem?,this,<-Array.getD_eq_getD_getElem?,t0]at hd;cases hd
    obtain⟨l,hl,hf⟩:=some;have g0:=FA hf;obtain⟨e,he,hb,hy⟩:=hx l.idx (mem_map.2 ⟨l,hl,rfl⟩);have hd:=s e he hb;rcases hy with h | ⟨m',u,b0,h⟩
    ·rw[<-h,hd]at g0;cases g0
    have:=ξ.shut m' u (by rw[b0];exact hd) _ h;rw[this]at g0;cases g0
   obtain⟨l,hl,rfl⟩:=mem_map.1 hA;have hb:∀j∈l.before,d.getD j false=true:=by
    intro j hj;obtain⟨_,_,e,he,v0,hx⟩:=F.bef l hl o ho j hj;have hd:=s e he v0;rcases hx with rfl | ⟨m',u,b0,hx⟩
    ·exact hd
    exact ξ.shut m' u (by rw[b0];exact hd) j hx
   have y:=HZ z;have q:GD (d.setIfInBounds l.idx true) L=m:=by have:=MX y (FA z) F.nodup hA;omega
   have p:=r0 l hl vals w ξ.cls (λm' u x0=>ξ.says m' u (hb _ x0)) o ho;unfold wpOp;simp only[ho];rw[ξ.wanted F hl ho hb]
   split
   ·rename_i hw
    rw[if_pos hw]at p;refine .inl ?_;unfold Oper.wp;rw[ξ.exec F hl ho hb];unfold AL at p
    cases hr:(execOp (F5 a0 W vals) o).run P w with
    | halt x w'=>rw[hr]at p;exact p.elim
    | ok n w'=>
     rw[hr]at p
     cases n<;>simp only at p<;>simp only[Oper.upon]
     case value v=>exact ih _ _ _ _ (ξ.step F e0 d0 hl ho hb z p.1 p.2.1 p.2.2) q
     case skip=>exact ih _ _ _ _ (ξ.step F e0 d0 hl ho hb z p.1 p.2.1 p.2.2) q
     case enter f args=>
      refine p.mono λe z0 he=>?_;obtain⟨v,rfl,h1,h2,h3⟩:=he;exact ih _ _ _ _ (ξ.step F e0 d0 hl ho hb z h1 h2 h3) q
   rename_i hw
   rw[if_neg hw]at p;exact ih _ _ _ _ (ξ.step F e0 d0 hl ho hb z ξ.cls (i0 w) p) q
 refine key L.length listed0 (λ_=>undef) a0 w0 ⟨F.size,λ_ _=>rfl,?_,rfl,rfl,?_,λ_ _ _ _=>rfl,λ_ _=>rfl,hC,i0 _,?_⟩ ?_
 ·intro l hl hd;rw[FA (F.fresh l hl)]at hd;cases hd
 ·intro t j hw hd;obtain⟨l,hl,rfl⟩:=mem_map.1 (F.wr t j hw).1;rw[FA (F.fresh l hl)]at hd;cases hd
 ·intro l hl hd;rw[FA (F.fresh l hl)]at hd;cases hd
 unfold GD;rw[filter_eq_self.2];intro l hl;rw[FA (F.fresh l hl)];rfl
def Fz (B:List Nat) (vals:Nat->Value) (w:World):List DA->Prop
 | []=>True
 | m::L=>match B.contains m.idx with
  | true=>m.says (m.deps.map vals) w/\Fz B vals w L
  | false=>Fz B vals w L
def Fq (vals:Nat->Value) (w:World):List DA->Prop
 | []=>True
 | m::L=>m.says (m.deps.map vals) w/\Fq vals w L
theorem N8 {B:List Nat} {vals:Nat->Value} {w:World}:∀ {L:List DA},(∀m∈L,m.idx∈B->m.holds vals w)->Fz B vals w L
 | [],_=>trivial
 | m::L,h=>by
  unfold Fz;have h2:=N8 (L:=L) λb a=>h b (by simp[a])
  split
  ·rename_i hb;exact⟨h m (by simp) (contains_iff_mem.1 hb),h2⟩
  exact h2
theorem My {vals:Nat->Value} {w:World}:∀ {L:List DA},(∀m∈L,m.holds vals w)->Fq vals w L
 | [],_=>trivial
 | m::L,h=>⟨h m (by simp),My λb a=>h b (by simp[a])⟩
def ADB (P:Program) (ops:Array Oper) (a0:Act) (W:Wr) (C:World->Prop) (Ext:World->World->Prop) (L:List DA) (l:DA):Prop:=
 (∀vs w w',C w->Ext w w'->l.says vs w->l.says vs w')/\
  ∀(vals:Nat->Value) (w:World),C w->Fz l.before vals w L->AL P (ops.getD l.idx default) (F5 a0 W vals) w (λv w'=>C w'/\Ext w w'/\l.says (l.deps.map (EM vals l.idx v)) w')
def Oo (P:Program) (ops:Array Oper) (a0:Act) (W:Wr) (C:World->Prop) (Ext:World->World->Prop) (L:List DA):List DA->Prop
 | []=>True
 | l::r=>ADB P ops a0 W C Ext L l/\Oo P ops a0 W C Ext L r
theorem Oo.all:∀ {r:List DA},Oo P ops a0 W C Ext L r->∀l∈r,ADB P ops a0 W C Ext L l
 | [],_,l,hl=>by cases hl
 | m::r,h,l,hl=>by
  rcases mem_cons.1 hl with rfl | a
  ·exact h.1
  exact Oo.all h.2 l a
def It (ops:Array Oper) (L:List DA):Bool:=L.all λl=>(ops.getD l.idx default).guard.isNone
theorem oX (hok:(F4 md ops W listed0 a0.tmps.size L&&It ops L)=true) (k:C w0) (e:∀w:World,Ext w w) (d:∀a b c:World,Ext a b->Ext b c->Ext a c)
  (h:Oo P ops a0 W C Ext L L) {fuel:Nat}
  (H:∀vals w,C w->Ext w0 w->Fq vals w L->wpAny P md ops Q fuel ((L.map (·.idx)).foldl (λb i=>b.setIfInBounds i true) listed0) (fin ops vals (L.map (·.idx)) a0) w) :
  wpAny P md ops Q (L.length+fuel) listed0 a0 w0:=by
 rw[Bool.and_eq_true]at hok;refine iP hok.1 k e d (λl hl=>(h.all l hl).1) (λl hl=>?_) (λvals w n h2 m=>H vals w n h2 (My m));intro vals w g hm o ho;have hb:=hok.2;unfold It at hb;rw[all_eq_true]at hb;have hg:=hb l hl;have hx:=(h.all l hl).2 vals w g (N8 hm);have f:ops.getD l.idx default=o:=by rw[Array.getD_eq_getD_getElem?,ho];rfl
 rw[f]at hg hx;have j:Region.wanted o (Kn ops a0 W vals)=true:=by
  unfold Region.wanted
  cases hgg:o.guard with
  | none=>rfl
  | some x=>rw[hgg]at hg;cases hg
 rw[if_pos j];exact hx
theorem Km {b:Array Bool} {fuel i:Nat} {a:Act} {w:World} {o:Oper} (hr:Region.ready md ops b=[i]) (ho:ops[i]?=some o) (hg:o.guard=none)
  (h:o.wp P a w (wpAny P md ops Q fuel (b.setIfInBounds i true)) Q):wpAny P md ops Q (fuel+1) b a w:=by
 refine⟨λe=>(by rw[e]at hr;cases hr),λj c=>?_⟩;rw[hr,mem_singleton]at c;subst c;unfold wpOp;simp only[ho];have d:Region.wanted o (yielded ops a.tmps)=true:=by unfold Region.wanted;rw[hg]
 rw[if_pos d];exact .inl h
theorem AL.call {P:Program} {o:Oper} {f:FuncId} (xs:List Operand) {ats:Array TypeId} {ρ:Operand->Value} {w:World} {K:Value->World->Prop} {args:List Value} (hρ:ρ (.func f)=.func (.func f) #[] #[]) (hf:(callFunc f args.toArray).run P w=.ok (.enter f args.toArray) w) (h:Calls P f args.toArray w λe a=>∃v,e=.returned v/\K v a) (hop:o.op=.call ⟨.value (.func f),xs.toArray,ats⟩:=by kernel_rfl) (ha:xs.map ρ=args:=by kernel_rfl):AL P o ρ w K:=by obtain⟨dst,op,ty,pos,after,guard⟩:=o;simp only at hop;subst hop;refine AL.enter (f:=f) (args:=args.toArray) (w':=w) ?_ h;rw[<-hf,<-ha];unfold execOp resolve;simp only[hρ,map_toArray];unfold Deferred.ofValue;simp[invoke,bind,Sem.bind,pure]
end
def TD (l:List (Tmp×Value)) (ρ:Operand->Value):Operand->Value
 | .tmp t=>match l.find? (λp=>p.1==t)with
  | some p=>p.2
  | none=>ρ (.tmp t)
 | x=>ρ x
def He (ρ:Operand->Value):List (Tmp×Value)->Prop
 | []=>True
 | p::l=>ρ (.tmp p.1)=p.2/\He ρ l
theorem He.mem {ρ:Operand->Value}:∀ {l:List (Tmp×Value)},He ρ l->∀p∈l,ρ (.tmp p.1)=p.2
 | [],_,p,hp=>by cases hp
 | q::l,h,p,hp=>by
  rcases mem_cons.1 hp with rfl | a
  ·exact h.1
  exact He.mem h.2 p a
theorem XK {ρ:Operand->Value} {l:List (Tmp×Value)} (h:He ρ l):TD l ρ=ρ:=by
 funext x
 cases x with
 | tmp t=>
  unfold TD
  cases hf:l.find? (λp=>p.1==t)with
  | none=>simp only[hf]
  | some p=>
   have hm:=mem_of_find?_eq_some hf;have ht:p.1=t:=by simpa using find?_some hf
   have:=h.mem p hm;rw[ht]at this;simp only[hf];exact this.symm
 | const v=>rfl
 | global g=>rfl
 | func f=>rfl
theorem AL.over {P:Program} {o:Oper} {ρ:Operand->Value} {w:World} {K:Value->World->Prop} (l:List (Tmp×Value)) (h:He ρ l) (a:AL P o (TD l ρ) w K):AL P o ρ w K:=by rw[XK h]at a;exact a
def KV (vals:Nat->Value):List (Tmp×Nat×Value)->Prop
 | []=>True
 | p::l=>vals p.2.1=p.2.2/\KV vals l
def KA (a0:Act):List (Tmp×Value)->Prop
 | []=>True
 | p::l=>a0.eval (.tmp p.1)=p.2/\KA a0 l
theorem RX {a0:Act} {W:Wr} {vals:Nat->Value}:∀ {l:List (Tmp×Nat×Value)},(∀p∈l,W.of p.1=some p.2.1)->KV vals l->∀ {r:List (Tmp×Value)},He (F5 a0 W vals) r->He (F5 a0 W vals) (l.map (λp=>(p.1,p.2.2))++r)
 | [],_,_,_,h=>h
 | p::l,hw,hv,r,h=>by refine⟨?_,RX (λq a=>hw q (by simp[a])) hv.2 h⟩;have:=hw p (by simp);unfold F5;simp only[this];exact hv.1
theorem TK {a0:Act} {W:Wr} {vals:Nat->Value}:∀ {l:List (Tmp×Value)},(∀p∈l,W.of p.1=none)->KA a0 l->He (F5 a0 W vals) l
 | [],_,_=>trivial
 | p::l,hw,hv=>by refine⟨?_,TK (λq a=>hw q (by simp[a])) hv.2⟩;have:=hw p (by simp);unfold F5;simp only[this];exact hv.1
theorem AL.known {P:Program} {o:Oper} {a0:Act} {W:Wr} {vals:Nat->Value} {w:World} {K:Value->World->Prop} (l:List (Tmp×Nat×Value)) (r:List (Tmp×Value))
  (hc:(l.all (λp=>W.of p.1==some p.2.1)&&r.all (λp=>W.of p.1==none))=true) (hv:KV vals l) (ha:KA a0 r)
  (a:AL P o (TD (l.map (λp=>(p.1,p.2.2))++r) (F5 a0 W vals)) w K):AL P o (F5 a0 W vals) w K:=by simp only[Bool.and_eq_true,all_eq_true,beq_iff_eq]at hc;exact AL.over _ (RX hc.1 hv (TK hc.2 ha)) a
theorem AL.loadMid {P:Program} {o:Oper} {ρ:Operand->Value} {w:World} {K:Value->World->Prop} (ty:TypeId) (x:Operand) (ho:o.op=.load ty x)
  {b off:Nat} (hx:ρ x=.pointer (some ⟨b,off,none⟩)) (cs:List Value) (hc:w.rangeAt b off cs) (hr:(P.underlying ty).map TypeDesc.isRow=some true) (hi:(P.info? ty).map (·.size)=some cs.length)
  (a:K (.agg cs.toArray) w):AL P o ρ w K:=by
 cases hu:P.underlying ty with
 | none=>rw[hu]at hr;cases hr
 | some d=>
  have hd:d.isRow=true:=by rw[hu]at hr;exact Option.some.inj hr
  refine AL.value (v:=.agg cs.toArray) (w':=w) ?_ a;unfold execOp;simp only[ho,hx,Instr.loadAt,Instr.sureAddr,Sem.run_bind,Sem.run_pure,Result.andThen_ok,run_loadVar_mid w b off ty cs d hc hu hd hi]
theorem AL.loadOne {P:Program} {o:Oper} {ρ:Operand->Value} {w:World} {K:Value->World->Prop} (ty:TypeId) (x:Operand) (ho:o.op=.load ty x)
  {a:Addr} (hx:ρ x=.pointer (some a)) {v:Value} (hc:w.cell? a=some v) (hg:(isAgg ty).run P w=.ok false w)
  (b:K v w):AL P o ρ w K:=by
 refine AL.value (v:=v) (w':=w) ?_ b;unfold execOp;have hl:(load a).run P w=.ok v w:=by unfold load;simp[Sem.run,hc]
 simp only[ho,hx,Instr.loadAt,Instr.sureAddr,Sem.run_bind,Sem.run_pure,Result.andThen_ok,loadVar,hg,Bool.false_eq_true,if_false,hl]
def Av (i:Nat) (B:List Nat) (v:Value):DA:=⟨i,B,[i],λvs _=>vs=[v]⟩
def Fr (n:Nat) (E:Nat->Value):Act:=⟨((List.range n).map E).toArray,[]⟩
def KI (E:Nat->Value) (d:Nat) (v:Value):Nat->Value:=λt=>if t=d then v else E t
def A8 (E:Nat->Value):Option Tmp->Value->Nat->Value
 | some d,v=>KI E d v
 | none,_=>E
theorem Jr (n t:Nat):(List.range n)[t]?=if t<n then some t else none:=by
 by_cases h:t<n
 ·rw[if_pos h,getElem?_range h]
 rw[if_neg h,getElem?_eq_none (by simpa using h)]
theorem OO (n:Nat) (E:Nat->Value) (t:Nat):(Fr n E).tmps[t]?=if t<n then some (E t)else none:=by
 unfold Fr;rw[getElem?_toArray,getElem?_map,Jr]
 split<;>rfl
theorem Ss (n:Nat) (E:Nat->Value):(Fr n E).tmps.size=n:=by simp[Fr]
theorem xz {a a':Act} (h:∀t:Nat,a.tmps[t]?=a'.tmps[t]?) (hd:a.defers=a'.defers):a=a':=by
 cases a;cases a'
 simp only at hd;subst hd;congr;exact Array.ext_getElem? h
theorem Eo (n:Nat) (E:Nat->Value) (d:Option Tmp) (v:Value):(Fr n E).put d v=Fr n (A8 E d v):=by
 refine xz (λt=>?_) (by rw[SI];rfl);rw[Ki,OO,Ss,OO]
 cases d with
 | none=>simp[A8]
 | some d=>
  by_cases h:d=t
  ·subst h;by_cases hl:d<n<;>simp[A8,KI,hl]
  have:¬t=d:=λe=>h e.symm;simp[A8,KI,h,this]
def BK (n:Nat) (E:Nat->Value):Operand->Value
 | .tmp t=>match decide (t<n)with
  | true=>E t
  | false=>undef
 | .const v=>v
 | .global g=>.pointer (some ⟨g,0,none⟩)
 | .func f=>.func (.func f) #[] #[]
theorem D8 (n:Nat) (E:Nat->Value):(Fr n E).eval=BK n E:=by
 funext x
 cases x with
 | tmp t=>
  show(Fr n E).tmps.getD t undef=_;rw[Array.getD_eq_getD_getElem?,OO];unfold BK;by_cases h:t<n<;>simp[h]
 | const v=>rfl
 | global g=>rfl
 | func f=>rfl
def IU (n:Nat) (ops:Array Oper) (E:Nat->Value) (j:Nat):Option Bool:=
 match (ops[j]?).bind (·.dst)with
 | some t=>match BK n E (.tmp t)with
  | .bool b=>some b
  | _=>none
 | none=>none
theorem Fi (n:Nat) (ops:Array Oper) (E:Nat->Value):yielded ops (Fr n E).tmps=IU n ops E:=by
 funext j;unfold yielded IU
 cases (ops[j]?).bind (·.dst)with
 | none=>rfl
 | some t=>
  simp only[Option.bind_some,OO];unfold BK;by_cases h:t<n
  ·simp only[h,if_true,decide_true]
   cases E t<;>rfl
  simp[h,undef]
structure Ax where
 id:Nat
 off:Nat
 cells:List Value
 ty:TypeId
 own:Bool
structure MS where
 sz:Nat
 mem:List Ax
 hint:Nat×Nat
 eqs:List (Nat×Nat)
def one:Value->Bool
 | .agg _ | .tuple _=>false
 | _=>true
def Ce {α:Type} (P:Program):Sem α->MS->Option (α×MS)
 | .pure a,s=>some (a,s)
 | .load _ a k,s=>match s.mem[s.hint.1]? with
  | some e=>match e.cells[s.hint.2]?,a.spot with
   | some v,none=>Ce P (k v) { s with hint:=(s.hint.1,s.hint.2+1),eqs:=(a.block,e.id)::(a.off,e.off+s.hint.2)::s.eqs }
   | _,_=>none
  | none=>none
 | .store _ a v k,s=>match one v with
  | false=>none
  | true=>match s.mem[s.hint.1]? with
   | some e=>match e.own,a.spot,decide (s.hint.2<e.cells.length)with
    | true,none,true=>Ce P k { s with mem:=s.mem.set s.hint.1 { e with cells:=e.cells.set s.hint.2 v },hint:=(s.hint.1,s.hint.2+1),eqs:=(a.block,e.id)::(a.off,e.off+s.hint.2)::s.eqs }
    | _,_,_=>none
   | none=>none
 | .new o k,s=>match o with
  | .cells c t (0,0)=>Ce P (k s.sz) { s with sz:=s.sz+1,mem:=s.mem++[⟨s.sz,0,c.toList,t,true⟩] }
  | _=>none
 | .program k,s=>Ce P (k P) s
 | .mark _ k,s=>Ce P k s
 | _,_=>none
def Ax.good (w:World) (e:Ax):Prop:=
 e.id<w.heap.size/\(if e.own then w.heap[e.id]?=some (.cells e.cells.toArray e.ty (0,0))/\e.off=0 else w.rangeAt e.id e.off e.cells)
structure SA (w:World) (sz:Nat) (mem:List Ax):Prop where
 size:w.heap.size=sz
 good:∀e∈mem,e.good w
 apart:∀(i j:Nat) (e e':Ax),mem[i]?=some e->mem[j]?=some e'->e.own=true->i≠j->e.id≠e'.id
structure FN (O:List Nat) (B:Nat) (w w':World):Prop where
 os:w'.os=w.os
 tape:w'.tape=w.tape
 output:w'.output=w.output
 size:w.heap.size<=w'.heap.size
 block:∀k,k<B->k∉O->w'.heap[k]?=w.heap[k]?
theorem FN.refl (O:List Nat) (B:Nat) (w:World):FN O B w w:=⟨rfl,rfl,rfl,Nat.le_refl _,λ_ _ _=>rfl⟩
theorem FN.trans {O:List Nat} {B:Nat} {u v w:World} (h:FN O B u v) (k:FN O B v w):FN O B u w:=
 ⟨k.os.trans h.os,k.tape.trans h.tape,k.output.trans h.output,Nat.le_trans h.size k.size,λi hi ho=>(k.block i hi ho).trans (h.block i hi ho)⟩
theorem JO (w:World) (a:Addr) (u:Value) (k:Nat) (h:k≠a.block):(w.setCell a u).heap[k]?=w.heap[k]?:=heap_setCell_other w a k u h
theorem IG (w:World) (o:Obj) (k:Nat) (h:k<w.heap.size):(w.alloc o).heap[k]?=w.heap[k]?:=Array.getElem?_push_lt h |>.trans (Array.getElem?_eq_getElem h).symm
theorem FI {w:World} {e:Ax} {a:Addr} {j:Nat} {v:Value} (h:e.good w) (hv:e.cells[j]?=some v) (h1:a.block=e.id) (h2:a.off=e.off+j) (h3:a.spot=none):w.cell? a=some v:=by
 obtain⟨blk,off,spot⟩:=a;simp only at h1 h2 h3;subst h1 h2 h3;obtain⟨_,hg⟩:=h
 split at hg
 ·obtain⟨hb,h0⟩:=hg;unfold World.cell?;simp only[hb,h0];simpa using hv
 exact hg j v hv
theorem SO {w:World} {e:Ax} {a:Addr} (h:e.good w) (ho:e.own=true) (h1:a.block=e.id):w.frozen? a=false:=by obtain⟨_,hg⟩:=h;rw[if_pos ho]at hg;unfold World.frozen?;rw[h1,hg.1];simp
theorem To {w:World} {a:Addr} {v:Value} {C:List Value} {T:TypeId} (h:w.heap[a.block]?=some (.cells C.toArray T (0,0))) (hs:a.spot=none):(w.setCell a v).heap[a.block]?=some (.cells (C.set a.off v).toArray T (0,0)):=by unfold World.setCell;simp[Array.getElem?_modify,h,hs]
theorem qm {w:World} {e:Ax} {a:Addr} {v:Value} (h:e.good w) (hne:e.id≠a.block):e.good (w.setCell a v):=by
 have hb:(w.setCell a v).heap[e.id]?=w.heap[e.id]?:=JO _ _ _ _ hne;obtain⟨h0,hg⟩:=h;refine⟨by simpa[World.setCell]using h0,?_⟩
 split at hg
 ·rename_i ho;rw[if_pos ho,hb];exact hg
 rename_i ho
 rw[if_neg ho];intro j x hx;rw[World.cell?_of_block (w:=w) hb];exact hg j x hx
theorem gg {w:World} {e:Ax} (h:e.good w) (o:Obj):e.good (w.alloc o):=by
 have hb:(w.alloc o).heap[e.id]?=w.heap[e.id]?:=IG _ _ _ h.1;obtain⟨h0,hg⟩:=h;refine⟨by simp;omega,?_⟩
 split at hg
 ·rename_i ho;rw[if_pos ho,hb];exact hg
 rename_i ho
 rw[if_neg ho];intro j x hx;rw[World.cell?_of_block (w:=w) hb];exact hg j x hx
theorem qn (w:World) (c:List Value) (t:TypeId):(⟨w.heap.size,0,c,t,true⟩:Ax).good (w.alloc (.cells c.toArray t (0,0))):=by refine⟨by simp,?_⟩;rw[if_pos rfl];exact⟨heap_alloc_new _ _,rfl⟩
theorem Ms {α:Type} {P:Program}:∀(s:Sem α) (m m':MS) (a:α),Ce P s m=some (a,m')->∀p∈m.eqs,p∈m'.eqs:=by
 intro s
 induction s with
 | pure a=>intro m m' x h p hp;simp only[Ce,Option.some.injEq,Prod.mk.injEq]at h;rw[<-h.2];exact hp
 | load md a k ih=>
  intro m m' x h p hp;unfold Ce at h
  split at h
  ·split at h
   ·exact ih _ _ _ _ h p (by simp[hp])
   cases h
  cases h
 | store md a v k ih=>
  intro m m' x h p hp;unfold Ce at h
  split at h
  ·cases h
  split at h
  ·split at h
   ·exact ih _ _ _ h p (by simp[hp])
   cases h
  cases h
 | new o k ih=>
  intro m m' x h p hp;unfold Ce at h
  split at h
  ·exact ih _ _ _ _ h p hp
  cases h
 | program k ih=>intro m m' x h p hp;unfold Ce at h;exact ih _ _ _ _ h p hp
 | mark mk k ih=>intro m m' x h p hp;unfold Ce at h;exact ih _ _ _ h p hp
 | shape r k ih=>intro m m' x h;unfold Ce at h;cases h
 | freeze a n k ih=>intro m m' x h;unfold Ce at h;cases h
 | frozen a k ih=>intro m m' x h;unfold Ce at h;cases h
 | getObj r k ih=>intro m m' x h;unfold Ce at h;cases h
 | setObj r o k ih=>intro m m' x h;unfold Ce at h;cases h
 | choose q k ih=>intro m m' x h;unfold Ce at h;cases h
 | sys c k ih=>intro m m' x h;unfold Ce at h;cases h
 | halt hh=>intro m m' x h;unfold Ce at h;cases h
theorem SA.set {w:World} {sz:Nat} {mem:List Ax} (h:SA w sz mem) {i j:Nat} {e:Ax} (hi:mem[i]?=some e) (ho:e.own=true) {a:Addr} {v:Value} (h1:a.block=e.id) (h2:a.off=e.off+j) (h3:a.spot=none) :
  SA (w.setCell a v) sz (mem.set i { e with cells:=e.cells.set j v }):=by
 have hil:i<mem.length:=(List.getElem?_eq_some_iff.1 hi).1;have hg:=h.good e (mem_of_getElem? hi);have hg2:=hg.2;rw[if_pos ho]at hg2;refine⟨by simpa[World.setCell]using h.size,?_,?_⟩
 ·intro e' he';obtain⟨k,hk⟩:=mem_iff_getElem?.1 he';rw[getElem?_set]at hk;by_cases hik:i=k
  ·subst hik;rw[if_pos rfl,if_pos hil]at hk;obtain rfl:=Option.some.inj hk;refine⟨by simpa[World.setCell]using hg.1,?_⟩;rw[if_pos (show({ e with cells:=e.cells.set j v }:Ax).own=true from ho)];refine⟨?_,hg2.2⟩;have:=To (v:=v) (a:=a) (by rw[h1];exact hg2.1) h3;rw[h1]at this;rw[h2,hg2.2,Nat.zero_add]at this;exact this
  have hne:=hik;rw[if_neg hik]at hk;refine qm (h.good e' (mem_of_getElem? hk)) ?_;rw[h1];exact λe0=>h.apart i k e e' hi hk ho hne e0.symm
 intro p q x y hp hq hx hne;have hid:∀(k:Nat) (z:Ax),(mem.set i { e with cells:=e.cells.set j v })[k]?=some z->∃z',mem[k]?=some z'/\z'.id=z.id/\z'.own=z.own:=by
  intro k z hz;rw[getElem?_set]at hz;by_cases hik:i=k
  ·subst hik;rw[if_pos rfl,if_pos hil]at hz;obtain rfl:=Option.some.inj hz;exact⟨e,hi,rfl,rfl⟩
  rw[if_neg hik]at hz;exact⟨z,hz,rfl,rfl⟩
 obtain⟨x',hx',ex,eo⟩:=hid p x hp;obtain⟨y',hy',ey,_⟩:=hid q y hq;rw[<-ex,<-ey];exact h.apart p q x' y' hx' hy' (eo.trans hx) hne
theorem SA.new {w:World} {sz:Nat} {mem:List Ax} (h:SA w sz mem) (c:List Value) (t:TypeId):SA (w.alloc (.cells c.toArray t (0,0))) (sz+1) (mem++[⟨sz,0,c,t,true⟩]):=by
 have hz:=h.size;subst hz;refine⟨by simp,?_,?_⟩
 ·intro e he;rw[mem_append,mem_singleton]at he;rcases he with he | rfl
  ·exact gg (h.good e he) _
  exact qn w c t
 intro i j e e' hi hj ho hne;have key:∀(k:Nat) (z:Ax),(mem++[(⟨w.heap.size,0,c,t,true⟩:Ax)])[k]?=some z->(mem[k]?=some z/\z.id<w.heap.size)\/(k=mem.length/\z.id=w.heap.size):=by
  intro k z hz;rw[getElem?_append]at hz
  split at hz
  ·exact .inl ⟨hz,(h.good z (mem_of_getElem? hz)).1⟩
  rename_i hk
  cases hkk:k-mem.length with
  | zero=>
   rw[hkk]at hz;simp at hz;subst hz;exact .inr ⟨by omega,rfl⟩
  | succ n=>rw[hkk]at hz;simp at hz
 rcases key i e hi with⟨a1,a2⟩ | ⟨a1,a2⟩<;>rcases key j e' hj with⟨b1,b2⟩ | ⟨b1,b2⟩
 ·exact h.apart i j e e' a1 b1 ho hne
 ·omega
 ·omega
 omega
theorem l6 {α:Type} {P:Program} {md:Mode} {a:Addr} {v u:Value} {k:Sem α} {w:World} (hv:one v=true) (hc:w.cell? a=some u) (hf:w.frozen? a=false):(Sem.store md a v k).run P w=k.run P (w.setCell a v):=by cases v<;>first | (cases hv;done) | simp[Sem.run,hc,hf]
theorem KT {α:Type} {P:Program} {O:List Nat} {B:Nat}:∀(s:Sem α) (m m':MS) (a:α) (w:World),Ce P s m=some (a,m')->SA w m.sz m.mem->B<=w.heap.size->(∀e∈m.mem,e.own=true->e.id∈O\/B<=e.id)->(∀p∈m'.eqs,p.1=p.2)->
  ∃w',s.run P w=.ok a w'/\SA w' m'.sz m'.mem/\FN O B w w'/\(∀e∈m'.mem,e.own=true->e.id∈O\/B<=e.id):=by
 intro s
 induction s with
 | pure a=>
  intro m m' x w h hS hB hO he;simp only[Ce,Option.some.injEq,Prod.mk.injEq]at h;obtain⟨rfl,rfl⟩:=h;exact⟨w,rfl,hS,.refl _ _ _,hO⟩
 | load md a k ih=>
  intro m m' x w h hS hB hO he;unfold Ce at h
  split at h
  ·rename_i e hm
   split at h
   ·rename_i v hv hsp
    have hq:=Ms _ _ _ _ h;have e1:=he _ (hq (a.block,e.id) (by simp));have e2:=he _ (hq (a.off,e.off+m.hint.2) (by simp));obtain⟨w',h1,h2,h3,h4⟩:=ih v _ _ _ w h hS hB hO he;refine⟨w',?_,h2,h3,h4⟩;unfold Sem.run;rw[FI (hS.good e (mem_of_getElem? hm)) hv e1 e2 hsp];exact h1
   cases h
  cases h
 | store md a v k ih=>
  intro m m' x w h hS hB hO he;unfold Ce at h
  split at h
  ·cases h
  rename_i hone
  split at h
  ·rename_i e hm
   split at h
   ·rename_i ho hsp hlt
    have hq:=Ms _ _ _ _ h;have e1:=he _ (hq (a.block,e.id) (by simp));have e2:=he _ (hq (a.off,e.off+m.hint.2) (by simp));simp only at e1 e2;have hl:m.hint.2<e.cells.length:=by simpa using hlt
    have hS':=hS.set hm ho (v:=v) e1 e2 hsp;have hg:=hS.good e (mem_of_getElem? hm);have hc:=FI hg (getElem?_eq_getElem hl) e1 e2 hsp;have hf:=SO hg ho e1;have hsz:(w.setCell a v).heap.size=w.heap.size:=by simp[World.setCell]
    obtain⟨w',h1,h2,h3,h4⟩:=ih _ _ _ (w.setCell a v) h hS' (by rw[hsz];exact hB) (λz hz hzo=>by
     obtain⟨k,hk⟩:=mem_iff_getElem?.1 hz;rw[getElem?_set]at hk;by_cases hik:m.hint.1=k
     ·rw[if_pos hik,if_pos (List.getElem?_eq_some_iff.1 hm).1]at hk;obtain rfl:=Option.some.inj hk;exact hO e (mem_of_getElem? hm) ho
     rw[if_neg hik]at hk;exact hO z (mem_of_getElem? hk) hzo) he
    refine⟨w',?_,h2,FN.trans (v:=w.setCell a v) ⟨rfl,rfl,rfl,Nat.le_of_eq hsz.symm,λi hi hno=>?_⟩ h3,h4⟩
    ·rw[l6 hone hc hf];exact h1
    refine JO _ _ _ _ (λhik=>?_);rw[e1]at hik;rcases hO e (mem_of_getElem? hm) ho with h5 | h5
    ·exact hno (hik ▸ h5)
    omega
   cases h
  cases h
 | new o k ih=>
  intro m m' x w h hS hB hO he;unfold Ce at h
  split at h
  ·rename_i c t
   have hS':=hS.new c.toList t;obtain⟨w',h1,h2,h3,h4⟩:=ih _ _ _ _ (w.alloc (.cells c.toList.toArray t (0,0))) h hS' (by simp;omega) (λz hz hzo=>by
    rw[mem_append,mem_singleton]at hz;rcases hz with hz | rfl
    ·exact hO z hz hzo
    right;rw[<-hS.size];exact hB) he
   refine⟨w',?_,h2,FN.trans (v:=w.alloc (.cells c.toList.toArray t (0,0))) ⟨rfl,rfl,rfl,by simp,λi hi _=>IG _ _ _ (by omega)⟩ h3,h4⟩;rw[<-h1,<-hS.size];rfl
  cases h
 | program k ih=>
  intro m m' x w h hS hB hO he;unfold Ce at h;obtain⟨w',h1,h2⟩:=ih _ _ _ _ w h hS hB hO he;exact⟨w',h1,h2⟩
 | mark mk k ih=>
  intro m m' x w h hS hB hO he;unfold Ce at h;obtain⟨w',h1,h2⟩:=ih _ _ _ w h hS hB hO he;exact⟨w',h1,h2⟩
 | shape r k ih=>intro m m' x w h;unfold Ce at h;cases h
 | freeze a n k ih=>intro m m' x w h;unfold Ce at h;cases h
 | frozen a k ih=>intro m m' x w h;unfold Ce at h;cases h
 | getObj r k ih=>intro m m' x w h;unfold Ce at h;cases h
 | setObj r o k ih=>intro m m' x w h;unfold Ce at h;cases h
 | choose q k ih=>intro m m' x w h;unfold Ce at h;cases h
 | sys c k ih=>intro m m' x w h;unfold Ce at h;cases h
 | halt hh=>intro m m' x w h;unfold Ce at h;cases h
abbrev N (i:Nat) (cs:List Value) (t:TypeId):Ax:=⟨i,0,cs,t,true⟩
end Go.Proofs.YtkpemkkbjfbmaaaGreat

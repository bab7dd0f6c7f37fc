/-
  Part 22 of a proof: contracts of functions.
-/
import Derived.Test.YtkjbdagicjbjjaaGreatTf21
set_option linter.all false
namespace Go.Proofs.YtkjbdagicjbjjaaGreat
open Go.RowKit
set_option maxRecDepth 100000
section
variable {P:Program} {n:Nat} {ops:Array Oper} {mem:List Az} {hints:List (Nat×Nat×Nat)} {specs:List Sp} {E:Nat→Value}
def dx (ops:Array Oper) (m:List Nat) (a:Nat):Bool:=((m++[a]).all fun i=>(ops.getD i default).op.operands.toList.all fun x=>match x with
 | .tmp t=>!(Ck ops a == some t)
 | _=>true) && JQ (ops.getD a default)
theorem jj {m:List Nat} {a i:Nat} {vals:Nat→Value} {u:World} (hi:i∈m++[a]) (r:((m++[a]).all fun i=>(ops.getD i default).op.operands.toList.all fun x=>match x with
 | .tmp t=>!(Ck ops a == some t)
 | _=>true)=true) (hop:(ops.getD i default).op.operands.toList.map (MI P n ops mem hints specs m E vals i)=(ops.getD i default).op.operands.toList.map (Ax n (EP P n ops mem hints specs m E i)))
  (hb:FP (EL ops m i) vals u (D7 P n ops mem hints specs m E)):∀ x∈(ops.getD i default).op.operands,C0 n E (DC ops (m++[a])) vals x=Ax n (EP P n ops mem hints specs m E i) x:=fun x hx=>by
 have e:∀ t,Operand.tmp t∈(ops.getD i default).op.operands→(DC ops (m++[a])).of t=(DC ops m).of t:=fun t ht=>by
  have v:=List.all_eq_true.1 (List.all_eq_true.1 r i hi) _ (Array.mem_toList_iff.2 ht)
  simp only [Bool.not_eq_true',beq_eq_false_iff_ne] at v
  unfold DC
  rw [List.filterMap_append]
  refine Wr.of_left fun p y he=>v ?_
  obtain ⟨k,d,b⟩:=List.mem_filterMap.1 y
  obtain rfl:=List.mem_singleton.1 d
  obtain ⟨w,h,rfl⟩:=Option.map_eq_some_iff.1 b
  rw [h,← he]
 have h2:MI P n ops mem hints specs m E vals i x=Ax n (EP P n ops mem hints specs m E i) x:=by
  have g:x∈(ops.getD i default).op.operands.toList:=Array.mem_toList_iff.2 hx
  obtain ⟨k,b⟩:=List.mem_iff_getElem?.1 g
  have s:=congrArg (fun l=>l[k]?) hop
  simp only [List.getElem?_map,b,Option.map_some,Option.some.injEq] at s
  exact s
 rw [← h2]
 cases x with
 | tmp t=>
  unfold C0 MI
  have f:=e t hx
  cases hW:(DC ops m).of t with
  | none=>rw [hW] at f; simp only [hW,f]
  | some j=>
   rw [hW] at f
   simp only [hW,f]
   cases hc:(EL ops m i).contains j with
   | false=>rfl
   | true=>
    have z:j∈m:=by
     unfold Wr.of at hW
     obtain ⟨p,q,o⟩:=Option.map_eq_some_iff.1 hW
     have c:=List.mem_of_find?_eq_some q
     unfold DC at c
     obtain ⟨k,d,b⟩:=List.mem_filterMap.1 c
     obtain ⟨w,_,rfl⟩:=Option.map_eq_some_iff.1 b
     rw [← o]
     exact d
    exact IJ hb j z hc
 | _=>rfl
end
def Ln (w:World) (a:Nat) (bef:List Nat) (vf:Nat→Value) (T:TypeId) (zero:List Value):Ct:=⟨a,bef,[a],fun vs u=>∃ g,vs=[vf g]∧w.heap.size≤g∧Az.good u ⟨g,0,zero,T,true⟩⟩
theorem nr {P:Program} {n:Nat} {ops:Array Oper} {Q:Exit→Act→World→Prop} {E:Nat→Value} {w0 w:World} {M:List Az} {L T:List Th} (K:Wk w0 w M L T) {mem:List Az} (m:List Nat) (a:Nat) (o:Nat→Value) (p:TypeId) (zero:List Value) (hints:List (Nat×Nat×Nat)) (specs:List Sp) (r:Nat)
  (hM:∀ e∈mem,e.good w) (hS:∀ v,Below w.heap.size w v→∀ sp∈specs,Eg P n (Below v.heap.size v) ops sp)
  (hok:(EZ .any ops (DC ops (m++[a])) (Array.replicate ops.size false) n (D7 P n ops mem hints specs m E++[Ln w a (EL ops m a) o p zero]) && Gc ops (D7 P n ops mem hints specs m E++[Ln w a (EL ops m a) o p zero]),m.all (Ed P n ops mem hints specs m E),Nat.beq (m.length + 1 + r) ops.size,dx ops m a)=(true,true,true,true))
  (ha:∀ z,(CL P (execOp (Ax n (EP P n ops mem hints specs m E a)) (ops.getD a default)) ⟨z,[],(0,0),[]⟩).map (fun r=>(Do r.1,r.2.mem,r.2.eqs))=some (some (o z),[⟨z,0,zero,p,true⟩],[]))
  (a1:∀ X,(ops.getD a default).op.operands.toList.map (MI P n ops mem hints specs m E X a)=(ops.getD a default).op.operands.toList.map (Ax n (EP P n ops mem hints specs m E a)))
  (hp:∀ X,I3 P n ops mem hints specs m E X=Gv P n ops mem hints specs m E)
  (hk:∀ u g,Wk w0 u (M++[⟨g,0,zero,p,true⟩]) L T→wpAny P .any ops Q r ((m++[a]).foldl (fun b i=>b.setIfInBounds i true) (Array.replicate ops.size false)) (Fr n (Aq (Cm P n ops mem hints specs m E) (Ck ops a) (o g))) u):wpAny P .any ops Q ops.size (Array.replicate ops.size false) (Fr n E) w.drew:=by
 simp only [Prod.mk.injEq] at hok
 obtain ⟨hok,z0,x0,hX⟩:=hok
 unfold dx at hX
 rw [Bool.and_eq_true] at hX
 obtain ⟨t0,h0⟩:=hX
 have hN:m.length + 1 + r=ops.size:=Nat.eq_of_beq_eq_true x0
 have parts:∀ l:List Nat,(∀ i∈l,i∈m)→I9 P ops n E (DC ops (m++[a])) (fun u=>Below w.heap.size w u) (fun u u'=>Below u.heap.size u u') (D7 P n ops mem hints specs m E++[Ln w a (EL ops m a) o p zero]) (l.map (fun i=>BV i (EL ops m i) (Da P n ops mem hints specs m E i))++[Ln w a (EL ops m a) o p zero]):=by
  intro l
  induction l with
  | nil=>
   intro _
   refine ⟨⟨fun _ _ _ _ he h=>?_,fun vals u hu hb=>?_⟩,trivial⟩
   ·obtain ⟨g,h1,h2,h3⟩:=h
    exact ⟨g,h1,h2,F6 h3 he.size (he.block _ h3.1)⟩
   ·show AM P (ops.getD a default) (C0 n E (DC ops (m++[a])) vals) u _
    replace hb:=HV hb
    have d0:∀ K',AM P (ops.getD a default) (Ax n (EP P n ops mem hints specs m E a)) u K'→AM P (ops.getD a default) (C0 n E (DC ops (m++[a])) vals) u K':=fun K' h=>by
     unfold AM at h ⊢
     rw [execOp_congr (ρ:=C0 n E (DC ops (m++[a])) vals) (ρ':=Ax n (EP P n ops mem hints specs m E a)) _ (fun cs b hh=>by unfold JQ at h0; rw [hh] at h0; cases h0) (jj (by simp) t0 (a1 vals) hb)]
     exact h
    refine d0 _ ?_
    have i1:=ha u.heap.size
    obtain ⟨x,hx,i0⟩:=Option.map_eq_some_iff.1 i1
    obtain ⟨nx,a0⟩:=x
    simp only [Prod.mk.injEq] at i0
    obtain ⟨e1,e2,e3⟩:=i0
    have v0:nx=.value (o u.heap.size)∨(nx=.skip∧o u.heap.size=undef):=by
     cases nx <;> simp [Do] at e1
     ·exact .inl (by rw [e1])
     ·exact .inr ⟨rfl,e1.symm⟩
    refine AM.runsK (O:=[]) (B:=u.heap.size) ⟨u.heap.size,[],(0,0),[]⟩ a0 nx _ (hm:=hx) v0 (CH u) (by rw [e3]; rfl) fun w' hL hK=>?_
    have hB:Below u.heap.size u w':=hK.below (Nat.le_refl _) (fun k hk=>by cases hk)
    refine ⟨hu.trans (hB.mono hu.size),hB,u.heap.size,?_,hu.size,hL.sat.good _ (by rw [e2]; simp)⟩
    show [Dw vals a _ a]=_
    unfold Dw
    rw [if_pos rfl]
  | cons i l ih=>
   intro hl
   refine ⟨⟨fun _ _ _ _ _ h=>h,fun vals u hu hb=>?_⟩,ih fun j hj=>hl j (by simp [hj])⟩
   replace hb:=HV hb
   have c0:=hl i (by simp)
   have hs:=List.all_eq_true.1 z0 i c0
   unfold Ed at hs
   rw [Bool.and_eq_true] at hs
   have b0:Lv P n ops mem hints specs m E vals i=JT P n ops mem hints specs m E i:=by
    have h1:=hp vals
    unfold I3 Gv at h1
    exact (List.map_inj_left.1 h1) i c0
   unfold Lv JT at b0
   simp only [Prod.mk.injEq] at b0
   obtain ⟨hop,p0,d⟩:=b0
   have hρ:∀ x∈(ops.getD i default).op.operands,C0 n E (DC ops (m++[a])) vals x=Ax n (EP P n ops mem hints specs m E i) x:=jj (by simp [c0]) t0 hop hb
   have k0:∀ cs b,(ops.getD i default).op≠.select cs b:=fun cs b hh=>by
    have:=hs.1
    unfold JQ at this
    rw [hh] at this
    cases this
   show AM P (ops.getD i default) (C0 n E (DC ops (m++[a])) vals) u _
   have d0:∀ K',AM P (ops.getD i default) (Ax n (EP P n ops mem hints specs m E i)) u K'→AM P (ops.getD i default) (C0 n E (DC ops (m++[a])) vals) u K':=fun K' h=>by
    unfold AM at h ⊢
    rw [execOp_congr _ k0 hρ]
    exact h
   refine d0 _ ?_
   cases hsp:Gr specs i with
   | some sp=>
    rw [hsp] at p0 hs
    have q:=Ib hsp
    have hi:=q.2
    have m0:=hS u hu sp q.1 hs.2 (EP P n ops mem hints specs m E i) (IG p0) u (Below.refl _ _)
    rw [hi] at m0
    refine AM.of_quiet m0 (Below.refl _ _) fun w' j0=>⟨hu.trans (j0.mono hu.size),j0,?_⟩
    show [Dw vals i sp.v i]=[Da P n ops mem hints specs m E i]
    unfold Dw Da Lu
    rw [hsp,if_pos rfl]
   | none=>
    rw [hsp] at d hs
    simp only at d hs
    obtain ⟨x,hx⟩:=Option.isSome_iff_exists.1 hs.2
    rw [hx] at d
    simp only [Option.map_some,Option.some.injEq,Prod.mk.injEq] at d
    obtain ⟨nx,a0⟩:=x
    have f:=d.1
    cases nx with
    | value v=>
     simp only [Do,Option.some.injEq] at f
     refine AM.reads ⟨0,mem,He hints i,[]⟩ (CB hM hu) v (hv:=by rw [hx]; rfl) (he:=by rw [hx]; exact congrArg some d.2) ⟨hu,Below.refl _ _,?_⟩
     show [Dw vals i v i]=[Da P n ops mem hints specs m E i]
     unfold Dw
     rw [if_pos rfl,f]
    | skip=>
     simp only [Do,Option.some.injEq] at f
     have c1:(DO P (execOp (Ax n (EP P n ops mem hints specs m E i)) (ops.getD i default)) ⟨0,mem,He hints i,[]⟩)=some (.skip,a0):=hx
     have l0:=Fb (w:=u) _ _ _ _ c1 (CB hM hu) (H1 d.2)
     unfold AM
     rw [l0]
     refine ⟨hu,Below.refl _ _,?_⟩
     show [Dw vals i undef i]=[Da P n ops mem hints specs m E i]
     unfold Dw
     rw [if_pos rfl,f]
    | enter _ _=>simp [Do] at f
    | _=>simp [Do] at f
 have n0:(D7 P n ops mem hints specs m E++[Ln w a (EL ops m a) o p zero]).length=m.length + 1:=by unfold D7; rw [List.length_append,List.length_map]; rfl
 have y:(D7 P n ops mem hints specs m E++[Ln w a (EL ops m a) o p zero]).map (·.idx)=m++[a]:=by
  unfold D7
  rw [List.map_append,List.map_map]
  show m.map (fun i=>i)++[a]=_
  rw [List.map_id']
 have b1:(m++[a]).Nodup:=by
  have:=EY (by have h:=hok; rw [Bool.and_eq_true] at h; exact h.1)
  rw [← y]; exact this.nodup
 refine Dq (md:=.any) (fuel:=r) (L:=D7 P n ops mem hints specs m E++[Ln w a (EL ops m a) o p zero]) (W:=DC ops (m++[a])) (C:=fun u=>Below w.heap.size w u) (Ext:=fun u u'=>Below u.heap.size u u') (hok:=hok) (Below.refl _ _).drew (fun u=>Below.refl _ _) (fun a b c h k=>h.trans (k.mono h.size)) (parts m fun i hi=>hi) (by rw [n0,hN]) fun vals u hu _ s0=>?_
 obtain ⟨g0,e0⟩:=Jx s0
 obtain ⟨g,g1,f1,q0⟩:∃ g,vals a=o g∧w.heap.size≤g∧Az.good u ⟨g,0,zero,p,true⟩:=by
  obtain ⟨⟨g,h1,h2,h3⟩,_⟩:=e0
  exact ⟨g,(List.cons.inj h1).1,h2,h3⟩
 rw [y]
 have r0:Kq ops vals (m++[a]) E=Aq (Cm P n ops mem hints specs m E) (Ck ops a) (o g):=by
  unfold Kq
  rw [List.foldl_append]
  have:=L0 (mem:=mem) (hints:=hints) (specs:=specs) (P:=P) (n:=n) (E:=E) (vals:=vals) (List.nodup_append.1 b1).1 (fun j hj=>Ir g0 j hj)
  unfold Kq at this
  rw [this]
  show Aq _ _ (vals a)=_
  rw [g1]
 rw [r0]
 refine hk u g ?_
 have hO:Ac w.heap.size u [Th.ent ⟨g,0,zero,p,true⟩]:=⟨hu.size,fun i t hi=>?_,fun i t hi k hk=>?_,fun i j s t hi hj d1=>?_⟩
 ·have:=K.joinE (Z:=[]) hu hO
  rwa [List.append_nil] at this
 ·cases i with
  | zero=>obtain rfl:=Option.some.inj hi; exact q0
  | succ i=>simp at hi
 ·cases i with
  | zero=>
   obtain rfl:=Option.some.inj hi
   obtain rfl:k=g:=hk
   exact ⟨f1,q0.1⟩
  | succ i=>simp at hi
 ·cases i with
  | zero=>cases j with
   | zero=>exact absurd rfl d1
   | succ j=>simp at hj
  | succ i=>simp at hi
end Go.Proofs.YtkjbdagicjbjjaaGreat
namespace Go.Proofs.YtkjbdagicjbjjaaGreat
open Go.RowKit
set_option maxRecDepth 100000
set_option maxHeartbeats 1000000
set_option linter.unusedSectionVars false
section
variable {α β:Type} [DecidableEq α] (S:BT α β) {b:Nat} {w:World} {L:List Th} {ρ:Operand→Value}
theorem JS (H:Ac b w L) (i:Nat) {g:Nat} {m:List (α×β)} (hi:L[i]?=some (S.th g m)) (a:α) (v:β) (ha:S.ka a) (hv:S.ea v) (o:Oper) {t:TypeId} {x y z:Operand} (ho:o.op=.mapUpdate t x y z) (ht:t=S.t)
  (hx:ρ x=.map (some g)) (f:ρ y=S.kv a) (hz:ρ z=S.ev v) (hm:m.length < 100000000000):∃ w',(execOp ρ o).run Tryz.prog w=.ok .skip w'∧Ac b w' (L.set i (S.th g ((a,v) :: m)))∧Below b w w':=by
 subst ht
 obtain ⟨w',h,h2,c⟩:=S.store (H.all i _ hi) a v ha hv (by unfold maxLen; omega)
 have hl:=(H.lo i _ hi g rfl)
 have e:(execOp ρ o).run Tryz.prog w=.ok .skip w':=by
  unfold execOp
  simp only [ho,hx,f,hz]
  rw [Sem.run_bind,h]
  rfl
 refine ⟨w',e,H.set i hi c.size h2 (fun q d=>?_) (fun q d hf=>c.block q d fun he=>hf (Option.some.inj he)),⟨c.os,c.tape,c.output,c.size,fun q d=>c.block q (Nat.lt_of_lt_of_le d H.base) fun he=>?_⟩⟩
 ·obtain rfl:q=g:=d
  exact ⟨World.ownsMap.lt h2.1,.inl rfl⟩
 ·have:=Option.some.inj he
  omega
def BT.thO:Option Nat→List (α×β)→Th
 | none,m=>⟨fun _=>False,fun _=>m=[],fun _ _ h _ _=>h⟩
 | some b,m=>S.th b m
theorem BT.thO_at {A:Option Nat} {m:List (α×β)} {w:World} (h:(S.thO A m).P w):S.optAt A m w:=by
 cases A with
 | none=>exact h
 | some b=>exact h
end
theorem M2 {P:Program} {f:FuncId} {R:Ending→World→Prop} {n:Nat} {todo:List Item} {E:Nat→Value} {w0 w:World} {M:List Az} {L T:List Th} (K:Wk w0 w M L T) {mem:List Az} (m:List Nat) (hints:List (Nat×Nat×Nat)) (specs:List Sp) (i:Nat)
  (g:∀ e∈mem,e.good w) (d:∀ sp∈specs,Eg P n (Below w.heap.size w) (AS todo) sp)
  (h:∀ u,Wk w0 u M L T→∃ a,(execOp (Ax n (Cm P n (AS todo) mem hints specs m E)) ((AS todo).getD i default)).run P u=.ok .skip a∧At P f R (AL todo) (Fr n (Aq (Cm P n (AS todo) mem hints specs m E) ((AS todo).getD i default).dst undef)) a)
  (hd:(Ek todo).isSome=true:=by kernel_rfl) (hmo:P.follows .mixedOrders=true:=by kernel_rfl)
  (hok:(EZ .any (AS todo) (DC (AS todo) m) (Array.replicate (AS todo).size false) n (D7 P n (AS todo) mem hints specs m E) && Gc (AS todo) (D7 P n (AS todo) mem hints specs m E),m.all (Ed P n (AS todo) mem hints specs m E),Nat.beq (m.length + 1) (AS todo).size)=(true,true,true):=by kernel_rfl)
  (hp:∀ X,I3 P n (AS todo) mem hints specs m E X=Gv P n (AS todo) mem hints specs m E:=by intro _; kernel_rfl)
  (hc:(Region.ready .any (AS todo) (m.foldl (fun b i=>b.setIfInBounds i true) (Array.replicate (AS todo).size false)),Nat.blt i (AS todo).size,((AS todo).getD i default).guard,Region.ready .any (AS todo) ((m.foldl (fun b i=>b.setIfInBounds i true) (Array.replicate (AS todo).size false)).setIfInBounds i true))=([i],true,none,[]):=by kernel_rfl):At P f R todo (Fr n E) w:=by
 simp only [Prod.mk.injEq] at hc
 obtain ⟨l,c,k,j⟩:=hc
 refine WW K m hints specs 1 hd hmo g d hok hp fun u o=>?_
 rw [Nat.blt_eq] at c
 obtain ⟨a,hx,ha⟩:=h u o
 exact LS (fuel:=0) ((AS todo).getD i default) l (by simp [Array.getD,c]) k hx (Em (hr:=j) ⟨rfl,ha.mid⟩)
theorem yz {γ:Type} {P:Program} {f:FuncId} {R:Ending→World→Prop} {n:Nat} {todo:List Item} {E:Nat→Value} {w0 w:World} {M:List Az} {L T:List Th} (K:Wk w0 w M L T) {mem:List Az} (d j:Nat) (m:List Nat) (a:Nat) (o:Nat→Value) (l:TypeId) (zero:List Value) (hints:List (Nat×Nat×Nat)) (specs:List Sp) (i:Nat) (t:γ→Value) (L':γ→List Th) (ts:List (Nat×Nat×Nat)) (M':Nat→γ→List Az)
  (hM:∀ e∈mem,e.good w) (hS:∀ v,Below w.heap.size w v→∀ sp∈specs,Eg P n (Below v.heap.size v) (Ar (AS todo) d j) sp)
  (h:∀ u g,Wk w0 u (M++[⟨g,0,zero,l,true⟩]) L T→∃ x s,(execOp (Ax n (Aq (Cm P n (Ar (AS todo) d j) mem hints specs m E) (Ck (Ar (AS todo) d j) a) (o g))) ((Ar (AS todo) d j).getD i default)).run P u=.ok (.value (t x)) s∧Wk w0 s (M++[⟨g,0,zero,l,true⟩]) (L' x) T)
  (hk:∀ g x z w',Wk w0 w' (M' g x) (L' x) T→At P f R (AL todo) (Fr n (((Dx P n (Ar (AS todo) d j) ts (Aq (Aq (Cm P n (Ar (AS todo) d j) mem hints specs m E) (Ck (Ar (AS todo) d j) a) (o g)) ((Ar (AS todo) d j).getD i default).dst (t x)) (M++[⟨g,0,zero,l,true⟩]) z).map (·.1)).getD E)) w')
  (hw:Of .any (AS todo) 4 d j=true:=by kernel_rfl) (hd:(Ek todo).isSome=true:=by kernel_rfl) (hmo:P.follows .mixedOrders=true:=by kernel_rfl)
  (hok:(EZ .any (Ar (AS todo) d j) (DC (Ar (AS todo) d j) (m++[a])) (Array.replicate (Ar (AS todo) d j).size false) n (D7 P n (Ar (AS todo) d j) mem hints specs m E++[Ln w a (EL (Ar (AS todo) d j) m a) o l zero]) && Gc (Ar (AS todo) d j) (D7 P n (Ar (AS todo) d j) mem hints specs m E++[Ln w a (EL (Ar (AS todo) d j) m a) o l zero]),m.all (Ed P n (Ar (AS todo) d j) mem hints specs m E),Nat.beq (m.length + 1 + (ts.length + 1)) (Ar (AS todo) d j).size,dx (Ar (AS todo) d j) m a)=(true,true,true,true):=by kernel_rfl)
  (hrd:(Region.ready .any (Ar (AS todo) d j) ((m++[a]).foldl (fun b i=>b.setIfInBounds i true) (Array.replicate (Ar (AS todo) d j).size false)),Nat.blt i (Ar (AS todo) d j).size,((Ar (AS todo) d j).getD i default).guard,Iz (Ar (AS todo) d j) .any (((m++[a]).foldl (fun b i=>b.setIfInBounds i true) (Array.replicate (Ar (AS todo) d j).size false)).setIfInBounds i true) (ts.map (·.1)))=([i],true,none,true):=by kernel_rfl)
  (ha:∀ z,(CL P (execOp (Ax n (EP P n (Ar (AS todo) d j) mem hints specs m E a)) ((Ar (AS todo) d j).getD a default)) ⟨z,[],(0,0),[]⟩).map (fun r=>(Do r.1,r.2.mem,r.2.eqs))=some (some (o z),[⟨z,0,zero,l,true⟩],[]):=by intro _; kernel_rfl)
  (hpa:∀ X,((Ar (AS todo) d j).getD a default).op.operands.toList.map (MI P n (Ar (AS todo) d j) mem hints specs m E X a)=((Ar (AS todo) d j).getD a default).op.operands.toList.map (Ax n (EP P n (Ar (AS todo) d j) mem hints specs m E a)):=by intro _; kernel_rfl)
  (hp:∀ X,I3 P n (Ar (AS todo) d j) mem hints specs m E X=Gv P n (Ar (AS todo) d j) mem hints specs m E:=by intro _; kernel_rfl)
  (ht:∀ g x z,(Dx P n (Ar (AS todo) d j) ts (Aq (Aq (Cm P n (Ar (AS todo) d j) mem hints specs m E) (Ck (Ar (AS todo) d j) a) (o g)) ((Ar (AS todo) d j).getD i default).dst (t x)) (M++[⟨g,0,zero,l,true⟩]) z).map (fun q=>(q.2.1,q.2.2.2.map Prod.fst))=(Dx P n (Ar (AS todo) d j) ts (Aq (Aq (Cm P n (Ar (AS todo) d j) mem hints specs m E) (Ck (Ar (AS todo) d j) a) (o g)) ((Ar (AS todo) d j).getD i default).dst (t x)) (M++[⟨g,0,zero,l,true⟩]) z).map (fun q=>(M' g x,q.2.2.2.map Prod.snd)):=by intro _ _ _; kernel_rfl)
  (hs:∀ g x z,(Dx P n (Ar (AS todo) d j) ts (Aq (Aq (Cm P n (Ar (AS todo) d j) mem hints specs m E) (Ck (Ar (AS todo) d j) a) (o g)) ((Ar (AS todo) d j).getD i default).dst (t x)) (M++[⟨g,0,zero,l,true⟩]) z).isSome=true:=by intro _ _ _; kernel_rfl):At P f R todo (Fr n E) w:=by
 simp only [Prod.mk.injEq] at hrd
 obtain ⟨c1,c2,c3,c4⟩:=hrd
 rw [Nat.blt_eq] at c2
 obtain ⟨ops,k⟩:=Option.isSome_iff_exists.1 hd
 have hr:AS todo=ops:=by
  unfold Ek at k
  split at k
  ·obtain rfl:=Option.some.inj k; rfl
  ·cases k
 rw [hr] at hok hp hpa hk hS ha ht hs h c1 c2 c3 c4 hw
 have a0:(Ar ops d j).size=ops.size:=by unfold Ar; simp
 refine EV ops (hd:=k) (hm:=hmo) ops.size (hs:=rfl) (Oe hw (fun c a w h=>by cases h.1) _ _ _ _ MJ ?_)
 rw [← a0]
 refine (nr K m a o l zero hints specs (ts.length + 1) hM hS hok ha hpa hp fun u g Ku=>?_)
 obtain ⟨x,s,hx,b0⟩:=h u g Ku
 refine H3 (fuel:=ts.length) ((Ar ops d j).getD i default) (hr:=c1) (ho:=by simp [Array.getD,c2]) (hg:=c3) hx ?_
 obtain ⟨q,hq⟩:=Option.isSome_iff_exists.1 (hs g x s.heap.size)
 have p:=ht g x s.heap.size
 have y:=hk g x s.heap.size
 rw [hq] at p y
 simp only [Option.map_some,Option.some.injEq,Prod.mk.injEq] at p
 exact KC (P:=P) (n:=n) (ops:=Ar ops d j) (L:=L' x) (T:=T) (w0:=w0) (fuel:=0) (Q:=fun e a w=>e=.normal∧HM P f R (AL todo) a w) ts _ _ _ s b0 s.heap.size rfl q hq (H1 p.2) c4 fun w' a K' ha=>⟨rfl,by rw [ha]; rw [p.1] at K'; exact (y w' K').mid⟩
abbrev DP:=BD×Int×Int
def CQ (u:DP):List Value:=Dl u.1++[AI u.2.1,AI u.2.2]
abbrev Bs (A:Option Addr) (c:Nat) (l:List DP):Th:=Th.row 94 7 (fun e r=>r=CQ e) A c l
end Go.Proofs.YtkjbdagicjbjjaaGreat
namespace Go.Proofs.YtkjbdagicjbjjaaGreat
noncomputable section
open Go.RowKit
set_option maxRecDepth 100000
set_option maxHeartbeats 1000000
attribute [local irreducible] A8 BL AC AD AF Ao AY AL Aq Bb Cn BR Dx Cm BK At Fr
abbrev CT:=List (BD×Int×Int)×List DP
def Cj (F:BD→Int×Int×Int) (p:BD) (s:CT):(Int×Int×Int)×CT:=match AO s.1 p with
 | some v=>((v.1,v.2,0),s)
 | none=>cond (!((F p).2.2 == 0)) ((0,0,(F p).2.2),s) (((F p).1,(F p).2.1,0),((p,(F p).1,(F p).2.1) :: s.1,s.2++[(p,(F p).1,(F p).2.1)]))
noncomputable def YP:Code:=Tryz.f60.body.getD .skip
def pt:=Ai 1 [.code YP]
def Z4:=AA 60 (AL pt)
def AAm:=AA 60 (AD Z4)
def pr:=AA 60 (AF Z4)
def Z3:=AA 60 (AC pr)
def AAl:=AA 60 (AD Z3)
def O2:=AA 60 (AF Z3)
def pq:=AA (Ak EA 90 (AD O2)) (AD O2)
def O1:=Ai 9 (AF O2)
def Z1:=Ai 10 (AL O1)
def uu:=AA 60 (AL Z1)
theorem Vl {R:Ending→World→Prop} (Z:List Th) (g:Nat) (j:Bool) (k i d:Option Nat) (h:Option Addr) (pa:List Dn) (f b:Nat) (s:List (BD×Int×Int)) (r:Option Addr) (a:List DP) (o n rs qb m:Nat) (qc:List Value) (p:BD) (v:Int×Int) (w we:World) (E:Nat→Value) (hp:HP p) (b0:s.length≤4294967296) (a0:a.length≤4294967296) (K:Wk w we [⟨g,0,[.bool j,.map k,.map i,.map d,.slice h pa.length f,.map (some b),.slice (r) a.length (o)],85,true⟩,⟨n,0,Dl p,117,true⟩,⟨rs,0,[AI 0,AI 0],41,true⟩,⟨qb,0,qc,41,true⟩,⟨m,0,BP v,41,true⟩] [CP.th b s,Bs r o a] Z)
  (hR:∀ uA' uc' w',Below w.heap.size w w'→Ac w.heap.size w' ([Th.ent ⟨g,0,[.bool j,.map k,.map i,.map d,.slice h pa.length f,.map (some b),.slice (uA') (a++[(p,v)]).length (uc')],85,true⟩,CP.th b ((p,v) :: s),Bs uA' uc' (a++[(p,v)])]++Z)→R (.returned (.tuple #[.agg ⟨BP v⟩,AI 0])) w'):At Tryz.prog 60 R O1 (Fr 66 (BC E [(0,BY g),(3,BY n),(4,BY rs),(8,BY m)])) we:=by
 have goods:∀ (u:World) (Ms:List Az) (Ls Ts:List Th),Wk w u Ms Ls Ts→Ms[0]?=some ⟨g,0,[.bool j,.map k,.map i,.map d,.slice h pa.length f,.map (some b),.slice (r) a.length (o)],85,true⟩→Ms[1]?=some ⟨n,0,Dl p,117,true⟩→Ms[4]?=some ⟨m,0,BP v,41,true⟩→∀ e∈([⟨g,0,[.bool j,.map k,.map i,.map d,.slice h pa.length f,.map (some b),.slice (r) a.length (o)],85,true⟩,⟨n,0,Dl p,117,true⟩,⟨m,0,BP v,41,true⟩]:List Az),e.good u:=fun u Ms Ls Ts c h0 h1 h4 e he=>by
  simp only [List.mem_cons,List.not_mem_nil,or_false] at he
  rcases he with rfl | rfl | rfl
  ·exact c.ent 0 h0
  ·exact c.ent 1 h1
  ·exact c.ent 4 h4
 refine M2 K (mem:=[⟨g,0,[.bool j,.map k,.map i,.map d,.slice h pa.length f,.map (some b),.slice (r) a.length (o)],85,true⟩,⟨n,0,Dl p,117,true⟩,⟨m,0,BP v,41,true⟩]) [0,1,2,3,4,5] [(3,0,5),(4,1,0),(5,2,0)] [] 6 (goods _ _ _ _ K rfl rfl rfl) (fun sp l=>by cases l) fun u c=>?_
 obtain ⟨u',hx,Hn,b1⟩:=JS CP (ρ:=Ax 66 _) c.H (c.ix 0) (c.at 0 rfl) p v hp trivial ((AS O1).getD 6 default) (t:=83) (x:=.tmp 43) (y:=.tmp 44) (z:=.tmp 45) (by kernel_rfl) rfl (by kernel_rfl) (by kernel_rfl) (by kernel_rfl) (by omega)
 refine ⟨u',hx,?_⟩
 have K2:=c.put 0 (by simp) b1 Hn
 refine Am 10 Z1 K2 [] fun w3 K3=>?_
 refine yz (γ:=Option Addr×Nat) K3 (mem:=[⟨g,0,[.bool j,.map k,.map i,.map d,.slice h pa.length f,.map (some b),.slice (r) a.length (o)],85,true⟩,⟨n,0,Dl p,117,true⟩,⟨m,0,BP v,41,true⟩]) 16 0 [0,1,2,3,4,5,6,7,8,9,10,11,12,13,14] 15 (fun q=>.slice (IN q) 1 1) 94 (CQ (p,v)) [(4,0,6),(6,1,0),(8,1,1),(10,1,2),(12,1,3),(13,2,0)] [] 16 (fun x=>.slice x.1 (a++[(p,v)]).length x.2) (fun x=>[CP.th b ((p,v) :: s),Bs x.1 x.2 (a++[(p,v)])]) [(17,0,0),(18,0,0),(19,0,6)] (fun q x=>[⟨g,0,[.bool j,.map k,.map i,.map d,.slice h pa.length f,.map (some b),.slice (x.1) (a++[(p,v)]).length (x.2)],85,true⟩,⟨n,0,Dl p,117,true⟩,⟨rs,0,[AI 0,AI 0],41,true⟩,⟨qb,0,qc,41,true⟩,⟨m,0,BP v,41,true⟩,⟨q,0,CQ (p,v),94,true⟩]) (goods _ _ _ _ K3 rfl rfl rfl) (fun v hv sp l=>by cases l) (fun u q c=>?_) fun q x z w4 K4=>?_
 ·obtain ⟨A',c',u',hx,Hn,b2⟩:=N8 c.H (c.ix 1) (c.at 1 rfl) (p,v) (CQ (p,v)) rfl q (c.ent 5 rfl) ((Ar (AS Z1) 16 0).getD 16 default) (.tmp 50) (.tmp 61) 42 (by kernel_rfl) (by kernel_rfl) (by kernel_rfl) (by decide) (by kernel_rfl) (by kernel_rfl) rfl rfl (by omega)
  exact ⟨(A',c'),u',hx,c.put 1 (by simp) b2 Hn⟩
 refine Aj uu K4 [(4,0),(2,0)] fun w5 K5=>?_
 exact AJ K5 (2,0) (.tuple #[.agg ⟨BP v⟩,AI 0]) (hR x.1 x.2 w5 K5.B (K5.pk [0] [0,1] (M':=[⟨g,0,[.bool j,.map k,.map i,.map d,.slice h pa.length f,.map (some b),.slice (x.1) (a++[(p,v)]).length (x.2)],85,true⟩]) (L':=[CP.th b ((p,v) :: s),Bs x.1 x.2 (a++[(p,v)])])).H)
theorem KS (Z:List Th) (g:Nat) (a:Bool) (cA nA s:Option Nat) (pA:Option Addr) (pa:List Dn) (pc:Nat) (o:List (BD×Int×Int)) (nm:List (List UInt8×Int×Int)) (l:List (List UInt8×GV)) (m:Option Nat) (f:List (BD×Int×Int)) (k:Option Addr) (d:List DP) (j:Nat) (p:BD) (w i:World) (r0:CP.optAt cA o w) (l0:Eb.optAt nA nm w) (j0:EM.optAt s (l.map fun q=>(q.1,Ei q.2)) w) (i0:∀ q∈l,Cb w q.2.2.1 q.2.1∧q.2.1.length≤4294967296) (k0:EE w pA pa) (n0:pa.length≤4294967296) (m0:∀ e∈pa,e.2.length≤4294967296) (hp:HP p) (p0:f.length≤4294967296) (g0:d.length≤4294967296) (B:Below w.heap.size w i) (H:Ac w.heap.size i ([Th.ent ⟨g,0,[.bool a,.map cA,.map nA,.map s,.slice pA pa.length pc,.map (m),.slice (k) d.length (j)],85,true⟩,CP.thO m f,Bs k j d]++Z)) :
  Calls Tryz.prog 60 ([BY g,.agg ⟨Dl p⟩]:List Value).toArray i fun e w'=>∃ kA' b0 a0,e=.returned (DB (Cj (BX a o nm l pa) p (f,d)).1)∧Below w.heap.size w w'∧Ac w.heap.size w' ([Th.ent ⟨g,0,[.bool a,.map cA,.map nA,.map s,.slice pA pa.length pc,.map (kA'),.slice (b0) (Cj (BX a o nm l pa) p (f,d)).2.2.length (a0)],85,true⟩,CP.thO kA' (Cj (BX a o nm l pa) p (f,d)).2.1,Bs b0 a0 (Cj (BX a o nm l pa) p (f,d)).2.2]++Z):=by
 refine AR (args:=[BY g,.agg ⟨Dl p⟩]) (fn:=Tryz.f60) (c:=YP) (n:=66) ?_
 have K1:Wk w i [⟨g,0,[.bool a,.map cA,.map nA,.map s,.slice pA pa.length pc,.map (m),.slice (k) d.length (j)],85,true⟩] [CP.thO m f,Bs k j d] Z:=⟨B,H⟩
 clear B H
 refine Bp 1 pt [⟨g,0,[.bool a,.map cA,.map nA,.map s,.slice pA pa.length pc,.map (m),.slice (k) d.length (j)],85,true⟩,⟨i.heap.size,0,Dl p,117,true⟩,⟨i.heap.size + 1,0,[AI 0,AI 0],41,true⟩] K1 [] fun w1 K2=>?_
 have hK:=CP.thO_at (K2.H.all (K2.ix 0) _ (K2.at 0 rfl))
 refine Q8 K2 (mem:=[⟨g,0,[.bool a,.map cA,.map nA,.map s,.slice pA pa.length pc,.map (m),.slice (k) d.length (j)],85,true⟩,⟨i.heap.size,0,Dl p,117,true⟩]) 10 8 [0,1,2,3,4,5,6,7,8] 9 41 [AI 0,AI 0] [(3,0,5),(4,1,0)] [⟨5,[(14,.map m),(15,.agg ⟨Dl p⟩)],.tuple #[.agg ⟨BP ((AO f p).getD (0,0))⟩,.bool (AO f p).isSome],true⟩] [(10,3,0),(11,0,0)] (fun q=>[⟨g,0,[.bool a,.map cA,.map nA,.map s,.slice pA pa.length pc,.map (m),.slice (k) d.length (j)],85,true⟩,⟨i.heap.size,0,Dl p,117,true⟩,⟨i.heap.size + 1,0,[AI 0,AI 0],41,true⟩,⟨q,0,BP ((AO f p).getD (0,0)),41,true⟩]) (fun e he=>by
  simp only [List.mem_cons,List.not_mem_nil,or_false] at he
  rcases he with rfl | rfl
  ·exact K2.ent 0 rfl
  ·exact K2.ent 1 rfl) (fun v hv sp h0=>?_) fun q z w3 K3=>?_
 ·rw [List.mem_singleton.1 h0]
  exact BG fun _ E u hu=>Iu CP (x:=.tmp 14) (y:=.tmp 15) (by kernel_rfl) rfl (by kernel_rfl) p (by kernel_rfl) hp (hK.below (hv.trans (hu.mono hv.size)))
 refine AB Z4 K3 [] fun w4 K4=>?_
 refine AG (AO f p).isSome (fun c1=>?_) (fun c1=>?_)
 ·obtain ⟨v,hv⟩:=Option.isSome_iff_exists.1 c1
  have hS:(Cj (BX a o nm l pa) p (f,d))=((v.1,v.2,0),(f,d)):=by unfold Cj; rw [hv]
  refine Aj AAm K4 [(3,0),(2,0)] fun w5 K5=>?_
  refine AJ K5 (2,0) (.tuple #[.agg ⟨BP ((AO f p).getD (0,0))⟩,AI 0]) ?_
  rw [hS]
  exact ⟨m,k,j,by rw [hv]; rfl,K5.B,(K5.pk [0] [0,1] (M':=[⟨g,0,[.bool a,.map cA,.map nA,.map s,.slice pA pa.length pc,.map (m),.slice (k) d.length (j)],85,true⟩]) (L':=[CP.thO m f,Bs k j d])).H⟩
 have hn:AO f p=none:=by simpa using c1
 refine AB pr K4 [(1,0)] fun w5 K5=>?_
 refine AQ K5 (args:=[BY g,.agg ⟨Dl p⟩]) (kC g a cA nA s m o nm l pA k pa pc d.length j p w w5 r0 l0 j0 i0 k0 n0 m0 hp K5.B (K5.ent 0 rfl)) fun w6 K6=>?_
 have hS:(Cj (BX a o nm l pa) p (f,d))=cond (!((BX a o nm l pa p).2.2 == 0)) ((0,0,(BX a o nm l pa p).2.2),(f,d)) (((BX a o nm l pa p).1,(BX a o nm l pa p).2.1,0),((p,(BX a o nm l pa p).1,(BX a o nm l pa p).2.1) :: f,d++[(p,(BX a o nm l pa p).1,(BX a o nm l pa p).2.1)])):=by unfold Cj; rw [hn]
 generalize (BX a o nm l pa p)=r at hS K6 ⊢
 obtain ⟨r1,r2,r3⟩:=r
 refine Af Z3 [⟨g,0,[.bool a,.map cA,.map nA,.map s,.slice pA pa.length pc,.map (m),.slice (k) d.length (j)],85,true⟩,⟨i.heap.size,0,Dl p,117,true⟩,⟨i.heap.size + 1,0,[AI 0,AI 0],41,true⟩,⟨q,0,BP ((AO f p).getD (0,0)),41,true⟩,⟨w6.heap.size,0,BP (r1,r2),41,true⟩] K6 [(4,0)] fun w7 K7=>?_
 refine AG (!(r3 == 0)) (fun c2=>?_) (fun c2=>?_)
 ·rw [c2] at hS
  refine Aj AAl K7 [(2,0)] fun w8 K8=>?_
  refine AJ K8 (2,0) (.tuple #[.agg ⟨[AI 0,AI 0]⟩,AI r3]) ?_
  rw [hS]
  exact ⟨m,k,j,rfl,K8.B,(K8.pk [0] [0,1] (M':=[⟨g,0,[.bool a,.map cA,.map nA,.map s,.slice pA pa.length pc,.map (m),.slice (k) d.length (j)],85,true⟩]) (L':=[CP.thO m f,Bs k j d])).H⟩
 rw [c2] at hS
 cases m with
 | none=>
  have q0:f=[]:=hK
  refine AB O2 K7 [(0,5)] fun w8 K8=>?_
  refine AG true (fun _=>?_) (fun h=>by cases h)
  refine Ae EA pq K8 [] fun w9 K9=>?_
  refine Ey CP K9.H (Br pq) (by kernel_rfl) (t:=83) (by kernel_rfl) fun w0 x0 Hn s0=>?_
  have v0:=K9.add s0 Hn
  refine Bp 9 O1 [⟨g,0,[.bool a,.map cA,.map nA,.map s,.slice pA pa.length pc,.map (some w9.heap.size),.slice (k) d.length (j)],85,true⟩,⟨i.heap.size,0,Dl p,117,true⟩,⟨i.heap.size + 1,0,[AI 0,AI 0],41,true⟩,⟨q,0,BP ((AO f p).getD (0,0)),41,true⟩,⟨w6.heap.size,0,BP (r1,r2),41,true⟩] v0 [(0,5)] fun c0 d0=>?_
  have t0:=d0.pk [0,1,2,3,4] [2,1] (M':=[⟨g,0,[.bool a,.map cA,.map nA,.map s,.slice pA pa.length pc,.map (some w9.heap.size),.slice (k) d.length (j)],85,true⟩,⟨i.heap.size,0,Dl p,117,true⟩,⟨i.heap.size + 1,0,[AI 0,AI 0],41,true⟩,⟨q,0,BP ((AO f p).getD (0,0)),41,true⟩,⟨w6.heap.size,0,BP (r1,r2),41,true⟩]) (L':=[CP.th w9.heap.size [],Bs k j d])
  refine AU [(0,BY g),(3,BY (i.heap.size)),(4,BY (i.heap.size + 1)),(8,BY (w6.heap.size))] fun e0=>?_
  refine Vl Z g a cA nA s pA pa pc w9.heap.size [] k d j i.heap.size (i.heap.size + 1) q w6.heap.size _ p (r1,r2) w c0 e0 hp (by simp) g0 t0 fun b0 a0 w' b' H'=>?_
  rw [hS,q0]
  exact ⟨some w9.heap.size,b0,a0,rfl,b',H'⟩
 | some b=>
  refine AB O2 K7 [(0,5)] fun w8 K8=>?_
  refine AG false (fun h=>by cases h) (fun _=>?_)
  refine Am 9 O1 K8 [] fun c0 d0=>?_
  refine AU [(0,BY g),(3,BY (i.heap.size)),(4,BY (i.heap.size + 1)),(8,BY (w6.heap.size))] fun e0=>?_
  refine Vl Z g a cA nA s pA pa pc b f k d j i.heap.size (i.heap.size + 1) q w6.heap.size _ p (r1,r2) w c0 e0 hp p0 g0 d0 fun b0 a0 w' b' H'=>?_
  rw [hS]
  exact ⟨some b,b0,a0,rfl,b',H'⟩
end
end Go.Proofs.YtkjbdagicjbjjaaGreat
namespace Go.Proofs.YtkjbdagicjbjjaaGreat
open Go.RowKit
set_option maxRecDepth 100000
abbrev Cc:=(Int×Int×Int)×CT
def CZ (f:Ex→CT→Cc):List Ex→Nat→Int×Int→Int×Int→CT→Int×(Int×Int)×(Int×Int)×CT
 | [],_,a,b,s=>(0,a,b,s)
 | k :: r,i,a,b,s=>cond (!((f k s).1.2.2 == 0)) ((f k s).1.2.2,a,b,(f k s).2) (CZ f r (i + 1) (cond (i == 0) ((f k s).1.1,(f k s).1.2.1) a) (cond (i == 1) ((f k s).1.1,(f k s).1.2.1) b) (f k s).2)
def Bt (f:Ex→CT→Cc) (x:Ex) (s:CT):Cc:=match x.ks with
 | k0 :: k1 :: r=>cond (!((f k0 s).1.2.2 == 0)) ((0,0,(f k0 s).1.2.2),(f k0 s).2)
   (cond (x.op == 12 && ((f k0 s).1.1 == 0)) ((0,1,0),(f k0 s).2)
   (cond (x.op == 13 && !((f k0 s).1.1 == 0)) ((1,1,0),(f k0 s).2)
   (cond (x.op == 18 && ((f k0 s).1.1 == 0)) (match r with
    | k2 :: _=>f k2 (f k0 s).2
    | []=>((0,0,1),s)) (f k1 (f k0 s).2))))
 | _=>((0,0,1),s)
def As (F:BD→Int×Int×Int):Nat→Ex→CT→Cc
 | 0,_,s=>((0,0,0),s)
 | h + 1,x,s=>cond (x.op == 1) ((x.num,x.den,0),s)
   (cond (x.op == 2) (((DE (x.cnt == 1)).1,(DE (x.cnt == 1)).2,0),s)
   (cond (x.op == 3 || (x.op == 20 || x.op == 21)) (Cj F (x.op,x.nm,x.cnt,0,0) s)
   (cond (x.op == 18 || (x.op == 12 || x.op == 13)) (Bt (As F h) x s)
   (match CZ (As F h) x.ks 0 (0,0) (0,0) s with
    | (e,a,b,s')=>cond (!(e == 0)) ((0,0,e),s') (cond (x.op == 4) (Cj F (x.op,x.nm,0,a.1,a.2) s') (CR x a.1 a.2 b.1 b.2,s'))))))
def C2 (n:Nat) (s s':CT):Prop:=s'.1.length≤s.1.length + n∧s'.2.length≤s.2.length + n
theorem C2.refl (n:Nat) (s:CT):C2 n s s:=⟨by omega,by omega⟩
theorem C2.trans {m n k:Nat} {s s' e:CT} (h:C2 m s s') (f:C2 n s' e) (g:m + n≤k):C2 k s e:=by
 obtain ⟨a,b⟩:=h
 obtain ⟨c,d⟩:=f
 exact ⟨by omega,by omega⟩
theorem C2.le {m n:Nat} {s s':CT} (h:C2 m s s') (c:m≤n):C2 n s s':=by
 obtain ⟨a,b⟩:=h
 exact ⟨by omega,by omega⟩
theorem Nn (F:BD→Int×Int×Int) (p:BD) (s:CT):C2 1 s (Cj F p s).2:=by
 unfold Cj
 split
 ·exact C2.refl _ _
 ·cases !((F p).2.2 == 0)
  ·exact ⟨by simp,by simp⟩
  ·exact C2.refl _ _
theorem Nq (f:Ex→CT→Cc):∀ (ks:List Ex) (_:∀ k∈ks,∀ s,C2 (nE k) s (f k s).2) (i:Nat) (a b:Int×Int) (s:CT),C2 (FH ks) s (CZ f ks i a b s).2.2.2
 | [],_,_,_,_,s=>C2.refl _ _
 | k :: r,hf,i,a,b,s=>by
  have d:=hf k (by simp) s
  unfold CZ FH
  cases !((f k s).1.2.2 == 0)
  ·exact d.trans (Nq f r (fun e c=>hf e (by simp [c])) _ _ _ _) (Nat.le_refl _)
  ·exact d.le (Nat.le_add_right _ _)
theorem R3 (f:Ex→CT→Cc) (x:Ex) (hf:∀ k∈x.ks,∀ s,C2 (nE k) s (f k s).2) (s:CT):C2 (FH x.ks) s (Bt f x s).2:=by
 unfold Bt
 split
 ·rename_i k0 k1 r hk
  rw [hk] at hf ⊢
  have b:=hf k0 (by simp) s
  have c:=hf k1 (by simp) (f k0 s).2
  have a:nE k0≤FH (k0 :: k1 :: r):=by simp only [FH]; omega
  cases !((f k0 s).1.2.2 == 0)
  ·show C2 _ s (cond _ _ _:Cc).2
   cases (x.op == 12 && ((f k0 s).1.1 == 0))
   ·show C2 _ s (cond _ _ _:Cc).2
    cases (x.op == 13 && !((f k0 s).1.1 == 0))
    ·show C2 _ s (cond _ _ _:Cc).2
     cases (x.op == 18 && ((f k0 s).1.1 == 0))
     ·exact b.trans c (by simp only [FH]; omega)
     ·cases r with
      | nil=>exact C2.refl _ _
      | cons k2 r=>exact b.trans (hf k2 (by simp) (f k0 s).2) (by simp only [FH]; omega)
    ·exact b.le a
   ·exact b.le a
  ·exact b.le a
 ·exact C2.refl _ _
theorem Gb (F:BD→Int×Int×Int):∀ (h:Nat) (x:Ex) (s:CT),C2 (nE x) s (As F h x s).2
 | 0,_,_=>C2.refl _ _
 | h + 1,x,s=>by
  have hn:nE x=1 + FH x.ks:=by cases x; rw [nE]; rfl
  unfold As
  cases (x.op == 1)
  ·show C2 _ s (cond _ _ _:Cc).2
   cases (x.op == 2)
   ·show C2 _ s (cond _ _ _:Cc).2
    cases (x.op == 3 || (x.op == 20 || x.op == 21))
    ·show C2 _ s (cond _ _ _:Cc).2
     cases (x.op == 18 || (x.op == 12 || x.op == 13))
     ·have c:=Nq (As F h) x.ks (fun k _ s=>Gb F h k s) 0 (0,0) (0,0) s
      show C2 _ s (match CZ (As F h) x.ks 0 (0,0) (0,0) s with
       | (e,a,b,s')=>cond (!(e == 0)) ((0,0,e),s') (cond (x.op == 4) (Cj F (x.op,x.nm,0,a.1,a.2) s') (CR x a.1 a.2 b.1 b.2,s'))).2
      generalize CZ (As F h) x.ks 0 (0,0) (0,0) s=q at c ⊢
      obtain ⟨e,a,b,s'⟩:=q
      show C2 _ s (cond _ _ _:Cc).2
      cases !(e == 0)
      ·show C2 _ s (cond _ _ _:Cc).2
       cases (x.op == 4)
       ·exact c.le (by omega)
       ·exact c.trans (Nn F _ s') (by omega)
      ·exact c.le (by omega)
     ·exact (R3 (As F h) x (fun k _ s=>Gb F h k s) s).le (by omega)
    ·exact (Nn F _ s).le (by omega)
   ·exact C2.refl _ _
  ·exact C2.refl _ _
end Go.Proofs.YtkjbdagicjbjjaaGreat

/-
  Part 21 of a proof: contracts of functions.
-/
import Derived.Test.YtkjbdagicjbjjaaGreatTf10
import Derived.Test.YtkjbdagicjbjjaaGreatTf20
set_option linter.all false
namespace Go.Proofs.YtkjbdagicjbjjaaGreat
open Go.RowKit
set_option maxRecDepth 100000
section
variable {P:Program} {n:Nat} {ops:Array Oper} {mem:List Az} {hints:List (Nat×Nat×Nat)} {specs:List Sp}
def dy (ops:Array Oper) (m:List Nat) (a:Nat):Bool:=(m.all fun i=>(ops.getD i default).op.operands.toList.all fun x=>match x with
 | .tmp t=>!(Ck ops a == some t)
 | _=>true) && ((ops.getD a default).op.operands.toList.isEmpty && JQ (ops.getD a default))
theorem HV {B:List Nat} {vals:Nat→Value} {u:World}:∀ {a b:List Ct},FP B vals u (a++b)→FP B vals u a
 | [],_,_=>trivial
 | m :: a,b,h=>by
  rw [List.cons_append] at h
  unfold FP at h ⊢
  split at h
  ·exact ⟨h.1,HV h.2⟩
  ·exact HV h
theorem Jx {vals:Nat→Value} {u:World}:∀ {b a:List Ct},FK vals u (b++a)→FK vals u b∧FK vals u a
 | [],_,h=>⟨trivial,h⟩
 | m :: b,a,h=>by
  rw [List.cons_append] at h
  unfold FK at h
  obtain ⟨c,h2⟩:=h
  have:=Jx h2
  exact ⟨⟨c,this.1⟩,this.2⟩
theorem Wr.of_left {W V:Wr} {t:Tmp} (h:∀ p∈V,p.1≠t):Wr.of (W++V) t=Wr.of W t:=by
 unfold Wr.of
 rw [List.find?_append]
 have:V.find? (fun p=>p.1 == t)=none:=by
  rw [List.find?_eq_none]
  intro p a
  simpa using h p a
 rw [this,Option.or_none]
end
def Lo (w:World) (a:Nat) (T:TypeId) (zero:List Value):Ct:=⟨a,[],[a],fun vs u=>∃ g,vs=[BY g]∧w.heap.size≤g∧Az.good u ⟨g,0,zero,T,true⟩⟩
theorem nt {P:Program} {n:Nat} {ops:Array Oper} {Q:Exit→Act→World→Prop} {E:Nat→Value} {w0 w:World} {M:List Az} {L T:List Th} (K:Wk w0 w M L T) {mem:List Az} (m:List Nat) (a:Nat) (y:TypeId) (zero:List Value) (hints:List (Nat×Nat×Nat)) (specs:List Sp) (r:Nat)
  (hM:∀ e∈mem,e.good w) (hS:∀ v,Below w.heap.size w v→∀ sp∈specs,Eg P n (Below v.heap.size v) ops sp)
  (hok:(EZ .any ops (DC ops (m++[a])) (Array.replicate ops.size false) n (D7 P n ops mem hints specs m E++[Lo w a y zero]) && Gc ops (D7 P n ops mem hints specs m E++[Lo w a y zero]),m.all (Ed P n ops mem hints specs m E),Nat.beq (m.length + 1 + r) ops.size,dy ops m a)=(true,true,true,true))
  (ha:∀ z,(CL P (execOp (Ax n E) (ops.getD a default)) ⟨z,[],(0,0),[]⟩).map (fun r=>(Do r.1,r.2.mem,r.2.eqs))=some (some (BY z),[⟨z,0,zero,y,true⟩],[]))
  (hp:∀ X,I3 P n ops mem hints specs m E X=Gv P n ops mem hints specs m E)
  (hk:∀ u g,Wk w0 u (M++[⟨g,0,zero,y,true⟩]) L T→wpAny P .any ops Q r ((m++[a]).foldl (fun b i=>b.setIfInBounds i true) (Array.replicate ops.size false)) (Fr n (Aq (Cm P n ops mem hints specs m E) (Ck ops a) (BY g))) u):wpAny P .any ops Q ops.size (Array.replicate ops.size false) (Fr n E) w.drew:=by
 simp only [Prod.mk.injEq] at hok
 obtain ⟨hok,d1,c1,hX⟩:=hok
 unfold dy at hX
 rw [Bool.and_eq_true,Bool.and_eq_true] at hX
 obtain ⟨q1,p1,j0⟩:=hX
 have hN:m.length + 1 + r=ops.size:=Nat.eq_of_beq_eq_true c1
 have x0:∀ i∈m,∀ t,Operand.tmp t∈(ops.getD i default).op.operands→(DC ops (m++[a])).of t=(DC ops m).of t:=fun i hi t ht=>by
  have h1:=List.all_eq_true.1 (List.all_eq_true.1 q1 i hi) _ (Array.mem_toList_iff.2 ht)
  simp only [Bool.not_eq_true',beq_eq_false_iff_ne] at h1
  unfold DC
  rw [List.filterMap_append]
  refine Wr.of_left fun p hp he=>h1 ?_
  obtain ⟨k,d0,q⟩:=List.mem_filterMap.1 hp
  obtain rfl:=List.mem_singleton.1 d0
  obtain ⟨t',b1,rfl⟩:=Option.map_eq_some_iff.1 q
  rw [b1,← he]
 have parts:∀ l:List Nat,(∀ i∈l,i∈m)→I9 P ops n E (DC ops (m++[a])) (fun u=>Below w.heap.size w u) (fun u u'=>Below u.heap.size u u') (D7 P n ops mem hints specs m E++[Lo w a y zero]) (l.map (fun i=>BV i (EL ops m i) (Da P n ops mem hints specs m E i))++[Lo w a y zero]):=by
  intro l
  induction l with
  | nil=>
   intro _
   refine ⟨⟨fun _ _ _ _ he h=>?_,fun vals u hu hb=>?_⟩,trivial⟩
   ·obtain ⟨g,h1,h2,h3⟩:=h
    exact ⟨g,h1,h2,F6 h3 he.size (he.block _ h3.1)⟩
   ·show AM P (ops.getD a default) (C0 n E (DC ops (m++[a])) vals) u _
    have g0:∀ K',AM P (ops.getD a default) (Ax n E) u K'→AM P (ops.getD a default) (C0 n E (DC ops (m++[a])) vals) u K':=fun K' h=>by
     unfold AM at h ⊢
     rw [execOp_congr (ρ:=C0 n E (DC ops (m++[a])) vals) (ρ':=Ax n E) _ (fun cs b hh=>by unfold JQ at j0; rw [hh] at j0; cases j0) (fun x hx=>by
      have:=Array.mem_toList_iff.2 hx
      rw [List.isEmpty_iff.1 p1] at this
      cases this)]
     exact h
    refine g0 _ ?_
    have o1:=ha u.heap.size
    obtain ⟨x,hx,k0⟩:=Option.map_eq_some_iff.1 o1
    obtain ⟨nx,b0⟩:=x
    simp only [Prod.mk.injEq] at k0
    obtain ⟨e1,e2,e3⟩:=k0
    have a1:nx=.value (BY (u.heap.size))∨(nx=.skip∧(BY (u.heap.size):Value)=undef):=by
     cases nx <;> simp [Do] at e1
     ·exact .inl (by rw [e1])
     ·exact .inr ⟨rfl,e1.symm⟩
    refine AM.runsK (O:=[]) (B:=u.heap.size) ⟨u.heap.size,[],(0,0),[]⟩ b0 nx _ (hm:=hx) a1 (CH u) (by rw [e3]; rfl) fun w' hL hK=>?_
    have hB:Below u.heap.size u w':=hK.below (Nat.le_refl _) (fun k hk=>by cases hk)
    refine ⟨hu.trans (hB.mono hu.size),hB,u.heap.size,?_,hu.size,hL.sat.good _ (by rw [e2]; simp)⟩
    show [Dw vals a _ a]=_
    unfold Dw
    rw [if_pos rfl]
  | cons i l ih=>
   intro hl
   refine ⟨⟨fun _ _ _ _ _ h=>h,fun vals u hu hb=>?_⟩,ih fun j hj=>hl j (by simp [hj])⟩
   replace hb:=HV hb
   have e0:=hl i (by simp)
   have hs:=List.all_eq_true.1 d1 i e0
   unfold Ed at hs
   rw [Bool.and_eq_true] at hs
   have c0:Lv P n ops mem hints specs m E vals i=JT P n ops mem hints specs m E i:=by
    have h1:=hp vals
    unfold I3 Gv at h1
    exact (List.map_inj_left.1 h1) i e0
   unfold Lv JT at c0
   simp only [Prod.mk.injEq] at c0
   obtain ⟨hop,r0,d⟩:=c0
   have hρ:∀ x∈(ops.getD i default).op.operands,C0 n E (DC ops (m++[a])) vals x=Ax n (EP P n ops mem hints specs m E i) x:=fun x hx=>by
    have h2:MI P n ops mem hints specs m E vals i x=Ax n (EP P n ops mem hints specs m E i) x:=by
     have z0:x∈(ops.getD i default).op.operands.toList:=Array.mem_toList_iff.2 hx
     obtain ⟨k,q⟩:=List.mem_iff_getElem?.1 z0
     have h3:=congrArg (fun l=>l[k]?) hop
     simp only [List.getElem?_map,q,Option.map_some,Option.some.injEq] at h3
     exact h3
    rw [← h2]
    cases x with
    | tmp t=>
     unfold C0 MI
     have hw:=x0 i e0 t hx
     cases hW:(DC ops m).of t with
     | none=>rw [hW] at hw; simp only [hW,hw]
     | some j=>
      rw [hW] at hw
      simp only [hW,hw]
      cases hc:(EL ops m i).contains j with
      | false=>rfl
      | true=>
       have hj:j∈m:=by
        unfold Wr.of at hW
        obtain ⟨p,g1,f1⟩:=Option.map_eq_some_iff.1 hW
        have o:=List.mem_of_find?_eq_some g1
        unfold DC at o
        obtain ⟨k,d0,q⟩:=List.mem_filterMap.1 o
        obtain ⟨t',_,rfl⟩:=Option.map_eq_some_iff.1 q
        rw [← f1]
        exact d0
       exact IJ hb j hj hc
    | _=>rfl
   have m0:∀ cs b,(ops.getD i default).op≠.select cs b:=fun cs b hh=>by
    have:=hs.1
    unfold JQ at this
    rw [hh] at this
    cases this
   show AM P (ops.getD i default) (C0 n E (DC ops (m++[a])) vals) u _
   have g0:∀ K',AM P (ops.getD i default) (Ax n (EP P n ops mem hints specs m E i)) u K'→AM P (ops.getD i default) (C0 n E (DC ops (m++[a])) vals) u K':=fun K' h=>by
    unfold AM at h ⊢
    rw [execOp_congr _ m0 hρ]
    exact h
   refine g0 _ ?_
   cases hsp:Gr specs i with
   | some sp=>
    rw [hsp] at r0 hs
    have o:=Ib hsp
    have hi:=o.2
    have p0:=hS u hu sp o.1 hs.2 (EP P n ops mem hints specs m E i) (IG r0) u (Below.refl _ _)
    rw [hi] at p0
    refine AM.of_quiet p0 (Below.refl _ _) fun w' l0=>⟨hu.trans (l0.mono hu.size),l0,?_⟩
    show [Dw vals i sp.v i]=[Da P n ops mem hints specs m E i]
    unfold Dw Da Lu
    rw [hsp,if_pos rfl]
   | none=>
    rw [hsp] at d hs
    simp only at d hs
    obtain ⟨x,hx⟩:=Option.isSome_iff_exists.1 hs.2
    rw [hx] at d
    simp only [Option.map_some,Option.some.injEq,Prod.mk.injEq] at d
    obtain ⟨nx,b0⟩:=x
    have f:=d.1
    cases nx with
    | value v=>
     simp only [Do,Option.some.injEq] at f
     refine AM.reads ⟨0,mem,He hints i,[]⟩ (CB hM hu) v (hv:=by rw [hx]; rfl) (he:=by rw [hx]; exact congrArg some d.2) ⟨hu,Below.refl _ _,?_⟩
     show [Dw vals i v i]=[Da P n ops mem hints specs m E i]
     unfold Dw
     rw [if_pos rfl,f]
    | skip=>
     simp only [Do,Option.some.injEq] at f
     have k1:(DO P (execOp (Ax n (EP P n ops mem hints specs m E i)) (ops.getD i default)) ⟨0,mem,He hints i,[]⟩)=some (.skip,b0):=hx
     have n0:=Fb (w:=u) _ _ _ _ k1 (CB hM hu) (H1 d.2)
     unfold AM
     rw [n0]
     refine ⟨hu,Below.refl _ _,?_⟩
     show [Dw vals i undef i]=[Da P n ops mem hints specs m E i]
     unfold Dw
     rw [if_pos rfl,f]
    | enter _ _=>simp [Do] at f
    | _=>simp [Do] at f
 have q0:(D7 P n ops mem hints specs m E++[Lo w a y zero]).length=m.length + 1:=by unfold D7; rw [List.length_append,List.length_map]; rfl
 have a0:(D7 P n ops mem hints specs m E++[Lo w a y zero]).map (·.idx)=m++[a]:=by
  unfold D7
  rw [List.map_append,List.map_map]
  show m.map (fun i=>i)++[a]=_
  rw [List.map_id']
 have i1:(m++[a]).Nodup:=by
  have:=EY (by have h:=hok; rw [Bool.and_eq_true] at h; exact h.1)
  rw [← a0]; exact this.nodup
 refine Dq (md:=.any) (fuel:=r) (L:=D7 P n ops mem hints specs m E++[Lo w a y zero]) (W:=DC ops (m++[a])) (C:=fun u=>Below w.heap.size w u) (Ext:=fun u u'=>Below u.heap.size u u') (hok:=hok) (Below.refl _ _).drew (fun u=>Below.refl _ _) (fun a b c h k=>h.trans (k.mono h.size)) (parts m fun i hi=>hi) (by rw [q0,hN]) fun vals u hu _ v0=>?_
 obtain ⟨i0,h0⟩:=Jx v0
 obtain ⟨g,n1,m1,s0⟩:∃ g,vals a=BY g∧w.heap.size≤g∧Az.good u ⟨g,0,zero,y,true⟩:=by
  obtain ⟨⟨g,h1,h2,h3⟩,_⟩:=h0
  exact ⟨g,(List.cons.inj h1).1,h2,h3⟩
 rw [a0]
 have t0:Kq ops vals (m++[a]) E=Aq (Cm P n ops mem hints specs m E) (Ck ops a) (BY g):=by
  unfold Kq
  rw [List.foldl_append]
  have:=L0 (mem:=mem) (hints:=hints) (specs:=specs) (P:=P) (n:=n) (E:=E) (vals:=vals) (List.nodup_append.1 i1).1 (fun j hj=>Ir i0 j hj)
  unfold Kq at this
  rw [this]
  show Aq _ _ (vals a)=_
  rw [n1]
 rw [t0]
 refine hk u g ?_
 have hO:Ac w.heap.size u [Th.ent ⟨g,0,zero,y,true⟩]:=⟨hu.size,fun i t hi=>?_,fun i t hi k hk=>?_,fun i j s t hi hj l1=>?_⟩
 ·have:=K.joinE (Z:=[]) hu hO
  rwa [List.append_nil] at this
 ·cases i with
  | zero=>obtain rfl:=Option.some.inj hi; exact s0
  | succ i=>simp at hi
 ·cases i with
  | zero=>
   obtain rfl:=Option.some.inj hi
   obtain rfl:k=g:=hk
   exact ⟨m1,s0.1⟩
  | succ i=>simp at hi
 ·cases i with
  | zero=>cases j with
   | zero=>exact absurd rfl l1
   | succ j=>simp at hj
  | succ i=>simp at hi
end Go.Proofs.YtkjbdagicjbjjaaGreat
namespace Go.Proofs.YtkjbdagicjbjjaaGreat
open Go.RowKit
set_option maxRecDepth 100000
def Ar (ops:Array Oper) (j i:Nat):Array Oper:=ops.setIfInBounds j { ops.getD j default with after:=(ops.getD j default).after.push ⟨i,.data⟩ }
def Sr (md:Region.Mode) (ops:Array Oper):Nat→Nat→Nat→Bool
 | 0,_,_=>false
 | d + 1,k,t=>match ops[k]? with
  | some o=>o.after.any fun e=>Region.binds md e && (e.on == t || Sr md ops d e.on t)
  | none=>false
def sk (md:Region.Mode) (ops:Array Oper) (i:Nat):Bool:=match ops[i]? with
 | some oi=>(List.range ops.size).all fun j=>j == i || oi.after.any (fun e=>Region.binds md e && e.on == j) || (match ops[j]? with
  | some oj=>oj.after.any (fun e=>Region.binds md e && e.on == i) || oi.apart ops oj
  | none=>true)
 | none=>false
def Of (md:Region.Mode) (ops:Array Oper) (d j i:Nat):Bool:=(match ops[i]? with
 | some oi=>oi.guard.isNone && (match oi.op with | .extract _ _ | .move _=>true | _=>false) && oi.after.all (fun e=>!Region.binds md e || Sr md ops d j e.on)
 | none=>false) && (sk md ops i && Region.noSelect ops && Nat.ble (j + 1) ops.size && !(i == j))
section
variable {P:Program} {ops:Array Oper} {Q:Exit→Act→World→Prop} {md:Region.Mode}
def Jb (md:Region.Mode) (ops:Array Oper) (listed:Array Bool):Prop:=listed.size=ops.size∧∀ k o,ops[k]?=some o→listed.getD k false=true→∀ e∈o.after,Region.binds md e=true→listed.getD e.on false=true
theorem M4 {a:Array Bool} (hc:Jb md ops a):∀ (d k t:Nat) (o:Oper),ops[k]?=some o→(∀ e∈o.after,Region.binds md e=true→a.getD e.on false=true)→Sr md ops d k t=true→a.getD t false=true
 | 0,_,_,_,_,_,h=>by cases h
 | d + 1,k,t,o,ho,hl,h=>by
  unfold Sr at h
  simp only [ho] at h
  obtain ⟨e,he,hb⟩:=Array.any_eq_true'.1 h
  rw [Bool.and_eq_true,Bool.or_eq_true] at hb
  obtain ⟨g,b⟩:=hb
  have j:=hl e he g
  rcases b with b | b
  ·rw [← beq_iff_eq.1 b]; exact j
  ·have c:e.on < ops.size:=by
    rcases Nat.lt_or_ge e.on a.size with l | l
    ·rw [← hc.1]; exact l
    ·simp [Array.getElem?_eq_none l] at j
   exact M4 hc d e.on t ops[e.on] (Array.getElem?_eq_getElem c) (fun e' f i=>hc.2 _ _ (Array.getElem?_eq_getElem c) j e' f i) b
theorem Nx {a:Array Bool} (hc:Jb md ops a) {k:Nat} (d:k∈Region.ready md ops a):Jb md ops (a.setIfInBounds k true):=by
 refine ⟨by simp [hc.1],fun j o ho c e he hb=>?_⟩
 obtain ⟨_,ok,hok,b⟩:=mem_ready.1 d
 by_cases hjk:k=j
 ·subst hjk
  rw [hok] at ho
  obtain rfl:=Option.some.inj ho
  exact getD_set_true (b e he hb)
 ·rw [getD_set_ne false hjk] at c
  exact getD_set_true (hc.2 j o ho c e he hb)
theorem Su {i:Nat} {o:Oper} {x:Operand} {k:Nat} {K:Act→World→Prop} {a:Act} {w:World} (hi:ops[i]?=some o) (hg:o.guard=none) (hop:o.op=.extract x k) (h:wpOp P ops Q i K a w):∃ v,(∀ u,(execOp a.eval o).run P u=.ok (.value v) u)∧K (a.put o.dst v) w:=by
 unfold wpOp at h
 have c:Region.wanted o (yielded ops a.tmps)=true:=by unfold Region.wanted; rw [hg]
 simp only [hi,c,if_true] at h
 unfold Oper.wp Oper.asks at h
 have hx:execOp a.eval o=(do pure (Next.value (← Instr.extract (a.eval x) k))):=by simp only [execOp,hop]
 rw [hx] at h ⊢
 have b:∀ s:String,¬ ((o.upon P a K Q (Sem.run P (do pure (Next.value (← (stuck s:Sem Value)))) w))∨((noRoomEvent∈((do pure (Next.value (← (stuck s:Sem Value))):Sem Next).runT P w #[]).2∧(match (Sem.run P (do pure (Next.value (← (stuck s:Sem Value)))) w) with
  | .halt .blocked _ | .halt .waiting _ | .halt (.unsupported (.initOrder _)) _=>False
  | _=>True))∧LetsOut Q)):=fun s h=>by
  rcases h with h | h
  ·exact h
  ·have:=h.1.1
   revert this
   show noRoomEvent∈(#[]:Array _)→False
   simp
 cases hv:a.eval x with
 | tuple vs=>
  rw [hv] at h
  unfold Instr.extract at h ⊢
  cases hk:vs[k]? with
  | none=>
   simp only [hk] at h
   exact absurd h (b _)
  | some v=>
   simp only [hk] at h ⊢
   refine ⟨v,fun u=>rfl,?_⟩
   rcases h with h | h
   ·exact h
   ·have:=h.1.1
    revert this
    show noRoomEvent∈(#[]:Array _)→_
    simp
 | _=>
  rw [hv] at h
  exact absurd h (b _)
theorem eT {i:Nat} {o:Oper} {x:Operand} {K:Act→World→Prop} {a:Act} {w:World} (hi:ops[i]?=some o) (hg:o.guard=none) (hop:o.op=.move x) (h:wpOp P ops Q i K a w):∃ v,(∀ u,(execOp a.eval o).run P u=.ok (.value v) u)∧K (a.put o.dst v) w:=by
 unfold wpOp at h
 have b:Region.wanted o (yielded ops a.tmps)=true:=by unfold Region.wanted; rw [hg]
 simp only [hi,b,if_true] at h
 unfold Oper.wp Oper.asks at h
 have hx:execOp a.eval o=pure (Next.value (a.eval x)):=by simp only [execOp,hop]
 rw [hx] at h ⊢
 refine ⟨a.eval x,fun u=>rfl,?_⟩
 rcases h with h | h
 ·exact h
 ·have:=h.1.1
  revert this
  show noRoomEvent∈(#[]:Array _)→_
  simp
theorem H7 {j i:Nat} (a:j < ops.size) (k:Nat):(Ar ops j i)[k]?=(ops[k]?).map fun o=>if j=k then { o with after:=o.after.push ⟨i,.data⟩ } else o:=by
 unfold Ar
 rw [Array.getElem?_setIfInBounds]
 by_cases h:j=k
 ·subst h
  rw [if_pos rfl,if_pos a,Array.getElem?_eq_getElem a,Option.map_some,if_pos rfl,Array.getD_eq_getD_getElem?,Array.getElem?_eq_getElem a]
  rfl
 ·rw [if_neg h]
  cases ops[k]? with
  | none=>rfl
  | some o=>rw [Option.map_some,if_neg h]
theorem RF {j i k:Nat} {K:Act→World→Prop} {a:Act} {w:World} (b:j < ops.size) (h:wpOp P (Ar ops j i) Q k K a w):wpOp P ops Q k K a w:=by
 have c:yielded (Ar ops j i) a.tmps=yielded ops a.tmps:=by
  funext t
  unfold yielded
  rw [H7 b]
  cases ops[t]? with
  | none=>rfl
  | some o=>
   by_cases h:j=t
   ·simp [h]
   ·simp [h]
 unfold wpOp at h ⊢
 rw [c,H7 b] at h
 cases ho:ops[k]? with
 | none=>rw [ho] at h; exact h
 | some o=>
  rw [ho] at h
  by_cases hjk:j=k
  ·simp only [Option.map_some,if_pos hjk] at h
   exact h
  ·simp only [Option.map_some,if_neg hjk] at h
   exact h
theorem Oe {d j i:Nat} (hok:Of md ops d j i=true) (hQ:∀ c a w,¬ Q (.panic c) a w):∀ (fuel:Nat) (f:Array Bool) (a:Act) (w:World),Jb md ops f→wpAny P md (Ar ops j i) Q fuel f a w→wpAny P md ops Q fuel f a w:=by
 unfold Of at hok
 rw [Bool.and_eq_true,Bool.and_eq_true,Bool.and_eq_true,Bool.and_eq_true] at hok
 obtain ⟨m,⟨⟨t,b0⟩,g0⟩,r⟩:=hok
 have hj:j < ops.size:=Nat.le_of_ble_eq_true g0
 have r:i≠j:=by simpa using r
 cases hi:ops[i]? with
 | none=>rw [hi] at m; cases m
 | some oi=>
 rw [hi] at m
 simp only at m
 rw [Bool.and_eq_true,Bool.and_eq_true] at m
 obtain ⟨⟨hg,hx⟩,c0⟩:=m
 have hg:oi.guard=none:=by
  cases h:oi.guard with
  | none=>rfl
  | some _=>rw [h] at hg; cases hg
 have hop:(∃ x k,oi.op=.extract x k)∨∃ x,oi.op=.move x:=by
  cases h:oi.op <;> rw [h] at hx <;> first | exact .inl ⟨_,_,rfl⟩ | exact .inr ⟨_,rfl⟩ | cases hx
 have a0:∀ f k,k∈Region.ready md (Ar ops j i) f→k∈Region.ready md ops f:=fun f k l=>by
  obtain ⟨y,o,ho,g⟩:=mem_ready.1 l
  rw [H7 hj] at ho
  obtain ⟨o',d0,rfl⟩:=Option.map_eq_some_iff.1 ho
  refine mem_ready.2 ⟨y,o',d0,fun e he hb=>g e ?_ hb⟩
  split
  ·exact Array.mem_push_of_mem _ he
  ·exact he
 have n:∀ f,i∈Region.ready md ops f→i∈Region.ready md (Ar ops j i) f:=fun f l=>by
  obtain ⟨y,o,ho,g⟩:=mem_ready.1 l
  exact mem_ready.2 ⟨y,o,by rw [H7 hj,ho,Option.map_some,if_neg (Ne.symm r)],g⟩
 have key:∀ f,Jb md ops f→i∉Region.ready md ops f→∀ k,k∈Region.ready md ops f→k∈Region.ready md (Ar ops j i) f:=fun f hc hn k l=>by
  obtain ⟨y,o,ho,g⟩:=mem_ready.1 l
  refine mem_ready.2 ⟨y,_,by rw [H7 hj,ho,Option.map_some],fun e he hb=>?_⟩
  by_cases hjk:j=k
  ·rw [if_pos hjk] at he
   rcases Array.mem_push.1 he with he | rfl
   ·exact g e he hb
   ·show f.getD i false=true
    cases hl:f.getD i false with
    | true=>rfl
    | false=>
     refine absurd (mem_ready.2 ⟨?_,oi,hi,fun e he hb=>?_⟩) hn
     ·have s:i < f.size:=by rw [hc.1]; exact (Array.getElem?_eq_some_iff.1 hi).1
      simp only [Array.getD_eq_getD_getElem?,Array.getElem?_eq_getElem s,Option.getD_some] at hl ⊢
      exact hl
     ·have h2:=Array.all_eq_true_iff_forall_mem.1 c0 e he
      rw [hb] at h2
      simp only [Bool.not_true,Bool.false_or] at h2
      subst hjk
      exact M4 hc d j e.on o ho g h2
  ·rw [if_neg hjk] at he
   exact g e he hb
 intro fuel
 induction fuel with
 | zero=>
  intro f a w hc h
  refine ⟨?_,h.2⟩
  rw [List.eq_nil_iff_forall_not_mem]
  intro k l
  have z:∀ k,k∉Region.ready md (Ar ops j i) f:=fun k=>by rw [h.1]; exact List.not_mem_nil
  by_cases hr:i∈Region.ready md ops f
  ·exact z i (n _ hr)
  ·exact z k (key _ hc hr k l)
 | succ fuel ih=>
  intro f a w hc h
  by_cases hr:i∈Region.ready md ops f
  ·have m:=RF hj (h.2 i (n _ hr))
   obtain ⟨v,hv,hK⟩:∃ v,(∀ u,(execOp a.eval oi).run P u=.ok (.value v) u)∧wpAny P md (Ar ops j i) Q fuel (f.setIfInBounds i true) (a.put oi.dst v) w:=by
    rcases hop with ⟨x,kx,hop⟩ | ⟨x,hop⟩
    ·exact Su hi hg hop m
    ·exact eT hi hg hop m
   refine wpAny_first hi (fun j' o' cs b=>Region.noSelect_spec b0 j' o' cs b) (fun c a w h=>absurd h (hQ _ _ _)) fuel f a w (fun j' oj q i0 p e0=>?_) hr (.inl ⟨by unfold Region.wanted; rw [hg],hv⟩) (ih _ _ _ (Nx hc hr) hK)
   unfold sk at t
   simp only [hi,List.all_eq_true,List.mem_range] at t
   have h2:=t j' (Array.getElem?_eq_some_iff.1 q).1
   simp only [q,Bool.or_eq_true,beq_iff_eq,i0,false_or] at h2
   rcases h2 with h2 | h2 | h2
   ·obtain ⟨e,he,hb⟩:=Array.any_eq_true'.1 h2
    rw [Bool.and_eq_true,beq_iff_eq] at hb
    obtain ⟨_,o,ho,g⟩:=mem_ready.1 hr
    rw [hi] at ho
    obtain rfl:=Option.some.inj ho
    have z:=g e he hb.1
    rw [hb.2] at z
    have s:j' < f.size:=by rw [hc.1]; exact (Array.getElem?_eq_some_iff.1 q).1
    simp only [Array.getD_eq_getD_getElem?,Array.getElem?_eq_getElem s,Option.getD_some] at z p
    rw [z] at p
    cases p
   ·obtain ⟨e,he,hb⟩:=Array.any_eq_true'.1 h2
    rw [Bool.and_eq_true,beq_iff_eq] at hb
    exact absurd hb.2 (e0 e he hb.1)
   ·exact h2
  ·refine ⟨fun y=>h.1 ?_,fun k l=>?_⟩
   ·rw [List.eq_nil_iff_forall_not_mem]
    intro k l
    have:=a0 _ _ l
    rw [y] at this
    cases this
   ·exact wpOp_mono (fun a' w' h'=>ih _ a' w' (Nx hc l) h') (RF hj (h.2 k (key _ hc hr k l)))
theorem MJ:Jb md ops (Array.replicate ops.size false):=by
 refine ⟨by simp,fun k o ho b=>?_⟩
 have a:=(Array.getElem?_eq_some_iff.1 ho).1
 simp [a] at b
end
theorem Q8 {P:Program} {f:FuncId} {R:Ending→World→Prop} {n:Nat} {todo:List Item} {E:Nat→Value} {w0 w:World} {M:List Az} {L T:List Th} (K:Wk w0 w M L T) {mem:List Az} (j i:Nat) (m:List Nat) (a:Nat) (l:TypeId) (zero:List Value) (hints:List (Nat×Nat×Nat)) (specs:List Sp) (ts:List (Nat×Nat×Nat)) (M':Nat→List Az)
  (hM:∀ e∈mem,e.good w) (hS:∀ v,Below w.heap.size w v→∀ sp∈specs,Eg P n (Below v.heap.size v) (Ar (AS todo) j i) sp)
  (y:∀ g z w',Wk w0 w' (M' g) L T→At P f R (AL todo) (Fr n (((Dx P n (Ar (AS todo) j i) ts (Aq (Cm P n (Ar (AS todo) j i) mem hints specs m E) (Ck (Ar (AS todo) j i) a) (BY g)) (M++[⟨g,0,zero,l,true⟩]) z).map (·.1)).getD E)) w')
  (t:Of .any (AS todo) 4 j i=true:=by kernel_rfl) (hd:(Ek todo).isSome=true:=by kernel_rfl) (hmo:P.follows .mixedOrders=true:=by kernel_rfl)
  (hok:(EZ .any (Ar (AS todo) j i) (DC (Ar (AS todo) j i) (m++[a])) (Array.replicate (Ar (AS todo) j i).size false) n (D7 P n (Ar (AS todo) j i) mem hints specs m E++[Lo w a l zero]) && Gc (Ar (AS todo) j i) (D7 P n (Ar (AS todo) j i) mem hints specs m E++[Lo w a l zero]),m.all (Ed P n (Ar (AS todo) j i) mem hints specs m E),Nat.beq (m.length + 1 + ts.length) (Ar (AS todo) j i).size,dy (Ar (AS todo) j i) m a && Iz (Ar (AS todo) j i) .any ((m++[a]).foldl (fun b i=>b.setIfInBounds i true) (Array.replicate (Ar (AS todo) j i).size false)) (ts.map (·.1)))=(true,true,true,true):=by kernel_rfl)
  (ha:∀ z,(CL P (execOp (Ax n E) ((Ar (AS todo) j i).getD a default)) ⟨z,[],(0,0),[]⟩).map (fun r=>(Do r.1,r.2.mem,r.2.eqs))=some (some (BY z),[⟨z,0,zero,l,true⟩],[]):=by intro _; kernel_rfl)
  (hp:∀ X,I3 P n (Ar (AS todo) j i) mem hints specs m E X=Gv P n (Ar (AS todo) j i) mem hints specs m E:=by intro _; kernel_rfl)
  (ht:∀ g z,(Dx P n (Ar (AS todo) j i) ts (Aq (Cm P n (Ar (AS todo) j i) mem hints specs m E) (Ck (Ar (AS todo) j i) a) (BY g)) (M++[⟨g,0,zero,l,true⟩]) z).map (fun q=>(q.2.1,q.2.2.2.map Prod.fst))=(Dx P n (Ar (AS todo) j i) ts (Aq (Cm P n (Ar (AS todo) j i) mem hints specs m E) (Ck (Ar (AS todo) j i) a) (BY g)) (M++[⟨g,0,zero,l,true⟩]) z).map (fun q=>(M' g,q.2.2.2.map Prod.snd)):=by intro _ _; kernel_rfl)
  (hs:∀ g z,(Dx P n (Ar (AS todo) j i) ts (Aq (Cm P n (Ar (AS todo) j i) mem hints specs m E) (Ck (Ar (AS todo) j i) a) (BY g)) (M++[⟨g,0,zero,l,true⟩]) z).isSome=true:=by intro _ _; kernel_rfl):At P f R todo (Fr n E) w:=by
 simp only [Prod.mk.injEq] at hok
 obtain ⟨h1,h2,h3,p⟩:=hok
 rw [Bool.and_eq_true] at p
 obtain ⟨ops,d⟩:=Option.isSome_iff_exists.1 hd
 have hr:AS todo=ops:=by
  unfold Ek at d
  split at d
  ·obtain rfl:=Option.some.inj d; rfl
  ·cases d
 rw [hr] at h1 h2 h3 p hp y hS ha ht hs t
 have s:(Ar ops j i).size=ops.size:=by unfold Ar; simp
 refine EV ops (hd:=d) (hm:=hmo) ops.size (hs:=rfl) (Oe t (fun c a w h=>by cases h.1) _ _ _ _ MJ ?_)
 rw [← s]
 refine nt K m a l zero hints specs ts.length hM hS (by rw [h1,h2,h3,p.1]) ha hp fun u g Ku=>?_
 obtain ⟨q,x⟩:=Option.isSome_iff_exists.1 (hs g u.heap.size)
 have k:=ht g u.heap.size
 have o:=y g u.heap.size
 rw [x] at k o
 simp only [Option.map_some,Option.some.injEq,Prod.mk.injEq] at k
 exact KC (P:=P) (n:=n) (ops:=Ar ops j i) (L:=L) (T:=T) (w0:=w0) (fuel:=0) (Q:=fun e a w=>e=.normal∧HM P f R (AL todo) a w) ts _ _ _ u Ku u.heap.size rfl q x (H1 k.2) p.2 fun w' a K' ha=>⟨rfl,by rw [ha]; rw [k.1] at K'; exact (o w' K').mid⟩
end Go.Proofs.YtkjbdagicjbjjaaGreat
namespace Go.Proofs.YtkjbdagicjbjjaaGreat
noncomputable section
open Go.RowKit
set_option maxRecDepth 100000
set_option maxHeartbeats 1000000
attribute [local irreducible] A8 BL AC AD AF Ao AY AL Aq Bb Cn BR Dx Cm BK At Fr
section
variable {α β:Type} [DecidableEq α] (S:BT α β) {o:Oper} {ρ:Operand→Value} {w:World}
def BT.optAt (A:Option Nat) (m:List (α×β)) (w:World):Prop:=match A with
 | none=>m=[]
 | some b=>S.at b m w
theorem BT.optAt.below {S:BT α β} {A:Option Nat} {m:List (α×β)} {w w':World} (h:S.optAt A m w) (B:Below w.heap.size w w'):S.optAt A m w':=by
 cases A with
 | none=>exact h
 | some b=>exact BT.below (S:=S) h B
omit [DecidableEq α] in
theorem BT.look2N (a:α) (ha:S.ka a):(Instr.lookup S.t (.map none) (S.kv a) true).run Tryz.prog w=.ok (.tuple #[S.ev S.z,.bool false]) w:=by
 have c:=S.K.check w true (S.key a ha)
 have h2:=S.hz w
 have b:(Instr.findKey S.k (S.kv a) []).run Tryz.prog w=.ok none w:=by
  rcases S.K.find w (S.key a ha) [] (fun e he=>by cases he) with ⟨h,_⟩ | ⟨j,e,_,h,_⟩
  ·exact h
  ·simp at h
 unfold Instr.lookup
 simp [Sem.run_bind,run_underlying S.ht,c,h2,b]
theorem Iu {t:TypeId} {x y:Operand} (hop:o.op=.lookup t x y true) (ht:t=S.t) {A:Option Nat} {m:List (α×β)} (hx:ρ x=.map A) (a:α) (c:ρ y=S.kv a) (ha:S.ka a) (h:S.optAt A m w):(execOp ρ o).run Tryz.prog w=.ok (.value (.tuple #[S.ev ((AO m a).getD S.z),.bool (AO m a).isSome])) w:=by
 cases A with
 | some b=>exact Dp S hop ht hx a c ha h
 | none=>
  obtain rfl:m=[]:=h
  subst ht
  have:=S.look2N (w:=w) a ha
  simp [execOp,hop,hx,c,this,AO]
theorem Ec {γ:Type} (f:β→γ):∀ (m:List (α×β)) (a:α),AO (m.map fun p=>(p.1,f p.2)) a=(AO m a).map f
 | [],_=>rfl
 | p :: m,a=>by
  rw [List.map_cons,AO,AO]
  split
  ·rfl
  ·exact Ec f m a
theorem FI:∀ {m:List (α×β)} {a:α} {v:β},AO m a=some v→(a,v)∈m
 | [],_,_,h=>by cases h
 | p :: m,a,v,h=>by
  rw [AO] at h
  split at h
  ·rename_i hp
   obtain rfl:=Option.some.inj h
   rw [← hp]
   exact List.mem_cons_self
  ·exact List.mem_cons_of_mem _ (FI h)
end
abbrev GV:=List Ha×Option Addr×Nat
abbrev Ei (x:GV):lW:=(x.2.1,x.1.length,x.2.2)
def yY:Option (Int×Int)→Int×Int×Int
 | none=>(0,0,16)
 | some v=>(v.1,v.2,0)
def nF:Option (Int×Int)→Int×Int×Int
 | none=>(0,0,16)
 | some v=>cond (!(Ad v.1 v.2)) (0,0,1) (v.1,v.2,0)
def ADi (kn kd:Int):Option GV→Int×Int×Int
 | none=>(0,0,16)
 | some v=>EK v.1 kn kd
def BX (cl:Bool) (cm:List (BD×Int×Int)) (nm:List (List UInt8×Int×Int)) (sx:List (List UInt8×GV)) (pa:List Dn) (p:BD):Int×Int×Int:=
 cond cl (yY (AO cm p)) (cond (p.1 == 3) (nF (AO nm p.2.1)) (cond (p.1 == 4) (ADi p.2.2.2.1 p.2.2.2.2 (AO sx p.2.1)) (cond (p.1 == 20) (Hu pa p.2.1 p.2.2.1) (Lq pa p.2.1 p.2.2.1))))
noncomputable def YS:Code:=Tryz.f87.body.getD .skip
def p9:=Ai 1 [.code YS]
def aM:=AA 60 (AL p9)
def p8:=Ai 2 (AD aM)
def aL:=AA 60 (AL p8)
def AAs:=AA 60 (AD aL)
def AAr:=AA 60 (AF aL)
def aK:=AA 60 (AF aM)
def p7:=Ai 8 (AD aK)
def aJ:=AA 60 (AL p7)
def AAq:=AA 60 (AD aJ)
def gb:=AA 60 (AF aJ)
def UE:=AA 60 (AC gb)
def vB:=AA 60 (AD UE)
def vA:=AA 60 (AF UE)
def UD:=AA 60 (AF aK)
def UC:=Ai 15 (AD UD)
def UB:=AA 60 (AL UC)
def u9:=AA 60 (AD UB)
def gZ:=AA 60 (AF UB)
def u7:=AA 60 (AC gZ)
def UA:=AA 60 (AF UD)
def gY:=Ai 20 (AD UA)
def u6:=AA 60 (AL gY)
def gX:=Ai 21 (AF UA)
def u5:=AA 60 (AL gX)
theorem kC (g:Nat) (cl:Bool) (cA nA s kA:Option Nat) (cm:List (BD×Int×Int)) (nm:List (List UInt8×Int×Int)) (sx:List (List UInt8×GV)) (m uA:Option Addr) (pa:List Dn) (r un uc:Nat) (p:BD) (w f:World) (m0:CP.optAt cA cm w) (k0:Eb.optAt nA nm w) (j0:EM.optAt s (sx.map fun q=>(q.1,Ei q.2)) w) (i0:∀ q∈sx,Cb w q.2.2.1 q.2.1∧q.2.1.length≤4294967296) (d0:EE w m pa) (e0:pa.length≤4294967296) (l0:∀ e∈pa,e.2.length≤4294967296) (hp:HP p) (B:Below w.heap.size w f) (hX:Az.good f ⟨g,0,[.bool cl,.map cA,.map nA,.map s,.slice m pa.length r,.map kA,.slice uA un uc],85,true⟩) :
  Calls Tryz.prog 87 ([BY g,.agg ⟨Dl p⟩]:List Value).toArray f fun e w'=>e=.returned (DB (BX cl cm nm sx pa p))∧Below f.heap.size f w':=by
 refine AR (args:=[BY g,.agg ⟨Dl p⟩]) (fn:=Tryz.f87) (c:=YS) (n:=96) ?_
 have K1:=Wk.start f
 have k:∀ u,Below f.heap.size f u→Below w.heap.size w u:=fun u b=>B.trans (b.mono B.size)
 have g0:∀ u,Below f.heap.size f u→Az.good u ⟨g,0,[.bool cl,.map cA,.map nA,.map s,.slice m pa.length r,.map kA,.slice uA un uc],85,true⟩:=fun u b=>F6 hX b.size (b.block _ hX.1)
 refine Bp 1 p9 [⟨f.heap.size,0,Dl p,117,true⟩,⟨f.heap.size + 1,0,[AI 0,AI 0],41,true⟩] K1 [] fun w1 K2=>?_
 refine Ap K2 (mem:=[⟨g,0,[.bool cl,.map cA,.map nA,.map s,.slice m pa.length r,.map kA,.slice uA un uc],85,true⟩]) [(3,0,0)] [] (fun e he=>by rw [List.mem_singleton.1 he]; exact g0 _ K2.B) (fun sp i=>by cases i) fun w2 E2 K3=>?_
 unfold BX
 refine AB aM K3 [] fun w3 K4=>?_
 have goods:∀ u,Wk f u [⟨f.heap.size,0,Dl p,117,true⟩,⟨f.heap.size + 1,0,[AI 0,AI 0],41,true⟩] [] []→∀ e∈([⟨f.heap.size,0,Dl p,117,true⟩,⟨g,0,[.bool cl,.map cA,.map nA,.map s,.slice m pa.length r,.map kA,.slice uA un uc],85,true⟩]:List Az),e.good u:=fun u K e he=>by
  simp only [List.mem_cons,List.not_mem_nil,or_false] at he
  rcases he with rfl | rfl
  ·exact K.ent 0 rfl
  ·exact g0 _ K.B
 refine AG cl (fun c1=>?_) (fun c1=>?_) <;> rw [c1]
 ·refine Am 2 p8 K4 [] fun w4 K5=>?_
  refine Q8 K5 (mem:=[⟨f.heap.size,0,Dl p,117,true⟩,⟨g,0,[.bool cl,.map cA,.map nA,.map s,.slice m pa.length r,.map kA,.slice uA un uc],85,true⟩]) 10 8 [0,1,2,3,4,5,6,7,8] 9 41 [AI 0,AI 0] [(3,1,1),(4,0,0)] [⟨5,[(20,.map cA),(21,.agg ⟨Dl p⟩)],.tuple #[.agg ⟨BP ((AO cm p).getD (0,0))⟩,.bool (AO cm p).isSome],true⟩] [(10,2,0),(11,0,0)] (fun q=>[⟨f.heap.size,0,Dl p,117,true⟩,⟨f.heap.size + 1,0,[AI 0,AI 0],41,true⟩,⟨q,0,BP ((AO cm p).getD (0,0)),41,true⟩]) (goods _ K5) (fun v hv sp i=>?_) fun q z w5 K6=>?_
  ·rw [List.mem_singleton.1 i]
   exact BG fun _ E u hu=>Iu CP (x:=.tmp 20) (y:=.tmp 21) (by kernel_rfl) rfl (by kernel_rfl) p (by kernel_rfl) hp (m0.below (k _ (K5.B.trans ((hv.trans (hu.mono hv.size)).mono K5.B.size))))
  refine AB aL K6 [] fun w6 t=>?_
  refine AG (!((AO cm p).isSome)) (fun c2=>?_) (fun c2=>?_)
  ·have hn:AO cm p=none:=by cases h:AO cm p with
    | none=>rfl
    | some v=>rw [h] at c2; cases c2
   refine AB AAs t [(1,0)] fun w7 j=>?_
   exact AJ j (1,0) (.tuple #[.agg ⟨[AI 0,AI 0]⟩,AI 16]) ⟨by rw [hn]; rfl,j.B⟩
  ·obtain ⟨v,hv⟩:∃ v,AO cm p=some v:=Option.isSome_iff_exists.1 (by simpa using c2)
   refine Aj AAr t [(2,0),(1,0)] fun w7 j=>?_
   refine AJ j (1,0) (.tuple #[.agg ⟨BP ((AO cm p).getD (0,0))⟩,AI 0]) ⟨?_,j.B⟩
   rw [hv]
   rfl
 refine AB aK K4 [(0,0)] fun w4 K5=>?_
 refine AG (p.1 == 3) (fun c2=>?_) (fun c2=>?_) <;> rw [c2]
 ·refine Am 8 p7 K5 [] fun w5 K6=>?_
  refine Q8 K6 (mem:=[⟨f.heap.size,0,Dl p,117,true⟩,⟨g,0,[.bool cl,.map cA,.map nA,.map s,.slice m pa.length r,.map kA,.slice uA un uc],85,true⟩]) 11 9 [0,1,2,3,4,5,6,7,8,9] 10 41 [AI 0,AI 0] [(3,1,2),(5,0,1)] [⟨6,[(37,.map nA),(39,By (p.2.1))],.tuple #[.agg ⟨BP ((AO nm p.2.1).getD (0,0))⟩,.bool (AO nm p.2.1).isSome],true⟩] [(11,2,0),(12,0,0)] (fun q=>[⟨f.heap.size,0,Dl p,117,true⟩,⟨f.heap.size + 1,0,[AI 0,AI 0],41,true⟩,⟨q,0,BP ((AO nm p.2.1).getD (0,0)),41,true⟩]) (goods _ K6) (fun v hv sp i=>?_) fun q z w6 t=>?_
  ·rw [List.mem_singleton.1 i]
   exact BG fun _ E u hu=>Iu Eb (x:=.tmp 37) (y:=.tmp 39) (by kernel_rfl) rfl (by kernel_rfl) p.2.1 (by kernel_rfl) hp.2.1 (k0.below (k _ (K6.B.trans ((hv.trans (hu.mono hv.size)).mono K6.B.size))))
  refine AB aJ t [] fun w7 j=>?_
  refine AG (!((AO nm p.2.1).isSome)) (fun c3=>?_) (fun c3=>?_)
  ·have hn:AO nm p.2.1=none:=by cases h:AO nm p.2.1 with
    | none=>rfl
    | some v=>rw [h] at c3; cases c3
   refine AB AAq j [(1,0)] fun w8 K9=>?_
   exact AJ K9 (1,0) (.tuple #[.agg ⟨[AI 0,AI 0]⟩,AI 16]) ⟨by rw [hn]; rfl,K9.B⟩
  ·obtain ⟨v,hv⟩:∃ v,AO nm p.2.1=some v:=Option.isSome_iff_exists.1 (by simpa using c3)
   rw [hv] at j ⊢
   refine AB gb j [(2,0)] fun w8 K9=>?_
   refine AQ K9 (args:=[.agg ⟨[AI v.1,AI v.2]⟩]) (Bh v.1 v.2 w8) fun w9 a=>?_
   refine AB UE a [] fun h0 a0=>?_
   unfold nF
   refine AG (!(Ad v.1 v.2)) (fun c4=>?_) (fun c4=>?_)
   ·refine AB vB a0 [(1,0)] fun c0 l=>?_
    exact AJ l (1,0) (.tuple #[.agg ⟨[AI 0,AI 0]⟩,AI 1]) ⟨by show _=Ending.returned (DB (cond (!(Ad v.1 v.2)) _ _)); rw [c4]; rfl,l.B⟩
   ·refine Aj vA a0 [(2,0),(1,0)] fun c0 l=>?_
    refine AJ l (1,0) (.tuple #[.agg ⟨BP v⟩,AI 0]) ⟨?_,l.B⟩
    show _=Ending.returned (DB (cond (!(Ad v.1 v.2)) _ _))
    rw [c4]
    rfl
 refine AB UD K5 [] fun w5 K6=>?_
 refine AG (p.1 == 4) (fun c3=>?_) (fun c3=>?_) <;> rw [c3]
 ·refine Am 15 UC K6 [] fun w6 t=>?_
  have n0:∀ (d:lW),((AO (sx.map fun q=>(q.1,Ei q.2)) p.2.1).getD d)=((AO sx p.2.1).map Ei).getD d:=fun d=>by rw [Ec]
  refine Ap t (mem:=[⟨f.heap.size,0,Dl p,117,true⟩,⟨g,0,[.bool cl,.map cA,.map nA,.map s,.slice m pa.length r,.map kA,.slice uA un uc],85,true⟩]) [(3,1,3),(5,0,1)] [⟨6,[(57,.map s),(59,By (p.2.1))],.tuple #[EM.ev (((AO sx p.2.1).map Ei).getD (none,0,0)),.bool (AO sx p.2.1).isSome],true⟩] (goods _ t) (fun sp i=>?_) fun w7 E7 j=>?_
  ·rw [List.mem_singleton.1 i]
   refine BG fun _ E u hu=>?_
   have:=Iu EM (o:=(AS UC).getD 6 default) (ρ:=RS [(57,.map s),(59,By (p.2.1))] (Ax 96 E)) (w:=u) (x:=.tmp 57) (y:=.tmp 59) (by kernel_rfl) rfl (by kernel_rfl) p.2.1 (by kernel_rfl) hp.2.1 (j0.below (k _ (t.B.trans (hu.mono t.B.size))))
   rw [Ec,Option.isSome_map] at this
   exact this
  refine AB UB j [] fun w8 K9=>?_
  refine AG (!((AO sx p.2.1).isSome)) (fun c4=>?_) (fun c4=>?_)
  ·have hn:AO sx p.2.1=none:=by cases h:AO sx p.2.1 with
    | none=>rfl
    | some v=>rw [h] at c4; cases c4
   refine AB u9 K9 [(1,0)] fun w9 a=>?_
   exact AJ a (1,0) (.tuple #[.agg ⟨[AI 0,AI 0]⟩,AI 16]) ⟨by rw [hn]; rfl,a.B⟩
  ·obtain ⟨v,hv⟩:∃ v,AO sx p.2.1=some v:=Option.isSome_iff_exists.1 (by simpa using c4)
   have b0:=i0 _ (FI hv)
   rw [hv]
   refine AB gZ K9 [(0,3)] fun w9 a=>?_
   refine AQ a (args:=[.slice v.2.1 v.1.length v.2.2,.agg ⟨[AI p.2.2.2.1,AI p.2.2.2.2]⟩]) (Nm v.2.1 v.2.2 v.1 p.2.2.2.1 p.2.2.2.2 w9 (b0.1.below (k _ a.B)) b0.2) fun h0 a0=>?_
   refine Aj u7 a0 [(1,0)] fun c0 l=>?_
   exact AJ l (1,0) (DB (EK v.1 p.2.2.2.1 p.2.2.2.2)) ⟨rfl,l.B⟩
 refine AB UA K6 [] fun w6 t=>?_
 refine AG (p.1 == 20) (fun c4=>?_) (fun c4=>?_) <;> rw [c4]
 ·refine Am 20 gY t [] fun w7 j=>?_
  refine Fk j (mem:=[⟨f.heap.size,0,Dl p,117,true⟩,⟨g,0,[.bool cl,.map cA,.map nA,.map s,.slice m pa.length r,.map kA,.slice uA un uc],85,true⟩]) [0,1,2,3,4,5,6,7,8,9,10] [(3,1,4),(5,0,1),(7,0,2)] [⟨8,[(77,.slice m pa.length r),(79,By (p.2.1)),(81,AI p.2.2.1)],DB (Hu pa p.2.1 p.2.2.1),true⟩] [(11,1,0),(12,0,0)] (goods _ j) (fun sp i=>?_) fun z w8 K9=>?_
  ·rw [List.mem_singleton.1 i]
   exact AV 115 [.tmp 77,.tmp 79,.tmp 81] [.slice m pa.length r,By (p.2.1),AI p.2.2.1] (fun _=>by kernel_rfl) fun hc u hu=>AN hu (WV m r pa p.2.1 p.2.2.1 u (d0.below (k _ (j.B.trans (hu.mono j.B.size)))) e0 l0)
  refine AB u6 K9 [] fun w9 a=>?_
  exact AJ a (1,0) (DB (Hu pa p.2.1 p.2.2.1)) ⟨rfl,a.B⟩
 ·refine Am 21 gX t [] fun w7 j=>?_
  refine Fk j (mem:=[⟨f.heap.size,0,Dl p,117,true⟩,⟨g,0,[.bool cl,.map cA,.map nA,.map s,.slice m pa.length r,.map kA,.slice uA un uc],85,true⟩]) [0,1,2,3,4,5,6,7,8,9,10] [(3,1,4),(5,0,1),(7,0,2)] [⟨8,[(88,.slice m pa.length r),(90,By (p.2.1)),(92,AI p.2.2.1)],DB (Lq pa p.2.1 p.2.2.1),true⟩] [(11,1,0),(12,0,0)] (goods _ j) (fun sp i=>?_) fun z w8 K9=>?_
  ·rw [List.mem_singleton.1 i]
   exact AV 116 [.tmp 88,.tmp 90,.tmp 92] [.slice m pa.length r,By (p.2.1),AI p.2.2.1] (fun _=>by kernel_rfl) fun hc u hu=>AN hu (j3 m r pa p.2.1 p.2.2.1 u (d0.below (k _ (j.B.trans (hu.mono j.B.size)))) e0)
  refine AB u5 K9 [] fun w9 a=>?_
  exact AJ a (1,0) (DB (Lq pa p.2.1 p.2.2.1)) ⟨rfl,a.B⟩
end
end Go.Proofs.YtkjbdagicjbjjaaGreat

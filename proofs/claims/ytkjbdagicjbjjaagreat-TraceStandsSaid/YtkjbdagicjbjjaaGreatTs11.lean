/- Contracts of functions, part 11. -/
import Derived.Test.YtkjbdagicjbjjaaGreatTs10
set_option linter.all false
namespace Go.Proofs.YtkjbdagicjbjjaaGreat
open Go.RowKit
set_option maxRecDepth 100000
section
variable {P:Program} {n:Nat} {ops:Array Oper} {mem:List A7} {hints:List (Nat×Nat×Nat)} {specs:List Sp}
def gP (ops:Array Oper) (m:List Nat) (a:Nat):Bool:=(m.all fun i=>(ops.getD i default).op.operands.toList.all fun x=>match x with
 | .tmp t=>!(C3 ops a == some t)
 | _=>true) && ((ops.getD a default).op.operands.toList.isEmpty && Jw (ops.getD a default))
theorem IB {B:List Nat} {vals:Nat→Value} {u:World}:∀ {a b:List DA},Fn B vals u (a++b)→Fn B vals u a
 | [],_,_=>trivial
 | m :: a,b,h=>by
  rw [List.cons_append] at h
  unfold Fn at h ⊢
  split at h
  ·exact ⟨h.1,IB h.2⟩
  exact IB h
theorem Kl {vals:Nat→Value} {u:World}:∀ {b a:List DA},Ff vals u (b++a)→Ff vals u b∧Ff vals u a
 | [],_,h=>⟨trivial,h⟩
 | m :: b,a,h=>by
  rw [List.cons_append] at h
  unfold Ff at h
  obtain ⟨c,h2⟩:=h
  have:=Kl h2
  exact ⟨⟨c,this.1⟩,this.2⟩
theorem Wr.of_left {W V:Wr} {t:Tmp} (h:∀ p∈V,p.1≠t):Wr.of (W++V) t=Wr.of W t:=by
 unfold Wr.of
 rw [List.find?_append]
 have:V.find? (fun p=>p.1 == t)=none:=by
  rw [List.find?_eq_none]
  intro p a
  simpa using h p a
 rw [this,Option.or_none]
end
def Mg (w:World) (a:Nat) (T:TypeId) (zero:List Value):DA:=⟨a,[],[a],fun vs u=>∃ g,vs=[ζ g]∧(ε w)≤g∧A7.good u ⟨g,0,zero,T,true⟩⟩
theorem qW {P:Program} {n:Nat} {ops:Array Oper} {Q:Exit→Act→World→Prop} {E:Nat→Value} {w0 w:World} {M:List A7} {L T:List Th} (K:Wk w0 w M L T) {mem:List A7} (m:List Nat) (a:Nat) (y:TypeId) (zero:List Value) (hints:List (Nat×Nat×Nat)) (specs:List Sp) (r:Nat)
  (hM:∀ e∈mem,e.good w) (hS:∀ v,Below (ε w) w v→∀ sp∈specs,FG P n (Below (ε v) v) ops sp)
  (hok:(Ev .any ops (DU ops (m++[a])) (Array.replicate ops.size false) n (EO P n ops mem hints specs m E++[Mg w a y zero]) && HM ops (EO P n ops mem hints specs m E++[Mg w a y zero]),m.all (FB P n ops mem hints specs m E),Nat.beq (m.length + 1 + r) ops.size,gP ops m a)=(true,true,true,true))
  (ha:∀ z,(Cd P (execOp (A8 n E) (ops.getD a default)) ⟨z,[],(0,0),[]⟩).map (fun r=>(D5 r.1,r.2.mem,r.2.eqs))=some (some (ζ z),[⟨z,0,zero,y,true⟩],[]))
  (hp:∀ X,Jc P n ops mem hints specs m E X=Hk P n ops mem hints specs m E)
  (hk:∀ u g,Wk w0 u (M++[⟨g,0,zero,y,true⟩]) L T→wpAny P .any ops Q r ((m++[a]).foldl (fun b i=>b.setIfInBounds i true) (Array.replicate ops.size false)) (Fr n (Aw (C5 P n ops mem hints specs m E) (C3 ops a) (ζ g))) u):wpAny P .any ops Q ops.size (Array.replicate ops.size false) (Fr n E) w.drew:=by
 simp only [Prod.mk.injEq] at hok
 obtain ⟨hok,f1,d1,hX⟩:=hok
 unfold gP at hX
 rw [Bool.and_eq_true,Bool.and_eq_true] at hX
 obtain ⟨r1,q1,j0⟩:=hX
 have hN:m.length + 1 + r=ops.size:=Nat.eq_of_beq_eq_true d1
 have z0:∀ i∈m,∀ t,Operand.tmp t∈(ops.getD i default).op.operands→(DU ops (m++[a])).of t=(DU ops m).of t:=fun i hi t ht=>by
  have h1:=List.all_eq_true.1 (List.all_eq_true.1 r1 i hi) _ (Array.mem_toList_iff.2 ht)
  simp only [Bool.not_eq_true',beq_eq_false_iff_ne] at h1
  unfold DU
  rw [List.filterMap_append]
  refine Wr.of_left fun p hp he=>h1 ?_
  obtain ⟨k,d0,q⟩:=List.mem_filterMap.1 hp
  obtain rfl:=List.mem_singleton.1 d0
  obtain ⟨t',c1,rfl⟩:=Option.map_eq_some_iff.1 q
  rw [c1,← he]
 have parts:∀ l:List Nat,(∀ i∈l,i∈m)→Jg P ops n E (DU ops (m++[a])) (fun u=>Below (ε w) w u) (fun u u'=>Below (ε u) u u') (EO P n ops mem hints specs m E++[Mg w a y zero]) (l.map (fun i=>Bd i (Ef ops m i) (Dt P n ops mem hints specs m E i))++[Mg w a y zero]):=by
  intro l
  induction l with
  | nil=>
   intro _
   refine ⟨⟨fun _ _ _ _ he h=>?_,fun vals u hu hb=>?_⟩,trivial⟩
   ·obtain ⟨g,h1,h2,h3⟩:=h
    exact ⟨g,h1,h2,GY h3 he.size (he.block _ h3.1)⟩
   show AN P (ops.getD a default) (DF n E (DU ops (m++[a])) vals) u _
   have g0:∀ K',AN P (ops.getD a default) (A8 n E) u K'→AN P (ops.getD a default) (DF n E (DU ops (m++[a])) vals) u K':=fun K' h=>by
    unfold AN at h ⊢
    rw [execOp_congr (ρ:=DF n E (DU ops (m++[a])) vals) (ρ':=A8 n E) _ (fun cs b hh=>by unfold Jw at j0; rw [hh] at j0; cases j0) (fun x hx=>by
     have:=Array.mem_toList_iff.2 hx
     rw [List.isEmpty_iff.1 q1] at this
     cases this)]
    exact h
   refine g0 _ ?_
   have p1:=ha (ε u)
   obtain ⟨x,hx,k0⟩:=Option.map_eq_some_iff.1 p1
   obtain ⟨nx,b0⟩:=x
   simp only [Prod.mk.injEq] at k0
   obtain ⟨e1,e2,e3⟩:=k0
   have b1:nx=.value (ζ (ε u))∨(nx=.skip∧(ζ (ε u):Value)=undef):=by
    cases nx <;> simp [D5] at e1
    ·exact .inl (by rw [e1])
    exact .inr ⟨rfl,e1.symm⟩
   refine AN.runsK (O:=[]) (B:=(ε u)) ⟨ε u,[],(0,0),[]⟩ b0 nx _ (hm:=hx) b1 (CW u) (by rw [e3]; rfl) fun w' hL hK=>?_
   have hB:Below (ε u) u w':=hK.below (Nat.le_refl _) (fun k hk=>by cases hk)
   refine ⟨hu.trans (hB.mono hu.size),hB,ε u,?_,hu.size,hL.sat.good _ (by rw [e2]; simp)⟩
   show [Dw vals a _ a]=_
   unfold Dw
   rw [if_pos rfl]
  | cons i l ih=>
   intro hl
   refine ⟨⟨fun _ _ _ _ _ h=>h,fun vals u hu hb=>?_⟩,ih fun j hj=>hl j (by simp [hj])⟩
   replace hb:=IB hb
   have e0:=hl i (by simp)
   have hs:=List.all_eq_true.1 f1 i e0
   unfold FB at hs
   rw [Bool.and_eq_true] at hs
   have c0:Ml P n ops mem hints specs m E vals i=J0 P n ops mem hints specs m E i:=by
    have h1:=hp vals
    unfold Jc Hk at h1
    exact (List.map_inj_left.1 h1) i e0
   unfold Ml J0 at c0
   simp only [Prod.mk.injEq] at c0
   obtain ⟨hop,s0,d⟩:=c0
   have hρ:∀ x∈(ops.getD i default).op.operands,DF n E (DU ops (m++[a])) vals x=A8 n (Ee P n ops mem hints specs m E i) x:=fun x hx=>by
    have h2:NE P n ops mem hints specs m E vals i x=A8 n (Ee P n ops mem hints specs m E i) x:=by
     have a1:x∈(ops.getD i default).op.operands.toList:=Array.mem_toList_iff.2 hx
     obtain ⟨k,q⟩:=List.mem_iff_getElem?.1 a1
     have h3:=congrArg (fun l=>l[k]?) hop
     simp only [List.getElem?_map,q,Option.map_some,Option.some.injEq] at h3
     exact h3
    rw [← h2]
    cases x with
    | tmp t=>
     unfold DF NE
     have hw:=z0 i e0 t hx
     cases hW:(DU ops m).of t with
     | none=>rw [hW] at hw; simp only [hW,hw]
     | some j=>
      rw [hW] at hw
      simp only [hW,hw]
      cases hc:(Ef ops m i).contains j with
      | false=>rfl
      | true=>
       have hj:j∈m:=by
        unfold Wr.of at hW
        obtain ⟨p,i1,g1⟩:=Option.map_eq_some_iff.1 hW
        have o:=List.mem_of_find?_eq_some i1
        unfold DU at o
        obtain ⟨k,d0,q⟩:=List.mem_filterMap.1 o
        obtain ⟨t',_,rfl⟩:=Option.map_eq_some_iff.1 q
        rw [← g1]
        exact d0
       exact Ir hb j hj hc
    | _=>rfl
   have m0:∀ cs b,(ops.getD i default).op≠.select cs b:=fun cs b hh=>by
    have:=hs.1
    unfold Jw at this
    rw [hh] at this
    cases this
   show AN P (ops.getD i default) (DF n E (DU ops (m++[a])) vals) u _
   have g0:∀ K',AN P (ops.getD i default) (A8 n (Ee P n ops mem hints specs m E i)) u K'→AN P (ops.getD i default) (DF n E (DU ops (m++[a])) vals) u K':=fun K' h=>by
    unfold AN at h ⊢
    rw [execOp_congr _ m0 hρ]
    exact h
   refine g0 _ ?_
   cases hsp:He specs i with
   | some sp=>
    rw [hsp] at s0 hs
    have o:=I5 hsp
    have hi:=o.2
    have q0:=hS u hu sp o.1 hs.2 (Ee P n ops mem hints specs m E i) (Ip s0) u (Below.refl _ _)
    rw [hi] at q0
    refine AN.of_quiet q0 (Below.refl _ _) fun w' l0=>⟨hu.trans (l0.mono hu.size),l0,?_⟩
    show [Dw vals i sp.v i]=[Dt P n ops mem hints specs m E i]
    unfold Dw Dt Mk
    rw [hsp,if_pos rfl]
   | none=>
    rw [hsp] at d hs
    simp only at d hs
    obtain ⟨x,hx⟩:=Option.isSome_iff_exists.1 hs.2
    rw [hx] at d
    simp only [Option.map_some,Option.some.injEq,Prod.mk.injEq] at d
    obtain ⟨nx,b0⟩:=x
    have f:=d.1
    cases nx with
    | value v=>
     simp only [D5,Option.some.injEq] at f
     refine AN.reads ⟨0,mem,IK hints i,[]⟩ (CQ hM hu) v (hv:=by rw [hx]; rfl) (he:=by rw [hx]; exact congrArg some d.2) ⟨hu,Below.refl _ _,?_⟩
     show [Dw vals i v i]=[Dt P n ops mem hints specs m E i]
     unfold Dw
     rw [if_pos rfl,f]
    | skip=>
     simp only [D5,Option.some.injEq] at f
     have l1:(Dh P (execOp (A8 n (Ee P n ops mem hints specs m E i)) (ops.getD i default)) ⟨0,mem,IK hints i,[]⟩)=some (.skip,b0):=hx
     have p0:=F4 (w:=u) _ _ _ _ l1 (CQ hM hu) (Ig d.2)
     unfold AN
     rw [p0]
     refine ⟨hu,Below.refl _ _,?_⟩
     show [Dw vals i undef i]=[Dt P n ops mem hints specs m E i]
     unfold Dw
     rw [if_pos rfl,f]
    | enter _ _=>simp [D5] at f
    | _=>simp [D5] at f
 have r0:(EO P n ops mem hints specs m E++[Mg w a y zero]).length=m.length + 1:=by unfold EO; rw [List.length_append,List.length_map]; rfl
 have a0:(EO P n ops mem hints specs m E++[Mg w a y zero]).map (·.idx)=m++[a]:=by
  unfold EO
  rw [List.map_append,List.map_map]
  show m.map (fun i=>i)++[a]=_
  rw [List.map_id']
 have k1:(m++[a]).Nodup:=by
  have:=Eu (by have h:=hok; rw [Bool.and_eq_true] at h; exact h.1)
  rw [← a0]; exact this.nodup
 refine D8 (md:=.any) (fuel:=r) (L:=EO P n ops mem hints specs m E++[Mg w a y zero]) (W:=DU ops (m++[a])) (C:=fun u=>Below (ε w) w u) (Ext:=fun u u'=>Below (ε u) u u') (hok:=hok) (Below.refl _ _).drew (fun u=>Below.refl _ _) (fun a b c h k=>h.trans (k.mono h.size)) (parts m fun i hi=>hi) (by rw [r0,hN]) fun vals u hu _ x0=>?_
 obtain ⟨i0,h0⟩:=Kl x0
 obtain ⟨g,o1,n1,t0⟩:∃ g,vals a=ζ g∧(ε w)≤g∧A7.good u ⟨g,0,zero,y,true⟩:=by
  obtain ⟨⟨g,h1,h2,h3⟩,_⟩:=h0
  exact ⟨g,(List.cons.inj h1).1,h2,h3⟩
 rw [a0]
 have v0:Lj ops vals (m++[a]) E=Aw (C5 P n ops mem hints specs m E) (C3 ops a) (ζ g):=by
  unfold Lj
  rw [List.foldl_append]
  have:=Mt (mem:=mem) (hints:=hints) (specs:=specs) (P:=P) (n:=n) (E:=E) (vals:=vals) (List.nodup_append.1 k1).1 (fun j hj=>JL i0 j hj)
  unfold Lj at this
  rw [this]
  show Aw _ _ (vals a)=_
  rw [o1]
 rw [v0]
 refine hk u g ?_
 have hO:Aj (ε w) u [Th.ent ⟨g,0,zero,y,true⟩]:=⟨hu.size,fun i t hi=>?_,fun i t hi k hk=>?_,fun i j s t hi hj m1=>?_⟩
 ·have:=K.joinE (Z:=[]) hu hO
  rwa [List.append_nil] at this
 ·cases i with
  | zero=>obtain rfl:=Option.some.inj hi; exact t0
  | succ i=>simp at hi
 ·cases i with
  | zero=>
   obtain rfl:=Option.some.inj hi
   obtain rfl:k=g:=hk
   exact ⟨n1,t0.1⟩
  | succ i=>simp at hi
 cases i with
 | zero=>cases j with
  | zero=>exact absurd rfl m1
  | succ j=>simp at hj
 | succ i=>simp at hi
def Au (ops:Array Oper) (j i:Nat):Array Oper:=ops.setIfInBounds j { ops.getD j default with after:=(ops.getD j default).after.push ⟨i,.data⟩ }
def UL (md:Region.Mode) (ops:Array Oper):Nat→Nat→Nat→Bool
 | 0,_,_=>false
 | d + 1,k,t=>match ops[k]? with
  | some o=>o.after.any fun e=>Region.binds md e && (e.on == t || UL md ops d e.on t)
  | none=>false
def vQ (md:Region.Mode) (ops:Array Oper) (i:Nat):Bool:=match ops[i]? with
 | some oi=>(List.range ops.size).all fun j=>j == i || oi.after.any (fun e=>Region.binds md e && e.on == j) || (match ops[j]? with
  | some oj=>oj.after.any (fun e=>Region.binds md e && e.on == i) || oi.apart ops oj
  | none=>true)
 | none=>false
def P4 (md:Region.Mode) (ops:Array Oper) (d j i:Nat):Bool:=(match ops[i]? with
 | some oi=>oi.guard.isNone && (match oi.op with | .extract _ _ | .move _=>true | _=>false) && oi.after.all (fun e=>!Region.binds md e || UL md ops d j e.on)
 | none=>false) && (vQ md ops i && Region.noSelect ops && Nat.ble (j + 1) ops.size && !(i == j))
section
variable {P:Program} {ops:Array Oper} {Q:Exit→Act→World→Prop} {md:Region.Mode}
def KG (md:Region.Mode) (ops:Array Oper) (listed:Array Bool):Prop:=listed.size=ops.size∧∀ k o,ops[k]?=some o→listed.getD k false=true→∀ e∈o.after,Region.binds md e=true→listed.getD e.on false=true
theorem N7 {a:Array Bool} (hc:KG md ops a):∀ (d k t:Nat) (o:Oper),ops[k]?=some o→(∀ e∈o.after,Region.binds md e=true→a.getD e.on false=true)→UL md ops d k t=true→a.getD t false=true
 | 0,_,_,_,_,_,h=>by cases h
 | d + 1,k,t,o,ho,hl,h=>by
  unfold UL at h
  simp only [ho] at h
  obtain ⟨e,he,hb⟩:=Array.any_eq_true'.1 h
  rw [Bool.and_eq_true,Bool.or_eq_true] at hb
  obtain ⟨g,b⟩:=hb
  have j:=hl e he g
  rcases b with b | b
  ·rw [← beq_iff_eq.1 b]; exact j
  have c:e.on < ops.size:=by
   rcases Nat.lt_or_ge e.on a.size with l | l
   ·rw [← hc.1]; exact l
   simp [Array.getElem?_eq_none l] at j
  exact N7 hc d e.on t ops[e.on] (Array.getElem?_eq_getElem c) (fun e' f i=>hc.2 _ _ (Array.getElem?_eq_getElem c) j e' f i) b
theorem PE {a:Array Bool} (hc:KG md ops a) {k:Nat} (d:k∈Region.ready md ops a):KG md ops (a.setIfInBounds k true):=by
 refine ⟨by simp [hc.1],fun j o ho c e he hb=>?_⟩
 obtain ⟨_,ok,hok,b⟩:=mem_ready.1 d
 by_cases hjk:k=j
 ·subst hjk
  rw [hok] at ho
  obtain rfl:=Option.some.inj ho
  exact getD_set_true (b e he hb)
 rw [getD_set_ne false hjk] at c
 exact getD_set_true (hc.2 j o ho c e he hb)
theorem UN {i:Nat} {o:Oper} {x:Operand} {k:Nat} {K:Act→World→Prop} {a:Act} {w:World} (hi:ops[i]?=some o) (hg:o.guard=none) (hop:o.op=.extract x k) (h:wpOp P ops Q i K a w):∃ v,(∀ u,(execOp a.eval o).run P u=.ok (.value v) u)∧K (a.put o.dst v) w:=by
 unfold wpOp at h
 have c:Region.wanted o (yielded ops a.tmps)=true:=by unfold Region.wanted; rw [hg]
 simp only [hi,c,if_true] at h
 unfold Oper.wp Oper.asks at h
 have hx:execOp a.eval o=(do pure (Next.value (← Instr.extract (a.eval x) k))):=by simp only [execOp,hop]
 rw [hx] at h ⊢
 have b:∀ s:String,¬ ((o.upon P a K Q (Sem.run P (do pure (Next.value (← (stuck s:Sem Value)))) w))∨((noRoomEvent∈((do pure (Next.value (← (stuck s:Sem Value))):Sem Next).runT P w #[]).2∧(match (Sem.run P (do pure (Next.value (← (stuck s:Sem Value)))) w) with
  | .halt .blocked _ | .halt .waiting _ | .halt (.unsupported (.initOrder _)) _=>False
  | _=>True))∧LetsOut Q)):=fun s h=>by
  rcases h with h | h
  ·exact h
  have:=h.1.1
  revert this
  show noRoomEvent∈(#[]:Array _)→False
  simp
 cases hv:a.eval x with
 | tuple vs=>
  rw [hv] at h
  unfold Instr.extract at h ⊢
  cases hk:vs[k]? with
  | none=>
   simp only [hk] at h
   exact absurd h (b _)
  | some v=>
   simp only [hk] at h ⊢
   refine ⟨v,fun u=>rfl,?_⟩
   rcases h with h | h
   ·exact h
   have:=h.1.1
   revert this
   show noRoomEvent∈(#[]:Array _)→_
   simp
 | _=>
  rw [hv] at h
  exact absurd h (b _)
theorem iF {i:Nat} {o:Oper} {x:Operand} {K:Act→World→Prop} {a:Act} {w:World} (hi:ops[i]?=some o) (hg:o.guard=none) (hop:o.op=.move x) (h:wpOp P ops Q i K a w):∃ v,(∀ u,(execOp a.eval o).run P u=.ok (.value v) u)∧K (a.put o.dst v) w:=by
 unfold wpOp at h
 have b:Region.wanted o (yielded ops a.tmps)=true:=by unfold Region.wanted; rw [hg]
 simp only [hi,b,if_true] at h
 unfold Oper.wp Oper.asks at h
 have hx:execOp a.eval o=pure (Next.value (a.eval x)):=by simp only [execOp,hop]
 rw [hx] at h ⊢
 refine ⟨a.eval x,fun u=>rfl,?_⟩
 rcases h with h | h
 ·exact h
 have:=h.1.1
 revert this
 show noRoomEvent∈(#[]:Array _)→_
 simp
theorem Ik {j i:Nat} (a:j < ops.size) (k:Nat):(Au ops j i)[k]?=(ops[k]?).map fun o=>if j=k then { o with after:=o.after.push ⟨i,.data⟩ } else o:=by
 unfold Au
 rw [Array.getElem?_setIfInBounds]
 by_cases h:j=k
 ·subst h
  rw [if_pos rfl,if_pos a,Array.getElem?_eq_getElem a,Option.map_some,if_pos rfl,Array.getD_eq_getD_getElem?,Array.getElem?_eq_getElem a]
  rfl
 rw [if_neg h]
 cases ops[k]? with
 | none=>rfl
 | some o=>rw [Option.map_some,if_neg h]
theorem Sc {j i k:Nat} {K:Act→World→Prop} {a:Act} {w:World} (b:j < ops.size) (h:wpOp P (Au ops j i) Q k K a w):wpOp P ops Q k K a w:=by
 have c:yielded (Au ops j i) a.tmps=yielded ops a.tmps:=by
  funext t
  unfold yielded
  rw [Ik b]
  cases ops[t]? with
  | none=>rfl
  | some o=>
   by_cases h:j=t
   ·simp [h]
   simp [h]
 unfold wpOp at h ⊢
 rw [c,Ik b] at h
 cases ho:ops[k]? with
 | none=>rw [ho] at h; exact h
 | some o=>
  rw [ho] at h
  by_cases hjk:j=k
  ·simp only [Option.map_some,if_pos hjk] at h
   exact h
  simp only [Option.map_some,if_neg hjk] at h
  exact h
theorem P2 {d j i:Nat} (hok:P4 md ops d j i=true) (hQ:∀ c a w,¬ Q (.panic c) a w):∀ (fuel:Nat) (f:Array Bool) (a:Act) (w:World),KG md ops f→wpAny P md (Au ops j i) Q fuel f a w→wpAny P md ops Q fuel f a w:=by
 unfold P4 at hok
 rw [Bool.and_eq_true,Bool.and_eq_true,Bool.and_eq_true,Bool.and_eq_true] at hok
 obtain ⟨m,⟨⟨t,b0⟩,g0⟩,r⟩:=hok
 have hj:j < ops.size:=Nat.le_of_ble_eq_true g0
 have r:i≠j:=by simpa using r
 cases hi:ops[i]? with
 | none=>rw [hi] at m; cases m
 | some oi=>
 rw [hi] at m
 simp only at m
 rw [Bool.and_eq_true,Bool.and_eq_true] at m
 obtain ⟨⟨hg,hx⟩,c0⟩:=m
 have hg:oi.guard=none:=by
  cases h:oi.guard with
  | none=>rfl
  | some _=>rw [h] at hg; cases hg
 have hop:(∃ x k,oi.op=.extract x k)∨∃ x,oi.op=.move x:=by
  cases h:oi.op <;> rw [h] at hx <;> first | exact .inl ⟨_,_,rfl⟩ | exact .inr ⟨_,rfl⟩ | cases hx
 have a0:∀ f k,k∈Region.ready md (Au ops j i) f→k∈Region.ready md ops f:=fun f k l=>by
  obtain ⟨y,o,ho,g⟩:=mem_ready.1 l
  rw [Ik hj] at ho
  obtain ⟨o',d0,rfl⟩:=Option.map_eq_some_iff.1 ho
  refine mem_ready.2 ⟨y,o',d0,fun e he hb=>g e ?_ hb⟩
  split
  ·exact Array.mem_push_of_mem _ he
  exact he
 have n:∀ f,i∈Region.ready md ops f→i∈Region.ready md (Au ops j i) f:=fun f l=>by
  obtain ⟨y,o,ho,g⟩:=mem_ready.1 l
  exact mem_ready.2 ⟨y,o,by rw [Ik hj,ho,Option.map_some,if_neg (Ne.symm r)],g⟩
 have key:∀ f,KG md ops f→i∉Region.ready md ops f→∀ k,k∈Region.ready md ops f→k∈Region.ready md (Au ops j i) f:=fun f hc hn k l=>by
  obtain ⟨y,o,ho,g⟩:=mem_ready.1 l
  refine mem_ready.2 ⟨y,_,by rw [Ik hj,ho,Option.map_some],fun e he hb=>?_⟩
  by_cases hjk:j=k
  ·rw [if_pos hjk] at he
   rcases Array.mem_push.1 he with he | rfl
   ·exact g e he hb
   show f.getD i false=true
   cases hl:f.getD i false with
   | true=>rfl
   | false=>
    refine absurd (mem_ready.2 ⟨?_,oi,hi,fun e he hb=>?_⟩) hn
    ·have s:i < f.size:=by rw [hc.1]; exact (Array.getElem?_eq_some_iff.1 hi).1
     simp only [Array.getD_eq_getD_getElem?,Array.getElem?_eq_getElem s,Option.getD_some] at hl ⊢
     exact hl
    have h2:=Array.all_eq_true_iff_forall_mem.1 c0 e he
    rw [hb] at h2
    simp only [Bool.not_true,Bool.false_or] at h2
    subst hjk
    exact N7 hc d j e.on o ho g h2
  rw [if_neg hjk] at he
  exact g e he hb
 intro fuel
 induction fuel with
 | zero=>
  intro f a w hc h
  refine ⟨?_,h.2⟩
  rw [List.eq_nil_iff_forall_not_mem]
  intro k l
  have z:∀ k,k∉Region.ready md (Au ops j i) f:=fun k=>by rw [h.1]; exact List.not_mem_nil
  by_cases hr:i∈Region.ready md ops f
  ·exact z i (n _ hr)
  exact z k (key _ hc hr k l)
 | succ fuel ih=>
  intro f a w hc h
  by_cases hr:i∈Region.ready md ops f
  ·have m:=Sc hj (h.2 i (n _ hr))
   obtain ⟨v,hv,hK⟩:∃ v,(∀ u,(execOp a.eval oi).run P u=.ok (.value v) u)∧wpAny P md (Au ops j i) Q fuel (f.setIfInBounds i true) (a.put oi.dst v) w:=by
    rcases hop with ⟨x,kx,hop⟩ | ⟨x,hop⟩
    ·exact UN hi hg hop m
    exact iF hi hg hop m
   refine wpAny_first hi (fun j' o' cs b=>Region.noSelect_spec b0 j' o' cs b) (fun c a w h=>absurd h (hQ _ _ _)) fuel f a w (fun j' oj q i0 p e0=>?_) hr (.inl ⟨by unfold Region.wanted; rw [hg],hv⟩) (ih _ _ _ (PE hc hr) hK)
   unfold vQ at t
   simp only [hi,List.all_eq_true,List.mem_range] at t
   have h2:=t j' (Array.getElem?_eq_some_iff.1 q).1
   simp only [q,Bool.or_eq_true,beq_iff_eq,i0,false_or] at h2
   rcases h2 with h2 | h2 | h2
   ·obtain ⟨e,he,hb⟩:=Array.any_eq_true'.1 h2
    rw [Bool.and_eq_true,beq_iff_eq] at hb
    obtain ⟨_,o,ho,g⟩:=mem_ready.1 hr
    rw [hi] at ho
    obtain rfl:=Option.some.inj ho
    have z:=g e he hb.1
    rw [hb.2] at z
    have s:j' < f.size:=by rw [hc.1]; exact (Array.getElem?_eq_some_iff.1 q).1
    simp only [Array.getD_eq_getD_getElem?,Array.getElem?_eq_getElem s,Option.getD_some] at z p
    rw [z] at p
    cases p
   ·obtain ⟨e,he,hb⟩:=Array.any_eq_true'.1 h2
    rw [Bool.and_eq_true,beq_iff_eq] at hb
    exact absurd hb.2 (e0 e he hb.1)
   exact h2
  refine ⟨fun y=>h.1 ?_,fun k l=>?_⟩
  ·rw [List.eq_nil_iff_forall_not_mem]
   intro k l
   have:=a0 _ _ l
   rw [y] at this
   cases this
  exact wpOp_mono (fun a' w' h'=>ih _ a' w' (PE hc l) h') (Sc hj (h.2 k (key _ hc hr k l)))
theorem NF:KG md ops (Array.replicate ops.size false):=by
 refine ⟨by simp,fun k o ho b=>?_⟩
 have a:=(Array.getElem?_eq_some_iff.1 ho).1
 simp [a] at b
end
theorem SU {P:Program} {f:FuncId} {R:Ending→World→Prop} {n:Nat} {todo:List Item} {E:Nat→Value} {w0 w:World} {M:List A7} {L T:List Th} (K:Wk w0 w M L T) {mem:List A7} (j i:Nat) (m:List Nat) (a:Nat) (l:TypeId) (zero:List Value) (hints:List (Nat×Nat×Nat)) (specs:List Sp) (ts:List (Nat×Nat×Nat)) (M':Nat→List A7)
  (hM:∀ e∈mem,e.good w) (hS:∀ v,Below (ε w) w v→∀ sp∈specs,FG P n (Below (ε v) v) (Au (AR todo) j i) sp)
  (y:∀ g z w',Wk w0 w' (M' g) L T→At P f R (AM todo) (Fr n (((EE P n (Au (AR todo) j i) ts (Aw (C5 P n (Au (AR todo) j i) mem hints specs m E) (C3 (Au (AR todo) j i) a) (ζ g)) (M++[⟨g,0,zero,l,true⟩]) z).map (·.1)).getD E)) w')
  (t:P4 .any (AR todo) 4 j i=true:=by kernel_rfl) (hd:(FL todo).isSome=true:=by kernel_rfl) (hmo:P.follows .mixedOrders=true:=by kernel_rfl)
  (hok:(Ev .any (Au (AR todo) j i) (DU (Au (AR todo) j i) (m++[a])) (Array.replicate (Au (AR todo) j i).size false) n (EO P n (Au (AR todo) j i) mem hints specs m E++[Mg w a l zero]) && HM (Au (AR todo) j i) (EO P n (Au (AR todo) j i) mem hints specs m E++[Mg w a l zero]),m.all (FB P n (Au (AR todo) j i) mem hints specs m E),Nat.beq (m.length + 1 + ts.length) (Au (AR todo) j i).size,gP (Au (AR todo) j i) m a && JW (Au (AR todo) j i) .any ((m++[a]).foldl (fun b i=>b.setIfInBounds i true) (Array.replicate (Au (AR todo) j i).size false)) (ts.map (·.1)))=(true,true,true,true):=by kernel_rfl)
  (ha:∀ z,(Cd P (execOp (A8 n E) ((Au (AR todo) j i).getD a default)) ⟨z,[],(0,0),[]⟩).map (fun r=>(D5 r.1,r.2.mem,r.2.eqs))=some (some (ζ z),[⟨z,0,zero,l,true⟩],[]):=by intro _; kernel_rfl)
  (hp:∀ X,Jc P n (Au (AR todo) j i) mem hints specs m E X=Hk P n (Au (AR todo) j i) mem hints specs m E:=by intro _; kernel_rfl)
  (ht:∀ g z,(EE P n (Au (AR todo) j i) ts (Aw (C5 P n (Au (AR todo) j i) mem hints specs m E) (C3 (Au (AR todo) j i) a) (ζ g)) (M++[⟨g,0,zero,l,true⟩]) z).map (fun q=>(q.2.1,q.2.2.2.map Prod.fst))=(EE P n (Au (AR todo) j i) ts (Aw (C5 P n (Au (AR todo) j i) mem hints specs m E) (C3 (Au (AR todo) j i) a) (ζ g)) (M++[⟨g,0,zero,l,true⟩]) z).map (fun q=>(M' g,q.2.2.2.map Prod.snd)):=by intro _ _; kernel_rfl)
  (hs:∀ g z,(EE P n (Au (AR todo) j i) ts (Aw (C5 P n (Au (AR todo) j i) mem hints specs m E) (C3 (Au (AR todo) j i) a) (ζ g)) (M++[⟨g,0,zero,l,true⟩]) z).isSome=true:=by intro _ _; kernel_rfl):At P f R todo (Fr n E) w:=by
 simp only [Prod.mk.injEq] at hok
 obtain ⟨h1,h2,h3,p⟩:=hok
 rw [Bool.and_eq_true] at p
 obtain ⟨ops,d⟩:=Option.isSome_iff_exists.1 hd
 have hr:AR todo=ops:=by
  unfold FL at d
  split at d
  ·obtain rfl:=Option.some.inj d; rfl
  cases d
 rw [hr] at h1 h2 h3 p hp y hS ha ht hs t
 have s:(Au ops j i).size=ops.size:=by unfold Au; simp
 refine ER ops (hd:=d) (hm:=hmo) ops.size (hs:=rfl) (P2 t (fun c a w h=>by cases h.1) _ _ _ _ NF ?_)
 rw [← s]
 refine qW K m a l zero hints specs ts.length hM hS (by rw [h1,h2,h3,p.1]) ha hp fun u g Ku=>?_
 obtain ⟨q,x⟩:=Option.isSome_iff_exists.1 (hs g (ε u))
 have k:=ht g (ε u)
 have o:=y g (ε u)
 rw [x] at k o
 simp only [Option.map_some,Option.some.injEq,Prod.mk.injEq] at k
 exact Ky (P:=P) (n:=n) (ops:=Au ops j i) (L:=L) (T:=T) (w0:=w0) (fuel:=0) (Q:=fun e a w=>e=.normal∧H1 P f R (AM todo) a w) ts _ _ _ u Ku (ε u) rfl q x (Ig k.2) p.2 fun w' a K' ha=>⟨rfl,by rw [ha]; rw [k.1] at K'; exact (o w' K').mid⟩
section
variable {P:Program} {n:Nat} {ops:Array Oper} {mem:List A7} {hints:List (Nat×Nat×Nat)} {specs:List Sp} {E:Nat→Value}
def gO (ops:Array Oper) (m:List Nat) (a:Nat):Bool:=((m++[a]).all fun i=>(ops.getD i default).op.operands.toList.all fun x=>match x with
 | .tmp t=>!(C3 ops a == some t)
 | _=>true) && Jw (ops.getD a default)
theorem lz {m:List Nat} {a i:Nat} {vals:Nat→Value} {u:World} (hi:i∈m++[a]) (r:((m++[a]).all fun i=>(ops.getD i default).op.operands.toList.all fun x=>match x with
 | .tmp t=>!(C3 ops a == some t)
 | _=>true)=true) (hop:(ops.getD i default).op.operands.toList.map (NE P n ops mem hints specs m E vals i)=(ops.getD i default).op.operands.toList.map (A8 n (Ee P n ops mem hints specs m E i)))
  (hb:Fn (Ef ops m i) vals u (EO P n ops mem hints specs m E)):∀ x∈(ops.getD i default).op.operands,DF n E (DU ops (m++[a])) vals x=A8 n (Ee P n ops mem hints specs m E i) x:=fun x hx=>by
 have e:∀ t,Operand.tmp t∈(ops.getD i default).op.operands→(DU ops (m++[a])).of t=(DU ops m).of t:=fun t ht=>by
  have v:=List.all_eq_true.1 (List.all_eq_true.1 r i hi) _ (Array.mem_toList_iff.2 ht)
  simp only [Bool.not_eq_true',beq_eq_false_iff_ne] at v
  unfold DU
  rw [List.filterMap_append]
  refine Wr.of_left fun p y he=>v ?_
  obtain ⟨k,d,b⟩:=List.mem_filterMap.1 y
  obtain rfl:=List.mem_singleton.1 d
  obtain ⟨w,h,rfl⟩:=Option.map_eq_some_iff.1 b
  rw [h,← he]
 have h2:NE P n ops mem hints specs m E vals i x=A8 n (Ee P n ops mem hints specs m E i) x:=by
  have g:x∈(ops.getD i default).op.operands.toList:=Array.mem_toList_iff.2 hx
  obtain ⟨k,b⟩:=List.mem_iff_getElem?.1 g
  have s:=congrArg (fun l=>l[k]?) hop
  simp only [List.getElem?_map,b,Option.map_some,Option.some.injEq] at s
  exact s
 rw [← h2]
 cases x with
 | tmp t=>
  unfold DF NE
  have f:=e t hx
  cases hW:(DU ops m).of t with
  | none=>rw [hW] at f; simp only [hW,f]
  | some j=>
   rw [hW] at f
   simp only [hW,f]
   cases hc:(Ef ops m i).contains j with
   | false=>rfl
   | true=>
    have z:j∈m:=by
     unfold Wr.of at hW
     obtain ⟨p,q,o⟩:=Option.map_eq_some_iff.1 hW
     have c:=List.mem_of_find?_eq_some q
     unfold DU at c
     obtain ⟨k,d,b⟩:=List.mem_filterMap.1 c
     obtain ⟨w,_,rfl⟩:=Option.map_eq_some_iff.1 b
     rw [← o]
     exact d
    exact Ir hb j z hc
 | _=>rfl
end
def Mf (w:World) (a:Nat) (bef:List Nat) (vf:Nat→Value) (T:TypeId) (zero:List Value):DA:=⟨a,bef,[a],fun vs u=>∃ g,vs=[vf g]∧(ε w)≤g∧A7.good u ⟨g,0,zero,T,true⟩⟩
theorem qV {P:Program} {n:Nat} {ops:Array Oper} {Q:Exit→Act→World→Prop} {E:Nat→Value} {w0 w:World} {M:List A7} {L T:List Th} (K:Wk w0 w M L T) {mem:List A7} (m:List Nat) (a:Nat) (o:Nat→Value) (p:TypeId) (zero:List Value) (hints:List (Nat×Nat×Nat)) (specs:List Sp) (r:Nat)
  (hM:∀ e∈mem,e.good w) (hS:∀ v,Below (ε w) w v→∀ sp∈specs,FG P n (Below (ε v) v) ops sp)
  (hok:(Ev .any ops (DU ops (m++[a])) (Array.replicate ops.size false) n (EO P n ops mem hints specs m E++[Mf w a (Ef ops m a) o p zero]) && HM ops (EO P n ops mem hints specs m E++[Mf w a (Ef ops m a) o p zero]),m.all (FB P n ops mem hints specs m E),Nat.beq (m.length + 1 + r) ops.size,gO ops m a)=(true,true,true,true))
  (ha:∀ z,(Cd P (execOp (A8 n (Ee P n ops mem hints specs m E a)) (ops.getD a default)) ⟨z,[],(0,0),[]⟩).map (fun r=>(D5 r.1,r.2.mem,r.2.eqs))=some (some (o z),[⟨z,0,zero,p,true⟩],[]))
  (b1:∀ X,(ops.getD a default).op.operands.toList.map (NE P n ops mem hints specs m E X a)=(ops.getD a default).op.operands.toList.map (A8 n (Ee P n ops mem hints specs m E a)))
  (hp:∀ X,Jc P n ops mem hints specs m E X=Hk P n ops mem hints specs m E)
  (hk:∀ u g,Wk w0 u (M++[⟨g,0,zero,p,true⟩]) L T→wpAny P .any ops Q r ((m++[a]).foldl (fun b i=>b.setIfInBounds i true) (Array.replicate ops.size false)) (Fr n (Aw (C5 P n ops mem hints specs m E) (C3 ops a) (o g))) u):wpAny P .any ops Q ops.size (Array.replicate ops.size false) (Fr n E) w.drew:=by
 simp only [Prod.mk.injEq] at hok
 obtain ⟨hok,a1,z0,hX⟩:=hok
 unfold gO at hX
 rw [Bool.and_eq_true] at hX
 obtain ⟨v0,h0⟩:=hX
 have hN:m.length + 1 + r=ops.size:=Nat.eq_of_beq_eq_true z0
 have parts:∀ l:List Nat,(∀ i∈l,i∈m)→Jg P ops n E (DU ops (m++[a])) (fun u=>Below (ε w) w u) (fun u u'=>Below (ε u) u u') (EO P n ops mem hints specs m E++[Mf w a (Ef ops m a) o p zero]) (l.map (fun i=>Bd i (Ef ops m i) (Dt P n ops mem hints specs m E i))++[Mf w a (Ef ops m a) o p zero]):=by
  intro l
  induction l with
  | nil=>
   intro _
   refine ⟨⟨fun _ _ _ _ he h=>?_,fun vals u hu hb=>?_⟩,trivial⟩
   ·obtain ⟨g,h1,h2,h3⟩:=h
    exact ⟨g,h1,h2,GY h3 he.size (he.block _ h3.1)⟩
   show AN P (ops.getD a default) (DF n E (DU ops (m++[a])) vals) u _
   replace hb:=IB hb
   have d0:∀ K',AN P (ops.getD a default) (A8 n (Ee P n ops mem hints specs m E a)) u K'→AN P (ops.getD a default) (DF n E (DU ops (m++[a])) vals) u K':=fun K' h=>by
    unfold AN at h ⊢
    rw [execOp_congr (ρ:=DF n E (DU ops (m++[a])) vals) (ρ':=A8 n (Ee P n ops mem hints specs m E a)) _ (fun cs b hh=>by unfold Jw at h0; rw [hh] at h0; cases h0) (lz (by simp) v0 (b1 vals) hb)]
    exact h
   refine d0 _ ?_
   have k1:=ha (ε u)
   obtain ⟨x,hx,i0⟩:=Option.map_eq_some_iff.1 k1
   obtain ⟨nx,a0⟩:=x
   simp only [Prod.mk.injEq] at i0
   obtain ⟨e1,e2,e3⟩:=i0
   have x0:nx=.value (o (ε u))∨(nx=.skip∧o (ε u)=undef):=by
    cases nx <;> simp [D5] at e1
    ·exact .inl (by rw [e1])
    exact .inr ⟨rfl,e1.symm⟩
   refine AN.runsK (O:=[]) (B:=(ε u)) ⟨ε u,[],(0,0),[]⟩ a0 nx _ (hm:=hx) x0 (CW u) (by rw [e3]; rfl) fun w' hL hK=>?_
   have hB:Below (ε u) u w':=hK.below (Nat.le_refl _) (fun k hk=>by cases hk)
   refine ⟨hu.trans (hB.mono hu.size),hB,ε u,?_,hu.size,hL.sat.good _ (by rw [e2]; simp)⟩
   show [Dw vals a _ a]=_
   unfold Dw
   rw [if_pos rfl]
  | cons i l ih=>
   intro hl
   refine ⟨⟨fun _ _ _ _ _ h=>h,fun vals u hu hb=>?_⟩,ih fun j hj=>hl j (by simp [hj])⟩
   replace hb:=IB hb
   have c0:=hl i (by simp)
   have hs:=List.all_eq_true.1 a1 i c0
   unfold FB at hs
   rw [Bool.and_eq_true] at hs
   have b0:Ml P n ops mem hints specs m E vals i=J0 P n ops mem hints specs m E i:=by
    have h1:=hp vals
    unfold Jc Hk at h1
    exact (List.map_inj_left.1 h1) i c0
   unfold Ml J0 at b0
   simp only [Prod.mk.injEq] at b0
   obtain ⟨hop,q0,d⟩:=b0
   have hρ:∀ x∈(ops.getD i default).op.operands,DF n E (DU ops (m++[a])) vals x=A8 n (Ee P n ops mem hints specs m E i) x:=lz (by simp [c0]) v0 hop hb
   have k0:∀ cs b,(ops.getD i default).op≠.select cs b:=fun cs b hh=>by
    have:=hs.1
    unfold Jw at this
    rw [hh] at this
    cases this
   show AN P (ops.getD i default) (DF n E (DU ops (m++[a])) vals) u _
   have d0:∀ K',AN P (ops.getD i default) (A8 n (Ee P n ops mem hints specs m E i)) u K'→AN P (ops.getD i default) (DF n E (DU ops (m++[a])) vals) u K':=fun K' h=>by
    unfold AN at h ⊢
    rw [execOp_congr _ k0 hρ]
    exact h
   refine d0 _ ?_
   cases hsp:He specs i with
   | some sp=>
    rw [hsp] at q0 hs
    have q:=I5 hsp
    have hi:=q.2
    have m0:=hS u hu sp q.1 hs.2 (Ee P n ops mem hints specs m E i) (Ip q0) u (Below.refl _ _)
    rw [hi] at m0
    refine AN.of_quiet m0 (Below.refl _ _) fun w' j0=>⟨hu.trans (j0.mono hu.size),j0,?_⟩
    show [Dw vals i sp.v i]=[Dt P n ops mem hints specs m E i]
    unfold Dw Dt Mk
    rw [hsp,if_pos rfl]
   | none=>
    rw [hsp] at d hs
    simp only at d hs
    obtain ⟨x,hx⟩:=Option.isSome_iff_exists.1 hs.2
    rw [hx] at d
    simp only [Option.map_some,Option.some.injEq,Prod.mk.injEq] at d
    obtain ⟨nx,a0⟩:=x
    have f:=d.1
    cases nx with
    | value v=>
     simp only [D5,Option.some.injEq] at f
     refine AN.reads ⟨0,mem,IK hints i,[]⟩ (CQ hM hu) v (hv:=by rw [hx]; rfl) (he:=by rw [hx]; exact congrArg some d.2) ⟨hu,Below.refl _ _,?_⟩
     show [Dw vals i v i]=[Dt P n ops mem hints specs m E i]
     unfold Dw
     rw [if_pos rfl,f]
    | skip=>
     simp only [D5,Option.some.injEq] at f
     have d1:(Dh P (execOp (A8 n (Ee P n ops mem hints specs m E i)) (ops.getD i default)) ⟨0,mem,IK hints i,[]⟩)=some (.skip,a0):=hx
     have l0:=F4 (w:=u) _ _ _ _ d1 (CQ hM hu) (Ig d.2)
     unfold AN
     rw [l0]
     refine ⟨hu,Below.refl _ _,?_⟩
     show [Dw vals i undef i]=[Dt P n ops mem hints specs m E i]
     unfold Dw
     rw [if_pos rfl,f]
    | enter _ _=>simp [D5] at f
    | _=>simp [D5] at f
 have p0:(EO P n ops mem hints specs m E++[Mf w a (Ef ops m a) o p zero]).length=m.length + 1:=by unfold EO; rw [List.length_append,List.length_map]; rfl
 have y:(EO P n ops mem hints specs m E++[Mf w a (Ef ops m a) o p zero]).map (·.idx)=m++[a]:=by
  unfold EO
  rw [List.map_append,List.map_map]
  show m.map (fun i=>i)++[a]=_
  rw [List.map_id']
 have c1:(m++[a]).Nodup:=by
  have:=Eu (by have h:=hok; rw [Bool.and_eq_true] at h; exact h.1)
  rw [← y]; exact this.nodup
 refine D8 (md:=.any) (fuel:=r) (L:=EO P n ops mem hints specs m E++[Mf w a (Ef ops m a) o p zero]) (W:=DU ops (m++[a])) (C:=fun u=>Below (ε w) w u) (Ext:=fun u u'=>Below (ε u) u u') (hok:=hok) (Below.refl _ _).drew (fun u=>Below.refl _ _) (fun a b c h k=>h.trans (k.mono h.size)) (parts m fun i hi=>hi) (by rw [p0,hN]) fun vals u hu _ t0=>?_
 obtain ⟨g0,e0⟩:=Kl t0
 obtain ⟨g,i1,g1,r0⟩:∃ g,vals a=o g∧(ε w)≤g∧A7.good u ⟨g,0,zero,p,true⟩:=by
  obtain ⟨⟨g,h1,h2,h3⟩,_⟩:=e0
  exact ⟨g,(List.cons.inj h1).1,h2,h3⟩
 rw [y]
 have s0:Lj ops vals (m++[a]) E=Aw (C5 P n ops mem hints specs m E) (C3 ops a) (o g):=by
  unfold Lj
  rw [List.foldl_append]
  have:=Mt (mem:=mem) (hints:=hints) (specs:=specs) (P:=P) (n:=n) (E:=E) (vals:=vals) (List.nodup_append.1 c1).1 (fun j hj=>JL g0 j hj)
  unfold Lj at this
  rw [this]
  show Aw _ _ (vals a)=_
  rw [i1]
 rw [s0]
 refine hk u g ?_
 have hO:Aj (ε w) u [Th.ent ⟨g,0,zero,p,true⟩]:=⟨hu.size,fun i t hi=>?_,fun i t hi k hk=>?_,fun i j s t hi hj f1=>?_⟩
 ·have:=K.joinE (Z:=[]) hu hO
  rwa [List.append_nil] at this
 ·cases i with
  | zero=>obtain rfl:=Option.some.inj hi; exact r0
  | succ i=>simp at hi
 ·cases i with
  | zero=>
   obtain rfl:=Option.some.inj hi
   obtain rfl:k=g:=hk
   exact ⟨g1,r0.1⟩
  | succ i=>simp at hi
 cases i with
 | zero=>cases j with
  | zero=>exact absurd rfl f1
  | succ j=>simp at hj
 | succ i=>simp at hi
end Go.Proofs.YtkjbdagicjbjjaaGreat

/- Contracts of functions, part 19. -/
import Derived.Test.YtkjbdagicjbjjaaGreatTs18
import Derived.Test.YtkjbdagicjbjjaaGreatTs02
import Derived.Test.YtkjbdagicjbjjaaGreatTs16
set_option linter.all false
namespace Go.Proofs.YtkjbdagicjbjjaaGreat
noncomputable section
open Go.RowKit
set_option maxRecDepth 100000
set_option maxHeartbeats 1000000
def N5 (o:Op):Option (FuncId×List Operand):=match o with
 | .call ⟨.value (.func g),xs,_⟩=>some (g,xs.toList)
 | _=>none
theorem N4 {o:Op} {g:FuncId} {xs:List Operand} (h:N5 o=some (g,xs)):∃ ats,o=.call ⟨.value (.func g),xs.toArray,ats⟩:=by
 unfold N5 at h
 split at h
 ·rename_i g' xs' ats
  simp only [Option.some.injEq,Prod.mk.injEq] at h
  obtain ⟨rfl,rfl⟩:=h
  exact ⟨ats,rfl⟩
 cases h
theorem AN.mono {P:Program} {o:Oper} {ρ:Operand→Value} {w:World} {K b:Value→World→Prop} (h:AN P o ρ w K) (a:∀ v w',K v w'→b v w'):AN P o ρ w b:=by
 unfold AN at h ⊢
 split at h
 ·exact a _ _ h
 ·exact a _ _ h
 ·exact h.mono fun e w' ⟨v,c,h2⟩=>⟨v,c,a v w' h2⟩
 exact h.elim
section
variable {P:Program} {n:Nat} {ops:Array Oper} {mem:List A7} {hints:List (Nat×Nat×Nat)} {E:Nat→Value} {os m:List Nat} {xb:Nat→List Nat}
def Dx (os:List Nat) (X:Nat→Value):List Sp:=os.map fun i=>⟨i,[],X i,true⟩
theorem PM (X:Nat→Value) (i:Nat):∀ os:List Nat,He (Dx os X) i=cond (os.contains i) (some ⟨i,[],X i,true⟩) none
 | []=>rfl
 | j :: os=>by
  have b:=PM X i os
  show (match Nat.beq j i with
   | true=>some (⟨j,[],X j,true⟩:Sp)
   | false=>He (Dx os X) i)=_
  rw [List.contains_cons]
  cases hb:Nat.beq j i with
  | true=>
   obtain rfl:=Nat.eq_of_beq_eq_true hb
   simp
  | false=>
   have a:(i == j)=false:=by
    rw [beq_eq_false_iff_ne]
    intro h
    rw [h,Nat.beq_refl] at hb
    cases hb
   rw [a,Bool.false_or]
   exact b
theorem mD {X Y:Nat→Value} (h:∀ i∈os,X i=Y i):Dx os X=Dx os Y:=List.map_congr_left fun i hi=>by rw [h i hi]
def Hz (ops:Array Oper) (m os:List Nat) (i:Nat):List Nat:=os.filter fun j=>(Ef ops m i).contains j
noncomputable def Y7 (ops:Array Oper) (m:List Nat) (i:Nat) (X:Nat→Value) (j:Nat):Value:=cond ((Ef ops m i).contains j || Nat.beq j i) (X j) undef
noncomputable def Nf (P:Program) (n:Nat) (ops:Array Oper) (mem:List A7) (hints:List (Nat×Nat×Nat)) (os m:List Nat) (E:Nat→Value) (S:Nat→Value→World→Prop) (xb:Nat→List Nat):List DA:=m.map fun i=>⟨i,Ef ops m i++xb i,Hz ops m os i++[i],fun vs u=>∃ X,vs=(Hz ops m os i++[i]).map (Dt P n ops mem hints (Dx os X) m E)∧(os.contains i=true→S i (X i) u)⟩
theorem RO {X:Nat→Value} {i:Nat} (hi:os.contains i=true):Dt P n ops mem hints (Dx os X) m E i=X i:=by
 unfold Dt Mk
 rw [PM,hi]
 rfl
theorem Y6 {S:Nat→Value→World→Prop} {vals:Nat→Value} {u:World} (a:∀ X,m.map (fun i=>Dt P n ops mem hints (Dx os X) m E i)=m.map (fun i=>Dt P n ops mem hints (Dx os (Y7 ops m i X)) m E i)) {i:Nat} (hi:i∈m)
  (h:∃ X,(Hz ops m os i++[i]).map vals=(Hz ops m os i++[i]).map (Dt P n ops mem hints (Dx os X) m E)∧(os.contains i=true→S i (X i) u)):vals i=Dt P n ops mem hints (Dx os vals) m E i∧(os.contains i=true→S i (vals i) u):=by
 obtain ⟨X,d,e⟩:=h
 have hv:∀ k∈Hz ops m os i++[i],vals k=Dt P n ops mem hints (Dx os X) m E k:=List.map_inj_left.1 d
 have b:∀ k∈os,((Ef ops m i).contains k || Nat.beq k i)=true→vals k=X k:=fun k b hb=>by
  rw [hv k ?_,RO (List.contains_iff_mem.2 b)]
  rw [Bool.or_eq_true] at hb
  rcases hb with hb | hb
  ·exact List.mem_append_left _ (List.mem_filter.2 ⟨b,hb⟩)
  rw [Nat.eq_of_beq_eq_true hb]; simp
 have hr:Dx os (Y7 ops m i X)=Dx os (Y7 ops m i vals):=mD fun k c=>by
  unfold Y7
  cases hb:((Ef ops m i).contains k || Nat.beq k i)
  ·rfl
  exact (b k c hb).symm
 refine ⟨?_,fun ho=>?_⟩
 ·rw [hv i (by simp),(List.map_inj_left.1 (a X)) i hi,hr,← (List.map_inj_left.1 (a vals)) i hi]
 rw [b i (List.contains_iff_mem.1 ho) (by rw [Nat.beq_refl,Bool.or_true])]
 exact e ho
theorem Nd {S:Nat→Value→World→Prop} {vals:Nat→Value} {u:World} {B:List Nat}:∀ {l:List Nat},Fn B vals u (l.map fun i=>⟨i,Ef ops m i++xb i,Hz ops m os i++[i],fun b u=>∃ X,b=(Hz ops m os i++[i]).map (Dt P n ops mem hints (Dx os X) m E)∧(os.contains i=true→S i (X i) u)⟩)→∀ j∈l,B.contains j=true→∃ X,(Hz ops m os j++[j]).map vals=(Hz ops m os j++[j]).map (Dt P n ops mem hints (Dx os X) m E)∧(os.contains j=true→S j (X j) u)
 | [],_,_,h,_=>by cases h
 | i :: l,hb,j,a,hB=>by
  rw [List.map_cons] at hb
  unfold Fn at hb
  rcases List.mem_cons.1 a with rfl | a
  ·simp only [hB] at hb
   exact hb.1
  split at hb
  ·exact Nd hb.2 j a hB
  exact Nd hb j a hB
theorem Q8 {S:Nat→Value→World→Prop} {vals:Nat→Value} {u:World}:∀ {l:List Nat},Ff vals u (l.map fun i=>⟨i,Ef ops m i++xb i,Hz ops m os i++[i],fun b u=>∃ X,b=(Hz ops m os i++[i]).map (Dt P n ops mem hints (Dx os X) m E)∧(os.contains i=true→S i (X i) u)⟩)→∀ j∈l,∃ X,(Hz ops m os j++[j]).map vals=(Hz ops m os j++[j]).map (Dt P n ops mem hints (Dx os X) m E)∧(os.contains j=true→S j (X j) u)
 | [],_,_,h=>by cases h
 | i :: l,hb,j,a=>by
  rw [List.map_cons] at hb
  unfold Ff at hb
  rcases List.mem_cons.1 a with rfl | a
  ·exact hb.1
  exact Q8 hb.2 j a
theorem MB {Q:Exit→Act→World→Prop} {d:Array Bool} {C:Array Bool→(Nat→Value)→World→Prop} {Ext:World→World→Prop} {w1:World} (m:List Nat) (mem:List A7) (hints:List (Nat×Nat×Nat)) (os:List Nat) (xb:Nat→List Nat) (S:Nat→Value→World→Prop) (r:Nat)
  (hC:C d (fun _=>undef) w1) (hM:∀ y vals u,C y vals u→∀ e∈mem,e.good u) (e0:∀ u,Ext u u) (t0:∀ a b c:World,Ext a b→Ext b c→Ext a c) (v0:∀ i v u u',Ext u u'→S i v u→S i v u') (l0:∀ i∈m,os.contains i=false→∀ y vals v u,C y vals u→C (y.setIfInBounds i true) (Dw vals i v) u)
  (a1:∀ i∈os,∀ (X:Nat→Value) y u,y.getD i true=false→(∀ j,(Ef ops m i++xb i).contains j=true→y.getD j false=true)→C y X u→(∀ j,os.contains j=true→(Ef ops m i).contains j=true→S j (X j) u)→AN P (ops.getD i default) (A8 n (Ee P n ops mem hints (Dx os X) m E i)) u (fun v w'=>C (y.setIfInBounds i true) (Dw X i v) w'∧Ext u w'∧S i v w'))
  (hok:(Ev .any ops (DU ops m) d n (Nf P n ops mem hints os m E S xb) && HM ops (Nf P n ops mem hints os m E S xb))=true) (w0:∀ X,m.all (FB P n ops mem hints (Dx os X) m E)=true)
  (hp:∀ X V,Jc P n ops mem hints (Dx os X) m E V=Hk P n ops mem hints (Dx os X) m E)
  (k0:∀ X,m.map (fun i=>Dt P n ops mem hints (Dx os X) m E i)=m.map (fun i=>Dt P n ops mem hints (Dx os (Y7 ops m i X)) m E i))
  (hk:∀ X u,C (m.foldl (fun b i=>b.setIfInBounds i true) d) X u→Ext w1 u→(∀ i∈m,os.contains i=true→S i (X i) u)→wpAny P .any ops Q r (m.foldl (fun b i=>b.setIfInBounds i true) d) (Fr n (C5 P n ops mem hints (Dx os X) m E)) u):wpAny P .any ops Q (m.length + r) d (Fr n E) w1:=by
 have parts:∀ l:List Nat,(∀ i∈l,i∈m)→ME P ops n E (DU ops m) C Ext (Nf P n ops mem hints os m E S xb) (l.map fun i=>⟨i,Ef ops m i++xb i,Hz ops m os i++[i],fun vs u=>∃ X,vs=(Hz ops m os i++[i]).map (Dt P n ops mem hints (Dx os X) m E)∧(os.contains i=true→S i (X i) u)⟩):=by
  intro l
  induction l with
  | nil=>intro _; trivial
  | cons i l ih=>
   intro hl
   refine ⟨⟨fun vs u u' he h=>?_,fun y vals u c1 g1 hu hb=>?_⟩,ih fun j s=>hl j (by simp [s])⟩
   ·obtain ⟨X,h1,h2⟩:=h
    exact ⟨X,h1,fun ho=>v0 i _ u u' he (h2 ho)⟩
   have z:=hl i (by simp)
   have hs:=List.all_eq_true.1 (w0 vals) i z
   unfold FB at hs
   rw [Bool.and_eq_true] at hs
   have p0:∀ j∈m,(Ef ops m i).contains j=true→vals j=Dt P n ops mem hints (Dx os vals) m E j∧(os.contains j=true→S j (vals j) u):=fun j s hB=>Y6 k0 s (Nd hb j s (List.contains_iff_mem.2 (List.mem_append_left _ (List.contains_iff_mem.1 hB))))
   have g0:Ml P n ops mem hints (Dx os vals) m E vals i=J0 P n ops mem hints (Dx os vals) m E i:=by
    have h1:=hp vals vals
    unfold Jc Hk at h1
    exact (List.map_inj_left.1 h1) i z
   unfold Ml J0 at g0
   simp only [Prod.mk.injEq] at g0
   obtain ⟨hop,_,f⟩:=g0
   have hρ:∀ x∈(ops.getD i default).op.operands,DF n E (DU ops m) vals x=A8 n (Ee P n ops mem hints (Dx os vals) m E i) x:=fun x hx=>by
    have h2:NE P n ops mem hints (Dx os vals) m E vals i x=A8 n (Ee P n ops mem hints (Dx os vals) m E i) x:=by
     have s0:x∈(ops.getD i default).op.operands.toList:=Array.mem_toList_iff.2 hx
     obtain ⟨k,a0⟩:=List.mem_iff_getElem?.1 s0
     have h3:=congrArg (fun l=>l[k]?) hop
     simp only [List.getElem?_map,a0,Option.map_some,Option.some.injEq] at h3
     exact h3
    rw [← h2]
    cases x with
    | tmp t=>
     unfold DF NE
     cases hW:(DU ops m).of t with
     | none=>simp only [hW]
     | some j=>
      simp only [hW]
      cases hc:(Ef ops m i).contains j with
      | false=>rfl
      | true=>
       have s:j∈m:=by
        unfold Wr.of at hW
        obtain ⟨p,z0,x0⟩:=Option.map_eq_some_iff.1 hW
        have d0:=List.mem_of_find?_eq_some z0
        unfold DU at d0
        obtain ⟨k,h0,a0⟩:=List.mem_filterMap.1 d0
        obtain ⟨t',_,rfl⟩:=Option.map_eq_some_iff.1 a0
        rw [← x0]
        exact h0
       exact (p0 j s hc).1
    | _=>rfl
   have i0:∀ cs b,(ops.getD i default).op≠.select cs b:=fun cs b hh=>by
    have:=hs.1
    unfold Jw at this
    rw [hh] at this
    cases this
   have e1:∀ K',AN P (ops.getD i default) (A8 n (Ee P n ops mem hints (Dx os vals) m E i)) u K'→AN P (ops.getD i default) (DF n E (DU ops m) vals) u K':=fun K' h=>by
    unfold AN at h ⊢
    rw [execOp_congr _ i0 hρ]
    exact h
   have f1:∀ j,os.contains j=true→(Ef ops m i).contains j=true→j∈m:=fun j _ hB=>by
    have h1:=(Eu (by have h:=hok; rw [Bool.and_eq_true] at h; exact h.1)).bef (⟨i,Ef ops m i++xb i,Hz ops m os i++[i],fun vs u=>∃ X,vs=(Hz ops m os i++[i]).map (Dt P n ops mem hints (Dx os X) m E)∧(os.contains i=true→S i (X i) u)⟩:DA) (List.mem_map.2 ⟨i,z,rfl⟩)
    obtain ⟨o,ho⟩:=(Eu (by have h:=hok; rw [Bool.and_eq_true] at h; exact h.1)).op (⟨i,Ef ops m i++xb i,Hz ops m os i++[i],fun vs u=>∃ X,vs=(Hz ops m os i++[i]).map (Dt P n ops mem hints (Dx os X) m E)∧(os.contains i=true→S i (X i) u)⟩:DA) (List.mem_map.2 ⟨i,z,rfl⟩)
    have h2:=(h1 o ho j (List.mem_append_left _ (List.contains_iff_mem.1 hB))).1
    unfold Nf at h2
    rw [List.map_map] at h2
    obtain ⟨k,h0,a0⟩:=List.mem_map.1 h2
    rw [← (show k=j from a0)]
    exact h0
   show AN P (ops.getD i default) (DF n E (DU ops m) vals) u _
   refine e1 _ ?_
   cases hio:os.contains i with
   | true=>
    have h1:=a1 i (List.contains_iff_mem.1 hio) vals y u c1 (fun j s=>g1 j (List.contains_iff_mem.1 s)) hu fun j s hB=>(p0 j (f1 j s hB) hB).2 s
    refine AN.mono h1 fun v w' ⟨k1,k2,k3⟩=>⟨k1,k2,Dw vals i v,List.map_congr_left fun k g=>?_,fun _=>by unfold Dw; rw [if_pos rfl]; exact k3⟩
    rcases List.mem_append.1 g with g | g
    ·exact (RO (List.contains_iff_mem.2 (List.mem_filter.1 g).1)).symm
    rw [List.mem_singleton.1 g,RO hio]
   | false=>
    have c0:∀ v,v=Dt P n ops mem hints (Dx os vals) m E i→(⟨i,Ef ops m i++xb i,Hz ops m os i++[i],fun vs u=>∃ X,vs=(Hz ops m os i++[i]).map (Dt P n ops mem hints (Dx os X) m E)∧(os.contains i=true→S i (X i) u)⟩:DA).says ((Hz ops m os i++[i]).map (Dw vals i v)) u:=fun v hv=>by
     refine ⟨vals,List.map_congr_left fun k g=>?_,fun h=>by rw [hio] at h; cases h⟩
     unfold Dw
     split
     ·rename_i hki; rw [hki]; exact hv
     rename_i hki
     rcases List.mem_append.1 g with g | g
     ·have h9:=List.mem_filter.1 g
      rw [RO (List.contains_iff_mem.2 h9.1)]
     exact absurd (List.mem_singleton.1 g) hki
    rw [PM,hio] at f hs
    simp only [cond_false] at f hs
    obtain ⟨x,hx⟩:=Option.isSome_iff_exists.1 hs.2
    rw [hx] at f
    simp only [Option.map_some,Option.some.injEq,Prod.mk.injEq] at f
    obtain ⟨nx,r0⟩:=x
    have q:=f.1
    cases nx with
    | value v=>
     simp only [D5,Option.some.injEq] at q
     refine AN.reads ⟨0,mem,IK hints i,[]⟩ (hM y vals u hu) v (hv:=by rw [hx]; rfl) (he:=by rw [hx]; exact congrArg some f.2) ⟨l0 i z hio y vals _ u hu,e0 u,c0 v q⟩
    | skip=>
     simp only [D5,Option.some.injEq] at q
     have d1:(Dh P (execOp (A8 n (Ee P n ops mem hints (Dx os vals) m E i)) (ops.getD i default)) ⟨0,mem,IK hints i,[]⟩)=some (.skip,r0):=hx
     have j0:=F4 (w:=u) _ _ _ _ d1 (hM y vals u hu) (Ig f.2)
     unfold AN
     rw [j0]
     exact ⟨l0 i z hio y vals _ u hu,e0 u,c0 undef q⟩
    | enter _ _=>simp [D5] at q
    | _=>simp [D5] at q
 have m0:(Nf P n ops mem hints os m E S xb).length=m.length:=by unfold Nf; rw [List.length_map]
 have b0:(Nf P n ops mem hints os m E S xb).map (·.idx)=m:=by unfold Nf; rw [List.map_map]; exact List.map_id _
 have b1:m.Nodup:=by
  have:=Eu (by have h:=hok; rw [Bool.and_eq_true] at h; exact h.1)
  rw [← b0]; exact this.nodup
 refine g8 (md:=.any) (fuel:=r) (L:=Nf P n ops mem hints os m E S xb) (W:=DU ops m) (J:=C) (Ext:=Ext) hok hC e0 t0 (parts m fun i hi=>hi) (by rw [m0]) fun vals u hu he q0=>?_
 have hv:=fun j (s:j∈m)=>Y6 k0 s (Q8 q0 j s)
 rw [b0,Mt (mem:=mem) (hints:=hints) (specs:=Dx os vals) (P:=P) (n:=n) b1 (fun j s=>(hv j s).1)]
 exact hk vals u (by rw [b0] at hu; exact hu) he fun i hi ho=>(hv i hi).2 ho
theorem Bn {o:Oper} {ρ:Operand→Value} {u:World} {K:Value→World→Prop} {g:FuncId} {xs:List Operand} {args:List Value} (h:Calls P g args.toArray u fun e w'=>∃ v,e=.returned v∧K v w') (hρ:ρ (.func g)=.func (.func g) #[] #[]) (hc:(N5 o.op,xs.map ρ,DX P g)=(some (g,xs),args,true):=by kernel_rfl):AN P o ρ u K:=by
 simp only [Prod.mk.injEq] at hc
 obtain ⟨b,h2,a⟩:=hc
 obtain ⟨ats,hop⟩:=N4 b
 exact AN.call xs (hop:=hop) hρ (ha:=h2) (CV (h:=a) _ u) h
theorem Gl {o:Oper} {ρ:Operand→Value} {u:World} {K:Value→World→Prop} (b:Nat→Value) (zero:List Value) (T:TypeId) (f:∀ w',Below (ε u) u w'→A7.good w' ⟨ε u,0,zero,T,true⟩→K (b (ε u)) w')
  (ha:∀ z,(Cd P (execOp ρ o) ⟨z,[],(0,0),[]⟩).map (fun r=>(D5 r.1,r.2.mem,r.2.eqs))=some (some (b z),[⟨z,0,zero,T,true⟩],[])):AN P o ρ u K:=by
 obtain ⟨x,hx,a⟩:=Option.map_eq_some_iff.1 (ha (ε u))
 obtain ⟨c,d⟩:=x
 simp only [Prod.mk.injEq] at a
 obtain ⟨g,l,j⟩:=a
 have e:c=.value (b (ε u))∨(c=.skip∧b (ε u)=undef):=by
  cases c <;> simp [D5] at g
  ·exact .inl (by rw [g])
  exact .inr ⟨rfl,g.symm⟩
 refine AN.runsK (O:=[]) (B:=(ε u)) ⟨ε u,[],(0,0),[]⟩ d c _ (hm:=hx) e (CW u) (by rw [j]; rfl) fun w' h i=>?_
 exact f w' (i.below (Nat.le_refl _) (fun k f=>by cases f)) (h.sat.good _ (by rw [l]; simp))
end
def Lw:List (Nat×(Value→World→Prop))→Nat→Value→World→Prop
 | [],_,_,_=>True
 | p :: r,i,v,u=>match Nat.beq p.1 i with
  | true=>p.2 v u
  | false=>Lw r i v u
theorem Q9 {Ext:World→World→Prop}:∀ {a:List (Nat×(Value→World→Prop))},(∀ p∈a,∀ v u u',Ext u u'→p.2 v u→p.2 v u')→∀ i v u u',Ext u u'→Lw a i v u→Lw a i v u'
 | [],_,_,_,_,_,_,h=>h
 | p :: r,hp,i,v,u,u',he,h=>by
  unfold Lw at h ⊢
  split at h
  ·exact hp p (by simp) v u u' he h
  exact Q9 (fun q b=>hp q (by simp [b])) i v u u' he h
theorem Ek {P:Program} {f:FuncId} {R:Ending→World→Prop} {n:Nat} {todo:List Item} {E:Nat→Value} {w0 w:World} {M:List A7} {L T:List Th} {b:Nat} {ns:List Int} (K:Wk w0 w M L T) (h0:(ε w0)=b) (q:Nat) (hq:L[q]?=some (BF w0 b ns)) (m:List Nat) (mem:List A7) (hints:List (Nat×Nat×Nat)) (c:List (Nat×(Value→World→Prop))) (r:Nat)
  (hM:∀ u,Wk w0 u M L T→∀ e∈mem,e.good u) (a0:∀ p∈c,∀ v u o,CG b u o→p.2 v u→p.2 v o)
  (s:∀ p∈c,∀ (X:Nat→Value) u,Wk w0 u M L T→CG b w u→(∀ j,(Ef (AR todo) m p.1).contains j=true→(c.map (·.1)).contains j=true→Lw c j (X j) u)→AN P ((AR todo).getD p.1 default) (A8 n (Ee P n (AR todo) mem hints (Dx (c.map (·.1)) X) m E p.1)) u (fun v w'=>Be b ns w'∧CG b u w'∧p.2 v w'))
  (hk:∀ X u,Wk w0 u M L T→CG b w u→(∀ i∈m,(c.map (·.1)).contains i=true→Lw c i (X i) u)→wpAny P .any (AR todo) (fun e a w=>e=.normal∧H1 P f R (AM todo) a w) r (m.foldl (fun b i=>b.setIfInBounds i true) (Array.replicate (AR todo).size false)) (Fr n (C5 P n (AR todo) mem hints (Dx (c.map (·.1)) X) m E)) u)
  (hd:(FL todo).isSome=true:=by kernel_rfl) (hmo:P.follows .mixedOrders=true:=by kernel_rfl)
  (hok:(Ev .any (AR todo) (DU (AR todo) m) (Array.replicate (AR todo).size false) n (Nf P n (AR todo) mem hints (c.map (·.1)) m E (Lw c) fun _=>[]) && HM (AR todo) (Nf P n (AR todo) mem hints (c.map (·.1)) m E (Lw c) fun _=>[]),Nat.beq (m.length + r) (AR todo).size,c.all fun p=>(c.map (·.1)).Nodup)=(true,true,true):=by kernel_rfl)
  (hsm:∀ X,m.all (FB P n (AR todo) mem hints (Dx (c.map (·.1)) X) m E)=true:=by intro _; kernel_rfl)
  (g:∀ X V,Jc P n (AR todo) mem hints (Dx (c.map (·.1)) X) m E V=Hk P n (AR todo) mem hints (Dx (c.map (·.1)) X) m E:=by intro _ _; kernel_rfl)
  (hre:∀ X,m.map (fun i=>Dt P n (AR todo) mem hints (Dx (c.map (·.1)) X) m E i)=m.map (fun i=>Dt P n (AR todo) mem hints (Dx (c.map (·.1)) (Y7 (AR todo) m i X)) m E i):=by intro _; kernel_rfl):At P f R todo (Fr n E) w:=by
 obtain ⟨ops,d⟩:=Option.isSome_iff_exists.1 hd
 have hr:AR todo=ops:=by
  unfold FL at d
  split at d
  ·obtain rfl:=Option.some.inj d; rfl
  cases d
 rw [hr] at hok s hk hsm g hre
 simp only [Prod.mk.injEq] at hok
 obtain ⟨hok,z,c0⟩:=hok
 have hN:m.length + r=ops.size:=Nat.eq_of_beq_eq_true z
 have t:∀ (l:List (Nat×(Value→World→Prop))),(l.map (·.1)).Nodup→∀ p∈l,Lw l p.1=p.2:=by
  intro l
  induction l with
  | nil=>intro _ p g; cases g
  | cons a l ih=>
   intro hn p g
   rw [List.map_cons,List.nodup_cons] at hn
   funext v u
   unfold Lw
   rcases List.mem_cons.1 g with rfl | g
   ·rw [Nat.beq_refl]
   have b0:Nat.beq a.1 p.1=false:=by
    cases hb:Nat.beq a.1 p.1 with
    | false=>rfl
    | true=>exact absurd (by rw [Nat.eq_of_beq_eq_true hb]; exact List.mem_map_of_mem g) hn.1
   rw [b0]
   exact congrFun (congrFun (ih hn.2 p g) v) u
 refine ER ops (hd:=d) (hm:=hmo) (m.length + r) (hs:=hN.symm) ?_
 rw [← hN] at hok hk
 refine MB (C:=fun _ _ u=>Wk w0 u M L T∧CG b w u) (Ext:=fun u o=>CG b u o) m mem hints (c.map (·.1)) (fun _=>[]) (Lw c) r ⟨K.below (Below.refl _ _).drew,.of_below (Below.refl _ _).drew⟩ (fun _ _ u hu=>hM u hu.1) (fun u=>CG.refl b u) (fun _ _ _ y h2=>y.trans h2) (fun i v u o he h=>Q9 a0 i v u o he h) (fun _ _ _ _ _ _ _ h=>h) (fun i hi X _ u _ _ hu hb=>?_) (by rw [hN] at hok ⊢; exact hok) hsm g hre fun X u hu _ x=>hk X u hu.1 hu.2 x
 obtain ⟨p,k,rfl⟩:=List.mem_map.1 hi
 have hn:(c.map (·.1)).Nodup:=by
  have:=List.all_eq_true.1 c0 p k
  exact of_decide_eq_true this
 rw [t c hn p k]
 refine AN.mono (s p k X u hu.1 hu.2 fun j y h2=>hb j h2 y) fun v w' ⟨y,h2,h3⟩=>⟨⟨hu.1.tick h0 q hq y h2,hu.2.trans h2⟩,h2,h3⟩
noncomputable def Fo (P:Program) (n:Nat) (ops:Array Oper) (E:Nat→Value) (ts:List (Nat×Nat×Nat)) (M:List A7) (z:Nat):(Nat→Value)×List A7×Nat×List (Nat×Nat):=
 match EE P n ops ts E M z with
 | some q=>q
 | none=>(E,[],0,[])
theorem Do {P:Program} {f:FuncId} {R:Ending→World→Prop} {n:Nat} {todo:List Item} {E:Nat→Value} {w0 u:World} {M:List A7} {L T:List Th} {ops:Array Oper} {b:Array Bool} (K:Wk w0 u M L T) (ts:List (Nat×Nat×Nat)) (M':Nat→List A7)
  (l:∀ z w',Wk w0 w' (M' z) L T→At P f R todo (Fr n (Fo P n ops E ts M z).1) w')
  (ht:∀ z,((EE P n ops ts E M z).isSome,(Fo P n ops E ts M z).2.1,(Fo P n ops E ts M z).2.2.2.map Prod.fst)=(true,M' z,(Fo P n ops E ts M z).2.2.2.map Prod.snd):=by intro _; kernel_rfl)
  (hr:JW ops .any b (ts.map (·.1))=true:=by kernel_rfl):wpAny P .any ops (fun e a w=>e=.normal∧H1 P f R todo a w) ts.length b (Fr n E) u:=by
 have c:=ht (ε u)
 simp only [Prod.mk.injEq] at c
 obtain ⟨i,g,d⟩:=c
 obtain ⟨q,j⟩:=Option.isSome_iff_exists.1 i
 have m:Fo P n ops E ts M (ε u)=q:=by unfold Fo; rw [j]
 have h:=l (ε u)
 rw [m] at g d h
 exact Ky (P:=P) (n:=n) (ops:=ops) (L:=L) (T:=T) (w0:=w0) (fuel:=0) (Q:=fun e a w=>e=.normal∧H1 P f R todo a w) ts b _ M u K (ε u) rfl q j (Ig d) hr fun w' a k ha=>⟨rfl,by rw [ha]; rw [g] at k; exact (h w' k).mid⟩
theorem FD {P:Program} {ops:Array Oper} {Q:Exit→Act→World→Prop} {n:Nat} {E:Nat→Value} {a:Array Bool} {fuel:Nat} {w:World} (i:Nat) (g:FuncId) (xs:List Operand) (args:List Value)
  (h:Calls P g args.toArray w fun e w'=>∃ v,e=.returned v∧wpAny P .any ops Q fuel (a.setIfInBounds i true) (Fr n (Aw E (ops.getD i default).dst v)) w')
  (hc:(Region.ready .any ops a,Nat.blt i ops.size,(ops.getD i default).guard,xs.map (A8 n E),DX P g,N5 (ops.getD i default).op)=([i],true,none,args,true,some (g,xs)):=by kernel_rfl):wpAny P .any ops Q (fuel + 1) a (Fr n E) w:=by
 simp only [Prod.mk.injEq] at hc
 obtain ⟨q,c,p,m,l,k⟩:=hc
 obtain ⟨ats,hop⟩:=N4 k
 rw [Nat.blt_eq] at c
 refine KH q (o:=ops.getD i default) (by simp [Array.getD,c]) p ?_
 unfold Oper.wp
 rw [D7]
 generalize ops.getD i default=o at hop h
 have e:(execOp (A8 n E) o).run P w=.ok (.enter g args.toArray) w:=by
  rw [← CV (h:=l) args.toArray w,← m]
  obtain ⟨d,op,ty,f,t,r⟩:=o
  simp only at hop
  subst hop
  unfold execOp resolve
  simp only [List.map_toArray]
  show ((Deferred.ofValue (.func (.func g) #[] #[]) (xs.map (A8 n E)).toArray).bind fun d=>invoke d.target d.args).run P w=_
  unfold Deferred.ofValue
  simp [invoke,pure,Sem.bind]
 rw [e]
 refine h.mono fun s w' j=>?_
 obtain ⟨v,rfl,b⟩:=j
 show wpAny P .any ops Q fuel _ ((Fr n E).put o.dst v) w'
 rw [El]
 exact b
abbrev Ty:=Bool×Int×Int×Int
def BC:Ty:=(false,0,0,0)
def Cb:Ty:=(false,1,0,0)
def De:Ty:=(false,0,1,0)
def BU:Ty:=(false,1,-1,0)
def DG:Ty:=(true,0,0,0)
def EG:List Ty:=[BC,Cb,De,BU,DG]
def Lq:List Ty:=[BC,Cb,De,BU]
def Hc (a b:Ty):Bool:=a.1 == b.1 && (a.2.1 == b.2.1 && (a.2.2.1 == b.2.2.1 && a.2.2.2 == b.2.2.2))
def Hm:List (Int×Int):=[(1,1),(2,1),(0,1),(5,2),(1,4),(76,5),(40,1),(1,100),(3,1),(100,1)]
def PL:List (Int×Int):=[(1,1),(1,100),(1,4)]
def Ke (t:Ty) (n:Int):List (List UInt8):=cond (Hc t DG) ([102] :: cond (decide (3 < n)) [[114,51]] []) (cond (Hc t Cb) (cond (decide (2 < n)) [[114,50]] []++cond (decide (4 < n)) [[97]] []) (cond (Hc t De) [[104]] (cond (Hc t BU) (cond (decide (1 < n)) [[114,49]] []) ([103] :: cond (decide (4 < n)) [[114,52]] []))))
def MO (op:Int) (t t1 t2:Ty):Prop:=
 ((op=9∨op=10∨op=11)∧t=DG∧t1=t2∧t1∈Lq)∨((op=11∨op=12∨op=13)∧t=DG∧t1=DG∧t2=DG)∨
 ((op=5∨op=6∨op=14∨op=15)∧t.1=false∧t1=t∧t2=t)∨((op=7∨op=8)∧t.1=false∧t1=t∧t2=BC)∨
 (op=7∧t=Cb∧t1=De∧t2=BU)∨(op=8∧t=BU∧t1=Cb∧t2=De)∨(op=8∧t=BC∧t1=t2∧t1∈Lq)∨(op=8∧t=De∧t1=Cb∧t2=BU)
inductive CT (n:Int):Nat→Ty→Ex→Prop
 | tru (h:Nat) (c:Int) (hc:c=0∨c=1):CT n (h + 1) DG (.mk 2 0 0 0 0 0 [] c 0 [])
 | name (h:Nat) (t:Ty) (nm:List UInt8) (hm:nm∈Ke t n):CT n (h + 1) t (.mk 3 0 0 0 0 0 nm 0 0 [])
 | past (h:Nat) (t:Ty) (nm:List UInt8) (op c:Int) (ht:(t=Cb∧nm=[103,114,111,115,115])∨(t=De∧nm=[116,105,109,101])) (hop:op=20∨op=21) (h1:1≤c) (h3:c≤3):CT n (h + 1) t (.mk op 0 0 0 0 0 nm c 0 [])
 | num (h:Nat) (t:Ty) (q:Int×Int) (ht:t.1=false) (h5:t∈EG) (hq:q∈Hm):CT n (h + 1) t (.mk 1 q.1 q.2 t.2.1 t.2.2.1 t.2.2.2 [] 0 0 [])
 | not (h:Nat) (x:Ex) (hx:CT n h DG x):CT n (h + 1) DG (.mk 17 0 0 0 0 0 [] 0 0 [x])
 | neg (h:Nat) (t:Ty) (x:Ex) (ht:t.1=false) (hx:CT n h t x):CT n (h + 1) t (.mk 16 0 0 0 0 0 [] 0 0 [x])
 | round (h:Nat) (t:Ty) (x:Ex) (q:Int×Int) (m:Int) (ht:t.1=false) (hq:q∈PL) (m0:0≤m) (m6:m≤6) (hx:CT n h t x):CT n (h + 1) t (.mk 19 q.1 q.2 t.2.1 t.2.2.1 t.2.2.2 [] 0 m [x])
 | scale (h:Nat) (t:Ty) (nm:List UInt8) (x:Ex) (ht:(t=BU∧nm=[119])∨(t=BC∧nm=[115])) (hx:CT n h BC x):CT n (h + 1) t (.mk 4 0 0 0 0 0 nm 0 0 [x])
 | two (h:Nat) (op:Int) (t t1 t2:Ty) (x y:Ex) (ht:MO op t t1 t2) (hx:CT n h t1 x) (hy:CT n h t2 y):CT n (h + 1) t (.mk op 0 0 0 0 0 [] 0 0 [x,y])
 | ite (h:Nat) (t:Ty) (x y z:Ex) (hx:CT n h DG x) (hy:CT n h t y) (hz:CT n h t z):CT n (h + 1) t (.mk 18 0 0 0 0 0 [] 0 0 [x,y,z])
def LD (b:Nat) (ns:List Int) (n:Int) (h:Nat) (t:Ty) (w:World) (e:Ending) (w':World):Prop:=∃ x A c,e=.returned (ψ (AX x A c))∧CT n h t x∧DE (fun g=>w.heap.size≤g) w' x (AX x A c)∧Be b ns w'∧CG b w w'
def FO (lo hi:Nat) (xs:List (Ex×List Value)):Th where
 F k:=lo≤k∧k < hi
 P u:=hi≤(ε u)∧∀ p∈xs,DE (fun g=>lo≤g∧g < hi) u p.1 p.2
 fr u u' h hs hk:=⟨Nat.le_trans h.1 hs,fun p hp=>DE.keep hs (fun g hg hl=>⟨hg,hk g hg hl⟩) _ _ (h.2 p hp)⟩
theorem Wk.freshT {w0 w u:World} {M:List A7} {L T:List Th} (K:Wk w0 w M L T) (b:Wk w0 u M L T) (z:Th) (l:z.P u) (c:∀ k,z.F k→w.heap.size≤k∧k < (ε u)):Wk w0 u M (L++[z]) T:=by
 have d:(ε w0)≤(ε w):=K.B.size
 refine b.add (Below.refl _ _) ⟨b.H.base,fun i t hi=>?_,fun i t hi k e=>?_,fun i j s t hi a f k hs ht=>?_⟩
 ·rcases EP hi with hi | ⟨_,hi⟩
  ·exact b.H.all i t hi
  cases hq:i - (List.map Th.ent M++(L++T)).length with
  | zero=>
   rw [hq] at hi
   obtain rfl:=Option.some.inj hi
   exact l
  | succ q=>rw [hq] at hi; simp at hi
 ·rcases EP hi with hi | ⟨_,hi⟩
  ·exact b.H.lo i t hi k e
  cases hq:i - (List.map Th.ent M++(L++T)).length with
  | zero=>
   rw [hq] at hi
   obtain rfl:=Option.some.inj hi
   exact ⟨Nat.le_trans d (c k e).1,(c k e).2⟩
  | succ q=>rw [hq] at hi; simp at hi
 rcases EP hi with hi | ⟨h,hi⟩
 ·rcases EP a with a | ⟨_,a⟩
  ·exact b.H.apart i j s t hi a f k hs ht
  cases hq:j - (List.map Th.ent M++(L++T)).length with
  | zero=>
   rw [hq] at a
   obtain rfl:=Option.some.inj a
   have:=(K.H.lo i s hi k hs).2
   have:=(c k ht).1
   omega
  | succ q=>rw [hq] at a; simp at a
 rcases EP a with a | ⟨g,a⟩
 ·cases hq:i - (List.map Th.ent M++(L++T)).length with
  | zero=>
   rw [hq] at hi
   obtain rfl:=Option.some.inj hi
   have:=(K.H.lo j t a k ht).2
   have:=(c k hs).1
   omega
  | succ q=>rw [hq] at hi; simp at hi
 have m:i - (List.map Th.ent M++(L++T)).length=0:=by
  cases hq:i - (List.map Th.ent M++(L++T)).length with
  | zero=>rfl
  | succ q=>rw [hq] at hi; simp at hi
 have h2:j - (List.map Th.ent M++(L++T)).length=0:=by
  cases hq:j - (List.map Th.ent M++(L++T)).length with
  | zero=>rfl
  | succ q=>rw [hq] at a; simp at a
 omega
theorem Wk.trees {w0 w u:World} {M:List A7} {L T:List Th} (K:Wk w0 w M L T) (c:Wk w0 u M L T) (hs:(ε w)≤(ε u)) (xs:List (Ex×List Value)) (h:∀ p∈xs,DE (fun g=>w.heap.size≤g) u p.1 p.2):Wk w0 u M (L++[FO (ε w) (ε u) xs]) T:=
 K.freshT c (FO (ε w) (ε u) xs) ⟨Nat.le_refl _,fun p a=>DE.keep (Nat.le_refl _) (fun g hg hl=>⟨⟨hg,hl⟩,rfl⟩) _ _ (h p a)⟩ fun _ b=>b
def CA (lo:Nat) (n:Int) (h:Nat) (t:Ty) (v:Value) (u:World):Prop:=∃ x A c,v=ψ (AX x A c)∧CT n h t x∧DE (fun g=>lo≤g) u x (AX x A c)
theorem CA.but {b lo:Nat} {n:Int} {h:Nat} {t:Ty} (hb:b < lo):∀ v u a,CG b u a→CA lo n h t v u→CA lo n h t v a:=fun v u a he ⟨x,A,c,e,h2,d⟩=>⟨x,A,c,e,h2,DE.keep he.size (fun g hg hl=>⟨hg,he.block g hl (by omega)⟩) _ _ d⟩
def Io (n:Nat) (v:Value) (_:World):Prop:=∃ k:Nat,k < n∧v=δ (k:Int)
def LL (xs:List Int) (v:Value) (_:World):Prop:=∃ x∈xs,v=δ x
def Fb (b:Nat) (cs:List Value) (T:TypeId) (k:Nat) (v:Value) (u:World):Prop:=∃ g,v=χ g k k∧g≠b∧A7.good u ⟨g,0,cs,T,true⟩
theorem Fb.but {b:Nat} {d:List Value} {T:TypeId} {k:Nat}:∀ v u a,CG b u a→Fb b d T k v u→Fb b d T k v a:=fun v u a he ⟨g,e,h2,c⟩=>⟨g,e,h2,GY c he.size (he.block g c.1 h2)⟩
theorem Pm {w:World} {e:A7} (h:e.good w):w.rangeAt e.id e.off e.cells:=fun _ _ hv=>Ec h hv rfl rfl rfl
theorem Ob {S:Nat→Prop} {w:World} {e:Ex} {A:Option Addr} {c:Nat} {ks:List (List Value)} (a:FU S w e.ks ks) (h2:DH S w 10 A ks):DE S w e (AX e A c):=by
 cases e with
 | mk a1 a2 a3 a4 a5 a6 a7 a8 a9 kids=>
  unfold DE
  exact ⟨A,c,ks,rfl,a,h2⟩
theorem Sk {S:Nat→Prop} {w:World} {g:Nat} {T:TypeId} {ks:List (List Value)} (b:S g) (hn:∀ r∈ks,r.length=10) (h:A7.good w ⟨g,0,ks.flatten,T,true⟩):DH S w 10 (θ g) ks:=by
 rcases DJ hn h with a | ⟨c,off,a,_,h2⟩
 ·exact .inl a
 obtain ⟨rfl,rfl⟩:g=c∧0=off:=by simpa using a
 exact .inr ⟨g,0,rfl,b,h2⟩
attribute [local irreducible] BD BP AC AD AF Ar AZ AM Aw Bk C6 BV EE C5 BO At Fr
noncomputable def Zh:Code:=Tryz.f22.body.getD .skip
def ACT:=ν [.code Zh]
theorem Hb (w:World):Calls Tryz.prog 22 ([]:List Value).toArray w fun e w'=>e=.returned (ψ (Ax BC))∧Below (ε w) w w':=by
 refine AS (fn:=Tryz.f22) (c:=Zh) (n:=2) ?_
 refine Ah ACT [ι (ε w) (Ax BC) 56] (Wk.start w) [(0,0)] fun b a=>?_
 exact AK a (0,0) (ψ (Ax BC)) ⟨rfl,a.B⟩
noncomputable def Zg:Code:=Tryz.f19.body.getD .skip
def ACS:=ν [.code Zg]
theorem Gg (w:World):Calls Tryz.prog 19 ([]:List Value).toArray w fun e w'=>e=.returned (ψ (Ax Cb))∧Below (ε w) w w':=by
 refine AS (fn:=Tryz.f19) (c:=Zg) (n:=3) ?_
 refine Ah ACS [ι (ε w) (Ax Cb) 56] (Wk.start w) [(0,0)] fun b a=>?_
 exact AK a (0,0) (ψ (Ax Cb)) ⟨rfl,a.B⟩
noncomputable def Zf:Code:=Tryz.f17.body.getD .skip
def ACR:=ν [.code Zf]
theorem Ic (w:World):Calls Tryz.prog 17 ([]:List Value).toArray w fun e w'=>e=.returned (ψ (Ax De))∧Below (ε w) w w':=by
 refine AS (fn:=Tryz.f17) (c:=Zf) (n:=3) ?_
 refine Ah ACR [ι (ε w) (Ax De) 56] (Wk.start w) [(0,0)] fun b a=>?_
 exact AK a (0,0) (ψ (Ax De)) ⟨rfl,a.B⟩
noncomputable def Ze:Code:=Tryz.f21.body.getD .skip
def ACQ:=ν [.code Ze]
theorem Gf (w:World):Calls Tryz.prog 21 ([]:List Value).toArray w fun e w'=>e=.returned (ψ (Ax BU))∧Below (ε w) w w':=by
 refine AS (fn:=Tryz.f21) (c:=Ze) (n:=3) ?_
 refine Ah ACQ [ι (ε w) (Ax BU) 56] (Wk.start w) [(0,0)] fun b a=>?_
 exact AK a (0,0) (ψ (Ax BU)) ⟨rfl,a.B⟩
noncomputable def Zd:Code:=Tryz.f18.body.getD .skip
def ACP:=ν [.code Zd]
theorem LE (w:World):Calls Tryz.prog 18 ([]:List Value).toArray w fun e w'=>e=.returned (ψ (Ax DG))∧Below (ε w) w w':=by
 refine AS (fn:=Tryz.f18) (c:=Zd) (n:=2) ?_
 refine Ah ACP [ι (ε w) (Ax DG) 56] (Wk.start w) [(0,0)] fun b a=>?_
 exact AK a (0,0) (ψ (Ax DG)) ⟨rfl,a.B⟩
noncomputable def Z4:Code:=Tryz.f33.body.getD .skip
def cM:=ν [.code Z4]
def sT:=AA (An (Ae) 90 (AC cM)) (AC cM)
def ADF:=ν (AC (AC sT))
theorem JJ (b:Nat) (ns:List Int) (g:Nat) (xs:List Int) (c:Nat) (w:World) (r:Be b ns w) (hg:g≠b) (hx:0 < xs.length) (hm:xs.length≤1000) (hr:A7.good w (ι g (xs.map (Value.int .i64)) 3)) :
  Calls Tryz.prog 33 ([ζ b,χ g xs.length c]:List Value).toArray w fun e w'=>∃ x∈xs,e=.returned (δ x)∧Be b ns w'∧CG b w w':=by
 refine AS (fn:=Tryz.f33) (c:=Z4) (n:=12) ?_
 obtain ⟨w0,f,o⟩:=Wk.tape r
 have i:=o.B
 refine AB cM o [] fun p m=>?_
 refine BK m f 0 rfl (BR b ns xs.length p (m.tapeOk f 0 rfl) (by omega) (by omega)) BX.ok fun e v q s=>?_
 obtain ⟨k,y,rfl,_,_⟩:=q
 refine ⟨_,rfl,?_⟩
 have d:k < xs.length:=by omega
 obtain ⟨x,a⟩:∃ x,xs[k]?=some x:=⟨_,List.getElem?_eq_getElem d⟩
 refine Ak Ae sT s [] fun u l=>?_
 have hb:=(l.out f i).2
 have h:=GY hr hb.size (hb.block g hr.1 hg)
 refine Ay (g:=g) (off:=0) (cap:=c) (sz:=1) (k:=k) (len:=xs.length) (some 10) d Tryz.underlying22 ?_
 have hc:=Pm h k (δ x) (by rw [List.getElem?_map,a]; rfl)
 refine Dz 3 g (0 + k * 1) (δ x) (some 11) (by simpa using hc) ?_
 refine AB ADF l [] fun t j=>?_
 exact AK j (0,0) (δ x) ⟨x,List.mem_of_getElem? a,rfl,j.out f i⟩
noncomputable def aH:Code:=Tryz.f34.body.getD .skip
def dE:=ν [.code aH]
def tL:=AA (An (Ae) 90 (AC dE)) (AC dE)
def ADb:=ν (AC (AC tL))
theorem ABc (b:Nat) (ns:List Int) (w:World) (hT:Be b ns w):Calls Tryz.prog 34 ([.pointer (some ⟨b,0,none⟩)]:List Value).toArray w fun e w'=>∃ q∈Hm,e=.returned (.agg ⟨[δ q.1,δ q.2]⟩)∧Be b ns w'∧CG b w w':=by
 refine AS (fn:=Tryz.f34) (c:=aH) (n:=18) ?_
 obtain ⟨w0,h0,K0⟩:=Wk.tape hT
 have hw:=K0.B
 refine Ah dE [⟨w.heap.size,0,[δ 0,δ 0],41,true⟩,⟨w.heap.size + 1,0,[δ 1,δ 1,δ 2,δ 1,δ 0,δ 1,δ 5,δ 2,δ 1,δ 4,δ 76,δ 5,δ 40,δ 1,δ 1,δ 100,δ 3,δ 1,δ 100,δ 1],41,true⟩] K0 [] fun w1 K1=>?_
 refine BK K1 h0 0 rfl (BR b ns 10 w1 (K1.tapeOk h0 0 rfl) (by omega) (by omega)) BX.ok fun e w2 hq K2=>?_
 obtain ⟨k,hk,rfl,_,_⟩:=hq
 refine ⟨_,rfl,?_⟩
 have hkl:k < Hm.length:=by show k < 10; omega
 obtain ⟨q,hqk⟩:∃ x,Hm[k]?=some x:=⟨_,List.getElem?_eq_getElem hkl⟩
 refine Ak Ae tL K2 [] fun w3 K3=>?_
 refine Ay (g:=w.heap.size + 1) (off:=0) (cap:=10) (sz:=2) (k:=k) (len:=10) (some 16) hkl Tryz.underlying67 ?_
 obtain ⟨g,off,h1,_,h3⟩:=Cl.all (show Cl 2 (fun q:Int×Int=>[δ q.1,δ q.2]) w3 (some ⟨w.heap.size + 1,0,none⟩) Hm from DJ (fun r hr=>by obtain ⟨e,_,rfl⟩:=List.mem_map.1 hr; rfl) (K3.ent 1 rfl)) (by decide)
 obtain ⟨rfl,rfl⟩:w.heap.size + 1=g∧0=off:=by simpa using h1
 refine BN 41 (w.heap.size + 1) (0 + k * 2) _ (some 17) (h3 k q hqk) ?_
 refine Ah ADb [⟨w.heap.size,0,[δ q.1,δ q.2],41,true⟩,⟨w.heap.size + 1,0,[δ 1,δ 1,δ 2,δ 1,δ 0,δ 1,δ 5,δ 2,δ 1,δ 4,δ 76,δ 5,δ 40,δ 1,δ 1,δ 100,δ 3,δ 1,δ 100,δ 1],41,true⟩] K3 [(0,0)] fun w4 K4=>?_
 exact AK K4 (0,0) (.agg ⟨[δ q.1,δ q.2]⟩) ⟨q,List.mem_of_getElem? hqk,rfl,K4.out h0 hw⟩
noncomputable def Za:Code:=Tryz.f32.body.getD .skip
def ACK:=ν [.code Za]
theorem KN (op:Int) (x y:Ex) (A B:Option Addr) (c d:Nat) (w:World):Calls Tryz.prog 32 ([δ op,ψ (AX x A c),ψ (AX y B d)]:List Value).toArray w fun e w'=>∃ g,e=.returned (ψ (AX (.mk op 0 0 0 0 0 [] 0 0 [x,y]) (θ g) 2))∧Below (ε w) w w'∧Aj (ε w) w' [Th.ent (ι g ([AX x A c,AX y B d].flatten) 53)]:=by
 refine AS (fn:=Tryz.f32) (c:=Za) (n:=12) ?_
 refine Ah ACK [ι (ε w) (AX x A c) 53,ι (ε w + 1) (AX y B d) 53,ι (ε w + 2) (AX (.mk op 0 0 0 0 0 [] 0 0 [x,y]) (some ⟨ε w + 3,0,none⟩) 2) 53,ι (ε w + 3) ([AX x A c,AX y B d].flatten) 53] (Wk.start w) [(0,0),(1,0),(2,0)] fun b a=>?_
 exact AK a (2,0) (ψ (AX (.mk op 0 0 0 0 0 [] 0 0 [x,y]) (some ⟨ε w + 3,0,none⟩) 2)) ⟨_,rfl,a.B,a.H.pick [3] rfl (by decide)⟩
end
end Go.Proofs.YtkjbdagicjbjjaaGreat
namespace Go.Proofs.YtkjbdagicjbjjaaGreat
open Go.RowKit
set_option maxRecDepth 100000
set_option maxHeartbeats 1000000
attribute [local irreducible] BD BP AC AD AF Ar AZ AM Aw Bk C6 BV BO At Fr
def Sm (m:List (List UInt8×Int)) (p1:List UInt8) (p2:Int):List (List UInt8×Int):=cond (!((AH m p1).isSome)) ((p1,p2) :: m) (m)
theorem Wt (m:List (List UInt8×Int)) (s:List UInt8) (n:Int):(Sm m s n).length≤m.length + 1:=by
 unfold Sm
 cases !(AH m s).isSome <;> simp
end Go.Proofs.YtkjbdagicjbjjaaGreat
namespace Go.Proofs.YtkjbdagicjbjjaaGreat
open Go.RowKit
set_option maxRecDepth 100000
set_option maxHeartbeats 600000
theorem Wx {α:Type} {a:α→List Value→Prop}:∀ {l l':List α} {rs b:List (List Value)},ET a l rs→ET a l' b→ET a (l++l') (rs++b)
 | [],_,[],_,_,h=>h
 | [],_,_ :: _,_,h,_=>h.elim
 | _ :: _,_,[],_,h,_=>h.elim
 | _ :: _,_,_ :: _,_,k,h=>⟨k.1,Wx k.2 h⟩
theorem Es {α:Type} {f:α→List Value}:∀ (l:List α),ET (fun e r=>r=f e) l (l.map f)
 | []=>trivial
 | _ :: l=>⟨rfl,Es l⟩
abbrev Ta (A:Option Addr) (c:Nat) (l:List (Int×Int×Int)):Th:=Th.row 101 3 (fun e r=>r=IX e) A c l
theorem Aj.entRow {α:Type} {b:Nat} {w:World} {L:List Th} (h:Aj b w L) (i:Nat) {g:Nat} {T:TypeId} {n:Nat} (a:α→List Value→Prop) (hi:L[i]?=some (Th.ent ⟨g,0,[],T,true⟩)):Aj b w (L.set i (Th.row T n a (θ g) 0 [])):=by
 have hg:A7.good w ⟨g,0,[],T,true⟩:=h.all i _ hi
 refine h.set i hi (Nat.le_refl _) ⟨[],trivial,by simp,.inr ⟨g,0,#[],rfl,Nat.zero_le _,?_,Nat.le_refl _,Nat.zero_le _,by simp,by simp⟩⟩ (fun k c=>?_) (fun _ _ _=>rfl)
 ·have:=hg.2
  rw [if_pos rfl] at this
  exact this.1
 obtain rfl:g=k:=by have:=Option.some.inj c; injection this
 exact ⟨hg.1,.inl rfl⟩
section
variable {P:Program} {fi:FuncId} {R:Ending→World→Prop}
end
theorem lu {n:Nat} {w:World} {g off:Nat} {rs:List (List Value)} (hn:∀ r∈rs,r.length=n) (hc:∀ (i:Nat) r,rs[i]?=some r→∀ (j:Nat) u,r[j]?=some u→w.cell? ⟨g,off + i * n + j,none⟩=some u):∀ j u,rs.flatten[j]?=some u→w.cell? ((⟨g,off,none⟩:Addr).add j)=some u:=by
 have key:∀ (rs:List (List Value)) (o:Nat),(∀ r∈rs,r.length=n)→(∀ (i:Nat) r,rs[i]?=some r→∀ (j:Nat) u,r[j]?=some u→w.cell? ⟨g,o + i * n + j,none⟩=some u)→∀ j u,rs.flatten[j]?=some u→w.cell? ⟨g,o + j,none⟩=some u:=by
  intro rs
  induction rs with
  | nil=>intro o _ _ j u h; simp at h
  | cons r rs ih=>
   intro o hn hc j u h
   rw [List.flatten_cons] at h
   have hr:r.length=n:=hn r (by simp)
   rcases EP h with a | ⟨a,h2⟩
   ·have:=hc 0 r rfl j u a
    simpa using this
   have:=ih (o + n) (fun r hr=>hn r (by simp [hr])) (fun i r hi j u hu=>by
    have:=hc (i + 1) r (by simpa using hi) j u hu
    rw [Nat.succ_mul] at this
    rw [show o + n + i * n + j=o + (i * n + n) + j by omega]
    exact this) (j - r.length) u h2
   rw [show o + n + (j - r.length)=o + j by omega] at this
   exact this
 intro j u h
 have:=key rs off hn hc j u h
 unfold Addr.add
 split
 ·rename_i hj; subst hj; exact this
 simpa using this
theorem Jv {n:Nat} {w:World} {b:Addr} {rs:List (List Value)} (h:DH CN w n (some b) rs) (hn:∀ r∈rs,r.length=n):∀ j u,rs.flatten[j]?=some u→w.cell? (b.add j)=some u:=by
 rcases h with h | ⟨d,a,c,_,hg,hc⟩
 ·subst h
  intro j u hu
  simp at hu
 obtain rfl:=Option.some.inj c
 exact lu hn fun i r hi j u hu=>hc i r hi j u hu
end Go.Proofs.YtkjbdagicjbjjaaGreat

/-
  Part 30 of a proof: contracts of functions.
-/
import Derived.Test.YtkjbdagicjbjjaaGreatTf29
set_option linter.all false
namespace Go.Proofs.YtkjbdagicjbjjaaGreat
open Go.RowKit
set_option maxRecDepth 100000
def M0 (o:Op):Option (FuncId×List Operand):=match o with
 | .call ⟨.value (.func g),xs,_⟩=>some (g,xs.toList)
 | _=>none
theorem Mz {o:Op} {g:FuncId} {xs:List Operand} (h:M0 o=some (g,xs)):∃ ats,o=.call ⟨.value (.func g),xs.toArray,ats⟩:=by
 unfold M0 at h
 split at h
 ·rename_i g' xs' ats
  simp only [Option.some.injEq,Prod.mk.injEq] at h
  obtain ⟨rfl,rfl⟩:=h
  exact ⟨ats,rfl⟩
 ·cases h
theorem AM.mono {P:Program} {o:Oper} {ρ:Operand→Value} {w:World} {K b:Value→World→Prop} (h:AM P o ρ w K) (a:∀ v w',K v w'→b v w'):AM P o ρ w b:=by
 unfold AM at h ⊢
 split at h
 ·exact a _ _ h
 ·exact a _ _ h
 ·exact h.mono fun e w' ⟨v,c,h2⟩=>⟨v,c,a v w' h2⟩
 ·exact h.elim
section
variable {P:Program} {n:Nat} {ops:Array Oper} {mem:List Az} {hints:List (Nat×Nat×Nat)} {E:Nat→Value} {os m:List Nat} {xb:Nat→List Nat}
def Dm (os:List Nat) (X:Nat→Value):List Sp:=os.map fun i=>⟨i,[],X i,true⟩
theorem N3 (X:Nat→Value) (i:Nat):∀ os:List Nat,Gr (Dm os X) i=cond (os.contains i) (some ⟨i,[],X i,true⟩) none
 | []=>rfl
 | j :: os=>by
  have b:=N3 X i os
  show (match Nat.beq j i with
   | true=>some (⟨j,[],X j,true⟩:Sp)
   | false=>Gr (Dm os X) i)=_
  rw [List.contains_cons]
  cases hb:Nat.beq j i with
  | true=>
   obtain rfl:=Nat.eq_of_beq_eq_true hb
   simp
  | false=>
   have a:(i == j)=false:=by
    rw [beq_eq_false_iff_ne]
    intro h
    rw [h,Nat.beq_refl] at hb
    cases hb
   rw [a,Bool.false_or]
   exact b
theorem jt {X Y:Nat→Value} (h:∀ i∈os,X i=Y i):Dm os X=Dm os Y:=List.map_congr_left fun i hi=>by rw [h i hi]
def HJ (ops:Array Oper) (m os:List Nat) (i:Nat):List Nat:=os.filter fun j=>(EL ops m i).contains j
noncomputable def XW (ops:Array Oper) (m:List Nat) (i:Nat) (X:Nat→Value) (j:Nat):Value:=cond ((EL ops m i).contains j || Nat.beq j i) (X j) undef
noncomputable def Me (P:Program) (n:Nat) (ops:Array Oper) (mem:List Az) (hints:List (Nat×Nat×Nat)) (os m:List Nat) (E:Nat→Value) (S:Nat→Value→World→Prop) (xb:Nat→List Nat):List Ct:=m.map fun i=>⟨i,EL ops m i++xb i,HJ ops m os i++[i],fun vs u=>∃ X,vs=(HJ ops m os i++[i]).map (Da P n ops mem hints (Dm os X) m E)∧(os.contains i=true→S i (X i) u)⟩
theorem P3 {X:Nat→Value} {i:Nat} (hi:os.contains i=true):Da P n ops mem hints (Dm os X) m E i=X i:=by
 unfold Da Lu
 rw [N3,hi]
 rfl
theorem XV {S:Nat→Value→World→Prop} {vals:Nat→Value} {u:World} (a:∀ X,m.map (fun i=>Da P n ops mem hints (Dm os X) m E i)=m.map (fun i=>Da P n ops mem hints (Dm os (XW ops m i X)) m E i)) {i:Nat} (hi:i∈m)
  (h:∃ X,(HJ ops m os i++[i]).map vals=(HJ ops m os i++[i]).map (Da P n ops mem hints (Dm os X) m E)∧(os.contains i=true→S i (X i) u)):vals i=Da P n ops mem hints (Dm os vals) m E i∧(os.contains i=true→S i (vals i) u):=by
 obtain ⟨X,d,e⟩:=h
 have hv:∀ k∈HJ ops m os i++[i],vals k=Da P n ops mem hints (Dm os X) m E k:=List.map_inj_left.1 d
 have b:∀ k∈os,((EL ops m i).contains k || Nat.beq k i)=true→vals k=X k:=fun k b hb=>by
  rw [hv k ?_,P3 (List.contains_iff_mem.2 b)]
  rw [Bool.or_eq_true] at hb
  rcases hb with hb | hb
  ·exact List.mem_append_left _ (List.mem_filter.2 ⟨b,hb⟩)
  ·rw [Nat.eq_of_beq_eq_true hb]; simp
 have hr:Dm os (XW ops m i X)=Dm os (XW ops m i vals):=jt fun k c=>by
  unfold XW
  cases hb:((EL ops m i).contains k || Nat.beq k i)
  ·rfl
  ·exact (b k c hb).symm
 refine ⟨?_,fun ho=>?_⟩
 ·rw [hv i (by simp),(List.map_inj_left.1 (a X)) i hi,hr,← (List.map_inj_left.1 (a vals)) i hi]
 ·rw [b i (List.contains_iff_mem.1 ho) (by rw [Nat.beq_refl,Bool.or_true])]
  exact e ho
theorem Md {S:Nat→Value→World→Prop} {vals:Nat→Value} {u:World} {B:List Nat}:∀ {l:List Nat},FP B vals u (l.map fun i=>⟨i,EL ops m i++xb i,HJ ops m os i++[i],fun b u=>∃ X,b=(HJ ops m os i++[i]).map (Da P n ops mem hints (Dm os X) m E)∧(os.contains i=true→S i (X i) u)⟩)→∀ j∈l,B.contains j=true→∃ X,(HJ ops m os j++[j]).map vals=(HJ ops m os j++[j]).map (Da P n ops mem hints (Dm os X) m E)∧(os.contains j=true→S j (X j) u)
 | [],_,_,h,_=>by cases h
 | i :: l,hb,j,a,hB=>by
  rw [List.map_cons] at hb
  unfold FP at hb
  rcases List.mem_cons.1 a with rfl | a
  ·simp only [hB] at hb
   exact hb.1
  ·split at hb
   ·exact Md hb.2 j a hB
   ·exact Md hb j a hB
theorem Pm {S:Nat→Value→World→Prop} {vals:Nat→Value} {u:World}:∀ {l:List Nat},FK vals u (l.map fun i=>⟨i,EL ops m i++xb i,HJ ops m os i++[i],fun b u=>∃ X,b=(HJ ops m os i++[i]).map (Da P n ops mem hints (Dm os X) m E)∧(os.contains i=true→S i (X i) u)⟩)→∀ j∈l,∃ X,(HJ ops m os j++[j]).map vals=(HJ ops m os j++[j]).map (Da P n ops mem hints (Dm os X) m E)∧(os.contains j=true→S j (X j) u)
 | [],_,_,h=>by cases h
 | i :: l,hb,j,a=>by
  rw [List.map_cons] at hb
  unfold FK at hb
  rcases List.mem_cons.1 a with rfl | a
  ·exact hb.1
  ·exact Pm hb.2 j a
theorem Yj {Q:Exit→Act→World→Prop} {d:Array Bool} {C:Array Bool→World→Prop} {Ext:World→World→Prop} {w1:World} (m:List Nat) (mem:List Az) (hints:List (Nat×Nat×Nat)) (os:List Nat) (xb:Nat→List Nat) (S:Nat→Value→World→Prop) (r:Nat)
  (hC:C d w1) (hM:∀ s u,C s u→∀ e∈mem,e.good u) (e0:∀ u,Ext u u) (s0:∀ a b c:World,Ext a b→Ext b c→Ext a c) (t0:∀ i v u u',Ext u u'→S i v u→S i v u') (l0:∀ i∈m,os.contains i=false→∀ s u,C s u→C (s.setIfInBounds i true) u)
  (z0:∀ i∈os,∀ (X:Nat→Value) s u,s.getD i true=false→(∀ j,(EL ops m i++xb i).contains j=true→s.getD j false=true)→C s u→(∀ j,os.contains j=true→(EL ops m i).contains j=true→S j (X j) u)→AM P (ops.getD i default) (Ax n (EP P n ops mem hints (Dm os X) m E i)) u (fun v w'=>C (s.setIfInBounds i true) w'∧Ext u w'∧S i v w'))
  (hok:(EZ .any ops (DC ops m) d n (Me P n ops mem hints os m E S xb) && Gc ops (Me P n ops mem hints os m E S xb))=true) (v0:∀ X,m.all (Ed P n ops mem hints (Dm os X) m E)=true)
  (hp:∀ X V,I3 P n ops mem hints (Dm os X) m E V=Gv P n ops mem hints (Dm os X) m E)
  (k0:∀ X,m.map (fun i=>Da P n ops mem hints (Dm os X) m E i)=m.map (fun i=>Da P n ops mem hints (Dm os (XW ops m i X)) m E i))
  (hk:∀ X u,C (m.foldl (fun b i=>b.setIfInBounds i true) d) u→Ext w1 u→(∀ i∈m,os.contains i=true→S i (X i) u)→wpAny P .any ops Q r (m.foldl (fun b i=>b.setIfInBounds i true) d) (Fr n (Cm P n ops mem hints (Dm os X) m E)) u):wpAny P .any ops Q (m.length + r) d (Fr n E) w1:=by
 have parts:∀ l:List Nat,(∀ i∈l,i∈m)→LU P ops n E (DC ops m) (fun s _ u=>C s u) Ext (Me P n ops mem hints os m E S xb) (l.map fun i=>⟨i,EL ops m i++xb i,HJ ops m os i++[i],fun vs u=>∃ X,vs=(HJ ops m os i++[i]).map (Da P n ops mem hints (Dm os X) m E)∧(os.contains i=true→S i (X i) u)⟩):=by
  intro l
  induction l with
  | nil=>intro _; trivial
  | cons i l ih=>
   intro hl
   refine ⟨⟨fun vs u u' he h=>?_,fun s vals u b1 f1 hu hb=>?_⟩,ih fun j y=>hl j (by simp [y])⟩
   ·obtain ⟨X,h1,h2⟩:=h
    exact ⟨X,h1,fun ho=>t0 i _ u u' he (h2 ho)⟩
   have z:=hl i (by simp)
   have hs:=List.all_eq_true.1 (v0 vals) i z
   unfold Ed at hs
   rw [Bool.and_eq_true] at hs
   have n0:∀ j∈m,(EL ops m i).contains j=true→vals j=Da P n ops mem hints (Dm os vals) m E j∧(os.contains j=true→S j (vals j) u):=fun j y hB=>XV k0 y (Md hb j y (List.contains_iff_mem.2 (List.mem_append_left _ (List.contains_iff_mem.1 hB))))
   have g0:Lv P n ops mem hints (Dm os vals) m E vals i=JT P n ops mem hints (Dm os vals) m E i:=by
    have h1:=hp vals vals
    unfold I3 Gv at h1
    exact (List.map_inj_left.1 h1) i z
   unfold Lv JT at g0
   simp only [Prod.mk.injEq] at g0
   obtain ⟨hop,_,f⟩:=g0
   have hρ:∀ x∈(ops.getD i default).op.operands,C0 n E (DC ops m) vals x=Ax n (EP P n ops mem hints (Dm os vals) m E i) x:=fun x hx=>by
    have h2:MI P n ops mem hints (Dm os vals) m E vals i x=Ax n (EP P n ops mem hints (Dm os vals) m E i) x:=by
     have r0:x∈(ops.getD i default).op.operands.toList:=Array.mem_toList_iff.2 hx
     obtain ⟨k,a0⟩:=List.mem_iff_getElem?.1 r0
     have h3:=congrArg (fun l=>l[k]?) hop
     simp only [List.getElem?_map,a0,Option.map_some,Option.some.injEq] at h3
     exact h3
    rw [← h2]
    cases x with
    | tmp t=>
     unfold C0 MI
     cases hW:(DC ops m).of t with
     | none=>simp only [hW]
     | some j=>
      simp only [hW]
      cases hc:(EL ops m i).contains j with
      | false=>rfl
      | true=>
       have y:j∈m:=by
        unfold Wr.of at hW
        obtain ⟨p,x0,w0⟩:=Option.map_eq_some_iff.1 hW
        have d0:=List.mem_of_find?_eq_some x0
        unfold DC at d0
        obtain ⟨k,h0,a0⟩:=List.mem_filterMap.1 d0
        obtain ⟨t',_,rfl⟩:=Option.map_eq_some_iff.1 a0
        rw [← w0]
        exact h0
       exact (n0 j y hc).1
    | _=>rfl
   have i0:∀ cs b,(ops.getD i default).op≠.select cs b:=fun cs b hh=>by
    have:=hs.1
    unfold JQ at this
    rw [hh] at this
    cases this
   have d1:∀ K',AM P (ops.getD i default) (Ax n (EP P n ops mem hints (Dm os vals) m E i)) u K'→AM P (ops.getD i default) (C0 n E (DC ops m) vals) u K':=fun K' h=>by
    unfold AM at h ⊢
    rw [execOp_congr _ i0 hρ]
    exact h
   have e1:∀ j,os.contains j=true→(EL ops m i).contains j=true→j∈m:=fun j _ hB=>by
    have h1:=(EY (by have h:=hok; rw [Bool.and_eq_true] at h; exact h.1)).bef (⟨i,EL ops m i++xb i,HJ ops m os i++[i],fun vs u=>∃ X,vs=(HJ ops m os i++[i]).map (Da P n ops mem hints (Dm os X) m E)∧(os.contains i=true→S i (X i) u)⟩:Ct) (List.mem_map.2 ⟨i,z,rfl⟩)
    obtain ⟨o,ho⟩:=(EY (by have h:=hok; rw [Bool.and_eq_true] at h; exact h.1)).op (⟨i,EL ops m i++xb i,HJ ops m os i++[i],fun vs u=>∃ X,vs=(HJ ops m os i++[i]).map (Da P n ops mem hints (Dm os X) m E)∧(os.contains i=true→S i (X i) u)⟩:Ct) (List.mem_map.2 ⟨i,z,rfl⟩)
    have h2:=(h1 o ho j (List.mem_append_left _ (List.contains_iff_mem.1 hB))).1
    unfold Me at h2
    rw [List.map_map] at h2
    obtain ⟨k,h0,a0⟩:=List.mem_map.1 h2
    rw [← (show k=j from a0)]
    exact h0
   show AM P (ops.getD i default) (C0 n E (DC ops m) vals) u _
   refine d1 _ ?_
   cases hio:os.contains i with
   | true=>
    have h1:=z0 i (List.contains_iff_mem.1 hio) vals s u b1 (fun j y=>f1 j (List.contains_iff_mem.1 y)) hu fun j y hB=>(n0 j (e1 j y hB) hB).2 y
    refine AM.mono h1 fun v w' ⟨k1,k2,k3⟩=>⟨k1,k2,Dw vals i v,List.map_congr_left fun k g=>?_,fun _=>by unfold Dw; rw [if_pos rfl]; exact k3⟩
    rcases List.mem_append.1 g with g | g
    ·exact (P3 (List.contains_iff_mem.2 (List.mem_filter.1 g).1)).symm
    ·rw [List.mem_singleton.1 g,P3 hio]
   | false=>
    have c0:∀ v,v=Da P n ops mem hints (Dm os vals) m E i→(⟨i,EL ops m i++xb i,HJ ops m os i++[i],fun vs u=>∃ X,vs=(HJ ops m os i++[i]).map (Da P n ops mem hints (Dm os X) m E)∧(os.contains i=true→S i (X i) u)⟩:Ct).says ((HJ ops m os i++[i]).map (Dw vals i v)) u:=fun v hv=>by
     refine ⟨vals,List.map_congr_left fun k g=>?_,fun h=>by rw [hio] at h; cases h⟩
     unfold Dw
     split
     ·rename_i hki; rw [hki]; exact hv
     ·rename_i hki
      rcases List.mem_append.1 g with g | g
      ·have h9:=List.mem_filter.1 g
       rw [P3 (List.contains_iff_mem.2 h9.1)]
      ·exact absurd (List.mem_singleton.1 g) hki
    rw [N3,hio] at f hs
    simp only [cond_false] at f hs
    obtain ⟨x,hx⟩:=Option.isSome_iff_exists.1 hs.2
    rw [hx] at f
    simp only [Option.map_some,Option.some.injEq,Prod.mk.injEq] at f
    obtain ⟨nx,q0⟩:=x
    have q:=f.1
    cases nx with
    | value v=>
     simp only [Do,Option.some.injEq] at q
     refine AM.reads ⟨0,mem,He hints i,[]⟩ (hM s u hu) v (hv:=by rw [hx]; rfl) (he:=by rw [hx]; exact congrArg some f.2) ⟨l0 i z hio s u hu,e0 u,c0 v q⟩
    | skip=>
     simp only [Do,Option.some.injEq] at q
     have c1:(DO P (execOp (Ax n (EP P n ops mem hints (Dm os vals) m E i)) (ops.getD i default)) ⟨0,mem,He hints i,[]⟩)=some (.skip,q0):=hx
     have j0:=Fb (w:=u) _ _ _ _ c1 (hM s u hu) (H1 f.2)
     unfold AM
     rw [j0]
     exact ⟨l0 i z hio s u hu,e0 u,c0 undef q⟩
    | enter _ _=>simp [Do] at q
    | _=>simp [Do] at q
 have m0:(Me P n ops mem hints os m E S xb).length=m.length:=by unfold Me; rw [List.length_map]
 have b0:(Me P n ops mem hints os m E S xb).map (·.idx)=m:=by unfold Me; rw [List.map_map]; exact List.map_id _
 have a1:m.Nodup:=by
  have:=EY (by have h:=hok; rw [Bool.and_eq_true] at h; exact h.1)
  rw [← b0]; exact this.nodup
 refine eN (md:=.any) (fuel:=r) (L:=Me P n ops mem hints os m E S xb) (W:=DC ops m) (J:=fun s _ u=>C s u) (Ext:=Ext) hok hC e0 s0 (parts m fun i hi=>hi) (by rw [m0]) fun vals u hu he p0=>?_
 have hv:=fun j (y:j∈m)=>XV k0 y (Pm p0 j y)
 rw [b0,L0 (mem:=mem) (hints:=hints) (specs:=Dm os vals) (P:=P) (n:=n) a1 (fun j y=>(hv j y).1)]
 exact hk vals u (by rw [b0] at hu; exact hu) he fun i hi ho=>(hv i hi).2 ho
theorem Bn {o:Oper} {ρ:Operand→Value} {u:World} {K:Value→World→Prop} {g:FuncId} {xs:List Operand} {args:List Value} (h:Calls P g args.toArray u fun e w'=>∃ v,e=.returned v∧K v w') (hρ:ρ (.func g)=.func (.func g) #[] #[]) (hc:(M0 o.op,xs.map ρ,DG P g)=(some (g,xs),args,true):=by kernel_rfl):AM P o ρ u K:=by
 simp only [Prod.mk.injEq] at hc
 obtain ⟨b,h2,a⟩:=hc
 obtain ⟨ats,hop⟩:=Mz b
 exact AM.call xs (hop:=hop) hρ (ha:=h2) (CG (h:=a) _ u) h
theorem HE {o:Oper} {ρ:Operand→Value} {u:World} {K:Value→World→Prop} (b:Nat→Value) (zero:List Value) (T:TypeId) (f:∀ w',Below u.heap.size u w'→Az.good w' ⟨u.heap.size,0,zero,T,true⟩→K (b u.heap.size) w')
  (ha:∀ z,(CL P (execOp ρ o) ⟨z,[],(0,0),[]⟩).map (fun r=>(Do r.1,r.2.mem,r.2.eqs))=some (some (b z),[⟨z,0,zero,T,true⟩],[])):AM P o ρ u K:=by
 obtain ⟨x,hx,a⟩:=Option.map_eq_some_iff.1 (ha u.heap.size)
 obtain ⟨c,d⟩:=x
 simp only [Prod.mk.injEq] at a
 obtain ⟨g,l,j⟩:=a
 have e:c=.value (b u.heap.size)∨(c=.skip∧b u.heap.size=undef):=by
  cases c <;> simp [Do] at g
  ·exact .inl (by rw [g])
  ·exact .inr ⟨rfl,g.symm⟩
 refine AM.runsK (O:=[]) (B:=u.heap.size) ⟨u.heap.size,[],(0,0),[]⟩ d c _ (hm:=hx) e (CH u) (by rw [j]; rfl) fun w' h i=>?_
 exact f w' (i.below (Nat.le_refl _) (fun k f=>by cases f)) (h.sat.good _ (by rw [l]; simp))
end
def MD:List (Nat×(Value→World→Prop))→Nat→Value→World→Prop
 | [],_,_,_=>True
 | p :: r,i,v,u=>match Nat.beq p.1 i with
  | true=>p.2 v u
  | false=>MD r i v u
theorem Vd {Ext:World→World→Prop}:∀ {a:List (Nat×(Value→World→Prop))},(∀ p∈a,∀ v u u',Ext u u'→p.2 v u→p.2 v u')→∀ i v u u',Ext u u'→MD a i v u→MD a i v u'
 | [],_,_,_,_,_,_,h=>h
 | p :: r,hp,i,v,u,u',he,h=>by
  unfold MD at h ⊢
  split at h
  ·exact hp p (by simp) v u u' he h
  ·exact Vd (fun q b=>hp q (by simp [b])) i v u u' he h
theorem Ee {P:Program} {f:FuncId} {R:Ending→World→Prop} {n:Nat} {todo:List Item} {E:Nat→Value} {w0 w:World} {M:List Az} {L T:List Th} {b:Nat} {ns:List Int} (K:Wk w0 w M L T) (h0:w0.heap.size=b) (q:Nat) (hq:L[q]?=some (BH w0 b ns)) (m:List Nat) (mem:List Az) (hints:List (Nat×Nat×Nat)) (c:List (Nat×(Value→World→Prop))) (r:Nat)
  (hM:∀ u,Wk w0 u M L T→∀ e∈mem,e.good u) (a0:∀ p∈c,∀ v u o,CE b u o→p.2 v u→p.2 v o)
  (s:∀ p∈c,∀ (X:Nat→Value) u,Wk w0 u M L T→CE b w u→(∀ j,(EL (AS todo) m p.1).contains j=true→(c.map (·.1)).contains j=true→MD c j (X j) u)→AM P ((AS todo).getD p.1 default) (Ax n (EP P n (AS todo) mem hints (Dm (c.map (·.1)) X) m E p.1)) u (fun v w'=>BW b ns w'∧CE b u w'∧p.2 v w'))
  (hk:∀ X u,Wk w0 u M L T→CE b w u→(∀ i∈m,(c.map (·.1)).contains i=true→MD c i (X i) u)→wpAny P .any (AS todo) (fun e a w=>e=.normal∧HM P f R (AL todo) a w) r (m.foldl (fun b i=>b.setIfInBounds i true) (Array.replicate (AS todo).size false)) (Fr n (Cm P n (AS todo) mem hints (Dm (c.map (·.1)) X) m E)) u)
  (hd:(Ek todo).isSome=true:=by kernel_rfl) (hmo:P.follows .mixedOrders=true:=by kernel_rfl)
  (hok:(EZ .any (AS todo) (DC (AS todo) m) (Array.replicate (AS todo).size false) n (Me P n (AS todo) mem hints (c.map (·.1)) m E (MD c) fun _=>[]) && Gc (AS todo) (Me P n (AS todo) mem hints (c.map (·.1)) m E (MD c) fun _=>[]),Nat.beq (m.length + r) (AS todo).size,c.all fun p=>(c.map (·.1)).Nodup)=(true,true,true):=by kernel_rfl)
  (hsm:∀ X,m.all (Ed P n (AS todo) mem hints (Dm (c.map (·.1)) X) m E)=true:=by intro _; kernel_rfl)
  (g:∀ X V,I3 P n (AS todo) mem hints (Dm (c.map (·.1)) X) m E V=Gv P n (AS todo) mem hints (Dm (c.map (·.1)) X) m E:=by intro _ _; kernel_rfl)
  (hre:∀ X,m.map (fun i=>Da P n (AS todo) mem hints (Dm (c.map (·.1)) X) m E i)=m.map (fun i=>Da P n (AS todo) mem hints (Dm (c.map (·.1)) (XW (AS todo) m i X)) m E i):=by intro _; kernel_rfl):At P f R todo (Fr n E) w:=by
 obtain ⟨ops,d⟩:=Option.isSome_iff_exists.1 hd
 have hr:AS todo=ops:=by
  unfold Ek at d
  split at d
  ·obtain rfl:=Option.some.inj d; rfl
  ·cases d
 rw [hr] at hok s hk hsm g hre
 simp only [Prod.mk.injEq] at hok
 obtain ⟨hok,z,c0⟩:=hok
 have hN:m.length + r=ops.size:=Nat.eq_of_beq_eq_true z
 have t:∀ (l:List (Nat×(Value→World→Prop))),(l.map (·.1)).Nodup→∀ p∈l,MD l p.1=p.2:=by
  intro l
  induction l with
  | nil=>intro _ p g; cases g
  | cons a l ih=>
   intro hn p g
   rw [List.map_cons,List.nodup_cons] at hn
   funext v u
   unfold MD
   rcases List.mem_cons.1 g with rfl | g
   ·rw [Nat.beq_refl]
   ·have b0:Nat.beq a.1 p.1=false:=by
     cases hb:Nat.beq a.1 p.1 with
     | false=>rfl
     | true=>exact absurd (by rw [Nat.eq_of_beq_eq_true hb]; exact List.mem_map_of_mem g) hn.1
    rw [b0]
    exact congrFun (congrFun (ih hn.2 p g) v) u
 refine EV ops (hd:=d) (hm:=hmo) (m.length + r) (hs:=hN.symm) ?_
 rw [← hN] at hok hk
 refine Yj (C:=fun _ u=>Wk w0 u M L T∧CE b w u) (Ext:=fun u o=>CE b u o) m mem hints (c.map (·.1)) (fun _=>[]) (MD c) r ⟨K.below (Below.refl _ _).drew,.of_below (Below.refl _ _).drew⟩ (fun _ u hu=>hM u hu.1) (fun u=>CE.refl b u) (fun _ _ _ y h2=>y.trans h2) (fun i v u o he h=>Vd a0 i v u o he h) (fun _ _ _ _ _ h=>h) (fun i hi X _ u _ _ hu hb=>?_) (by rw [hN] at hok ⊢; exact hok) hsm g hre fun X u hu _ x=>hk X u hu.1 hu.2 x
 obtain ⟨p,k,rfl⟩:=List.mem_map.1 hi
 have hn:(c.map (·.1)).Nodup:=by
  have:=List.all_eq_true.1 c0 p k
  exact of_decide_eq_true this
 rw [t c hn p k]
 refine AM.mono (s p k X u hu.1 hu.2 fun j y h2=>hb j h2 y) fun v w' ⟨y,h2,h3⟩=>⟨⟨hu.1.tick h0 q hq y h2,hu.2.trans h2⟩,h2,h3⟩
noncomputable def GR (P:Program) (n:Nat) (ops:Array Oper) (E:Nat→Value) (ts:List (Nat×Nat×Nat)) (M:List Az) (z:Nat):(Nat→Value)×List Az×Nat×List (Nat×Nat):=
 match Dx P n ops ts E M z with
 | some q=>q
 | none=>(E,[],0,[])
theorem Dv {P:Program} {f:FuncId} {R:Ending→World→Prop} {n:Nat} {todo:List Item} {E:Nat→Value} {w0 u:World} {M:List Az} {L T:List Th} {ops:Array Oper} {b:Array Bool} (K:Wk w0 u M L T) (ts:List (Nat×Nat×Nat)) (M':Nat→List Az)
  (l:∀ z w',Wk w0 w' (M' z) L T→At P f R todo (Fr n (GR P n ops E ts M z).1) w')
  (ht:∀ z,((Dx P n ops ts E M z).isSome,(GR P n ops E ts M z).2.1,(GR P n ops E ts M z).2.2.2.map Prod.fst)=(true,M' z,(GR P n ops E ts M z).2.2.2.map Prod.snd):=by intro _; kernel_rfl)
  (hr:Iz ops .any b (ts.map (·.1))=true:=by kernel_rfl):wpAny P .any ops (fun e a w=>e=.normal∧HM P f R todo a w) ts.length b (Fr n E) u:=by
 have c:=ht u.heap.size
 simp only [Prod.mk.injEq] at c
 obtain ⟨i,g,d⟩:=c
 obtain ⟨q,j⟩:=Option.isSome_iff_exists.1 i
 have m:GR P n ops E ts M u.heap.size=q:=by unfold GR; rw [j]
 have h:=l u.heap.size
 rw [m] at g d h
 exact KC (P:=P) (n:=n) (ops:=ops) (L:=L) (T:=T) (w0:=w0) (fuel:=0) (Q:=fun e a w=>e=.normal∧HM P f R todo a w) ts b _ M u K u.heap.size rfl q j (H1 d) hr fun w' a k ha=>⟨rfl,by rw [ha]; rw [g] at k; exact (h w' k).mid⟩
theorem GD {P:Program} {ops:Array Oper} {Q:Exit→Act→World→Prop} {n:Nat} {E:Nat→Value} {a:Array Bool} {fuel:Nat} {w:World} (i:Nat) (g:FuncId) (xs:List Operand) (args:List Value)
  (h:Calls P g args.toArray w fun e w'=>∃ v,e=.returned v∧wpAny P .any ops Q fuel (a.setIfInBounds i true) (Fr n (Aq E (ops.getD i default).dst v)) w')
  (hc:(Region.ready .any ops a,Nat.blt i ops.size,(ops.getD i default).guard,xs.map (Ax n E),DG P g,M0 (ops.getD i default).op)=([i],true,none,args,true,some (g,xs)):=by kernel_rfl):wpAny P .any ops Q (fuel + 1) a (Fr n E) w:=by
 simp only [Prod.mk.injEq] at hc
 obtain ⟨q,c,p,m,l,k⟩:=hc
 obtain ⟨ats,hop⟩:=Mz k
 rw [Nat.blt_eq] at c
 refine Jc q (o:=ops.getD i default) (by simp [Array.getD,c]) p ?_
 unfold Oper.wp
 rw [Db]
 generalize ops.getD i default=o at hop h
 have e:(execOp (Ax n E) o).run P w=.ok (.enter g args.toArray) w:=by
  rw [← CG (h:=l) args.toArray w,← m]
  obtain ⟨d,op,ty,f,t,r⟩:=o
  simp only at hop
  subst hop
  unfold execOp resolve
  simp only [List.map_toArray]
  show ((Deferred.ofValue (.func (.func g) #[] #[]) (xs.map (Ax n E)).toArray).bind fun d=>invoke d.target d.args).run P w=_
  unfold Deferred.ofValue
  simp [invoke,pure,Sem.bind]
 rw [e]
 refine h.mono fun s w' j=>?_
 obtain ⟨v,rfl,b⟩:=j
 show wpAny P .any ops Q fuel _ ((Fr n E).put o.dst v) w'
 rw [EJ]
 exact b
end Go.Proofs.YtkjbdagicjbjjaaGreat

/- Contracts of functions, part 29. -/
import Derived.Test.YtkjbdagicjbjjaaGreatTs28
import Derived.Test.YtkjbdagicjbjjaaGreatTs11
set_option linter.all false
namespace Go.Proofs.YtkjbdagicjbjjaaGreat
noncomputable section
open Go.RowKit
set_option maxRecDepth 100000
set_option maxHeartbeats 1000000
set_option linter.unusedSectionVars false
section
variable {α β:Type} [DecidableEq α] (S:Bc α β) {b:Nat} {w:World} {L:List Th} {ρ:Operand→Value}
theorem Jz (H:Aj b w L) (i:Nat) {g:Nat} {m:List (α×β)} (hi:L[i]?=some (S.th g m)) (a:α) (v:β) (ha:S.ka a) (hv:S.ea v) (o:Oper) {t:TypeId} {x y z:Operand} (ho:o.op=.mapUpdate t x y z) (ht:t=S.t)
  (hx:ρ x=.map (some g)) (f:ρ y=S.kv a) (hz:ρ z=S.ev v) (hm:m.length < 100000000000):∃ w',(execOp ρ o).run Tryz.prog w=.ok .skip w'∧Aj b w' (L.set i (S.th g ((a,v) :: m)))∧Below b w w':=by
 subst ht
 obtain ⟨w',h,h2,c⟩:=S.store (H.all i _ hi) a v ha hv (by unfold maxLen; omega)
 have hl:=(H.lo i _ hi g rfl)
 have e:(execOp ρ o).run Tryz.prog w=.ok .skip w':=by
  unfold execOp
  simp only [ho,hx,f,hz]
  rw [Sem.run_bind,h]
  rfl
 refine ⟨w',e,H.set i hi c.size h2 (fun q d=>?_) (fun q d hf=>c.block q d fun he=>hf (Option.some.inj he)),⟨c.os,c.tape,c.output,c.size,fun q d=>c.block q (Nat.lt_of_lt_of_le d H.base) fun he=>?_⟩⟩
 ·obtain rfl:q=g:=d
  exact ⟨World.ownsMap.lt h2.1,.inl rfl⟩
 have:=Option.some.inj he
 omega
def Bc.thO:Option Nat→List (α×β)→Th
 | none,m=>⟨fun _=>False,fun _=>m=[],fun _ _ h _ _=>h⟩
 | some b,m=>S.th b m
theorem Bc.thO_at {A:Option Nat} {m:List (α×β)} {w:World} (h:(S.thO A m).P w):S.optAt A m w:=by
 cases A with
 | none=>exact h
 | some b=>exact h
end
theorem X8 {P:Program} {f:FuncId} {R:Ending→World→Prop} {n:Nat} {todo:List Item} {E:Nat→Value} {w0 w:World} {M:List A7} {L T:List Th} (K:Wk w0 w M L T) {mem:List A7} (m:List Nat) (hints:List (Nat×Nat×Nat)) (specs:List Sp) (i:Nat)
  (g:∀ e∈mem,e.good w) (d:∀ sp∈specs,FG P n (Below (ε w) w) (AR todo) sp)
  (h:∀ u,Wk w0 u M L T→∃ a,(execOp (A8 n (C5 P n (AR todo) mem hints specs m E)) ((AR todo).getD i default)).run P u=.ok .skip a∧At P f R (AM todo) (Fr n (Aw (C5 P n (AR todo) mem hints specs m E) ((AR todo).getD i default).dst undef)) a)
  (hd:(FL todo).isSome=true:=by kernel_rfl) (hmo:P.follows .mixedOrders=true:=by kernel_rfl)
  (hok:(Ev .any (AR todo) (DU (AR todo) m) (Array.replicate (AR todo).size false) n (EO P n (AR todo) mem hints specs m E) && HM (AR todo) (EO P n (AR todo) mem hints specs m E),m.all (FB P n (AR todo) mem hints specs m E),Nat.beq (m.length + 1) (AR todo).size)=(true,true,true):=by kernel_rfl)
  (hp:∀ X,Jc P n (AR todo) mem hints specs m E X=Hk P n (AR todo) mem hints specs m E:=by intro _; kernel_rfl)
  (hc:(Region.ready .any (AR todo) (m.foldl (fun b i=>b.setIfInBounds i true) (Array.replicate (AR todo).size false)),Nat.blt i (AR todo).size,((AR todo).getD i default).guard,Region.ready .any (AR todo) ((m.foldl (fun b i=>b.setIfInBounds i true) (Array.replicate (AR todo).size false)).setIfInBounds i true))=([i],true,none,[]):=by kernel_rfl):At P f R todo (Fr n E) w:=by
 simp only [Prod.mk.injEq] at hc
 obtain ⟨l,c,k,j⟩:=hc
 refine X9 K m hints specs 1 hd hmo g d hok hp fun u o=>?_
 rw [Nat.blt_eq] at c
 obtain ⟨a,hx,ha⟩:=h u o
 exact MA (fuel:=0) ((AR todo).getD i default) l (by simp [Array.getD,c]) k hx (FN (hr:=j) ⟨rfl,ha.mid⟩)
theorem ABg {γ:Type} {P:Program} {f:FuncId} {R:Ending→World→Prop} {n:Nat} {todo:List Item} {E:Nat→Value} {w0 w:World} {M:List A7} {L T:List Th} (K:Wk w0 w M L T) {mem:List A7} (d j:Nat) (m:List Nat) (a:Nat) (o:Nat→Value) (l:TypeId) (zero:List Value) (hints:List (Nat×Nat×Nat)) (specs:List Sp) (i:Nat) (t:γ→Value) (L':γ→List Th) (ts:List (Nat×Nat×Nat)) (M':Nat→γ→List A7)
  (hM:∀ e∈mem,e.good w) (hS:∀ v,Below (ε w) w v→∀ sp∈specs,FG P n (Below (ε v) v) (Au (AR todo) d j) sp)
  (h:∀ u g,Wk w0 u (M++[⟨g,0,zero,l,true⟩]) L T→∃ x s,(execOp (A8 n (Aw (C5 P n (Au (AR todo) d j) mem hints specs m E) (C3 (Au (AR todo) d j) a) (o g))) ((Au (AR todo) d j).getD i default)).run P u=.ok (.value (t x)) s∧Wk w0 s (M++[⟨g,0,zero,l,true⟩]) (L' x) T)
  (hk:∀ g x z w',Wk w0 w' (M' g x) (L' x) T→At P f R (AM todo) (Fr n (((EE P n (Au (AR todo) d j) ts (Aw (Aw (C5 P n (Au (AR todo) d j) mem hints specs m E) (C3 (Au (AR todo) d j) a) (o g)) ((Au (AR todo) d j).getD i default).dst (t x)) (M++[⟨g,0,zero,l,true⟩]) z).map (·.1)).getD E)) w')
  (hw:P4 .any (AR todo) 4 d j=true:=by kernel_rfl) (hd:(FL todo).isSome=true:=by kernel_rfl) (hmo:P.follows .mixedOrders=true:=by kernel_rfl)
  (hok:(Ev .any (Au (AR todo) d j) (DU (Au (AR todo) d j) (m++[a])) (Array.replicate (Au (AR todo) d j).size false) n (EO P n (Au (AR todo) d j) mem hints specs m E++[Mf w a (Ef (Au (AR todo) d j) m a) o l zero]) && HM (Au (AR todo) d j) (EO P n (Au (AR todo) d j) mem hints specs m E++[Mf w a (Ef (Au (AR todo) d j) m a) o l zero]),m.all (FB P n (Au (AR todo) d j) mem hints specs m E),Nat.beq (m.length + 1 + (ts.length + 1)) (Au (AR todo) d j).size,gO (Au (AR todo) d j) m a)=(true,true,true,true):=by kernel_rfl)
  (hrd:(Region.ready .any (Au (AR todo) d j) ((m++[a]).foldl (fun b i=>b.setIfInBounds i true) (Array.replicate (Au (AR todo) d j).size false)),Nat.blt i (Au (AR todo) d j).size,((Au (AR todo) d j).getD i default).guard,JW (Au (AR todo) d j) .any (((m++[a]).foldl (fun b i=>b.setIfInBounds i true) (Array.replicate (Au (AR todo) d j).size false)).setIfInBounds i true) (ts.map (·.1)))=([i],true,none,true):=by kernel_rfl)
  (ha:∀ z,(Cd P (execOp (A8 n (Ee P n (Au (AR todo) d j) mem hints specs m E a)) ((Au (AR todo) d j).getD a default)) ⟨z,[],(0,0),[]⟩).map (fun r=>(D5 r.1,r.2.mem,r.2.eqs))=some (some (o z),[⟨z,0,zero,l,true⟩],[]):=by intro _; kernel_rfl)
  (hpa:∀ X,((Au (AR todo) d j).getD a default).op.operands.toList.map (NE P n (Au (AR todo) d j) mem hints specs m E X a)=((Au (AR todo) d j).getD a default).op.operands.toList.map (A8 n (Ee P n (Au (AR todo) d j) mem hints specs m E a)):=by intro _; kernel_rfl)
  (hp:∀ X,Jc P n (Au (AR todo) d j) mem hints specs m E X=Hk P n (Au (AR todo) d j) mem hints specs m E:=by intro _; kernel_rfl)
  (ht:∀ g x z,(EE P n (Au (AR todo) d j) ts (Aw (Aw (C5 P n (Au (AR todo) d j) mem hints specs m E) (C3 (Au (AR todo) d j) a) (o g)) ((Au (AR todo) d j).getD i default).dst (t x)) (M++[⟨g,0,zero,l,true⟩]) z).map (fun q=>(q.2.1,q.2.2.2.map Prod.fst))=(EE P n (Au (AR todo) d j) ts (Aw (Aw (C5 P n (Au (AR todo) d j) mem hints specs m E) (C3 (Au (AR todo) d j) a) (o g)) ((Au (AR todo) d j).getD i default).dst (t x)) (M++[⟨g,0,zero,l,true⟩]) z).map (fun q=>(M' g x,q.2.2.2.map Prod.snd)):=by intro _ _ _; kernel_rfl)
  (hs:∀ g x z,(EE P n (Au (AR todo) d j) ts (Aw (Aw (C5 P n (Au (AR todo) d j) mem hints specs m E) (C3 (Au (AR todo) d j) a) (o g)) ((Au (AR todo) d j).getD i default).dst (t x)) (M++[⟨g,0,zero,l,true⟩]) z).isSome=true:=by intro _ _ _; kernel_rfl):At P f R todo (Fr n E) w:=by
 simp only [Prod.mk.injEq] at hrd
 obtain ⟨c1,c2,c3,c4⟩:=hrd
 rw [Nat.blt_eq] at c2
 obtain ⟨ops,k⟩:=Option.isSome_iff_exists.1 hd
 have hr:AR todo=ops:=by
  unfold FL at k
  split at k
  ·obtain rfl:=Option.some.inj k; rfl
  cases k
 rw [hr] at hok hp hpa hk hS ha ht hs h c1 c2 c3 c4 hw
 have a0:(Au ops d j).size=ops.size:=by unfold Au; simp
 refine ER ops (hd:=k) (hm:=hmo) ops.size (hs:=rfl) (P2 hw (fun c a w h=>by cases h.1) _ _ _ _ NF ?_)
 rw [← a0]
 refine (qV K m a o l zero hints specs (ts.length + 1) hM hS hok ha hpa hp fun u g Ku=>?_)
 obtain ⟨x,s,hx,b0⟩:=h u g Ku
 refine Ii (fuel:=ts.length) ((Au ops d j).getD i default) (hr:=c1) (ho:=by simp [Array.getD,c2]) (hg:=c3) hx ?_
 obtain ⟨q,hq⟩:=Option.isSome_iff_exists.1 (hs g x (ε s))
 have p:=ht g x (ε s)
 have y:=hk g x (ε s)
 rw [hq] at p y
 simp only [Option.map_some,Option.some.injEq,Prod.mk.injEq] at p
 exact Ky (P:=P) (n:=n) (ops:=Au ops d j) (L:=L' x) (T:=T) (w0:=w0) (fuel:=0) (Q:=fun e a w=>e=.normal∧H1 P f R (AM todo) a w) ts _ _ _ s b0 (ε s) rfl q hq (Ig p.2) c4 fun w' a K' ha=>⟨rfl,by rw [ha]; rw [p.1] at K'; exact (y w' K').mid⟩
abbrev DP:=Ao×Int×Int
def Ch (u:DP):List Value:=D1 u.1++[δ u.2.1,δ u.2.2]
abbrev CH (A:Option Addr) (c:Nat) (l:List DP):Th:=Th.row 94 7 (fun e r=>r=Ch e) A c l
def Cg (ml:List (Nat×Bool)) (ns:List (Nat×List Nat)) (i:Nat):Bool:=cond (!((AH ml i).getD false)) (!(EH (fun j=>GG j ml) ((AH ns i).getD []))) false
noncomputable def Oe:Code:=Tryz.f78.body.getD .skip
noncomputable def uV:=Al 1 ([.code Oe])
theorem YW (i b h:Nat) (ml:List (Nat×Bool)) (k:Nat) (v:Option Addr) (r s o:Nat) (xs:List NH) (w:World) (a:b < (ε w)) (d:w.rangeAt b 0 [.map (some h)]) (hm:Bc.at EJ h ml w) (f:k < (ε w)) (g:w.rangeAt k 0 [τ v r s,.map (some o)])
  (hn:Bc.at Iz o (xs.map LP) w) (hf:(Hv xs).P w) (hi:i≤4294967296) (hk:∀ j∈(AH (xs.map I1) i).getD [],j≤4294967296) (hl:((AH (xs.map I1) i).getD []).length≤4294967296) :
  Calls Tryz.prog 78 ([δ (i:Int),ζ b,ζ k]:List Value).toArray w fun e w'=>e=.returned (ξ (Cg ml (xs.map I1) i))∧Below (ε w) w w':=by
 refine Ia (args:=[δ (i:Int),ζ b,ζ k]) (fn:=Tryz.f78) (c:=Oe) (n:=18) ?_
 obtain ⟨A,c,hv,hr⟩:=wS hf i
 generalize hls:(AH (xs.map I1) i).getD []=l at hv hr hk hl
 refine Cn (KA 1 90 ([.code Oe])) ([.code Oe]) (ε w) [] [] uV [(0,δ (i:Int)),(1,ζ b),(2,ζ k)] (ε w) [] (CW w) fun w1 E1 a0 z=>?_
 have B:Below (ε w) w w1:=Ce z
 have G:∀ e∈([⟨b,0,[.map (some h)],76,false⟩,⟨k,0,[τ v r s,.map (some o)],131,false⟩]:List A7),e.good w1:=fun e he=>by
  simp only [List.mem_cons,List.not_mem_nil,or_false] at he
  rcases he with rfl | rfl
  ·exact ⟨Nat.lt_of_lt_of_le a B.size,Ag d a B⟩
  exact ⟨Nat.lt_of_lt_of_le f B.size,Ag g f B⟩
 refine Ib ((FY uV).getD #[]) ⟨[⟨b,0,[.map (some h)],76,false⟩,⟨k,0,[τ v r s,.map (some o)],131,false⟩],[(0,0,0),(6,1,1)],[⟨2,[(5,.map (some h)),(6,δ (i:Int))],ξ ((AH ml i).getD false),true⟩,⟨8,[(11,.map (some o)),(12,δ (i:Int))],τ A l.length c,(!((AH ml i).getD false)) && true⟩,⟨10,[(13,τ A l.length c),(14,.func (.func 80) #[] ⟨[ζ b]⟩)],ξ (EH (fun j=>GG j ml) l),(!((AH ml i).getD false)) && true⟩]⟩
  [(4,ξ (cond (!((AH ml i).getD false)) (!(EH (fun j=>GG j ml) l)) false))] (by kernel_rfl) (by kernel_rfl) (by kernel_rfl) G (fun sp p=>?_) (fun X=>by kernel_rfl) (by kernel_rfl) fun w2 E2 b2=>?_
 ·simp only [List.mem_cons,List.not_mem_nil,or_false] at p
  rcases p with rfl | rfl | rfl
  ·exact BQ fun _ E u bu=>F7 EJ (t:=76) (x:=.tmp 5) (y:=.tmp 6) (by kernel_rfl) rfl (b:=h) (m:=ml) (by kernel_rfl) i (by kernel_rfl) hi (Bc.below hm (B.trans (bu.mono B.size)))
  ·exact BQ fun _ E u bu=>(F7 Iz (t:=129) (x:=.tmp 11) (y:=.tmp 12) (by kernel_rfl) rfl (b:=o) (m:=xs.map LP) (by kernel_rfl) i (by kernel_rfl) hi (Bc.below hn (B.trans (bu.mono B.size)))).trans (by
    show Result.ok (Next.value (Iz.ev ((AH (xs.map LP) i).getD (none,0,0)))) u=_
    rw [hv]
    rfl)
  exact AY 79 [.tmp 13,.tmp 14] _ (fun _=>by kernel_rfl) fun hc u hu=>AQ hu (RW (fun j=>GG j ml) A l c 80 [ζ b] u (Cl.below hr (B.trans (hu.mono B.size))) hl (by kernel_rfl) (fun u2 q j hj=>by
   have Bu:Below (ε w) w u2:=(B.trans (hu.mono B.size)).trans (q.mono (B.trans (hu.mono B.size)).size)
   exact YV j b h ml u2 (Nat.lt_of_lt_of_le a Bu.size) (Ag d a Bu) (Bc.below hm Bu) (hk j hj)))
 replace B:=B.trans (b2.mono B.size)
 exact FM (fn:=Tryz.f78) 60 (ξ (cond (!((AH ml i).getD false)) (!(EH (fun j=>GG j ml) l)) false)) fun wz Bz=>⟨by unfold Cg; rw [hls],B.trans (Bz.mono B.size)⟩
theorem LO {F:Nat→Bool}:∀ (es:List Nat) (i:Nat) (a:Int),CD F es i a < (i + es.length:Nat)∧(CD F es i a=-1∨0≤CD F es i a)
 | [],i,a=>by rw [CD]; exact ⟨by omega,.inl rfl⟩
 | e :: es,i,a=>by
  rw [CD,List.length_cons]
  cases F e
  ·show CD F es (i + 1) a < _∧_
   have:=LO (F:=F) es (i + 1) a
   exact ⟨by have:=this.1; omega,this.2⟩
  exact ⟨by show (i:Int) < _; omega,.inr (by show (0:Int)≤i; omega)⟩
theorem Hj {F:Nat→Bool} {ds:List Nat} (h:decide (Br F ds < 0)=false):Br F ds=((Br F ds).toNat:Int)∧(Br F ds).toNat < ds.length:=by
 have b:=of_decide_eq_false h
 have a:Br F ds < (0 + ds.length:Nat):=(LO (F:=F) ds 0 0).1
 omega
theorem hJ {α β:Type} [DecidableEq α] (S:Bc α β) {ops:Array Oper} {Q:Exit→Act→World→Prop} {md:Region.Mode} {n:Nat} {E:Nat→Value} {b:Nat} {L:List Th} {w:World} {c:Array Bool} {fuel j:Nat} (H:Aj b w L) (i:Nat) {g:Nat} {m:List (α×β)} (hi:L[i]?=some (S.th g m)) (a:α) (v:β) (ha:S.ka a) (hv:S.ea v)
  (o:Oper) (hr:Region.ready md ops c=[j]) (h:ops[j]?=some o) (k:o.guard=none) {t:TypeId} {x y z:Operand} (ho:o.op=.mapUpdate t x y z) (ht:t=S.t) (hx:A8 n E x=.map (some g)) (l:A8 n E y=S.kv a) (hz:A8 n E z=S.ev v) (hm:m.length < 100000000000)
  (p:∀ w',Aj b w' (L.set i (S.th g ((a,v) :: m)))→Below b w w'→wpAny Tryz.prog md ops Q fuel (c.setIfInBounds j true) (Fr n (Aw E o.dst undef)) w'):wpAny Tryz.prog md ops Q (fuel + 1) c (Fr n E) w:=by
 subst ht
 obtain ⟨w',r,h2,d⟩:=S.store (H.all i _ hi) a v ha hv (by unfold maxLen; omega)
 have hl:=(H.lo i _ hi g rfl)
 have f:(execOp (A8 n E) o).run Tryz.prog w=.ok .skip w':=by
  unfold execOp
  simp only [ho,hx,l,hz]
  rw [Sem.run_bind,r]
  rfl
 refine MA o hr h k f (p w' (H.set i hi d.size h2 (fun q e=>?_) (fun q e hf=>d.block q e fun he=>hf (Option.some.inj he))) ⟨d.os,d.tape,d.output,d.size,fun q e=>d.block q (Nat.lt_of_lt_of_le e H.base) fun he=>?_⟩)
 ·obtain rfl:q=g:=e
  exact ⟨World.ownsMap.lt h2.1,.inl rfl⟩
 have:=Option.some.inj he
 omega
def D9 (nodes:List Nat) (ns:List (Nat×List Nat)):Nat→List Nat→List (Nat×Bool)→List Nat×Int
 | 0,r,_=>(r,0)
 | k + 1,r,ml=>cond (decide ((r.length:Int) < (nodes.length:Int))) (cond (decide (Br (Cg ml ns) nodes < 0)) ([],11) (D9 nodes ns k (r++[nodes.getD (Br (Cg ml ns) nodes).toNat default]) ((nodes.getD (Br (Cg ml ns) nodes).toNat default,true) :: ml))) (r,0)
def Ey (nodes:List Nat) (ns:List (Nat×List Nat)):List Nat×Int:=D9 nodes ns (nodes.length + 1) [] []
def gF:Value→Nat
 | .slice _ n _=>n
 | _=>0
noncomputable def L8:Code:=Tryz.f53.body.getD .skip
def UD:=AA (An ES 90 ([.code L8])) ([.code L8])
def UC:=Ω UD
def eW:=ν (Ar UC)
def eV:=Ξ eW
def UB:=Ω eV
def OK:=Al 7 (AF UB)
def R4:Array Oper:=(FY OK).getD #[]
def wj:Wr:=[(20,0),(22,2),(23,3),(24,4),(25,5)]
def Qs:=AA (An Ae 90 (AM OK)) (AM OK)
def eU:=AA (An Bp 90 (AC (AC Qs))) (AC (AC Qs))
theorem mC (q:Option Addr) (nodes:List Nat) (d m:Nat) (xs:List NH) (w:World) (a0:rowsNat w q nodes) (hl:nodes.length≤4294967296) (hn:Bc.at Iz m (xs.map LP) w) (hf:(Hv xs).P w) (i0:∀ j∈nodes,j≤4294967296)
  (b0:∀ i,(∀ j∈(AH (xs.map I1) i).getD [],j≤4294967296)∧((AH (xs.map I1) i).getD []).length≤4294967296) :
  Calls Tryz.prog 53 ([ψ [τ q nodes.length d,.map (some m)]]:List Value).toArray w fun e w'=>∃ (c1:Option Addr) (b1:Nat),e=.returned (.tuple #[τ c1 (Ey nodes (xs.map I1)).1.length b1,δ (Ey nodes (xs.map I1)).2])∧Below (ε w) w w'∧Aj (ε w) w' [BS c1 b1 (Ey nodes (xs.map I1)).1]:=by
 refine Ia (args:=[ψ [τ q nodes.length d,.map (some m)]]) (fn:=Tryz.f53) (c:=L8) (n:=35) ?_
 have B:Below (ε w) w w:=Below.refl _ _
 have H:Aj (ε w) w (List.map Th.ent []++[]):=Aj.nil (Nat.le_refl _)
 generalize hns:xs.map I1=ns at b0
 refine Cn (An ES 90 ([.code L8])) ([.code L8]) (ε w) [] [] UD [(1,ζ (ε w)),(4,τ none 0 0)] (ε w + 1) [ι (ε w) [τ q nodes.length d,.map (some m)] 131] (H.lies (M:=[])) fun a E1 r1 l1=>?_
 replace B:=B.trans (H.keptB (M:=[]) l1)
 replace H:Aj (ε w) a (List.map Th.ent [ι (ε w) [τ q nodes.length d,.map (some m)] 131]++[]):=H.run (M:=[]) (M':=[ι (ε w) [τ q nodes.length d,.map (some m)] 131]) r1 l1 rfl
 refine FV EJ H (CL UD) (by kernel_rfl) (t:=76) (by kernel_rfl) fun f Z2 Hn b2=>?_
 replace H:Aj (ε w) f (List.map Th.ent [ι (ε w) [τ q nodes.length d,.map (some m)] 131]++[Bc.th EJ (ε a) []]):=Hn
 clear Hn
 replace B:=B.trans b2
 refine Cn 60 (AC UD) (ε f) _ [(1,0)] UC [(1,ζ (ε w)),(4,τ none 0 0),(5,ζ (ε f))] (ε f + 1) [ι (ε w) [τ q nodes.length d,.map (some m)] 131,ι (ε f) [.map (some (ε a))] 76] (H.lies (M:=[ι (ε w) [τ q nodes.length d,.map (some m)] 131])) fun w3 E3 q1 k1=>?_
 replace B:=B.trans (H.keptB (M:=[ι (ε w) [τ q nodes.length d,.map (some m)] 131]) k1)
 replace H:Aj (ε w) w3 (List.map Th.ent [ι (ε w) [τ q nodes.length d,.map (some m)] 131,ι (ε f) [.map (some (ε a))] 76]++[Bc.th EJ (ε a) []]):=H.run (M:=[ι (ε w) [τ q nodes.length d,.map (some m)] 131]) (M':=[ι (ε w) [τ q nodes.length d,.map (some m)] 131,ι (ε f) [.map (some (ε a))] 76]) q1 k1 rfl
 replace H:Aj (ε w) w3 (List.map Th.ent [ι (ε w) [τ q nodes.length d,.map (some m)] 131,ι (ε f) [.map (some (ε a))] 76]++[Bc.th EJ (ε a) [],BS none 0 []]):=H.addNil 3 1 (fun e r=>r=Fw e)
 refine Bo (by kernel_rfl) (fun E wx=>∃ (r:List Nat) (ml:List (Nat×Bool)) (A:Option Addr) (c:Nat) (E0:Nat→Value),E=BE E0 [(1,ζ (ε w)),(4,τ A r.length c),(5,ζ (ε f))]∧Ey nodes ns=D9 nodes ns (nodes.length + 1 - r.length) r ml∧r.length≤nodes.length∧ml.length=r.length∧Below (ε w) w wx∧Aj (ε w) wx (List.map Th.ent [ι (ε w) [τ q nodes.length d,.map (some m)] 131,ι (ε f) [.map (some (ε a))] 76]++[Bc.th EJ (ε a) ml,BS A c r])) (fun E _=>nodes.length - gF (E 4)) ⟨[],[],none,0,E3,rfl,rfl,Nat.zero_le _,rfl,B,H⟩ ?_
 rintro E wx ⟨r,ml,A,c,E0,rfl,hv,x1,z1,B,H⟩ h0
 refine Cn 60 (Ar UC) (ε wx) _ [(0,0)] eW [(1,ζ (ε w)),(4,τ A r.length c),(5,ζ (ε f)),(13,ξ (decide ((r.length:Int) < (nodes.length:Int))))] (ε wx) [ι (ε w) [τ q nodes.length d,.map (some m)] 131,ι (ε f) [.map (some (ε a))] 76] (H.lies (M:=[ι (ε w) [τ q nodes.length d,.map (some m)] 131,ι (ε f) [.map (some (ε a))] 76])) fun w4 i2 i1 m0=>?_
 replace B:=B.trans (H.keptB (M:=[ι (ε w) [τ q nodes.length d,.map (some m)] 131,ι (ε f) [.map (some (ε a))] 76]) m0)
 replace H:Aj (ε w) w4 (List.map Th.ent [ι (ε w) [τ q nodes.length d,.map (some m)] 131,ι (ε f) [.map (some (ε a))] 76]++[Bc.th EJ (ε a) ml,BS A c r]):=H.run (M:=[ι (ε w) [τ q nodes.length d,.map (some m)] 131,ι (ε f) [.map (some (ε a))] 76]) (M':=[ι (ε w) [τ q nodes.length d,.map (some m)] 131,ι (ε f) [.map (some (ε a))] 76]) i1 m0 rfl
 refine Du (decide ((r.length:Int) < (nodes.length:Int))) (fun c5=>?_) (fun c5=>?_)
 ·have a2:r.length < nodes.length:=by have:=of_decide_eq_true c5; omega
  rw [show nodes.length + 1 - r.length=(nodes.length - r.length) + 1 by omega,D9,c5] at hv
  change Ey nodes ns=cond (decide (Br (Cg ml ns) nodes < 0)) _ _ at hv
  refine Cn 60 (AD eW) (ε w4) _ [(0,0)] eV [(1,ζ (ε w)),(4,τ A r.length c),(5,ζ (ε f)),(15,τ q nodes.length d),(16,.func (.func 78) #[] ⟨[ζ (ε f),ζ (ε w)]⟩)] (ε w4) [ι (ε w) [τ q nodes.length d,.map (some m)] 131,ι (ε f) [.map (some (ε a))] 76] (H.lies (M:=[ι (ε w) [τ q nodes.length d,.map (some m)] 131,ι (ε f) [.map (some (ε a))] 76])) fun w5 g2 h1 l0=>?_
  replace B:=B.trans (H.keptB (M:=[ι (ε w) [τ q nodes.length d,.map (some m)] 131,ι (ε f) [.map (some (ε a))] 76]) l0)
  replace H:Aj (ε w) w5 (List.map Th.ent [ι (ε w) [τ q nodes.length d,.map (some m)] 131,ι (ε f) [.map (some (ε a))] 76]++[Bc.th EJ (ε a) ml,BS A c r]):=H.run (M:=[ι (ε w) [τ q nodes.length d,.map (some m)] 131,ι (ε f) [.map (some (ε a))] 76]) (M':=[ι (ε w) [τ q nodes.length d,.map (some m)] 131,ι (ε f) [.map (some (ε a))] 76]) h1 l0 rfl
  have G:=H.goods (M:=[ι (ε w) [τ q nodes.length d,.map (some m)] 131,ι (ε f) [.map (some (ε a))] 76])
  have v0:=G _ (List.mem_of_getElem? (i:=0) rfl)
  have t0:=G _ (List.mem_of_getElem? (i:=1) rfl)
  have p1:Bc.at EJ (ε a) ml w5:=H.all 2 _ rfl
  refine L9 77 [.tmp 15,.tmp 16] (some 17) [τ q nodes.length d,.func (.func 78) #[] ⟨[ζ (ε f),ζ (ε w)]⟩] (by kernel_rfl) (by kernel_rfl) (by kernel_rfl) ((Np (Cg ml ns) q nodes d 78 [ζ (ε f),ζ (ε w)] w5 (Cl.below a0 B) hl (by kernel_rfl) (fun u b e he=>by
   have Bu:=B.trans (b.mono B.size)
   rw [← hns]
   exact YW e (ε f) (ε a) ml (ε w) q nodes.length d m xs u (Nat.lt_of_lt_of_le t0.1 b.size) (Ag (Gn t0) t0.1 b) (Bc.below p1 b) (Nat.lt_of_lt_of_le v0.1 b.size) (Ag (Gn v0) v0.1 b) (Bc.below hn Bu) ((Hv xs).fr w u hf Bu.size (fun k _ hk=>Bu.block k hk)) (i0 e he) (by rw [hns]; exact (b0 e).1) (by rw [hns]; exact (b0 e).2))).mono fun en w6 hh=>?_)
  obtain ⟨rfl,b6⟩:=hh
  refine ⟨_,rfl,?_⟩
  replace B:=B.trans (b6.mono B.size)
  replace H:Aj (ε w) w6 (List.map Th.ent [ι (ε w) [τ q nodes.length d,.map (some m)] 131,ι (ε f) [.map (some (ε a))] 76]++[Bc.th EJ (ε a) ml,BS A c r]):=H.below b6
  refine Cn 60 (AC eV) (ε w6) _ [] UB [(1,ζ (ε w)),(4,τ A r.length c),(5,ζ (ε f)),(6,δ (Br (Cg ml ns) nodes)),(19,ξ (decide (Br (Cg ml ns) nodes < 0)))] (ε w6) [ι (ε w) [τ q nodes.length d,.map (some m)] 131,ι (ε f) [.map (some (ε a))] 76] (H.lies (M:=[ι (ε w) [τ q nodes.length d,.map (some m)] 131,ι (ε f) [.map (some (ε a))] 76])) fun w7 e2 g1 k0=>?_
  replace B:=B.trans (H.keptB (M:=[ι (ε w) [τ q nodes.length d,.map (some m)] 131,ι (ε f) [.map (some (ε a))] 76]) k0)
  replace H:Aj (ε w) w7 (List.map Th.ent [ι (ε w) [τ q nodes.length d,.map (some m)] 131,ι (ε f) [.map (some (ε a))] 76]++[Bc.th EJ (ε a) ml,BS A c r]):=H.run (M:=[ι (ε w) [τ q nodes.length d,.map (some m)] 131,ι (ε f) [.map (some (ε a))] 76]) (M':=[ι (ε w) [τ q nodes.length d,.map (some m)] 131,ι (ε f) [.map (some (ε a))] 76]) g1 k0 rfl
  refine Du (decide (Br (Cg ml ns) nodes < 0)) (fun c8=>?_) (fun c8=>?_)
  ·rw [c8] at hv
   change Ey nodes ns=([],11) at hv
   replace H:=H.addNil 3 1 (fun e r=>r=Fw e)
   refine FM (fn:=Tryz.f53) 60 (.tuple #[τ none 0 0,δ 11]) fun wz Bz=>⟨none,0,by rw [hv] <;> rfl,B.trans (Bz.mono B.size),?_⟩
   rw [hv]
   exact (H.below Bz).pick [4] rfl (by decide)
  rw [c8] at hv
  have c0:=Hj c8
  change Ey nodes ns=D9 nodes ns (nodes.length - r.length) (r++[nodes.getD (Br (Cg ml ns) nodes).toNat default]) ((nodes.getD (Br (Cg ml ns) nodes).toNat default,true) :: ml) at hv
  rw [c0.1]
  have hd:=getD_some default c0.2
  have r0:=DR (l:=nodes) c0.2
  generalize (Br (Cg ml ns) nodes).toNat=ix at hv c0 hd r0 ⊢
  generalize nodes.getD ix default=x at hv hd r0
  obtain ⟨o,p,rfl,s0,e1⟩:=a0.all (Nat.lt_of_le_of_lt (Nat.zero_le _) c0.2)
  refine Cn (KA 7 90 (AF UB)) (AF UB) (ε w7) _ [] OK [(1,ζ (ε w)),(4,τ A r.length c),(5,ζ (ε f)),(6,δ (ix:Int))] (ε w7) [ι (ε w) [τ (some ⟨o,p,none⟩) nodes.length d,.map (some m)] 131,ι (ε f) [.map (some (ε a))] 76] (H.lies (M:=[ι (ε w) [τ (some ⟨o,p,none⟩) nodes.length d,.map (some m)] 131,ι (ε f) [.map (some (ε a))] 76])) fun w8 d2 f1 j0=>?_
  replace B:=B.trans (H.keptB (M:=[ι (ε w) [τ (some ⟨o,p,none⟩) nodes.length d,.map (some m)] 131,ι (ε f) [.map (some (ε a))] 76]) j0)
  replace H:Aj (ε w) w8 (List.map Th.ent [ι (ε w) [τ (some ⟨o,p,none⟩) nodes.length d,.map (some m)] 131,ι (ε f) [.map (some (ε a))] 76]++[Bc.th EJ (ε a) ml,BS A c r]):=H.run (M:=[ι (ε w) [τ (some ⟨o,p,none⟩) nodes.length d,.map (some m)] 131,ι (ε f) [.map (some (ε a))] 76]) (M':=[ι (ε w) [τ (some ⟨o,p,none⟩) nodes.length d,.map (some m)] 131,ι (ε f) [.map (some (ε a))] 76]) f1 j0 rfl
  have G:=H.goods (M:=[ι (ε w) [τ (some ⟨o,p,none⟩) nodes.length d,.map (some m)] 131,ι (ε f) [.map (some (ε a))] 76])
  refine ER R4 7 ?_
  refine Gh (i:=1) (v:=ζ (ε w)) (R4.getD 1 default) (fun _ _ _ h=>nomatch h.1) ?_
  refine D8 (md:=.any) (fuel:=1) (L:=[Bd 0 [] (.map (some (ε a))),Bd 2 [] (τ (some ⟨o,p,none⟩) nodes.length d),Bd 3 [] (δ (ix:Int)),Bd 4 [2,3] (.pointer (some ⟨o,p + ix * 1,none⟩)),Bd 5 [2,3,4] (δ (x:Int))]) (W:=wj) (C:=fun u=>Below (ε w8) w8 u) (Ext:=Fx) (Below.refl _ _).drew Fx.refl (fun _ _ _=>Fx.trans) ⟨?_,?_,?_,?_,?_,trivial⟩ rfl ?_
  ·refine ⟨fun _ _ _ _ _ h=>h,fun vals u hu hb=>?_⟩
   exact AN.knownE [] trivial (AN.reads ⟨0,[ι (ε w) [τ (some ⟨o,p,none⟩) nodes.length d,.map (some m)] 131,ι (ε f) [.map (some (ε a))] 76],(1,0),[]⟩ (CQ G hu) (.map (some (ε a))) ⟨hu,.refl _,rfl⟩)
  ·refine ⟨fun _ _ _ _ _ h=>h,fun vals u hu hb=>?_⟩
   exact AN.knownE [] trivial (AN.reads ⟨0,[ι (ε w) [τ (some ⟨o,p,none⟩) nodes.length d,.map (some m)] 131,ι (ε f) [.map (some (ε a))] 76],(0,0),[]⟩ (CQ G hu) (τ (some ⟨o,p,none⟩) nodes.length d) ⟨hu,.refl _,rfl⟩)
  ·refine ⟨fun _ _ _ _ _ h=>h,fun vals u hu hb=>?_⟩
   exact AN.knownE [] trivial (AN.reads ⟨0,[],(0,0),[]⟩ (fun e he=>by cases he) (δ (ix:Int)) ⟨hu,.refl _,rfl⟩)
  ·refine ⟨fun _ _ _ _ _ h=>h,fun vals u hu hb=>?_⟩
   obtain ⟨h2,h3,_⟩:=hb
   exact AN.knownE [(22,2,τ (some ⟨o,p,none⟩) nodes.length d),(23,3,δ (ix:Int))] ⟨(List.cons.inj h2).1,(List.cons.inj h3).1,trivial⟩ (AN.value (CE (sz:=1) (cap:=d) 22 (.tmp 22) (.tmp 23) (hx:=rfl) (hi:=rfl) c0.2 Tryz.underlying22) ⟨hu,.refl _,rfl⟩)
  ·refine ⟨fun _ _ _ _ _ h=>h,fun vals u hu hb=>?_⟩
   obtain ⟨h2,h3,h4,_⟩:=hb
   have Bu:=B.trans (hu.mono B.size)
   exact AN.knownE [(24,4,.pointer (some ⟨o,p + ix * 1,none⟩))] ⟨(List.cons.inj h4).1,trivial⟩ (AN.reads ⟨0,[⟨o,p + ix * 1,[δ (x:Int)],3,false⟩],(0,0),[]⟩ (fun e he=>by rw [List.mem_singleton.1 he]; exact ⟨Nat.lt_of_lt_of_le s0 Bu.size,Ag (e1 ix x hd) s0 Bu⟩) (δ (x:Int)) ⟨hu,.refl _,rfl⟩)
  intro vals w9 b9 _ d1
  replace b9:Below (ε w8) w8 w9:=b9
  obtain ⟨x0,x2,x3,x4,x5,_⟩:=d1
  replace B:=B.trans (b9.mono B.size)
  replace H:Aj (ε w) w9 (List.map Th.ent [ι (ε w) [τ (some ⟨o,p,none⟩) nodes.length d,.map (some m)] 131,ι (ε f) [.map (some (ε a))] 76]++[Bc.th EJ (ε a) ml,BS A c r]):=H.below b9
  refine Bs [(1,ζ (ε w)),(4,τ A r.length c),(5,ζ (ε f)),(6,δ (ix:Int)),(20,vals 0),(25,vals 5)] fun E9=>?_
  rw [show vals 0=.map (some (ε a)) from (List.cons.inj x0).1,show vals 5=δ (x:Int) from (List.cons.inj x5).1]
  refine hJ EJ H 2 rfl x true (i0 x r0) trivial (j:=6) (R4.getD 6 default) (by kernel_rfl) (by kernel_rfl) (by kernel_rfl) (t:=76) (x:=.tmp 20) (y:=.tmp 25) (z:=.const (ξ true)) (by kernel_rfl) rfl rfl rfl rfl (by omega) fun q0 Hn t1=>?_
  replace H:Aj (ε w) q0 (List.map Th.ent [ι (ε w) [τ (some ⟨o,p,none⟩) nodes.length d,.map (some m)] 131,ι (ε f) [.map (some (ε a))] 76]++[Bc.th EJ (ε a) ((x,true) :: ml),BS A c r]):=Hn
  clear Hn
  replace B:=B.trans t1
  refine FN ⟨rfl,At.mid ?_⟩
  refine Cn (An Ae 90 (AM OK)) (AM OK) (ε q0) _ [(0,0)] Qs [(1,ζ (ε w)),(4,τ A r.length c),(5,ζ (ε f)),(26,τ A r.length c),(28,τ (some ⟨o,p,none⟩) nodes.length d),(29,δ (ix:Int))] (ε q0) [ι (ε w) [τ (some ⟨o,p,none⟩) nodes.length d,.map (some m)] 131,ι (ε f) [.map (some (ε a))] 76] (H.lies (M:=[ι (ε w) [τ (some ⟨o,p,none⟩) nodes.length d,.map (some m)] 131,ι (ε f) [.map (some (ε a))] 76])) fun s v1 a1 g0=>?_
  replace B:=B.trans (H.keptB (M:=[ι (ε w) [τ (some ⟨o,p,none⟩) nodes.length d,.map (some m)] 131,ι (ε f) [.map (some (ε a))] 76]) g0)
  replace H:Aj (ε w) s (List.map Th.ent [ι (ε w) [τ (some ⟨o,p,none⟩) nodes.length d,.map (some m)] 131,ι (ε f) [.map (some (ε a))] 76]++[Bc.th EJ (ε a) ((x,true) :: ml),BS A c r]):=H.run (M:=[ι (ε w) [τ (some ⟨o,p,none⟩) nodes.length d,.map (some m)] 131,ι (ε f) [.map (some (ε a))] 76]) (M':=[ι (ε w) [τ (some ⟨o,p,none⟩) nodes.length d,.map (some m)] 131,ι (ε f) [.map (some (ε a))] 76]) a1 g0 rfl
  refine Ay (g:=o) (off:=p) (cap:=d) (sz:=1) (k:=ix) (len:=nodes.length) (some 30) c0.2 Tryz.underlying22 ?_
  refine Dz 3 o (p + ix * 1) (δ (x:Int)) (some 31) (by simpa using Ag (e1 ix x hd) s0 B 0 _ rfl) ?_
  refine Cn (An Bp 90 (AC (AC Qs))) (AC (AC Qs)) (ε s) _ [] eU [(1,ζ (ε w)),(5,ζ (ε f)),(26,τ A r.length c),(32,τ (some ⟨ε s,0,none⟩) 1 1)] (ε s + 1) [ι (ε w) [τ (some ⟨o,p,none⟩) nodes.length d,.map (some m)] 131,ι (ε f) [.map (some (ε a))] 76,ι (ε s) [δ (x:Int)] 3] (H.lies (M:=[ι (ε w) [τ (some ⟨o,p,none⟩) nodes.length d,.map (some m)] 131,ι (ε f) [.map (some (ε a))] 76])) fun o1 u1 z0 e0=>?_
  replace B:=B.trans (H.keptB (M:=[ι (ε w) [τ (some ⟨o,p,none⟩) nodes.length d,.map (some m)] 131,ι (ε f) [.map (some (ε a))] 76]) e0)
  replace H:Aj (ε w) o1 (List.map Th.ent [ι (ε w) [τ (some ⟨o,p,none⟩) nodes.length d,.map (some m)] 131,ι (ε f) [.map (some (ε a))] 76,ι (ε s) [δ (x:Int)] 3]++[Bc.th EJ (ε a) ((x,true) :: ml),BS A c r]):=H.run (M:=[ι (ε w) [τ (some ⟨o,p,none⟩) nodes.length d,.map (some m)] 131,ι (ε f) [.map (some (ε a))] 76]) (M':=[ι (ε w) [τ (some ⟨o,p,none⟩) nodes.length d,.map (some m)] 131,ι (ε f) [.map (some (ε a))] 76,ι (ε s) [δ (x:Int)] 3]) z0 e0 rfl
  have G3:=H.goods (M:=[ι (ε w) [τ (some ⟨o,p,none⟩) nodes.length d,.map (some m)] 131,ι (ε f) [.map (some (ε a))] 76,ι (ε s) [δ (x:Int)] 3])
  refine Cw H 4 rfl x [δ (x:Int)] rfl (ε s) (G3 _ (List.mem_of_getElem? (i:=2) rfl)) (CL eU) (by kernel_rfl) (.tmp 26) (.tmp 32) 22 (by kernel_rfl) (by kernel_rfl) (by kernel_rfl) (by decide) (by kernel_rfl) (by kernel_rfl) rfl rfl (by ((try simp only [maxLen,List.length_map,List.length_append,List.length_cons,List.length_nil,List.length_singleton]) <;> omega)) fun A2 c2 p0 Hn s1=>?_
  replace H:Aj (ε w) p0 (List.map Th.ent [ι (ε w) [τ (some ⟨o,p,none⟩) nodes.length d,.map (some m)] 131,ι (ε f) [.map (some (ε a))] 76]++[Bc.th EJ (ε a) ((x,true) :: ml),BS A2 c2 (r++[x])]):=Hn.pick [0,1,3,4] rfl (by decide)
  clear Hn
  replace B:=B.trans s1
  refine Cn 60 (AC eU) (ε p0) _ [] (AZ UC) [(1,ζ (ε w)),(4,τ A2 (r++[x]).length c2),(5,ζ (ε f))] (ε p0) [ι (ε w) [τ (some ⟨o,p,none⟩) nodes.length d,.map (some m)] 131,ι (ε f) [.map (some (ε a))] 76] (H.lies (M:=[ι (ε w) [τ (some ⟨o,p,none⟩) nodes.length d,.map (some m)] 131,ι (ε f) [.map (some (ε a))] 76])) fun n1 m1 w0 d0=>?_
  replace B:=B.trans (H.keptB (M:=[ι (ε w) [τ (some ⟨o,p,none⟩) nodes.length d,.map (some m)] 131,ι (ε f) [.map (some (ε a))] 76]) d0)
  replace H:Aj (ε w) n1 (List.map Th.ent [ι (ε w) [τ (some ⟨o,p,none⟩) nodes.length d,.map (some m)] 131,ι (ε f) [.map (some (ε a))] 76]++[Bc.th EJ (ε a) ((x,true) :: ml),BS A2 c2 (r++[x])]):=H.run (M:=[ι (ε w) [τ (some ⟨o,p,none⟩) nodes.length d,.map (some m)] 131,ι (ε f) [.map (some (ε a))] 76]) (M':=[ι (ε w) [τ (some ⟨o,p,none⟩) nodes.length d,.map (some m)] 131,ι (ε f) [.map (some (ε a))] 76]) w0 d0 rfl
  refine h0 _ _ ⟨r++[x],(x,true) :: ml,A2,c2,m1,rfl,by rw [hv,List.length_append,List.length_singleton,show nodes.length + 1 - (r.length + 1)=nodes.length - r.length by omega],by ((try simp only [maxLen,List.length_map,List.length_append,List.length_cons,List.length_nil,List.length_singleton]) <;> omega),by ((try simp only [maxLen,List.length_map,List.length_append,List.length_cons,List.length_nil,List.length_singleton]) <;> omega),B,H⟩ ?_
  show nodes.length - gF (τ A2 (r++[x]).length c2) < nodes.length - gF (τ A r.length c)
  simp only [gF,List.length_append,List.length_singleton]
  omega
 rw [show nodes.length + 1 - r.length=(nodes.length - r.length) + 1 by omega,D9,c5] at hv
 change Ey nodes ns=(r,0) at hv
 refine FM (fn:=Tryz.f53) 60 (.tuple #[τ A r.length c,δ 0]) fun wz Bz=>⟨A,c,by rw [hv] <;> rfl,B.trans (Bz.mono B.size),?_⟩
 rw [hv]
 exact (H.below Bz).pick [3] rfl (by decide)
end
end Go.Proofs.YtkjbdagicjbjjaaGreat

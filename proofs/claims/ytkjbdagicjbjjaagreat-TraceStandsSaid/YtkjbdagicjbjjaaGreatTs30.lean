/- Contracts of functions, part 30. -/
import Derived.Test.YtkjbdagicjbjjaaGreatTs29
set_option linter.all false
namespace Go.Proofs.YtkjbdagicjbjjaaGreat
noncomputable section
open Go.RowKit
set_option maxRecDepth 100000
set_option maxHeartbeats 1000000
def LA (ds:List Df) (l:List Nat):Prop:=(∀ j∈l,j < ds.length)∧l.length≤1000000
theorem Kc {ds:List Df} {act:List Nat} (c:∀ i∈act,i < ds.length):∀ (es:List Ex) (a:Int) (r:List Nat),(∀ j∈r,j < ds.length)→(∀ j∈(Cc ds act es a r).1,j < ds.length)∧(Cc ds act es a r).1.length≤r.length + es.length
 | [],a,r,h=>by
  rw [Cc]
  exact ⟨fun j b=>h j (Si.1 (Nz b)),by have:=N0 (GN r); rw [LI] at this; simpa using this⟩
 | e :: es,a,r,h=>by
  rw [Cc,List.length_cons]
  cases hm:!(Aq ds act e).2
  ·simp only [cond_false]
   cases Ac (ds.getD (Aq ds act e).1 default)
   ·have:=Kc c es a r h
    exact ⟨this.1,by have:=this.2; simp only [cond_false]; omega⟩
   have:=Kc c es a (r++[(Aq ds act e).1]) (fun j b=>by
    rcases List.mem_append.1 b with b | b
    ·exact h j b
    rw [List.mem_singleton.1 b]; exact Jy c hm)
   rw [List.length_append,List.length_singleton] at this
   exact ⟨this.1,by have:=this.2; simp only [cond_true]; omega⟩
  exact ⟨fun j b=>(by cases b),Nat.zero_le _⟩
theorem Sz {ds:List Df} {act:List Nat} {i:Nat} (a:∀ i∈act,i < ds.length) (hi:i < ds.length) (hn:∀ d∈ds,nE d.body≤1000000):LA ds (CI ds act i).1:=by
 have h:=Kc a (BZ [] ((ds.getD i default).body)) 0 [] (fun j b=>by cases b)
 have c:=Q0 (ds.getD i default).body
 have h2:=hn _ (DR hi)
 exact ⟨h.1,by have:=h.2; simp only [List.length_nil] at this; exact Nat.le_trans this (by omega)⟩
theorem In {ds:List Df} {p1:Int} (hn:∀ d∈ds,nE d.body≤1000000):∀ (es:List Nat) (a0:Int) (b:List Nat) (c:List (Nat×List Nat)),(∀ i∈es,i < ds.length)→(∀ i∈b,i < ds.length)→(∀ p∈c,LA ds p.2)→
  (∀ i∈(BI ds p1 es a0 b c).1,i < ds.length)∧(BI ds p1 es a0 b c).1.length≤b.length + es.length∧∀ p∈(BI ds p1 es a0 b c).2.1,LA ds p.2
 | [],a0,b,c,_,h1,h2=>by rw [BI]; exact ⟨h1,Nat.le_refl _,h2⟩
 | e :: es,a0,b,c,h0,h1,h2=>by
  have he:e < ds.length:=h0 e (by simp)
  have f:∀ i∈es,i < ds.length:=fun i hi=>h0 i (by simp [hi])
  rw [BI,List.length_cons]
  cases !(Ac (κ ds e))
  ·simp only [cond_false]
   cases !((CI ds (Aa ds p1) e).2 == 0)
   ·have:=In (p1:=p1) hn es a0 (b++[e]) ((e,(CI ds (Aa ds p1) e).1) :: c) f (fun j a=>by
     rcases List.mem_append.1 a with a | a
     ·exact h1 j a
     ·rw [List.mem_singleton.1 a]; exact he) (fun p g=>by
     rcases List.mem_cons.1 g with rfl | g
     ·exact Sz Ed he hn
     exact h2 p g)
    simp only [List.length_append,List.length_singleton] at this
    exact ⟨this.1,by have:=this.2.1; simp only [cond_false]; omega,this.2.2⟩
   exact ⟨fun j a=>(by cases a),Nat.zero_le _,fun j a=>(by cases a)⟩
  have:=In (p1:=p1) hn es a0 b c f h1 h2
  exact ⟨this.1,by have:=this.2.1; simp only [cond_true]; omega,this.2.2⟩
theorem Nh {n:List UInt8} {ds:List Df} {p1:Int} (hn:∀ d∈ds,nE d.body≤1000000):(∀ i∈(A4 n ds p1).1,i < ds.length)∧(A4 n ds p1).1.length≤ds.length∧∀ p∈(A4 n ds p1).2.1,LA ds p.2:=by
 unfold A4
 cases !(C7 n ds p1 == 0)
 ·have:=In (p1:=p1) hn (Aa ds p1) 0 [] [] Ed (fun j a=>by cases a) (fun j a=>by cases a)
  have hl:=JR (ds:=ds) (p1:=p1)
  exact ⟨this.1,by have:=this.2.1; simp only [List.length_nil] at this; exact Nat.le_trans this (by omega),this.2.2⟩
 exact ⟨fun j a=>(by cases a),Nat.zero_le _,fun j a=>(by cases a)⟩
theorem Nk {β:Type} {P:β→Prop} {d:β} (hd:P d):∀ (m:List (Nat×β)) (i:Nat),(∀ p∈m,P p.2)→P ((AH m i).getD d)
 | [],_,_=>hd
 | p :: m,i,h=>by
  rw [AH]
  by_cases hp:p.1=i
  ·rw [if_pos hp]; exact h p (by simp)
  rw [if_neg hp]; exact Nk hd m i fun q a=>h q (by simp [a])
theorem JZ {nodes:List Nat} {ns:List (Nat×List Nat)}:∀ (k:Nat) (r:List Nat) (ml:List (Nat×Bool)),(∀ i∈r,i∈nodes)→r.length≤nodes.length→(∀ i∈(D9 nodes ns k r ml).1,i∈nodes)∧(D9 nodes ns k r ml).1.length≤nodes.length
 | 0,r,ml,h,hl=>⟨h,hl⟩
 | k + 1,r,ml,h,hl=>by
  rw [D9]
  cases hc:decide ((r.length:Int) < (nodes.length:Int))
  ·exact ⟨h,hl⟩
  simp only [cond_true]
  have hc:=of_decide_eq_true hc
  cases hx:decide (Br (Cg ml ns) nodes < 0)
  ·exact JZ k _ _ (fun i hi=>by
    rcases List.mem_append.1 hi with hi | hi
    ·exact h i hi
    rw [List.mem_singleton.1 hi]; exact DR (Hj hx).2) (by rw [List.length_append,List.length_singleton]; omega)
  exact ⟨fun j a=>(by cases a),Nat.zero_le _⟩
def Ad (n:List UInt8) (ds:List Df) (p1:Int):List Nat×Int:=cond (!((A4 n ds p1).2.2 == 0)) ([],(A4 n ds p1).2.2) (Ey (A4 n ds p1).1 (A4 n ds p1).2.1)
theorem TF {n:List UInt8} {ds:List Df} {p1:Int} (hn:∀ d∈ds,nE d.body≤1000000):(∀ i∈(Ad n ds p1).1,i < ds.length)∧(Ad n ds p1).1.length≤ds.length:=by
 unfold Ad
 have h:=Nh (n:=n) (p1:=p1) hn
 cases !((A4 n ds p1).2.2 == 0)
 ·have h2:=JZ (nodes:=(A4 n ds p1).1) (ns:=(A4 n ds p1).2.1) ((A4 n ds p1).1.length + 1) [] [] (fun j a=>(by cases a)) (Nat.zero_le _)
  exact ⟨fun i hi=>h.1 i (h2.1 i hi),Nat.le_trans h2.2 h.2.1⟩
 exact ⟨fun j a=>(by cases a),Nat.zero_le _⟩
noncomputable def X0:Code:=Tryz.f36.body.getD .skip
def fR:=ν ([.code X0])
def fQ:=Ω fR
def AGB:=Ψ fQ
theorem oB (f:List UInt8) (a:Option Addr) (ds:List (Df)) (b:Nat) (p1:Int) (w:World) (b0:rowsDf w a ds) (k:ds.length≤4294967296) (hs:f.length≤4294967296) (ht:∀ d∈ds,Fc d) (a0:∀ d∈ds,Dm d.body) (hn:∀ d∈ds,nE d.body≤1000000):Calls Tryz.prog 36 ([ψ [η f,τ a ds.length b],δ p1]:List Value).toArray w fun e w'=>∃ (s:Option Addr) (q:Nat),e=.returned (.tuple #[τ s (Ad f ds p1).1.length q,δ (Ad f ds p1).2])∧Below (ε w) w w'∧Aj (ε w) w' [BS s q (Ad f ds p1).1]:=by
 refine Ia (args:=[ψ [η f,τ a ds.length b],δ p1]) (fn:=Tryz.f36) (c:=X0) (n:=21) ?_
 have B:Below (ε w) w w:=Below.refl _ _
 have H:Aj (ε w) w (List.map Th.ent []++[]):=Aj.nil (Nat.le_refl _)
 refine Cn 60 ([.code X0]) (ε w) [] [(0,0)] fR [(1,δ p1),(2,ζ (ε w)),(9,ψ [η f,τ a ds.length b]),(10,δ p1)] (ε w + 1) [ι (ε w) [η f,τ a ds.length b] 27] (H.lies (M:=[])) fun w1 E1 g0 d0=>?_
 replace B:=B.trans (H.keptB (M:=[]) d0)
 replace H:Aj (ε w) w1 (List.map Th.ent [ι (ε w) [η f,τ a ds.length b] 27]++[]):=H.run (M:=[]) (M':=[ι (ε w) [η f,τ a ds.length b] 27]) g0 d0 rfl
 refine L9 52 [.tmp 9,.tmp 10] (some 11) [ψ [η f,τ a ds.length b],δ p1] (by kernel_rfl) (by kernel_rfl) (by kernel_rfl) ((W9 f a ds b p1 w1 (b0.below B) k hs ht a0 hn).mono fun en h hh=>?_)
 have t:=Nh (n:=f) (p1:=p1) hn
 have hO:Ad f ds p1=_:=rfl
 rw [show Ad f ds p1=cond (!((A4 f ds p1).2.2 == 0)) ([],(A4 f ds p1).2.2) (Ey (A4 f ds p1).1 (A4 f ds p1).2.1) from rfl]
 clear hO
 generalize A4 f ds p1=g at hh t ⊢
 obtain ⟨nodes,ns,z⟩:=g
 rcases hh with ⟨o,l,m,p,rfl,v,b2,h0,Hn⟩ | ⟨rfl,h0,b2⟩
 ·replace v:p.map I1=ns:=v
  obtain rfl:z=0:=h0
  replace Hn:Aj (ε w1) h [BS o l nodes,Bc.th Iz m (p.map LP),Hv p]:=Hn
  refine ⟨_,rfl,?_⟩
  replace H:Aj (ε w) h (List.map Th.ent [ι (ε w) [η f,τ a ds.length b] 27]++[BS o l nodes,Bc.th Iz m (p.map LP),Hv p]):=H.join b2 Hn
  replace B:=B.trans (b2.mono B.size)
  refine Cn 60 (AC fR) (ε h) _ [(1,0)] fQ [(6,ζ (ε h)),(7,δ 0),(15,ξ (!((0:Int) == 0)))] (ε h + 1) [ι (ε w) [η f,τ a ds.length b] 27,ι (ε h) [τ o nodes.length l,.map (some m)] 131] (H.lies (M:=[ι (ε w) [η f,τ a ds.length b] 27])) fun w3 E3 y u=>?_
  replace B:=B.trans (H.keptB (M:=[ι (ε w) [η f,τ a ds.length b] 27]) u)
  replace H:Aj (ε w) w3 (List.map Th.ent [ι (ε w) [η f,τ a ds.length b] 27,ι (ε h) [τ o nodes.length l,.map (some m)] 131]++[BS o l nodes,Bc.th Iz m (p.map LP),Hv p]):=H.run (M:=[ι (ε w) [η f,τ a ds.length b] 27]) (M':=[ι (ε w) [η f,τ a ds.length b] 27,ι (ε h) [τ o nodes.length l,.map (some m)] 131]) y u rfl
  refine Du (!((0:Int) == 0)) (fun c4=>?_) (fun c4=>?_)
  ·exact absurd c4 (by decide)
  refine Cn 60 (AF fQ) (ε w3) _ [(1,0)] AGB [(17,ψ [τ o nodes.length l,.map (some m)])] (ε w3) [ι (ε w) [η f,τ a ds.length b] 27,ι (ε h) [τ o nodes.length l,.map (some m)] 131] (H.lies (M:=[ι (ε w) [η f,τ a ds.length b] 27,ι (ε h) [τ o nodes.length l,.map (some m)] 131])) fun w4 E4 e0 c0=>?_
  replace B:=B.trans (H.keptB (M:=[ι (ε w) [η f,τ a ds.length b] 27,ι (ε h) [τ o nodes.length l,.map (some m)] 131]) c0)
  replace H:Aj (ε w) w4 (List.map Th.ent [ι (ε w) [η f,τ a ds.length b] 27,ι (ε h) [τ o nodes.length l,.map (some m)] 131]++[BS o l nodes,Bc.th Iz m (p.map LP),Hv p]):=H.run (M:=[ι (ε w) [η f,τ a ds.length b] 27,ι (ε h) [τ o nodes.length l,.map (some m)] 131]) (M':=[ι (ε w) [η f,τ a ds.length b] 27,ι (ε h) [τ o nodes.length l,.map (some m)] 131]) e0 c0 rfl
  subst v
  refine L9 53 [.tmp 17] (some 18) [ψ [τ o nodes.length l,.map (some m)]] (by kernel_rfl) (by kernel_rfl) (by kernel_rfl) ((mC o nodes l m p w4 (H.rowsNat 2 rfl) (Nat.le_trans t.2.1 k) (H.all 3 _ rfl) (H.all 4 _ rfl) (fun j x=>Nat.le_trans (Nat.le_of_lt (t.1 j x)) k) (fun i=>⟨fun j x=>?_,?_⟩)).mono fun en w5 hh=>?_)
  ·exact Nat.le_trans (Nat.le_of_lt ((Nk (P:=LA ds) ⟨fun j x=>(by cases x),Nat.zero_le _⟩ _ i t.2.2).1 j x)) k
  ·exact Nat.le_trans (Nk (P:=LA ds) ⟨fun j x=>(by cases x),Nat.zero_le _⟩ _ i t.2.2).2 (by decide)
  obtain ⟨s,q,rfl,b5,Hr⟩:=hh
  refine ⟨_,rfl,?_⟩
  replace B:=B.trans (b5.mono B.size)
  refine FM (fn:=Tryz.f36) 60 (.tuple #[τ s (Ey nodes (p.map I1)).1.length q,δ (Ey nodes (p.map I1)).2]) fun wz Bz=>⟨s,q,rfl,B.trans (Bz.mono B.size),(Hr.below Bz).mono H.base⟩
 skip
 replace h0:¬ z=0:=h0
 refine ⟨_,rfl,?_⟩
 replace H:Aj (ε w) h (List.map Th.ent [ι (ε w) [η f,τ a ds.length b] 27]++[]):=H.below b2
 replace B:=B.trans (b2.mono B.size)
 refine Cn 60 (AC fR) (ε h) _ [(1,0)] fQ [(6,ζ (ε h)),(7,δ z),(15,ξ (!((z:Int) == 0)))] (ε h + 1) [ι (ε w) [η f,τ a ds.length b] 27,ι (ε h) [τ none 0 0,.map none] 131] (H.lies (M:=[ι (ε w) [η f,τ a ds.length b] 27])) fun w3 E3 y u=>?_
 replace B:=B.trans (H.keptB (M:=[ι (ε w) [η f,τ a ds.length b] 27]) u)
 replace H:Aj (ε w) w3 (List.map Th.ent [ι (ε w) [η f,τ a ds.length b] 27,ι (ε h) [τ none 0 0,.map none] 131]++[]):=H.run (M:=[ι (ε w) [η f,τ a ds.length b] 27]) (M':=[ι (ε w) [η f,τ a ds.length b] 27,ι (ε h) [τ none 0 0,.map none] 131]) y u rfl
 refine Du (!((z:Int) == 0)) (fun c4=>?_) (fun c4=>?_)
 ·replace H:=H.addNil 3 1 (fun e r=>r=Fw e)
  rw [c4]
  refine FM (fn:=Tryz.f36) 60 (.tuple #[τ none 0 0,δ z]) fun wz Bz=>⟨none,0,rfl,B.trans (Bz.mono B.size),(H.below Bz).pick [2] rfl (by decide)⟩
 simp [h0] at c4
attribute [local irreducible] BD BP AC AD AF Ar AZ AM Aw Bk C6 BV EE C5 BO At Fr
abbrev Cq:=List (Ao×Int×Int)×List DP
def Cu (F:Ao→Int×Int×Int) (p:Ao) (s:Cq):(Int×Int×Int)×Cq:=match AH s.1 p with
 | some v=>((v.1,v.2,0),s)
 | none=>cond (!((F p).2.2 == 0)) ((0,0,(F p).2.2),s) (((F p).1,(F p).2.1,0),((p,(F p).1,(F p).2.1) :: s.1,s.2++[(p,(F p).1,(F p).2.1)]))
noncomputable def Z6:Code:=Tryz.f60.body.getD .skip
def sX:=Al 1 [.code Z6]
def cQ:=AI sX
def ADI:=Ξ cQ
def sW:=Ψ cQ
def cP:=Ω sW
def ADH:=Ξ cP
def QN:=Ψ cP
def sV:=AA (An ES 90 (AD QN)) (AD QN)
def QM:=Al 9 (AF QN)
def cO:=Al 10 (AM QM)
def yA:=AI cO
theorem XE {R:Ending→World→Prop} (Z:List Th) (g:Nat) (j:Bool) (k i d:Option Nat) (h:Option Addr) (pa:List Dk) (f b:Nat) (s:List (Ao×Int×Int)) (r:Option Addr) (a:List DP) (o n rs qb m:Nat) (qc:List Value) (p:Ao) (v:Int×Int) (w we:World) (E:Nat→Value) (hp:H3 p) (b0:s.length≤4294967296) (a0:a.length≤4294967296) (K:Wk w we [ι g [ξ j,.map k,.map i,.map d,τ h pa.length f,.map (some b),τ (r) a.length (o)] 85,ι n (D1 p) 117,ι rs [δ 0,δ 0] 41,ι qb qc 41,ι m (BT v) 41] [Cf.th b s,CH r o a] Z)
  (hR:∀ uA' uc' w',Below (ε w) w w'→Aj (ε w) w' ([Th.ent (ι g [ξ j,.map k,.map i,.map d,τ h pa.length f,.map (some b),τ (uA') (a++[(p,v)]).length (uc')] 85),Cf.th b ((p,v) :: s),CH uA' uc' (a++[(p,v)])]++Z)→R (.returned (.tuple #[ψ (BT v),δ 0])) w'):At Tryz.prog 60 R QM (Fr 66 (BE E [(0,ζ g),(3,ζ n),(4,ζ rs),(8,ζ m)])) we:=by
 have goods:∀ (u:World) (Ms:List A7) (Ls Ts:List Th),Wk w u Ms Ls Ts→Ms[0]?=some (ι g [ξ j,.map k,.map i,.map d,τ h pa.length f,.map (some b),τ (r) a.length (o)] 85)→Ms[1]?=some (ι n (D1 p) 117)→Ms[4]?=some (ι m (BT v) 41)→∀ e∈([ι g [ξ j,.map k,.map i,.map d,τ h pa.length f,.map (some b),τ (r) a.length (o)] 85,ι n (D1 p) 117,ι m (BT v) 41]:List A7),e.good u:=fun u Ms Ls Ts c h0 h1 h4 e he=>by
  simp only [List.mem_cons,List.not_mem_nil,or_false] at he
  rcases he with rfl | rfl | rfl
  ·exact c.ent 0 h0
  ·exact c.ent 1 h1
  exact c.ent 4 h4
 refine X8 K (mem:=[ι g [ξ j,.map k,.map i,.map d,τ h pa.length f,.map (some b),τ (r) a.length (o)] 85,ι n (D1 p) 117,ι m (BT v) 41]) [0,1,2,3,4,5] [(3,0,5),(4,1,0),(5,2,0)] [] 6 (goods _ _ _ _ K rfl rfl rfl) (fun sp l=>by cases l) fun u c=>?_
 obtain ⟨u',hx,Hn,b1⟩:=Jz Cf (ρ:=A8 66 _) c.H (c.ix 0) (c.at 0 rfl) p v hp trivial ((AR QM).getD 6 default) (t:=83) (x:=.tmp 43) (y:=.tmp 44) (z:=.tmp 45) (by kernel_rfl) rfl (by kernel_rfl) (by kernel_rfl) (by kernel_rfl) (by omega)
 refine ⟨u',hx,?_⟩
 have K2:=c.put 0 (by simp) b1 Hn
 refine As 10 cO K2 [] fun w3 K3=>?_
 refine ABg (γ:=Option Addr×Nat) K3 (mem:=[ι g [ξ j,.map k,.map i,.map d,τ h pa.length f,.map (some b),τ (r) a.length (o)] 85,ι n (D1 p) 117,ι m (BT v) 41]) 16 0 [0,1,2,3,4,5,6,7,8,9,10,11,12,13,14] 15 (fun q=>χ q 1 1) 94 (Ch (p,v)) [(4,0,6),(6,1,0),(8,1,1),(10,1,2),(12,1,3),(13,2,0)] [] 16 (fun x=>τ x.1 (a++[(p,v)]).length x.2) (fun x=>[Cf.th b ((p,v) :: s),CH x.1 x.2 (a++[(p,v)])]) [(17,0,0),(18,0,0),(19,0,6)] (fun q x=>[ι g [ξ j,.map k,.map i,.map d,τ h pa.length f,.map (some b),τ (x.1) (a++[(p,v)]).length (x.2)] 85,ι n (D1 p) 117,ι rs [δ 0,δ 0] 41,ι qb qc 41,ι m (BT v) 41,ι q (Ch (p,v)) 94]) (goods _ _ _ _ K3 rfl rfl rfl) (fun v hv sp l=>by cases l) (fun u q c=>?_) fun q x z w4 K4=>?_
 ·obtain ⟨A',c',u',hx,Hn,b2⟩:=PS c.H (c.ix 1) (c.at 1 rfl) (p,v) (Ch (p,v)) rfl q (c.ent 5 rfl) ((Au (AR cO) 16 0).getD 16 default) (.tmp 50) (.tmp 61) 42 (by kernel_rfl) (by kernel_rfl) (by kernel_rfl) (by decide) (by kernel_rfl) (by kernel_rfl) rfl rfl (by omega)
  exact ⟨(A',c'),u',hx,c.put 1 (by simp) b2 Hn⟩
 refine Am yA K4 [(4,0),(2,0)] fun w5 K5=>?_
 exact AK K5 (2,0) (.tuple #[ψ (BT v),δ 0]) (hR x.1 x.2 w5 K5.B (K5.pk [0] [0,1] (M':=[ι g [ξ j,.map k,.map i,.map d,τ h pa.length f,.map (some b),τ (x.1) (a++[(p,v)]).length (x.2)] 85]) (L':=[Cf.th b ((p,v) :: s),CH x.1 x.2 (a++[(p,v)])])).H)
theorem LM (Z:List Th) (g:Nat) (a:Bool) (cA nA s:Option Nat) (pA:Option Addr) (pa:List Dk) (pc:Nat) (o:List (Ao×Int×Int)) (nm:List (List UInt8×Int×Int)) (l:List (List UInt8×Gy)) (m:Option Nat) (f:List (Ao×Int×Int)) (k:Option Addr) (d:List DP) (j:Nat) (p:Ao) (w i:World) (s0:Cf.optAt cA o w) (l0:Ez.optAt nA nm w) (j0:Eg.optAt s (l.map fun q=>(q.1,FI q.2)) w) (i0:∀ q∈l,Cs w q.2.2.1 q.2.1∧q.2.1.length≤4294967296) (k0:EW w pA pa) (p0:pa.length≤4294967296) (m0:∀ e∈pa,e.2.length≤4294967296) (hp:H3 p) (q0:f.length≤4294967296) (g0:d.length≤4294967296) (B:Below (ε w) w i) (H:Aj (ε w) i ([Th.ent (ι g [ξ a,.map cA,.map nA,.map s,τ pA pa.length pc,.map (m),τ (k) d.length (j)] 85),Cf.thO m f,CH k j d]++Z)) :
  Calls Tryz.prog 60 ([ζ g,ψ (D1 p)]:List Value).toArray i fun e w'=>∃ kA' b0 a0,e=.returned (DT (Cu (Bi a o nm l pa) p (f,d)).1)∧Below (ε w) w w'∧Aj (ε w) w' ([Th.ent (ι g [ξ a,.map cA,.map nA,.map s,τ pA pa.length pc,.map (kA'),τ (b0) (Cu (Bi a o nm l pa) p (f,d)).2.2.length (a0)] 85),Cf.thO kA' (Cu (Bi a o nm l pa) p (f,d)).2.1,CH b0 a0 (Cu (Bi a o nm l pa) p (f,d)).2.2]++Z):=by
 refine AS (fn:=Tryz.f60) (c:=Z6) (n:=66) ?_
 have K1:Wk w i [ι g [ξ a,.map cA,.map nA,.map s,τ pA pa.length pc,.map (m),τ (k) d.length (j)] 85] [Cf.thO m f,CH k j d] Z:=⟨B,H⟩
 clear B H
 refine CC 1 sX [ι g [ξ a,.map cA,.map nA,.map s,τ pA pa.length pc,.map (m),τ (k) d.length (j)] 85,ι (ε i) (D1 p) 117,ι (ε i + 1) [δ 0,δ 0] 41] K1 [] fun w1 K2=>?_
 have hK:=Cf.thO_at (K2.H.all (K2.ix 0) _ (K2.at 0 rfl))
 refine SU K2 (mem:=[ι g [ξ a,.map cA,.map nA,.map s,τ pA pa.length pc,.map (m),τ (k) d.length (j)] 85,ι (ε i) (D1 p) 117]) 10 8 [0,1,2,3,4,5,6,7,8] 9 41 [δ 0,δ 0] [(3,0,5),(4,1,0)] [⟨5,[(14,.map m),(15,ψ (D1 p))],.tuple #[ψ (BT ((AH f p).getD (0,0))),ξ (AH f p).isSome],true⟩] [(10,3,0),(11,0,0)] (fun q=>[ι g [ξ a,.map cA,.map nA,.map s,τ pA pa.length pc,.map (m),τ (k) d.length (j)] 85,ι (ε i) (D1 p) 117,ι (ε i + 1) [δ 0,δ 0] 41,ι q (BT ((AH f p).getD (0,0))) 41]) (fun e he=>by
  simp only [List.mem_cons,List.not_mem_nil,or_false] at he
  rcases he with rfl | rfl
  ·exact K2.ent 0 rfl
  exact K2.ent 1 rfl) (fun v hv sp h0=>?_) fun q z w3 K3=>?_
 ·rw [List.mem_singleton.1 h0]
  exact BQ fun _ E u hu=>JO Cf (x:=.tmp 14) (y:=.tmp 15) (by kernel_rfl) rfl (by kernel_rfl) p (by kernel_rfl) hp (hK.below (hv.trans (hu.mono hv.size)))
 refine AB cQ K3 [] fun w4 K4=>?_
 refine AG (AH f p).isSome (fun c1=>?_) (fun c1=>?_)
 ·obtain ⟨v,hv⟩:=Option.isSome_iff_exists.1 c1
  have hS:(Cu (Bi a o nm l pa) p (f,d))=((v.1,v.2,0),(f,d)):=by unfold Cu; rw [hv]
  refine Am ADI K4 [(3,0),(2,0)] fun w5 K5=>?_
  refine AK K5 (2,0) (.tuple #[ψ (BT ((AH f p).getD (0,0))),δ 0]) ?_
  rw [hS]
  exact ⟨m,k,j,by rw [hv]; rfl,K5.B,(K5.pk [0] [0,1] (M':=[ι g [ξ a,.map cA,.map nA,.map s,τ pA pa.length pc,.map (m),τ (k) d.length (j)] 85]) (L':=[Cf.thO m f,CH k j d])).H⟩
 have hn:AH f p=none:=by simpa using c1
 refine AB sW K4 [(1,0)] fun w5 K5=>?_
 refine AP K5 (args:=[ζ g,ψ (D1 p)]) (mW g a cA nA s m o nm l pA k pa pc d.length j p w w5 s0 l0 j0 i0 k0 p0 m0 hp K5.B (K5.ent 0 rfl)) fun w6 K6=>?_
 have hS:(Cu (Bi a o nm l pa) p (f,d))=cond (!((Bi a o nm l pa p).2.2 == 0)) ((0,0,(Bi a o nm l pa p).2.2),(f,d)) (((Bi a o nm l pa p).1,(Bi a o nm l pa p).2.1,0),((p,(Bi a o nm l pa p).1,(Bi a o nm l pa p).2.1) :: f,d++[(p,(Bi a o nm l pa p).1,(Bi a o nm l pa p).2.1)])):=by unfold Cu; rw [hn]
 generalize (Bi a o nm l pa p)=r at hS K6 ⊢
 obtain ⟨r1,r2,r3⟩:=r
 refine Ah cP [ι g [ξ a,.map cA,.map nA,.map s,τ pA pa.length pc,.map (m),τ (k) d.length (j)] 85,ι (ε i) (D1 p) 117,ι (ε i + 1) [δ 0,δ 0] 41,ι q (BT ((AH f p).getD (0,0))) 41,ι (ε w6) (BT (r1,r2)) 41] K6 [(4,0)] fun w7 K7=>?_
 refine AG (!(r3 == 0)) (fun c2=>?_) (fun c2=>?_)
 ·rw [c2] at hS
  refine Am ADH K7 [(2,0)] fun w8 K8=>?_
  refine AK K8 (2,0) (.tuple #[ψ [δ 0,δ 0],δ r3]) ?_
  rw [hS]
  exact ⟨m,k,j,rfl,K8.B,(K8.pk [0] [0,1] (M':=[ι g [ξ a,.map cA,.map nA,.map s,τ pA pa.length pc,.map (m),τ (k) d.length (j)] 85]) (L':=[Cf.thO m f,CH k j d])).H⟩
 rw [c2] at hS
 cases m with
 | none=>
  have r0:f=[]:=hK
  refine AB QN K7 [(0,5)] fun w8 K8=>?_
  refine AG true (fun _=>?_) (fun h=>by cases h)
  refine Ak ES sV K8 [] fun w9 K9=>?_
  refine FV Cf K9.H (CL sV) (by kernel_rfl) (t:=83) (by kernel_rfl) fun x0 z0 Hn t0=>?_
  have w0:=K9.add t0 Hn
  refine CC 9 QM [ι g [ξ a,.map cA,.map nA,.map s,τ pA pa.length pc,.map (some (ε w9)),τ (k) d.length (j)] 85,ι (ε i) (D1 p) 117,ι (ε i + 1) [δ 0,δ 0] 41,ι q (BT ((AH f p).getD (0,0))) 41,ι (ε w6) (BT (r1,r2)) 41] w0 [(0,5)] fun c0 d0=>?_
  have v0:=d0.pk [0,1,2,3,4] [2,1] (M':=[ι g [ξ a,.map cA,.map nA,.map s,τ pA pa.length pc,.map (some (ε w9)),τ (k) d.length (j)] 85,ι (ε i) (D1 p) 117,ι (ε i + 1) [δ 0,δ 0] 41,ι q (BT ((AH f p).getD (0,0))) 41,ι (ε w6) (BT (r1,r2)) 41]) (L':=[Cf.th (ε w9) [],CH k j d])
  refine AU [(0,ζ g),(3,ζ (ε i)),(4,ζ (ε i + 1)),(8,ζ (ε w6))] fun e0=>?_
  refine XE Z g a cA nA s pA pa pc (ε w9) [] k d j (ε i) (ε i + 1) q (ε w6) _ p (r1,r2) w c0 e0 hp (by simp) g0 v0 fun b0 a0 w' b' H'=>?_
  rw [hS,r0]
  exact ⟨some (ε w9),b0,a0,rfl,b',H'⟩
 | some b=>
  refine AB QN K7 [(0,5)] fun w8 K8=>?_
  refine AG false (fun h=>by cases h) (fun _=>?_)
  refine As 9 QM K8 [] fun c0 d0=>?_
  refine AU [(0,ζ g),(3,ζ (ε i)),(4,ζ (ε i + 1)),(8,ζ (ε w6))] fun e0=>?_
  refine XE Z g a cA nA s pA pa pc b f k d j (ε i) (ε i + 1) q (ε w6) _ p (r1,r2) w c0 e0 hp q0 g0 d0 fun b0 a0 w' b' H'=>?_
  rw [hS]
  exact ⟨some b,b0,a0,rfl,b',H'⟩
end
end Go.Proofs.YtkjbdagicjbjjaaGreat
namespace Go.Proofs.YtkjbdagicjbjjaaGreat
open Go.RowKit
set_option maxRecDepth 100000
abbrev C0:=(Int×Int×Int)×Cq
def Cy (f:Ex→Cq→C0):List Ex→Nat→Int×Int→Int×Int→Cq→Int×(Int×Int)×(Int×Int)×Cq
 | [],_,a,b,s=>(0,a,b,s)
 | k :: r,i,a,b,s=>cond (!((f k s).1.2.2 == 0)) ((f k s).1.2.2,a,b,(f k s).2) (Cy f r (i + 1) (cond (i == 0) ((f k s).1.1,(f k s).1.2.1) a) (cond (i == 1) ((f k s).1.1,(f k s).1.2.1) b) (f k s).2)
def CR (f:Ex→Cq→C0) (x:Ex) (s:Cq):C0:=match x.ks with
 | k0 :: k1 :: r=>cond (!((f k0 s).1.2.2 == 0)) ((0,0,(f k0 s).1.2.2),(f k0 s).2)
   (cond (x.op == 12 && ((f k0 s).1.1 == 0)) ((0,1,0),(f k0 s).2)
   (cond (x.op == 13 && !((f k0 s).1.1 == 0)) ((1,1,0),(f k0 s).2)
   (cond (x.op == 18 && ((f k0 s).1.1 == 0)) (match r with
    | k2 :: _=>f k2 (f k0 s).2
    | []=>((0,0,1),s)) (f k1 (f k0 s).2))))
 | _=>((0,0,1),s)
def BH (F:Ao→Int×Int×Int):Nat→Ex→Cq→C0
 | 0,_,s=>((0,0,0),s)
 | h + 1,x,s=>cond (x.op == 1) ((x.num,x.den,0),s)
   (cond (x.op == 2) (((Di (x.cnt == 1)).1,(Di (x.cnt == 1)).2,0),s)
   (cond (x.op == 3 || (x.op == 20 || x.op == 21)) (Cu F (x.op,x.nm,x.cnt,0,0) s)
   (cond (x.op == 18 || (x.op == 12 || x.op == 13)) (CR (BH F h) x s)
   (match Cy (BH F h) x.ks 0 (0,0) (0,0) s with
    | (e,a,b,s')=>cond (!(e == 0)) ((0,0,e),s') (cond (x.op == 4) (Cu F (x.op,x.nm,0,a.1,a.2) s') (Cj x a.1 a.2 b.1 b.2,s'))))))
def DI (n:Nat) (s s':Cq):Prop:=s'.1.length≤s.1.length + n∧s'.2.length≤s.2.length + n
theorem DI.refl (n:Nat) (s:Cq):DI n s s:=⟨by omega,by omega⟩
theorem DI.trans {m n k:Nat} {s s' e:Cq} (h:DI m s s') (f:DI n s' e) (g:m + n≤k):DI k s e:=by
 obtain ⟨a,b⟩:=h
 obtain ⟨c,d⟩:=f
 exact ⟨by omega,by omega⟩
theorem DI.le {m n:Nat} {s s':Cq} (h:DI m s s') (c:m≤n):DI n s s':=by
 obtain ⟨a,b⟩:=h
 exact ⟨by omega,by omega⟩
theorem O0 (F:Ao→Int×Int×Int) (p:Ao) (s:Cq):DI 1 s (Cu F p s).2:=by
 unfold Cu
 split
 ·exact DI.refl _ _
 cases !((F p).2.2 == 0)
 ·exact ⟨by simp,by simp⟩
 exact DI.refl _ _
theorem O3 (f:Ex→Cq→C0):∀ (ks:List Ex) (_:∀ k∈ks,∀ s,DI (nE k) s (f k s).2) (i:Nat) (a b:Int×Int) (s:Cq),DI (Fd ks) s (Cy f ks i a b s).2.2.2
 | [],_,_,_,_,s=>DI.refl _ _
 | k :: r,hf,i,a,b,s=>by
  have d:=hf k (by simp) s
  unfold Cy Fd
  cases !((f k s).1.2.2 == 0)
  ·exact d.trans (O3 f r (fun e c=>hf e (by simp [c])) _ _ _ _) (Nat.le_refl _)
  exact d.le (Nat.le_add_right _ _)
theorem TT (f:Ex→Cq→C0) (x:Ex) (hf:∀ k∈x.ks,∀ s,DI (nE k) s (f k s).2) (s:Cq):DI (Fd x.ks) s (CR f x s).2:=by
 unfold CR
 split
 ·rename_i k0 k1 r hk
  rw [hk] at hf ⊢
  have b:=hf k0 (by simp) s
  have c:=hf k1 (by simp) (f k0 s).2
  have a:nE k0≤Fd (k0 :: k1 :: r):=by simp only [Fd]; omega
  cases !((f k0 s).1.2.2 == 0)
  ·show DI _ s (cond _ _ _:C0).2
   cases (x.op == 12 && ((f k0 s).1.1 == 0))
   ·show DI _ s (cond _ _ _:C0).2
    cases (x.op == 13 && !((f k0 s).1.1 == 0))
    ·show DI _ s (cond _ _ _:C0).2
     cases (x.op == 18 && ((f k0 s).1.1 == 0))
     ·exact b.trans c (by simp only [Fd]; omega)
     cases r with
     | nil=>exact DI.refl _ _
     | cons k2 r=>exact b.trans (hf k2 (by simp) (f k0 s).2) (by simp only [Fd]; omega)
    exact b.le a
   exact b.le a
  exact b.le a
 exact DI.refl _ _
theorem HH (F:Ao→Int×Int×Int):∀ (h:Nat) (x:Ex) (s:Cq),DI (nE x) s (BH F h x s).2
 | 0,_,_=>DI.refl _ _
 | h + 1,x,s=>by
  have hn:nE x=1 + Fd x.ks:=by cases x; rw [nE]; rfl
  unfold BH
  cases (x.op == 1)
  ·show DI _ s (cond _ _ _:C0).2
   cases (x.op == 2)
   ·show DI _ s (cond _ _ _:C0).2
    cases (x.op == 3 || (x.op == 20 || x.op == 21))
    ·show DI _ s (cond _ _ _:C0).2
     cases (x.op == 18 || (x.op == 12 || x.op == 13))
     ·have c:=O3 (BH F h) x.ks (fun k _ s=>HH F h k s) 0 (0,0) (0,0) s
      show DI _ s (match Cy (BH F h) x.ks 0 (0,0) (0,0) s with
       | (e,a,b,s')=>cond (!(e == 0)) ((0,0,e),s') (cond (x.op == 4) (Cu F (x.op,x.nm,0,a.1,a.2) s') (Cj x a.1 a.2 b.1 b.2,s'))).2
      generalize Cy (BH F h) x.ks 0 (0,0) (0,0) s=q at c ⊢
      obtain ⟨e,a,b,s'⟩:=q
      show DI _ s (cond _ _ _:C0).2
      cases !(e == 0)
      ·show DI _ s (cond _ _ _:C0).2
       cases (x.op == 4)
       ·exact c.le (by omega)
       exact c.trans (O0 F _ s') (by omega)
      exact c.le (by omega)
     exact (TT (BH F h) x (fun k _ s=>HH F h k s) s).le (by omega)
    exact (O0 F _ s).le (by omega)
   exact DI.refl _ _
  exact DI.refl _ _
end Go.Proofs.YtkjbdagicjbjjaaGreat

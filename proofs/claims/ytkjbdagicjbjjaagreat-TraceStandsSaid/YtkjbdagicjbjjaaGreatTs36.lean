/- Contracts of functions, part 36. -/
import Derived.Test.YtkjbdagicjbjjaaGreatTs35
set_option linter.all false
namespace Go.Proofs.YtkjbdagicjbjjaaGreat
noncomputable section
open Go.RowKit
set_option maxRecDepth 100000
set_option maxHeartbeats 1000000
theorem G4 (u:DP) (w:World):Calls Tryz.prog 42 ([ψ (Ch u)]:List Value).toArray w fun e w'=>e=.returned (ψ (D1 u.1))∧Below (ε w) w w':=YS u.1.1 u.1.2.1 u.1.2.2.1 u.1.2.2.2.1 u.1.2.2.2.2 u.2.1 u.2.2 w
theorem fl (w:World) (u v:DP):(binOp .neq 94 (ψ (Ch u)) (ψ (Ch v))).run Tryz.prog w=.ok (ξ (!(decide (u=v)))) w:=by
 obtain ⟨⟨a,b,c,d,e⟩,f,g⟩:=u
 obtain ⟨⟨m,l,k,j,e'⟩,i,h⟩:=v
 have hs:(decide (((a,b,c,d,e),f,g)=((m,l,k,j,e'),i,h)))=(a == m && (decide (b=l) && (c == k && (d == j && (e == e' && (f == i && g == h)))))):=by
  rw [Bool.eq_iff_iff]
  simp only [Prod.mk.injEq,decide_eq_true_eq,Bool.and_eq_true,beq_iff_eq,and_assoc]
 rw [hs]
 show (binOp .neq 94 (.agg #[δ a,η b,δ c,δ d,δ e,δ f,δ g]) (.agg #[δ m,η l,δ k,δ j,δ e',δ i,δ h])).run Tryz.prog w=_
 simp [go_sem]
 repeat' split
 all_goals simp_all
def HV (a b:Int×Int):Bool:=a.1 == b.1 && a.2 == b.2
attribute [local irreducible] BD BP AC AD AF Ar AZ AM Aw Bk C6 BV EE C5 BO At Fr
noncomputable def Zm:Code:=Tryz.f69.body.getD .skip
def bN:=ν [.code Zm]
def ACc:=Ξ bN
def bM:=Ψ bN
def bL:=ν (Ar bM)
def ra:=Al 6 (AD bL)
def rZ:=AI ra
def ACb:=Ξ rZ
def ACa:=Ψ bL
theorem gZ (A B:Option Addr) (l k:List DP) (c d:Nat) (w:World) (hA:rowsUse w A l) (hB:rowsUse w B k) (hl:l.length≤4294967296) (hk:k.length≤4294967296) :
  Calls Tryz.prog 69 ([τ A l.length c,τ B k.length d]:List Value).toArray w fun e w'=>e=.returned (ξ (decide (l=k)))∧Below (ε w) w w':=by
 refine AS (fn:=Tryz.f69) (c:=Zm) (n:=26) ?_
 have K1:=Wk.start w
 refine AB bN K1 [] fun w1 s=>?_
 refine AG (!((l.length:Int) == (k.length:Int))) (fun c1=>?_) (fun c1=>?_)
 ·refine AB ACc s [] fun w2 g=>?_
  have o:¬ l=k:=fun h=>by rw [h] at c1; simp at c1
  exact AK g (0,0) (ξ false) ⟨by rw [decide_eq_false o],g.B⟩
 have v:l.length=k.length:=by simp at c1; omega
 refine AB bM s [] fun w2 g=>?_
 refine AU [(0,τ A l.length c),(1,τ B k.length d),(12,δ (l.length:Int)),(13,δ ((0:Nat):Int))] fun E3=>?_
 refine Bo (by kernel_rfl) (fun E wx=>∃ (i:Nat) (E0:Nat→Value),i≤l.length∧E=BE E0 [(0,τ A l.length c),(1,τ B k.length d),(12,δ (l.length:Int)),(13,δ (i:Int))]∧(∀ j,j < i→l[j]?=k[j]?)∧Wk w wx [] [] []) (fun E _=>l.length - AL (E 13)) ⟨0,E3,Nat.zero_le _,rfl,fun j hj=>absurd hj (Nat.not_lt_zero _),g⟩ ?_
 clear K1 s g
 rintro E wx ⟨i,E0,hi,rfl,hv,K1⟩ r
 refine AB bL K1 [] fun w2 s=>?_
 refine AG (decide ((i:Int) < (l.length:Int))) (fun c2=>?_) (fun c2=>?_)
 ·have m:i < l.length:=by have:=of_decide_eq_true c2; omega
  obtain ⟨e,he⟩:∃ e,l[i]?=some e:=⟨_,List.getElem?_eq_getElem m⟩
  obtain ⟨f,hf⟩:∃ e,k[i]?=some e:=⟨_,List.getElem?_eq_getElem (v ▸ m)⟩
  obtain ⟨gA,fA,rfl,a0,q⟩:=hA.all (by omega)
  obtain ⟨gB,fB,rfl,y,p⟩:=hB.all (by omega)
  refine As 6 ra s [] fun w3 g=>?_
  refine GD g (mem:=[⟨gA,fA + i * 7,Ch e,94,false⟩,⟨gB,fB + i * 7,Ch f,94,false⟩]) [0,1,2,3,4,5,6,7,8] [(3,0,0),(7,1,0)] [⟨2,[(16,τ (some ⟨gA,fA,none⟩) l.length c),(17,δ (i:Int))],.pointer (some ⟨gA,fA + i * 7,none⟩),true⟩,⟨6,[(20,τ (some ⟨gB,fB,none⟩) k.length d),(21,δ (i:Int))],.pointer (some ⟨gB,fB + i * 7,none⟩),true⟩,⟨8,[(19,ψ (Ch e)),(23,ψ (Ch f))],ξ (!(decide (e=f))),true⟩] [] (fun x hx=>?_) (fun sp t=>?_) fun z w4 K4=>?_
  ·simp only [List.mem_cons,List.not_mem_nil,or_false] at hx
   rcases hx with rfl | rfl
   ·exact ⟨Nat.lt_of_lt_of_le a0 g.B.size,Ag (q i e he) a0 g.B⟩
   exact ⟨Nat.lt_of_lt_of_le y g.B.size,Ag (p i f hf) y g.B⟩
  ·simp only [List.mem_cons,List.not_mem_nil,or_false] at t
   rcases t with rfl | rfl | rfl
   ·exact BQ fun _ E u _=>CE (sz:=7) (cap:=c) 42 (.tmp 16) (.tmp 17) m Tryz.underlying42
   ·exact BQ fun _ E u _=>CE (sz:=7) (cap:=d) 42 (.tmp 20) (.tmp 21) (v ▸ m) Tryz.underlying42
   exact BQ fun _ E u _=>DD (k:=.neq) (T:=94) (a:=ψ (Ch e)) (b:=ψ (Ch f)) (fl u e f)
  refine AB rZ K4 [] fun w5 K5=>?_
  refine AG (!(decide (e=f))) (fun c3=>?_) (fun c3=>?_)
  ·refine AB ACb K5 [] fun w6 K6=>?_
   have o:¬ l=k:=fun h=>by
    rw [h,hf] at he
    have:=Option.some.inj he
    rw [this] at c3
    simp at c3
   exact AK K6 (0,0) (ξ false) ⟨by rw [decide_eq_false o],K6.B⟩
  have c0:e=f:=by simpa using c3
  refine AB (AZ bM) K5 [] fun w6 K6=>?_
  refine AU [(0,τ (some ⟨gA,fA,none⟩) l.length c),(1,τ (some ⟨gB,fB,none⟩) k.length d),(12,δ (l.length:Int)),(13,δ (IntKind.i64.wrap ((i:Int) + 1)))] fun E6=>?_
  rw [Bl i (by omega)]
  refine r _ _ ⟨i + 1,E6,m,rfl,fun j hj=>?_,K6.pk [] []⟩ ?_
  ·by_cases hji:j=i
   ·subst hji
    rw [he,hf,c0]
   exact hv j (by omega)
  show l.length - AL (δ ((i + 1:Nat):Int)) < l.length - AL (δ (i:Int))
  simp only [AL]
  omega
 have d0:i=l.length:=by have:=of_decide_eq_false c2; omega
 have b0:l=k:=by
  refine List.ext_getElem? fun j=>?_
  by_cases hj:j < i
  ·exact hv j hj
  rw [List.getElem?_eq_none (by omega),List.getElem?_eq_none (by omega)]
 refine AB ACa s [] fun w3 g=>?_
 exact AK g (0,0) (ξ true) ⟨by rw [decide_eq_true b0],g.B⟩
def Hy:List DP→List (Ao×Int×Int)→Bool×List (Ao×Int×Int)
 | [],m=>(true,m)
 | u :: r,m=>cond (cond (AH m u.1).isSome (!(HV ((AH m u.1).getD (0,0)) u.2)) false) (false,m) (Hy r ((u.1,u.2) :: m))
def EF:List C4→List (Ao×Int×Int)→Bool
 | [],_=>true
 | e :: r,m=>cond (Hy e.2.2.1 m).1 (EF r (Hy e.2.2.1 m).2) false
def JH (l:List C4):Prop:=l.length≤1000∧∀ e∈l,e.1.length≤4294967296∧e.2.2.1.length≤10000000∧∀ u∈e.2.2.1,H3 u.1
noncomputable def SL:Code:=Tryz.f43.body.getD .skip
def dK:=AA (An (ES) 90 ([.code SL])) ([.code SL])
def dJ:=Ω dK
def T3:=ν (Ar dJ)
def tO:=AA (An (Ae) 90 (AD T3)) (AD T3)
def dI:=ν (AC (AC tO))
def dH:=ν (Ar dI)
def tN:=AA (An (Ae) 90 (AD dH)) (AD dH)
def dG:=ν (AC (AC tN))
def dF:=AA (An (Cv) 90 (AC dG)) (AC dG)
def tM:=Al 9 (AC dF)
def V3:=AI tM
def yw:=Ξ V3
def kt:=Al 11 (AF V3)
def yv:=Ψ T3
theorem L7 (A:Option Addr) (l:List C4) (c:Nat) (w:World) (hA:rowsSt w A l) (g0:JH l) :
  Calls Tryz.prog 43 ([τ A l.length c]:List Value).toArray w fun e w'=>e=.returned (ξ (EF l []))∧Below w.heap.size w w':=by
 obtain ⟨hl,m0⟩:=g0
 refine AS (fn:=Tryz.f43) (c:=SL) (n:=45) ?_
 have K0:=Wk.start w
 refine Ak ES dK K0 [] fun w1 r=>?_
 refine FV Cf r.H (CL dK) (by kernel_rfl) (t:=83) (by kernel_rfl) fun w2 _ Hn b2=>?_
 have K2:=r.add b2 Hn
 generalize w1.heap.size=mb at K2 ⊢
 refine AB dJ K2 [] fun w3 q=>?_
 refine AU [(3,.map (some mb)),(11,τ A l.length c),(12,δ (l.length:Int)),(13,δ ((0:Nat):Int))] fun E3=>?_
 refine Bo (by kernel_rfl) (fun E wx=>∃ (i:Nat) (m:List (Ao×Int×Int)) (E0:Nat→Value),i≤l.length∧E=BE E0 [(3,.map (some mb)),(11,τ A l.length c),(12,δ (l.length:Int)),(13,δ (i:Int))]∧EF l []=EF (l.drop i) m∧m.length≤i * 10000000∧Wk w wx [] [Cf.th mb m] []) (fun E _=>l.length - AL (E 13)) ⟨0,[],E3,Nat.zero_le _,rfl,rfl,by simp,q⟩ ?_
 clear K0 r K2 q Hn b2
 rintro E wx ⟨i,m,E0,hi,rfl,hv,hm,r⟩ c0
 refine AB T3 r [] fun w2 K2=>?_
 refine AG (decide ((i:Int) < (l.length:Int))) (fun c2=>?_) (fun c2=>?_)
 ·have h:i < l.length:=by have:=of_decide_eq_true c2; omega
  obtain ⟨e,he⟩:∃ e,l[i]?=some e:=⟨_,List.getElem?_eq_getElem h⟩
  have w0:l.drop i=e :: l.drop (i + 1):=by
   have he:l[i]=e:=(List.getElem?_eq_some_iff.1 he).2
   rw [← List.getElem_cons_drop h,he]
  rw [w0,EF] at hv
  obtain ⟨i1,t0,h0⟩:=m0 e (List.mem_of_getElem? he)
  obtain ⟨gA,fA,rfl,s0,i0⟩:=hA.all (by omega)
  obtain ⟨A1,c1,e0,hU⟩:=i0 i e he
  refine Ak Ae tO K2 [] fun w3 q=>?_
  refine Ay (g:=gA) (off:=fA) (cap:=c) (sz:=5) (k:=i) (len:=l.length) (some 15) h Tryz.underlying29 ?_
  refine BN 44 gA (fA + i * 5) _ (some 16) (Ag e0 s0 q.B) ?_
  refine Ah dI [ι w3.heap.size (Dp (e,A1,c1)) 44] q [(0,0),(0,2)] fun w4 K4=>?_
  generalize hus:e.2.2.1=us at hv t0 h0 hU
  refine AU [(3,.map (some mb)),(11,τ (some ⟨gA,fA,none⟩) l.length c),(12,δ (l.length:Int)),(13,δ (i:Int)),(18,τ A1 e.2.2.1.length c1),(19,δ (e.2.2.1.length:Int)),(20,δ ((0:Nat):Int))] fun E4=>?_
  rw [hus]
  refine Bo (by kernel_rfl) (fun E wx=>∃ (j:Nat) (m:List (Ao×Int×Int)) (E0:Nat→Value),j≤us.length∧E=BE E0 [(3,.map (some mb)),(11,τ (some ⟨gA,fA,none⟩) l.length c),(12,δ (l.length:Int)),(13,δ (i:Int)),(18,τ A1 us.length c1),(19,δ (us.length:Int)),(20,δ (j:Int))]∧EF l []=cond (Hy (us.drop j) m).1 (EF (l.drop (i + 1)) (Hy (us.drop j) m).2) false∧m.length≤i * 10000000 + j∧Wk w wx [] [Cf.th mb m] []) (fun E _=>us.length - AL (E 20)) ⟨0,m,E4,Nat.zero_le _,rfl,by rw [List.drop_zero]; exact hv,by rw [Nat.add_zero]; exact hm,K4.pk [] [0]⟩ ?_
  clear r K2 q K4 hv hm e0 hus
  rintro E wx ⟨j,m,E0,hj,rfl,hv,hm,r⟩ p
  refine AB dH r [] fun w6 K6=>?_
  refine AG (decide ((j:Int) < (us.length:Int))) (fun c3=>?_) (fun c3=>?_)
  ·have d:j < us.length:=by have:=of_decide_eq_true c3; omega
   obtain ⟨u,hu⟩:∃ e,us[j]?=some e:=⟨_,List.getElem?_eq_getElem d⟩
   have v0:us.drop j=u :: us.drop (j + 1):=by
    have he:us[j]=u:=(List.getElem?_eq_some_iff.1 hu).2
    rw [← List.getElem_cons_drop d,he]
   rw [v0,Hy] at hv
   have d0:=h0 u (List.mem_of_getElem? hu)
   obtain ⟨gU,fU,rfl,r0,b0⟩:=hU.all (by omega)
   refine Ak Ae tN K6 [] fun w7 K7=>?_
   refine Ay (g:=gU) (off:=fU) (cap:=c1) (sz:=7) (k:=j) (len:=us.length) (some 22) d Tryz.underlying42 ?_
   refine BN 94 gU (fU + j * 7) (Ch u) (some 23) (Ag (b0 j u hu) r0 K7.B) ?_
   refine Ah dG [ι w7.heap.size (Ch u) 94] K7 [(0,0),(0,0)] fun w8 K8=>?_
   refine AP K8 (args:=[ψ (Ch u)]) (G4 u w8) fun w9 K9=>?_
   refine Ak Cv dF K9 [] fun w9 K9=>?_
   refine DN (D6 Cf (o:=CL dF) (b:=mb) (m:=m) (x:=.tmp 25) (y:=.tmp 27) (by kernel_rfl) rfl (by kernel_rfl) u.1 (by kernel_rfl) d0 (K9.H.all (K9.ix 0) _ (K9.at 0 rfl))) ?_
   refine CC 9 tM [ι w7.heap.size (Ch u) 94,ι w9.heap.size (BT ((AH m u.1).getD Cf.z)) 41] K9 [(1,0)] fun h1 k0=>?_
   refine Av k0 (mem:=[ι w7.heap.size (Ch u) 94,ι w9.heap.size (BT ((AH m u.1).getD Cf.z)) 41]) [(2,1,0),(4,0,5)] [⟨5,[(33,ψ (BT ((AH m u.1).getD Cf.z))),(35,ψ (BT u.2))],ξ (!(HV ((AH m u.1).getD (0,0)) u.2)),(AH m u.1).isSome && true⟩] (fun e' a0=>k0.G e' a0) (fun sp s=>?_) fun g1 k1 a1=>?_
   ·rw [List.mem_singleton.1 s]
    exact BQ fun _ E w _=>DD (k:=.neq) (T:=41) (a:=ψ (BT ((AH m u.1).getD Cf.z))) (b:=ψ (BT u.2)) (Qu w _ _ _ _)
   refine AB V3 a1 [] fun f1 j0=>?_
   refine AG (cond (AH m u.1).isSome (!(HV ((AH m u.1).getD (0,0)) u.2)) false) (fun c4=>?_) (fun c4=>?_) <;> rw [c4] at hv
   ·replace hv:EF l []=false:=hv
    refine AB yw j0 [] fun l0 f=>?_
    exact AK f (0,0) (ξ false) ⟨by rw [hv],f.B⟩
   replace hv:EF l []=cond (Hy (us.drop (j + 1)) ((u.1,u.2) :: m)).1 (EF (l.drop (i + 1)) (Hy (us.drop (j + 1)) ((u.1,u.2) :: m)).2) false:=hv
   refine As 11 kt j0 [] fun l0 f=>?_
   refine X8 f (mem:=[ι w7.heap.size (Ch u) 94]) [0,1,2,3,4] [(1,0,0),(4,0,5)] [⟨2,[(39,ψ (Ch u))],ψ (D1 u.1),true⟩] 5 (fun e' a0=>by rw [List.mem_singleton.1 a0]; exact f.ent 0 rfl) (fun sp s=>?_) fun v Kv=>?_
   ·rw [List.mem_singleton.1 s]
    exact AY 42 [.tmp 39] _ (fun _=>by kernel_rfl) fun hc x hx=>AQ hx (G4 u x)
   obtain ⟨v',hx,Hn,b1⟩:=Jz Cf (ρ:=A8 45 _) Kv.H (Kv.ix 0) (Kv.at 0 rfl) u.1 u.2 d0 trivial ((AR kt).getD 5 default) (t:=83) (x:=.tmp 38) (y:=.tmp 40) (z:=.tmp 42) (by kernel_rfl) rfl (by kernel_rfl) (by kernel_rfl) (by kernel_rfl) (by omega)
   refine ⟨v',hx,?_⟩
   have z0:=Kv.put 0 (by simp) b1 Hn
   refine AB (AZ dI) z0 [] fun e1 x0=>?_
   refine AU [(3,.map (some mb)),(11,τ (some ⟨gA,fA,none⟩) l.length c),(12,δ (l.length:Int)),(13,δ (i:Int)),(18,τ (some ⟨gU,fU,none⟩) us.length c1),(19,δ (us.length:Int)),(20,δ (IntKind.i64.wrap ((j:Int) + 1)))] fun d1=>?_
   rw [Bl j (by omega)]
   refine p _ _ ⟨j + 1,(u.1,u.2) :: m,d1,d,rfl,hv,by rw [List.length_cons]; omega,x0.pk [] [0]⟩ ?_
   show us.length - AL (δ ((j + 1:Nat):Int)) < us.length - AL (δ (j:Int))
   simp only [AL]
   omega
  have p0:j=us.length:=by have:=of_decide_eq_false c3; omega
  rw [p0,List.drop_length,Hy] at hv
  refine AB (AZ dJ) K6 [] fun w7 K7=>?_
  refine AU [(3,.map (some mb)),(11,τ (some ⟨gA,fA,none⟩) l.length c),(12,δ (l.length:Int)),(13,δ (IntKind.i64.wrap ((i:Int) + 1)))] fun E7=>?_
  rw [Bl i (by omega)]
  refine c0 _ _ ⟨i + 1,m,E7,h,rfl,hv,by omega,K7⟩ ?_
  show l.length - AL (δ ((i + 1:Nat):Int)) < l.length - AL (δ (i:Int))
  simp only [AL]
  omega
 have q0:i=l.length:=by have:=of_decide_eq_false c2; omega
 rw [q0,List.drop_length,EF] at hv
 refine AB yv K2 [] fun w3 q=>?_
 exact AK q (0,0) (ξ true) ⟨by rw [hv],q.B⟩
structure Oh (w:World) (b1 b2 b3:Nat) (s:GK) (sx:List (List UInt8×Gy)):Prop where
 m1:GU.at b1 s.1 w
 m2:FX.at b2 s.2.1 w
 m3:Eg.at b3 (sx.map fun q=>(q.1,FI q.2)) w
 sxe:(sx.map fun q=>(q.1,q.2.1))=s.2.2
 se:∀ q∈sx,Cs w q.2.2.1 q.2.1∧q.2.1.length≤4294967296
theorem Oh.below {w w':World} {e d c:Nat} {s:GK} {a:List (List UInt8×Gy)} (h:Oh w e d c s a) (B:Below (ε w) w w'):Oh w' e d c s a:=
 ⟨Bc.below (S:=GU) h.m1 B,Bc.below (S:=FX) h.m2 B,Bc.below (S:=Eg) h.m3 B,h.sxe,fun q b=>⟨Cl.below (h.se q b).1 B,(h.se q b).2⟩⟩
def Gj (s:GK) (u:DP) (bf:List (List UInt8×Int×Int)):Bool:=
 cond (!(AV u.2.1 u.2.2)) false
 (cond (u.1.1 == 3) (cond (cond (!(AH s.2.1 u.1.2.1).isSome) true ((AH s.1 u.1.2.1).getD false)) true (cond (AH bf u.1.2.1).isSome (HV ((AH bf u.1.2.1).getD (0,0)) u.2) false))
 (cond (u.1.1 == 4) (cond (cond (!(AH s.2.2 u.1.2.1).isSome) true (!(AV u.1.2.2.2.1 u.1.2.2.2.2))) false
  (cond ((Dc ((AH s.2.2 u.1.2.1).getD []) u.1.2.2.2.1 u.1.2.2.2.2).2.2 == 0) (HV ((Dc ((AH s.2.2 u.1.2.1).getD []) u.1.2.2.2.1 u.1.2.2.2.2).1,(Dc ((AH s.2.2 u.1.2.1).getD []) u.1.2.2.2.1 u.1.2.2.2.2).2.1) u.2) false)) true))
noncomputable def Zi:Code:=Tryz.f68.body.getD .skip
def rP:=ν [.code Zi]
def bC:=Ω rP
def ACV:=Ξ bC
def To:=Ψ bC
def bB:=AA (An (Cv) 90 (AD To)) (AD To)
def rO:=Al 6 (AC bB)
def Tn:=AI rO
def ACU:=Ξ Tn
def bA:=AA (An (Cv) 90 (AF Tn)) (AF Tn)
def rN:=Al 9 (AC bA)
def xi:=AI rN
def QF:=Ψ To
def Ur:=AA (An (Cv) 90 (AD QF)) (AD QF)
def i7:=Al 12 (AC Ur)
def Uq:=AI i7
def xh:=Ξ Uq
def i6:=Ψ Uq
def i5:=Al 15 (AC i6)
def xg:=AI i5
def xf:=Ψ QF
theorem TH (dA:Option Addr) (dn dc:Nat) (oA:Option Addr) (on oc b1 b2 b3 bb:Nat) (s:GK) (sx:List (List UInt8×Gy)) (bf:List (List UInt8×Int×Int)) (u:DP) (w:World) (hS:Oh w b1 b2 b3 s sx) (hbf:Ez.at bb bf w) (hu:H3 u.1) :
  Calls Tryz.prog 68 ([.agg ⟨CU dA dn dc oA on oc (some b1) (some b2) (some b3)⟩,.agg ⟨Ch u⟩,.map (some bb)]:List Value).toArray w fun e w'=>e=.returned (.bool (Gj s u bf))∧Below w.heap.size w w':=by
 refine AS (fn:=Tryz.f68) (c:=Zi) (n:=87) ?_
 have hnl:=hu.2.1
 have K0:=Wk.start w
 refine Ah rP [⟨w.heap.size,0,(CU dA dn dc oA on oc (some b1) (some b2) (some b3)),72,true⟩,⟨w.heap.size + 1,0,Ch u,94,true⟩] K0 [(1,5)] fun w1 K1=>?_
 refine AP K1 (args:=[.agg ⟨[δ u.2.1,δ u.2.2]⟩]) (Bt u.2.1 u.2.2 w1) fun w2 K2=>?_
 refine AB bC K2 [] fun w3 K3=>?_
 have hv:Gj s u bf=cond (!(AV u.2.1 u.2.2)) false
  (cond (u.1.1 == 3) (cond (cond (!(AH s.2.1 u.1.2.1).isSome) true ((AH s.1 u.1.2.1).getD false)) true (cond (AH bf u.1.2.1).isSome (HV ((AH bf u.1.2.1).getD (0,0)) u.2) false))
  (cond (u.1.1 == 4) (cond (cond (!(AH s.2.2 u.1.2.1).isSome) true (!(AV u.1.2.2.2.1 u.1.2.2.2.2))) false
   (cond ((Dc ((AH s.2.2 u.1.2.1).getD []) u.1.2.2.2.1 u.1.2.2.2.2).2.2 == 0) (HV ((Dc ((AH s.2.2 u.1.2.1).getD []) u.1.2.2.2.1 u.1.2.2.2.2).1,(Dc ((AH s.2.2 u.1.2.1).getD []) u.1.2.2.2.1 u.1.2.2.2.2).2.1) u.2) false)) true)):=rfl
 refine AG (!(AV u.2.1 u.2.2)) (fun c1=>?_) (fun c1=>?_) <;> rw [c1] at hv
 ·refine AB ACV K3 [] fun w4 K4=>?_
  exact AK K4 (0,0) (.bool false) ⟨by rw [hv]; rfl,K4.B⟩
 refine AB To K3 [(1,0)] fun w4 K4=>?_
 refine AG (u.1.1 == 3) (fun c2=>?_) (fun c2=>?_) <;> rw [c2] at hv
 ·refine Ak Cv bB K4 [(0,3),(1,1)] fun w5 K5=>?_
  refine DN (D6 FX (o:=CL bB) (b:=b2) (m:=s.2.1) (x:=.tmp 25) (y:=.tmp 27) (by kernel_rfl) rfl (by kernel_rfl) u.1.2.1 (by kernel_rfl) hnl (Bc.below (S:=FX) hS.m2 K5.B)) ?_
  refine As 6 rO K5 [] fun w6 K6=>?_
  refine Av K6 (mem:=[⟨w.heap.size,0,(CU dA dn dc oA on oc (some b1) (some b2) (some b3)),72,true⟩,⟨w.heap.size + 1,0,Ch u,94,true⟩]) [(4,0,2),(6,1,1)] [⟨7,[(35,.map (some b1)),(37,.string ⟨⟨u.1.2.1⟩⟩)],.bool ((AH s.1 u.1.2.1).getD false),(!(!(AH s.2.1 u.1.2.1).isSome)) && true⟩] (fun e' he'=>K6.G e' he') (fun sp hsp=>?_) fun w7 E7 K7=>?_
  ·rw [List.mem_singleton.1 hsp]
   exact BQ fun _ E x hx=>F7 GU (x:=.tmp 35) (y:=.tmp 37) (by kernel_rfl) rfl (by kernel_rfl) u.1.2.1 (by kernel_rfl) hnl (Bc.below (S:=GU) hS.m1 (K6.B.trans (hx.mono K6.B.size)))
  refine AB Tn K7 [] fun w8 K8=>?_
  refine AG (cond (!(AH s.2.1 u.1.2.1).isSome) true ((AH s.1 u.1.2.1).getD false)) (fun c3=>?_) (fun c3=>?_) <;> rw [c3] at hv
  ·refine AB ACU K8 [] fun w9 K9=>?_
   exact AK K9 (0,0) (.bool true) ⟨by rw [hv]; rfl,K9.B⟩
  refine Ak Cv bA K8 [(1,1)] fun wq K9=>?_
  refine DN (D6 Ez (o:=CL bA) (b:=bb) (m:=bf) (x:=.tmp 41) (y:=.tmp 43) (by kernel_rfl) rfl (by kernel_rfl) u.1.2.1 (by kernel_rfl) hnl (Bc.below (S:=Ez) hbf K9.B)) ?_
  refine CC 9 rN [⟨w.heap.size,0,(CU dA dn dc oA on oc (some b1) (some b2) (some b3)),72,true⟩,⟨w.heap.size + 1,0,Ch u,94,true⟩,⟨wq.heap.size,0,BT ((AH bf u.1.2.1).getD Ez.z),41,true⟩] K9 [(2,0)] fun w10 K10=>?_
  refine Av K10 (mem:=[⟨w.heap.size,0,(CU dA dn dc oA on oc (some b1) (some b2) (some b3)),72,true⟩,⟨w.heap.size + 1,0,Ch u,94,true⟩,⟨wq.heap.size,0,BT ((AH bf u.1.2.1).getD Ez.z),41,true⟩]) [(2,2,0),(4,1,5)] [⟨5,[(49,.agg ⟨BT ((AH bf u.1.2.1).getD Ez.z)⟩),(51,.agg ⟨BT u.2⟩)],.bool (HV ((AH bf u.1.2.1).getD (0,0)) u.2),(AH bf u.1.2.1).isSome && true⟩] (fun e' he'=>K10.G e' he') (fun sp hsp=>?_) fun w11 E11 K11=>?_
  ·rw [List.mem_singleton.1 hsp]
   exact BQ fun _ E x _=>DD (k:=.eql) (T:=41) (a:=.agg ⟨BT ((AH bf u.1.2.1).getD Ez.z)⟩) (b:=.agg ⟨BT u.2⟩) (FJ x _ _ _ _)
  refine AB xi K11 [] fun w12 K12=>?_
  exact AK K12 (0,0) (.bool (cond (AH bf u.1.2.1).isSome (HV ((AH bf u.1.2.1).getD (0,0)) u.2) false)) ⟨by rw [hv]; rfl,K12.B⟩
 refine AB QF K4 [] fun w5 K5=>?_
 refine AG (u.1.1 == 4) (fun c3=>?_) (fun c3=>?_) <;> rw [c3] at hv
 ·have hlk:(AH (sx.map fun q=>(q.1,FI q.2)) u.1.2.1).isSome=(AH s.2.2 u.1.2.1).isSome:=by rw [← hS.sxe,FA,FA,Option.isSome_map,Option.isSome_map]
  refine Ak Cv Ur K5 [(0,4),(1,1)] fun w6 K6=>?_
  refine DN (v:=.tuple #[Eg.ev ((AH (sx.map (fun q:List UInt8×Gy=>(q.1,FI q.2))) u.1.2.1).getD Eg.z),.bool (AH s.2.2 u.1.2.1).isSome]) (by rw [← hlk]; exact D6 Eg (o:=CL Ur) (b:=b3) (m:=sx.map (fun q:List UInt8×Gy=>(q.1,FI q.2))) (x:=.tmp 58) (y:=.tmp 60) (by kernel_rfl) rfl (by kernel_rfl) u.1.2.1 (by kernel_rfl) hnl (Bc.below (S:=Eg) hS.m3 K6.B)) ?_
  refine As 12 i7 K6 [] fun w7 K7=>?_
  refine Av K7 (mem:=[⟨w.heap.size,0,(CU dA dn dc oA on oc (some b1) (some b2) (some b3)),72,true⟩,⟨w.heap.size + 1,0,Ch u,94,true⟩]) [(4,1,3)] [⟨5,[(68,.agg ⟨[δ u.1.2.2.2.1,δ u.1.2.2.2.2]⟩)],.bool (AV u.1.2.2.2.1 u.1.2.2.2.2),(!(!(AH s.2.2 u.1.2.1).isSome)) && true⟩] (fun e' he'=>K7.G e' he') (fun sp hsp=>?_) fun w8 E8 K8=>?_
  ·rw [List.mem_singleton.1 hsp]
   exact AY 63 [.tmp 68] _ (fun _=>by kernel_rfl) fun hc x hx=>AQ hx (Bt u.1.2.2.2.1 u.1.2.2.2.2 x)
  refine AB Uq K8 [] fun w9 K9=>?_
  refine AG (cond (!(AH s.2.2 u.1.2.1).isSome) true (!(AV u.1.2.2.2.1 u.1.2.2.2.2))) (fun c4=>?_) (fun c4=>?_)
  ·rw [c4] at hv
   refine AB xh K9 [] fun w10 K10=>?_
   exact AK K10 (0,0) (.bool false) ⟨by rw [hv]; rfl,K10.B⟩
  rw [c4] at hv
  have hsm:(AH sx u.1.2.1).isSome=true:=by
   cases h0:(AH s.2.2 u.1.2.1).isSome
   ·rw [h0] at c4; cases c4
   rw [← hlk,FA,Option.isSome_map] at h0; exact h0
  obtain ⟨v,hvx⟩:=Option.isSome_iff_exists.1 hsm
  have hrow:=hS.se _ (EM hvx)
  have h22:(AH s.2.2 u.1.2.1)=some v.1:=by rw [← hS.sxe,FA,hvx]; rfl
  rw [h22] at hv
  replace hv:Gj s u bf=cond ((Dc v.1 u.1.2.2.2.1 u.1.2.2.2.2).2.2 == 0) (HV ((Dc v.1 u.1.2.2.2.1 u.1.2.2.2.2).1,(Dc v.1 u.1.2.2.2.1 u.1.2.2.2.2).2.1) u.2) false:=hv
  rw [FA,hvx,h22]
  refine AB i6 K9 [(1,3)] fun w10 K10=>?_
  refine AP K10 (args:=[.slice v.2.1 v.1.length v.2.2,.agg ⟨[δ u.1.2.2.2.1,δ u.1.2.2.2.2]⟩]) (Oz v.2.1 v.2.2 v.1 u.1.2.2.2.1 u.1.2.2.2.2 w10 (Cl.below hrow.1 K10.B) hrow.2) fun w11 K11=>?_
  generalize (Dc v.1 u.1.2.2.2.1 u.1.2.2.2.2)=q at hv K11 ⊢
  refine CC 15 i5 [⟨w.heap.size,0,(CU dA dn dc oA on oc (some b1) (some b2) (some b3)),72,true⟩,⟨w.heap.size + 1,0,Ch u,94,true⟩,⟨w11.heap.size,0,BT (q.1,q.2.1),41,true⟩] K11 [(2,0)] fun w12 K12=>?_
  refine Av K12 (mem:=[⟨w.heap.size,0,(CU dA dn dc oA on oc (some b1) (some b2) (some b3)),72,true⟩,⟨w.heap.size + 1,0,Ch u,94,true⟩,⟨w11.heap.size,0,BT (q.1,q.2.1),41,true⟩]) [(3,2,0),(5,1,5)] [⟨6,[(82,.agg ⟨BT (q.1,q.2.1)⟩),(84,.agg ⟨BT u.2⟩)],.bool (HV (q.1,q.2.1) u.2),(q.2.2 == 0) && true⟩] (fun e' he'=>K12.G e' he') (fun sp hsp=>?_) fun w13 E13 K13=>?_
  ·rw [List.mem_singleton.1 hsp]
   exact BQ fun _ E x _=>DD (k:=.eql) (T:=41) (a:=.agg ⟨BT (q.1,q.2.1)⟩) (b:=.agg ⟨BT u.2⟩) (FJ x _ _ _ _)
  refine AB xg K13 [] fun w14 K14=>?_
  exact AK K14 (0,0) (.bool (cond (q.2.2 == 0) (HV (q.1,q.2.1) u.2) false)) ⟨by rw [hv],K14.B⟩
 refine AB xf K5 [] fun w6 K6=>?_
 exact AK K6 (0,0) (.bool true) ⟨by rw [hv]; rfl,K6.B⟩
end
end Go.Proofs.YtkjbdagicjbjjaaGreat

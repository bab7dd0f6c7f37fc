/- Contracts of functions, part 37. -/
import Derived.Test.YtkjbdagicjbjjaaGreatTs36
set_option linter.all false
namespace Go.Proofs.YtkjbdagicjbjjaaGreat
noncomputable section
open Go.RowKit
set_option maxRecDepth 100000
set_option maxHeartbeats 1000000
def ID:List DP→List (Ao×Int×Int)→List (Ao×Int×Int)
 | [],m=>m
 | u :: r,m=>cond (!(AH m u.1).isSome) (ID r ((u.1,u.2) :: m)) (ID r m)
def fj (h:Nat) (d:Df) (e:C4) (m:List (Ao×Int×Int)):Bool:=cond (cond ((BJ (Bm true m [] [] []) h d ([],[])).1.2.2 == 0) (HV ((BJ (Bm true m [] [] []) h d ([],[])).1.1,(BJ (Bm true m [] [] []) h d ([],[])).1.2.1) e.2.2.2) false) (decide ((BJ (Bm true m [] [] []) h d ([],[])).2.2=e.2.2.1)) false
def Fv (h:Nat) (d:Df) (s:GK) (e:C4) (bf:List (List UInt8×Int×Int)):List DP→List (Ao×Int×Int)→Bool
 | [],m=>fj h d e m
 | u :: r,m=>cond (!(Gj s u bf)) false (cond (!(AH m u.1).isSome) (Fv h d s e bf r ((u.1,u.2) :: m)) (Fv h d s e bf r m))
def FK (ds:List Df) (s:GK) (h:Nat) (e:C4) (bf:List (List UInt8×Int×Int)):Bool:=match AH s.2.1 e.1 with
 | none=>false
 | some r=>cond (cond (!((ds.getD r.toNat default).frm == e.2.1)) true (!(AV e.2.2.2.1 e.2.2.2.2))) false (cond (AH bf e.1).isSome false (Fv h (ds.getD r.toNat default) s e bf e.2.2.1 []))
theorem YL {s:GK} {u:DP} {a:List (List UInt8×Int×Int)} (h:(!(Gj s u a))=false):AV u.2.1 u.2.2=true:=by
 cases hv:AV u.2.1 u.2.2
 ·unfold Gj at h
  rw [hv] at h
  cases h
 rfl
attribute [local irreducible] BD BP AC AD AF Ar AZ AM Aw Bk C6 BV EE C5 BO At Fr
noncomputable def SJ:Code:=Tryz.f44.body.getD .skip
def cY:=AA (An (Cv) 90 ([.code SJ])) ([.code SJ])
def cX:=Al 2 (AC cY)
def QT:=AI cX
def sa:=Ξ QT
def cW:=AA (An (Cv) 90 (AF QT)) (AF QT)
def Tv:=Ω cW
def ADK:=Ξ Tv
def cV:=AA (An (ES) 90 (AF Tv)) (AF Tv)
def Tu:=Ω cV
def QS:=ν (Ar Tu)
def jq:=AA (An (Ae) 90 (AD QS)) (AD QS)
def jp:=ν (AC (AC jq))
def VU:=Ω jp
def yG:=Ξ VU
def VT:=Ψ VU
def VS:=AA (An (Cv) 90 (AC VT)) (AC VT)
def jo:=Ω VS
def jn:=Al 15 (AD jo)
def VR:=AA (An (RL) 90 (AF QS)) (AF QS)
def VQ:=AA (An (GP 25) 90 (VR)) (VR)
def jm:=AA (An (Ae) 90 (AC VQ)) (AC VQ)
def jl:=ν (AC (AC jm))
def jk:=Al 19 (AC jl)
def yF:=AI jk
theorem TN (dA:Option Addr) (ds:List Df) (dc:Nat) (oA:Option Addr) (on oc b1 b2 b3 bb:Nat) (s:GK) (sx:List (List UInt8×Gy)) (i:List (List UInt8×Int×Int)) (e:C4) (A1:Option Addr) (c1 f:Nat) (w:World) (m1:rowsDf w dA ds) (z1:ds.length≤1000000000) (hS:Oh w b1 b2 b3 s sx) (l1:Ez.at bb i w) (hn:∀ d∈ds,nE d.body≤1000000) (g2:∀ d∈ds,Ac d=true→Fy f d.body) (v1:∀ q∈s.2.1,∃ x,x < ds.length∧q.2=(x:Int)∧Ac (ds.getD x default)=true)
  (g1:e.1.length≤4294967296) (x2:e.2.2.1.length≤10000000) (h2:∀ u∈e.2.2.1,H3 u.1) (hU:rowsUse w A1 e.2.2.1) :
  Calls Tryz.prog 44 ([ψ (CU dA ds.length dc oA on oc (some b1) (some b2) (some b3)),ψ (Dp (e,A1,c1)),.map (some bb)]:List Value).toArray w fun en w'=>en=.returned (ξ (FK ds s f e i))∧Below w.heap.size w w':=by
 refine AS (fn:=Tryz.f44) (c:=SJ) (n:=108) ?_
 have hv:(FK ds s f e i)=(match AH s.2.1 e.1 with
  | none=>false
  | some r=>cond (cond (!((ds.getD r.toNat default).frm == e.2.1)) true (!(AV e.2.2.2.1 e.2.2.2.2))) false (cond (AH i e.1).isSome false (Fv f (ds.getD r.toNat default) s e i e.2.2.1 []))):=rfl
 have K0:=Wk.start w
 refine CY Cv cY [ι w.heap.size ((CU dA ds.length dc oA on oc (some b1) (some b2) (some b3))) 72,ι (w.heap.size + 1) (Dp (e,A1,c1)) 44] K0 [(0,3),(1,0)] fun w1 K1=>?_
 refine DN (D6 FX (o:=CL cY) (b:=b2) (m:=s.2.1) (x:=.tmp 21) (y:=.tmp 23) (by kernel_rfl) rfl (by kernel_rfl) e.1 (by kernel_rfl) g1 (Bc.below (S:=FX) hS.m2 K1.B)) ?_
 cases hlk:AH s.2.1 e.1 with
 | none=>
  rw [hlk] at hv
  refine As 2 cX K1 [] fun w2 K2=>?_
  refine Av K2 (mem:=[ι w.heap.size ((CU dA ds.length dc oA on oc (some b1) (some b2) (some b3))) 72,ι (w.heap.size + 1) (Dp (e,A1,c1)) 44]) [(4,0,0),(10,1,1),(15,1,3)] [⟨6,[],ζ 0,(!true) && true⟩,⟨8,[],δ 0,(!true) && true⟩,⟨16,[],ξ true,(!true) && true⟩] (fun e' d0=>K2.G e' d0) (fun sp a0=>?_) fun w3 E3 K3=>?_
  ·simp only [List.mem_cons,List.not_mem_nil,or_false] at a0
   rcases a0 with rfl | rfl | rfl <;> exact fun hc=>by cases hc
  refine AB QT K3 [] fun w4 K4=>?_
  refine AG true (fun _=>?_) (fun h0=>by cases h0)
  refine AB sa K4 [] fun w5 K5=>?_
  exact AK K5 (0,0) (ξ false) ⟨by rw [hv],K5.B⟩
 | some r=>
 rw [hlk] at hv
 obtain ⟨x,hx,rfl,t1⟩:=v1 _ (EM hlk)
 replace hv:(FK ds s f e i)=cond (cond (!((ds.getD x default).frm == e.2.1)) true (!(AV e.2.2.2.1 e.2.2.2.2))) false (cond (AH i e.1).isSome false (Fv f (ds.getD x default) s e i e.2.2.1 [])):=hv
 obtain ⟨gd,fd,rfl,s0,h1⟩:=m1.all (by omega)
 have i1:ds[x]?=some (ds.getD x default):=getD_some default hx
 have t0:=DR (l:=ds) hx
 obtain ⟨B1,k1,B2,k2,r0,l2,n1⟩:=h1 x _ i1
 have l0:=g2 _ t0 t1
 have x1:=hn _ t0
 generalize ds.getD x default=d at hv r0 l2 n1 l0 x1
 refine As 2 cX K1 [] fun w2 K2=>?_
 refine Av K2 (mem:=[ι w.heap.size ((CU (some ⟨gd,fd,none⟩) ds.length dc oA on oc (some b1) (some b2) (some b3))) 72,ι (w.heap.size + 1) (Dp (e,A1,c1)) 44,⟨gd,fd + x * 21,Bg d B1 k1 B2 k2,59,false⟩]) [(4,0,0),(8,2,6),(10,1,1),(15,1,3)] [⟨6,[(31,τ (some ⟨gd,fd,none⟩) ds.length dc),(32,δ (x:Int))],.pointer (some ⟨gd,fd + x * 21,none⟩),(!false) && true⟩,⟨16,[(42,ψ (BT e.2.2.2))],ξ (AV e.2.2.2.1 e.2.2.2.2),(!(cond false true (!(d.frm == e.2.1)))) && true⟩] (fun e' d0=>?_) (fun sp a0=>?_) fun w3 E3 K3=>?_
 ·simp only [List.mem_cons,List.not_mem_nil,or_false] at d0
  rcases d0 with rfl | rfl | rfl
  ·exact K2.ent 0 rfl
  ·exact K2.ent 1 rfl
  exact ⟨Nat.lt_of_lt_of_le s0 K2.B.size,Ag r0 s0 K2.B⟩
 ·simp only [List.mem_cons,List.not_mem_nil,or_false] at a0
  rcases a0 with rfl | rfl
  ·exact BQ fun _ E u _=>CE (sz:=21) (k:=x) (len:=ds.length) (cap:=dc) 25 (.tmp 31) (.tmp 32) hx Tryz.underlying25
  exact AY 63 [.tmp 42] _ (fun _=>by kernel_rfl) fun hc y hy=>AQ hy (Bt e.2.2.2.1 e.2.2.2.2 y)
 refine AB QT K3 [] fun w4 K4=>?_
 refine AG (cond (!(d.frm == e.2.1)) true (!(AV e.2.2.2.1 e.2.2.2.2))) (fun x0=>?_) (fun x0=>?_) <;> rw [x0] at hv
 ·refine AB sa K4 [] fun w5 K5=>?_
  exact AK K5 (0,0) (ξ false) ⟨by rw [hv]; rfl,K5.B⟩
 replace hv:(FK ds s f e i)=cond (AH i e.1).isSome false (Fv f d s e i e.2.2.1 []):=hv
 refine Ak Cv cW K4 [(1,0)] fun w5 K5=>?_
 refine DN (D6 Ez (o:=CL cW) (b:=bb) (m:=i) (x:=.tmp 47) (y:=.tmp 49) (by kernel_rfl) rfl (by kernel_rfl) e.1 (by kernel_rfl) g1 (Bc.below (S:=Ez) l1 K5.B)) ?_
 refine Ah Tv [ι w.heap.size ((CU (some ⟨gd,fd,none⟩) ds.length dc oA on oc (some b1) (some b2) (some b3))) 72,ι (w.heap.size + 1) (Dp (e,A1,c1)) 44,ι w5.heap.size (BT ((AH i e.1).getD Ez.z)) 41] K5 [(2,0)] fun w6 K6=>?_
 refine AG (AH i e.1).isSome (fun w0=>?_) (fun w0=>?_) <;> rw [w0] at hv
 ·refine AB ADK K6 [] fun w7 K7=>?_
  exact AK K7 (0,0) (ξ false) ⟨by rw [hv]; rfl,K7.B⟩
 replace hv:(FK ds s f e i)=Fv f d s e i e.2.2.1 []:=hv
 have o1:Wk w w6 [ι w.heap.size ((CU (some ⟨gd,fd,none⟩) ds.length dc oA on oc (some b1) (some b2) (some b3))) 72,ι (w.heap.size + 1) (Dp (e,A1,c1)) 44] [] []:=K6.pk [0,1] []
 refine Ak ES cV o1 [] fun w7 K7=>?_
 refine FV Cf K7.H (CL cV) (by kernel_rfl) (t:=83) (by kernel_rfl) fun w8 _ Hn b8=>?_
 have K8:=K7.add b8 Hn
 generalize w7.heap.size=mb at K8 ⊢
 refine AB Tu K8 [(1,2)] fun w9 K9=>?_
 clear K0 K1 K2 K3 K4 K5 K6 o1 K7 K8 Hn b8 x0 w0 hlk h1 i1 t0
 refine AU [(2,.map (some bb)),(3,ζ (w.heap.size)),(4,ζ (w.heap.size + 1)),(7,δ (x:Int)),(11,.map (some mb)),(56,τ A1 e.2.2.1.length c1),(57,δ (e.2.2.1.length:Int)),(58,δ ((0:Nat):Int))] fun E9=>?_
 refine Bo (by kernel_rfl) (fun E wx=>∃ (j:Nat) (m:List (Ao×Int×Int)) (E0:Nat→Value),j≤e.2.2.1.length∧E=BE E0 [(2,.map (some bb)),(3,ζ (w.heap.size)),(4,ζ (w.heap.size + 1)),(7,δ (x:Int)),(11,.map (some mb)),(56,τ A1 e.2.2.1.length c1),(57,δ (e.2.2.1.length:Int)),(58,δ (j:Int))]∧(FK ds s f e i)=Fv f d s e i (e.2.2.1.drop j) m∧m.length≤j∧Dg m∧Wk w wx [ι w.heap.size ((CU (some ⟨gd,fd,none⟩) ds.length dc oA on oc (some b1) (some b2) (some b3))) 72,ι (w.heap.size + 1) (Dp (e,A1,c1)) 44] [Cf.th mb m] []) (fun E _=>e.2.2.1.length - AL (E 58)) ⟨0,[],E9,Nat.zero_le _,rfl,by rw [List.drop_zero]; exact hv,Nat.le_refl _,(fun p hp=>by cases hp),K9⟩ ?_
 clear K9 hv
 rintro E wx ⟨j,m,E0,hj,rfl,hv,hm,q0,K1⟩ j0
 refine AB QS K1 [] fun w2 K2=>?_
 refine AG (decide ((j:Int) < (e.2.2.1.length:Int))) (fun c2=>?_) (fun c2=>?_)
 ·have i0:j < e.2.2.1.length:=by have:=of_decide_eq_true c2; omega
  obtain ⟨u,hu⟩:∃ u,e.2.2.1[j]?=some u:=⟨_,List.getElem?_eq_getElem i0⟩
  have i2:e.2.2.1.drop j=u :: e.2.2.1.drop (j + 1):=by
   have he:e.2.2.1[j]=u:=(List.getElem?_eq_some_iff.1 hu).2
   rw [← List.getElem_cons_drop i0,he]
  rw [i2,Fv] at hv
  have p0:=h2 u (List.mem_of_getElem? hu)
  obtain ⟨gU,fU,rfl,e2,v0⟩:=hU.all (by omega)
  refine Ak Ae jq K2 [] fun w3 K3=>?_
  refine Ay (g:=gU) (off:=fU) (cap:=c1) (sz:=7) (k:=j) (len:=e.2.2.1.length) (some 60) i0 Tryz.underlying42 ?_
  refine BN 94 gU (fU + j * 7) (Ch u) (some 61) (Ag (v0 j u hu) e2 K3.B) ?_
  refine Ah jp [ι w.heap.size ((CU (some ⟨gd,fd,none⟩) ds.length dc oA on oc (some b1) (some b2) (some b3))) 72,ι (w.heap.size + 1) (Dp (e,(some ⟨gU,fU,none⟩),c1)) 44,ι w3.heap.size (Ch u) 94] K3 [(2,0),(0,0),(2,0)] fun w4 K4=>?_
  refine AP K4 (args:=[ψ (CU (some ⟨gd,fd,none⟩) ds.length dc oA on oc (some b1) (some b2) (some b3)),ψ (Ch u),.map (some bb)]) (TH (some ⟨gd,fd,none⟩) ds.length dc oA on oc b1 b2 b3 bb s sx i u w4 (hS.below K4.B) (Bc.below (S:=Ez) l1 K4.B) p0) fun w5 K5=>?_
  refine AB VU K5 [] fun w6 K6=>?_
  refine AG (!(Gj s u i)) (fun c3=>?_) (fun c3=>?_)
  ·rw [c3] at hv
   refine AB yG K6 [] fun w7 K7=>?_
   exact AK K7 (0,0) (ξ false) ⟨by rw [hv]; rfl,K7.B⟩
  have d1:=YL c3
  rw [c3] at hv
  replace hv:(FK ds s f e i)=cond (!(AH m u.1).isSome) (Fv f d s e i (e.2.2.1.drop (j + 1)) ((u.1,u.2) :: m)) (Fv f d s e i (e.2.2.1.drop (j + 1)) m):=hv
  refine AB VT K6 [(2,0)] fun w7 K7=>?_
  refine AP K7 (args:=[ψ (Ch u)]) (G4 u w7) fun w7 K7=>?_
  refine Ak Cv VS K7 [] fun w7 K7=>?_
  refine DN (D6 Cf (o:=CL VS) (b:=mb) (m:=m) (x:=.tmp 68) (y:=.tmp 70) (by kernel_rfl) rfl (by kernel_rfl) u.1 (by kernel_rfl) p0 (K7.H.all (K7.ix 0) _ (K7.at 0 rfl))) ?_
  refine Ah jo [ι w.heap.size ((CU (some ⟨gd,fd,none⟩) ds.length dc oA on oc (some b1) (some b2) (some b3))) 72,ι (w.heap.size + 1) (Dp (e,(some ⟨gU,fU,none⟩),c1)) 44,ι w3.heap.size (Ch u) 94,ι w7.heap.size (BT ((AH m u.1).getD Cf.z)) 41] K7 [(3,0)] fun w8 K8=>?_
  refine AG (!(AH m u.1).isSome) (fun c4=>?_) (fun c4=>?_) <;> rw [c4] at hv
  ·replace hv:(FK ds s f e i)=Fv f d s e i (e.2.2.1.drop (j + 1)) ((u.1,u.2) :: m):=hv
   refine As 15 jn K8 [] fun w9 K9=>?_
   refine X8 K9 (mem:=[ι w3.heap.size (Ch u) 94]) [0,1,2,3,4] [(1,0,0),(4,0,5)] [⟨2,[(77,ψ (Ch u))],ψ (D1 u.1),true⟩] 5 (fun e' d0=>by rw [List.mem_singleton.1 d0]; exact K9.ent 2 rfl) (fun sp a0=>?_) fun v Kv=>?_
   ·rw [List.mem_singleton.1 a0]
    exact AY 42 [.tmp 77] _ (fun _=>by kernel_rfl) fun hc y hy=>AQ hy (G4 u y)
   obtain ⟨v',u1,Hn,o2⟩:=Jz Cf (ρ:=A8 108 _) Kv.H (Kv.ix 0) (Kv.at 0 rfl) u.1 u.2 p0 trivial ((AR jn).getD 5 default) (t:=83) (x:=.tmp 76) (y:=.tmp 78) (z:=.tmp 80) (by kernel_rfl) rfl (by kernel_rfl) (by kernel_rfl) (by kernel_rfl) (by omega)
   refine ⟨v',u1,?_⟩
   have p2:=Kv.put 0 (by simp) o2 Hn
   refine AB (AZ Tu) p2 [] fun q1 z0=>?_
   refine AU [(2,.map (some bb)),(3,ζ (w.heap.size)),(4,ζ (w.heap.size + 1)),(7,δ (x:Int)),(11,.map (some mb)),(56,τ (some ⟨gU,fU,none⟩) e.2.2.1.length c1),(57,δ (e.2.2.1.length:Int)),(58,δ (IntKind.i64.wrap ((j:Int) + 1)))] fun a1=>?_
   rw [Bl j (by omega)]
   refine j0 _ _ ⟨j + 1,(u.1,u.2) :: m,a1,i0,rfl,hv,by rw [List.length_cons]; omega,(fun p hp=>?_),z0.pk [0,1] [0]⟩ ?_
   ·rcases List.mem_cons.1 hp with rfl | hp
    ·exact vR.valid 0 d1
    exact q0 p hp
   show e.2.2.1.length - AL (δ ((j + 1:Nat):Int)) < e.2.2.1.length - AL (δ (j:Int))
   simp only [AL]
   omega
  replace hv:(FK ds s f e i)=Fv f d s e i (e.2.2.1.drop (j + 1)) m:=hv
  refine AB (AZ Tu) K8 [] fun q1 z0=>?_
  refine AU [(2,.map (some bb)),(3,ζ (w.heap.size)),(4,ζ (w.heap.size + 1)),(7,δ (x:Int)),(11,.map (some mb)),(56,τ (some ⟨gU,fU,none⟩) e.2.2.1.length c1),(57,δ (e.2.2.1.length:Int)),(58,δ (IntKind.i64.wrap ((j:Int) + 1)))] fun a1=>?_
  rw [Bl j (by omega)]
  refine j0 _ _ ⟨j + 1,m,a1,i0,rfl,hv,by omega,q0,z0.pk [0,1] [0]⟩ ?_
  show e.2.2.1.length - AL (δ ((j + 1:Nat):Int)) < e.2.2.1.length - AL (δ (j:Int))
  simp only [AL]
  omega
 have a2:j=e.2.2.1.length:=by have:=of_decide_eq_false c2; omega
 rw [a2,List.drop_length,Fv] at hv
 refine Ak RL VR K2 [] fun w3 K3=>?_
 refine AU [(3,ζ (w.heap.size)),(4,ζ (w.heap.size + 1)),(7,δ (x:Int)),(82,.map (some mb))] fun E3=>?_
 have KF:=Wk.start w3
 refine CY (GP 25) VQ [(DC w3.heap.size true (some mb) none none none 0 0 none none 0 0)] KF [(0,0)] fun w4 K4=>?_
 have f1:=K3.ent 0 rfl
 refine Dz 25 w.heap.size 0 (τ (some ⟨gd,fd,none⟩) ds.length dc) (some 86) (by simpa using Ag (Gn f1) f1.1 K4.B 0 _ rfl) ?_
 refine Ak Ae jm K4 [] fun w5 K5=>?_
 refine Ay (g:=gd) (off:=fd) (cap:=dc) (sz:=21) (k:=x) (len:=ds.length) (some 88) hx Tryz.underlying25 ?_
 refine BN 59 gd (fd + x * 21) _ (some 89) (Ag r0 s0 (K3.B.trans (K5.B.mono K3.B.size))) ?_
 refine AB jl K5 [] fun w9 K9=>?_
 refine BA (Ny w3 w3.heap.size true (some mb) none none none [] 0 m [] [] q0 (K3.H.all (K3.ix 0) _ (K3.at 0 rfl)) rfl rfl (fun q hq=>by cases hq) ⟨[],trivial,.inl rfl⟩ (Nat.zero_le _) (fun q hq=>by cases hq) f d l0 [] none [] none [] 0 B1 k1 B2 k2 w9 (n1.below K3.B) (by simp only [List.length_nil]; omega) (by simp only [List.length_nil]; omega) (fun p hp=>by cases hp) K9.B ((Aj.add K9.H (Cf.thO none []) rfl (fun _ h=>h)).addNil 94 7 (fun e r=>r=Ch e))) fun en m0 hh=>?_
 obtain ⟨g0,c0,b0,rfl,n2,k0⟩:=hh
 refine ⟨_,rfl,?_⟩
 rw [SB] at k0 ⊢
 replace hv:(FK ds s f e i)=cond (cond ((BJ (Bm true m [] [] []) f d ([],[])).1.2.2 == 0) (HV ((BJ (Bm true m [] [] []) f d ([],[])).1.1,(BJ (Bm true m [] [] []) f d ([],[])).1.2.1) e.2.2.2) false) (decide ((BJ (Bm true m [] [] []) f d ([],[])).2.2=e.2.2.1)) false:=hv
 change Aj _ _ ([Th.ent (DC w3.heap.size true (some mb) none none none 0 0 g0 c0 (BJ (Bm true m [] [] []) f d ([],[])).2.2.length b0),Cf.thO g0 (BJ (Bm true m [] [] []) f d ([],[])).2.1,CH c0 b0 (BJ (Bm true m [] [] []) f d ([],[])).2.2]++[]) at k0
 show At _ _ _ _ (Fr _ (Aw _ _ (DT (BJ (Bm true m [] [] []) f d ([],[])).1))) _
 have e1:(BJ (Bm true m [] [] []) f d ([],[])).2.2.length≤4294967296:=by
  have d2:=(HH (Bm true m [] [] []) f d.body ([],[])).2
  have he:(BJ (Bm true m [] [] []) f d ([],[])).2=(BH (Bm true m [] [] []) f d.body ([],[])).2:=by
   unfold BJ
   cases !((BH (Bm true m [] [] []) f d.body ([],[])).1.2.2 == 0)
   ·cases d.kind == 4 <;> rfl
   rfl
  rw [he]
  simp only [List.length_nil] at d2
  omega
 generalize hR:(BJ (Bm true m [] [] []) f d ([],[]))=rq at hv k0 e1 ⊢
 obtain ⟨⟨r1,r2,r3⟩,s1⟩:=rq
 have s2:Wk w m0 [ι w.heap.size ((CU (some ⟨gd,fd,none⟩) ds.length dc oA on oc (some b1) (some b2) (some b3))) 72,ι (w.heap.size + 1) (Dp (e,A1,c1)) 44,(DC w3.heap.size true (some mb) none none none 0 0 g0 c0 s1.2.length b0)] ([Cf.th mb m]++[Cf.thO g0 s1.1,CH c0 b0 s1.2]) []:=K3.joinE n2 k0
 clear k0 hR
 refine CC 19 jk [ι w.heap.size ((CU (some ⟨gd,fd,none⟩) ds.length dc oA on oc (some b1) (some b2) (some b3))) 72,ι (w.heap.size + 1) (Dp (e,A1,c1)) 44,(DC w3.heap.size true (some mb) none none none 0 0 g0 c0 s1.2.length b0),ι m0.heap.size (BT (r1,r2)) 41] s2 [(3,0)] fun v2 e0=>?_
 refine Av e0 (mem:=[ι w.heap.size ((CU (some ⟨gd,fd,none⟩) ds.length dc oA on oc (some b1) (some b2) (some b3))) 72,ι (w.heap.size + 1) (Dp (e,A1,c1)) 44,(DC w3.heap.size true (some mb) none none none 0 0 g0 c0 s1.2.length b0),ι m0.heap.size (BT (r1,r2)) 41]) [(3,3,0),(5,1,3),(10,2,6),(12,1,2)] [⟨6,[(96,ψ (BT (r1,r2))),(98,ψ (BT e.2.2.2))],ξ (HV (r1,r2) e.2.2.2),(r3 == 0) && true⟩,⟨13,[(103,τ c0 s1.2.length b0),(105,τ A1 e.2.2.1.length c1)],ξ (decide (s1.2=e.2.2.1)),(cond (r3 == 0) (HV (r1,r2) e.2.2.2) false) && true⟩] (fun e' d0=>e0.G e' d0) (fun sp a0=>?_) fun u2 z2 q2=>?_
 ·simp only [List.mem_cons,List.not_mem_nil,or_false] at a0
  rcases a0 with rfl | rfl
  ·exact BQ fun _ E y _=>DD (k:=.eql) (T:=41) (a:=ψ (BT (r1,r2))) (b:=ψ (BT e.2.2.2)) (FJ y _ _ _ _)
  exact AY 69 [.tmp 103,.tmp 105] _ (fun _=>by kernel_rfl) fun hc y hy=>AQ hy (gZ c0 A1 s1.2 e.2.2.1 b0 c1 y (Cl.below (e0.H.rowsUse (e0.ix 2) (e0.at 2 rfl)) hy) (Cl.below hU (e0.B.trans (hy.mono e0.B.size))) e1 (by omega))
 refine AB yF q2 [] fun t2 p1=>?_
 exact AK p1 (0,0) (ξ (cond (cond (r3 == 0) (HV (r1,r2) e.2.2.2) false) (decide (s1.2=e.2.2.1)) false)) ⟨by rw [hv],p1.B⟩
end
end Go.Proofs.YtkjbdagicjbjjaaGreat
namespace Go.Proofs.YtkjbdagicjbjjaaGreat
noncomputable section
open Go.RowKit
set_option maxRecDepth 100000
set_option maxHeartbeats 1000000
def HL (ds:List Df) (s:GK) (h:Nat):List C4→List (List UInt8×Int×Int)→Bool
 | [],_=>true
 | e :: r,bf=>cond (!(FK ds s h e bf)) false (HL ds s h r ((e.1,e.2.2.2) :: bf))
def Ha (n:List UInt8) (ds:List Df) (day:Int) (h:Nat) (l:List C4):Bool:=cond (cond (cond (!(CJ n ds day == 0)) true ((l.length:Int) == 0)) true (!(EF l []))) false (HL ds (Ap n ds day) h l [])
attribute [local irreducible] BD BP AC AD AF Ar AZ AM Aw Bk C6 BV EE C5 BO At Fr
noncomputable def ZT:Code:=Tryz.f30.body.getD .skip
def qm:=ν [.code ZT]
def ak:=Al 2 (AC qm)
def QA:=AI ak
def ql:=Ξ QA
def aj:=AA (An (ES) 90 (AF QA)) (AF QA)
def ai:=Ω aj
def Td:=ν (Ar ai)
def qk:=AA (An (Ae) 90 (AD Td)) (AD Td)
def qj:=ν (AC (AC qk))
def Tc:=Ω qj
def xJ:=Ξ Tc
def iY:=AA (An (Eh) 90 (AF Tc)) (AF Tc)
def xI:=Ψ Td
theorem NJ (a:List UInt8) (i:Option Addr) (ds:List Df) (h:Nat) (day:Int) (b:Nat) (A:Option Addr) (l:List C4) (c:Nat) (w:World) (d0:rowsDf w i ds) (a0:ds.length≤1000000000) (q0:ds.length≤h) (hs:a.length≤4294967296) (ht:∀ d∈ds,Fc d) (l0:∀ d∈ds,Dm d.body) (hn:∀ d∈ds,nE d.body≤1000000) (f1:∀ d∈ds,Ac d=true→Fy b d.body) (hA:rowsSt w A l) (b0:JH l) :
  Calls Tryz.prog 30 ([ψ [η a,τ i ds.length h],δ day,τ A l.length c]:List Value).toArray w fun e w'=>((Ha a ds day b l)=false∧e=.returned (.tuple #[ψ (CU none 0 0 none 0 0 none none none),ξ false])∧Below w.heap.size w w')∨∃ u s r m p,∃ (sx:List (List UInt8×Gy)),(Ha a ds day b l)=true∧e=.returned (.tuple #[ψ (CU i ds.length h u (Ad a ds day).1.length s (some r) (some m) (some p)),ξ true])∧Below w.heap.size w w'∧Aj w.heap.size w' [BS u s (Ad a ds day).1,GU.th r (Ap a ds day).1,FX.th m (Ap a ds day).2.1,Eg.th p (sx.map fun q=>(q.1,FI q.2))]:=by
 refine AS (fn:=Tryz.f30) (c:=ZT) (n:=52) ?_
 have hv:(Ha a ds day b l)=cond (cond (cond (!((CJ a ds day) == 0)) true ((l.length:Int) == 0)) true (!(EF l []))) false (HL ds (Ap a ds day) b l []):=rfl
 have K0:=Wk.start w
 refine Ah qm [ι w.heap.size [η a,τ i ds.length h] 27,ι (w.heap.size + 1) ((CU none 0 0 none 0 0 none none none)) 72] K0 [(0,0)] fun w1 K1=>?_
 refine BA (Ou a i ds h day w w1 d0 K1.B a0 q0 hs ht l0 hn) fun en w2 hh=>?_
 rcases hh with ⟨rfl,a1,m⟩ | ⟨u,s,r,m,p,sx,z0,rfl,v0,k0,bw,Hn⟩
 ·refine ⟨_,rfl,?_⟩
  have K2:=K1.below m
  have hc:(!((CJ a ds day) == 0))=true:=by simpa using a1
  refine CC 2 ak [ι w.heap.size [η a,τ i ds.length h] 27,ι (w.heap.size + 1) ((CU none 0 0 none 0 0 none none none)) 72,ι w2.heap.size ((CU none 0 0 none 0 0 none none none)) 72] K2 [(2,0)] fun w3 o=>?_
  refine Av o (mem:=[]) [] [⟨9,[(27,τ A l.length c)],ξ (EF l []),(!(cond (!((CJ a ds day) == 0)) true ((l.length:Int) == 0))) && true⟩] (fun e' g0=>by cases g0) (fun sp e0=>?_) fun w4 E4 f=>?_
  ·rw [List.mem_singleton.1 e0]
   exact AY 43 [.tmp 27] _ (fun _=>by kernel_rfl) fun hc y hy=>AQ hy (L7 A l c y (hA.below (o.B.trans (hy.mono o.B.size))) b0)
  refine AB QA f [] fun w5 K5=>?_
  have p0:(cond (cond (!((CJ a ds day) == 0)) true ((l.length:Int) == 0)) true (!(EF l [])))=true:=by rw [hc]; rfl
  rw [p0] at hv
  refine AG (cond (cond (!((CJ a ds day) == 0)) true ((l.length:Int) == 0)) true (!(EF l []))) (fun _=>?_) (fun h0=>by rw [p0] at h0; cases h0)
  refine AB ql K5 [(1,0)] fun w6 v=>?_
  exact AK v (1,0) (.tuple #[ψ (CU none 0 0 none 0 0 none none none),ξ false]) (.inl ⟨hv,rfl,v.B⟩)
 refine ⟨_,rfl,?_⟩
 have K2:=K1.join bw Hn
 have w0:=KW (n:=a) (ds:=ds) (day:=day)
 generalize hws:w2=ws at K2 ⊢
 clear Hn bw
 show At _ _ _ _ (Fr _ (Aw _ _ (.tuple #[ψ (CU i ds.length h u (Ad a ds day).1.length s (some r) (some m) (some p)),δ 0]))) _
 rw [← z0]
 refine CC 2 ak [ι w.heap.size [η a,τ i ds.length h] 27,ι (w.heap.size + 1) ((CU none 0 0 none 0 0 none none none)) 72,ι ws.heap.size ((CU i ds.length h u (Ad a ds day).1.length s (some r) (some m) (some p))) 72] K2 [(2,0)] fun w3 o=>?_
 refine Av o (mem:=[]) [] [⟨9,[(27,τ A l.length c)],ξ (EF l []),(!(cond (!((CJ a ds day) == 0)) true ((l.length:Int) == 0))) && true⟩] (fun e' g0=>by cases g0) (fun sp e0=>?_) fun w4 E4 f=>?_
 ·rw [List.mem_singleton.1 e0]
  exact AY 43 [.tmp 27] _ (fun _=>by kernel_rfl) fun hc y hy=>AQ hy (L7 A l c y (hA.below (o.B.trans (hy.mono o.B.size))) b0)
 refine AB QA f [] fun w5 K5=>?_
 refine AG (cond (cond (!((CJ a ds day) == 0)) true ((l.length:Int) == 0)) true (!(EF l []))) (fun cc=>?_) (fun cc=>?_) <;> rw [cc] at hv
 ·refine AB ql K5 [(1,0)] fun w6 v=>?_
  exact AK v (1,0) (.tuple #[ψ (CU none 0 0 none 0 0 none none none),ξ false]) (.inl ⟨hv,rfl,v.B⟩)
 replace hv:(Ha a ds day b l)=HL ds (Ap a ds day) b l []:=hv
 refine Ak ES aj K5 [] fun w6 v=>?_
 refine FV Ez v.H (CL aj) (by kernel_rfl) (t:=79) (by kernel_rfl) fun w7 _ Hn b7=>?_
 have K7:=v.add b7 Hn
 generalize w6.heap.size=bb at K7 ⊢
 refine AB ai K7 [] fun w8 K8=>?_
 refine AU [(6,ζ (w.heap.size + 1)),(8,ζ (ws.heap.size)),(10,.map (some bb)),(33,τ A l.length c),(34,δ (l.length:Int)),(35,δ ((0:Nat):Int))] fun E8=>?_
 refine Bo (by kernel_rfl) (fun E wx=>∃ (j:Nat) (bf:List (List UInt8×Int×Int)) (E0:Nat→Value),j≤l.length∧E=BE E0 [(6,ζ (w.heap.size + 1)),(8,ζ (ws.heap.size)),(10,.map (some bb)),(33,τ A l.length c),(34,δ (l.length:Int)),(35,δ (j:Int))]∧(Ha a ds day b l)=HL ds (Ap a ds day) b (l.drop j) bf∧bf.length≤j∧Wk w wx [ι w.heap.size [η a,τ i ds.length h] 27,ι (w.heap.size + 1) ((CU none 0 0 none 0 0 none none none)) 72,ι ws.heap.size ((CU i ds.length h u (Ad a ds day).1.length s (some r) (some m) (some p))) 72] [BS u s (Ad a ds day).1,GU.th r (Ap a ds day).1,FX.th m (Ap a ds day).2.1,Eg.th p (sx.map fun q=>(q.1,FI q.2)),Ez.th bb bf] []) (fun E _=>l.length - AL (E 35)) ⟨0,[],E8,Nat.zero_le _,rfl,by rw [List.drop_zero]; exact hv,Nat.le_refl _,K8⟩ ?_
 clear K8 K7 v K5 f o K2 K1 K0 hv Hn b7 cc
 rintro E wx ⟨j,bf,E0,hj,rfl,hv,l1,K1⟩ j0
 refine AB Td K1 [] fun w2 K2=>?_
 refine AG (decide ((j:Int) < (l.length:Int))) (fun c1=>?_) (fun c1=>?_)
 ·have c0:j < l.length:=by have:=of_decide_eq_true c1; omega
  obtain ⟨e,he⟩:∃ e,l[j]?=some e:=⟨_,List.getElem?_eq_getElem c0⟩
  have i1:l.drop j=e :: l.drop (j + 1):=by
   have he:l[j]=e:=(List.getElem?_eq_some_iff.1 he).2
   rw [← List.getElem_cons_drop c0,he]
  rw [i1,HL] at hv
  have k1:=b0.1
  obtain ⟨m0,g1,h1⟩:=b0.2 e (List.mem_of_getElem? he)
  obtain ⟨gA,fA,rfl,e1,r0⟩:=hA.all (by omega)
  obtain ⟨A1,i0,x0,hU⟩:=r0 j e he
  refine Ak Ae qk K2 [] fun w3 o=>?_
  refine Ay (g:=gA) (off:=fA) (cap:=c) (sz:=5) (k:=j) (len:=l.length) (some 37) c0 Tryz.underlying29 ?_
  refine BN 44 gA (fA + j * 5) _ (some 38) (Ag x0 e1 o.B) ?_
  refine Ah qj [ι w.heap.size [η a,τ i ds.length h] 27,ι (w.heap.size + 1) ((CU none 0 0 none 0 0 none none none)) 72,ι ws.heap.size ((CU i ds.length h u (Ad a ds day).1.length s (some r) (some m) (some p))) 72,ι w3.heap.size (Dp (e,A1,i0)) 44] o [(3,0),(2,0),(3,0)] fun w4 f=>?_
  have s0:Oh w4 r m p (Ap a ds day) sx:=⟨f.H.all (f.ix 1) _ (f.at 1 rfl),f.H.all (f.ix 2) _ (f.at 2 rfl),f.H.all (f.ix 3) _ (f.at 3 rfl),v0,fun q hq=>⟨Cl.below (k0 q hq).1 f.B,(k0 q hq).2⟩⟩
  refine AP f (args:=[ψ (CU i ds.length h u (Ad a ds day).1.length s (some r) (some m) (some p)),ψ (Dp (e,A1,i0)),.map (some bb)]) (TN i ds h u (Ad a ds day).1.length s r m p bb (Ap a ds day) sx bf e A1 i0 b w4 (d0.below f.B) a0 s0 (f.H.all (f.ix 4) _ (f.at 4 rfl)) hn f1 (fun q hq=>by obtain ⟨x,hx,rfl,t0⟩:=w0 q hq; exact ⟨x,Ew _ hx,rfl,t0⟩) m0 g1 h1 (Cl.below hU f.B)) fun w5 K5=>?_
  refine AB Tc K5 [] fun w6 v=>?_
  refine AG (!(FK ds (Ap a ds day) b e bf)) (fun c2=>?_) (fun c2=>?_) <;> rw [c2] at hv
  ·refine AB xJ v [(1,0)] fun w7 K7=>?_
   exact AK K7 (1,0) (.tuple #[ψ (CU none 0 0 none 0 0 none none none),ξ false]) (.inl ⟨hv,rfl,K7.B⟩)
  replace hv:(Ha a ds day b l)=HL ds (Ap a ds day) b (l.drop (j + 1)) ((e.1,e.2.2.2) :: bf):=hv
  refine Ak Eh iY v [(3,0),(3,3)] fun w7 K7=>?_
  refine GC Ez K7.H (K7.ix 4) (K7.at 4 rfl) e.1 e.2.2.2 m0 trivial (CL iY) (by kernel_rfl) (t:=79) (x:=.tmp 45) (y:=.tmp 47) (z:=.tmp 49) (by kernel_rfl) rfl (by kernel_rfl) (by kernel_rfl) (by kernel_rfl) (by omega) fun w8 Hn b8=>?_
  have K8:=K7.put 4 (by simp) b8 Hn
  refine AB (AZ ai) K8 [] fun w9 K9=>?_
  refine AU [(6,ζ (w.heap.size + 1)),(8,ζ (ws.heap.size)),(10,.map (some bb)),(33,τ (some ⟨gA,fA,none⟩) l.length c),(34,δ (l.length:Int)),(35,δ (IntKind.i64.wrap ((j:Int) + 1)))] fun E9=>?_
  rw [Bl j (by omega)]
  refine j0 _ _ ⟨j + 1,(e.1,e.2.2.2) :: bf,E9,c0,rfl,hv,by rw [List.length_cons]; omega,K9.pk [0,1,2] [0,1,2,3,4]⟩ ?_
  show l.length - AL (δ ((j + 1:Nat):Int)) < l.length - AL (δ (j:Int))
  simp only [AL]
  omega
 have d1:j=l.length:=by have:=of_decide_eq_false c1; omega
 rw [d1,List.drop_length,HL] at hv
 refine Am xI K2 [(2,0),(1,0)] fun w3 o=>?_
 refine AK o (1,0) (.tuple #[ψ (CU i ds.length h u (Ad a ds day).1.length s (some r) (some m) (some p)),ξ true]) (.inr ⟨u,s,r,m,p,sx,hv,rfl,o.B,?_⟩)
 exact o.own0 (L':=[BS u s (Ad a ds day).1,GU.th r (Ap a ds day).1,FX.th m (Ap a ds day).2.1,Eg.th p (sx.map fun q=>(q.1,FI q.2))]) [0,1,2,3] rfl (by decide)
noncomputable def ZR:Code:=Tryz.f14.body.getD .skip
def qi:=ν [.code ZR]
def qh:=Ω qi
theorem MI (a:List UInt8) (m:Option Addr) (ds:List Df) (k:Nat) (day:Int) (f:Nat) (A:Option Addr) (l:List C4) (c:Nat) (w:World) (i:rowsDf w m ds) (b:ds.length≤1000000000) (h:ds.length≤k) (hs:a.length≤4294967296) (ht:∀ d∈ds,Fc d) (g:∀ d∈ds,Dm d.body) (hn:∀ d∈ds,nE d.body≤1000000) (q:∀ d∈ds,Ac d=true→Fy f d.body) (v:rowsSt w A l) (p:JH l) :
  Calls Tryz.prog 14 ([ψ [η a,τ m ds.length k],δ day,τ A l.length c]:List Value).toArray w fun e w'=>e=.returned (ξ (Ha a ds day f l))∧Below (ε w) w w':=by
 refine AS (fn:=Tryz.f14) (c:=ZR) (n:=17) ?_
 have y:=Wk.start w
 refine Ah qi [ι (ε w) [η a,τ m ds.length k] 27] y [(0,0)] fun t o=>?_
 refine BA (NJ a m ds k day f A l c t (i.below o.B) b h hs ht g hn q (v.below o.B) p) fun en z u=>?_
 rcases u with ⟨hb,rfl,r⟩ | ⟨oA,oc,b1,r,b3,sx,hb,rfl,x,Hn⟩
 ·refine ⟨_,rfl,?_⟩
  refine Am qh (o.below r) [(1,0)] fun s j=>?_
  exact AK j (0,0) (ξ false) ⟨by rw [hb],j.B⟩
 refine ⟨_,rfl,?_⟩
 refine Am qh (o.below x) [(1,0)] fun s j=>?_
 exact AK j (0,0) (ξ true) ⟨by rw [hb],j.B⟩
end
end Go.Proofs.YtkjbdagicjbjjaaGreat

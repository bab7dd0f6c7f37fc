/- Contracts of functions, part 28. -/
import Derived.Test.YtkjbdagicjbjjaaGreatTs26
import Derived.Test.YtkjbdagicjbjjaaGreatTs11
set_option linter.all false
namespace Go.Proofs.YtkjbdagicjbjjaaGreat
noncomputable section
open Go.RowKit
set_option maxRecDepth 100000
set_option maxHeartbeats 1000000
attribute [local irreducible] BD BP AC AD AF Ar AZ AM Aw Bk C6 BV BO At Fr
def W5 (p0a:Int) (p0b:List UInt8) (p0c:Int) (p0da:Int) (p0db:Int):Int×List UInt8×Int×Int×Int:=(p0a,p0b,p0c,p0da,p0db)
def l8 (r:Int×List UInt8×Int×Int×Int):Value:=ψ [δ (r.1),η (r.2.1),δ (r.2.2.1),δ (r.2.2.2.1),δ (r.2.2.2.2)]
noncomputable def Zb:Code:=Tryz.f42.body.getD .skip
def ACL:=ν ([.code Zb])
theorem YS (i:Int) (h:List UInt8) (g b a f d:Int) (w:World):Calls Tryz.prog 42 ([ψ [δ i,η h,δ g,δ b,δ a,δ f,δ d]]:List Value).toArray w fun e w'=>e=.returned (l8 (W5 i h g b a))∧Below (ε w) w w':=by
 refine AS (fn:=Tryz.f42) (c:=Zb) (n:=12) ?_
 have k:=Wk.start w
 refine Am ACL k [(0,0),(0,1),(0,2),(0,3),(1,0)] fun l j=>?_
 exact AO j (1,0) _ (by unfold W5; rfl)
def Cj (x:Ex) (p1a:Int) (p1b:Int) (p2a:Int) (p2b:Int):Int×Int×Int:=cond (x.op == 5) (FF p1a p1b p2a p2b) (cond (x.op == 6) (PK p1a p1b p2a p2b) (cond (x.op == 7) (Pc p1a p1b p2a p2b) (cond (x.op == 8) (Ks p1a p1b p2a p2b) (cond (x.op == 16) (Ni p1a p1b) (cond (x.op == 9) (((Di (decide (EB p1a p1b p2a p2b < 0))).1,(Di (decide (EB p1a p1b p2a p2b < 0))).2,0)) (cond (x.op == 10) (((Di (decide (EB p1a p1b p2a p2b≤0))).1,(Di (decide (EB p1a p1b p2a p2b≤0))).2,0)) (cond (x.op == 11) (((Di (EB p1a p1b p2a p2b == 0)).1,(Di (EB p1a p1b p2a p2b == 0)).2,0)) (cond (x.op == 14) (cond (decide (EB p2a p2b p1a p1b < 0)) ((p2a,p2b,0)) ((p1a,p1b,0))) (cond (x.op == 15) (cond (decide (0 < EB p2a p2b p1a p1b)) ((p2a,p2b,0)) ((p1a,p1b,0))) (cond (x.op == 17) (((Di (p1a == 0)).1,(Di (p1a == 0)).2,0)) (cond (x.op == 19) (H8 p1a p1b x.num x.den x.md) ((0,0,1)))))))))))))
def mG (r:Int×Int×Int):Value:=.tuple #[ψ [δ (r.1),δ (r.2.1)],δ (r.2.2)]
noncomputable def Zc:Code:=Tryz.f62.body.getD .skip
def az:=ν ([.code Zc])
def rM:=Ξ az
def ACO:=Ω rM
def ay:=Ψ az
def rL:=Ξ ay
def ACN:=Ω rL
def ax:=Ψ ay
def rK:=Ξ ax
def ACM:=Ω rK
def aw:=Ψ ax
def i4:=Ξ aw
def xe:=Ω i4
def Up:=Ψ aw
def iz:=Ξ Up
def xd:=Ω iz
def Uo:=Ψ Up
def iy:=Ξ Uo
def iw:=Ω iy
def xc:=Ω iw
def Un:=Ψ Uo
def iv:=Ξ Un
def iu:=Ω iv
def xa:=Ω iu
def Um:=Ψ Un
def ir:=Ξ Um
def iq:=Ω ir
def xZ:=Ω iq
def Ul:=Ψ Um
def ip:=Ξ Ul
def Uk:=Ω ip
def xY:=Ξ Uk
def xX:=Ψ Uk
def Uj:=Ψ Ul
def io:=Ξ Uj
def Ui:=Ω io
def xW:=Ξ Ui
def xV:=Ψ Ui
def Uh:=Ψ Uj
def im:=Ξ Uh
def xU:=Ω im
def Ug:=Ψ Uh
def il:=Ξ Ug
def xT:=Ω il
def xS:=Ψ Ug
theorem YX (x:Ex) (s:Option Addr) (y:Nat) (a b f d:Int) (w:World) (w2:rowsEx w s x.ks):Calls Tryz.prog 62 ([ψ ((Γ x s y)),ψ [δ a,δ b],ψ [δ f,δ d]]:List Value).toArray w fun e w'=>e=.returned (mG (Cj x a b f d))∧Below (ε w) w w':=by
 refine AS (fn:=Tryz.f62) (c:=Zc) (n:=98) ?_
 have K1:=Wk.start w
 refine Am az K1 [(0,0)] fun w1 K2=>?_
 refine AG (x.op == 5) (fun o=>?_) (fun o=>?_)
 ·refine AB rM K2 [(1,0),(2,0)] fun w3 K3=>?_
  refine AP K3 (YE a b f d w3) fun w4 K4=>?_
  refine Am ACO K4 [(3,0)] fun w5 K5=>?_
  exact AO K5 (3,0) _ (by unfold Cj; rw [o] <;> rfl)
 refine AB ay K2 [] fun w6 K6=>?_
 refine AG (x.op == 6) (fun p=>?_) (fun p=>?_)
 ·refine AB rL K6 [(1,0),(2,0)] fun w8 K7=>?_
  refine AP K7 (pe a b f d w8) fun w9 K8=>?_
  refine Am ACN K8 [(3,0)] fun b5 K9=>?_
  exact AO K9 (3,0) _ (by unfold Cj; rw [o,p] <;> rfl)
 refine AB ax K6 [] fun a5 l0=>?_
 refine AG (x.op == 7) (fun g=>?_) (fun g=>?_)
 ·refine AB rK l0 [(1,0),(2,0)] fun c1 v2=>?_
  refine AP v2 (py a b f d c1) fun z4 u2=>?_
  refine Am ACM u2 [(3,0)] fun x4 t2=>?_
  exact AO t2 (3,0) _ (by unfold Cj; rw [o,p,g] <;> rfl)
 refine AB aw l0 [] fun v4 k0=>?_
 refine AG (x.op == 8) (fun h=>?_) (fun h=>?_)
 ·refine AB i4 k0 [(1,0),(2,0)] fun b1 s2=>?_
  refine AP s2 (Xg a b f d b1) fun t4 r2=>?_
  refine Am xe r2 [(3,0)] fun q4 q2=>?_
  exact AO q2 (3,0) _ (by unfold Cj; rw [o,p,g,h] <;> rfl)
 refine AB Up k0 [] fun p4 j0=>?_
 refine AG (x.op == 16) (fun i=>?_) (fun i=>?_)
 ·refine AB iz j0 [(1,0)] fun a1 p2=>?_
  refine AP p2 (pu a b a1) fun n4 o2=>?_
  refine Am xd o2 [(3,0)] fun k4 n2=>?_
  exact AO n2 (3,0) _ (by unfold Cj; rw [o,p,g,h,i] <;> rfl)
 refine AB Uo j0 [] fun h4 i0=>?_
 refine AG (x.op == 9) (fun j=>?_) (fun j=>?_)
 ·refine AB iy i0 [(1,0),(2,0)] fun z0 m2=>?_
  refine AP m2 (IZ a b f d z0) fun g4 l2=>?_
  refine AB iw l2 [] fun x0 k2=>?_
  refine AP k2 (Hd (decide (EB a b f d < 0)) x0) fun f4 i2=>?_
  refine Am xc i2 [(3,0)] fun e4 h2=>?_
  exact AO h2 (3,0) _ (by unfold Cj; rw [o,p,g,h,i,j] <;> rfl)
 refine AB Un i0 [] fun c4 h0=>?_
 refine AG (x.op == 10) (fun k=>?_) (fun k=>?_)
 ·refine AB iv h0 [(1,0),(2,0)] fun w0 g2=>?_
  refine AP g2 (IZ a b f d w0) fun b4 e2=>?_
  refine AB iu e2 [] fun v0 d2=>?_
  refine AP d2 (Hd (decide (EB a b f d≤0)) v0) fun a4 b2=>?_
  refine Am xa b2 [(3,0)] fun z3 a2=>?_
  exact AO a2 (3,0) _ (by unfold Cj; rw [o,p,g,h,i,j,k] <;> rfl)
 refine AB Um h0 [] fun x3 g0=>?_
 refine AG (x.op == 11) (fun l=>?_) (fun l=>?_)
 ·refine AB ir g0 [(1,0),(2,0)] fun t0 z1=>?_
  refine AP z1 (IZ a b f d t0) fun v3 x1=>?_
  refine AB iq x1 [] fun s0 v1=>?_
  refine AP v1 (Hd (EB a b f d == 0) s0) fun t3 u1=>?_
  refine Am xZ u1 [(3,0)] fun r3 t1=>?_
  exact AO t1 (3,0) _ (by unfold Cj; rw [o,p,g,h,i,j,k,l] <;> rfl)
 refine AB Ul g0 [] fun q3 e0=>?_
 refine AG (x.op == 14) (fun m=>?_) (fun m=>?_)
 ·refine AB ip e0 [(2,0),(1,0)] fun r0 s1=>?_
  refine AP s1 (IZ f d a b r0) fun p3 r1=>?_
  refine AB Uk r1 [] fun o3 d0=>?_
  refine AG (decide (EB f d a b < 0)) (fun v=>?_) (fun v=>?_)
  ·refine Am xY d0 [(2,0),(3,0)] fun n3 q1=>?_
   exact AO q1 (3,0) _ (by unfold Cj; rw [o,p,g,h,i,j,k,l,m,v] <;> rfl)
  refine Am xX d0 [(1,0),(3,0)] fun m3 p1=>?_
  exact AO p1 (3,0) _ (by unfold Cj; rw [o,p,g,h,i,j,k,l,m,v] <;> rfl)
 refine AB Uj e0 [] fun l3 c0=>?_
 refine AG (x.op == 15) (fun q=>?_) (fun q=>?_)
 ·refine AB io c0 [(2,0),(1,0)] fun q0 o1=>?_
  refine AP o1 (IZ f d a b q0) fun k3 n1=>?_
  refine AB Ui n1 [] fun i3 b0=>?_
  refine AG (decide (0 < EB f d a b)) (fun u=>?_) (fun u=>?_)
  ·refine Am xW b0 [(2,0),(3,0)] fun h3 m1=>?_
   exact AO m1 (3,0) _ (by unfold Cj; rw [o,p,g,h,i,j,k,l,m,q,u] <;> rfl)
  refine Am xV b0 [(1,0),(3,0)] fun g3 l1=>?_
  exact AO l1 (3,0) _ (by unfold Cj; rw [o,p,g,h,i,j,k,l,m,q,u] <;> rfl)
 refine AB Uh c0 [] fun f3 a0=>?_
 refine AG (x.op == 17) (fun r=>?_) (fun r=>?_)
 ·refine AB im a0 [(1,0)] fun p0 k1=>?_
  refine AP k1 (Hd (a == 0) p0) fun e3 i1=>?_
  refine Am xU i1 [(3,0)] fun c3 h1=>?_
  exact AO h1 (3,0) _ (by unfold Cj; rw [o,p,g,h,i,j,k,l,m,q,r] <;> rfl)
 refine AB Ug a0 [] fun b3 z=>?_
 refine AG (x.op == 19) (fun t=>?_) (fun t=>?_)
 ·refine AB il z [(1,0),(0,1),(0,8)] fun m0 g1=>?_
  refine AP g1 (Qy a b x.num x.den x.md m0) fun a3 f1=>?_
  refine Am xT f1 [(3,0)] fun z2 e1=>?_
  exact AO e1 (3,0) _ (by unfold Cj; rw [o,p,g,h,i,j,k,l,m,q,r,t] <;> rfl)
 refine AB xS z [(3,0)] fun x2 d1=>?_
 exact AO d1 (3,0) _ (by unfold Cj; rw [o,p,g,h,i,j,k,l,m,q,r,t] <;> rfl)
def BI (ds:List (Df)) (p1:Int):List (Nat)→Int→List Nat→List (Nat×List Nat)→List Nat×List (Nat×List Nat)×Int
 | [],a0_0,a0_1,a0_2=>(a0_1,a0_2,0)
 | e0 :: tl,a0_0,a0_1,a0_2=>cond (!(Ac (ds.getD e0 default))) (BI ds p1 tl a0_0 a0_1 a0_2) (cond (!(((CI ds (Aa ds p1) e0)).2 == 0)) (([],[],((CI ds (Aa ds p1) e0)).2)) (BI ds p1 tl a0_0 (a0_1++[e0]) ((e0,((CI ds (Aa ds p1) e0)).1) :: a0_2)))
theorem Pb {ds:List (Df)} {p1:Int} {c:Int} {b:List Nat} {a:List (Nat×List Nat)}:BI ds p1 [] c b a=((b,a,0)):=by rw [BI]
theorem Ol {ds:List (Df)} {p1:Int} {c:Int} {b:List Nat} {a:List (Nat×List Nat)} {es:List (Nat)} (i d:Nat) (hi:es[i]?=some d):BI ds p1 (es.drop i) c b a=(cond (!(Ac (κ ds d))) (BI ds p1 (es.drop (i + 1)) c b a) (cond (!(((CI ds (Aa ds p1) d)).2 == 0)) (([],[],((CI ds (Aa ds p1) d)).2)) (BI ds p1 (es.drop (i + 1)) c (b++[d]) ((d,((CI ds (Aa ds p1) d)).1) :: a)))):=by
 have hl:i < es.length:=(List.getElem?_eq_some_iff.1 hi).1
 have he:es[i]=d:=(List.getElem?_eq_some_iff.1 hi).2
 rw [← List.getElem_cons_drop hl,BI] <;> (try rw [he])
def A4 (p0a:List UInt8) (ds:List (Df)) (p1:Int):List Nat×List (Nat×List Nat)×Int:=cond (!(C7 p0a ds p1 == 0)) (([],[],C7 p0a ds p1)) (BI ds p1 (Aa ds p1) 0 ([]) ([]))
noncomputable def nP:Code:=Tryz.f52.body.getD .skip
def AAO:=ν ([.code nP])
def eb:=Ω AAO
def AFk:=Ξ eb
def pC:=AA (An ES 90 (AF eb)) (AF eb)
def AAN:=Ω pC
def eZ:=Ω AAN
def eY:=ν (Ar eZ)
def pB:=AA (An Ae 90 (AD eY)) (AD eY)
def AAM:=AA (An Ae 90 (AC (AC pB))) (AC (AC pB))
def AAL:=ν (AC (AC AAM))
def uY:=Ω AAL
def uX:=Ψ uY
def UF:=Ω uX
def AEB:=Ξ UF
def UE:=AA (An Bp 90 (AF UF)) (AF UF)
def uW:=AA (An Eh 90 (AC UE)) (AC UE)
def AEA:=Ψ eY
theorem W9 (a:List UInt8) (u:Option Addr) (ds:List (Df)) (j:Nat) (p1:Int) (w:World) (p0:rowsDf w u ds) (c1:ds.length≤4294967296) (hs:a.length≤4294967296) (ht:∀ d∈ds,Fc d) (t1:∀ d∈ds,Dm d.body) (hn:∀ d∈ds,nE d.body≤1000000):Calls Tryz.prog 52 ([ψ [η a,τ u ds.length j],δ p1]:List Value).toArray w fun e w'=>(∃ (r1:Option Addr) (o1 q1:Nat) (b1:List NH),e=.returned (.tuple #[ψ [τ r1 ((((A4 a ds p1)).1).length) o1,.map (some q1)],δ (((A4 a ds p1)).2.2)])∧b1.map I1=((A4 a ds p1)).2.1∧Below (ε w) w w'∧((A4 a ds p1)).2.2=0∧Aj (ε w) w' [BS r1 o1 (((A4 a ds p1)).1),Bc.th Iz q1 (b1.map LP),Hv b1])∨(e=.returned (.tuple #[ψ [τ none 0 0,.map none],δ (((A4 a ds p1)).2.2)])∧¬ ((A4 a ds p1)).2.2=0∧Below (ε w) w w'):=by
 refine AS (fn:=Tryz.f52) (c:=nP) (n:=61) ?_
 have K1:=Wk.start w
 refine Ah AAO [ι (ε w) [η a,τ u ds.length j] 27,ι (ε w + 1) [τ none 0 0,.map none] 131] K1 [(0,0)] fun w1 K2=>?_
 refine AP K2 (args:=[ψ [η a,τ u ds.length j],δ p1]) (M1 a _ ds _ p1 w1 (p0.below K2.B) c1 hs ht) fun w2 K3=>?_
 refine AB eb K3 [] fun w3 K4=>?_
 refine AG (!(C7 a ds p1 == 0)) (fun c4=>?_) (fun c4=>?_)
 ·have K5:=K4.addNil 3 1 (fun e r=>r=Fw e)
  refine AB AFk K5 [(1,0)] fun w5 K6=>?_
  have hS:(A4 a ds p1)=([],[],C7 a ds p1):=by unfold A4; rw [c4] <;> rfl
  exact AK K6 (1,0) (.tuple #[ψ [τ none 0 0,.map none],δ (C7 a ds p1)]) (.inr ⟨by rw [hS] <;> rfl,by rw [hS]; simpa using c4,K6.B⟩)
 refine Ak ES pC K4 [] fun w6 K7=>?_
 refine FV Iz K7.H (CL pC) (by kernel_rfl) (t:=129) (by kernel_rfl) fun w7 Z7 Hn b7=>?_
 have K8:=K7.add b7 Hn
 have K9:=K8.addFam mV
 refine Ah AAN [ι (ε w) [η a,τ u ds.length j] 27,ι (ε w + 1) [τ none 0 0,.map none] 131,ι (ε w7) [τ none 0 0,.map (some (ε w6))] 131] K9 [(2,0),(0,0)] fun w8 d2=>?_
 refine BA (M5 a u ds j p1 w8 (p0.below d2.B) (by first | assumption | omega | (simp <;> omega))) fun en h4 hh=>?_
 obtain ⟨b0,b,rfl,r2,Hn⟩:=hh
 refine ⟨_,rfl,?_⟩
 have k3:=d2.join r2 Hn
 have k4:=JR (ds:=ds) (p1:=p1)
 refine AB eZ k3 [] fun k2 i3=>?_
 have h3:Wk w k2 [ι (ε w) [η a,τ u ds.length j] 27,ι (ε w + 1) [τ none 0 0,.map none] 131,ι (ε w7) [τ none 0 0,.map (some (ε w6))] 131] [(Bc.th Iz (ε w6) (([]:List NH).map LP)),(Hv ([])),(BS b0 b (Aa ds p1))] []:=i3.pk [0,1,2] [0,1,2]
 have g3:=h3.addNil 3 1 (fun e r=>r=Fw e)
 have c0:(A4 a ds p1)=BI ds p1 (Aa ds p1) 0 ([]) ([]):=by unfold A4; rw [c4] <;> rfl
 refine AU [(2,ζ (ε w)),(4,ζ (ε w + 1)),(5,δ 0),(7,ζ (ε w7)),(8,τ b0 ((Aa ds p1).length) b),(25,τ b0 ((Aa ds p1).length) b),(26,δ (((Aa ds p1).length:Int))),(27,δ (((0:Nat):Int)))] fun n3=>?_
 refine Bo (by kernel_rfl) (fun E n1=>∃ (v:Nat) (a0:Int) (i:List Nat) (h:List NH) (o:Option Addr) (m:Nat) (E0:Nat→Value),v≤(Aa ds p1).length∧E=BE E0 [(2,ζ (ε w)),(4,ζ (ε w + 1)),(5,δ a0),(7,ζ (ε w7)),(8,τ b0 ((Aa ds p1).length) b),(25,τ b0 ((Aa ds p1).length) b),(26,δ (((Aa ds p1).length:Int))),(27,δ ((v:Int)))]∧(A4 a ds p1)=BI ds p1 (List.drop v (Aa ds p1)) a0 i (h.map I1)∧i.length≤1 * v + 0∧h.length≤1 * v + 0∧Wk w n1 [ι (ε w) [η a,τ u ds.length j] 27,ι (ε w + 1) [τ none 0 0,.map none] 131,ι (ε w7) [τ o i.length m,.map (some (ε w6))] 131] [(Bc.th Iz (ε w6) (h.map LP)),(Hv h),(BS b0 b (Aa ds p1)),(BS o m i)] []) (fun E _=>(Aa ds p1).length - AL (E 27)) ⟨0,0,([]),([]),none,0,n3,Nat.zero_le _,rfl,c0,by simp,by simp,g3⟩ ?_
 clear c0
 rintro E n1 ⟨v,a0,i,h,o,m,E0,n4,rfl,c0,n2,m2,f3⟩ g0
 refine AB eY f3 [] fun g4 s0=>?_
 refine AG (decide ((v:Int) < ((Aa ds p1).length:Int))) (fun h1=>?_) (fun h1=>?_)
 ·have m0:v < (Aa ds p1).length:=by have:=of_decide_eq_true h1; omega
  obtain ⟨p,h0⟩:∃ e,(Aa ds p1)[v]?=some e:=⟨_,List.getElem?_eq_getElem m0⟩
  rw [Ol v p h0] at c0
  obtain ⟨d0,rfl,o3⟩:=s0.H.rowAt (s0.ix 2) (s0.at 2 rfl) (by omega)
  refine Ak Ae pB s0 [] fun f4 x0=>?_
  refine Ay (g:=d0) (off:=0) (cap:=b) (sz:=1) (k:=v) (len:=(Aa ds p1).length) (some 29) m0 Tryz.underlying22 ?_
  refine Dz 3 d0 (0 + v * 1) (δ ((p:Int))) (some 30) (by simpa using (x0.H.cellsF (T:=3) (n:=1) (f:=Fw) (c:=b) (l:=(Aa ds p1)) (fun _=>rfl) (x0.ix 2) (x0.at 2 rfl) h0) 0 _ rfl) ?_
  obtain ⟨j0,k0,rfl,v1,x1⟩:=p0.all (Nat.lt_of_le_of_lt (Nat.zero_le _) (Ed _ (List.mem_of_getElem? h0)))
  have l2:ds[p]?=some (κ ds p):=getD_some default (Ed _ (List.mem_of_getElem? h0))
  obtain ⟨k1,g1,i1,f1,s1,e1,d1⟩:=x1 p _ l2
  refine Ak Ae AAM x0 [(0,1)] fun e4 c2=>?_
  refine Ay (g:=j0) (off:=k0) (cap:=j) (sz:=21) (k:=p) (len:=ds.length) (some 34) (Ed _ (List.mem_of_getElem? h0)) Tryz.underlying25 ?_
  refine BN 59 j0 (k0 + p * 21) _ (some 35) (Ag s1 v1 c2.B) ?_
  refine AB AAL c2 [] fun i2 m1=>?_
  refine AP m1 (Gx (κ ds p) k1 g1 i1 f1 i2 (e1.below m1.B) (d1.below m1.B)) fun b4 e3=>?_
  refine AB uY e3 [] fun a4 b2=>?_
  refine AG (!(Ac (κ ds p))) (fun w0=>?_) (fun w0=>?_)
  ·refine AB (AZ eZ) b2 [] fun h2 c3=>?_
   refine AU [(2,ζ (ε w)),(4,ζ (ε w + 1)),(5,δ a0),(7,ζ (ε w7)),(8,χ d0 ((Aa ds p1).length) b),(25,χ d0 ((Aa ds p1).length) b),(26,δ (((Aa ds p1).length:Int))),(27,δ (IntKind.i64.wrap ((v:Int) + 1)))] fun m3=>?_
   have b3:Wk w h2 [ι (ε w) [η a,τ (some ⟨j0,k0,none⟩) ds.length j] 27,ι (ε w + 1) [τ none 0 0,.map none] 131,ι (ε w7) [τ o i.length m,.map (some (ε w6))] 131] [(Bc.th Iz (ε w6) (h.map LP)),(Hv h),(BS (θ d0) b (Aa ds p1)),(BS o m i)] []:=c3.pk [0,1,2] [0,1,2,3]
   rw [Bl v (by omega)]
   refine g0 _ _ ⟨v + 1,a0,i,h,o,m,m3,m0,rfl,by rw [c0,w0] <;> first | rfl | (simp only [cond_true,cond_false,List.length_map,List.map_append,List.map_cons,List.map_nil,id]; done) | (simp only [cond_true,cond_false,List.length_map,List.map_append,List.map_cons,List.map_nil,id]; rfl),by ((try simp only [maxLen,List.length_map,List.length_append,List.length_cons,List.length_nil,List.length_singleton]) <;> omega),by (first | ((try simp only [maxLen,List.length_append,List.length_cons,List.length_nil,List.length_singleton]) <;> omega) | (refine Nat.le_trans (Wt _ _ _) ?_; ((try simp only [maxLen,List.length_append,List.length_cons,List.length_nil,List.length_singleton]) <;> omega))),b3⟩ ?_
   show (Aa ds p1).length - AL (δ ((v + 1:Nat):Int)) < (Aa ds p1).length - AL (δ (v:Int))
   simp only [AL]
   omega
  refine AB uX b2 [(0,0)] fun g2 r0=>?_
  refine BA (Sy a (some ⟨j0,k0,none⟩) ds j (θ d0) (Aa ds p1) b p g2 (p0.below r0.B) (by first | assumption | omega | (simp <;> omega)) (r0.H.rowsNat (r0.ix 2) (r0.at 2 rfl)) (by first | assumption | omega | (simp <;> omega)) (Ed _ (List.mem_of_getElem? h0)) Ed t1 hn) fun en z3 hh=>?_
  obtain ⟨s,q,rfl,q2,Hn⟩:=hh
  refine ⟨_,rfl,?_⟩
  have a3:=r0.join q2 Hn
  refine AB UF a3 [] fun a1 a2=>?_
  refine AG (!(((CI ds (Aa ds p1) p)).2 == 0)) (fun v0=>?_) (fun v0=>?_)
  ·have z2:=a2.addNil 3 1 (fun e r=>r=Fw e)
   refine AB AEB z2 [(1,0)] fun x3 z1=>?_
   have hS:(A4 a ds p1)=([],[],((CI ds (Aa ds p1) p)).2):=by rw [c0,w0,v0] <;> rfl
   exact AK z1 (1,0) (.tuple #[ψ [τ none 0 0,.map none],δ (((CI ds (Aa ds p1) p)).2)]) (.inr ⟨by rw [hS] <;> rfl,by rw [hS]; simpa using v0,z1.B⟩)
  refine CY Bp UE [ι (ε w) [η a,τ (some ⟨j0,k0,none⟩) ds.length j] 27,ι (ε w + 1) [τ none 0 0,.map none] 131,ι (ε w7) [τ o i.length m,.map (some (ε w6))] 131,ι (ε a1) [δ ((p:Int))] 3] a2 [(2,0)] fun v3 q0=>?_
  refine Cw q0.H (q0.ix 3) (q0.at 3 rfl) p [δ ((p:Int))] rfl (ε a1) (q0.ent 3 (by kernel_rfl)) (CL UE) (by kernel_rfl) (.tmp 50) (.tmp 52) 22 (by kernel_rfl) (by kernel_rfl) (by kernel_rfl) (by decide) (by kernel_rfl) (by kernel_rfl) rfl rfl (by ((try simp only [maxLen,List.length_map,List.length_append,List.length_cons,List.length_nil,List.length_singleton]) <;> omega)) fun z0 t0 t3 Hn p2=>?_
  have x2:=q0.put 3 (by simp) p2 Hn
  refine CY Eh uW [ι (ε w) [η a,τ (some ⟨j0,k0,none⟩) ds.length j] 27,ι (ε w + 1) [τ none 0 0,.map none] 131,ι (ε w7) [τ z0 ((i++[p]).length) t0,.map (some (ε w6))] 131,ι (ε a1) [δ ((p:Int))] 3] x2 [(2,0),(2,1)] fun r3 l0=>?_
  refine GC Iz l0.H (l0.ix 0) (l0.at 0 rfl) p (s,(((CI ds (Aa ds p1) p)).1).length,q) (by show _≤_; have:=Ed _ (List.mem_of_getElem? h0); omega) (l0.H.rowSpot (l0.ix 4) (l0.at 4 rfl)) (CL uW) (by kernel_rfl) (t:=129) (x:=.tmp 56) (y:=.tmp 57) (z:=.tmp 58) (by kernel_rfl) rfl (by kernel_rfl) (by kernel_rfl) (by kernel_rfl) (by ((try simp only [maxLen,List.length_map,List.length_append,List.length_cons,List.length_nil,List.length_singleton]) <;> omega)) fun q3 Hn o2=>?_
  have v2:=l0.put 0 (by simp) o2 Hn
  have u2:=v2.take 1 4 mV h (((p,((CI ds (Aa ds p1) p)).1,s,q) :: h:List NH)) (p,((CI ds (Aa ds p1) p)).1,s,q) rfl rfl (by decide) (by intro z; simp)
  refine AB (AZ eZ) u2 [] fun e2 t2=>?_
  refine AU [(2,ζ (ε w)),(4,ζ (ε w + 1)),(5,δ a0),(7,ζ (ε w7)),(8,χ d0 ((Aa ds p1).length) b),(25,χ d0 ((Aa ds p1).length) b),(26,δ (((Aa ds p1).length:Int))),(27,δ (IntKind.i64.wrap ((v:Int) + 1)))] fun l3=>?_
  have s2:Wk w e2 [ι (ε w) [η a,τ (some ⟨j0,k0,none⟩) ds.length j] 27,ι (ε w + 1) [τ none 0 0,.map none] 131,ι (ε w7) [τ z0 ((i++[p]).length) t0,.map (some (ε w6))] 131] [(Bc.th Iz (ε w6) (((p,((CI ds (Aa ds p1) p)).1,s,q) :: h:List NH).map LP)),(Hv ((p,((CI ds (Aa ds p1) p)).1,s,q) :: h)),(BS (θ d0) b (Aa ds p1)),(BS z0 t0 (i++[p]))] []:=t2.pk [0,1,2] [0,1,2,3]
  rw [Bl v (by omega)]
  refine g0 _ _ ⟨v + 1,a0,(i++[p]),((p,((CI ds (Aa ds p1) p)).1,s,q) :: h),z0,t0,l3,m0,rfl,by rw [c0,w0,v0] <;> first | rfl | (simp only [cond_true,cond_false,List.length_map,List.map_append,List.map_cons,List.map_nil,id]; done) | (simp only [cond_true,cond_false,List.length_map,List.map_append,List.map_cons,List.map_nil,id]; rfl),by ((try simp only [maxLen,List.length_map,List.length_append,List.length_cons,List.length_nil,List.length_singleton]) <;> omega),by (first | ((try simp only [maxLen,List.length_append,List.length_cons,List.length_nil,List.length_singleton]) <;> omega) | (refine Nat.le_trans (Wt _ _ _) ?_; ((try simp only [maxLen,List.length_append,List.length_cons,List.length_nil,List.length_singleton]) <;> omega))),s2⟩ ?_
  show (Aa ds p1).length - AL (δ ((v + 1:Nat):Int)) < (Aa ds p1).length - AL (δ (v:Int))
  simp only [AL]
  omega
 have u1:v=(Aa ds p1).length:=by have:=of_decide_eq_false h1; omega
 rw [u1,List.drop_length,Pb] at c0
 refine Am AEA s0 [(2,0),(1,0)] fun p3 l1=>?_
 have hS:(A4 a ds p1)=(i,(h.map I1),0):=by rw [c0] <;> rfl
 exact AK l1 (1,0) (.tuple #[ψ [τ o i.length m,.map (some (ε w6))],δ 0]) (.inl ⟨o,m,ε w6,h,by rw [hS] <;> rfl,by rw [hS],l1.B,by rw [hS],by rw [hS]; exact l1.own0 [3,0,1] rfl (by decide)⟩)
def GG (i:Nat) (ml:List (Nat×Bool)):Bool:=!((AH ml i).getD false)
noncomputable def SR:Code:=Tryz.f80.body.getD .skip
def eX:=AA (An (GP 76) 90 ([.code SR])) ([.code SR])
def uU:=AA (An Cv 90 (AC (eX))) (AC (eX))
def AD9:=Ω uU
theorem YV (i b g:Nat) (ml:List (Nat×Bool)) (w:World) (d:b < (ε w)) (a:w.rangeAt b 0 [.map (some g)]) (f:Bc.at EJ g ml w) (hi:i≤4294967296):Calls Tryz.prog 80 ([δ ((i:Int)),ζ b]:List Value).toArray w fun e w'=>e=.returned (ξ (GG i ml))∧Below (ε w) w w':=by
 refine AS (fn:=Tryz.f80) (c:=SR) (n:=8) ?_
 have l:=d
 have h:=a
 have p:=Wk.start w
 refine Ak (GP 76) eX p [] fun s k=>?_
 refine Dz 76 b 0 (.map (some g)) (some 4) (by simpa using Ag a d k.B 0 _ rfl) ?_
 refine Ak Cv uU k [] fun r j=>?_
 refine DN (F7 EJ (t:=76) (x:=.tmp 4) (y:=.tmp 5) (by kernel_rfl) rfl (b:=g) (m:=ml) (by kernel_rfl) i (by kernel_rfl) hi (Bc.below f j.B)) ?_
 refine AB AD9 j [] fun q o=>?_
 exact AO o (0,0) _ (by unfold GG; rfl)
def CD (F:Nat→Bool):List (Nat)→Nat→Int→Int
 | [],i0,a0_0=>-1
 | e0 :: tl,i0,a0_0=>cond (F e0) ((i0:Int)) (CD F tl (i0 + 1) a0_0)
theorem Pk {F:Nat→Bool} {b:Nat} {a:Int}:CD F [] b a=(-1):=by rw [CD]
theorem Om {F:Nat→Bool} {b:Int} {es:List (Nat)} (a c:Nat) (hi:es[a]?=some c):CD F (es.drop a) a b=(cond (F c) ((a:Int)) (CD F (es.drop (a + 1)) (a + 1) b)):=by
 have hl:a < es.length:=(List.getElem?_eq_some_iff.1 hi).1
 have he:es[a]=c:=(List.getElem?_eq_some_iff.1 hi).2
 rw [← List.getElem_cons_drop hl,CD] <;> (try rw [he])
def Br (F:Nat→Bool) (ds:List (Nat)):Int:=CD F ds 0 0
noncomputable def ZO:Code:=Tryz.f77.body.getD .skip
def ae:=ν ([.code ZO])
def Tb:=ν (Ar ae)
def qf:=AA (An Ae 90 (AD Tb)) (AD Tb)
def qe:=ν (AC (AC qf))
def qd:=Ω qe
def AB2:=Ξ qd
def AB1:=Ψ Tb
theorem Np (F:Nat→Bool) (j:Option Addr) (ds:List (Nat)) (f:Nat) (g:FuncId) (cap:List Value) (w:World) (t:rowsNat w j ds) (a0:ds.length≤4294967296) (hg:DX Tryz.prog g=true) (hF:∀ u,Below (ε w) w u→∀ (e:Nat),e∈ds→Calls Tryz.prog g (δ (e:Int) :: cap).toArray u fun en w'=>en=.returned (ξ (F e))∧Below (ε u) u w'):Calls Tryz.prog 77 ([τ j ds.length f,.func (.func g) #[] ⟨cap⟩]:List Value).toArray w fun e w'=>e=.returned (δ (Br F ds))∧Below (ε w) w w':=by
 refine AS (fn:=Tryz.f77) (c:=ZO) (n:=19) ?_
 have K1:=Wk.start w
 refine AB ae K1 [] fun w1 K2=>?_
 have K3:Wk w w1 [] [] []:=K2.pk [] []
 have b:(Br F ds)=CD F ds 0 0:=by unfold Br; rfl
 refine AU [(0,τ j ds.length f),(1,.func (.func g) #[] ⟨cap⟩),(4,δ 0),(7,δ ((ds.length:Int))),(8,δ (((0:Nat):Int)))] fun E2=>?_
 refine Bo (by kernel_rfl) (fun E q=>∃ (a:Nat) (d:Int) (E0:Nat→Value),a≤ds.length∧E=BE E0 [(0,τ j ds.length f),(1,.func (.func g) #[] ⟨cap⟩),(4,δ d),(7,δ ((ds.length:Int))),(8,δ ((a:Int)))]∧(Br F ds)=CD F (List.drop a ds) a d∧Wk w q [] [] []) (fun E _=>ds.length - AL (E 8)) ⟨0,0,E2,Nat.zero_le _,rfl,b,K3⟩ ?_
 clear b
 rintro E q ⟨a,d,E0,l0,rfl,b,K4⟩ i
 refine AB Tb K4 [] fun w4 K5=>?_
 refine AG (decide ((a:Int) < (ds.length:Int))) (fun c5=>?_) (fun c5=>?_)
 ·have h:a < ds.length:=by have:=of_decide_eq_true c5; omega
  obtain ⟨y,l⟩:∃ e,ds[a]?=some e:=⟨_,List.getElem?_eq_getElem h⟩
  rw [Om a y l] at b
  obtain ⟨m,o,rfl,v,x⟩:=t.all (by omega)
  have r:=x a _ l
  refine Ak Ae qf K5 [] fun w6 K6=>?_
  refine Ay (g:=m) (off:=o) (cap:=f) (sz:=1) (k:=a) (len:=ds.length) (some 14) h Tryz.underlying22 ?_
  refine Dz 3 m (o + a * 1) (δ ((y:Int))) (some 15) (by simpa using Ag r v K6.B 0 _ rfl) ?_
  refine AB qe K6 [] fun w7 K7=>?_
  refine N6 g (δ ((y:Int)) :: cap) (hg:=hg) (hF w7 K7.B _ (List.mem_of_getElem? l)) fun en w8 hh=>?_
  obtain ⟨rfl,b8⟩:=hh
  refine ⟨_,rfl,?_⟩
  have K8:=K7.below b8
  refine AB qd K8 [] fun w9 K9=>?_
  refine AG (F y) (fun p=>?_) (fun p=>?_)
  ·refine AB AB2 K9 [] fun k0 g0=>?_
   exact AO g0 (0,0) _ (by rw [b,p] <;> rfl)
  refine AB (AZ ae) K9 [] fun z d0=>?_
  refine AU [(0,τ (some ⟨m,o,none⟩) ds.length f),(1,.func (.func g) #[] ⟨cap⟩),(4,δ d),(7,δ ((ds.length:Int))),(8,δ (IntKind.i64.wrap ((a:Int) + 1)))] fun h0=>?_
  have c0:Wk w z [] [] []:=d0.pk [] []
  rw [Bl a (by omega)]
  refine i _ _ ⟨a + 1,d,h0,h,rfl,by rw [b,p] <;> rfl,c0⟩ ?_
  show ds.length - AL (δ ((a + 1:Nat):Int)) < ds.length - AL (δ (a:Int))
  simp only [AL]
  omega
 have s:a=ds.length:=by have:=of_decide_eq_false c5; omega
 rw [s,List.drop_length,Pk] at b
 refine AB AB1 K5 [] fun j0 b0=>?_
 exact AO b0 (0,0) _ (by rw [b] <;> rfl)
def EH (F:Nat→Bool) (ds:List (Nat)):Bool:=decide (0≤Br F ds)
noncomputable def Xn:Code:=Tryz.f79.body.getD .skip
def iV:=ν ([.code Xn])
def xB:=Ω iV
theorem RW (F:Nat→Bool) (a:Option Addr) (ds:List (Nat)) (d:Nat) (g:FuncId) (cap:List Value) (w:World) (f:rowsNat w a ds) (b:ds.length≤4294967296) (hg:DX Tryz.prog g=true) (k:∀ u,Below (ε w) w u→∀ (e:Nat),e∈ds→Calls Tryz.prog g (δ (e:Int) :: cap).toArray u fun l w'=>l=.returned (ξ (F e))∧Below (ε u) u w'):Calls Tryz.prog 79 ([τ a ds.length d,.func (.func g) #[] ⟨cap⟩]:List Value).toArray w fun e w'=>e=.returned (ξ (EH F ds))∧Below (ε w) w w':=by
 refine AS (fn:=Tryz.f79) (c:=Xn) (n:=9) ?_
 have q:=Wk.start w
 refine AB iV q [] fun i h=>?_
 refine AP h (args:=[τ a ds.length d,.func (.func g) #[] ⟨cap⟩]) (Np F _ ds _ g cap i (f.below h.B) b hg (fun j m=>k j (h.B.trans (m.mono h.B.size)))) fun s p=>?_
 refine AB xB p [] fun r o=>?_
 exact AO o (0,0) _ (by unfold EH; rfl)
attribute [local irreducible] EE C5
section
variable {α β:Type} [DecidableEq α] (S:Bc α β) {o:Oper} {ρ:Operand→Value} {w:World}
def Bc.optAt (A:Option Nat) (m:List (α×β)) (w:World):Prop:=match A with
 | none=>m=[]
 | some b=>S.at b m w
theorem Bc.optAt.below {S:Bc α β} {A:Option Nat} {m:List (α×β)} {w w':World} (h:S.optAt A m w) (B:Below (ε w) w w'):S.optAt A m w':=by
 cases A with
 | none=>exact h
 | some b=>exact Bc.below (S:=S) h B
omit [DecidableEq α] in
theorem Bc.look2N (a:α) (ha:S.ka a):(Instr.lookup S.t (.map none) (S.kv a) true).run Tryz.prog w=.ok (.tuple #[S.ev S.z,ξ false]) w:=by
 have c:=S.K.check w true (S.key a ha)
 have h2:=S.hz w
 have b:(Instr.findKey S.k (S.kv a) []).run Tryz.prog w=.ok none w:=by
  rcases S.K.find w (S.key a ha) [] (fun e he=>by cases he) with ⟨h,_⟩ | ⟨j,e,_,h,_⟩
  ·exact h
  simp at h
 unfold Instr.lookup
 simp [Sem.run_bind,run_underlying S.ht,c,h2,b]
theorem JO {t:TypeId} {x y:Operand} (hop:o.op=.lookup t x y true) (ht:t=S.t) {A:Option Nat} {m:List (α×β)} (hx:ρ x=.map A) (a:α) (c:ρ y=S.kv a) (ha:S.ka a) (h:S.optAt A m w):(execOp ρ o).run Tryz.prog w=.ok (.value (.tuple #[S.ev ((AH m a).getD S.z),ξ (AH m a).isSome])) w:=by
 cases A with
 | some b=>exact D6 S hop ht hx a c ha h
 | none=>
  obtain rfl:m=[]:=h
  subst ht
  have:=S.look2N (w:=w) a ha
  simp [execOp,hop,hx,c,this,AH]
theorem FA {γ:Type} (f:β→γ):∀ (m:List (α×β)) (a:α),AH (m.map fun p=>(p.1,f p.2)) a=(AH m a).map f
 | [],_=>rfl
 | p :: m,a=>by
  rw [List.map_cons,AH,AH]
  split
  ·rfl
  exact FA f m a
theorem EM:∀ {m:List (α×β)} {a:α} {v:β},AH m a=some v→(a,v)∈m
 | [],_,_,h=>by cases h
 | p :: m,a,v,h=>by
  rw [AH] at h
  split at h
  ·rename_i hp
   obtain rfl:=Option.some.inj h
   rw [← hp]
   exact List.mem_cons_self
  exact List.mem_cons_of_mem _ (EM h)
end
abbrev Gy:=List Gd×Option Addr×Nat
abbrev FI (x:Gy):n8:=(x.2.1,x.1.length,x.2.2)
def pt:Option (Int×Int)→Int×Int×Int
 | none=>(0,0,16)
 | some v=>(v.1,v.2,0)
def fz:Option (Int×Int)→Int×Int×Int
 | none=>(0,0,16)
 | some v=>cond (!(AV v.1 v.2)) (0,0,1) (v.1,v.2,0)
def AGI (kn kd:Int):Option Gy→Int×Int×Int
 | none=>(0,0,16)
 | some v=>Dc v.1 kn kd
def Bi (cl:Bool) (cm:List (Ao×Int×Int)) (nm:List (List UInt8×Int×Int)) (sx:List (List UInt8×Gy)) (pa:List Dk) (p:Ao):Int×Int×Int:=
 cond cl (pt (AH cm p)) (cond (p.1 == 3) (fz (AH nm p.2.1)) (cond (p.1 == 4) (AGI p.2.2.2.1 p.2.2.2.2 (AH sx p.2.1)) (cond (p.1 == 20) (Hq pa p.2.1 p.2.2.1) (LN pa p.2.1 p.2.2.1))))
noncomputable def aB:Code:=Tryz.f87.body.getD .skip
def sm:=Al 1 [.code aB]
def ck:=AI sm
def sk:=Al 2 (AD ck)
def cg:=AI sk
def ADO:=Ξ cg
def ADN:=Ψ cg
def cf:=Ψ ck
def sj:=Al 8 (AD cf)
def ce:=AI sj
def ADM:=Ξ ce
def jw:=Ψ ce
def Vd:=Ω jw
def yO:=Ξ Vd
def yN:=Ψ Vd
def Vc:=Ψ cf
def Vb:=Al 15 (AD Vc)
def Va:=AI Vb
def yM:=Ξ Va
def jv:=Ψ Va
def yL:=Ω jv
def VZ:=Ψ Vc
def ju:=Al 20 (AD VZ)
def yK:=AI ju
def jt:=Al 21 (AF VZ)
def yJ:=AI jt
theorem mW (g:Nat) (cl:Bool) (cA nA s kA:Option Nat) (cm:List (Ao×Int×Int)) (nm:List (List UInt8×Int×Int)) (sx:List (List UInt8×Gy)) (m uA:Option Addr) (pa:List Dk) (r un uc:Nat) (p:Ao) (w f:World) (m0:Cf.optAt cA cm w) (k0:Ez.optAt nA nm w) (j0:Eg.optAt s (sx.map fun q=>(q.1,FI q.2)) w) (i0:∀ q∈sx,Cs w q.2.2.1 q.2.1∧q.2.1.length≤4294967296) (d0:EW w m pa) (e0:pa.length≤4294967296) (l0:∀ e∈pa,e.2.length≤4294967296) (hp:H3 p) (B:Below (ε w) w f) (hX:A7.good f (ι g [ξ cl,.map cA,.map nA,.map s,τ m pa.length r,.map kA,τ uA un uc] 85)) :
  Calls Tryz.prog 87 ([ζ g,ψ (D1 p)]:List Value).toArray f fun e w'=>e=.returned (DT (Bi cl cm nm sx pa p))∧Below (ε f) f w':=by
 refine AS (fn:=Tryz.f87) (c:=aB) (n:=96) ?_
 have K1:=Wk.start f
 have k:∀ u,Below (ε f) f u→Below (ε w) w u:=fun u b=>B.trans (b.mono B.size)
 have g0:∀ u,Below (ε f) f u→A7.good u (ι g [ξ cl,.map cA,.map nA,.map s,τ m pa.length r,.map kA,τ uA un uc] 85):=fun u b=>GY hX b.size (b.block _ hX.1)
 refine CC 1 sm [ι (ε f) (D1 p) 117,ι (ε f + 1) [δ 0,δ 0] 41] K1 [] fun w1 K2=>?_
 refine Av K2 (mem:=[ι g [ξ cl,.map cA,.map nA,.map s,τ m pa.length r,.map kA,τ uA un uc] 85]) [(3,0,0)] [] (fun e he=>by rw [List.mem_singleton.1 he]; exact g0 _ K2.B) (fun sp i=>by cases i) fun w2 E2 K3=>?_
 unfold Bi
 refine AB ck K3 [] fun w3 K4=>?_
 have goods:∀ u,Wk f u [ι (ε f) (D1 p) 117,ι (ε f + 1) [δ 0,δ 0] 41] [] []→∀ e∈([ι (ε f) (D1 p) 117,ι g [ξ cl,.map cA,.map nA,.map s,τ m pa.length r,.map kA,τ uA un uc] 85]:List A7),e.good u:=fun u K e he=>by
  simp only [List.mem_cons,List.not_mem_nil,or_false] at he
  rcases he with rfl | rfl
  ·exact K.ent 0 rfl
  exact g0 _ K.B
 refine AG cl (fun c1=>?_) (fun c1=>?_) <;> rw [c1]
 ·refine As 2 sk K4 [] fun w4 K5=>?_
  refine SU K5 (mem:=[ι (ε f) (D1 p) 117,ι g [ξ cl,.map cA,.map nA,.map s,τ m pa.length r,.map kA,τ uA un uc] 85]) 10 8 [0,1,2,3,4,5,6,7,8] 9 41 [δ 0,δ 0] [(3,1,1),(4,0,0)] [⟨5,[(20,.map cA),(21,ψ (D1 p))],.tuple #[ψ (BT ((AH cm p).getD (0,0))),ξ (AH cm p).isSome],true⟩] [(10,2,0),(11,0,0)] (fun q=>[ι (ε f) (D1 p) 117,ι (ε f + 1) [δ 0,δ 0] 41,ι q (BT ((AH cm p).getD (0,0))) 41]) (goods _ K5) (fun v hv sp i=>?_) fun q z w5 K6=>?_
  ·rw [List.mem_singleton.1 i]
   exact BQ fun _ E u hu=>JO Cf (x:=.tmp 20) (y:=.tmp 21) (by kernel_rfl) rfl (by kernel_rfl) p (by kernel_rfl) hp (m0.below (k _ (K5.B.trans ((hv.trans (hu.mono hv.size)).mono K5.B.size))))
  refine AB cg K6 [] fun w6 t=>?_
  refine AG (!((AH cm p).isSome)) (fun c2=>?_) (fun c2=>?_)
  ·have hn:AH cm p=none:=by cases h:AH cm p with
    | none=>rfl
    | some v=>rw [h] at c2; cases c2
   refine AB ADO t [(1,0)] fun w7 j=>?_
   exact AK j (1,0) (.tuple #[ψ [δ 0,δ 0],δ 16]) ⟨by rw [hn]; rfl,j.B⟩
  obtain ⟨v,hv⟩:∃ v,AH cm p=some v:=Option.isSome_iff_exists.1 (by simpa using c2)
  refine Am ADN t [(2,0),(1,0)] fun w7 j=>?_
  refine AK j (1,0) (.tuple #[ψ (BT ((AH cm p).getD (0,0))),δ 0]) ⟨?_,j.B⟩
  rw [hv]
  rfl
 refine AB cf K4 [(0,0)] fun w4 K5=>?_
 refine AG (p.1 == 3) (fun c2=>?_) (fun c2=>?_) <;> rw [c2]
 ·refine As 8 sj K5 [] fun w5 K6=>?_
  refine SU K6 (mem:=[ι (ε f) (D1 p) 117,ι g [ξ cl,.map cA,.map nA,.map s,τ m pa.length r,.map kA,τ uA un uc] 85]) 11 9 [0,1,2,3,4,5,6,7,8,9] 10 41 [δ 0,δ 0] [(3,1,2),(5,0,1)] [⟨6,[(37,.map nA),(39,η (p.2.1))],.tuple #[ψ (BT ((AH nm p.2.1).getD (0,0))),ξ (AH nm p.2.1).isSome],true⟩] [(11,2,0),(12,0,0)] (fun q=>[ι (ε f) (D1 p) 117,ι (ε f + 1) [δ 0,δ 0] 41,ι q (BT ((AH nm p.2.1).getD (0,0))) 41]) (goods _ K6) (fun v hv sp i=>?_) fun q z w6 t=>?_
  ·rw [List.mem_singleton.1 i]
   exact BQ fun _ E u hu=>JO Ez (x:=.tmp 37) (y:=.tmp 39) (by kernel_rfl) rfl (by kernel_rfl) p.2.1 (by kernel_rfl) hp.2.1 (k0.below (k _ (K6.B.trans ((hv.trans (hu.mono hv.size)).mono K6.B.size))))
  refine AB ce t [] fun w7 j=>?_
  refine AG (!((AH nm p.2.1).isSome)) (fun c3=>?_) (fun c3=>?_)
  ·have hn:AH nm p.2.1=none:=by cases h:AH nm p.2.1 with
    | none=>rfl
    | some v=>rw [h] at c3; cases c3
   refine AB ADM j [(1,0)] fun w8 K9=>?_
   exact AK K9 (1,0) (.tuple #[ψ [δ 0,δ 0],δ 16]) ⟨by rw [hn]; rfl,K9.B⟩
  obtain ⟨v,hv⟩:∃ v,AH nm p.2.1=some v:=Option.isSome_iff_exists.1 (by simpa using c3)
  rw [hv] at j ⊢
  refine AB jw j [(2,0)] fun w8 K9=>?_
  refine AP K9 (args:=[ψ [δ v.1,δ v.2]]) (Bt v.1 v.2 w8) fun w9 a=>?_
  refine AB Vd a [] fun h0 a0=>?_
  unfold fz
  refine AG (!(AV v.1 v.2)) (fun c4=>?_) (fun c4=>?_)
  ·refine AB yO a0 [(1,0)] fun c0 l=>?_
   exact AK l (1,0) (.tuple #[ψ [δ 0,δ 0],δ 1]) ⟨by show _=Ending.returned (DT (cond (!(AV v.1 v.2)) _ _)); rw [c4]; rfl,l.B⟩
  refine Am yN a0 [(2,0),(1,0)] fun c0 l=>?_
  refine AK l (1,0) (.tuple #[ψ (BT v),δ 0]) ⟨?_,l.B⟩
  show _=Ending.returned (DT (cond (!(AV v.1 v.2)) _ _))
  rw [c4]
  rfl
 refine AB Vc K5 [] fun w5 K6=>?_
 refine AG (p.1 == 4) (fun c3=>?_) (fun c3=>?_) <;> rw [c3]
 ·refine As 15 Vb K6 [] fun w6 t=>?_
  have p0:∀ (d:n8),((AH (sx.map fun q=>(q.1,FI q.2)) p.2.1).getD d)=((AH sx p.2.1).map FI).getD d:=fun d=>by rw [FA]
  refine Av t (mem:=[ι (ε f) (D1 p) 117,ι g [ξ cl,.map cA,.map nA,.map s,τ m pa.length r,.map kA,τ uA un uc] 85]) [(3,1,3),(5,0,1)] [⟨6,[(57,.map s),(59,η (p.2.1))],.tuple #[Eg.ev (((AH sx p.2.1).map FI).getD (none,0,0)),ξ (AH sx p.2.1).isSome],true⟩] (goods _ t) (fun sp i=>?_) fun w7 E7 j=>?_
  ·rw [List.mem_singleton.1 i]
   refine BQ fun _ E u hu=>?_
   have:=JO Eg (o:=(AR Vb).getD 6 default) (ρ:=Q6 [(57,.map s),(59,η (p.2.1))] (A8 96 E)) (w:=u) (x:=.tmp 57) (y:=.tmp 59) (by kernel_rfl) rfl (by kernel_rfl) p.2.1 (by kernel_rfl) hp.2.1 (j0.below (k _ (t.B.trans (hu.mono t.B.size))))
   rw [FA,Option.isSome_map] at this
   exact this
  refine AB Va j [] fun w8 K9=>?_
  refine AG (!((AH sx p.2.1).isSome)) (fun c4=>?_) (fun c4=>?_)
  ·have hn:AH sx p.2.1=none:=by cases h:AH sx p.2.1 with
    | none=>rfl
    | some v=>rw [h] at c4; cases c4
   refine AB yM K9 [(1,0)] fun w9 a=>?_
   exact AK a (1,0) (.tuple #[ψ [δ 0,δ 0],δ 16]) ⟨by rw [hn]; rfl,a.B⟩
  obtain ⟨v,hv⟩:∃ v,AH sx p.2.1=some v:=Option.isSome_iff_exists.1 (by simpa using c4)
  have b0:=i0 _ (EM hv)
  rw [hv]
  refine AB jv K9 [(0,3)] fun w9 a=>?_
  refine AP a (args:=[τ v.2.1 v.1.length v.2.2,ψ [δ p.2.2.2.1,δ p.2.2.2.2]]) (Oz v.2.1 v.2.2 v.1 p.2.2.2.1 p.2.2.2.2 w9 (b0.1.below (k _ a.B)) b0.2) fun h0 a0=>?_
  refine Am yL a0 [(1,0)] fun c0 l=>?_
  exact AK l (1,0) (DT (Dc v.1 p.2.2.2.1 p.2.2.2.2)) ⟨rfl,l.B⟩
 refine AB VZ K6 [] fun w6 t=>?_
 refine AG (p.1 == 20) (fun c4=>?_) (fun c4=>?_) <;> rw [c4]
 ·refine As 20 ju t [] fun w7 j=>?_
  refine GD j (mem:=[ι (ε f) (D1 p) 117,ι g [ξ cl,.map cA,.map nA,.map s,τ m pa.length r,.map kA,τ uA un uc] 85]) [0,1,2,3,4,5,6,7,8,9,10] [(3,1,4),(5,0,1),(7,0,2)] [⟨8,[(77,τ m pa.length r),(79,η (p.2.1)),(81,δ p.2.2.1)],DT (Hq pa p.2.1 p.2.2.1),true⟩] [(11,1,0),(12,0,0)] (goods _ j) (fun sp i=>?_) fun z w8 K9=>?_
  ·rw [List.mem_singleton.1 i]
   exact AY 115 [.tmp 77,.tmp 79,.tmp 81] _ (fun _=>by kernel_rfl) fun hc u hu=>AQ hu (X7 m r pa p.2.1 p.2.2.1 u (d0.below (k _ (j.B.trans (hu.mono j.B.size)))) e0 l0)
  refine AB yK K9 [] fun w9 a=>?_
  exact AK a (1,0) (DT (Hq pa p.2.1 p.2.2.1)) ⟨rfl,a.B⟩
 refine As 21 jt t [] fun w7 j=>?_
 refine GD j (mem:=[ι (ε f) (D1 p) 117,ι g [ξ cl,.map cA,.map nA,.map s,τ m pa.length r,.map kA,τ uA un uc] 85]) [0,1,2,3,4,5,6,7,8,9,10] [(3,1,4),(5,0,1),(7,0,2)] [⟨8,[(88,τ m pa.length r),(90,η (p.2.1)),(92,δ p.2.2.1)],DT (LN pa p.2.1 p.2.2.1),true⟩] [(11,1,0),(12,0,0)] (goods _ j) (fun sp i=>?_) fun z w8 K9=>?_
 ·rw [List.mem_singleton.1 i]
  exact AY 116 [.tmp 88,.tmp 90,.tmp 92] _ (fun _=>by kernel_rfl) fun hc u hu=>AQ hu (mP m r pa p.2.1 p.2.2.1 u (d0.below (k _ (j.B.trans (hu.mono j.B.size)))) e0)
 refine AB yJ K9 [] fun w9 a=>?_
 exact AK a (1,0) (DT (LN pa p.2.1 p.2.2.1)) ⟨rfl,a.B⟩
end
end Go.Proofs.YtkjbdagicjbjjaaGreat

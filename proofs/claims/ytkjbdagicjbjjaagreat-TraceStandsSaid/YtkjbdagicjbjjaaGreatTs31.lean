/- Contracts of functions, part 31. -/
import Derived.Test.YtkjbdagicjbjjaaGreatTs30
set_option linter.all false
namespace Go.Proofs.YtkjbdagicjbjjaaGreat
noncomputable section
open Go.RowKit
set_option maxRecDepth 100000
set_option maxHeartbeats 1000000
attribute [local irreducible] BD BP AC AD AF Ar AZ AM Aw Bk C6 BV EE C5 BO At Fr
def Dg (kn:List (Ao×Int×Int)):Prop:=∀ p∈kn,EX p.2.1∧EX p.2.2
theorem Wk.lend {w0 w:World} {e:A7} {M:List A7} {L T:List Th} (K:Wk w0 w (e :: M) L T):Aj (ε w0) w ((Th.ent e :: L)++(M.map Th.ent++T)):=
 Wk.swap3 (X:=M.map Th.ent) (Y:=Th.ent e :: L) (V:=T) (Wk.swap3 (X:=[Th.ent e]) (Y:=M.map Th.ent) (V:=L++T) K.H)
theorem Wk.unlend {w0 w:World} {e:A7} {M:List A7} {L T:List Th} (B:Below (ε w0) w0 w) (h:Aj (ε w0) w ((Th.ent e :: L)++(M.map Th.ent++T))):Wk w0 w (e :: M) L T:=
 ⟨B,Wk.swap3 (X:=M.map Th.ent) (Y:=[Th.ent e]) (V:=L++T) (Wk.swap3 (X:=Th.ent e :: L) (Y:=M.map Th.ent) (V:=T) h)⟩
abbrev DC (g:Nat) (cl:Bool) (cA nA sA:Option Nat) (pA:Option Addr) (pn pc:Nat) (kA:Option Nat) (uA:Option Addr) (un uc:Nat):A7:=(ι g [ξ cl,.map cA,.map nA,.map sA,τ pA pn pc,.map kA,τ uA un uc] 85)
def MF (F:FuncId) (w:World) (g:Nat) (cl:Bool) (cA nA sA:Option Nat) (pA:Option Addr) (pn pc:Nat) (f:Ex→Cq→C0) (x:Ex):Prop:=∀ (Z:List Th) (kA:Option Nat) (kn:List (Ao×Int×Int)) (uA:Option Addr) (us:List DP) (uc:Nat) (A:Option Addr) (c:Nat) (we:World),rowsEx w A x.ks→kn.length + nE x≤4294967296→us.length + nE x≤4294967296→Dg kn→Below (ε w) w we→Aj (ε w) we ([Th.ent (DC g cl cA nA sA pA pn pc kA uA us.length uc),Cf.thO kA kn,CH uA uc us]++Z)→
 Calls Tryz.prog F ([ζ g,ψ (AX x A c)]:List Value).toArray we fun e w'=>∃ kA' uA' uc',e=.returned (DT (f x (kn,us)).1)∧Below (ε w) w w'∧Aj (ε w) w' ([Th.ent (DC g cl cA nA sA pA pn pc kA' uA' (f x (kn,us)).2.2.length uc'),Cf.thO kA' (f x (kn,us)).2.1,CH uA' uc' (f x (kn,us)).2.2]++Z)
noncomputable def aK:Code:=Tryz.f61.body.getD .skip
def dY:=ν [.code aK]
def tg:=AA (An Ae 90 (AF dY)) (AF dY)
def tf:=ν (AC (AC tg))
def dX:=Ω tf
def ADh:=Ξ dX
def dW:=Ψ dX
def te:=Ξ dW
def ADg:=Ω te
def ta:=Ψ dW
def dV:=Ψ ta
def lC:=AA (An Ae 90 (AF dV)) (AF dV)
def lB:=ν (AC (AC lC))
def y1:=Ω lB
theorem Yo (w:World) (g:Nat) (cl:Bool) (cA nA u:Option Nat) (z:Option Addr) (v y:Nat) (f:Ex→Cq→C0) (x m k1:Ex) (hop:x.op=12) (t:x.ks=[m,k1]) (hk:∀ k∈x.ks,MF 39 w g cl cA nA u z v y f k) (hg:∀ k∈x.ks,∀ s,DI (nE k) s (f k s).2) (hr:∀ k∈x.ks,∀ s,Dg s.1→Dg (f k s).2.1):MF 61 w g cl cA nA u z v y (CR f) x:=by
 intro Z kA j uA b uc A c we hx q0 p0 j0 B H
 rw [OR,t] at q0 p0
 rw [t] at hx hk hg hr
 simp only [Fd] at q0 p0
 have o:CR f x (j,b)=cond (!((f m (j,b)).1.2.2 == 0)) ((0,0,(f m (j,b)).1.2.2),(f m (j,b)).2) (cond ((f m (j,b)).1.1 == 0) ((0,1,0),(f m (j,b)).2) (f k1 (f m (j,b)).2)):=by
  unfold CR
  rw [t,hop]
  rfl
 have l0:=hg m (by simp) (j,b)
 have p:=hr m (by simp) (j,b) j0
 rw [show AX x A c=[δ 12,δ x.num,δ x.den,δ x.mu,δ x.hu,δ x.du,η (x.nm),δ x.cnt,δ x.md,τ A 2 c] by unfold AX; rw [hop,t]; rfl]
 refine AS (fn:=Tryz.f61) (c:=aK) (n:=82) ?_
 have K1:Wk w we [(DC g cl cA nA u z v y (kA) (uA) (b.length) (uc))] [Cf.thO kA j,CH uA uc b] Z:=⟨B,H⟩
 clear B H
 obtain ⟨gk,fk,rfl,m0,a0⟩:=hx.all (by simp)
 obtain ⟨A0,c0,a1,x0⟩:=a0 0 m rfl
 obtain ⟨A1,c1,z0,w0⟩:=a0 1 k1 rfl
 refine Ah dY [(DC g cl cA nA u z v y (kA) (uA) (b.length) (uc)),ι (ε we) [δ 12,δ x.num,δ x.den,δ x.mu,δ x.hu,δ x.du,η (x.nm),δ x.cnt,δ x.md,τ (some ⟨gk,fk,none⟩) 2 c] 53,ι (ε we + 1) [δ 0,δ 0] 41] K1 [(1,9),(1,0)] fun w1 K2=>?_
 refine AG false (fun h=>by cases h) (fun _=>?_)
 refine Ak Ae tg K2 [(1,9)] fun w2 K3=>?_
 refine Ay (g:=gk) (off:=fk) (cap:=c) (sz:=10) (k:=0) (len:=2) (some 29) (by decide) Tryz.underlying51 ?_
 refine BN 53 gk (fk + 0 * 10) _ (some 30) (Ag a1 m0 K3.B) ?_
 refine AB tf K3 [] fun w3 K4=>?_
 refine BA (hk m (by simp) _ kA j uA b uc A0 c0 w3 x0 (by omega) (by omega) j0 K4.B K4.lend) fun en w6 hh=>?_
 obtain ⟨i,e,d,rfl,b6,Hn⟩:=hh
 refine ⟨_,rfl,?_⟩
 have K6:=Wk.unlend b6 Hn
 generalize hR:(f m (j,b))=r at o l0 p K6 ⊢
 obtain ⟨⟨r1,r2,r3⟩,a⟩:=r
 obtain ⟨g1,g2⟩:=l0
 replace p:Dg a.1:=p
 refine Ah dX [(DC g cl cA nA u z v y (i) (e) (a.2.length) (d)),ι (ε we) [δ 12,δ x.num,δ x.den,δ x.mu,δ x.hu,δ x.du,η (x.nm),δ x.cnt,δ x.md,τ (some ⟨gk,fk,none⟩) 2 c] 53,ι (ε we + 1) [δ 0,δ 0] 41,ι (ε w6) (BT (r1,r2)) 41] K6 [(3,0)] fun w7 K7=>?_
 refine AG (!(r3 == 0)) (fun cE=>?_) (fun cE=>?_)
 ·replace o:CR f x (j,b)=((0,0,r3),a):=by rw [o]; show cond (!(r3 == 0)) _ _=_; rw [cE]; rfl
  refine Am ADh K7 [(2,0)] fun w8 K8=>?_
  refine AK K8 (2,0) (.tuple #[ψ [δ 0,δ 0],δ r3]) ?_
  rw [o]
  exact ⟨i,e,d,rfl,K8.B,(K8.pk [0] [0,1] (M':=[(DC g cl cA nA u z v y (i) (e) (a.2.length) (d))]) (L':=[Cf.thO i a.1,CH e d a.2])).H⟩
 replace o:CR f x (j,b)=cond (r1 == 0) ((0,1,0),a) (f k1 a):=by rw [o]; show cond (!(r3 == 0)) _ _=_; rw [cE]; rfl
 refine AB dW K7 [(3,0),(1,0)] fun w8 K8=>?_
 refine AG (!(!(r1 == 0))) (fun c3=>?_) (fun c3=>?_) <;> rw [Bool.not_not] at c3 <;> rw [c3] at o
 ·refine AB te K8 [] fun w9 K9=>?_
  refine AP K9 (args:=[ξ false]) (Hd false w9) fun v0 i0=>?_
  refine Am ADg i0 [(2,0)] fun t0 l=>?_
  refine AK l (2,0) (.tuple #[ψ [δ 0,δ 1],δ 0]) ?_
  rw [o]
  exact ⟨i,e,d,rfl,l.B,(l.pk [0] [0,1] (M':=[(DC g cl cA nA u z v y (i) (e) (a.2.length) (d))]) (L':=[Cf.thO i a.1,CH e d a.2])).H⟩
 refine AB ta K8 [(1,0)] fun w9 K9=>?_
 refine AG false (fun h=>by cases h) (fun _=>?_)
 refine AB dV K9 [(1,0)] fun v0 i0=>?_
 refine AG false (fun h=>by cases h) (fun _=>?_)
 refine Ak Ae lC i0 [(1,9)] fun t0 l=>?_
 refine Ay (g:=gk) (off:=fk) (cap:=c) (sz:=10) (k:=1) (len:=2) (some 77) (by decide) Tryz.underlying51 ?_
 refine BN 53 gk (fk + 1 * 10) _ (some 78) (Ag z0 m0 l.B) ?_
 refine AB lB l [] fun s0 r0=>?_
 refine BA (hk k1 (by simp) _ i a.1 e a.2 d A1 c1 s0 w0 (by simp at g1; omega) (by simp at g2; omega) p r0.B r0.lend) fun en e1 hh=>?_
 obtain ⟨e0,d0,b0,rfl,b1,Hn⟩:=hh
 refine ⟨_,rfl,?_⟩
 have h0:=Wk.unlend b1 Hn
 replace o:CR f x (j,b)=f k1 a:=o
 rw [show ((a.1,a.2):Cq)=a from rfl] at h0
 rw [show ((a.1,a.2):Cq)=a from rfl]
 generalize f k1 a=q at o h0 ⊢
 obtain ⟨⟨q1,q2,q3⟩,s2⟩:=q
 refine Am y1 h0 [(2,0)] fun d1 g0=>?_
 refine AK g0 (2,0) (.tuple #[ψ [δ q1,δ q2],δ q3]) ?_
 rw [o]
 exact ⟨e0,d0,b0,rfl,g0.B,(g0.pk [0] [0,1] (M':=[(DC g cl cA nA u z v y (e0) (d0) (s2.2.length) (b0))]) (L':=[Cf.thO e0 s2.1,CH d0 b0 s2.2])).H⟩
noncomputable def aI:Code:=Tryz.f61.body.getD .skip
def dO:=ν [.code aI]
def tS:=AA (An Ae 90 (AF dO)) (AF dO)
def tR:=ν (AC (AC tS))
def dN:=Ω tR
def ADd:=Ξ dN
def tQ:=Ψ dN
def dM:=Ψ tQ
def tP:=Ξ dM
def ADc:=Ω tP
def dL:=Ψ dM
def kw:=AA (An Ae 90 (AF dL)) (AF dL)
def ku:=ν (AC (AC kw))
def yx:=Ω ku
theorem Ym (w:World) (g:Nat) (cl:Bool) (cA nA u:Option Nat) (z:Option Addr) (v y:Nat) (f:Ex→Cq→C0) (x m k1:Ex) (hop:x.op=13) (t:x.ks=[m,k1]) (hk:∀ k∈x.ks,MF 39 w g cl cA nA u z v y f k) (hg:∀ k∈x.ks,∀ s,DI (nE k) s (f k s).2) (hr:∀ k∈x.ks,∀ s,Dg s.1→Dg (f k s).2.1):MF 61 w g cl cA nA u z v y (CR f) x:=by
 intro Z kA j uA b uc A c we hx q0 p0 j0 B H
 rw [OR,t] at q0 p0
 rw [t] at hx hk hg hr
 simp only [Fd] at q0 p0
 have o:CR f x (j,b)=cond (!((f m (j,b)).1.2.2 == 0)) ((0,0,(f m (j,b)).1.2.2),(f m (j,b)).2) (cond (!((f m (j,b)).1.1 == 0)) ((1,1,0),(f m (j,b)).2) (f k1 (f m (j,b)).2)):=by
  unfold CR
  rw [t,hop]
  rfl
 have l0:=hg m (by simp) (j,b)
 have p:=hr m (by simp) (j,b) j0
 rw [show AX x A c=[δ 13,δ x.num,δ x.den,δ x.mu,δ x.hu,δ x.du,η (x.nm),δ x.cnt,δ x.md,τ A 2 c] by unfold AX; rw [hop,t]; rfl]
 refine AS (fn:=Tryz.f61) (c:=aI) (n:=82) ?_
 have K1:Wk w we [(DC g cl cA nA u z v y (kA) (uA) (b.length) (uc))] [Cf.thO kA j,CH uA uc b] Z:=⟨B,H⟩
 clear B H
 obtain ⟨gk,fk,rfl,m0,a0⟩:=hx.all (by simp)
 obtain ⟨A0,c0,b1,z0⟩:=a0 0 m rfl
 obtain ⟨A1,c1,a1,x0⟩:=a0 1 k1 rfl
 refine Ah dO [(DC g cl cA nA u z v y (kA) (uA) (b.length) (uc)),ι (ε we) [δ 13,δ x.num,δ x.den,δ x.mu,δ x.hu,δ x.du,η (x.nm),δ x.cnt,δ x.md,τ (some ⟨gk,fk,none⟩) 2 c] 53,ι (ε we + 1) [δ 0,δ 0] 41] K1 [(1,9),(1,0)] fun w1 K2=>?_
 refine AG false (fun h=>by cases h) (fun _=>?_)
 refine Ak Ae tS K2 [(1,9)] fun w2 K3=>?_
 refine Ay (g:=gk) (off:=fk) (cap:=c) (sz:=10) (k:=0) (len:=2) (some 29) (by decide) Tryz.underlying51 ?_
 refine BN 53 gk (fk + 0 * 10) _ (some 30) (Ag b1 m0 K3.B) ?_
 refine AB tR K3 [] fun w3 K4=>?_
 refine BA (hk m (by simp) _ kA j uA b uc A0 c0 w3 z0 (by omega) (by omega) j0 K4.B K4.lend) fun en w6 hh=>?_
 obtain ⟨i,e,d,rfl,b6,Hn⟩:=hh
 refine ⟨_,rfl,?_⟩
 have K6:=Wk.unlend b6 Hn
 generalize hR:(f m (j,b))=r at o l0 p K6 ⊢
 obtain ⟨⟨r1,r2,r3⟩,a⟩:=r
 obtain ⟨g1,g2⟩:=l0
 replace p:Dg a.1:=p
 refine Ah dN [(DC g cl cA nA u z v y (i) (e) (a.2.length) (d)),ι (ε we) [δ 13,δ x.num,δ x.den,δ x.mu,δ x.hu,δ x.du,η (x.nm),δ x.cnt,δ x.md,τ (some ⟨gk,fk,none⟩) 2 c] 53,ι (ε we + 1) [δ 0,δ 0] 41,ι (ε w6) (BT (r1,r2)) 41] K6 [(3,0)] fun w7 K7=>?_
 refine AG (!(r3 == 0)) (fun cE=>?_) (fun cE=>?_)
 ·replace o:CR f x (j,b)=((0,0,r3),a):=by rw [o]; show cond (!(r3 == 0)) _ _=_; rw [cE]; rfl
  refine Am ADd K7 [(2,0)] fun w8 K8=>?_
  refine AK K8 (2,0) (.tuple #[ψ [δ 0,δ 0],δ r3]) ?_
  rw [o]
  exact ⟨i,e,d,rfl,K8.B,(K8.pk [0] [0,1] (M':=[(DC g cl cA nA u z v y (i) (e) (a.2.length) (d))]) (L':=[Cf.thO i a.1,CH e d a.2])).H⟩
 replace o:CR f x (j,b)=cond (!(r1 == 0)) ((1,1,0),a) (f k1 a):=by rw [o]; show cond (!(r3 == 0)) _ _=_; rw [cE]; rfl
 refine AB tQ K7 [(3,0),(1,0)] fun w8 K8=>?_
 refine AG false (fun h=>by cases h) (fun _=>?_)
 refine AB dM K8 [(1,0)] fun e1 r0=>?_
 refine AG (!(r1 == 0)) (fun c3=>?_) (fun c3=>?_) <;> rw [c3] at o
 ·refine AB tP r0 [] fun w9 K9=>?_
  refine AP K9 (args:=[ξ true]) (Hd true w9) fun w0 i0=>?_
  refine Am ADc i0 [(2,0)] fun v0 l=>?_
  refine AK l (2,0) (.tuple #[ψ [δ 1,δ 1],δ 0]) ?_
  rw [o]
  exact ⟨i,e,d,rfl,l.B,(l.pk [0] [0,1] (M':=[(DC g cl cA nA u z v y (i) (e) (a.2.length) (d))]) (L':=[Cf.thO i a.1,CH e d a.2])).H⟩
 refine AB dL r0 [(1,0)] fun w0 i0=>?_
 refine AG false (fun h=>by cases h) (fun _=>?_)
 refine Ak Ae kw i0 [(1,9)] fun v0 l=>?_
 refine Ay (g:=gk) (off:=fk) (cap:=c) (sz:=10) (k:=1) (len:=2) (some 77) (by decide) Tryz.underlying51 ?_
 refine BN 53 gk (fk + 1 * 10) _ (some 78) (Ag a1 m0 l.B) ?_
 refine AB ku l [] fun t0 s0=>?_
 refine BA (hk k1 (by simp) _ i a.1 e a.2 d A1 c1 t0 x0 (by simp at g1; omega) (by simp at g2; omega) p s0.B s0.lend) fun en h1 hh=>?_
 obtain ⟨e0,d0,b0,rfl,d1,Hn⟩:=hh
 refine ⟨_,rfl,?_⟩
 have h0:=Wk.unlend d1 Hn
 replace o:CR f x (j,b)=f k1 a:=o
 rw [show ((a.1,a.2):Cq)=a from rfl] at h0
 rw [show ((a.1,a.2):Cq)=a from rfl]
 generalize f k1 a=q at o h0 ⊢
 obtain ⟨⟨q1,q2,q3⟩,s2⟩:=q
 refine Am yx h0 [(2,0)] fun f1 g0=>?_
 refine AK g0 (2,0) (.tuple #[ψ [δ q1,δ q2],δ q3]) ?_
 rw [o]
 exact ⟨e0,d0,b0,rfl,g0.B,(g0.pk [0] [0,1] (M':=[(DC g cl cA nA u z v y (e0) (d0) (s2.2.length) (b0))]) (L':=[Cf.thO e0 s2.1,CH d0 b0 s2.2])).H⟩
noncomputable def aJ:Code:=Tryz.f61.body.getD .skip
def dU:=ν [.code aJ]
def tZ:=AA (An Ae 90 (AF dU)) (AF dU)
def tY:=ν (AC (AC tZ))
def dT:=Ω tY
def ADf:=Ξ dT
def tX:=Ψ dT
def tW:=Ψ tX
def Qk:=Ψ tW
def tV:=AA (An Ae 90 (AD Qk)) (AD Qk)
def tU:=ν (AC (AC tV))
def y0:=Ω tU
def lA:=AA (An Ae 90 (AF Qk)) (AF Qk)
def kz:=ν (AC (AC lA))
def yz:=Ω kz
theorem Yn (w:World) (g:Nat) (cl:Bool) (cA nA sA:Option Nat) (pA:Option Addr) (pn pc:Nat) (f:Ex→Cq→C0) (x v k1 k2:Ex) (hop:x.op=18) (d0:x.ks=[v,k1,k2]) (hk:∀ k∈x.ks,MF 39 w g cl cA nA sA pA pn pc f k) (hg:∀ k∈x.ks,∀ s,DI (nE k) s (f k s).2) (hr:∀ k∈x.ks,∀ s,Dg s.1→Dg (f k s).2.1):MF 61 w g cl cA nA sA pA pn pc (CR f) x:=by
 intro Z kA d uA b uc A c we hx m0 l0 i0 B H
 rw [OR,d0] at m0 l0
 rw [d0] at hx hk hg hr
 simp only [Fd] at m0 l0
 have l:CR f x (d,b)=cond (!((f v (d,b)).1.2.2 == 0)) ((0,0,(f v (d,b)).1.2.2),(f v (d,b)).2) (cond ((f v (d,b)).1.1 == 0) (f k2 (f v (d,b)).2) (f k1 (f v (d,b)).2)):=by
  unfold CR
  rw [d0,hop]
  rfl
 have j0:=hg v (by simp) (d,b)
 have y:=hr v (by simp) (d,b) i0
 rw [show AX x A c=[δ 18,δ x.num,δ x.den,δ x.mu,δ x.hu,δ x.du,η (x.nm),δ x.cnt,δ x.md,τ A 3 c] by unfold AX; rw [hop,d0]; rfl]
 refine AS (fn:=Tryz.f61) (c:=aJ) (n:=82) ?_
 have K1:Wk w we [(DC g cl cA nA sA pA pn pc (kA) (uA) (b.length) (uc))] [Cf.thO kA d,CH uA uc b] Z:=⟨B,H⟩
 clear B H
 obtain ⟨gk,fk,rfl,g0,z⟩:=hx.all (by simp)
 obtain ⟨A0,c0,a1,w0⟩:=z 0 v rfl
 obtain ⟨A1,c1,z0,v0⟩:=z 1 k1 rfl
 obtain ⟨A2,c2,x0,t0⟩:=z 2 k2 rfl
 refine Ah dU [(DC g cl cA nA sA pA pn pc (kA) (uA) (b.length) (uc)),ι (ε we) [δ 18,δ x.num,δ x.den,δ x.mu,δ x.hu,δ x.du,η (x.nm),δ x.cnt,δ x.md,τ (some ⟨gk,fk,none⟩) 3 c] 53,ι (ε we + 1) [δ 0,δ 0] 41] K1 [(1,9),(1,0),(1,9)] fun w1 K2=>?_
 refine AG false (fun h=>by cases h) (fun _=>?_)
 refine Ak Ae tZ K2 [(1,9)] fun w2 K3=>?_
 refine Ay (g:=gk) (off:=fk) (cap:=c) (sz:=10) (k:=0) (len:=3) (some 29) (by decide) Tryz.underlying51 ?_
 refine BN 53 gk (fk + 0 * 10) _ (some 30) (Ag a1 g0 K3.B) ?_
 refine AB tY K3 [] fun w3 K4=>?_
 refine BA (hk v (by simp) _ kA d uA b uc A0 c0 w3 w0 (by omega) (by omega) i0 K4.B K4.lend) fun en w6 hh=>?_
 obtain ⟨u,t,p,rfl,b6,Hn⟩:=hh
 refine ⟨_,rfl,?_⟩
 have K6:=Wk.unlend b6 Hn
 generalize hR:(f v (d,b))=r at l j0 y K6 ⊢
 obtain ⟨⟨r1,r2,r3⟩,a⟩:=r
 obtain ⟨g1,g2⟩:=j0
 replace y:Dg a.1:=y
 refine Ah dT [(DC g cl cA nA sA pA pn pc (u) (t) (a.2.length) (p)),ι (ε we) [δ 18,δ x.num,δ x.den,δ x.mu,δ x.hu,δ x.du,η (x.nm),δ x.cnt,δ x.md,τ (some ⟨gk,fk,none⟩) 3 c] 53,ι (ε we + 1) [δ 0,δ 0] 41,ι (ε w6) (BT (r1,r2)) 41] K6 [(3,0)] fun w7 K7=>?_
 refine AG (!(r3 == 0)) (fun cE=>?_) (fun cE=>?_)
 ·replace l:CR f x (d,b)=((0,0,r3),a):=by rw [l]; show cond (!(r3 == 0)) _ _=_; rw [cE]; rfl
  refine Am ADf K7 [(2,0)] fun w8 K8=>?_
  refine AK K8 (2,0) (.tuple #[ψ [δ 0,δ 0],δ r3]) ?_
  rw [l]
  exact ⟨u,t,p,rfl,K8.B,(K8.pk [0] [0,1] (M':=[(DC g cl cA nA sA pA pn pc (u) (t) (a.2.length) (p))]) (L':=[Cf.thO u a.1,CH t p a.2])).H⟩
 replace l:CR f x (d,b)=cond (r1 == 0) (f k2 a) (f k1 a):=by rw [l]; show cond (!(r3 == 0)) _ _=_; rw [cE]; rfl
 refine AB tX K7 [(3,0),(1,0)] fun w8 K8=>?_
 refine AG false (fun h=>by cases h) (fun _=>?_)
 refine AB tW K8 [(1,0)] fun e1 b1=>?_
 refine AG false (fun h=>by cases h) (fun _=>?_)
 refine AB Qk b1 [(1,0)] fun d1 p0=>?_
 refine AG (!(!(r1 == 0))) (fun c3=>?_) (fun c3=>?_) <;> rw [Bool.not_not] at c3 <;> rw [c3] at l
 ·skip
  refine Ak Ae tV p0 [(1,9)] fun s0 b0=>?_
  refine Ay (g:=gk) (off:=fk) (cap:=c) (sz:=10) (k:=2) (len:=3) (some 69) (by decide) Tryz.underlying51 ?_
  refine BN 53 gk (fk + 2 * 10) _ (some 70) (Ag x0 g0 b0.B) ?_
  refine AB tU b0 [] fun e0 a0=>?_
  refine BA (hk k2 (by simp) _ u a.1 t a.2 p A2 c2 e0 t0 (by simp at g1; omega) (by simp at g2; omega) y a0.B a0.lend) fun en r0 hh=>?_
  obtain ⟨j,i,e,rfl,h0,Hn⟩:=hh
  refine ⟨_,rfl,?_⟩
  have o:=Wk.unlend h0 Hn
  replace l:CR f x (d,b)=f k2 a:=l
  rw [show ((a.1,a.2):Cq)=a from rfl] at o
  rw [show ((a.1,a.2):Cq)=a from rfl]
  generalize f k2 a=q at l o ⊢
  obtain ⟨⟨q1,q2,q3⟩,s2⟩:=q
  refine Am y0 o [(2,0)] fun q0 m=>?_
  refine AK m (2,0) (.tuple #[ψ [δ q1,δ q2],δ q3]) ?_
  rw [l]
  exact ⟨j,i,e,rfl,m.B,(m.pk [0] [0,1] (M':=[(DC g cl cA nA sA pA pn pc (j) (i) (s2.2.length) (e))]) (L':=[Cf.thO j s2.1,CH i e s2.2])).H⟩
 skip
 refine Ak Ae lA p0 [(1,9)] fun s0 b0=>?_
 refine Ay (g:=gk) (off:=fk) (cap:=c) (sz:=10) (k:=1) (len:=3) (some 77) (by decide) Tryz.underlying51 ?_
 refine BN 53 gk (fk + 1 * 10) _ (some 78) (Ag z0 g0 b0.B) ?_
 refine AB kz b0 [] fun e0 a0=>?_
 refine BA (hk k1 (by simp) _ u a.1 t a.2 p A1 c1 e0 v0 (by simp at g1; omega) (by simp at g2; omega) y a0.B a0.lend) fun en r0 hh=>?_
 obtain ⟨j,i,e,rfl,h0,Hn⟩:=hh
 refine ⟨_,rfl,?_⟩
 have o:=Wk.unlend h0 Hn
 replace l:CR f x (d,b)=f k1 a:=l
 rw [show ((a.1,a.2):Cq)=a from rfl] at o
 rw [show ((a.1,a.2):Cq)=a from rfl]
 generalize f k1 a=q at l o ⊢
 obtain ⟨⟨q1,q2,q3⟩,s2⟩:=q
 refine Am yz o [(2,0)] fun q0 m=>?_
 refine AK m (2,0) (.tuple #[ψ [δ q1,δ q2],δ q3]) ?_
 rw [l]
 exact ⟨j,i,e,rfl,m.B,(m.pk [0] [0,1] (M':=[(DC g cl cA nA sA pA pn pc (j) (i) (s2.2.length) (e))]) (L':=[Cf.thO j s2.1,CH i e s2.2])).H⟩
noncomputable def aD:Code:=Tryz.f39.body.getD .skip
def cz:=ν [.code aD]
def ADW:=Ξ cz
def cy:=Ψ cz
def s4:=Ξ cy
def ADV:=Ω s4
def cw:=Ψ cy
def s3:=Ξ cw
def sy:=Ξ s3
def ADU:=Ω sy
def cv:=Ψ cw
def kj:=Ξ cv
def ki:=Ξ kj
def yl:=Ω ki
def V0:=Ψ cv
def kh:=Ξ V0
def yk:=Ω kh
def Vz:=Ψ V0
def kg:=Ξ Vz
def kf:=Ξ kg
def yj:=Ω kf
def Vy:=Ψ Vz
def ke:=Ξ Vy
def kb:=Ξ ke
def yi:=Ω kb
def kZ:=Ψ Vy
def kY:=Ξ kZ
def yh:=Ω kY
def Mh (k:Int):Bool:=k == 1 || (k == 2 || (k == 3 || (k == 20 || (k == 21 || (k == 18 || (k == 12 || k == 13))))))
theorem Xe (w:World) (g:Nat) (k:Bool) (cA nA y:Option Nat) (z:Option Addr) (pa:List Dk) (pc:Nat) (r:List (Ao×Int×Int)) (nm:List (List UInt8×Int×Int)) (p:List (List UInt8×Gy)) (q0:Cf.optAt cA r w) (l0:Ez.optAt nA nm w) (g0:Eg.optAt y (p.map fun q=>(q.1,FI q.2)) w) (e0:∀ q∈p,Cs w q.2.2.1 q.2.1∧q.2.1.length≤4294967296) (k0:EW w z pa) (p0:pa.length≤4294967296) (m0:∀ e∈pa,e.2.length≤4294967296) (h:Nat) (x:Ex) (hl:Mh x.op=true) (j0:H3 (x.op,x.nm,x.cnt,0,0)) (r0:(x.op == 18 || (x.op == 12 || x.op == 13))=true→MF 61 w g k cA nA y z pa.length pc (CR (BH (Bi k r nm p pa) h)) x):MF 39 w g k cA nA y z pa.length pc (BH (Bi k r nm p pa) (h + 1)) x:=by
 intro Z kA m uA l uc A c we hx t0 s0 i0 B H
 refine AS (fn:=Tryz.f39) (c:=aD) (n:=93) ?_
 have K1:Wk w we [(DC g k cA nA y z pa.length pc (kA) (uA) (l.length) (uc))] [Cf.thO kA m,CH uA uc l] Z:=⟨B,H⟩
 clear B H
 refine Ah cz [(DC g k cA nA y z pa.length pc (kA) (uA) (l.length) (uc)),ι (ε we) (AX x A c) 53,ι (ε we + 1) [δ 0,δ 0] 41] K1 [(1,0)] fun w1 K2=>?_
 refine AG (x.op == 1) (fun v=>?_) (fun n1=>?_)
 ·have s:x.op=1:=eq_of_beq v
  have hQ:BH (Bi k r nm p pa) (h + 1) x (m,l)=((x.num,x.den,0),(m,l)):=by rw [BH,s]; rfl
  rw [hQ]
  refine Am ADW K2 [(1,1),(2,0)] fun a0 a=>?_
  refine AK a (2,0) (.tuple #[ψ [δ x.num,δ x.den],δ 0]) ?_
  exact ⟨kA,uA,uc,rfl,a.B,(a.pk [0] [0,1] (M':=[(DC g k cA nA y z pa.length pc (kA) (uA) (l.length) (uc))]) (L':=[Cf.thO kA m,CH uA uc l])).H⟩
 refine AB cy K2 [] fun w3 K3=>?_
 refine AG (x.op == 2) (fun v=>?_) (fun n2=>?_)
 ·have s:x.op=2:=eq_of_beq v
  have hQ:BH (Bi k r nm p pa) (h + 1) x (m,l)=(((Di (x.cnt == 1)).1,(Di (x.cnt == 1)).2,0),(m,l)):=by rw [BH,s]; rfl
  rw [hQ]
  refine AB s4 K3 [(1,7)] fun o j=>?_
  refine AP j (args:=[ξ (x.cnt == 1)]) (Hd (x.cnt == 1) o) fun c0 i=>?_
  refine Am ADV i [(2,0)] fun a0 a=>?_
  refine AK a (2,0) (.tuple #[ψ [δ (Di (x.cnt == 1)).1,δ (Di (x.cnt == 1)).2],δ 0]) ?_
  exact ⟨kA,uA,uc,rfl,a.B,(a.pk [0] [0,1] (M':=[(DC g k cA nA y z pa.length pc (kA) (uA) (l.length) (uc))]) (L':=[Cf.thO kA m,CH uA uc l])).H⟩
 refine AB cw K3 [] fun w5 K5=>?_
 refine AG (x.op == 3) (fun v=>?_) (fun n3=>?_)
 ·refine AB s3 K5 [] fun d0 b0=>?_
  refine AG (x.op == 3) (fun _=>?_) (fun h0=>by rw [v] at h0; cases h0)
  have hQ:BH (Bi k r nm p pa) (h + 1) x (m,l)=(Cu (Bi k r nm p pa) (x.op,x.nm,x.cnt,0,0) (m,l)):=by
   have hx:x.op=3:=eq_of_beq v
   unfold BH
   rw [hx]
   rfl
  rw [hQ]
  refine AB sy b0 [(1,0),(1,6),(1,7)] fun o j=>?_
  refine BA (LM _ g k cA nA y z pa pc r nm p kA m uA l uc (x.op,x.nm,x.cnt,0,0) w o q0 l0 g0 e0 k0 p0 m0 j0 (by omega) (by omega) j.B j.lend) fun en c0 hh=>?_
  obtain ⟨f,d,b,rfl,u,Hn⟩:=hh
  refine ⟨_,rfl,?_⟩
  have i:=Wk.unlend u Hn
  generalize (Cu (Bi k r nm p pa) (x.op,x.nm,x.cnt,0,0) (m,l))=q at i ⊢
  obtain ⟨⟨q1,q2,q3⟩,t⟩:=q
  refine Am ADU i [(2,0)] fun a0 a=>?_
  refine AK a (2,0) (.tuple #[ψ [δ q1,δ q2],δ q3]) ?_
  exact ⟨f,d,b,rfl,a.B,(a.pk [0] [0,1] (M':=[(DC g k cA nA y z pa.length pc (f) (d) (t.2.length) (b))]) (L':=[Cf.thO f t.1,CH d b t.2])).H⟩
 refine AB cv K5 [] fun h1 x0=>?_
 refine AG (x.op == 20) (fun v=>?_) (fun n20=>?_)
 ·refine AB kj x0 [] fun d0 b0=>?_
  refine AG (x.op == 20) (fun _=>?_) (fun h0=>by rw [v] at h0; cases h0)
  have hQ:BH (Bi k r nm p pa) (h + 1) x (m,l)=(Cu (Bi k r nm p pa) (x.op,x.nm,x.cnt,0,0) (m,l)):=by
   have hx:x.op=20:=eq_of_beq v
   unfold BH
   rw [hx]
   rfl
  rw [hQ]
  refine AB ki b0 [(1,0),(1,6),(1,7)] fun o j=>?_
  refine BA (LM _ g k cA nA y z pa pc r nm p kA m uA l uc (x.op,x.nm,x.cnt,0,0) w o q0 l0 g0 e0 k0 p0 m0 j0 (by omega) (by omega) j.B j.lend) fun en c0 hh=>?_
  obtain ⟨f,d,b,rfl,u,Hn⟩:=hh
  refine ⟨_,rfl,?_⟩
  have i:=Wk.unlend u Hn
  generalize (Cu (Bi k r nm p pa) (x.op,x.nm,x.cnt,0,0) (m,l))=q at i ⊢
  obtain ⟨⟨q1,q2,q3⟩,t⟩:=q
  refine Am yl i [(2,0)] fun a0 a=>?_
  refine AK a (2,0) (.tuple #[ψ [δ q1,δ q2],δ q3]) ?_
  exact ⟨f,d,b,rfl,a.B,(a.pk [0] [0,1] (M':=[(DC g k cA nA y z pa.length pc (f) (d) (t.2.length) (b))]) (L':=[Cf.thO f t.1,CH d b t.2])).H⟩
 refine AB V0 x0 [] fun g1 w0=>?_
 refine AG (x.op == 21) (fun v=>?_) (fun z0=>?_)
 ·skip
  have hQ:BH (Bi k r nm p pa) (h + 1) x (m,l)=(Cu (Bi k r nm p pa) (x.op,x.nm,x.cnt,0,0) (m,l)):=by
   have hx:x.op=21:=eq_of_beq v
   unfold BH
   rw [hx]
   rfl
  rw [hQ]
  refine AB kh w0 [(1,0),(1,6),(1,7)] fun o j=>?_
  refine BA (LM _ g k cA nA y z pa pc r nm p kA m uA l uc (x.op,x.nm,x.cnt,0,0) w o q0 l0 g0 e0 k0 p0 m0 j0 (by omega) (by omega) j.B j.lend) fun en c0 hh=>?_
  obtain ⟨f,d,b,rfl,u,Hn⟩:=hh
  refine ⟨_,rfl,?_⟩
  have i:=Wk.unlend u Hn
  generalize (Cu (Bi k r nm p pa) (x.op,x.nm,x.cnt,0,0) (m,l))=q at i ⊢
  obtain ⟨⟨q1,q2,q3⟩,t⟩:=q
  refine Am yk i [(2,0)] fun a0 a=>?_
  refine AK a (2,0) (.tuple #[ψ [δ q1,δ q2],δ q3]) ?_
  exact ⟨f,d,b,rfl,a.B,(a.pk [0] [0,1] (M':=[(DC g k cA nA y z pa.length pc (f) (d) (t.2.length) (b))]) (L':=[Cf.thO f t.1,CH d b t.2])).H⟩
 refine AB Vz w0 [] fun w7 K7=>?_
 refine AG (x.op == 18) (fun v=>?_) (fun a1=>?_)
 ·refine AB kg K7 [] fun d0 b0=>?_
  refine AG (x.op == 18) (fun _=>?_) (fun h0=>by rw [v] at h0; cases h0)
  have s:x.op=18:=eq_of_beq v
  have hQ:BH (Bi k r nm p pa) (h + 1) x (m,l)=(CR (BH (Bi k r nm p pa) h) x (m,l)):=by
   rw [BH,s]
   rfl
  rw [hQ]
  refine AB kf b0 [(1,0)] fun o j=>?_
  refine BA (r0 (by rw [s]; decide) _ kA m uA l uc A c o hx t0 s0 i0 j.B j.lend) fun en c0 hh=>?_
  obtain ⟨f,d,b,rfl,u,Hn⟩:=hh
  refine ⟨_,rfl,?_⟩
  have i:=Wk.unlend u Hn
  generalize (CR (BH (Bi k r nm p pa) h) x (m,l))=q at i ⊢
  obtain ⟨⟨q1,q2,q3⟩,t⟩:=q
  refine Am yj i [(2,0)] fun a0 a=>?_
  refine AK a (2,0) (.tuple #[ψ [δ q1,δ q2],δ q3]) ?_
  exact ⟨f,d,b,rfl,a.B,(a.pk [0] [0,1] (M':=[(DC g k cA nA y z pa.length pc (f) (d) (t.2.length) (b))]) (L':=[Cf.thO f t.1,CH d b t.2])).H⟩
 refine AB Vy K7 [] fun f1 v0=>?_
 refine AG (x.op == 12) (fun v=>?_) (fun c1=>?_)
 ·refine AB ke v0 [] fun d0 b0=>?_
  refine AG (x.op == 12) (fun _=>?_) (fun h0=>by rw [v] at h0; cases h0)
  have s:x.op=12:=eq_of_beq v
  have hQ:BH (Bi k r nm p pa) (h + 1) x (m,l)=(CR (BH (Bi k r nm p pa) h) x (m,l)):=by
   rw [BH,s]
   rfl
  rw [hQ]
  refine AB kb b0 [(1,0)] fun o j=>?_
  refine BA (r0 (by rw [s]; decide) _ kA m uA l uc A c o hx t0 s0 i0 j.B j.lend) fun en c0 hh=>?_
  obtain ⟨f,d,b,rfl,u,Hn⟩:=hh
  refine ⟨_,rfl,?_⟩
  have i:=Wk.unlend u Hn
  generalize (CR (BH (Bi k r nm p pa) h) x (m,l))=q at i ⊢
  obtain ⟨⟨q1,q2,q3⟩,t⟩:=q
  refine Am yi i [(2,0)] fun a0 a=>?_
  refine AK a (2,0) (.tuple #[ψ [δ q1,δ q2],δ q3]) ?_
  exact ⟨f,d,b,rfl,a.B,(a.pk [0] [0,1] (M':=[(DC g k cA nA y z pa.length pc (f) (d) (t.2.length) (b))]) (L':=[Cf.thO f t.1,CH d b t.2])).H⟩
 refine AB kZ v0 [] fun e1 d1=>?_
 refine AG (x.op == 13) (fun v=>?_) (fun b1=>?_)
 ·skip
  have s:x.op=13:=eq_of_beq v
  have hQ:BH (Bi k r nm p pa) (h + 1) x (m,l)=(CR (BH (Bi k r nm p pa) h) x (m,l)):=by
   rw [BH,s]
   rfl
  rw [hQ]
  refine AB kY d1 [(1,0)] fun o j=>?_
  refine BA (r0 (by rw [s]; decide) _ kA m uA l uc A c o hx t0 s0 i0 j.B j.lend) fun en c0 hh=>?_
  obtain ⟨f,d,b,rfl,u,Hn⟩:=hh
  refine ⟨_,rfl,?_⟩
  have i:=Wk.unlend u Hn
  generalize (CR (BH (Bi k r nm p pa) h) x (m,l))=q at i ⊢
  obtain ⟨⟨q1,q2,q3⟩,t⟩:=q
  refine Am yh i [(2,0)] fun a0 a=>?_
  refine AK a (2,0) (.tuple #[ψ [δ q1,δ q2],δ q3]) ?_
  exact ⟨f,d,b,rfl,a.B,(a.pk [0] [0,1] (M':=[(DC g k cA nA y z pa.length pc (f) (d) (t.2.length) (b))]) (L':=[Cf.thO f t.1,CH d b t.2])).H⟩
 unfold Mh at hl
 rw [n1,n2,n3,n20,z0,a1,c1,b1] at hl
 cases hl
theorem gG (f:Ex→Cq→C0) (k:Ex) (r:List Ex) (i:Nat) (a b:Int×Int) (s:Cq):Cy f (k :: r) i a b s=cond (!((f k s).1.2.2 == 0)) ((f k s).1.2.2,a,b,(f k s).2) (Cy f r (i + 1) (cond (i == 0) ((f k s).1.1,(f k s).1.2.1) a) (cond (i == 1) ((f k s).1.1,(f k s).1.2.1) b) (f k s).2):=rfl
theorem Gm {k n:Int} (h:Mh k=false) (a:(k == n)=true) (hn:Mh n=true):False:=by
 rw [eq_of_beq a,hn] at h
 cases h
noncomputable def aG:Code:=Tryz.f39.body.getD .skip
def tK:=ν [.code aG]
def tJ:=Ψ tK
def tI:=Ψ tJ
def tH:=Ψ tI
def tG:=Ψ tH
def tF:=Ψ tG
def tE:=Ψ tF
def tD:=Ψ tE
def Qi:=Ψ tD
def T0:=ν (Ar Qi)
def kr:=AA (An Ae 90 (AD T0)) (AD T0)
def kq:=ν (AC (AC kr))
def V2:=Ω kq
def yu:=Ξ V2
def yt:=Ψ V2
def V1:=Ψ T0
def ko:=Ξ V1
def yr:=Ω ko
def km:=Ψ V1
def yq:=Ω km
theorem Xf (w:World) (g:Nat) (o:Bool) (cA y u:Option Nat) (v:Option Addr) (pa:List Dk) (pc:Nat) (cm:List (Ao×Int×Int)) (nm:List (List UInt8×Int×Int)) (sx:List (List UInt8×Gy)) (c2:Cf.optAt cA cm w) (v1:Ez.optAt y nm w) (o1:Eg.optAt u (sx.map fun q=>(q.1,FI q.2)) w) (n1:∀ q∈sx,Cs w q.2.2.1 q.2.1∧q.2.1.length≤4294967296) (u1:EW w v pa) (z1:pa.length≤4294967296) (x1:∀ e∈pa,e.2.length≤4294967296) (h:Nat) (x:Ex) (hl:Mh x.op=false) (t1:∀ a b:Int,EX a→EX b→H3 (x.op,x.nm,0,a,b)) (n2:x.ks.length≤4294967296) (k0:∀ k∈x.ks,MF 39 w g o cA y u v pa.length pc (BH (Bi o cm nm sx pa) h) k) (x0:x.op=4→∀ k∈x.ks,∀ s,Dg s.1→EX (BH (Bi o cm nm sx pa) h k s).1.1∧EX (BH (Bi o cm nm sx pa) h k s).1.2.1) (l0:∀ k∈x.ks,∀ s,Dg s.1→Dg (BH (Bi o cm nm sx pa) h k s).2.1):MF 39 w g o cA y u v pa.length pc (BH (Bi o cm nm sx pa) (h + 1)) x:=by
 intro Z kA kn uA us uc A c m hx e2 d2 p1 B H
 rw [OR] at e2 d2
 have hg:∀ k∈x.ks,∀ s,DI (nE k) s (BH (Bi o cm nm sx pa) h k s).2:=fun k _ s=>HH _ h k s
 have hQ:BH (Bi o cm nm sx pa) (h + 1) x (kn,us)=(match Cy (BH (Bi o cm nm sx pa) h) x.ks 0 (0,0) (0,0) (kn,us) with
    | (e,a,b,s')=>cond (!(e == 0)) ((0,0,e),s') (cond (x.op == 4) (Cu (Bi o cm nm sx pa) (x.op,x.nm,0,a.1,a.2) s') (Cj x a.1 a.2 b.1 b.2,s'))):=by
  have n:∀ k,Mh k=true→(x.op == k)=false:=fun k hk=>by
   cases hh:x.op == k with
   | false=>rfl
   | true=>exact (Gm hl hh hk).elim
  rw [BH,n 1 (by decide),n 2 (by decide),n 3 (by decide),n 20 (by decide),n 21 (by decide),n 18 (by decide),n 12 (by decide),n 13 (by decide)]
  rfl
 generalize BH (Bi o cm nm sx pa) (h + 1) x (kn,us)=R0 at hQ ⊢
 generalize BH (Bi o cm nm sx pa) h=f at hQ hg x0 l0 k0
 refine AS (fn:=Tryz.f39) (c:=aG) (n:=93) ?_
 have K1:Wk w m [(DC g o cA y u v pa.length pc (kA) (uA) (us.length) (uc))] [Cf.thO kA kn,CH uA uc us] Z:=⟨B,H⟩
 clear B H
 refine Ah tK [(DC g o cA y u v pa.length pc (kA) (uA) (us.length) (uc)),ι (ε m) (AX x A c) 53,ι (ε m + 1) [δ 0,δ 0] 41] K1 [(1,0)] fun w1 K2=>?_
 refine AG (x.op == 1) (fun cc=>(Gm hl cc (by decide)).elim) (fun _=>?_)
 refine AB tJ K2 [] fun w2 K3=>?_
 refine AG (x.op == 2) (fun cc=>(Gm hl cc (by decide)).elim) (fun _=>?_)
 refine AB tI K3 [] fun w3 K4=>?_
 refine AG (x.op == 3) (fun cc=>(Gm hl cc (by decide)).elim) (fun _=>?_)
 refine AB tH K4 [] fun w4 K5=>?_
 refine AG (x.op == 20) (fun cc=>(Gm hl cc (by decide)).elim) (fun _=>?_)
 refine AB tG K5 [] fun w5 K6=>?_
 refine AG (x.op == 21) (fun cc=>(Gm hl cc (by decide)).elim) (fun _=>?_)
 refine AB tF K6 [] fun w6 K7=>?_
 refine AG (x.op == 18) (fun cc=>(Gm hl cc (by decide)).elim) (fun _=>?_)
 refine AB tE K7 [] fun w7 K8=>?_
 refine AG (x.op == 12) (fun cc=>(Gm hl cc (by decide)).elim) (fun _=>?_)
 refine AB tD K8 [] fun w8 K9=>?_
 refine AG (x.op == 13) (fun cc=>(Gm hl cc (by decide)).elim) (fun _=>?_)
 refine Ah Qi [(DC g o cA y u v pa.length pc (kA) (uA) (us.length) (uc)),ι (ε m) (AX x A c) 53,ι (ε m + 1) [δ 0,δ 0] 41,ι (ε w8) [δ ((0,0):Int×Int).1,δ ((0,0):Int×Int).2,δ ((0,0):Int×Int).1,δ ((0,0):Int×Int).2] 139] K9 [(1,9)] fun w9 j0=>?_
 refine AU [(0,ζ g),(3,ζ (ε m)),(4,ζ (ε m + 1)),(6,ζ (ε w8)),(48,τ A x.ks.length c),(49,δ (x.ks.length:Int)),(50,δ ((0:Nat):Int))] fun l2=>?_
 refine Bo (by kernel_rfl) (fun E wx=>∃ (i:Nat) (a b:Int×Int) (s:Cq) (z:Option Nat) (t:Option Addr) (p:Nat) (E0:Nat→Value),i≤x.ks.length∧E=BE E0 [(0,ζ g),(3,ζ (ε m)),(4,ζ (ε m + 1)),(6,ζ (ε w8)),(48,τ A x.ks.length c),(49,δ (x.ks.length:Int)),(50,δ (i:Int))]∧Cy f x.ks 0 (0,0) (0,0) (kn,us)=Cy f (x.ks.drop i) i a b s∧(s.1.length + Fd (x.ks.drop i) < 4294967296∧s.2.length + Fd (x.ks.drop i) < 4294967296)∧(x.op=4→EX a.1∧EX a.2)∧Dg s.1∧Wk w wx [(DC g o cA y u v pa.length pc (z) (t) (s.2.length) (p)),ι (ε m) (AX x A c) 53,ι (ε m + 1) [δ 0,δ 0] 41,ι (ε w8) [δ a.1,δ a.2,δ b.1,δ b.2] 139] [Cf.thO z s.1,CH t p s.2] Z) (fun E _=>x.ks.length - AL (E 50)) ⟨0,(0,0),(0,0),(kn,us),kA,uA,uc,l2,Nat.zero_le _,rfl,rfl,⟨by show kn.length + Fd x.ks < _; omega,by show us.length + Fd x.ks < _; omega⟩,fun _=>⟨⟨by decide,by decide⟩,⟨by decide,by decide⟩⟩,p1,j0⟩ ?_
 clear K2 K3 K4 K5 K6 K7 K8 K9 j0
 rintro E wx ⟨i,a,b,s,z,t,p,E0,hi,rfl,hv,⟨v0,t0⟩,g0,b1,K3⟩ a0
 refine AB T0 K3 [] fun w4 K4=>?_
 refine AG (decide ((i:Int) < (x.ks.length:Int))) (fun c5=>?_) (fun c5=>?_)
 ·have b0:i < x.ks.length:=by have:=of_decide_eq_true c5; omega
  obtain ⟨e,he⟩:∃ e,x.ks[i]?=some e:=⟨_,List.getElem?_eq_getElem b0⟩
  have w0:=List.mem_of_getElem? he
  have hd:x.ks.drop i=e :: x.ks.drop (i + 1):=by rw [List.drop_eq_getElem_cons b0]; congr 1; rw [List.getElem?_eq_getElem b0] at he; exact Option.some.inj he
  rw [hd] at hv v0 t0
  simp only [Fd] at v0 t0
  rw [gG] at hv
  obtain ⟨gk,fk,rfl,b2,f1⟩:=hx.all0 (by omega)
  obtain ⟨A0,c0,s1,m1⟩:=f1 i e he
  refine Ak Ae kr K4 [] fun w6 K6=>?_
  refine Ay (g:=gk) (off:=fk) (cap:=c) (sz:=10) (k:=i) (len:=x.ks.length) (some 53) b0 Tryz.underlying51 ?_
  refine BN 53 gk (fk + i * 10) _ (some 54) (Ag s1 b2 K6.B) ?_
  refine Ah kq [(DC g o cA y u v pa.length pc (z) (t) (s.2.length) (p)),ι (ε m) (AX x (some ⟨gk,fk,none⟩) c) 53,ι (ε m + 1) [δ 0,δ 0] 41,ι (ε w8) [δ a.1,δ a.2,δ b.1,δ b.2] 139,ι (ε w6) (AX e A0 c0) 53] K6 [(4,0),(4,0)] fun w7 K7=>?_
  refine BA (k0 e w0 _ z s.1 t s.2 p A0 c0 w7 m1 (by omega) (by omega) b1 K7.B K7.lend) fun en s0 hh=>?_
  obtain ⟨l,j,d,rfl,k2,Hn⟩:=hh
  refine ⟨_,rfl,?_⟩
  have j0:=Wk.unlend k2 Hn
  have e1:=hg e w0 s
  have c1:=fun h4=>x0 h4 e w0 s b1
  have h0:=l0 e w0 s b1
  rw [show ((s.1,s.2):Cq)=s from rfl] at j0
  rw [show ((s.1,s.2):Cq)=s from rfl]
  generalize f e s=r at hv e1 c1 h0 j0 ⊢
  obtain ⟨⟨r1,r2,r3⟩,s'⟩:=r
  obtain ⟨g1,g2⟩:=e1
  replace h0:Dg s'.1:=h0
  replace g1:s'.1.length≤s.1.length + nE e:=g1
  replace g2:s'.2.length≤s.2.length + nE e:=g2
  refine Ah V2 [(DC g o cA y u v pa.length pc (l) (j) (s'.2.length) (d)),ι (ε m) (AX x (some ⟨gk,fk,none⟩) c) 53,ι (ε m + 1) [δ 0,δ 0] 41,ι (ε w8) [δ a.1,δ a.2,δ b.1,δ b.2] 139,ι (ε w6) (AX e A0 c0) 53,ι (ε s0) (BT (r1,r2)) 41] j0 [(5,0)] fun m2 h1=>?_
  refine AG (!(r3 == 0)) (fun cE=>?_) (fun cE=>?_)
  ·replace hv:Cy f x.ks 0 (0,0) (0,0) (kn,us)=(r3,a,b,s'):=by rw [hv]; show cond (!(r3 == 0)) _ _=_; rw [cE]; rfl
   replace hQ:R0=((0,0,r3),s'):=by rw [hQ,hv]; show cond (!(r3 == 0)) _ _=_; rw [cE]; rfl
   refine Am yu h1 [(2,0)] fun l1 e0=>?_
   refine AK e0 (2,0) (.tuple #[ψ [δ 0,δ 0],δ r3]) ?_
   rw [hQ]
   exact ⟨l,j,d,rfl,e0.B,(e0.pk [0] [0,1] (M':=[(DC g o cA y u v pa.length pc (l) (j) (s'.2.length) (d))]) (L':=[Cf.thO l s'.1,CH j d s'.2])).H⟩
  replace hv:Cy f x.ks 0 (0,0) (0,0) (kn,us)=Cy f (x.ks.drop (i + 1)) (i + 1) (cond (i == 0) (r1,r2) a) (cond (i == 1) (r1,r2) b) s':=by rw [hv]; show cond (!(r3 == 0)) _ _=_; rw [cE]; rfl
  have a1:=Bl i (by omega)
  have m0:s'.1.length + Fd (x.ks.drop (i + 1)) < 4294967296∧s'.2.length + Fd (x.ks.drop (i + 1)) < 4294967296:=⟨by omega,by omega⟩
  refine AB yt h1 [] fun l1 e0=>?_
  refine AG (decide ((i:Int) < 2)) (fun c6=>?_) (fun c6=>?_)
  ·have h2:i < 2:=by have:=of_decide_eq_true c6; omega
   obtain rfl | rfl:i=0∨i=1:=by omega
   ·refine Ah (AZ Qi) [(DC g o cA y u v pa.length pc (l) (j) (s'.2.length) (d)),ι (ε m) (AX x (some ⟨gk,fk,none⟩) c) 53,ι (ε m + 1) [δ 0,δ 0] 41,ι (ε w8) [δ ((r1,r2):Int×Int).1,δ ((r1,r2):Int×Int).2,δ b.1,δ b.2] 139,ι (ε w6) (AX e A0 c0) 53,ι (ε s0) (BT (r1,r2)) 41] e0 [(5,0),(3,0)] fun d1 q0=>?_
    refine AU [(0,ζ g),(3,ζ (ε m)),(4,ζ (ε m + 1)),(6,ζ (ε w8)),(48,τ (some ⟨gk,fk,none⟩) x.ks.length c),(49,δ (x.ks.length:Int)),(50,δ (IntKind.i64.wrap (((0:Nat):Int) + 1)))] fun r0=>?_
    rw [a1]
    refine a0 _ _ ⟨0 + 1,((r1,r2):Int×Int),b,s',l,j,d,r0,b0,rfl,hv,m0,fun h4=>⟨(c1 h4).1,(c1 h4).2⟩,h0,q0.pk [0,1,2,3] [0,1] (M':=[(DC g o cA y u v pa.length pc (l) (j) (s'.2.length) (d)),ι (ε m) (AX x (some ⟨gk,fk,none⟩) c) 53,ι (ε m + 1) [δ 0,δ 0] 41,ι (ε w8) [δ ((r1,r2):Int×Int).1,δ ((r1,r2):Int×Int).2,δ b.1,δ b.2] 139]) (L':=[Cf.thO l s'.1,CH j d s'.2])⟩ ?_
    show x.ks.length - AL (δ ((0 + 1:Nat):Int)) < x.ks.length - AL (δ ((0:Nat):Int))
    simp only [AL]
    omega
   refine Ah (AZ Qi) [(DC g o cA y u v pa.length pc (l) (j) (s'.2.length) (d)),ι (ε m) (AX x (some ⟨gk,fk,none⟩) c) 53,ι (ε m + 1) [δ 0,δ 0] 41,ι (ε w8) [δ a.1,δ a.2,δ ((r1,r2):Int×Int).1,δ ((r1,r2):Int×Int).2] 139,ι (ε w6) (AX e A0 c0) 53,ι (ε s0) (BT (r1,r2)) 41] e0 [(5,0),(3,2)] fun d1 q0=>?_
   refine AU [(0,ζ g),(3,ζ (ε m)),(4,ζ (ε m + 1)),(6,ζ (ε w8)),(48,τ (some ⟨gk,fk,none⟩) x.ks.length c),(49,δ (x.ks.length:Int)),(50,δ (IntKind.i64.wrap (((1:Nat):Int) + 1)))] fun r0=>?_
   rw [a1]
   refine a0 _ _ ⟨1 + 1,a,((r1,r2):Int×Int),s',l,j,d,r0,b0,rfl,hv,m0,fun h4=>g0 h4,h0,q0.pk [0,1,2,3] [0,1] (M':=[(DC g o cA y u v pa.length pc (l) (j) (s'.2.length) (d)),ι (ε m) (AX x (some ⟨gk,fk,none⟩) c) 53,ι (ε m + 1) [δ 0,δ 0] 41,ι (ε w8) [δ a.1,δ a.2,δ ((r1,r2):Int×Int).1,δ ((r1,r2):Int×Int).2] 139]) (L':=[Cf.thO l s'.1,CH j d s'.2])⟩ ?_
   show x.ks.length - AL (δ ((1 + 1:Nat):Int)) < x.ks.length - AL (δ ((1:Nat):Int))
   simp only [AL]
   omega
  have h2:2≤i:=by have:=of_decide_eq_false c6; omega
  rw [show (i == 0)=false from by simp; omega,show (i == 1)=false from by simp; omega] at hv
  refine Ah (AZ Qi) [(DC g o cA y u v pa.length pc (l) (j) (s'.2.length) (d)),ι (ε m) (AX x (some ⟨gk,fk,none⟩) c) 53,ι (ε m + 1) [δ 0,δ 0] 41,ι (ε w8) [δ a.1,δ a.2,δ b.1,δ b.2] 139,ι (ε w6) (AX e A0 c0) 53,ι (ε s0) (BT (r1,r2)) 41] e0 [] fun d1 q0=>?_
  refine AU [(0,ζ g),(3,ζ (ε m)),(4,ζ (ε m + 1)),(6,ζ (ε w8)),(48,τ (some ⟨gk,fk,none⟩) x.ks.length c),(49,δ (x.ks.length:Int)),(50,δ (IntKind.i64.wrap (((i:Nat):Int) + 1)))] fun r0=>?_
  rw [a1]
  refine a0 _ _ ⟨i + 1,a,b,s',l,j,d,r0,b0,rfl,hv,m0,fun h4=>g0 h4,h0,q0.pk [0,1,2,3] [0,1] (M':=[(DC g o cA y u v pa.length pc (l) (j) (s'.2.length) (d)),ι (ε m) (AX x (some ⟨gk,fk,none⟩) c) 53,ι (ε m + 1) [δ 0,δ 0] 41,ι (ε w8) [δ a.1,δ a.2,δ b.1,δ b.2] 139]) (L':=[Cf.thO l s'.1,CH j d s'.2])⟩ ?_
  show x.ks.length - AL (δ ((i + 1:Nat):Int)) < x.ks.length - AL (δ ((i:Nat):Int))
  simp only [AL]
  omega
 have a2:x.ks.drop i=[]:=List.drop_eq_nil_of_le (by have:=of_decide_eq_false c5; omega)
 rw [a2] at hv v0 t0
 replace hv:Cy f x.ks 0 (0,0) (0,0) (kn,us)=(0,a,b,s):=hv
 replace hQ:R0=cond (x.op == 4) (Cu (Bi o cm nm sx pa) (x.op,x.nm,0,a.1,a.2) s) (Cj x a.1 a.2 b.1 b.2,s):=by rw [hQ,hv]; rfl
 clear a0 hv
 simp only [Fd] at v0 t0
 refine AB V1 K4 [(1,0)] fun w5 K5=>?_
 refine AG (x.op == 4) (fun cc=>?_) (fun cc=>?_) <;> rw [cc] at hQ
 ·replace hQ:R0=Cu (Bi o cm nm sx pa) (x.op,x.nm,0,a.1,a.2) s:=hQ
  have g0:=g0 (eq_of_beq cc)
  refine AB ko K5 [(1,0),(1,6),(3,0)] fun z0 p0=>?_
  refine BA (LM _ g o cA y u v pa pc cm nm sx z s.1 t s.2 p (x.op,x.nm,0,a.1,a.2) w z0 c2 v1 o1 n1 u1 z1 x1 (t1 _ _ g0.1 g0.2) (by omega) (by omega) p0.B p0.lend) fun en k1 hh=>?_
  obtain ⟨l,j,d,rfl,i2,Hn⟩:=hh
  refine ⟨_,rfl,?_⟩
  have i0:=Wk.unlend i2 Hn
  rw [show ((s.1,s.2):Cq)=s from rfl] at i0
  rw [show ((s.1,s.2):Cq)=s from rfl]
  generalize Cu (Bi o cm nm sx pa) (x.op,x.nm,0,a.1,a.2) s=q at hQ i0 ⊢
  obtain ⟨⟨q1,q2,q3⟩,s2⟩:=q
  refine Am yr i0 [(2,0)] fun i1 d0=>?_
  refine AK d0 (2,0) (.tuple #[ψ [δ q1,δ q2],δ q3]) ?_
  rw [hQ]
  exact ⟨l,j,d,rfl,d0.B,(d0.pk [0] [0,1] (M':=[(DC g o cA y u v pa.length pc (l) (j) (s2.2.length) (d))]) (L':=[Cf.thO l s2.1,CH j d s2.2])).H⟩
 replace hQ:R0=(Cj x a.1 a.2 b.1 b.2,s):=hQ
 refine AB km K5 [(1,0),(3,0),(3,2)] fun z0 p0=>?_
 refine AP p0 (args:=[ψ (AX x A c),ψ [δ a.1,δ a.2],ψ [δ b.1,δ b.2]]) (YX x A c a.1 a.2 b.1 b.2 z0 (hx.below p0.B)) fun k1 i0=>?_
 generalize Cj x a.1 a.2 b.1 b.2=q at hQ i0 ⊢
 obtain ⟨q1,q2,q3⟩:=q
 refine Am yq i0 [(2,0)] fun i1 d0=>?_
 refine AK d0 (2,0) (.tuple #[ψ [δ q1,δ q2],δ q3]) ?_
 rw [hQ]
 exact ⟨z,t,p,rfl,d0.B,(d0.pk [0] [0,1] (M':=[(DC g o cA y u v pa.length pc (z) (t) (s.2.length) (p))]) (L':=[Cf.thO z s.1,CH t p s.2])).H⟩
end
end Go.Proofs.YtkjbdagicjbjjaaGreat

/-
  Part 23 of a proof: contracts of functions.
-/
import Derived.Test.YtkjbdagicjbjjaaGreatTf22
set_option linter.all false
namespace Go.Proofs.YtkjbdagicjbjjaaGreat
noncomputable section
open Go.RowKit
set_option maxRecDepth 100000
set_option maxHeartbeats 1000000
attribute [local irreducible] A8 BL AC AD AF Ao AY AL Aq Bb Cn BR Dx Cm BK At Fr
def DN (kn:List (BD×Int×Int)):Prop:=∀ p∈kn,EG p.2.1∧EG p.2.2
theorem Wk.lend {w0 w:World} {e:Az} {M:List Az} {L T:List Th} (K:Wk w0 w (e :: M) L T):Ac w0.heap.size w ((Th.ent e :: L)++(M.map Th.ent++T)):=
 Wk.swap3 (X:=M.map Th.ent) (Y:=Th.ent e :: L) (V:=T) (Wk.swap3 (X:=[Th.ent e]) (Y:=M.map Th.ent) (V:=L++T) K.H)
theorem Wk.unlend {w0 w:World} {e:Az} {M:List Az} {L T:List Th} (B:Below w0.heap.size w0 w) (h:Ac w0.heap.size w ((Th.ent e :: L)++(M.map Th.ent++T))):Wk w0 w (e :: M) L T:=
 ⟨B,Wk.swap3 (X:=M.map Th.ent) (Y:=[Th.ent e]) (V:=L++T) (Wk.swap3 (X:=Th.ent e :: L) (Y:=M.map Th.ent) (V:=T) h)⟩
abbrev Cu (g:Nat) (cl:Bool) (cA nA sA:Option Nat) (pA:Option Addr) (pn pc:Nat) (kA:Option Nat) (uA:Option Addr) (un uc:Nat):Az:=⟨g,0,[.bool cl,.map cA,.map nA,.map sA,.slice pA pn pc,.map kA,.slice uA un uc],85,true⟩
def LV (F:FuncId) (w:World) (g:Nat) (cl:Bool) (cA nA sA:Option Nat) (pA:Option Addr) (pn pc:Nat) (f:Ex→CT→Cc) (x:Ex):Prop:=∀ (Z:List Th) (kA:Option Nat) (kn:List (BD×Int×Int)) (uA:Option Addr) (us:List DP) (uc:Nat) (A:Option Addr) (c:Nat) (we:World),rowsEx w A x.ks→kn.length + nE x≤4294967296→us.length + nE x≤4294967296→DN kn→Below w.heap.size w we→Ac w.heap.size we ([Th.ent (Cu g cl cA nA sA pA pn pc kA uA us.length uc),CP.thO kA kn,Bs uA uc us]++Z)→
 Calls Tryz.prog F ([BY g,.agg ⟨AW x A c⟩]:List Value).toArray we fun e w'=>∃ kA' uA' uc',e=.returned (DB (f x (kn,us)).1)∧Below w.heap.size w w'∧Ac w.heap.size w' ([Th.ent (Cu g cl cA nA sA pA pn pc kA' uA' (f x (kn,us)).2.2.length uc'),CP.thO kA' (f x (kn,us)).2.1,Bs uA' uc' (f x (kn,us)).2.2]++Z)
noncomputable def Ya:Code:=Tryz.f61.body.getD .skip
def ay:=AA 60 [.code Ya]
def qp:=AA (Ak Aa 90 (AF ay)) (AF ay)
def qo:=AA 60 (AC (AC qp))
def ax:=AA 60 (AC qo)
def ABA:=AA 60 (AD ax)
def aw:=AA 60 (AF ax)
def qn:=AA 60 (AD aw)
def AA9:=AA 60 (AC qn)
def qm:=AA 60 (AF aw)
def av:=AA 60 (AF qm)
def iw:=AA (Ak Aa 90 (AF av)) (AF av)
def iv:=AA 60 (AC (AC iw))
def vn:=AA 60 (AC iv)
theorem XB (w:World) (g:Nat) (cl:Bool) (cA nA v:Option Nat) (pA:Option Addr) (y z:Nat) (f:Ex→CT→Cc) (x l p:Ex) (hop:x.op=12) (u:x.ks=[l,p]) (hk:∀ k∈x.ks,LV 39 w g cl cA nA v pA y z f k) (hg:∀ k∈x.ks,∀ s,C2 (nE k) s (f k s).2) (hr:∀ k∈x.ks,∀ s,DN s.1→DN (f k s).2.1):LV 61 w g cl cA nA v pA y z (Bt f) x:=by
 intro Z kA j uA b uc A c we hx p0 n0 j0 B H
 rw [NN,u] at p0 n0
 rw [u] at hx hk hg hr
 simp only [FH] at p0 n0
 have o:Bt f x (j,b)=cond (!((f l (j,b)).1.2.2 == 0)) ((0,0,(f l (j,b)).1.2.2),(f l (j,b)).2) (cond ((f l (j,b)).1.1 == 0) ((0,1,0),(f l (j,b)).2) (f p (f l (j,b)).2)):=by
  unfold Bt
  rw [u,hop]
  rfl
 have l0:=hg l (by simp) (j,b)
 have t:=hr l (by simp) (j,b) j0
 rw [show AW x A c=[AI 12,AI x.num,AI x.den,AI x.mu,AI x.hu,AI x.du,By (x.nm),AI x.cnt,AI x.md,.slice A 2 c] by unfold AW; rw [hop,u]; rfl]
 refine AR (fn:=Tryz.f61) (c:=Ya) (n:=82) ?_
 have K1:Wk w we [(Cu g cl cA nA v pA y z (kA) (uA) (b.length) (uc))] [CP.thO kA j,Bs uA uc b] Z:=⟨B,H⟩
 clear B H
 obtain ⟨gk,fk,rfl,m0,a0⟩:=hx.all (by simp)
 obtain ⟨A0,c0,z0,w0⟩:=a0 0 l rfl
 obtain ⟨A1,c1,x0,v0⟩:=a0 1 p rfl
 refine Af ay [(Cu g cl cA nA v pA y z (kA) (uA) (b.length) (uc)),⟨we.heap.size,0,[AI 12,AI x.num,AI x.den,AI x.mu,AI x.hu,AI x.du,By (x.nm),AI x.cnt,AI x.md,.slice (some ⟨gk,fk,none⟩) 2 c],53,true⟩,⟨we.heap.size + 1,0,[AI 0,AI 0],41,true⟩] K1 [(1,9),(1,0)] fun w1 K2=>?_
 refine AG false (fun h=>by cases h) (fun _=>?_)
 refine Ae Aa qp K2 [(1,9)] fun w2 K3=>?_
 refine Au (g:=gk) (off:=fk) (cap:=c) (sz:=10) (k:=0) (len:=2) (some 29) (by decide) Tryz.underlying51 ?_
 refine BI 53 gk (fk + 0 * 10) (AW l A0 c0) (some 30) (Ab z0 m0 K3.B) ?_
 refine AB qo K3 [] fun w3 K4=>?_
 refine A7 (args:=[BY g,.agg ⟨AW l A0 c0⟩]) (hk l (by simp) _ kA j uA b uc A0 c0 w3 w0 (by omega) (by omega) j0 K4.B K4.lend) fun en w6 hh=>?_
 obtain ⟨i,e,d,rfl,b6,Hn⟩:=hh
 refine ⟨_,rfl,?_⟩
 have K6:=Wk.unlend b6 Hn
 generalize hR:(f l (j,b))=r at o l0 t K6 ⊢
 obtain ⟨⟨r1,r2,r3⟩,a⟩:=r
 obtain ⟨g1,g2⟩:=l0
 replace t:DN a.1:=t
 refine Af ax [(Cu g cl cA nA v pA y z (i) (e) (a.2.length) (d)),⟨we.heap.size,0,[AI 12,AI x.num,AI x.den,AI x.mu,AI x.hu,AI x.du,By (x.nm),AI x.cnt,AI x.md,.slice (some ⟨gk,fk,none⟩) 2 c],53,true⟩,⟨we.heap.size + 1,0,[AI 0,AI 0],41,true⟩,⟨w6.heap.size,0,BP (r1,r2),41,true⟩] K6 [(3,0)] fun w7 K7=>?_
 refine AG (!(r3 == 0)) (fun cE=>?_) (fun cE=>?_)
 ·replace o:Bt f x (j,b)=((0,0,r3),a):=by rw [o]; show cond (!(r3 == 0)) _ _=_; rw [cE]; rfl
  refine Aj ABA K7 [(2,0)] fun w8 K8=>?_
  refine AJ K8 (2,0) (.tuple #[.agg ⟨[AI 0,AI 0]⟩,AI r3]) ?_
  rw [o]
  exact ⟨i,e,d,rfl,K8.B,(K8.pk [0] [0,1] (M':=[(Cu g cl cA nA v pA y z (i) (e) (a.2.length) (d))]) (L':=[CP.thO i a.1,Bs e d a.2])).H⟩
 replace o:Bt f x (j,b)=cond (r1 == 0) ((0,1,0),a) (f p a):=by rw [o]; show cond (!(r3 == 0)) _ _=_; rw [cE]; rfl
 refine AB aw K7 [(3,0),(1,0)] fun w8 K8=>?_
 refine AG (!(!(r1 == 0))) (fun c3=>?_) (fun c3=>?_) <;> rw [Bool.not_not] at c3 <;> rw [c3] at o
 ·refine AB qn K8 [] fun w9 K9=>?_
  refine AQ K9 (args:=[.bool false]) (Gq false w9) fun t0 i0=>?_
  refine Aj AA9 i0 [(2,0)] fun s0 m=>?_
  refine AJ m (2,0) (.tuple #[.agg ⟨[AI 0,AI 1]⟩,AI 0]) ?_
  rw [o]
  exact ⟨i,e,d,rfl,m.B,(m.pk [0] [0,1] (M':=[(Cu g cl cA nA v pA y z (i) (e) (a.2.length) (d))]) (L':=[CP.thO i a.1,Bs e d a.2])).H⟩
 refine AB qm K8 [(1,0)] fun w9 K9=>?_
 refine AG false (fun h=>by cases h) (fun _=>?_)
 refine AB av K9 [(1,0)] fun t0 i0=>?_
 refine AG false (fun h=>by cases h) (fun _=>?_)
 refine Ae Aa iw i0 [(1,9)] fun s0 m=>?_
 refine Au (g:=gk) (off:=fk) (cap:=c) (sz:=10) (k:=1) (len:=2) (some 77) (by decide) Tryz.underlying51 ?_
 refine BI 53 gk (fk + 1 * 10) (AW p A1 c1) (some 78) (Ab x0 m0 m.B) ?_
 refine AB iv m [] fun r0 q0=>?_
 refine A7 (args:=[BY g,.agg ⟨AW p A1 c1⟩]) (hk p (by simp) _ i a.1 e a.2 d A1 c1 r0 v0 (by simp at g1; omega) (by simp at g2; omega) t q0.B q0.lend) fun en d1 hh=>?_
 obtain ⟨e0,d0,b0,rfl,a1,Hn⟩:=hh
 refine ⟨_,rfl,?_⟩
 have h0:=Wk.unlend a1 Hn
 replace o:Bt f x (j,b)=f p a:=o
 rw [show ((a.1,a.2):CT)=a from rfl] at h0
 rw [show ((a.1,a.2):CT)=a from rfl]
 generalize f p a=q at o h0 ⊢
 obtain ⟨⟨q1,q2,q3⟩,s2⟩:=q
 refine Aj vn h0 [(2,0)] fun b1 g0=>?_
 refine AJ g0 (2,0) (.tuple #[.agg ⟨[AI q1,AI q2]⟩,AI q3]) ?_
 rw [o]
 exact ⟨e0,d0,b0,rfl,g0.B,(g0.pk [0] [0,1] (M':=[(Cu g cl cA nA v pA y z (e0) (d0) (s2.2.length) (b0))]) (L':=[CP.thO e0 s2.1,Bs d0 b0 s2.2])).H⟩
noncomputable def YY:Code:=Tryz.f61.body.getD .skip
def al:=AA 60 [.code YY]
def qe:=AA (Ak Aa 90 (AF al)) (AF al)
def qd:=AA 60 (AC (AC qe))
def ak:=AA 60 (AC qd)
def AA6:=AA 60 (AD ak)
def qa:=AA 60 (AF ak)
def aj:=AA 60 (AF qa)
def qZ:=AA 60 (AD aj)
def AA5:=AA 60 (AC qZ)
def ai:=AA 60 (AF aj)
def ip:=AA (Ak Aa 90 (AF ai)) (AF ai)
def io:=AA 60 (AC (AC ip))
def vj:=AA 60 (AC io)
theorem W9 (w:World) (g:Nat) (cl:Bool) (cA nA v:Option Nat) (pA:Option Addr) (y z:Nat) (f:Ex→CT→Cc) (x l p:Ex) (hop:x.op=13) (u:x.ks=[l,p]) (hk:∀ k∈x.ks,LV 39 w g cl cA nA v pA y z f k) (hg:∀ k∈x.ks,∀ s,C2 (nE k) s (f k s).2) (hr:∀ k∈x.ks,∀ s,DN s.1→DN (f k s).2.1):LV 61 w g cl cA nA v pA y z (Bt f) x:=by
 intro Z kA j uA b uc A c we hx p0 n0 j0 B H
 rw [NN,u] at p0 n0
 rw [u] at hx hk hg hr
 simp only [FH] at p0 n0
 have o:Bt f x (j,b)=cond (!((f l (j,b)).1.2.2 == 0)) ((0,0,(f l (j,b)).1.2.2),(f l (j,b)).2) (cond (!((f l (j,b)).1.1 == 0)) ((1,1,0),(f l (j,b)).2) (f p (f l (j,b)).2)):=by
  unfold Bt
  rw [u,hop]
  rfl
 have l0:=hg l (by simp) (j,b)
 have t:=hr l (by simp) (j,b) j0
 rw [show AW x A c=[AI 13,AI x.num,AI x.den,AI x.mu,AI x.hu,AI x.du,By (x.nm),AI x.cnt,AI x.md,.slice A 2 c] by unfold AW; rw [hop,u]; rfl]
 refine AR (fn:=Tryz.f61) (c:=YY) (n:=82) ?_
 have K1:Wk w we [(Cu g cl cA nA v pA y z (kA) (uA) (b.length) (uc))] [CP.thO kA j,Bs uA uc b] Z:=⟨B,H⟩
 clear B H
 obtain ⟨gk,fk,rfl,m0,a0⟩:=hx.all (by simp)
 obtain ⟨A0,c0,a1,x0⟩:=a0 0 l rfl
 obtain ⟨A1,c1,z0,w0⟩:=a0 1 p rfl
 refine Af al [(Cu g cl cA nA v pA y z (kA) (uA) (b.length) (uc)),⟨we.heap.size,0,[AI 13,AI x.num,AI x.den,AI x.mu,AI x.hu,AI x.du,By (x.nm),AI x.cnt,AI x.md,.slice (some ⟨gk,fk,none⟩) 2 c],53,true⟩,⟨we.heap.size + 1,0,[AI 0,AI 0],41,true⟩] K1 [(1,9),(1,0)] fun w1 K2=>?_
 refine AG false (fun h=>by cases h) (fun _=>?_)
 refine Ae Aa qe K2 [(1,9)] fun w2 K3=>?_
 refine Au (g:=gk) (off:=fk) (cap:=c) (sz:=10) (k:=0) (len:=2) (some 29) (by decide) Tryz.underlying51 ?_
 refine BI 53 gk (fk + 0 * 10) (AW l A0 c0) (some 30) (Ab a1 m0 K3.B) ?_
 refine AB qd K3 [] fun w3 K4=>?_
 refine A7 (args:=[BY g,.agg ⟨AW l A0 c0⟩]) (hk l (by simp) _ kA j uA b uc A0 c0 w3 x0 (by omega) (by omega) j0 K4.B K4.lend) fun en w6 hh=>?_
 obtain ⟨i,e,d,rfl,b6,Hn⟩:=hh
 refine ⟨_,rfl,?_⟩
 have K6:=Wk.unlend b6 Hn
 generalize hR:(f l (j,b))=r at o l0 t K6 ⊢
 obtain ⟨⟨r1,r2,r3⟩,a⟩:=r
 obtain ⟨g1,g2⟩:=l0
 replace t:DN a.1:=t
 refine Af ak [(Cu g cl cA nA v pA y z (i) (e) (a.2.length) (d)),⟨we.heap.size,0,[AI 13,AI x.num,AI x.den,AI x.mu,AI x.hu,AI x.du,By (x.nm),AI x.cnt,AI x.md,.slice (some ⟨gk,fk,none⟩) 2 c],53,true⟩,⟨we.heap.size + 1,0,[AI 0,AI 0],41,true⟩,⟨w6.heap.size,0,BP (r1,r2),41,true⟩] K6 [(3,0)] fun w7 K7=>?_
 refine AG (!(r3 == 0)) (fun cE=>?_) (fun cE=>?_)
 ·replace o:Bt f x (j,b)=((0,0,r3),a):=by rw [o]; show cond (!(r3 == 0)) _ _=_; rw [cE]; rfl
  refine Aj AA6 K7 [(2,0)] fun w8 K8=>?_
  refine AJ K8 (2,0) (.tuple #[.agg ⟨[AI 0,AI 0]⟩,AI r3]) ?_
  rw [o]
  exact ⟨i,e,d,rfl,K8.B,(K8.pk [0] [0,1] (M':=[(Cu g cl cA nA v pA y z (i) (e) (a.2.length) (d))]) (L':=[CP.thO i a.1,Bs e d a.2])).H⟩
 replace o:Bt f x (j,b)=cond (!(r1 == 0)) ((1,1,0),a) (f p a):=by rw [o]; show cond (!(r3 == 0)) _ _=_; rw [cE]; rfl
 refine AB qa K7 [(3,0),(1,0)] fun w8 K8=>?_
 refine AG false (fun h=>by cases h) (fun _=>?_)
 refine AB aj K8 [(1,0)] fun d1 q0=>?_
 refine AG (!(r1 == 0)) (fun c3=>?_) (fun c3=>?_) <;> rw [c3] at o
 ·refine AB qZ q0 [] fun w9 K9=>?_
  refine AQ K9 (args:=[.bool true]) (Gq true w9) fun v0 i0=>?_
  refine Aj AA5 i0 [(2,0)] fun t0 m=>?_
  refine AJ m (2,0) (.tuple #[.agg ⟨[AI 1,AI 1]⟩,AI 0]) ?_
  rw [o]
  exact ⟨i,e,d,rfl,m.B,(m.pk [0] [0,1] (M':=[(Cu g cl cA nA v pA y z (i) (e) (a.2.length) (d))]) (L':=[CP.thO i a.1,Bs e d a.2])).H⟩
 refine AB ai q0 [(1,0)] fun v0 i0=>?_
 refine AG false (fun h=>by cases h) (fun _=>?_)
 refine Ae Aa ip i0 [(1,9)] fun t0 m=>?_
 refine Au (g:=gk) (off:=fk) (cap:=c) (sz:=10) (k:=1) (len:=2) (some 77) (by decide) Tryz.underlying51 ?_
 refine BI 53 gk (fk + 1 * 10) (AW p A1 c1) (some 78) (Ab z0 m0 m.B) ?_
 refine AB io m [] fun s0 r0=>?_
 refine A7 (args:=[BY g,.agg ⟨AW p A1 c1⟩]) (hk p (by simp) _ i a.1 e a.2 d A1 c1 s0 w0 (by simp at g1; omega) (by simp at g2; omega) t r0.B r0.lend) fun en f1 hh=>?_
 obtain ⟨e0,d0,b0,rfl,b1,Hn⟩:=hh
 refine ⟨_,rfl,?_⟩
 have h0:=Wk.unlend b1 Hn
 replace o:Bt f x (j,b)=f p a:=o
 rw [show ((a.1,a.2):CT)=a from rfl] at h0
 rw [show ((a.1,a.2):CT)=a from rfl]
 generalize f p a=q at o h0 ⊢
 obtain ⟨⟨q1,q2,q3⟩,s2⟩:=q
 refine Aj vj h0 [(2,0)] fun e1 g0=>?_
 refine AJ g0 (2,0) (.tuple #[.agg ⟨[AI q1,AI q2]⟩,AI q3]) ?_
 rw [o]
 exact ⟨e0,d0,b0,rfl,g0.B,(g0.pk [0] [0,1] (M':=[(Cu g cl cA nA v pA y z (e0) (d0) (s2.2.length) (b0))]) (L':=[CP.thO e0 s2.1,Bs d0 b0 s2.2])).H⟩
noncomputable def YZ:Code:=Tryz.f61.body.getD .skip
def au:=AA 60 [.code YZ]
def ql:=AA (Ak Aa 90 (AF au)) (AF au)
def qk:=AA 60 (AC (AC ql))
def ar:=AA 60 (AC qk)
def AA8:=AA 60 (AD ar)
def qj:=AA 60 (AF ar)
def qi:=AA 60 (AF qj)
def PO:=AA 60 (AF qi)
def qh:=AA (Ak Aa 90 (AD PO)) (AD PO)
def qg:=AA 60 (AC (AC qh))
def vm:=AA 60 (AC qg)
def iu:=AA (Ak Aa 90 (AF PO)) (AF PO)
def ir:=AA 60 (AC (AC iu))
def vl:=AA 60 (AC ir)
theorem XA (w:World) (g:Nat) (cl:Bool) (cA nA sA:Option Nat) (pA:Option Addr) (pn pc:Nat) (f:Ex→CT→Cc) (x p k1 k2:Ex) (hop:x.op=18) (d0:x.ks=[p,k1,k2]) (hk:∀ k∈x.ks,LV 39 w g cl cA nA sA pA pn pc f k) (hg:∀ k∈x.ks,∀ s,C2 (nE k) s (f k s).2) (hr:∀ k∈x.ks,∀ s,DN s.1→DN (f k s).2.1):LV 61 w g cl cA nA sA pA pn pc (Bt f) x:=by
 intro Z kA d uA b uc A c we hx m0 l0 i0 B H
 rw [NN,d0] at m0 l0
 rw [d0] at hx hk hg hr
 simp only [FH] at m0 l0
 have l:Bt f x (d,b)=cond (!((f p (d,b)).1.2.2 == 0)) ((0,0,(f p (d,b)).1.2.2),(f p (d,b)).2) (cond ((f p (d,b)).1.1 == 0) (f k2 (f p (d,b)).2) (f k1 (f p (d,b)).2)):=by
  unfold Bt
  rw [d0,hop]
  rfl
 have j0:=hg p (by simp) (d,b)
 have y:=hr p (by simp) (d,b) i0
 rw [show AW x A c=[AI 18,AI x.num,AI x.den,AI x.mu,AI x.hu,AI x.du,By (x.nm),AI x.cnt,AI x.md,.slice A 3 c] by unfold AW; rw [hop,d0]; rfl]
 refine AR (fn:=Tryz.f61) (c:=YZ) (n:=82) ?_
 have K1:Wk w we [(Cu g cl cA nA sA pA pn pc (kA) (uA) (b.length) (uc))] [CP.thO kA d,Bs uA uc b] Z:=⟨B,H⟩
 clear B H
 obtain ⟨gk,fk,rfl,g0,z⟩:=hx.all (by simp)
 obtain ⟨A0,c0,z0,v0⟩:=z 0 p rfl
 obtain ⟨A1,c1,x0,t0⟩:=z 1 k1 rfl
 obtain ⟨A2,c2,w0,s0⟩:=z 2 k2 rfl
 refine Af au [(Cu g cl cA nA sA pA pn pc (kA) (uA) (b.length) (uc)),⟨we.heap.size,0,[AI 18,AI x.num,AI x.den,AI x.mu,AI x.hu,AI x.du,By (x.nm),AI x.cnt,AI x.md,.slice (some ⟨gk,fk,none⟩) 3 c],53,true⟩,⟨we.heap.size + 1,0,[AI 0,AI 0],41,true⟩] K1 [(1,9),(1,0),(1,9)] fun w1 K2=>?_
 refine AG false (fun h=>by cases h) (fun _=>?_)
 refine Ae Aa ql K2 [(1,9)] fun w2 K3=>?_
 refine Au (g:=gk) (off:=fk) (cap:=c) (sz:=10) (k:=0) (len:=3) (some 29) (by decide) Tryz.underlying51 ?_
 refine BI 53 gk (fk + 0 * 10) (AW p A0 c0) (some 30) (Ab z0 g0 K3.B) ?_
 refine AB qk K3 [] fun w3 K4=>?_
 refine A7 (args:=[BY g,.agg ⟨AW p A0 c0⟩]) (hk p (by simp) _ kA d uA b uc A0 c0 w3 v0 (by omega) (by omega) i0 K4.B K4.lend) fun en w6 hh=>?_
 obtain ⟨v,u,t,rfl,b6,Hn⟩:=hh
 refine ⟨_,rfl,?_⟩
 have K6:=Wk.unlend b6 Hn
 generalize hR:(f p (d,b))=r at l j0 y K6 ⊢
 obtain ⟨⟨r1,r2,r3⟩,a⟩:=r
 obtain ⟨g1,g2⟩:=j0
 replace y:DN a.1:=y
 refine Af ar [(Cu g cl cA nA sA pA pn pc (v) (u) (a.2.length) (t)),⟨we.heap.size,0,[AI 18,AI x.num,AI x.den,AI x.mu,AI x.hu,AI x.du,By (x.nm),AI x.cnt,AI x.md,.slice (some ⟨gk,fk,none⟩) 3 c],53,true⟩,⟨we.heap.size + 1,0,[AI 0,AI 0],41,true⟩,⟨w6.heap.size,0,BP (r1,r2),41,true⟩] K6 [(3,0)] fun w7 K7=>?_
 refine AG (!(r3 == 0)) (fun cE=>?_) (fun cE=>?_)
 ·replace l:Bt f x (d,b)=((0,0,r3),a):=by rw [l]; show cond (!(r3 == 0)) _ _=_; rw [cE]; rfl
  refine Aj AA8 K7 [(2,0)] fun w8 K8=>?_
  refine AJ K8 (2,0) (.tuple #[.agg ⟨[AI 0,AI 0]⟩,AI r3]) ?_
  rw [l]
  exact ⟨v,u,t,rfl,K8.B,(K8.pk [0] [0,1] (M':=[(Cu g cl cA nA sA pA pn pc (v) (u) (a.2.length) (t))]) (L':=[CP.thO v a.1,Bs u t a.2])).H⟩
 replace l:Bt f x (d,b)=cond (r1 == 0) (f k2 a) (f k1 a):=by rw [l]; show cond (!(r3 == 0)) _ _=_; rw [cE]; rfl
 refine AB qj K7 [(3,0),(1,0)] fun w8 K8=>?_
 refine AG false (fun h=>by cases h) (fun _=>?_)
 refine AB qi K8 [(1,0)] fun d1 a1=>?_
 refine AG false (fun h=>by cases h) (fun _=>?_)
 refine AB PO a1 [(1,0)] fun b1 n0=>?_
 refine AG (!(!(r1 == 0))) (fun c3=>?_) (fun c3=>?_) <;> rw [Bool.not_not] at c3 <;> rw [c3] at l
 ·skip
  refine Ae Aa qh n0 [(1,9)] fun r0 b0=>?_
  refine Au (g:=gk) (off:=fk) (cap:=c) (sz:=10) (k:=2) (len:=3) (some 69) (by decide) Tryz.underlying51 ?_
  refine BI 53 gk (fk + 2 * 10) (AW k2 A2 c2) (some 70) (Ab w0 g0 b0.B) ?_
  refine AB qg b0 [] fun e0 a0=>?_
  refine A7 (args:=[BY g,.agg ⟨AW k2 A2 c2⟩]) (hk k2 (by simp) _ v a.1 u a.2 t A2 c2 e0 s0 (by simp at g1; omega) (by simp at g2; omega) y a0.B a0.lend) fun en q0 hh=>?_
  obtain ⟨j,i,e,rfl,h0,Hn⟩:=hh
  refine ⟨_,rfl,?_⟩
  have o:=Wk.unlend h0 Hn
  replace l:Bt f x (d,b)=f k2 a:=l
  rw [show ((a.1,a.2):CT)=a from rfl] at o
  rw [show ((a.1,a.2):CT)=a from rfl]
  generalize f k2 a=q at l o ⊢
  obtain ⟨⟨q1,q2,q3⟩,s2⟩:=q
  refine Aj vm o [(2,0)] fun p0 m=>?_
  refine AJ m (2,0) (.tuple #[.agg ⟨[AI q1,AI q2]⟩,AI q3]) ?_
  rw [l]
  exact ⟨j,i,e,rfl,m.B,(m.pk [0] [0,1] (M':=[(Cu g cl cA nA sA pA pn pc (j) (i) (s2.2.length) (e))]) (L':=[CP.thO j s2.1,Bs i e s2.2])).H⟩
 ·skip
  refine Ae Aa iu n0 [(1,9)] fun r0 b0=>?_
  refine Au (g:=gk) (off:=fk) (cap:=c) (sz:=10) (k:=1) (len:=3) (some 77) (by decide) Tryz.underlying51 ?_
  refine BI 53 gk (fk + 1 * 10) (AW k1 A1 c1) (some 78) (Ab x0 g0 b0.B) ?_
  refine AB ir b0 [] fun e0 a0=>?_
  refine A7 (args:=[BY g,.agg ⟨AW k1 A1 c1⟩]) (hk k1 (by simp) _ v a.1 u a.2 t A1 c1 e0 t0 (by simp at g1; omega) (by simp at g2; omega) y a0.B a0.lend) fun en q0 hh=>?_
  obtain ⟨j,i,e,rfl,h0,Hn⟩:=hh
  refine ⟨_,rfl,?_⟩
  have o:=Wk.unlend h0 Hn
  replace l:Bt f x (d,b)=f k1 a:=l
  rw [show ((a.1,a.2):CT)=a from rfl] at o
  rw [show ((a.1,a.2):CT)=a from rfl]
  generalize f k1 a=q at l o ⊢
  obtain ⟨⟨q1,q2,q3⟩,s2⟩:=q
  refine Aj vl o [(2,0)] fun p0 m=>?_
  refine AJ m (2,0) (.tuple #[.agg ⟨[AI q1,AI q2]⟩,AI q3]) ?_
  rw [l]
  exact ⟨j,i,e,rfl,m.B,(m.pk [0] [0,1] (M':=[(Cu g cl cA nA sA pA pn pc (j) (i) (s2.2.length) (e))]) (L':=[CP.thO j s2.1,Bs i e s2.2])).H⟩
end
end Go.Proofs.YtkjbdagicjbjjaaGreat
namespace Go.Proofs.YtkjbdagicjbjjaaGreat
noncomputable section
open Go.RowKit
set_option maxRecDepth 100000
set_option maxHeartbeats 1000000
attribute [local irreducible] A8 BL AC AD AF Ao AY AL Aq Bb Cn BR Dx Cm BK At Fr
noncomputable def YU:Code:=Tryz.f39.body.getD .skip
def aU:=AA 60 [.code YU]
def AA0:=AA 60 (AD aU)
def aT:=AA 60 (AF aU)
def qK:=AA 60 (AD aT)
def AAz:=AA 60 (AC qK)
def aS:=AA 60 (AF aT)
def qJ:=AA 60 (AD aS)
def qI:=AA 60 (AD qJ)
def AAy:=AA 60 (AC qI)
def aR:=AA 60 (AF aS)
def ig:=AA 60 (AD aR)
def ie:=AA 60 (AD ig)
def vZ:=AA 60 (AC ie)
def Ub:=AA 60 (AF aR)
def ib:=AA 60 (AD Ub)
def vY:=AA 60 (AC ib)
def Ua:=AA 60 (AF Ub)
def ia:=AA 60 (AD Ua)
def iZ:=AA 60 (AD ia)
def vX:=AA 60 (AC iZ)
def UZ:=AA 60 (AF Ua)
def iY:=AA 60 (AD UZ)
def iX:=AA 60 (AD iY)
def vW:=AA 60 (AC iX)
def iW:=AA 60 (AF UZ)
def iV:=AA 60 (AD iW)
def vV:=AA 60 (AC iV)
def Lp (k:Int):Bool:=k == 1 || (k == 2 || (k == 3 || (k == 20 || (k == 21 || (k == 18 || (k == 12 || k == 13))))))
theorem V5 (w:World) (g:Nat) (k:Bool) (cA nA y:Option Nat) (z:Option Addr) (pa:List Dn) (pc:Nat) (r:List (BD×Int×Int)) (nm:List (List UInt8×Int×Int)) (p:List (List UInt8×GV)) (p0:CP.optAt cA r w) (l0:Eb.optAt nA nm w) (g0:EM.optAt y (p.map fun q=>(q.1,Ei q.2)) w) (e0:∀ q∈p,Cb w q.2.2.1 q.2.1∧q.2.1.length≤4294967296) (k0:EE w z pa) (n0:pa.length≤4294967296) (m0:∀ e∈pa,e.2.length≤4294967296) (h:Nat) (x:Ex) (hl:Lp x.op=true) (j0:HP (x.op,x.nm,x.cnt,0,0)) (q0:(x.op == 18 || (x.op == 12 || x.op == 13))=true→LV 61 w g k cA nA y z pa.length pc (Bt (As (BX k r nm p pa) h)) x):LV 39 w g k cA nA y z pa.length pc (As (BX k r nm p pa) (h + 1)) x:=by
 intro Z kA m uA l uc A c we hx s0 r0 i0 B H
 refine AR (args:=[BY g,.agg ⟨AW x A c⟩]) (fn:=Tryz.f39) (c:=YU) (n:=93) ?_
 have K1:Wk w we [(Cu g k cA nA y z pa.length pc (kA) (uA) (l.length) (uc))] [CP.thO kA m,Bs uA uc l] Z:=⟨B,H⟩
 clear B H
 refine Af aU [(Cu g k cA nA y z pa.length pc (kA) (uA) (l.length) (uc)),⟨we.heap.size,0,AW x A c,53,true⟩,⟨we.heap.size + 1,0,[AI 0,AI 0],41,true⟩] K1 [(1,0)] fun w1 K2=>?_
 refine AG (x.op == 1) (fun v=>?_) (fun n1=>?_)
 ·have s:x.op=1:=eq_of_beq v
  have hQ:As (BX k r nm p pa) (h + 1) x (m,l)=((x.num,x.den,0),(m,l)):=by rw [As,s]; rfl
  rw [hQ]
  refine Aj AA0 K2 [(1,1),(2,0)] fun a0 a=>?_
  refine AJ a (2,0) (.tuple #[.agg ⟨[AI x.num,AI x.den]⟩,AI 0]) ?_
  exact ⟨kA,uA,uc,rfl,a.B,(a.pk [0] [0,1] (M':=[(Cu g k cA nA y z pa.length pc (kA) (uA) (l.length) (uc))]) (L':=[CP.thO kA m,Bs uA uc l])).H⟩
 refine AB aT K2 [] fun w3 K3=>?_
 refine AG (x.op == 2) (fun v=>?_) (fun n2=>?_)
 ·have s:x.op=2:=eq_of_beq v
  have hQ:As (BX k r nm p pa) (h + 1) x (m,l)=(((DE (x.cnt == 1)).1,(DE (x.cnt == 1)).2,0),(m,l)):=by rw [As,s]; rfl
  rw [hQ]
  refine AB qK K3 [(1,7)] fun o j=>?_
  refine AQ j (args:=[.bool (x.cnt == 1)]) (Gq (x.cnt == 1) o) fun c0 i=>?_
  refine Aj AAz i [(2,0)] fun a0 a=>?_
  refine AJ a (2,0) (.tuple #[.agg ⟨[AI (DE (x.cnt == 1)).1,AI (DE (x.cnt == 1)).2]⟩,AI 0]) ?_
  exact ⟨kA,uA,uc,rfl,a.B,(a.pk [0] [0,1] (M':=[(Cu g k cA nA y z pa.length pc (kA) (uA) (l.length) (uc))]) (L':=[CP.thO kA m,Bs uA uc l])).H⟩
 refine AB aS K3 [] fun w5 K5=>?_
 refine AG (x.op == 3) (fun v=>?_) (fun n3=>?_)
 ·refine AB qJ K5 [] fun d0 b0=>?_
  refine AG (x.op == 3) (fun _=>?_) (fun h0=>by rw [v] at h0; cases h0)
  have hQ:As (BX k r nm p pa) (h + 1) x (m,l)=(Cj (BX k r nm p pa) (x.op,x.nm,x.cnt,0,0) (m,l)):=by
   have hx:x.op=3:=eq_of_beq v
   unfold As
   rw [hx]
   rfl
  rw [hQ]
  refine AB qI b0 [(1,0),(1,6),(1,7)] fun o j=>?_
  refine A7 (args:=[BY g,.agg ⟨Dl (x.op,x.nm,x.cnt,0,0)⟩]) (KS _ g k cA nA y z pa pc r nm p kA m uA l uc (x.op,x.nm,x.cnt,0,0) w o p0 l0 g0 e0 k0 n0 m0 j0 (by omega) (by omega) j.B j.lend) fun en c0 hh=>?_
  obtain ⟨f,d,b,rfl,u,Hn⟩:=hh
  refine ⟨_,rfl,?_⟩
  have i:=Wk.unlend u Hn
  generalize (Cj (BX k r nm p pa) (x.op,x.nm,x.cnt,0,0) (m,l))=q at i ⊢
  obtain ⟨⟨q1,q2,q3⟩,t⟩:=q
  refine Aj AAy i [(2,0)] fun a0 a=>?_
  refine AJ a (2,0) (.tuple #[.agg ⟨[AI q1,AI q2]⟩,AI q3]) ?_
  exact ⟨f,d,b,rfl,a.B,(a.pk [0] [0,1] (M':=[(Cu g k cA nA y z pa.length pc (f) (d) (t.2.length) (b))]) (L':=[CP.thO f t.1,Bs d b t.2])).H⟩
 refine AB aR K5 [] fun g1 w0=>?_
 refine AG (x.op == 20) (fun v=>?_) (fun n20=>?_)
 ·refine AB ig w0 [] fun d0 b0=>?_
  refine AG (x.op == 20) (fun _=>?_) (fun h0=>by rw [v] at h0; cases h0)
  have hQ:As (BX k r nm p pa) (h + 1) x (m,l)=(Cj (BX k r nm p pa) (x.op,x.nm,x.cnt,0,0) (m,l)):=by
   have hx:x.op=20:=eq_of_beq v
   unfold As
   rw [hx]
   rfl
  rw [hQ]
  refine AB ie b0 [(1,0),(1,6),(1,7)] fun o j=>?_
  refine A7 (args:=[BY g,.agg ⟨Dl (x.op,x.nm,x.cnt,0,0)⟩]) (KS _ g k cA nA y z pa pc r nm p kA m uA l uc (x.op,x.nm,x.cnt,0,0) w o p0 l0 g0 e0 k0 n0 m0 j0 (by omega) (by omega) j.B j.lend) fun en c0 hh=>?_
  obtain ⟨f,d,b,rfl,u,Hn⟩:=hh
  refine ⟨_,rfl,?_⟩
  have i:=Wk.unlend u Hn
  generalize (Cj (BX k r nm p pa) (x.op,x.nm,x.cnt,0,0) (m,l))=q at i ⊢
  obtain ⟨⟨q1,q2,q3⟩,t⟩:=q
  refine Aj vZ i [(2,0)] fun a0 a=>?_
  refine AJ a (2,0) (.tuple #[.agg ⟨[AI q1,AI q2]⟩,AI q3]) ?_
  exact ⟨f,d,b,rfl,a.B,(a.pk [0] [0,1] (M':=[(Cu g k cA nA y z pa.length pc (f) (d) (t.2.length) (b))]) (L':=[CP.thO f t.1,Bs d b t.2])).H⟩
 refine AB Ub w0 [] fun f1 v0=>?_
 refine AG (x.op == 21) (fun v=>?_) (fun x0=>?_)
 ·skip
  have hQ:As (BX k r nm p pa) (h + 1) x (m,l)=(Cj (BX k r nm p pa) (x.op,x.nm,x.cnt,0,0) (m,l)):=by
   have hx:x.op=21:=eq_of_beq v
   unfold As
   rw [hx]
   rfl
  rw [hQ]
  refine AB ib v0 [(1,0),(1,6),(1,7)] fun o j=>?_
  refine A7 (args:=[BY g,.agg ⟨Dl (x.op,x.nm,x.cnt,0,0)⟩]) (KS _ g k cA nA y z pa pc r nm p kA m uA l uc (x.op,x.nm,x.cnt,0,0) w o p0 l0 g0 e0 k0 n0 m0 j0 (by omega) (by omega) j.B j.lend) fun en c0 hh=>?_
  obtain ⟨f,d,b,rfl,u,Hn⟩:=hh
  refine ⟨_,rfl,?_⟩
  have i:=Wk.unlend u Hn
  generalize (Cj (BX k r nm p pa) (x.op,x.nm,x.cnt,0,0) (m,l))=q at i ⊢
  obtain ⟨⟨q1,q2,q3⟩,t⟩:=q
  refine Aj vY i [(2,0)] fun a0 a=>?_
  refine AJ a (2,0) (.tuple #[.agg ⟨[AI q1,AI q2]⟩,AI q3]) ?_
  exact ⟨f,d,b,rfl,a.B,(a.pk [0] [0,1] (M':=[(Cu g k cA nA y z pa.length pc (f) (d) (t.2.length) (b))]) (L':=[CP.thO f t.1,Bs d b t.2])).H⟩
 refine AB Ua v0 [] fun w7 K7=>?_
 refine AG (x.op == 18) (fun v=>?_) (fun z0=>?_)
 ·refine AB ia K7 [] fun d0 b0=>?_
  refine AG (x.op == 18) (fun _=>?_) (fun h0=>by rw [v] at h0; cases h0)
  have s:x.op=18:=eq_of_beq v
  have hQ:As (BX k r nm p pa) (h + 1) x (m,l)=(Bt (As (BX k r nm p pa) h) x (m,l)):=by
   rw [As,s]
   rfl
  rw [hQ]
  refine AB iZ b0 [(1,0)] fun o j=>?_
  refine A7 (args:=[BY g,.agg ⟨AW x A c⟩]) (q0 (by rw [s]; decide) _ kA m uA l uc A c o hx s0 r0 i0 j.B j.lend) fun en c0 hh=>?_
  obtain ⟨f,d,b,rfl,u,Hn⟩:=hh
  refine ⟨_,rfl,?_⟩
  have i:=Wk.unlend u Hn
  generalize (Bt (As (BX k r nm p pa) h) x (m,l))=q at i ⊢
  obtain ⟨⟨q1,q2,q3⟩,t⟩:=q
  refine Aj vX i [(2,0)] fun a0 a=>?_
  refine AJ a (2,0) (.tuple #[.agg ⟨[AI q1,AI q2]⟩,AI q3]) ?_
  exact ⟨f,d,b,rfl,a.B,(a.pk [0] [0,1] (M':=[(Cu g k cA nA y z pa.length pc (f) (d) (t.2.length) (b))]) (L':=[CP.thO f t.1,Bs d b t.2])).H⟩
 refine AB UZ K7 [] fun e1 t0=>?_
 refine AG (x.op == 12) (fun v=>?_) (fun b1=>?_)
 ·refine AB iY t0 [] fun d0 b0=>?_
  refine AG (x.op == 12) (fun _=>?_) (fun h0=>by rw [v] at h0; cases h0)
  have s:x.op=12:=eq_of_beq v
  have hQ:As (BX k r nm p pa) (h + 1) x (m,l)=(Bt (As (BX k r nm p pa) h) x (m,l)):=by
   rw [As,s]
   rfl
  rw [hQ]
  refine AB iX b0 [(1,0)] fun o j=>?_
  refine A7 (args:=[BY g,.agg ⟨AW x A c⟩]) (q0 (by rw [s]; decide) _ kA m uA l uc A c o hx s0 r0 i0 j.B j.lend) fun en c0 hh=>?_
  obtain ⟨f,d,b,rfl,u,Hn⟩:=hh
  refine ⟨_,rfl,?_⟩
  have i:=Wk.unlend u Hn
  generalize (Bt (As (BX k r nm p pa) h) x (m,l))=q at i ⊢
  obtain ⟨⟨q1,q2,q3⟩,t⟩:=q
  refine Aj vW i [(2,0)] fun a0 a=>?_
  refine AJ a (2,0) (.tuple #[.agg ⟨[AI q1,AI q2]⟩,AI q3]) ?_
  exact ⟨f,d,b,rfl,a.B,(a.pk [0] [0,1] (M':=[(Cu g k cA nA y z pa.length pc (f) (d) (t.2.length) (b))]) (L':=[CP.thO f t.1,Bs d b t.2])).H⟩
 refine AB iW t0 [] fun d1 c1=>?_
 refine AG (x.op == 13) (fun v=>?_) (fun a1=>?_)
 ·skip
  have s:x.op=13:=eq_of_beq v
  have hQ:As (BX k r nm p pa) (h + 1) x (m,l)=(Bt (As (BX k r nm p pa) h) x (m,l)):=by
   rw [As,s]
   rfl
  rw [hQ]
  refine AB iV c1 [(1,0)] fun o j=>?_
  refine A7 (args:=[BY g,.agg ⟨AW x A c⟩]) (q0 (by rw [s]; decide) _ kA m uA l uc A c o hx s0 r0 i0 j.B j.lend) fun en c0 hh=>?_
  obtain ⟨f,d,b,rfl,u,Hn⟩:=hh
  refine ⟨_,rfl,?_⟩
  have i:=Wk.unlend u Hn
  generalize (Bt (As (BX k r nm p pa) h) x (m,l))=q at i ⊢
  obtain ⟨⟨q1,q2,q3⟩,t⟩:=q
  refine Aj vV i [(2,0)] fun a0 a=>?_
  refine AJ a (2,0) (.tuple #[.agg ⟨[AI q1,AI q2]⟩,AI q3]) ?_
  exact ⟨f,d,b,rfl,a.B,(a.pk [0] [0,1] (M':=[(Cu g k cA nA y z pa.length pc (f) (d) (t.2.length) (b))]) (L':=[CP.thO f t.1,Bs d b t.2])).H⟩
 unfold Lp at hl
 rw [n1,n2,n3,n20,x0,z0,b1,a1] at hl
 cases hl
end
end Go.Proofs.YtkjbdagicjbjjaaGreat

/-
  Part 24 of a proof: contracts of functions.
-/
import Derived.Test.YtkjbdagicjbjjaaGreatTf23
set_option linter.all false
namespace Go.Proofs.YtkjbdagicjbjjaaGreat
noncomputable section
open Go.RowKit
set_option maxRecDepth 100000
set_option maxHeartbeats 1000000
attribute [local irreducible] A8 BL AC AD AF Ao AY AL Aq Bb Cn BR Dx Cm BK At Fr
theorem dl (f:Ex→CT→Cc) (k:Ex) (r:List Ex) (i:Nat) (a b:Int×Int) (s:CT):CZ f (k :: r) i a b s=cond (!((f k s).1.2.2 == 0)) ((f k s).1.2.2,a,b,(f k s).2) (CZ f r (i + 1) (cond (i == 0) ((f k s).1.1,(f k s).1.2.1) a) (cond (i == 1) ((f k s).1.1,(f k s).1.2.1) b) (f k s).2):=rfl
theorem GG {k n:Int} (h:Lp k=false) (a:(k == n)=true) (hn:Lp n=true):False:=by
 rw [eq_of_beq a,hn] at h
 cases h
noncomputable def YW:Code:=Tryz.f39.body.getD .skip
def qU:=AA 60 [.code YW]
def qT:=AA 60 (AF qU)
def qS:=AA 60 (AF qT)
def qR:=AA 60 (AF qS)
def qQ:=AA 60 (AF qR)
def qP:=AA 60 (AF qQ)
def qO:=AA 60 (AF qP)
def qN:=AA 60 (AF qO)
def PM:=AA 60 (AF qN)
def SX:=AA 60 (Ao PM)
def il:=AA (Ak Aa 90 (AD SX)) (AD SX)
def ik:=AA 60 (AC (AC il))
def Ud:=AA 60 (AC ik)
def ve:=AA 60 (AD Ud)
def vc:=AA 60 (AF Ud)
def Uc:=AA 60 (AF SX)
def ij:=AA 60 (AD Uc)
def vb:=AA 60 (AC ij)
def ii:=AA 60 (AF Uc)
def va:=AA 60 (AC ii)
theorem V6 (w:World) (g:Nat) (o:Bool) (cA y u:Option Nat) (v:Option Addr) (pa:List Dn) (pc:Nat) (cm:List (BD×Int×Int)) (nm:List (List UInt8×Int×Int)) (sx:List (List UInt8×GV)) (b2:CP.optAt cA cm w) (u1:Eb.optAt y nm w) (n1:EM.optAt u (sx.map fun q=>(q.1,Ei q.2)) w) (m1:∀ q∈sx,Cb w q.2.2.1 q.2.1∧q.2.1.length≤4294967296) (t1:EE w v pa) (x1:pa.length≤4294967296) (v1:∀ e∈pa,e.2.length≤4294967296) (h:Nat) (x:Ex) (hl:Lp x.op=false) (s1:∀ a b:Int,EG a→EG b→HP (x.op,x.nm,0,a,b)) (m2:x.ks.length≤4294967296) (k0:∀ k∈x.ks,LV 39 w g o cA y u v pa.length pc (As (BX o cm nm sx pa) h) k) (w0:x.op=4→∀ k∈x.ks,∀ s,DN s.1→EG (As (BX o cm nm sx pa) h k s).1.1∧EG (As (BX o cm nm sx pa) h k s).1.2.1) (l0:∀ k∈x.ks,∀ s,DN s.1→DN (As (BX o cm nm sx pa) h k s).2.1):LV 39 w g o cA y u v pa.length pc (As (BX o cm nm sx pa) (h + 1)) x:=by
 intro Z kA kn uA us uc A c m hx d2 c2 o1 B H
 rw [NN] at d2 c2
 have hg:∀ k∈x.ks,∀ s,C2 (nE k) s (As (BX o cm nm sx pa) h k s).2:=fun k _ s=>Gb _ h k s
 have hQ:As (BX o cm nm sx pa) (h + 1) x (kn,us)=(match CZ (As (BX o cm nm sx pa) h) x.ks 0 (0,0) (0,0) (kn,us) with
    | (e,a,b,s')=>cond (!(e == 0)) ((0,0,e),s') (cond (x.op == 4) (Cj (BX o cm nm sx pa) (x.op,x.nm,0,a.1,a.2) s') (CR x a.1 a.2 b.1 b.2,s'))):=by
  have n:∀ k,Lp k=true→(x.op == k)=false:=fun k hk=>by
   cases hh:x.op == k with
   | false=>rfl
   | true=>exact (GG hl hh hk).elim
  rw [As,n 1 (by decide),n 2 (by decide),n 3 (by decide),n 20 (by decide),n 21 (by decide),n 18 (by decide),n 12 (by decide),n 13 (by decide)]
  rfl
 generalize As (BX o cm nm sx pa) (h + 1) x (kn,us)=R0 at hQ ⊢
 generalize As (BX o cm nm sx pa) h=f at hQ hg w0 l0 k0
 refine AR (args:=[BY g,.agg ⟨AW x A c⟩]) (fn:=Tryz.f39) (c:=YW) (n:=93) ?_
 have K1:Wk w m [(Cu g o cA y u v pa.length pc (kA) (uA) (us.length) (uc))] [CP.thO kA kn,Bs uA uc us] Z:=⟨B,H⟩
 clear B H
 refine Af qU [(Cu g o cA y u v pa.length pc (kA) (uA) (us.length) (uc)),⟨m.heap.size,0,AW x A c,53,true⟩,⟨m.heap.size + 1,0,[AI 0,AI 0],41,true⟩] K1 [(1,0)] fun w1 K2=>?_
 refine AG (x.op == 1) (fun cc=>(GG hl cc (by decide)).elim) (fun _=>?_)
 refine AB qT K2 [] fun w2 K3=>?_
 refine AG (x.op == 2) (fun cc=>(GG hl cc (by decide)).elim) (fun _=>?_)
 refine AB qS K3 [] fun w3 K4=>?_
 refine AG (x.op == 3) (fun cc=>(GG hl cc (by decide)).elim) (fun _=>?_)
 refine AB qR K4 [] fun w4 K5=>?_
 refine AG (x.op == 20) (fun cc=>(GG hl cc (by decide)).elim) (fun _=>?_)
 refine AB qQ K5 [] fun w5 K6=>?_
 refine AG (x.op == 21) (fun cc=>(GG hl cc (by decide)).elim) (fun _=>?_)
 refine AB qP K6 [] fun w6 K7=>?_
 refine AG (x.op == 18) (fun cc=>(GG hl cc (by decide)).elim) (fun _=>?_)
 refine AB qO K7 [] fun w7 K8=>?_
 refine AG (x.op == 12) (fun cc=>(GG hl cc (by decide)).elim) (fun _=>?_)
 refine AB qN K8 [] fun w8 K9=>?_
 refine AG (x.op == 13) (fun cc=>(GG hl cc (by decide)).elim) (fun _=>?_)
 refine Af PM [(Cu g o cA y u v pa.length pc (kA) (uA) (us.length) (uc)),⟨m.heap.size,0,AW x A c,53,true⟩,⟨m.heap.size + 1,0,[AI 0,AI 0],41,true⟩,⟨w8.heap.size,0,[AI ((0,0):Int×Int).1,AI ((0,0):Int×Int).2,AI ((0,0):Int×Int).1,AI ((0,0):Int×Int).2],139,true⟩] K9 [(1,9)] fun w9 j0=>?_
 refine AU [(0,BY g),(3,BY (m.heap.size)),(4,BY (m.heap.size + 1)),(6,BY (w8.heap.size)),(48,.slice A x.ks.length c),(49,AI (x.ks.length:Int)),(50,AI ((0:Nat):Int))] fun k2=>?_
 refine Bd (by kernel_rfl) (fun E wx=>∃ (i:Nat) (a b:Int×Int) (s:CT) (z:Option Nat) (t:Option Addr) (p:Nat) (E0:Nat→Value),i≤x.ks.length∧E=BC E0 [(0,BY g),(3,BY (m.heap.size)),(4,BY (m.heap.size + 1)),(6,BY (w8.heap.size)),(48,.slice A x.ks.length c),(49,AI (x.ks.length:Int)),(50,AI (i:Int))]∧CZ f x.ks 0 (0,0) (0,0) (kn,us)=CZ f (x.ks.drop i) i a b s∧(s.1.length + FH (x.ks.drop i) < 4294967296∧s.2.length + FH (x.ks.drop i) < 4294967296)∧(x.op=4→EG a.1∧EG a.2)∧DN s.1∧Wk w wx [(Cu g o cA y u v pa.length pc (z) (t) (s.2.length) (p)),⟨m.heap.size,0,AW x A c,53,true⟩,⟨m.heap.size + 1,0,[AI 0,AI 0],41,true⟩,⟨w8.heap.size,0,[AI a.1,AI a.2,AI b.1,AI b.2],139,true⟩] [CP.thO z s.1,Bs t p s.2] Z) (fun E _=>x.ks.length - AK (E 50)) ⟨0,(0,0),(0,0),(kn,us),kA,uA,uc,k2,Nat.zero_le _,rfl,rfl,⟨by show kn.length + FH x.ks < _; omega,by show us.length + FH x.ks < _; omega⟩,fun _=>⟨⟨by decide,by decide⟩,⟨by decide,by decide⟩⟩,o1,j0⟩ ?_
 clear K2 K3 K4 K5 K6 K7 K8 K9 j0
 rintro E wx ⟨i,a,b,s,z,t,p,E0,hi,rfl,hv,⟨t0,s0⟩,g0,a1,K3⟩ a0
 refine AB SX K3 [] fun w4 K4=>?_
 refine AG (decide ((i:Int) < (x.ks.length:Int))) (fun c5=>?_) (fun c5=>?_)
 ·have b0:i < x.ks.length:=by have:=of_decide_eq_true c5; omega
  obtain ⟨e,he⟩:∃ e,x.ks[i]?=some e:=⟨_,List.getElem?_eq_getElem b0⟩
  have v0:=List.mem_of_getElem? he
  have hd:x.ks.drop i=e :: x.ks.drop (i + 1):=by rw [List.drop_eq_getElem_cons b0]; congr 1; rw [List.getElem?_eq_getElem b0] at he; exact Option.some.inj he
  rw [hd] at hv t0 s0
  simp only [FH] at t0 s0
  rw [dl] at hv
  obtain ⟨gk,fk,rfl,a2,e1⟩:=hx.all0 (by omega)
  obtain ⟨A0,c0,p1,l1⟩:=e1 i e he
  refine Ae Aa il K4 [] fun w6 K6=>?_
  refine Au (g:=gk) (off:=fk) (cap:=c) (sz:=10) (k:=i) (len:=x.ks.length) (some 53) b0 Tryz.underlying51 ?_
  refine BI 53 gk (fk + i * 10) (AW e A0 c0) (some 54) (Ab p1 a2 K6.B) ?_
  refine Af ik [(Cu g o cA y u v pa.length pc (z) (t) (s.2.length) (p)),⟨m.heap.size,0,AW x (some ⟨gk,fk,none⟩) c,53,true⟩,⟨m.heap.size + 1,0,[AI 0,AI 0],41,true⟩,⟨w8.heap.size,0,[AI a.1,AI a.2,AI b.1,AI b.2],139,true⟩,⟨w6.heap.size,0,AW e A0 c0,53,true⟩] K6 [(4,0),(4,0)] fun w7 K7=>?_
  refine A7 (args:=[BY g,.agg ⟨AW e A0 c0⟩]) (k0 e v0 _ z s.1 t s.2 p A0 c0 w7 l1 (by omega) (by omega) a1 K7.B K7.lend) fun en r0 hh=>?_
  obtain ⟨l,j,d,rfl,i2,Hn⟩:=hh
  refine ⟨_,rfl,?_⟩
  have j0:=Wk.unlend i2 Hn
  have d1:=hg e v0 s
  have b1:=fun h4=>w0 h4 e v0 s a1
  have h0:=l0 e v0 s a1
  rw [show ((s.1,s.2):CT)=s from rfl] at j0
  rw [show ((s.1,s.2):CT)=s from rfl]
  generalize f e s=r at hv d1 b1 h0 j0 ⊢
  obtain ⟨⟨r1,r2,r3⟩,s'⟩:=r
  obtain ⟨g1,g2⟩:=d1
  replace h0:DN s'.1:=h0
  replace g1:s'.1.length≤s.1.length + nE e:=g1
  replace g2:s'.2.length≤s.2.length + nE e:=g2
  refine Af Ud [(Cu g o cA y u v pa.length pc (l) (j) (s'.2.length) (d)),⟨m.heap.size,0,AW x (some ⟨gk,fk,none⟩) c,53,true⟩,⟨m.heap.size + 1,0,[AI 0,AI 0],41,true⟩,⟨w8.heap.size,0,[AI a.1,AI a.2,AI b.1,AI b.2],139,true⟩,⟨w6.heap.size,0,AW e A0 c0,53,true⟩,⟨r0.heap.size,0,BP (r1,r2),41,true⟩] j0 [(5,0)] fun l2 f1=>?_
  refine AG (!(r3 == 0)) (fun cE=>?_) (fun cE=>?_)
  ·replace hv:CZ f x.ks 0 (0,0) (0,0) (kn,us)=(r3,a,b,s'):=by rw [hv]; show cond (!(r3 == 0)) _ _=_; rw [cE]; rfl
   replace hQ:R0=((0,0,r3),s'):=by rw [hQ,hv]; show cond (!(r3 == 0)) _ _=_; rw [cE]; rfl
   refine Aj ve f1 [(2,0)] fun k1 e0=>?_
   refine AJ e0 (2,0) (.tuple #[.agg ⟨[AI 0,AI 0]⟩,AI r3]) ?_
   rw [hQ]
   exact ⟨l,j,d,rfl,e0.B,(e0.pk [0] [0,1] (M':=[(Cu g o cA y u v pa.length pc (l) (j) (s'.2.length) (d))]) (L':=[CP.thO l s'.1,Bs j d s'.2])).H⟩
  replace hv:CZ f x.ks 0 (0,0) (0,0) (kn,us)=CZ f (x.ks.drop (i + 1)) (i + 1) (cond (i == 0) (r1,r2) a) (cond (i == 1) (r1,r2) b) s':=by rw [hv]; show cond (!(r3 == 0)) _ _=_; rw [cE]; rfl
  have z0:=Bc i (by omega)
  have m0:s'.1.length + FH (x.ks.drop (i + 1)) < 4294967296∧s'.2.length + FH (x.ks.drop (i + 1)) < 4294967296:=⟨by omega,by omega⟩
  refine AB vc f1 [] fun k1 e0=>?_
  refine AG (decide ((i:Int) < 2)) (fun c6=>?_) (fun c6=>?_)
  ·have h2:i < 2:=by have:=of_decide_eq_true c6; omega
   obtain rfl | rfl:i=0∨i=1:=by omega
   ·refine Af (AY PM) [(Cu g o cA y u v pa.length pc (l) (j) (s'.2.length) (d)),⟨m.heap.size,0,AW x (some ⟨gk,fk,none⟩) c,53,true⟩,⟨m.heap.size + 1,0,[AI 0,AI 0],41,true⟩,⟨w8.heap.size,0,[AI ((r1,r2):Int×Int).1,AI ((r1,r2):Int×Int).2,AI b.1,AI b.2],139,true⟩,⟨w6.heap.size,0,AW e A0 c0,53,true⟩,⟨r0.heap.size,0,BP (r1,r2),41,true⟩] e0 [(5,0),(3,0)] fun c1 p0=>?_
    refine AU [(0,BY g),(3,BY (m.heap.size)),(4,BY (m.heap.size + 1)),(6,BY (w8.heap.size)),(48,.slice (some ⟨gk,fk,none⟩) x.ks.length c),(49,AI (x.ks.length:Int)),(50,AI (IntKind.i64.wrap (((0:Nat):Int) + 1)))] fun q0=>?_
    rw [z0]
    refine a0 _ _ ⟨0 + 1,((r1,r2):Int×Int),b,s',l,j,d,q0,b0,rfl,hv,m0,fun h4=>⟨(b1 h4).1,(b1 h4).2⟩,h0,p0.pk [0,1,2,3] [0,1] (M':=[(Cu g o cA y u v pa.length pc (l) (j) (s'.2.length) (d)),⟨m.heap.size,0,AW x (some ⟨gk,fk,none⟩) c,53,true⟩,⟨m.heap.size + 1,0,[AI 0,AI 0],41,true⟩,⟨w8.heap.size,0,[AI ((r1,r2):Int×Int).1,AI ((r1,r2):Int×Int).2,AI b.1,AI b.2],139,true⟩]) (L':=[CP.thO l s'.1,Bs j d s'.2])⟩ ?_
    show x.ks.length - AK (AI ((0 + 1:Nat):Int)) < x.ks.length - AK (AI ((0:Nat):Int))
    simp only [AK]
    omega
   ·refine Af (AY PM) [(Cu g o cA y u v pa.length pc (l) (j) (s'.2.length) (d)),⟨m.heap.size,0,AW x (some ⟨gk,fk,none⟩) c,53,true⟩,⟨m.heap.size + 1,0,[AI 0,AI 0],41,true⟩,⟨w8.heap.size,0,[AI a.1,AI a.2,AI ((r1,r2):Int×Int).1,AI ((r1,r2):Int×Int).2],139,true⟩,⟨w6.heap.size,0,AW e A0 c0,53,true⟩,⟨r0.heap.size,0,BP (r1,r2),41,true⟩] e0 [(5,0),(3,2)] fun c1 p0=>?_
    refine AU [(0,BY g),(3,BY (m.heap.size)),(4,BY (m.heap.size + 1)),(6,BY (w8.heap.size)),(48,.slice (some ⟨gk,fk,none⟩) x.ks.length c),(49,AI (x.ks.length:Int)),(50,AI (IntKind.i64.wrap (((1:Nat):Int) + 1)))] fun q0=>?_
    rw [z0]
    refine a0 _ _ ⟨1 + 1,a,((r1,r2):Int×Int),s',l,j,d,q0,b0,rfl,hv,m0,fun h4=>g0 h4,h0,p0.pk [0,1,2,3] [0,1] (M':=[(Cu g o cA y u v pa.length pc (l) (j) (s'.2.length) (d)),⟨m.heap.size,0,AW x (some ⟨gk,fk,none⟩) c,53,true⟩,⟨m.heap.size + 1,0,[AI 0,AI 0],41,true⟩,⟨w8.heap.size,0,[AI a.1,AI a.2,AI ((r1,r2):Int×Int).1,AI ((r1,r2):Int×Int).2],139,true⟩]) (L':=[CP.thO l s'.1,Bs j d s'.2])⟩ ?_
    show x.ks.length - AK (AI ((1 + 1:Nat):Int)) < x.ks.length - AK (AI ((1:Nat):Int))
    simp only [AK]
    omega
  have h2:2≤i:=by have:=of_decide_eq_false c6; omega
  rw [show (i == 0)=false from by simp; omega,show (i == 1)=false from by simp; omega] at hv
  refine Af (AY PM) [(Cu g o cA y u v pa.length pc (l) (j) (s'.2.length) (d)),⟨m.heap.size,0,AW x (some ⟨gk,fk,none⟩) c,53,true⟩,⟨m.heap.size + 1,0,[AI 0,AI 0],41,true⟩,⟨w8.heap.size,0,[AI a.1,AI a.2,AI b.1,AI b.2],139,true⟩,⟨w6.heap.size,0,AW e A0 c0,53,true⟩,⟨r0.heap.size,0,BP (r1,r2),41,true⟩] e0 [] fun c1 p0=>?_
  refine AU [(0,BY g),(3,BY (m.heap.size)),(4,BY (m.heap.size + 1)),(6,BY (w8.heap.size)),(48,.slice (some ⟨gk,fk,none⟩) x.ks.length c),(49,AI (x.ks.length:Int)),(50,AI (IntKind.i64.wrap (((i:Nat):Int) + 1)))] fun q0=>?_
  rw [z0]
  refine a0 _ _ ⟨i + 1,a,b,s',l,j,d,q0,b0,rfl,hv,m0,fun h4=>g0 h4,h0,p0.pk [0,1,2,3] [0,1] (M':=[(Cu g o cA y u v pa.length pc (l) (j) (s'.2.length) (d)),⟨m.heap.size,0,AW x (some ⟨gk,fk,none⟩) c,53,true⟩,⟨m.heap.size + 1,0,[AI 0,AI 0],41,true⟩,⟨w8.heap.size,0,[AI a.1,AI a.2,AI b.1,AI b.2],139,true⟩]) (L':=[CP.thO l s'.1,Bs j d s'.2])⟩ ?_
  show x.ks.length - AK (AI ((i + 1:Nat):Int)) < x.ks.length - AK (AI ((i:Nat):Int))
  simp only [AK]
  omega
 have z1:x.ks.drop i=[]:=List.drop_eq_nil_of_le (by have:=of_decide_eq_false c5; omega)
 rw [z1] at hv t0 s0
 replace hv:CZ f x.ks 0 (0,0) (0,0) (kn,us)=(0,a,b,s):=hv
 replace hQ:R0=cond (x.op == 4) (Cj (BX o cm nm sx pa) (x.op,x.nm,0,a.1,a.2) s) (CR x a.1 a.2 b.1 b.2,s):=by rw [hQ,hv]; rfl
 clear a0 hv
 simp only [FH] at t0 s0
 refine AB Uc K4 [(1,0)] fun w5 K5=>?_
 refine AG (x.op == 4) (fun cc=>?_) (fun cc=>?_) <;> rw [cc] at hQ
 ·replace hQ:R0=Cj (BX o cm nm sx pa) (x.op,x.nm,0,a.1,a.2) s:=hQ
  have g0:=g0 (eq_of_beq cc)
  refine AB ij K5 [(1,0),(1,6),(3,0)] fun x0 n0=>?_
  refine A7 (args:=[BY g,.agg ⟨Dl (x.op,x.nm,0,a.1,a.2)⟩]) (KS _ g o cA y u v pa pc cm nm sx z s.1 t s.2 p (x.op,x.nm,0,a.1,a.2) w x0 b2 u1 n1 m1 t1 x1 v1 (s1 _ _ g0.1 g0.2) (by omega) (by omega) n0.B n0.lend) fun en i1 hh=>?_
  obtain ⟨l,j,d,rfl,e2,Hn⟩:=hh
  refine ⟨_,rfl,?_⟩
  have i0:=Wk.unlend e2 Hn
  rw [show ((s.1,s.2):CT)=s from rfl] at i0
  rw [show ((s.1,s.2):CT)=s from rfl]
  generalize Cj (BX o cm nm sx pa) (x.op,x.nm,0,a.1,a.2) s=q at hQ i0 ⊢
  obtain ⟨⟨q1,q2,q3⟩,s2⟩:=q
  refine Aj vb i0 [(2,0)] fun h1 d0=>?_
  refine AJ d0 (2,0) (.tuple #[.agg ⟨[AI q1,AI q2]⟩,AI q3]) ?_
  rw [hQ]
  exact ⟨l,j,d,rfl,d0.B,(d0.pk [0] [0,1] (M':=[(Cu g o cA y u v pa.length pc (l) (j) (s2.2.length) (d))]) (L':=[CP.thO l s2.1,Bs j d s2.2])).H⟩
 ·replace hQ:R0=(CR x a.1 a.2 b.1 b.2,s):=hQ
  refine AB ii K5 [(1,0),(3,0),(3,2)] fun x0 n0=>?_
  refine AQ n0 (args:=[.agg ⟨AW x A c⟩,.agg ⟨[AI a.1,AI a.2]⟩,.agg ⟨[AI b.1,AI b.2]⟩]) (Wt x A c a.1 a.2 b.1 b.2 x0 (hx.below n0.B)) fun i1 i0=>?_
  generalize CR x a.1 a.2 b.1 b.2=q at hQ i0 ⊢
  obtain ⟨q1,q2,q3⟩:=q
  refine Aj va i0 [(2,0)] fun h1 d0=>?_
  refine AJ d0 (2,0) (.tuple #[.agg ⟨[AI q1,AI q2]⟩,AI q3]) ?_
  rw [hQ]
  exact ⟨z,t,p,rfl,d0.B,(d0.pk [0] [0,1] (M':=[(Cu g o cA y u v pa.length pc (z) (t) (s.2.length) (p))]) (L':=[CP.thO z s.1,Bs t p s.2])).H⟩
end
end Go.Proofs.YtkjbdagicjbjjaaGreat
namespace Go.Proofs.YtkjbdagicjbjjaaGreat
open Go.RowKit
set_option maxRecDepth 100000
def GL:Nat→Ex→Prop
 | 0,_=>False
 | h + 1,x=>HP (x.op,x.nm,x.cnt,0,0)∧x.ks.length≤4294967296∧(x.op=12∨x.op=13→∃ a b,x.ks=[a,b])∧(x.op=18→∃ a b c,x.ks=[a,b,c])∧EG x.num∧EG x.den∧∀ k∈x.ks,GL h k
theorem V3 (w:World) (g:Nat) (d:Bool) (r o m:Option Nat) (n:Option Addr) (pa:List Dn) (t:Nat) (l:List (BD×Int×Int)) (nm:List (List UInt8×Int×Int)) (f:List (List UInt8×GV)) (e0:CP.optAt r l w) (a0:Eb.optAt o nm w) (y:EM.optAt m (f.map fun q=>(q.1,Ei q.2)) w) (v:∀ q∈f,Cb w q.2.2.1 q.2.1∧q.2.1.length≤4294967296) (z:EE w n pa) (c0:pa.length≤4294967296) (b0:∀ e∈pa,e.2.length≤4294967296) (j:∀ h k s,GL h k→DN s.1→DN (As (BX d l nm f pa) h k s).2.1) (u:∀ h k s,GL h k→DN s.1→EG (As (BX d l nm f pa) h k s).1.1∧EG (As (BX d l nm f pa) h k s).1.2.1):∀ (h:Nat) (x:Ex),GL h x→LV 39 w g d r o m n pa.length t (As (BX d l nm f pa) h) x
 | 0,_,hx=>hx.elim
 | h + 1,x,hx=>by
  obtain ⟨h1,h2,h3,h4,_,_,h5⟩:=hx
  have ih:∀ k∈x.ks,LV 39 w g d r o m n pa.length t (As (BX d l nm f pa) h) k:=fun k hk=>V3 w g d r o m n pa t l nm f e0 a0 y v z c0 b0 j u h k (h5 k hk)
  have d0:∀ k∈x.ks,∀ s,C2 (nE k) s (As (BX d l nm f pa) h k s).2:=fun k _ s=>Gb _ h k s
  have p:∀ k∈x.ks,∀ s,DN s.1→DN (As (BX d l nm f pa) h k s).2.1:=fun k hk s hs=>j h k s (h5 k hk) hs
  cases hl:Lp x.op with
  | false=>
   exact V6 w g d r o m n pa t l nm f e0 a0 y v z c0 b0 h x hl (fun a b ha hb=>⟨h1.1,h1.2.1,(show EG 0 from ⟨by decide,by decide⟩),ha,hb⟩) h2 ih (fun _ k hk s hs=>u h k s (h5 k hk) hs) p
  | true=>
   refine V5 w g d r o m n pa t l nm f e0 a0 y v z c0 b0 h x hl h1 fun hc=>?_
   rw [Bool.or_eq_true,Bool.or_eq_true,beq_iff_eq,beq_iff_eq,beq_iff_eq] at hc
   rcases hc with hc | hc | hc
   ·obtain ⟨a,b,c,i⟩:=h4 hc
    exact XA w g d r o m n _ t _ x a b c hc i ih d0 p
   ·obtain ⟨a,b,i⟩:=h3 (.inl hc)
    exact XB w g d r o m n _ t _ x a b hc i ih d0 p
   ·obtain ⟨a,b,i⟩:=h3 (.inr hc)
    exact W9 w g d r o m n _ t _ x a b hc i ih d0 p
end Go.Proofs.YtkjbdagicjbjjaaGreat
namespace Go.Proofs.YtkjbdagicjbjjaaGreat
open Go.RowKit
set_option maxRecDepth 100000
def kp (s s':CT):Prop:=DN s.1→DN s'.1
theorem kp.refl (s:CT):kp s s:=fun h=>h
theorem kp.trans {s s' b:CT} (h:kp s s') (c:kp s' b):kp s b:=fun a=>c (h a)
theorem Vo (F:BD→Int×Int×Int) (b:∀ p,EG (F p).1∧EG (F p).2.1) (p:BD) (s:CT):kp s (Cj F p s).2:=by
 unfold Cj
 split
 ·exact kp.refl _
 ·cases !((F p).2.2 == 0)
  ·intro h q a
   rcases List.mem_cons.1 a with rfl | a
   ·exact b p
   ·exact h q a
  ·exact kp.refl _
theorem ON (f:Ex→CT→Cc):∀ (ks:List Ex) (_:∀ k∈ks,∀ s,kp s (f k s).2) (i:Nat) (a b:Int×Int) (s:CT),kp s (CZ f ks i a b s).2.2.2
 | [],_,_,_,_,s=>kp.refl _
 | k :: r,hf,i,a,b,s=>by
  have d:=hf k (by simp) s
  unfold CZ
  cases !((f k s).1.2.2 == 0)
  ·exact d.trans (ON f r (fun e c=>hf e (by simp [c])) _ _ _ _)
  ·exact d
theorem eJ (f:Ex→CT→Cc) (x:Ex) (hf:∀ k∈x.ks,∀ s,kp s (f k s).2) (s:CT):kp s (Bt f x s).2:=by
 unfold Bt
 split
 ·rename_i k0 k1 r hk
  rw [hk] at hf
  have a:=hf k0 (by simp) s
  have b:=hf k1 (by simp) (f k0 s).2
  cases !((f k0 s).1.2.2 == 0)
  ·show kp s (cond _ _ _:Cc).2
   cases (x.op == 12 && ((f k0 s).1.1 == 0))
   ·show kp s (cond _ _ _:Cc).2
    cases (x.op == 13 && !((f k0 s).1.1 == 0))
    ·show kp s (cond _ _ _:Cc).2
     cases (x.op == 18 && ((f k0 s).1.1 == 0))
     ·exact a.trans b
     ·cases r with
      | nil=>exact kp.refl _
      | cons k2 r=>exact a.trans (hf k2 (by simp) (f k0 s).2)
    ·exact a
   ·exact a
  ·exact a
 ·exact kp.refl _
theorem GJ (F:BD→Int×Int×Int) (d:∀ p,EG (F p).1∧EG (F p).2.1):∀ (h:Nat) (x:Ex) (s:CT),kp s (As F h x s).2
 | 0,_,_=>kp.refl _
 | h + 1,x,s=>by
  unfold As
  cases (x.op == 1)
  ·show kp s (cond _ _ _:Cc).2
   cases (x.op == 2)
   ·show kp s (cond _ _ _:Cc).2
    cases (x.op == 3 || (x.op == 20 || x.op == 21))
    ·show kp s (cond _ _ _:Cc).2
     cases (x.op == 18 || (x.op == 12 || x.op == 13))
     ·have c:=ON (As F h) x.ks (fun k _ s=>GJ F d h k s) 0 (0,0) (0,0) s
      show kp s (match CZ (As F h) x.ks 0 (0,0) (0,0) s with
       | (e,a,b,s')=>cond (!(e == 0)) ((0,0,e),s') (cond (x.op == 4) (Cj F (x.op,x.nm,0,a.1,a.2) s') (CR x a.1 a.2 b.1 b.2,s'))).2
      generalize CZ (As F h) x.ks 0 (0,0) (0,0) s=q at c ⊢
      obtain ⟨e,a,b,s'⟩:=q
      show kp s (cond _ _ _:Cc).2
      cases !(e == 0)
      ·show kp s (cond _ _ _:Cc).2
       cases (x.op == 4)
       ·exact c
       ·exact c.trans (Vo F d _ s')
      ·exact c
     ·exact (eJ (As F h) x (fun k _ s=>GJ F d h k s) s)
    ·exact (Vo F d _ s)
   ·exact kp.refl _
  ·exact kp.refl _
end Go.Proofs.YtkjbdagicjbjjaaGreat
namespace Go.Proofs.YtkjbdagicjbjjaaGreat
open Go.RowKit
set_option maxRecDepth 100000
def vR (r:Int×Int×Int):Prop:=EG r.1∧EG r.2.1
theorem Lr:EG 0:=⟨by decide,by decide⟩
theorem EC (e:Int):vR (0,0,e):=⟨Lr,Lr⟩
theorem vR.of {a b e:Int} (f:-2000000000000≤a) (h2:a≤2000000000000) (d:-2000000000000≤b) (c:b≤2000000000000):vR (a,b,e):=
 ⟨⟨by show _≤a; omega,by show a≤_; omega⟩,⟨by show _≤b; omega,by show b≤_; omega⟩⟩
theorem vR.iff {c:Bool} {a b:Int×Int×Int} (ha:vR a) (hb:vR b):vR (cond c a b):=by cases c <;> assumption
theorem vR.valid {n d:Int} (e:Int) (h:Ad n d=true):vR (n,d,e):=by
 have:=DU h
 exact vR.of (by omega) (by omega) (by omega) (by omega)
theorem vR.ifv {n d:Int} {c:Bool} {a b:Int×Int×Int} (ha:vR a) (hb:Ad n d=true→vR b):vR (cond (!(Ad n d)) a b):=by
 cases h:Ad n d
 ·exact ha
 ·exact hb h
theorem XZ (neg:Bool) (n d:Nat):vR (Mp neg n d):=by
 unfold Mp
 cases h:(decide (1000000000000 < n / Nat.gcd n d) || decide (1000000 < d / Nat.gcd n d))
 ·rw [Bool.or_eq_false_iff] at h
  have c:=of_decide_eq_false h.1
  have h2:=of_decide_eq_false h.2
  generalize n / Nat.gcd n d=x at c ⊢
  generalize d / Nat.gcd n d=y at h2 ⊢
  cases neg
  ·exact vR.of (a:=(x:Int)) (b:=(y:Int)) (by omega) (by omega) (by omega) (by omega)
  ·exact vR.of (a:=-(x:Int)) (b:=(y:Int)) (by omega) (by omega) (by omega) (by omega)
 ·exact EC 4
theorem Qj (n d:Int):vR (Lk n d):=vR.iff (EC 5) (XZ _ _ _)
theorem Ni (neg:Bool) (a b c d:Nat):vR (GF neg a b c d):=vR.iff (XZ _ _ _) (EC 4)
theorem ta (a b c d:Int):vR (Ez a b c d):=vR.iff (EC 1) (Qj _ _)
theorem tL (a b c d:Int):vR (N2 a b c d):=vR.iff (EC 1) (Qj _ _)
theorem tQ (a b c d:Int):vR (OI a b c d):=vR.iff (EC 1) (Ni _ _ _ _ _)
theorem Xe (a b c d:Int):vR (Kx a b c d):=vR.iff (EC 1) (vR.iff (EC 5) (Ni _ _ _ _ _))
theorem jh (a b c d m:Int):vR (IE a b c d m):=vR.iff (EC 1) (vR.iff (EC 2) (Qj _ _))
theorem tP (a b:Int):vR (OH a b):=vR.ifv (c:=true) (EC 1) fun h=>by
 have:=DU h
 exact vR.of (by omega) (by omega) (by omega) (by omega)
theorem Vj (n:Nat):∀ (l:List (Int×Int)) (s:Int×Int),vR (Io n l s)
 | [],s=>Xe _ _ _ _
 | e :: tl,s=>vR.iff (EC _) (Vj n tl _)
theorem nN (n:Nat):∀ l:List (Int×Int),vR (da n l)
 | []=>EC 16
 | x :: tl=>Vj n tl x
theorem nK (l:List (Int×Int)):vR (Pt l):=vR.iff (EC 3) (vR.iff (EC 1) (nN _ _))
theorem XF (l:List Dn) (nm:List UInt8) (n:Int):vR (Hu l nm n):=vR.iff (EC 2) (vR.iff (EC 16) (nK _))
theorem nQ (l:List Dn) (nm:List UInt8) (n:Int):vR (Lq l nm n):=vR.iff (EC 2) (vR.iff (EC 16) (vR.ifv (c:=true) (EC 1) fun h=>vR.valid 0 h))
theorem dg (es:List Ha) (b c:Int):vR (EK es b c):=by
 refine vR.iff (EC 3) (vR.iff (EC 1) ?_)
 cases h:es.any OZ
 ·refine vR.iff (a:=(0,0,16)) (EC 16) ?_
  generalize (Ip es b c es 0 (-1)).toNat=k
  cases hk:es[k]? with
  | none=>rw [List.getD_eq_getElem?_getD,hk]; exact EC 0
  | some e=>
   rw [List.getD_eq_getElem?_getD,hk]
   show vR (e.2.1,e.2.2,0)
   rw [List.any_eq_false] at h
   have he:=h e (List.mem_of_getElem? hk)
   cases hv:Ad e.2.1 e.2.2
   ·exact absurd (show OZ e=true by unfold OZ; rw [hv]; rfl) he
   ·exact vR.valid 0 hv
 ·exact EC 1
theorem OT (e:Bool) (b:List (BD×Int×Int)) (a:DN b) (nm:List (List UInt8×Int×Int)) (d:List (List UInt8×GV)) (pa:List Dn) (p:BD):vR (BX e b nm d pa p):=by
 refine vR.iff ?_ (vR.iff ?_ (vR.iff ?_ (vR.iff (XF _ _ _) (nQ _ _ _))))
 ·cases h:AO b p with
  | none=>exact EC 16
  | some v=>exact a _ (FI h)
 ·cases h:AO nm p.2.1 with
  | none=>exact EC 16
  | some v=>exact vR.ifv (c:=true) (EC 1) fun h=>vR.valid 0 h
 ·cases h:AO d p.2.1 with
  | none=>exact EC 16
  | some v=>exact dg _ _ _
theorem Jg (b:Bool):vR ((DE b).1,(DE b).2,0):=by cases b <;> exact vR.of (by decide) (by decide) (by decide) (by decide)
theorem Wu (x:Ex) (a b c d:Int) (g:EG a) (h2:EG b) (f:EG c) (e:EG d):vR (CR x a b c d):=
 vR.iff (ta _ _ _ _) (vR.iff (tL _ _ _ _) (vR.iff (tQ _ _ _ _) (vR.iff (Xe _ _ _ _) (vR.iff (tP _ _) (vR.iff (Jg _) (vR.iff (Jg _) (vR.iff (Jg _) (vR.iff (vR.iff ⟨f,e⟩ ⟨g,h2⟩) (vR.iff (vR.iff ⟨f,e⟩ ⟨g,h2⟩) (vR.iff (Jg _) (vR.iff (jh _ _ _ _ _) (EC 1))))))))))))
theorem Vm (F:BD→Int×Int×Int) (a:∀ p,vR (F p)) (p:BD) (s:CT) (h:DN s.1):vR (Cj F p s).1:=by
 unfold Cj
 split
 ·rename_i v hv
  exact h _ (FI hv)
 ·cases !((F p).2.2 == 0)
  ·exact a p
  ·exact EC _
theorem OM (f:Ex→CT→Cc):∀ (ks:List Ex) (_:∀ k∈ks,∀ s,kp s (f k s).2) (_:∀ k∈ks,∀ s,DN s.1→vR (f k s).1) (i:Nat) (a b:Int×Int) (s:CT) (_:DN s.1) (_:vR (a.1,a.2,0)) (_:vR (b.1,b.2,0)),vR ((CZ f ks i a b s).2.1.1,(CZ f ks i a b s).2.1.2,0)∧vR ((CZ f ks i a b s).2.2.1.1,(CZ f ks i a b s).2.2.1.2,0)
 | [],_,_,_,_,_,_,_,ha,hb=>⟨ha,hb⟩
 | k :: r,hk,hv,i,a,b,s,hs,ha,hb=>by
  have e:=hk k (by simp) s hs
  have h2:=hv k (by simp) s hs
  unfold CZ
  cases !((f k s).1.2.2 == 0)
  ·refine OM f r (fun d c=>hk d (by simp [c])) (fun d c=>hv d (by simp [c])) _ _ _ _ e ?_ ?_
   ·cases i == 0
    ·exact ha
    ·exact h2
   ·cases i == 1
    ·exact hb
    ·exact h2
  ·exact ⟨ha,hb⟩
theorem eH (f:Ex→CT→Cc) (x:Ex) (a:∀ k∈x.ks,∀ s,kp s (f k s).2) (hv:∀ k∈x.ks,∀ s,DN s.1→vR (f k s).1) (s:CT) (hs:DN s.1):vR (Bt f x s).1:=by
 unfold Bt
 split
 ·rename_i k0 k1 r hx
  rw [hx] at a hv
  have b:=a k0 (by simp) s hs
  cases !((f k0 s).1.2.2 == 0)
  ·show vR (cond _ _ _:Cc).1
   cases (x.op == 12 && ((f k0 s).1.1 == 0))
   ·show vR (cond _ _ _:Cc).1
    cases (x.op == 13 && !((f k0 s).1.1 == 0))
    ·show vR (cond _ _ _:Cc).1
     cases (x.op == 18 && ((f k0 s).1.1 == 0))
     ·exact hv k1 (by simp) _ b
     ·cases r with
      | nil=>exact EC 1
      | cons k2 r=>exact hv k2 (by simp) _ b
    ·exact vR.of (by decide) (by decide) (by decide) (by decide)
   ·exact vR.of (by decide) (by decide) (by decide) (by decide)
  ·exact EC _
 ·exact EC 1
theorem L8 (F:BD→Int×Int×Int) (c:∀ p,vR (F p)):∀ (h:Nat) (x:Ex) (s:CT),GL h x→DN s.1→vR (As F h x s).1
 | 0,_,_,hx,_=>hx.elim
 | h + 1,x,s,hx,hs=>by
  obtain ⟨m,h2,l,j,i,g,f⟩:=hx
  unfold As
  cases (x.op == 1)
  ·show vR (cond _ _ _:Cc).1
   cases (x.op == 2)
   ·show vR (cond _ _ _:Cc).1
    cases (x.op == 3 || (x.op == 20 || x.op == 21))
    ·show vR (cond _ _ _:Cc).1
     cases (x.op == 18 || (x.op == 12 || x.op == 13))
     ·have d:=ON (As F h) x.ks (fun k _ s=>GJ F c h k s) 0 (0,0) (0,0) s hs
      have hv:=OM (As F h) x.ks (fun k _ s=>GJ F c h k s) (fun k d s hs=>L8 F c h k s (f k d) hs) 0 (0,0) (0,0) s hs (EC 0) (EC 0)
      show vR (match CZ (As F h) x.ks 0 (0,0) (0,0) s with
       | (e,a,b,s')=>cond (!(e == 0)) ((0,0,e),s') (cond (x.op == 4) (Cj F (x.op,x.nm,0,a.1,a.2) s') (CR x a.1 a.2 b.1 b.2,s'))).1
      generalize CZ (As F h) x.ks 0 (0,0) (0,0) s=q at d hv ⊢
      obtain ⟨e,a,b,s'⟩:=q
      show vR (cond _ _ _:Cc).1
      cases !(e == 0)
      ·show vR (cond _ _ _:Cc).1
       cases (x.op == 4)
       ·exact Wu x _ _ _ _ hv.1.1 hv.1.2 hv.2.1 hv.2.2
       ·exact Vm F c _ s' d
      ·exact EC _
     ·exact eH (As F h) x (fun k _ s=>GJ F c h k s) (fun k d s hs=>L8 F c h k s (f k d) hs) s hs
    ·exact Vm F c _ s hs
   ·exact Jg _
  ·exact ⟨i,g⟩
theorem tY (w:World) (g:Nat) (c:Bool) (t i d:Option Nat) (f:Option Addr) (pa:List Dn) (u:Nat) (b:List (BD×Int×Int)) (nm:List (List UInt8×Int×Int)) (a:List (List UInt8×GV)) (hr:DN b) (r:CP.optAt t b w) (n:Eb.optAt i nm w) (l:EM.optAt d (a.map fun q=>(q.1,Ei q.2)) w) (j:∀ q∈a,Cb w q.2.2.1 q.2.1∧q.2.1.length≤4294967296) (m:EE w f pa) (p:pa.length≤4294967296) (o:∀ e∈pa,e.2.length≤4294967296) (h:Nat) (x:Ex) (hx:GL h x):LV 39 w g c t i d f pa.length u (As (BX c b nm a pa) h) x:=
 V3 w g c t i d f pa u b nm a r n l j m p o (fun h k s _ hs=>GJ _ (OT c b hr nm a pa) h k s hs) (fun h k s v hs=>L8 _ (OT c b hr nm a pa) h k s v hs) h x hx
end Go.Proofs.YtkjbdagicjbjjaaGreat
namespace Go.Proofs.YtkjbdagicjbjjaaGreat
noncomputable section
open Go.RowKit
set_option maxRecDepth 100000
set_option maxHeartbeats 1000000
attribute [local irreducible] A8 BL AC AD AF Ao AY AL Aq Bb Cn BR Dx Cm BK At Fr
def BA (F:BD→Int×Int×Int) (h:Nat) (d:Df) (s:CT):Cc:=cond (!((As F h d.body s).1.2.2 == 0)) ((0,0,(As F h d.body s).1.2.2),(As F h d.body s).2) (cond (d.kind == 4) (IE (As F h d.body s).1.1 (As F h d.body s).1.2.1 d.num d.den d.mode,(As F h d.body s).2) (As F h d.body s))
noncomputable def YV:Code:=Tryz.f25.body.getD .skip
def qM:=AA 60 [.code YV]
def aW:=AA 60 (AC qM)
def AA3:=AA 60 (AD aW)
def aV:=AA 60 (AF aW)
def qL:=AA 60 (AD aV)
def AA2:=AA 60 (AC qL)
def AA1:=AA 60 (AF aV)
theorem Mu (w:World) (g:Nat) (i:Bool) (s o k:Option Nat) (m:Option Addr) (pa:List Dn) (t:Nat) (x:List (BD×Int×Int)) (nm:List (List UInt8×Int×Int)) (v:List (List UInt8×GV)) (hr:DN x) (i0:CP.optAt s x w) (e0:Eb.optAt o nm w) (b0:EM.optAt k (v.map fun q=>(q.1,Ei q.2)) w) (a0:∀ q∈v,Cb w q.2.2.1 q.2.1∧q.2.1.length≤4294967296) (d0:EE w m pa) (h0:pa.length≤4294967296) (g0:∀ e∈pa,e.2.length≤4294967296) (h:Nat) (d:Df) (hd:GL h d.body) (Z:List Th) (kA:Option Nat) (p:List (BD×Int×Int)) (uA:Option Addr) (j:List DP) (z:Nat) (A1:Option Addr) (c1:Nat) (y:Option Addr) (c2:Nat) (u:World) (hx:rowsEx w y d.body.ks) (k0:p.length + nE d.body≤4294967296) (j0:j.length + nE d.body≤4294967296) (c0:DN p) (B:Below w.heap.size w u) (H:Ac w.heap.size u ([Th.ent (Cu g i s o k m pa.length t (kA) (uA) (j.length) (z)),CP.thO kA p,Bs uA z j]++Z)) :
  Calls Tryz.prog 25 ([BY g,.agg ⟨Be d A1 c1 y c2⟩]:List Value).toArray u fun e w'=>∃ kA' uA' uc',e=.returned (DB (BA (BX i x nm v pa) h d (p,j)).1)∧Below w.heap.size w w'∧Ac w.heap.size w' ([Th.ent (Cu g i s o k m pa.length t (kA') (uA') ((BA (BX i x nm v pa) h d (p,j)).2.2.length) (uc')),CP.thO kA' (BA (BX i x nm v pa) h d (p,j)).2.1,Bs uA' uc' (BA (BX i x nm v pa) h d (p,j)).2.2]++Z):=by
 refine AR (args:=[BY g,.agg ⟨Be d A1 c1 y c2⟩]) (fn:=Tryz.f25) (c:=YV) (n:=31) ?_
 have K0:Wk w u [(Cu g i s o k m pa.length t (kA) (uA) (j.length) (z))] [CP.thO kA p,Bs uA z j] Z:=⟨B,H⟩
 clear B H
 refine Af qM [(Cu g i s o k m pa.length t (kA) (uA) (j.length) (z)),⟨u.heap.size,0,Be d A1 c1 y c2,59,true⟩,⟨u.heap.size + 1,0,[AI 0,AI 0],41,true⟩] K0 [(1,8)] fun w1 K1=>?_
 refine A7 (args:=[BY g,.agg ⟨AW d.body y c2⟩]) (tY w g i s o k m pa t x nm v hr i0 e0 b0 a0 d0 h0 g0 h d.body hd _ kA p uA j z y c2 w1 hx k0 j0 c0 K1.B K1.lend) fun en w2 hh=>?_
 obtain ⟨f,b,a,rfl,b2,Hn⟩:=hh
 refine ⟨_,rfl,?_⟩
 have K2:=Wk.unlend b2 Hn
 unfold BA
 generalize hR:(As (BX i x nm v pa) h d.body (p,j))=r at K2 ⊢
 obtain ⟨⟨r1,r2,r3⟩,l⟩:=r
 refine Af aW [(Cu g i s o k m pa.length t (f) (b) (l.2.length) (a)),⟨u.heap.size,0,Be d A1 c1 y c2,59,true⟩,⟨u.heap.size + 1,0,[AI 0,AI 0],41,true⟩,⟨w2.heap.size,0,BP (r1,r2),41,true⟩] K2 [(3,0)] fun w3 K3=>?_
 refine AG (!(r3 == 0)) (fun cE=>?_) (fun cE=>?_)
 ·refine Aj AA3 K3 [(2,0)] fun w4 K4=>?_
  refine AJ K4 (2,0) (.tuple #[.agg ⟨[AI 0,AI 0]⟩,AI r3]) ?_
  rw [show (!((r3:Int) == 0))=true from cE]
  exact ⟨f,b,a,rfl,K4.B,(K4.pk [0] [0,1] (M':=[(Cu g i s o k m pa.length t (f) (b) (l.2.length) (a))]) (L':=[CP.thO f l.1,Bs b a l.2])).H⟩
 rw [show (!((r3:Int) == 0))=false from cE]
 refine AB aV K3 [(1,0)] fun w4 K4=>?_
 refine AG (d.kind == 4) (fun c3=>?_) (fun c3=>?_)
 ·refine AB qL K4 [(3,0),(1,19),(1,18)] fun w5 K5=>?_
  refine AQ K5 (args:=[.agg ⟨BP (r1,r2)⟩,.agg ⟨BP (d.num,d.den)⟩,AI d.mode]) (Pf r1 r2 d.num d.den d.mode w5) fun w6 K6=>?_
  refine Aj AA2 K6 [(2,0)] fun w7 K7=>?_
  refine AJ K7 (2,0) (DB (IE r1 r2 d.num d.den d.mode)) ?_
  rw [c3]
  exact ⟨f,b,a,rfl,K7.B,(K7.pk [0] [0,1] (M':=[(Cu g i s o k m pa.length t (f) (b) (l.2.length) (a))]) (L':=[CP.thO f l.1,Bs b a l.2])).H⟩
 ·refine Aj AA1 K4 [(3,0),(2,0)] fun w5 K5=>?_
  refine AJ K5 (2,0) (.tuple #[.agg ⟨BP (r1,r2)⟩,AI 0]) ?_
  obtain rfl:r3=0:=by simpa using cE
  rw [c3]
  exact ⟨f,b,a,rfl,K5.B,(K5.pk [0] [0,1] (M':=[(Cu g i s o k m pa.length t (f) (b) (l.2.length) (a))]) (L':=[CP.thO f l.1,Bs b a l.2])).H⟩
end
end Go.Proofs.YtkjbdagicjbjjaaGreat

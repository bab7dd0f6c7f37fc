/-
  Part 35 of a proof: contracts of functions.
-/
import Derived.Test.YtkjbdagicjbjjaaGreatTf34
set_option linter.all false
namespace Go.Proofs.YtkjbdagicjbjjaaGreat
noncomputable section
open Go.RowKit
set_option maxRecDepth 100000
set_option maxHeartbeats 1000000
def dR (h:Nat) (d:Df) (e:Cr) (m:List (BD×Int×Int)):Bool:=cond (cond ((BA (Bw true m [] [] []) h d ([],[])).1.2.2 == 0) (IP ((BA (Bw true m [] [] []) h d ([],[])).1.1,(BA (Bw true m [] [] []) h d ([],[])).1.2.1) e.2.2.2) false) (decide ((BA (Bw true m [] [] []) h d ([],[])).2.2=e.2.2.1)) false
def Gm (h:Nat) (d:Df) (s:IR) (e:Cr) (bf:List (List UInt8×Int×Int)):List DP→List (BD×Int×Int)→Bool
 | [],m=>dR h d e m
 | u :: r,m=>cond (!(KM s u bf)) false (cond (!(AO m u.1).isSome) (Gm h d s e bf r ((u.1,u.2) :: m)) (Gm h d s e bf r m))
def Fc (ds:List Df) (s:IR) (h:Nat) (e:Cr) (bf:List (List UInt8×Int×Int)):Bool:=match AO s.2.1 e.1 with
 | none=>false
 | some r=>cond (cond (!((ds.getD r.toNat default).frm == e.2.1)) true (!(Ad e.2.2.2.1 e.2.2.2.2))) false (cond (AO bf e.1).isSome false (Gm h (ds.getD r.toNat default) s e bf e.2.2.1 []))
theorem Wg {s:IR} {u:DP} {a:List (List UInt8×Int×Int)} (h:(!(KM s u a))=false):Ad u.2.1 u.2.2=true:=by
 cases hv:Ad u.2.1 u.2.2
 ·unfold KM at h
  rw [hv] at h
  cases h
 ·rfl
attribute [local irreducible] A8 BL AC AD AF Ao AY AL Aq Bb Cn BR Dx Cm BK At Fr
noncomputable def Qx:Code:=Tryz.f44.body.getD .skip
def aE:=AA (Ak (Ce) 90 ([.code Qx])) ([.code Qx])
def aD:=Ai 2 (AC aE)
def O8:=AA 60 (AL aD)
def px:=AA 60 (AD O8)
def aC:=AA (Ak (Ce) 90 (AF O8)) (AF O8)
def ST:=AA 60 (AC aC)
def AAo:=AA 60 (AD ST)
def aB:=AA (Ak (EA) 90 (AF ST)) (AF ST)
def SS:=AA 60 (AC aB)
def O7:=AA 60 (Ao SS)
def gS:=AA (Ak (Aa) 90 (AD O7)) (AD O7)
def gR:=AA 60 (AC (AC gS))
def T5:=AA 60 (AC gR)
def u0:=AA 60 (AD T5)
def T4:=AA 60 (AF T5)
def T3:=AA (Ak (Ce) 90 (AC T4)) (AC T4)
def gQ:=AA 60 (AC T3)
def gP:=Ai 15 (AD gQ)
def T2:=AA (Ak (P0) 90 (AF O7)) (AF O7)
def T1:=AA (Ak (Fw 25) 90 (T2)) (T2)
def gO:=AA (Ak (Aa) 90 (AC T1)) (AC T1)
def gM:=AA 60 (AC (AC gO))
def gL:=Ai 19 (AC gM)
def uz:=AA 60 (AL gL)
theorem Rv (dA:Option Addr) (ds:List Df) (dc:Nat) (oA:Option Addr) (on oc b1 b2 b3 bb:Nat) (s:IR) (sx:List (List UInt8×GV)) (i:List (List UInt8×Int×Int)) (e:Cr) (A1:Option Addr) (c1 f:Nat) (w:World) (l1:rowsDf w dA ds) (x1:ds.length≤1000000000) (hS:NY w b1 b2 b3 s sx) (i1:Eb.at bb i w) (hn:∀ d∈ds,nE d.body≤1000000) (e2:∀ d∈ds,Al d=true→GL f d.body) (u1:∀ q∈s.2.1,∃ x,x < ds.length∧q.2=(x:Int)∧Al (ds.getD x default)=true)
  (f1:e.1.length≤4294967296) (v2:e.2.2.1.length≤10000000) (g2:∀ u∈e.2.2.1,HP u.1) (hU:rowsUse w A1 e.2.2.1) :
  Calls Tryz.prog 44 ([.agg ⟨CF dA ds.length dc oA on oc (some b1) (some b2) (some b3)⟩,.agg ⟨Ch (e,A1,c1)⟩,.map (some bb)]:List Value).toArray w fun en w'=>en=.returned (.bool (Fc ds s f e i))∧Below w.heap.size w w':=by
 refine AR (args:=[.agg ⟨CF dA ds.length dc oA on oc (some b1) (some b2) (some b3)⟩,.agg ⟨Ch (e,A1,c1)⟩,.map (some bb)]) (fn:=Tryz.f44) (c:=Qx) (n:=108) ?_
 have hv:(Fc ds s f e i)=(match AO s.2.1 e.1 with
  | none=>false
  | some r=>cond (cond (!((ds.getD r.toNat default).frm == e.2.1)) true (!(Ad e.2.2.2.1 e.2.2.2.2))) false (cond (AO i e.1).isSome false (Gm f (ds.getD r.toNat default) s e i e.2.2.1 []))):=rfl
 have K0:=Wk.start w
 refine CA Ce aE [⟨w.heap.size,0,(CF dA ds.length dc oA on oc (some b1) (some b2) (some b3)),72,true⟩,⟨w.heap.size + 1,0,Ch (e,A1,c1),44,true⟩] K0 [(0,3),(1,0)] fun w1 K1=>?_
 refine C4 (Dp FB (o:=Br aE) (b:=b2) (m:=s.2.1) (x:=.tmp 21) (y:=.tmp 23) (by kernel_rfl) rfl (by kernel_rfl) e.1 (by kernel_rfl) f1 (BT.below (S:=FB) hS.m2 K1.B)) ?_
 cases hlk:AO s.2.1 e.1 with
 | none=>
  rw [hlk] at hv
  refine Am 2 aD K1 [] fun w2 K2=>?_
  refine Ap K2 (mem:=[⟨w.heap.size,0,(CF dA ds.length dc oA on oc (some b1) (some b2) (some b3)),72,true⟩,⟨w.heap.size + 1,0,Ch (e,A1,c1),44,true⟩]) [(4,0,0),(10,1,1),(15,1,3)] [⟨6,[],BY 0,(!true) && true⟩,⟨8,[],AI 0,(!true) && true⟩,⟨16,[],.bool true,(!true) && true⟩] (fun e' d0=>K2.G e' d0) (fun sp a0=>?_) fun w3 E3 K3=>?_
  ·simp only [List.mem_cons,List.not_mem_nil,or_false] at a0
   rcases a0 with rfl | rfl | rfl <;> exact fun hc=>by cases hc
  refine AB O8 K3 [] fun w4 K4=>?_
  refine AG true (fun _=>?_) (fun h0=>by cases h0)
  refine AB px K4 [] fun w5 K5=>?_
  exact AJ K5 (0,0) (.bool false) ⟨by rw [hv],K5.B⟩
 | some r=>
 rw [hlk] at hv
 obtain ⟨x,hx,rfl,q1⟩:=u1 _ (FI hlk)
 replace hv:(Fc ds s f e i)=cond (cond (!((ds.getD x default).frm == e.2.1)) true (!(Ad e.2.2.2.1 e.2.2.2.2))) false (cond (AO i e.1).isSome false (Gm f (ds.getD x default) s e i e.2.2.1 [])):=hv
 obtain ⟨gd,fd,rfl,r0,g1⟩:=l1.all (by omega)
 have h1:ds[x]?=some (ds.getD x default):=getD_some default hx
 have s0:=Dt (l:=ds) hx
 obtain ⟨B1,k1,B2,k2,q0,i2,m1⟩:=g1 x _ h1
 have l0:=e2 _ s0 q1
 have v1:=hn _ s0
 generalize ds.getD x default=d at hv q0 i2 m1 l0 v1
 refine Am 2 aD K1 [] fun w2 K2=>?_
 refine Ap K2 (mem:=[⟨w.heap.size,0,(CF (some ⟨gd,fd,none⟩) ds.length dc oA on oc (some b1) (some b2) (some b3)),72,true⟩,⟨w.heap.size + 1,0,Ch (e,A1,c1),44,true⟩,⟨gd,fd + x * 21,Be d B1 k1 B2 k2,59,false⟩]) [(4,0,0),(8,2,6),(10,1,1),(15,1,3)] [⟨6,[(31,.slice (some ⟨gd,fd,none⟩) ds.length dc),(32,AI (x:Int))],.pointer (some ⟨gd,fd + x * 21,none⟩),(!false) && true⟩,⟨16,[(42,.agg ⟨BP e.2.2.2⟩)],.bool (Ad e.2.2.2.1 e.2.2.2.2),(!(cond false true (!(d.frm == e.2.1)))) && true⟩] (fun e' d0=>?_) (fun sp a0=>?_) fun w3 E3 K3=>?_
 ·simp only [List.mem_cons,List.not_mem_nil,or_false] at d0
  rcases d0 with rfl | rfl | rfl
  ·exact K2.ent 0 rfl
  ·exact K2.ent 1 rfl
  ·exact ⟨Nat.lt_of_lt_of_le r0 K2.B.size,Ab q0 r0 K2.B⟩
 ·simp only [List.mem_cons,List.not_mem_nil,or_false] at a0
  rcases a0 with rfl | rfl
  ·exact BG fun _ E u _=>BZ (sz:=21) (k:=x) (len:=ds.length) (cap:=dc) 25 (.tmp 31) (.tmp 32) hx Tryz.underlying25
  ·exact AV 63 [.tmp 42] [.agg ⟨BP e.2.2.2⟩] (fun _=>by kernel_rfl) fun hc y hy=>AN hy (Bh e.2.2.2.1 e.2.2.2.2 y)
 refine AB O8 K3 [] fun w4 K4=>?_
 refine AG (cond (!(d.frm == e.2.1)) true (!(Ad e.2.2.2.1 e.2.2.2.2))) (fun w0=>?_) (fun w0=>?_) <;> rw [w0] at hv
 ·refine AB px K4 [] fun w5 K5=>?_
  exact AJ K5 (0,0) (.bool false) ⟨by rw [hv]; rfl,K5.B⟩
 replace hv:(Fc ds s f e i)=cond (AO i e.1).isSome false (Gm f d s e i e.2.2.1 []):=hv
 refine Ae Ce aC K4 [(1,0)] fun w5 K5=>?_
 refine C4 (Dp Eb (o:=Br aC) (b:=bb) (m:=i) (x:=.tmp 47) (y:=.tmp 49) (by kernel_rfl) rfl (by kernel_rfl) e.1 (by kernel_rfl) f1 (BT.below (S:=Eb) i1 K5.B)) ?_
 refine Af ST [⟨w.heap.size,0,(CF (some ⟨gd,fd,none⟩) ds.length dc oA on oc (some b1) (some b2) (some b3)),72,true⟩,⟨w.heap.size + 1,0,Ch (e,A1,c1),44,true⟩,⟨w5.heap.size,0,BP ((AO i e.1).getD Eb.z),41,true⟩] K5 [(2,0)] fun w6 K6=>?_
 refine AG (AO i e.1).isSome (fun v0=>?_) (fun v0=>?_) <;> rw [v0] at hv
 ·refine AB AAo K6 [] fun w7 K7=>?_
  exact AJ K7 (0,0) (.bool false) ⟨by rw [hv]; rfl,K7.B⟩
 replace hv:(Fc ds s f e i)=Gm f d s e i e.2.2.1 []:=hv
 have n1:Wk w w6 [⟨w.heap.size,0,(CF (some ⟨gd,fd,none⟩) ds.length dc oA on oc (some b1) (some b2) (some b3)),72,true⟩,⟨w.heap.size + 1,0,Ch (e,A1,c1),44,true⟩] [] []:=K6.pk [0,1] []
 refine Ae EA aB n1 [] fun w7 K7=>?_
 refine Ey CP K7.H (Br aB) (by kernel_rfl) (t:=83) (by kernel_rfl) fun w8 _ Hn b8=>?_
 have K8:=K7.add b8 Hn
 generalize w7.heap.size=mb at K8 ⊢
 refine AB SS K8 [(1,2)] fun w9 K9=>?_
 clear K0 K1 K2 K3 K4 K5 K6 n1 K7 K8 Hn b8 w0 v0 hlk g1 h1 s0
 refine AU [(2,.map (some bb)),(3,BY (w.heap.size)),(4,BY (w.heap.size + 1)),(7,AI (x:Int)),(11,.map (some mb)),(56,.slice A1 e.2.2.1.length c1),(57,AI (e.2.2.1.length:Int)),(58,AI ((0:Nat):Int))] fun E9=>?_
 refine Bd (by kernel_rfl) (fun E wx=>∃ (j:Nat) (m:List (BD×Int×Int)) (E0:Nat→Value),j≤e.2.2.1.length∧E=BC E0 [(2,.map (some bb)),(3,BY (w.heap.size)),(4,BY (w.heap.size + 1)),(7,AI (x:Int)),(11,.map (some mb)),(56,.slice A1 e.2.2.1.length c1),(57,AI (e.2.2.1.length:Int)),(58,AI (j:Int))]∧(Fc ds s f e i)=Gm f d s e i (e.2.2.1.drop j) m∧m.length≤j∧DN m∧Wk w wx [⟨w.heap.size,0,(CF (some ⟨gd,fd,none⟩) ds.length dc oA on oc (some b1) (some b2) (some b3)),72,true⟩,⟨w.heap.size + 1,0,Ch (e,A1,c1),44,true⟩] [CP.th mb m] []) (fun E _=>e.2.2.1.length - AK (E 58)) ⟨0,[],E9,Nat.zero_le _,rfl,by rw [List.drop_zero]; exact hv,Nat.le_refl _,(fun p hp=>by cases hp),K9⟩ ?_
 clear K9 hv
 rintro E wx ⟨j,m,E0,hj,rfl,hv,hm,p0,K1⟩ j0
 refine AB O7 K1 [] fun w2 K2=>?_
 refine AG (decide ((j:Int) < (e.2.2.1.length:Int))) (fun c2=>?_) (fun c2=>?_)
 ·have i0:j < e.2.2.1.length:=by have:=of_decide_eq_true c2; omega
  obtain ⟨u,hu⟩:∃ u,e.2.2.1[j]?=some u:=⟨_,List.getElem?_eq_getElem i0⟩
  have h2:e.2.2.1.drop j=u :: e.2.2.1.drop (j + 1):=by
   have he:e.2.2.1[j]=u:=(List.getElem?_eq_some_iff.1 hu).2
   rw [← List.getElem_cons_drop i0,he]
  rw [h2,Gm] at hv
  have n0:=g2 u (List.mem_of_getElem? hu)
  obtain ⟨gU,fU,rfl,d2,t0⟩:=hU.all (by omega)
  refine Ae Aa gS K2 [] fun w3 K3=>?_
  refine Au (g:=gU) (off:=fU) (cap:=c1) (sz:=7) (k:=j) (len:=e.2.2.1.length) (some 60) i0 Tryz.underlying42 ?_
  refine BI 94 gU (fU + j * 7) (CQ u) (some 61) (Ab (t0 j u hu) d2 K3.B) ?_
  refine Af gR [⟨w.heap.size,0,(CF (some ⟨gd,fd,none⟩) ds.length dc oA on oc (some b1) (some b2) (some b3)),72,true⟩,⟨w.heap.size + 1,0,Ch (e,(some ⟨gU,fU,none⟩),c1),44,true⟩,⟨w3.heap.size,0,CQ u,94,true⟩] K3 [(2,0),(0,0),(2,0)] fun w4 K4=>?_
  refine AQ K4 (args:=[.agg ⟨CF (some ⟨gd,fd,none⟩) ds.length dc oA on oc (some b1) (some b2) (some b3)⟩,.agg ⟨CQ u⟩,.map (some bb)]) (Rp (some ⟨gd,fd,none⟩) ds.length dc oA on oc b1 b2 b3 bb s sx i u w4 (hS.below K4.B) (BT.below (S:=Eb) i1 K4.B) n0) fun w5 K5=>?_
  refine AB T5 K5 [] fun w6 K6=>?_
  refine AG (!(KM s u i)) (fun c3=>?_) (fun c3=>?_)
  ·rw [c3] at hv
   refine AB u0 K6 [] fun w7 K7=>?_
   exact AJ K7 (0,0) (.bool false) ⟨by rw [hv]; rfl,K7.B⟩
  have a1:=Wg c3
  rw [c3] at hv
  replace hv:(Fc ds s f e i)=cond (!(AO m u.1).isSome) (Gm f d s e i (e.2.2.1.drop (j + 1)) ((u.1,u.2) :: m)) (Gm f d s e i (e.2.2.1.drop (j + 1)) m):=hv
  refine AB T4 K6 [(2,0)] fun w7 K7=>?_
  refine AQ K7 (args:=[.agg ⟨CQ u⟩]) (GW u w7) fun w7 K7=>?_
  refine Ae Ce T3 K7 [] fun w7 K7=>?_
  refine C4 (Dp CP (o:=Br T3) (b:=mb) (m:=m) (x:=.tmp 68) (y:=.tmp 70) (by kernel_rfl) rfl (by kernel_rfl) u.1 (by kernel_rfl) n0 (K7.H.all (K7.ix 0) _ (K7.at 0 rfl))) ?_
  refine Af gQ [⟨w.heap.size,0,(CF (some ⟨gd,fd,none⟩) ds.length dc oA on oc (some b1) (some b2) (some b3)),72,true⟩,⟨w.heap.size + 1,0,Ch (e,(some ⟨gU,fU,none⟩),c1),44,true⟩,⟨w3.heap.size,0,CQ u,94,true⟩,⟨w7.heap.size,0,BP ((AO m u.1).getD CP.z),41,true⟩] K7 [(3,0)] fun w8 K8=>?_
  refine AG (!(AO m u.1).isSome) (fun c4=>?_) (fun c4=>?_) <;> rw [c4] at hv
  ·replace hv:(Fc ds s f e i)=Gm f d s e i (e.2.2.1.drop (j + 1)) ((u.1,u.2) :: m):=hv
   refine Am 15 gP K8 [] fun w9 K9=>?_
   refine M2 K9 (mem:=[⟨w3.heap.size,0,CQ u,94,true⟩]) [0,1,2,3,4] [(1,0,0),(4,0,5)] [⟨2,[(77,.agg ⟨CQ u⟩)],.agg ⟨Dl u.1⟩,true⟩] 5 (fun e' d0=>by rw [List.mem_singleton.1 d0]; exact K9.ent 2 rfl) (fun sp a0=>?_) fun v Kv=>?_
   ·rw [List.mem_singleton.1 a0]
    exact AV 42 [.tmp 77] [.agg ⟨CQ u⟩] (fun _=>by kernel_rfl) fun hc y hy=>AN hy (GW u y)
   obtain ⟨v',t1,Hn,n2⟩:=JS CP (ρ:=Ax 108 _) Kv.H (Kv.ix 0) (Kv.at 0 rfl) u.1 u.2 n0 trivial ((AS gP).getD 5 default) (t:=83) (x:=.tmp 76) (y:=.tmp 78) (z:=.tmp 80) (by kernel_rfl) rfl (by kernel_rfl) (by kernel_rfl) (by kernel_rfl) (by omega)
   refine ⟨v',t1,?_⟩
   have o2:=Kv.put 0 (by simp) n2 Hn
   refine AB (AY SS) o2 [] fun p1 x0=>?_
   refine AU [(2,.map (some bb)),(3,BY (w.heap.size)),(4,BY (w.heap.size + 1)),(7,AI (x:Int)),(11,.map (some mb)),(56,.slice (some ⟨gU,fU,none⟩) e.2.2.1.length c1),(57,AI (e.2.2.1.length:Int)),(58,AI (IntKind.i64.wrap ((j:Int) + 1)))] fun z0=>?_
   rw [Bc j (by omega)]
   refine j0 _ _ ⟨j + 1,(u.1,u.2) :: m,z0,i0,rfl,hv,by rw [List.length_cons]; omega,(fun p hp=>?_),x0.pk [0,1] [0]⟩ ?_
   ·rcases List.mem_cons.1 hp with rfl | hp
    ·exact vR.valid 0 a1
    ·exact p0 p hp
   ·show e.2.2.1.length - AK (AI ((j + 1:Nat):Int)) < e.2.2.1.length - AK (AI (j:Int))
    simp only [AK]
    omega
  ·replace hv:(Fc ds s f e i)=Gm f d s e i (e.2.2.1.drop (j + 1)) m:=hv
   refine AB (AY SS) K8 [] fun p1 x0=>?_
   refine AU [(2,.map (some bb)),(3,BY (w.heap.size)),(4,BY (w.heap.size + 1)),(7,AI (x:Int)),(11,.map (some mb)),(56,.slice (some ⟨gU,fU,none⟩) e.2.2.1.length c1),(57,AI (e.2.2.1.length:Int)),(58,AI (IntKind.i64.wrap ((j:Int) + 1)))] fun z0=>?_
   rw [Bc j (by omega)]
   refine j0 _ _ ⟨j + 1,m,z0,i0,rfl,hv,by omega,p0,x0.pk [0,1] [0]⟩ ?_
   show e.2.2.1.length - AK (AI ((j + 1:Nat):Int)) < e.2.2.1.length - AK (AI (j:Int))
   simp only [AK]
   omega
 ·have z1:j=e.2.2.1.length:=by have:=of_decide_eq_false c2; omega
  rw [z1,List.drop_length,Gm] at hv
  refine Ae P0 T2 K2 [] fun w3 K3=>?_
  refine AU [(3,BY (w.heap.size)),(4,BY (w.heap.size + 1)),(7,AI (x:Int)),(82,.map (some mb))] fun E3=>?_
  have KF:=Wk.start w3
  refine CA (Fw 25) T1 [(Cu w3.heap.size true (some mb) none none none 0 0 none none 0 0)] KF [(0,0)] fun w4 K4=>?_
  have e1:=K3.ent 0 rfl
  refine Dh 25 w.heap.size 0 (.slice (some ⟨gd,fd,none⟩) ds.length dc) (some 86) (by simpa using Ab (GH e1) e1.1 K4.B 0 _ rfl) ?_
  refine Ae Aa gO K4 [] fun w5 K5=>?_
  refine Au (g:=gd) (off:=fd) (cap:=dc) (sz:=21) (k:=x) (len:=ds.length) (some 88) hx Tryz.underlying25 ?_
  refine BI 59 gd (fd + x * 21) (Be d B1 k1 B2 k2) (some 89) (Ab q0 r0 (K3.B.trans (K5.B.mono K3.B.size))) ?_
  refine AB gM K5 [] fun w9 K9=>?_
  refine A7 (args:=[BY (w3.heap.size),.agg ⟨Be d B1 k1 B2 k2⟩]) (Mu w3 w3.heap.size true (some mb) none none none [] 0 m [] [] p0 (K3.H.all (K3.ix 0) _ (K3.at 0 rfl)) rfl rfl (fun q hq=>by cases hq) ⟨[],trivial,.inl rfl⟩ (Nat.zero_le _) (fun q hq=>by cases hq) f d l0 [] none [] none [] 0 B1 k1 B2 k2 w9 (m1.below K3.B) (by simp only [List.length_nil]; omega) (by simp only [List.length_nil]; omega) (fun p hp=>by cases hp) K9.B ((Ac.add K9.H (CP.thO none []) rfl (fun _ h=>h)).addNil 94 7 (fun e r=>r=CQ e))) fun en m0 hh=>?_
  obtain ⟨g0,c0,b0,rfl,l2,k0⟩:=hh
  refine ⟨_,rfl,?_⟩
  rw [Qp] at k0 ⊢
  replace hv:(Fc ds s f e i)=cond (cond ((BA (Bw true m [] [] []) f d ([],[])).1.2.2 == 0) (IP ((BA (Bw true m [] [] []) f d ([],[])).1.1,(BA (Bw true m [] [] []) f d ([],[])).1.2.1) e.2.2.2) false) (decide ((BA (Bw true m [] [] []) f d ([],[])).2.2=e.2.2.1)) false:=hv
  change Ac _ _ ([Th.ent (Cu w3.heap.size true (some mb) none none none 0 0 g0 c0 (BA (Bw true m [] [] []) f d ([],[])).2.2.length b0),CP.thO g0 (BA (Bw true m [] [] []) f d ([],[])).2.1,Bs c0 b0 (BA (Bw true m [] [] []) f d ([],[])).2.2]++[]) at k0
  show At _ _ _ _ (Fr _ (Aq _ _ (DB (BA (Bw true m [] [] []) f d ([],[])).1))) _
  have d1:(BA (Bw true m [] [] []) f d ([],[])).2.2.length≤4294967296:=by
   have a2:=(Gb (Bw true m [] [] []) f d.body ([],[])).2
   have he:(BA (Bw true m [] [] []) f d ([],[])).2=(As (Bw true m [] [] []) f d.body ([],[])).2:=by
    unfold BA
    cases !((As (Bw true m [] [] []) f d.body ([],[])).1.2.2 == 0)
    ·cases d.kind == 4 <;> rfl
    ·rfl
   rw [he]
   simp only [List.length_nil] at a2
   omega
  generalize hR:(BA (Bw true m [] [] []) f d ([],[]))=rq at hv k0 d1 ⊢
  obtain ⟨⟨r1,r2,r3⟩,s1⟩:=rq
  have q2:Wk w m0 [⟨w.heap.size,0,(CF (some ⟨gd,fd,none⟩) ds.length dc oA on oc (some b1) (some b2) (some b3)),72,true⟩,⟨w.heap.size + 1,0,Ch (e,A1,c1),44,true⟩,(Cu w3.heap.size true (some mb) none none none 0 0 g0 c0 s1.2.length b0)] ([CP.th mb m]++[CP.thO g0 s1.1,Bs c0 b0 s1.2]) []:=K3.joinE l2 k0
  clear k0 hR
  refine Bp 19 gL [⟨w.heap.size,0,(CF (some ⟨gd,fd,none⟩) ds.length dc oA on oc (some b1) (some b2) (some b3)),72,true⟩,⟨w.heap.size + 1,0,Ch (e,A1,c1),44,true⟩,(Cu w3.heap.size true (some mb) none none none 0 0 g0 c0 s1.2.length b0),⟨m0.heap.size,0,BP (r1,r2),41,true⟩] q2 [(3,0)] fun u2 e0=>?_
  refine Ap e0 (mem:=[⟨w.heap.size,0,(CF (some ⟨gd,fd,none⟩) ds.length dc oA on oc (some b1) (some b2) (some b3)),72,true⟩,⟨w.heap.size + 1,0,Ch (e,A1,c1),44,true⟩,(Cu w3.heap.size true (some mb) none none none 0 0 g0 c0 s1.2.length b0),⟨m0.heap.size,0,BP (r1,r2),41,true⟩]) [(3,3,0),(5,1,3),(10,2,6),(12,1,2)] [⟨6,[(96,.agg ⟨BP (r1,r2)⟩),(98,.agg ⟨BP e.2.2.2⟩)],.bool (IP (r1,r2) e.2.2.2),(r3 == 0) && true⟩,⟨13,[(103,.slice c0 s1.2.length b0),(105,.slice A1 e.2.2.1.length c1)],.bool (decide (s1.2=e.2.2.1)),(cond (r3 == 0) (IP (r1,r2) e.2.2.2) false) && true⟩] (fun e' d0=>e0.G e' d0) (fun sp a0=>?_) fun t2 x2 p2=>?_
  ·simp only [List.mem_cons,List.not_mem_nil,or_false] at a0
   rcases a0 with rfl | rfl
   ·exact BG fun _ E y _=>Cy (k:=.eql) (T:=41) (a:=.agg ⟨BP (r1,r2)⟩) (b:=.agg ⟨BP e.2.2.2⟩) (Ej y _ _ _ _)
   ·exact AV 69 [.tmp 103,.tmp 105] [.slice c0 s1.2.length b0,.slice A1 e.2.2.1.length c1] (fun _=>by kernel_rfl) fun hc y hy=>AN hy (eB c0 A1 s1.2 e.2.2.1 b0 c1 y (CU.below (e0.H.rowsUse (e0.ix 2) (e0.at 2 rfl)) hy) (CU.below hU (e0.B.trans (hy.mono e0.B.size))) d1 (by omega))
  refine AB uz p2 [] fun s2 o1=>?_
  exact AJ o1 (0,0) (.bool (cond (cond (r3 == 0) (IP (r1,r2) e.2.2.2) false) (decide (s1.2=e.2.2.1)) false)) ⟨by rw [hv],o1.B⟩
end
end Go.Proofs.YtkjbdagicjbjjaaGreat
namespace Go.Proofs.YtkjbdagicjbjjaaGreat
noncomputable section
open Go.RowKit
set_option maxRecDepth 100000
set_option maxHeartbeats 1000000
def Kd (ds:List Df) (s:IR) (h:Nat):List Cr→List (List UInt8×Int×Int)→Bool
 | [],_=>true
 | e :: r,bf=>cond (!(Fc ds s h e bf)) false (Kd ds s h r ((e.1,e.2.2.2) :: bf))
def Fy (n:List UInt8) (ds:List Df) (day:Int) (h:Nat) (l:List Cr):Bool:=cond (cond (cond (!(Cd n ds day == 0)) true ((l.length:Int) == 0)) true (!(FG l []))) false (Kd ds (Bi n ds day) h l [])
attribute [local irreducible] A8 BL AC AD AF Ao AY AL Aq Bb Cn BR Dx Cm BK At Fr
noncomputable def Xm:Code:=Tryz.f30.body.getD .skip
def oE:=AA 60 [.code Xm]
def Yz:=Ai 2 (AC oE)
def Om:=AA 60 (AL Yz)
def oD:=AA 60 (AD Om)
def Yy:=AA (Ak (EA) 90 (AF Om)) (AF Om)
def Yx:=AA 60 (AC Yy)
def SB:=AA 60 (Ao Yx)
def oC:=AA (Ak (Aa) 90 (AD SB)) (AD SB)
def oB:=AA 60 (AC (AC oC))
def SA:=AA 60 (AC oB)
def t8:=AA 60 (AD SA)
def ee:=AA (Ak (EN) 90 (AF SA)) (AF SA)
def t7:=AA 60 (AF SB)
theorem MN (a:List UInt8) (i:Option Addr) (ds:List Df) (h:Nat) (day:Int) (b:Nat) (A:Option Addr) (l:List Cr) (c:Nat) (w:World) (e0:rowsDf w i ds) (a0:ds.length≤1000000000) (p0:ds.length≤h) (hs:a.length≤4294967296) (ht:∀ d∈ds,FU d) (l0:∀ d∈ds,DR d.body) (hn:∀ d∈ds,nE d.body≤1000000) (e1:∀ d∈ds,Al d=true→GL b d.body) (hA:rowsSt w A l) (b0:Il l) :
  Calls Tryz.prog 30 ([.agg ⟨[By a,.slice i ds.length h]⟩,AI day,.slice A l.length c]:List Value).toArray w fun e w'=>((Fy a ds day b l)=false∧e=.returned (.tuple #[.agg ⟨CF none 0 0 none 0 0 none none none⟩,.bool false])∧Below w.heap.size w w')∨∃ u s r m p,∃ (sx:List (List UInt8×GV)),(Fy a ds day b l)=true∧e=.returned (.tuple #[.agg ⟨CF i ds.length h u (Ag a ds day).1.length s (some r) (some m) (some p)⟩,.bool true])∧Below w.heap.size w w'∧Ac w.heap.size w' [BN u s (Ag a ds day).1,F2.th r (Bi a ds day).1,FB.th m (Bi a ds day).2.1,EM.th p (sx.map fun q=>(q.1,Ei q.2))]:=by
 refine AR (args:=[.agg ⟨[By a,.slice i ds.length h]⟩,AI day,.slice A l.length c]) (fn:=Tryz.f30) (c:=Xm) (n:=52) ?_
 have hv:(Fy a ds day b l)=cond (cond (cond (!((Cd a ds day) == 0)) true ((l.length:Int) == 0)) true (!(FG l []))) false (Kd ds (Bi a ds day) b l []):=rfl
 have K0:=Wk.start w
 refine Af oE [⟨w.heap.size,0,[By a,.slice i ds.length h],27,true⟩,⟨w.heap.size + 1,0,(CF none 0 0 none 0 0 none none none),72,true⟩] K0 [(0,0)] fun w1 K1=>?_
 refine A7 (args:=[.agg ⟨[By a,.slice i ds.length h]⟩,AI day]) (Nj a i ds h day w w1 e0 K1.B a0 p0 hs ht l0 hn) fun en w2 hh=>?_
 rcases hh with ⟨rfl,z0,m⟩ | ⟨u,s,r,m,p,sx,x0,rfl,t0,k0,bw,Hn⟩
 ·refine ⟨_,rfl,?_⟩
  have K2:=K1.below m
  have hc:(!((Cd a ds day) == 0))=true:=by simpa using z0
  refine Bp 2 Yz [⟨w.heap.size,0,[By a,.slice i ds.length h],27,true⟩,⟨w.heap.size + 1,0,(CF none 0 0 none 0 0 none none none),72,true⟩,⟨w2.heap.size,0,(CF none 0 0 none 0 0 none none none),72,true⟩] K2 [(2,0)] fun w3 o=>?_
  refine Ap o (mem:=[]) [] [⟨9,[(27,.slice A l.length c)],.bool (FG l []),(!(cond (!((Cd a ds day) == 0)) true ((l.length:Int) == 0))) && true⟩] (fun e' i0=>by cases i0) (fun sp g0=>?_) fun w4 E4 f=>?_
  ·rw [List.mem_singleton.1 g0]
   exact AV 43 [.tmp 27] [.slice A l.length c] (fun _=>by kernel_rfl) fun hc y hy=>AN hy (LP A l c y (hA.below (o.B.trans (hy.mono o.B.size))) b0)
  refine AB Om f [] fun w5 K5=>?_
  have n0:(cond (cond (!((Cd a ds day) == 0)) true ((l.length:Int) == 0)) true (!(FG l [])))=true:=by rw [hc]; rfl
  rw [n0] at hv
  refine AG (cond (cond (!((Cd a ds day) == 0)) true ((l.length:Int) == 0)) true (!(FG l []))) (fun _=>?_) (fun h0=>by rw [n0] at h0; cases h0)
  refine AB oD K5 [(1,0)] fun w6 v=>?_
  exact AJ v (1,0) (.tuple #[.agg ⟨CF none 0 0 none 0 0 none none none⟩,.bool false]) (.inl ⟨hv,rfl,v.B⟩)
 refine ⟨_,rfl,?_⟩
 have K2:=K1.join bw Hn
 have v0:=Jm (n:=a) (ds:=ds) (day:=day)
 generalize hws:w2=ws at K2 ⊢
 clear Hn bw
 show At _ _ _ _ (Fr _ (Aq _ _ (.tuple #[.agg ⟨CF i ds.length h u (Ag a ds day).1.length s (some r) (some m) (some p)⟩,AI 0]))) _
 rw [← x0]
 refine Bp 2 Yz [⟨w.heap.size,0,[By a,.slice i ds.length h],27,true⟩,⟨w.heap.size + 1,0,(CF none 0 0 none 0 0 none none none),72,true⟩,⟨ws.heap.size,0,(CF i ds.length h u (Ag a ds day).1.length s (some r) (some m) (some p)),72,true⟩] K2 [(2,0)] fun w3 o=>?_
 refine Ap o (mem:=[]) [] [⟨9,[(27,.slice A l.length c)],.bool (FG l []),(!(cond (!((Cd a ds day) == 0)) true ((l.length:Int) == 0))) && true⟩] (fun e' i0=>by cases i0) (fun sp g0=>?_) fun w4 E4 f=>?_
 ·rw [List.mem_singleton.1 g0]
  exact AV 43 [.tmp 27] [.slice A l.length c] (fun _=>by kernel_rfl) fun hc y hy=>AN hy (LP A l c y (hA.below (o.B.trans (hy.mono o.B.size))) b0)
 refine AB Om f [] fun w5 K5=>?_
 refine AG (cond (cond (!((Cd a ds day) == 0)) true ((l.length:Int) == 0)) true (!(FG l []))) (fun cc=>?_) (fun cc=>?_) <;> rw [cc] at hv
 ·refine AB oD K5 [(1,0)] fun w6 v=>?_
  exact AJ v (1,0) (.tuple #[.agg ⟨CF none 0 0 none 0 0 none none none⟩,.bool false]) (.inl ⟨hv,rfl,v.B⟩)
 replace hv:(Fy a ds day b l)=Kd ds (Bi a ds day) b l []:=hv
 refine Ae EA Yy K5 [] fun w6 v=>?_
 refine Ey Eb v.H (Br Yy) (by kernel_rfl) (t:=79) (by kernel_rfl) fun w7 _ Hn b7=>?_
 have K7:=v.add b7 Hn
 generalize w6.heap.size=bb at K7 ⊢
 refine AB Yx K7 [] fun w8 K8=>?_
 refine AU [(6,BY (w.heap.size + 1)),(8,BY (ws.heap.size)),(10,.map (some bb)),(33,.slice A l.length c),(34,AI (l.length:Int)),(35,AI ((0:Nat):Int))] fun E8=>?_
 refine Bd (by kernel_rfl) (fun E wx=>∃ (j:Nat) (bf:List (List UInt8×Int×Int)) (E0:Nat→Value),j≤l.length∧E=BC E0 [(6,BY (w.heap.size + 1)),(8,BY (ws.heap.size)),(10,.map (some bb)),(33,.slice A l.length c),(34,AI (l.length:Int)),(35,AI (j:Int))]∧(Fy a ds day b l)=Kd ds (Bi a ds day) b (l.drop j) bf∧bf.length≤j∧Wk w wx [⟨w.heap.size,0,[By a,.slice i ds.length h],27,true⟩,⟨w.heap.size + 1,0,(CF none 0 0 none 0 0 none none none),72,true⟩,⟨ws.heap.size,0,(CF i ds.length h u (Ag a ds day).1.length s (some r) (some m) (some p)),72,true⟩] [BN u s (Ag a ds day).1,F2.th r (Bi a ds day).1,FB.th m (Bi a ds day).2.1,EM.th p (sx.map fun q=>(q.1,Ei q.2)),Eb.th bb bf] []) (fun E _=>l.length - AK (E 35)) ⟨0,[],E8,Nat.zero_le _,rfl,by rw [List.drop_zero]; exact hv,Nat.le_refl _,K8⟩ ?_
 clear K8 K7 v K5 f o K2 K1 K0 hv Hn b7 cc
 rintro E wx ⟨j,bf,E0,hj,rfl,hv,k1,K1⟩ j0
 refine AB SB K1 [] fun w2 K2=>?_
 refine AG (decide ((j:Int) < (l.length:Int))) (fun c1=>?_) (fun c1=>?_)
 ·have c0:j < l.length:=by have:=of_decide_eq_true c1; omega
  obtain ⟨e,he⟩:∃ e,l[j]?=some e:=⟨_,List.getElem?_eq_getElem c0⟩
  have h1:l.drop j=e :: l.drop (j + 1):=by
   have he:l[j]=e:=(List.getElem?_eq_some_iff.1 he).2
   rw [← List.getElem_cons_drop c0,he]
  rw [h1,Kd] at hv
  have i1:=b0.1
  obtain ⟨m0,f1,g1⟩:=b0.2 e (List.mem_of_getElem? he)
  obtain ⟨gA,fA,rfl,d1,q0⟩:=hA.all (by omega)
  obtain ⟨A1,d0,w0,hU⟩:=q0 j e he
  refine Ae Aa oC K2 [] fun w3 o=>?_
  refine Au (g:=gA) (off:=fA) (cap:=c) (sz:=5) (k:=j) (len:=l.length) (some 37) c0 Tryz.underlying29 ?_
  refine BI 44 gA (fA + j * 5) (Ch (e,A1,d0)) (some 38) (Ab w0 d1 o.B) ?_
  refine Af oB [⟨w.heap.size,0,[By a,.slice i ds.length h],27,true⟩,⟨w.heap.size + 1,0,(CF none 0 0 none 0 0 none none none),72,true⟩,⟨ws.heap.size,0,(CF i ds.length h u (Ag a ds day).1.length s (some r) (some m) (some p)),72,true⟩,⟨w3.heap.size,0,Ch (e,A1,d0),44,true⟩] o [(3,0),(2,0),(3,0)] fun w4 f=>?_
  have r0:NY w4 r m p (Bi a ds day) sx:=⟨f.H.all (f.ix 1) _ (f.at 1 rfl),f.H.all (f.ix 2) _ (f.at 2 rfl),f.H.all (f.ix 3) _ (f.at 3 rfl),t0,fun q hq=>⟨CU.below (k0 q hq).1 f.B,(k0 q hq).2⟩⟩
  refine AQ f (args:=[.agg ⟨CF i ds.length h u (Ag a ds day).1.length s (some r) (some m) (some p)⟩,.agg ⟨Ch (e,A1,d0)⟩,.map (some bb)]) (Rv i ds h u (Ag a ds day).1.length s r m p bb (Bi a ds day) sx bf e A1 d0 b w4 (e0.below f.B) a0 r0 (f.H.all (f.ix 4) _ (f.at 4 rfl)) hn e1 (fun q hq=>by obtain ⟨x,hx,rfl,s0⟩:=v0 q hq; exact ⟨x,Fm _ hx,rfl,s0⟩) m0 f1 g1 (CU.below hU f.B)) fun w5 K5=>?_
  refine AB SA K5 [] fun w6 v=>?_
  refine AG (!(Fc ds (Bi a ds day) b e bf)) (fun c2=>?_) (fun c2=>?_) <;> rw [c2] at hv
  ·refine AB t8 v [(1,0)] fun w7 K7=>?_
   exact AJ K7 (1,0) (.tuple #[.agg ⟨CF none 0 0 none 0 0 none none none⟩,.bool false]) (.inl ⟨hv,rfl,K7.B⟩)
  replace hv:(Fy a ds day b l)=Kd ds (Bi a ds day) b (l.drop (j + 1)) ((e.1,e.2.2.2) :: bf):=hv
  refine Ae EN ee v [(3,0),(3,3)] fun w7 K7=>?_
  refine Fj Eb K7.H (K7.ix 4) (K7.at 4 rfl) e.1 e.2.2.2 m0 trivial (Br ee) (by kernel_rfl) (t:=79) (x:=.tmp 45) (y:=.tmp 47) (z:=.tmp 49) (by kernel_rfl) rfl (by kernel_rfl) (by kernel_rfl) (by kernel_rfl) (by omega) fun w8 Hn b8=>?_
  have K8:=K7.put 4 (by simp) b8 Hn
  refine AB (AY Yx) K8 [] fun w9 K9=>?_
  refine AU [(6,BY (w.heap.size + 1)),(8,BY (ws.heap.size)),(10,.map (some bb)),(33,.slice (some ⟨gA,fA,none⟩) l.length c),(34,AI (l.length:Int)),(35,AI (IntKind.i64.wrap ((j:Int) + 1)))] fun E9=>?_
  rw [Bc j (by omega)]
  refine j0 _ _ ⟨j + 1,(e.1,e.2.2.2) :: bf,E9,c0,rfl,hv,by rw [List.length_cons]; omega,K9.pk [0,1,2] [0,1,2,3,4]⟩ ?_
  show l.length - AK (AI ((j + 1:Nat):Int)) < l.length - AK (AI (j:Int))
  simp only [AK]
  omega
 ·have a1:j=l.length:=by have:=of_decide_eq_false c1; omega
  rw [a1,List.drop_length,Kd] at hv
  refine Aj t7 K2 [(2,0),(1,0)] fun w3 o=>?_
  refine AJ o (1,0) (.tuple #[.agg ⟨CF i ds.length h u (Ag a ds day).1.length s (some r) (some m) (some p)⟩,.bool true]) (.inr ⟨u,s,r,m,p,sx,hv,rfl,o.B,?_⟩)
  exact o.own0 (L':=[BN u s (Ag a ds day).1,F2.th r (Bi a ds day).1,FB.th m (Bi a ds day).2.1,EM.th p (sx.map fun q=>(q.1,Ei q.2))]) [0,1,2,3] rfl (by decide)
noncomputable def Xk:Code:=Tryz.f14.body.getD .skip
def n8:=AA 60 [.code Xk]
def n7:=AA 60 (AC n8)
theorem IA (a:List UInt8) (h:Option Addr) (ds:List Df) (g:Nat) (day:Int) (f:Nat) (A:Option Addr) (l:List Cr) (c:Nat) (w:World) (k:rowsDf w h ds) (b:ds.length≤1000000000) (j:ds.length≤g) (hs:a.length≤4294967296) (ht:∀ d∈ds,FU d) (i:∀ d∈ds,DR d.body) (hn:∀ d∈ds,nE d.body≤1000000) (q:∀ d∈ds,Al d=true→GL f d.body) (v:rowsSt w A l) (p:Il l) :
  Calls Tryz.prog 14 ([.agg ⟨[By a,.slice h ds.length g]⟩,AI day,.slice A l.length c]:List Value).toArray w fun e w'=>e=.returned (.bool (Fy a ds day f l))∧Below w.heap.size w w':=by
 refine AR (args:=[.agg ⟨[By a,.slice h ds.length g]⟩,AI day,.slice A l.length c]) (fn:=Tryz.f14) (c:=Xk) (n:=17) ?_
 have y:=Wk.start w
 refine Af n8 [⟨w.heap.size,0,[By a,.slice h ds.length g],27,true⟩] y [(0,0)] fun t o=>?_
 refine A7 (args:=[.agg ⟨[By a,.slice h ds.length g]⟩,AI day,.slice A l.length c]) (MN a h ds g day f A l c t (k.below o.B) b j hs ht i hn q (v.below o.B) p) fun en z u=>?_
 rcases u with ⟨hb,rfl,r⟩ | ⟨oA,oc,b1,r,b3,sx,hb,rfl,x,Hn⟩
 ·refine ⟨_,rfl,?_⟩
  refine Aj n7 (o.below r) [(1,0)] fun s m=>?_
  exact AJ m (0,0) (.bool false) ⟨by rw [hb],m.B⟩
 ·refine ⟨_,rfl,?_⟩
  refine Aj n7 (o.below x) [(1,0)] fun s m=>?_
  exact AJ m (0,0) (.bool true) ⟨by rw [hb],m.B⟩
end
end Go.Proofs.YtkjbdagicjbjjaaGreat

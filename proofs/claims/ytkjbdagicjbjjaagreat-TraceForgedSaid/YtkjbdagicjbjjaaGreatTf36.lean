/-
  Part 36 of a proof: contracts of functions.
-/
import Derived.Test.YtkjbdagicjbjjaaGreatTf35
set_option linter.all false
namespace Go.Proofs.YtkjbdagicjbjjaaGreat
noncomputable section
open Go.RowKit
set_option maxRecDepth 100000
set_option maxHeartbeats 1000000
def dY (ins:List (List UInt8×Bool)) (u:DP):Bool:=cond (cond (u.1.1 == 20) true (u.1.1 == 21)) true (cond (u.1.1 == 3) ((AO ins u.1.2.1).getD false) false)
def Hf (ins:List (List UInt8×Bool)):List DP→List (BD×Bool)→List DP→List (BD×Bool)×List DP
 | [],sn,a=>(sn,a)
 | u :: r,sn,a=>cond (cond (dY ins u) (!((AO sn u.1).getD false)) false) (Hf ins r ((u.1,true) :: sn) (a++[u])) (Hf ins r sn a)
def It (ins:List (List UInt8×Bool)):List Cr→List (BD×Bool)→List DP→List DP
 | [],_,a=>a
 | e :: r,sn,a=>It ins r (Hf ins e.2.2.1 sn a).1 (Hf ins e.2.2.1 sn a).2
def HZ (n:List UInt8) (ds:List Df) (day:Int) (h:Nat) (l:List Cr):List DP:=cond (!(Fy n ds day h l)) [] (It (Bi n ds day).1 l [] [])
attribute [local irreducible] A8 BL AC AD AF Ao AY AL Aq Bb Cn BR Dx Cm BK At Fr
noncomputable def YT:Code:=Tryz.f29.body.getD .skip
def qD:=AA 60 [.code YT]
def PB:=AA 60 (AC qD)
def AAt:=AA 60 (AD PB)
def aP:=AA (Ak (EA) 90 (AF PB)) (AF PB)
def aO:=AA 60 (AC aP)
def SW:=AA 60 (Ao aO)
def qC:=AA (Ak (Aa) 90 (AD SW)) (AD SW)
def SV:=AA 60 (AC (AC qC))
def aN:=AA 60 (Ao SV)
def qB:=AA (Ak (Aa) 90 (AD aN)) (AD aN)
def gh:=Ai 12 (AC (AC qB))
def gg:=Ai 13 (AL gh)
def ge:=AA 60 (AL gg)
def UF:=AA 60 (AD ge)
def PA:=AA (Ak (EN) 90 (AC UF)) (AC UF)
def gc:=AA (Ak (BS) 90 (AC PA)) (AC PA)
def vC:=AA 60 (AF SW)
theorem kD (b:List UInt8) (m:Option Addr) (ds:List Df) (h:Nat) (day:Int) (f:Nat) (A:Option Addr) (l:List Cr) (c:Nat) (w:World) (a1:rowsDf w m ds) (k0:ds.length≤1000000000) (x0:ds.length≤h) (hs:b.length≤4294967296) (ht:∀ d∈ds,FU d) (v0:∀ d∈ds,DR d.body) (hn:∀ d∈ds,nE d.body≤1000000) (m1:∀ d∈ds,Al d=true→GL f d.body) (hA:rowsSt w A l) (i0:Il l) :
  Calls Tryz.prog 29 ([.agg ⟨[By b,.slice m ds.length h]⟩,AI day,.slice A l.length c]:List Value).toArray w fun e w'=>∃ rA rc,e=.returned (.slice rA (HZ b ds day f l).length rc)∧Below w.heap.size w w'∧Ac w.heap.size w' [Bs rA rc (HZ b ds day f l)]:=by
 refine AR (args:=[.agg ⟨[By b,.slice m ds.length h]⟩,AI day,.slice A l.length c]) (fn:=Tryz.f29) (c:=YT) (n:=77) ?_
 have hv:(HZ b ds day f l)=cond (!(Fy b ds day f l)) [] (It (Bi b ds day).1 l [] []):=rfl
 have K0:=Wk.start w
 refine Af qD [⟨w.heap.size,0,[By b,.slice m ds.length h],27,true⟩] K0 [(0,0)] fun w1 K1=>?_
 refine A7 (args:=[.agg ⟨[By b,.slice m ds.length h]⟩,AI day,.slice A l.length c]) (MN b m ds h day f A l c w1 (a1.below K1.B) k0 x0 hs ht v0 hn m1 (hA.below K1.B) i0) fun en w2 hh=>?_
 rcases hh with ⟨hb,rfl,s⟩ | ⟨oA,oc,b1,s,b3,sx,hb,rfl,bw,Hn⟩ <;> rw [hb] at hv
 ·refine ⟨_,rfl,?_⟩
  replace hv:(HZ b ds day f l)=[]:=hv
  refine Af PB [⟨w.heap.size,0,[By b,.slice m ds.length h],27,true⟩,⟨w2.heap.size,0,(CF none 0 0 none 0 0 none none none),72,true⟩] (K1.below s) [(1,0)] fun w3 K3=>?_
  refine AG true (fun _=>?_) (fun h0=>by cases h0)
  refine AB AAt K3 [] fun w4 K4=>?_
  refine AJ K4 (0,0) (.slice none 0 0) ⟨none,0,by rw [hv]; rfl,K4.B,?_⟩
  rw [hv]
  exact (K4.own0 (L':=[]) [] rfl (by decide)).addNil 94 7 (fun e r=>r=CQ e)
 refine ⟨_,rfl,?_⟩
 replace hv:(HZ b ds day f l)=It (Bi b ds day).1 l [] []:=hv
 have K2:=K1.join bw Hn
 generalize hws:w2=ws at K2 ⊢
 clear Hn bw
 refine Af PB [⟨w.heap.size,0,[By b,.slice m ds.length h],27,true⟩,⟨ws.heap.size,0,(CF m ds.length h oA (Ag b ds day).1.length oc (some b1) (some s) (some b3)),72,true⟩] K2 [(1,0)] fun w3 K3=>?_
 refine AG false (fun h0=>by cases h0) (fun _=>?_)
 refine Ae EA aP K3 [] fun w4 K4=>?_
 refine Ey Vk K4.H (Br aP) (by kernel_rfl) (t:=115) (by kernel_rfl) fun w5 _ Hn b5=>?_
 have K5:=(K4.add b5 Hn).addNil 94 7 (fun (e:DP) r=>r=CQ e)
 generalize w4.heap.size=mb at K5 ⊢
 refine AB aO K5 [] fun w6 K6=>?_
 replace K6:Wk w w6 [⟨w.heap.size,0,[By b,.slice m ds.length h],27,true⟩,⟨ws.heap.size,0,(CF m ds.length h oA (Ag b ds day).1.length oc (some b1) (some s) (some b3)),72,true⟩] [BN oA oc (Ag b ds day).1,F2.th b1 (Bi b ds day).1,FB.th s (Bi b ds day).2.1,EM.th b3 (sx.map fun q=>(q.1,Ei q.2)),Vk.th mb ([]:List (BD×Bool)),Bs none 0 ([]:List DP)] []:=K6
 refine AU [(7,BY (ws.heap.size)),(9,.slice none ([]:List DP).length 0),(10,.map (some mb)),(26,.slice A l.length c),(27,AI (l.length:Int)),(28,AI ((0:Nat):Int))] fun E6=>?_
 refine Bd (by kernel_rfl) (fun E wx=>∃ (i:Nat) (o:List (BD×Bool)) (a:List DP) (fA:Option Addr) (fc:Nat) (E0:Nat→Value),i≤l.length∧E=BC E0 [(7,BY (ws.heap.size)),(9,.slice fA a.length fc),(10,.map (some mb)),(26,.slice A l.length c),(27,AI (l.length:Int)),(28,AI (i:Int))]∧(HZ b ds day f l)=It (Bi b ds day).1 (l.drop i) o a∧o.length≤i * 10000000∧a.length≤i * 10000000∧Wk w wx [⟨w.heap.size,0,[By b,.slice m ds.length h],27,true⟩,⟨ws.heap.size,0,(CF m ds.length h oA (Ag b ds day).1.length oc (some b1) (some s) (some b3)),72,true⟩] [BN oA oc (Ag b ds day).1,F2.th b1 (Bi b ds day).1,FB.th s (Bi b ds day).2.1,EM.th b3 (sx.map fun q=>(q.1,Ei q.2)),Vk.th mb o,Bs fA fc a] []) (fun E _=>l.length - AK (E 28)) ⟨0,[],[],none,0,E6,Nat.zero_le _,rfl,by rw [List.drop_zero]; exact hv,by simp,by simp,K6⟩ ?_
 clear K6 K5 K4 K3 K2 K1 K0 hv Hn b5
 rintro E wx ⟨i,o,a,qA,qc,E0,hi,rfl,hv,j0,n0,K1⟩ p0
 have h2:=i0.1
 refine AB SW K1 [] fun w2 K2=>?_
 refine AG (decide ((i:Int) < (l.length:Int))) (fun c2=>?_) (fun c2=>?_)
 ·have e0:i < l.length:=by have:=of_decide_eq_true c2; omega
  obtain ⟨e,he⟩:∃ e,l[i]?=some e:=⟨_,List.getElem?_eq_getElem e0⟩
  have p1:l.drop i=e :: l.drop (i + 1):=by
   have he:l[i]=e:=(List.getElem?_eq_some_iff.1 he).2
   rw [← List.getElem_cons_drop e0,he]
  rw [p1,It] at hv
  obtain ⟨i2,n1,w0⟩:=i0.2 e (List.mem_of_getElem? he)
  obtain ⟨gA,fA,rfl,l1,z0⟩:=hA.all (by omega)
  obtain ⟨A1,c1,t0,hU⟩:=z0 i e he
  refine Ae Aa qC K2 [] fun w3 K3=>?_
  refine Au (g:=gA) (off:=fA) (cap:=c) (sz:=5) (k:=i) (len:=l.length) (some 30) e0 Tryz.underlying29 ?_
  refine BI 44 gA (fA + i * 5) (Ch (e,A1,c1)) (some 31) (Ab t0 l1 K3.B) ?_
  refine Af SV [⟨w.heap.size,0,[By b,.slice m ds.length h],27,true⟩,⟨ws.heap.size,0,(CF m ds.length h oA (Ag b ds day).1.length oc (some b1) (some s) (some b3)),72,true⟩,⟨w3.heap.size,0,Ch (e,A1,c1),44,true⟩] K3 [(2,0),(2,2)] fun w4 K4=>?_
  generalize hus:e.2.2.1=us at hv n1 w0 hU
  refine AU [(7,BY (ws.heap.size)),(9,.slice qA a.length qc),(10,.map (some mb)),(26,.slice (some ⟨gA,fA,none⟩) l.length c),(27,AI (l.length:Int)),(28,AI (i:Int)),(33,.slice A1 e.2.2.1.length c1),(34,AI (e.2.2.1.length:Int)),(35,AI ((0:Nat):Int))] fun E4=>?_
  rw [hus]
  refine Bd (by kernel_rfl) (fun E wx=>∃ (j:Nat) (o:List (BD×Bool)) (a:List DP) (qA:Option Addr) (qc:Nat) (E0:Nat→Value),j≤us.length∧E=BC E0 [(7,BY (ws.heap.size)),(9,.slice qA a.length qc),(10,.map (some mb)),(26,.slice (some ⟨gA,fA,none⟩) l.length c),(27,AI (l.length:Int)),(28,AI (i:Int)),(33,.slice A1 us.length c1),(34,AI (us.length:Int)),(35,AI (j:Int))]∧(HZ b ds day f l)=It (Bi b ds day).1 (l.drop (i + 1)) (Hf (Bi b ds day).1 (us.drop j) o a).1 (Hf (Bi b ds day).1 (us.drop j) o a).2∧o.length≤i * 10000000 + j∧a.length≤i * 10000000 + j∧Wk w wx [⟨w.heap.size,0,[By b,.slice m ds.length h],27,true⟩,⟨ws.heap.size,0,(CF m ds.length h oA (Ag b ds day).1.length oc (some b1) (some s) (some b3)),72,true⟩] [BN oA oc (Ag b ds day).1,F2.th b1 (Bi b ds day).1,FB.th s (Bi b ds day).2.1,EM.th b3 (sx.map fun q=>(q.1,Ei q.2)),Vk.th mb o,Bs qA qc a] []) (fun E _=>us.length - AK (E 35)) ⟨0,o,a,qA,qc,E4,Nat.zero_le _,rfl,by rw [List.drop_zero]; exact hv,by rw [Nat.add_zero]; exact j0,by rw [Nat.add_zero]; exact n0,K4.pk [0,1] [0,1,2,3,4,5]⟩ ?_
  clear K1 K2 K3 K4 hv j0 n0 t0 hus
  rintro E wx ⟨j,o,a,qA,qc,E0,hj,rfl,hv,j0,n0,K1⟩ v
  refine AB aN K1 [] fun w6 K6=>?_
  refine AG (decide ((j:Int) < (us.length:Int))) (fun c3=>?_) (fun c3=>?_)
  ·have p:j < us.length:=by have:=of_decide_eq_true c3; omega
   obtain ⟨u,hu⟩:∃ e,us[j]?=some e:=⟨_,List.getElem?_eq_getElem p⟩
   have o1:us.drop j=u :: us.drop (j + 1):=by
    have he:us[j]=u:=(List.getElem?_eq_some_iff.1 hu).2
    rw [← List.getElem_cons_drop p,he]
   rw [o1,Hf] at hv
   have g0:=w0 u (List.mem_of_getElem? hu)
   obtain ⟨gU,fU,rfl,k1,m0⟩:=hU.all (by omega)
   refine Ae Aa qB K6 [] fun w7 K7=>?_
   refine Au (g:=gU) (off:=fU) (cap:=c1) (sz:=7) (k:=j) (len:=us.length) (some 37) p Tryz.underlying42 ?_
   refine BI 94 gU (fU + j * 7) (CQ u) (some 38) (Ab (m0 j u hu) k1 K7.B) ?_
   refine Bp 12 gh [⟨w.heap.size,0,[By b,.slice m ds.length h],27,true⟩,⟨ws.heap.size,0,(CF m ds.length h oA (Ag b ds day).1.length oc (some b1) (some s) (some b3)),72,true⟩,⟨w7.heap.size,0,CQ u,94,true⟩] K7 [(2,0)] fun w8 K8=>?_
   refine Ap K8 (mem:=[⟨w.heap.size,0,[By b,.slice m ds.length h],27,true⟩,⟨ws.heap.size,0,(CF m ds.length h oA (Ag b ds day).1.length oc (some b1) (some s) (some b3)),72,true⟩,⟨w7.heap.size,0,CQ u,94,true⟩]) [(1,2,0),(5,2,0),(10,2,0),(14,1,2),(16,2,1)] [⟨17,[(53,.map (some b1)),(55,By (u.1.2.1))],.bool ((AO (Bi b ds day).1 u.1.2.1).getD false),(u.1.1 == 3) && ((!(cond (u.1.1 == 20) true (u.1.1 == 21))) && true)⟩] (fun e' l0=>K8.G e' l0) (fun sp d0=>?_) fun w9 E9 K9=>?_
   ·rw [List.mem_singleton.1 d0]
    exact BG fun _ E y hy=>Ff F2 (x:=.tmp 53) (y:=.tmp 55) (by kernel_rfl) rfl (by kernel_rfl) u.1.2.1 (by kernel_rfl) g0.2.1 (BT.below (S:=F2) (K8.H.all (K8.ix 1) _ (K8.at 1 rfl)) hy)
   refine Am 13 gg K9 [] fun g2 c0=>?_
   refine Ap c0 (mem:=[⟨w.heap.size,0,[By b,.slice m ds.length h],27,true⟩,⟨ws.heap.size,0,(CF m ds.length h oA (Ag b ds day).1.length oc (some b1) (some s) (some b3)),72,true⟩,⟨w7.heap.size,0,CQ u,94,true⟩]) [(3,2,0)] [⟨4,[(62,.agg ⟨CQ u⟩)],.agg ⟨Dl u.1⟩,(dY (Bi b ds day).1 u) && true⟩,⟨5,[(61,.map (some mb)),(63,.agg ⟨Dl u.1⟩)],.bool ((AO o u.1).getD false),(dY (Bi b ds day).1 u) && true⟩] (fun e' l0=>c0.G e' l0) (fun sp d0=>?_) fun e2 l2 v1=>?_
   ·simp only [List.mem_cons,List.not_mem_nil,or_false] at d0
    rcases d0 with rfl | rfl
    ·exact AV 42 [.tmp 62] [.agg ⟨CQ u⟩] (fun _=>by kernel_rfl) fun hc y hy=>AN hy (GW u y)
    ·exact BG fun _ E y hy=>Ff Vk (x:=.tmp 61) (y:=.tmp 63) (by kernel_rfl) rfl (by kernel_rfl) u.1 (by kernel_rfl) g0 (BT.below (S:=Vk) (c0.H.all (c0.ix 4) _ (c0.at 4 rfl)) hy)
   refine AB ge v1 [] fun d2 d1=>?_
   refine AG (cond (dY (Bi b ds day).1 u) (!((AO o u.1).getD false)) false) (fun c4=>?_) (fun c4=>?_) <;> rw [c4] at hv
   ·replace hv:(HZ b ds day f l)=It (Bi b ds day).1 (l.drop (i + 1)) (Hf (Bi b ds day).1 (us.drop (j + 1)) ((u.1,true) :: o) (a++[u])).1 (Hf (Bi b ds day).1 (us.drop (j + 1)) ((u.1,true) :: o) (a++[u])).2:=hv
    refine AB UF d1 [(2,0)] fun g1 u1=>?_
    refine AQ u1 (args:=[.agg ⟨CQ u⟩]) (GW u g1) fun f1 a0=>?_
    refine Ae EN PA a0 [] fun f1 a0=>?_
    refine Fj Vk a0.H (a0.ix 4) (a0.at 4 rfl) u.1 true g0 trivial (Br PA) (by kernel_rfl) (t:=115) (x:=.tmp 67) (y:=.tmp 69) (z:=.const (.bool true)) (by kernel_rfl) rfl (by kernel_rfl) (by kernel_rfl) (by kernel_rfl) (by omega) fun s0 Hn r1=>?_
    have t1:=a0.put 4 (by simp) r1 Hn
    refine CA BS gc [⟨w.heap.size,0,[By b,.slice m ds.length h],27,true⟩,⟨ws.heap.size,0,(CF m ds.length h oA (Ag b ds day).1.length oc (some b1) (some s) (some b3)),72,true⟩,⟨w7.heap.size,0,CQ u,94,true⟩,⟨s0.heap.size,0,CQ u,94,true⟩] t1 [(2,0)] fun a2 b0=>?_
    refine Cg b0.H (b0.ix 5) (b0.at 5 rfl) u (CQ u) rfl (s0.heap.size) (b0.ent 3 (by kernel_rfl)) (Br gc) (by kernel_rfl) (.tmp 70) (.tmp 72) 42 (by kernel_rfl) (by kernel_rfl) (by kernel_rfl) (by decide) (by kernel_rfl) (by kernel_rfl) rfl rfl (by omega) fun A2 k2 z1 x1 q1=>?_
    have s1:=b0.put 5 (by simp) q1 x1
    refine AB (AY SV) s1 [] fun e1 q0=>?_
    refine AU [(7,BY (ws.heap.size)),(9,.slice A2 (a++[u]).length k2),(10,.map (some mb)),(26,.slice (some ⟨gA,fA,none⟩) l.length c),(27,AI (l.length:Int)),(28,AI (i:Int)),(33,.slice (some ⟨gU,fU,none⟩) us.length c1),(34,AI (us.length:Int)),(35,AI (IntKind.i64.wrap ((j:Int) + 1)))] fun r0=>?_
    rw [Bc j (by omega)]
    refine v _ _ ⟨j + 1,(u.1,true) :: o,a++[u],A2,k2,r0,p,rfl,hv,by rw [List.length_cons]; omega,by rw [List.length_append,List.length_singleton]; omega,q0.pk [0,1] [0,1,2,3,4,5]⟩ ?_
    show us.length - AK (AI ((j + 1:Nat):Int)) < us.length - AK (AI (j:Int))
    simp only [AK]
    omega
   ·replace hv:(HZ b ds day f l)=It (Bi b ds day).1 (l.drop (i + 1)) (Hf (Bi b ds day).1 (us.drop (j + 1)) o a).1 (Hf (Bi b ds day).1 (us.drop (j + 1)) o a).2:=hv
    refine AB (AY SV) d1 [] fun e1 q0=>?_
    refine AU [(7,BY (ws.heap.size)),(9,.slice qA a.length qc),(10,.map (some mb)),(26,.slice (some ⟨gA,fA,none⟩) l.length c),(27,AI (l.length:Int)),(28,AI (i:Int)),(33,.slice (some ⟨gU,fU,none⟩) us.length c1),(34,AI (us.length:Int)),(35,AI (IntKind.i64.wrap ((j:Int) + 1)))] fun r0=>?_
    rw [Bc j (by omega)]
    refine v _ _ ⟨j + 1,o,a,qA,qc,r0,p,rfl,hv,by omega,by omega,q0.pk [0,1] [0,1,2,3,4,5]⟩ ?_
    show us.length - AK (AI ((j + 1:Nat):Int)) < us.length - AK (AI (j:Int))
    simp only [AK]
    omega
  ·have h1:j=us.length:=by have:=of_decide_eq_false c3; omega
   rw [h1,List.drop_length,Hf] at hv
   refine AB (AY aO) K6 [] fun w7 K7=>?_
   refine AU [(7,BY (ws.heap.size)),(9,.slice qA a.length qc),(10,.map (some mb)),(26,.slice (some ⟨gA,fA,none⟩) l.length c),(27,AI (l.length:Int)),(28,AI (IntKind.i64.wrap ((i:Int) + 1)))] fun E7=>?_
   rw [Bc i (by omega)]
   refine p0 _ _ ⟨i + 1,o,a,qA,qc,E7,e0,rfl,hv,by omega,by omega,K7⟩ ?_
   show l.length - AK (AI ((i + 1:Nat):Int)) < l.length - AK (AI (i:Int))
   simp only [AK]
   omega
 ·have i1:i=l.length:=by have:=of_decide_eq_false c2; omega
  rw [i1,List.drop_length,It] at hv
  refine AB vC K2 [] fun w3 K3=>?_
  refine AJ K3 (0,0) (.slice qA a.length qc) ⟨qA,qc,by rw [hv],K3.B,?_⟩
  rw [hv]
  exact K3.own0 (L':=[Bs qA qc a]) [5] rfl (by decide)
end
end Go.Proofs.YtkjbdagicjbjjaaGreat

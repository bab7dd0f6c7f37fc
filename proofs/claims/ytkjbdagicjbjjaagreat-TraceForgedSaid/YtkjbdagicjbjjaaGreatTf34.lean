/-
  Part 34 of a proof: contracts of functions.
-/
import Derived.Test.YtkjbdagicjbjjaaGreatTf33
set_option linter.all false
namespace Go.Proofs.YtkjbdagicjbjjaaGreat
noncomputable section
open Go.RowKit
set_option maxRecDepth 100000
set_option maxHeartbeats 1000000
theorem GW (u:DP) (w:World):Calls Tryz.prog 42 ([.agg ⟨CQ u⟩]:List Value).toArray w fun e w'=>e=.returned (.agg ⟨Dl u.1⟩)∧Below w.heap.size w w':=Wn u.1.1 u.1.2.1 u.1.2.2.1 u.1.2.2.2.1 u.1.2.2.2.2 u.2.1 u.2.2 w
theorem dS (w:World) (u v:DP):(binOp .neq 94 (.agg ⟨CQ u⟩) (.agg ⟨CQ v⟩)).run Tryz.prog w=.ok (.bool (!(decide (u=v)))) w:=by
 obtain ⟨⟨a,b,c,d,e⟩,f,g⟩:=u
 obtain ⟨⟨m,l,k,j,e'⟩,i,h⟩:=v
 have hs:(decide (((a,b,c,d,e),f,g)=((m,l,k,j,e'),i,h)))=(a == m && (decide (b=l) && (c == k && (d == j && (e == e' && (f == i && g == h)))))):=by
  rw [Bool.eq_iff_iff]
  simp only [Prod.mk.injEq,decide_eq_true_eq,Bool.and_eq_true,beq_iff_eq,and_assoc]
 rw [hs]
 show (binOp .neq 94 (.agg #[AI a,By b,AI c,AI d,AI e,AI f,AI g]) (.agg #[AI m,By l,AI k,AI j,AI e',AI i,AI h])).run Tryz.prog w=_
 simp [go_sem]
 repeat' split
 all_goals simp_all
def IP (a b:Int×Int):Bool:=a.1 == b.1 && a.2 == b.2
attribute [local irreducible] A8 BL AC AD AF Ao AY AL Aq Bb Cn BR Dx Cm BK At Fr
noncomputable def X6:Code:=Tryz.f69.body.getD .skip
def ZT:=AA 60 [.code X6]
def zy:=AA 60 (AD ZT)
def ZS:=AA 60 (AF ZT)
def ZR:=AA 60 (Ao ZS)
def o4:=Ai 6 (AD ZR)
def o0:=AA 60 (AL o4)
def zx:=AA 60 (AD o0)
def zw:=AA 60 (AF ZR)
theorem eB (A B:Option Addr) (l k:List DP) (c d:Nat) (w:World) (hA:rowsUse w A l) (hB:rowsUse w B k) (hl:l.length≤4294967296) (hk:k.length≤4294967296) :
  Calls Tryz.prog 69 ([.slice A l.length c,.slice B k.length d]:List Value).toArray w fun e w'=>e=.returned (.bool (decide (l=k)))∧Below w.heap.size w w':=by
 refine AR (args:=[.slice A l.length c,.slice B k.length d]) (fn:=Tryz.f69) (c:=X6) (n:=26) ?_
 have K1:=Wk.start w
 refine AB ZT K1 [] fun w1 s=>?_
 refine AG (!((l.length:Int) == (k.length:Int))) (fun c1=>?_) (fun c1=>?_)
 ·refine AB zy s [] fun w2 g=>?_
  have o:¬ l=k:=fun h=>by rw [h] at c1; simp at c1
  exact AJ g (0,0) (.bool false) ⟨by rw [decide_eq_false o],g.B⟩
 have v:l.length=k.length:=by simp at c1; omega
 refine AB ZS s [] fun w2 g=>?_
 refine AU [(0,.slice A l.length c),(1,.slice B k.length d),(12,AI (l.length:Int)),(13,AI ((0:Nat):Int))] fun E3=>?_
 refine Bd (by kernel_rfl) (fun E wx=>∃ (i:Nat) (E0:Nat→Value),i≤l.length∧E=BC E0 [(0,.slice A l.length c),(1,.slice B k.length d),(12,AI (l.length:Int)),(13,AI (i:Int))]∧(∀ j,j < i→l[j]?=k[j]?)∧Wk w wx [] [] []) (fun E _=>l.length - AK (E 13)) ⟨0,E3,Nat.zero_le _,rfl,fun j hj=>absurd hj (Nat.not_lt_zero _),g⟩ ?_
 clear K1 s g
 rintro E wx ⟨i,E0,hi,rfl,hv,K1⟩ r
 refine AB ZR K1 [] fun w2 s=>?_
 refine AG (decide ((i:Int) < (l.length:Int))) (fun c2=>?_) (fun c2=>?_)
 ·have m:i < l.length:=by have:=of_decide_eq_true c2; omega
  obtain ⟨e,he⟩:∃ e,l[i]?=some e:=⟨_,List.getElem?_eq_getElem m⟩
  obtain ⟨f,hf⟩:∃ e,k[i]?=some e:=⟨_,List.getElem?_eq_getElem (v ▸ m)⟩
  obtain ⟨gA,fA,rfl,a0,q⟩:=hA.all (by omega)
  obtain ⟨gB,fB,rfl,y,p⟩:=hB.all (by omega)
  refine Am 6 o4 s [] fun w3 g=>?_
  refine Fk g (mem:=[⟨gA,fA + i * 7,CQ e,94,false⟩,⟨gB,fB + i * 7,CQ f,94,false⟩]) [0,1,2,3,4,5,6,7,8] [(3,0,0),(7,1,0)] [⟨2,[(16,.slice (some ⟨gA,fA,none⟩) l.length c),(17,AI (i:Int))],.pointer (some ⟨gA,fA + i * 7,none⟩),true⟩,⟨6,[(20,.slice (some ⟨gB,fB,none⟩) k.length d),(21,AI (i:Int))],.pointer (some ⟨gB,fB + i * 7,none⟩),true⟩,⟨8,[(19,.agg ⟨CQ e⟩),(23,.agg ⟨CQ f⟩)],.bool (!(decide (e=f))),true⟩] [] (fun x hx=>?_) (fun sp t=>?_) fun z w4 K4=>?_
  ·simp only [List.mem_cons,List.not_mem_nil,or_false] at hx
   rcases hx with rfl | rfl
   ·exact ⟨Nat.lt_of_lt_of_le a0 g.B.size,Ab (q i e he) a0 g.B⟩
   ·exact ⟨Nat.lt_of_lt_of_le y g.B.size,Ab (p i f hf) y g.B⟩
  ·simp only [List.mem_cons,List.not_mem_nil,or_false] at t
   rcases t with rfl | rfl | rfl
   ·exact BG fun _ E u _=>BZ (sz:=7) (cap:=c) 42 (.tmp 16) (.tmp 17) m Tryz.underlying42
   ·exact BG fun _ E u _=>BZ (sz:=7) (cap:=d) 42 (.tmp 20) (.tmp 21) (v ▸ m) Tryz.underlying42
   ·exact BG fun _ E u _=>Cy (k:=.neq) (T:=94) (a:=.agg ⟨CQ e⟩) (b:=.agg ⟨CQ f⟩) (dS u e f)
  refine AB o0 K4 [] fun w5 K5=>?_
  refine AG (!(decide (e=f))) (fun c3=>?_) (fun c3=>?_)
  ·refine AB zx K5 [] fun w6 K6=>?_
   have o:¬ l=k:=fun h=>by
    rw [h,hf] at he
    have:=Option.some.inj he
    rw [this] at c3
    simp at c3
   exact AJ K6 (0,0) (.bool false) ⟨by rw [decide_eq_false o],K6.B⟩
  ·have c0:e=f:=by simpa using c3
   refine AB (AY ZS) K5 [] fun w6 K6=>?_
   refine AU [(0,.slice (some ⟨gA,fA,none⟩) l.length c),(1,.slice (some ⟨gB,fB,none⟩) k.length d),(12,AI (l.length:Int)),(13,AI (IntKind.i64.wrap ((i:Int) + 1)))] fun E6=>?_
   rw [Bc i (by omega)]
   refine r _ _ ⟨i + 1,E6,m,rfl,fun j hj=>?_,K6.pk [] []⟩ ?_
   ·by_cases hji:j=i
    ·subst hji
     rw [he,hf,c0]
    ·exact hv j (by omega)
   ·show l.length - AK (AI ((i + 1:Nat):Int)) < l.length - AK (AI (i:Int))
    simp only [AK]
    omega
 ·have d0:i=l.length:=by have:=of_decide_eq_false c2; omega
  have b0:l=k:=by
   refine List.ext_getElem? fun j=>?_
   by_cases hj:j < i
   ·exact hv j hj
   ·rw [List.getElem?_eq_none (by omega),List.getElem?_eq_none (by omega)]
  refine AB zw s [] fun w3 g=>?_
  exact AJ g (0,0) (.bool true) ⟨by rw [decide_eq_true b0],g.B⟩
def JU:List DP→List (BD×Int×Int)→Bool×List (BD×Int×Int)
 | [],m=>(true,m)
 | u :: r,m=>cond (cond (AO m u.1).isSome (!(IP ((AO m u.1).getD (0,0)) u.2)) false) (false,m) (JU r ((u.1,u.2) :: m))
def FG:List Cr→List (BD×Int×Int)→Bool
 | [],_=>true
 | e :: r,m=>cond (JU e.2.2.1 m).1 (FG r (JU e.2.2.1 m).2) false
def Il (l:List Cr):Prop:=l.length≤1000∧∀ e∈l,e.1.length≤4294967296∧e.2.2.1.length≤10000000∧∀ u∈e.2.2.1,HP u.1
noncomputable def Qz:Code:=Tryz.f43.body.getD .skip
def ah:=AA (Ak (EA) 90 ([.code Qz])) ([.code Qz])
def ag:=AA 60 (AC ah)
def SY:=AA 60 (Ao ag)
def qY:=AA (Ak (Aa) 90 (AD SY)) (AD SY)
def ae:=AA 60 (AC (AC qY))
def aa:=AA 60 (Ao ae)
def qX:=AA (Ak (Aa) 90 (AD aa)) (AD aa)
def aZ:=AA 60 (AC (AC qX))
def aY:=AA (Ak (Ce) 90 (AC aZ)) (AC aZ)
def qW:=Ai 9 (AC aY)
def Ue:=AA 60 (AL qW)
def vh:=AA 60 (AD Ue)
def im:=Ai 11 (AF Ue)
def vg:=AA 60 (AF SY)
theorem LP (A:Option Addr) (l:List Cr) (c:Nat) (w:World) (hA:rowsSt w A l) (g0:Il l) :
  Calls Tryz.prog 43 ([.slice A l.length c]:List Value).toArray w fun e w'=>e=.returned (.bool (FG l []))∧Below w.heap.size w w':=by
 obtain ⟨hl,m0⟩:=g0
 refine AR (args:=[.slice A l.length c]) (fn:=Tryz.f43) (c:=Qz) (n:=45) ?_
 have K0:=Wk.start w
 refine Ae EA ah K0 [] fun w1 r=>?_
 refine Ey CP r.H (Br ah) (by kernel_rfl) (t:=83) (by kernel_rfl) fun w2 _ Hn b2=>?_
 have K2:=r.add b2 Hn
 generalize w1.heap.size=mb at K2 ⊢
 refine AB ag K2 [] fun w3 q=>?_
 refine AU [(3,.map (some mb)),(11,.slice A l.length c),(12,AI (l.length:Int)),(13,AI ((0:Nat):Int))] fun E3=>?_
 refine Bd (by kernel_rfl) (fun E wx=>∃ (i:Nat) (m:List (BD×Int×Int)) (E0:Nat→Value),i≤l.length∧E=BC E0 [(3,.map (some mb)),(11,.slice A l.length c),(12,AI (l.length:Int)),(13,AI (i:Int))]∧FG l []=FG (l.drop i) m∧m.length≤i * 10000000∧Wk w wx [] [CP.th mb m] []) (fun E _=>l.length - AK (E 13)) ⟨0,[],E3,Nat.zero_le _,rfl,rfl,by simp,q⟩ ?_
 clear K0 r K2 q Hn b2
 rintro E wx ⟨i,m,E0,hi,rfl,hv,hm,r⟩ c0
 refine AB SY r [] fun w2 K2=>?_
 refine AG (decide ((i:Int) < (l.length:Int))) (fun c2=>?_) (fun c2=>?_)
 ·have h:i < l.length:=by have:=of_decide_eq_true c2; omega
  obtain ⟨e,he⟩:∃ e,l[i]?=some e:=⟨_,List.getElem?_eq_getElem h⟩
  have v0:l.drop i=e :: l.drop (i + 1):=by
   have he:l[i]=e:=(List.getElem?_eq_some_iff.1 he).2
   rw [← List.getElem_cons_drop h,he]
  rw [v0,FG] at hv
  obtain ⟨h1,s0,h0⟩:=m0 e (List.mem_of_getElem? he)
  obtain ⟨gA,fA,rfl,r0,i0⟩:=hA.all (by omega)
  obtain ⟨A1,c1,e0,hU⟩:=i0 i e he
  refine Ae Aa qY K2 [] fun w3 q=>?_
  refine Au (g:=gA) (off:=fA) (cap:=c) (sz:=5) (k:=i) (len:=l.length) (some 15) h Tryz.underlying29 ?_
  refine BI 44 gA (fA + i * 5) (Ch (e,A1,c1)) (some 16) (Ab e0 r0 q.B) ?_
  refine Af ae [⟨w3.heap.size,0,Ch (e,A1,c1),44,true⟩] q [(0,0),(0,2)] fun w4 K4=>?_
  generalize hus:e.2.2.1=us at hv s0 h0 hU
  refine AU [(3,.map (some mb)),(11,.slice (some ⟨gA,fA,none⟩) l.length c),(12,AI (l.length:Int)),(13,AI (i:Int)),(18,.slice A1 e.2.2.1.length c1),(19,AI (e.2.2.1.length:Int)),(20,AI ((0:Nat):Int))] fun E4=>?_
  rw [hus]
  refine Bd (by kernel_rfl) (fun E wx=>∃ (j:Nat) (m:List (BD×Int×Int)) (E0:Nat→Value),j≤us.length∧E=BC E0 [(3,.map (some mb)),(11,.slice (some ⟨gA,fA,none⟩) l.length c),(12,AI (l.length:Int)),(13,AI (i:Int)),(18,.slice A1 us.length c1),(19,AI (us.length:Int)),(20,AI (j:Int))]∧FG l []=cond (JU (us.drop j) m).1 (FG (l.drop (i + 1)) (JU (us.drop j) m).2) false∧m.length≤i * 10000000 + j∧Wk w wx [] [CP.th mb m] []) (fun E _=>us.length - AK (E 20)) ⟨0,m,E4,Nat.zero_le _,rfl,by rw [List.drop_zero]; exact hv,by rw [Nat.add_zero]; exact hm,K4.pk [] [0]⟩ ?_
  clear r K2 q K4 hv hm e0 hus
  rintro E wx ⟨j,m,E0,hj,rfl,hv,hm,r⟩ p
  refine AB aa r [] fun w6 K6=>?_
  refine AG (decide ((j:Int) < (us.length:Int))) (fun c3=>?_) (fun c3=>?_)
  ·have d:j < us.length:=by have:=of_decide_eq_true c3; omega
   obtain ⟨u,hu⟩:∃ e,us[j]?=some e:=⟨_,List.getElem?_eq_getElem d⟩
   have t0:us.drop j=u :: us.drop (j + 1):=by
    have he:us[j]=u:=(List.getElem?_eq_some_iff.1 hu).2
    rw [← List.getElem_cons_drop d,he]
   rw [t0,JU] at hv
   have d0:=h0 u (List.mem_of_getElem? hu)
   obtain ⟨gU,fU,rfl,q0,b0⟩:=hU.all (by omega)
   refine Ae Aa qX K6 [] fun w7 K7=>?_
   refine Au (g:=gU) (off:=fU) (cap:=c1) (sz:=7) (k:=j) (len:=us.length) (some 22) d Tryz.underlying42 ?_
   refine BI 94 gU (fU + j * 7) (CQ u) (some 23) (Ab (b0 j u hu) q0 K7.B) ?_
   refine Af aZ [⟨w7.heap.size,0,CQ u,94,true⟩] K7 [(0,0),(0,0)] fun w8 K8=>?_
   refine AQ K8 (args:=[.agg ⟨CQ u⟩]) (GW u w8) fun w9 K9=>?_
   refine Ae Ce aY K9 [] fun w9 K9=>?_
   refine C4 (Dp CP (o:=Br aY) (b:=mb) (m:=m) (x:=.tmp 25) (y:=.tmp 27) (by kernel_rfl) rfl (by kernel_rfl) u.1 (by kernel_rfl) d0 (K9.H.all (K9.ix 0) _ (K9.at 0 rfl))) ?_
   refine Bp 9 qW [⟨w7.heap.size,0,CQ u,94,true⟩,⟨w9.heap.size,0,BP ((AO m u.1).getD CP.z),41,true⟩] K9 [(1,0)] fun g1 k0=>?_
   refine Ap k0 (mem:=[⟨w7.heap.size,0,CQ u,94,true⟩,⟨w9.heap.size,0,BP ((AO m u.1).getD CP.z),41,true⟩]) [(2,1,0),(4,0,5)] [⟨5,[(33,.agg ⟨BP ((AO m u.1).getD CP.z)⟩),(35,.agg ⟨BP u.2⟩)],.bool (!(IP ((AO m u.1).getD (0,0)) u.2)),(AO m u.1).isSome && true⟩] (fun e' a0=>k0.G e' a0) (fun sp s=>?_) fun f1 i1 z0=>?_
   ·rw [List.mem_singleton.1 s]
    exact BG fun _ E w _=>Cy (k:=.neq) (T:=41) (a:=.agg ⟨BP ((AO m u.1).getD CP.z)⟩) (b:=.agg ⟨BP u.2⟩) (PZ w _ _ _ _)
   refine AB Ue z0 [] fun e1 j0=>?_
   refine AG (cond (AO m u.1).isSome (!(IP ((AO m u.1).getD (0,0)) u.2)) false) (fun c4=>?_) (fun c4=>?_) <;> rw [c4] at hv
   ·replace hv:FG l []=false:=hv
    refine AB vh j0 [] fun l0 f=>?_
    exact AJ f (0,0) (.bool false) ⟨by rw [hv],f.B⟩
   ·replace hv:FG l []=cond (JU (us.drop (j + 1)) ((u.1,u.2) :: m)).1 (FG (l.drop (i + 1)) (JU (us.drop (j + 1)) ((u.1,u.2) :: m)).2) false:=hv
    refine Am 11 im j0 [] fun l0 f=>?_
    refine M2 f (mem:=[⟨w7.heap.size,0,CQ u,94,true⟩]) [0,1,2,3,4] [(1,0,0),(4,0,5)] [⟨2,[(39,.agg ⟨CQ u⟩)],.agg ⟨Dl u.1⟩,true⟩] 5 (fun e' a0=>by rw [List.mem_singleton.1 a0]; exact f.ent 0 rfl) (fun sp s=>?_) fun v Kv=>?_
    ·rw [List.mem_singleton.1 s]
     exact AV 42 [.tmp 39] [.agg ⟨CQ u⟩] (fun _=>by kernel_rfl) fun hc x hx=>AN hx (GW u x)
    obtain ⟨v',hx,Hn,b1⟩:=JS CP (ρ:=Ax 45 _) Kv.H (Kv.ix 0) (Kv.at 0 rfl) u.1 u.2 d0 trivial ((AS im).getD 5 default) (t:=83) (x:=.tmp 38) (y:=.tmp 40) (z:=.tmp 42) (by kernel_rfl) rfl (by kernel_rfl) (by kernel_rfl) (by kernel_rfl) (by omega)
    refine ⟨v',hx,?_⟩
    have x0:=Kv.put 0 (by simp) b1 Hn
    refine AB (AY ae) x0 [] fun d1 w0=>?_
    refine AU [(3,.map (some mb)),(11,.slice (some ⟨gA,fA,none⟩) l.length c),(12,AI (l.length:Int)),(13,AI (i:Int)),(18,.slice (some ⟨gU,fU,none⟩) us.length c1),(19,AI (us.length:Int)),(20,AI (IntKind.i64.wrap ((j:Int) + 1)))] fun a1=>?_
    rw [Bc j (by omega)]
    refine p _ _ ⟨j + 1,(u.1,u.2) :: m,a1,d,rfl,hv,by rw [List.length_cons]; omega,w0.pk [] [0]⟩ ?_
    show us.length - AK (AI ((j + 1:Nat):Int)) < us.length - AK (AI (j:Int))
    simp only [AK]
    omega
  ·have n0:j=us.length:=by have:=of_decide_eq_false c3; omega
   rw [n0,List.drop_length,JU] at hv
   refine AB (AY ag) K6 [] fun w7 K7=>?_
   refine AU [(3,.map (some mb)),(11,.slice (some ⟨gA,fA,none⟩) l.length c),(12,AI (l.length:Int)),(13,AI (IntKind.i64.wrap ((i:Int) + 1)))] fun E7=>?_
   rw [Bc i (by omega)]
   refine c0 _ _ ⟨i + 1,m,E7,h,rfl,hv,by omega,K7⟩ ?_
   show l.length - AK (AI ((i + 1:Nat):Int)) < l.length - AK (AI (i:Int))
   simp only [AK]
   omega
 ·have p0:i=l.length:=by have:=of_decide_eq_false c2; omega
  rw [p0,List.drop_length,FG] at hv
  refine AB vg K2 [] fun w3 q=>?_
  exact AJ q (0,0) (.bool true) ⟨by rw [hv],q.B⟩
structure NY (w:World) (b1 b2 b3:Nat) (s:IR) (sx:List (List UInt8×GV)):Prop where
 m1:F2.at b1 s.1 w
 m2:FB.at b2 s.2.1 w
 m3:EM.at b3 (sx.map fun q=>(q.1,Ei q.2)) w
 sxe:(sx.map fun q=>(q.1,q.2.1))=s.2.2
 se:∀ q∈sx,Cb w q.2.2.1 q.2.1∧q.2.1.length≤4294967296
theorem NY.below {w w':World} {e d c:Nat} {s:IR} {a:List (List UInt8×GV)} (h:NY w e d c s a) (B:Below w.heap.size w w'):NY w' e d c s a:=
 ⟨BT.below (S:=F2) h.m1 B,BT.below (S:=FB) h.m2 B,BT.below (S:=EM) h.m3 B,h.sxe,fun q b=>⟨CU.below (h.se q b).1 B,(h.se q b).2⟩⟩
def KM (s:IR) (u:DP) (bf:List (List UInt8×Int×Int)):Bool:=
 cond (!(Ad u.2.1 u.2.2)) false
 (cond (u.1.1 == 3) (cond (cond (!(AO s.2.1 u.1.2.1).isSome) true ((AO s.1 u.1.2.1).getD false)) true (cond (AO bf u.1.2.1).isSome (IP ((AO bf u.1.2.1).getD (0,0)) u.2) false))
 (cond (u.1.1 == 4) (cond (cond (!(AO s.2.2 u.1.2.1).isSome) true (!(Ad u.1.2.2.2.1 u.1.2.2.2.2))) false
  (cond ((EK ((AO s.2.2 u.1.2.1).getD []) u.1.2.2.2.1 u.1.2.2.2.2).2.2 == 0) (IP ((EK ((AO s.2.2 u.1.2.1).getD []) u.1.2.2.2.1 u.1.2.2.2.2).1,(EK ((AO s.2.2 u.1.2.1).getD []) u.1.2.2.2.1 u.1.2.2.2.2).2.1) u.2) false)) true))
noncomputable def X2:Code:=Tryz.f68.body.getD .skip
def oo:=AA 60 [.code X2]
def ZI:=AA 60 (AC oo)
def zq:=AA 60 (AD ZI)
def SN:=AA 60 (AF ZI)
def ZH:=AA (Ak (Ce) 90 (AD SN)) (AD SN)
def om:=Ai 6 (AC ZH)
def SM:=AA 60 (AL om)
def zp:=AA 60 (AD SM)
def ZG:=AA (Ak (Ce) 90 (AF SM)) (AF SM)
def ol:=Ai 9 (AC ZG)
def uZ:=AA 60 (AL ol)
def Ou:=AA 60 (AF SN)
def TO:=AA (Ak (Ce) 90 (AD Ou)) (AD Ou)
def fJ:=Ai 12 (AC TO)
def TN:=AA 60 (AL fJ)
def uY:=AA 60 (AD TN)
def fI:=AA 60 (AF TN)
def fH:=Ai 15 (AC fI)
def uX:=AA 60 (AL fH)
def uW:=AA 60 (AF Ou)
theorem Rp (dA:Option Addr) (dn dc:Nat) (oA:Option Addr) (on oc b1 b2 b3 bb:Nat) (s:IR) (sx:List (List UInt8×GV)) (bf:List (List UInt8×Int×Int)) (u:DP) (w:World) (hS:NY w b1 b2 b3 s sx) (hbf:Eb.at bb bf w) (hu:HP u.1) :
  Calls Tryz.prog 68 ([.agg ⟨CF dA dn dc oA on oc (some b1) (some b2) (some b3)⟩,.agg ⟨CQ u⟩,.map (some bb)]:List Value).toArray w fun e w'=>e=.returned (.bool (KM s u bf))∧Below w.heap.size w w':=by
 refine AR (args:=[.agg ⟨CF dA dn dc oA on oc (some b1) (some b2) (some b3)⟩,.agg ⟨CQ u⟩,.map (some bb)]) (fn:=Tryz.f68) (c:=X2) (n:=87) ?_
 have hnl:=hu.2.1
 have K0:=Wk.start w
 refine Af oo [⟨w.heap.size,0,(CF dA dn dc oA on oc (some b1) (some b2) (some b3)),72,true⟩,⟨w.heap.size + 1,0,CQ u,94,true⟩] K0 [(1,5)] fun w1 K1=>?_
 refine AQ K1 (args:=[.agg ⟨[AI u.2.1,AI u.2.2]⟩]) (Bh u.2.1 u.2.2 w1) fun w2 K2=>?_
 refine AB ZI K2 [] fun w3 K3=>?_
 have hv:KM s u bf=cond (!(Ad u.2.1 u.2.2)) false
  (cond (u.1.1 == 3) (cond (cond (!(AO s.2.1 u.1.2.1).isSome) true ((AO s.1 u.1.2.1).getD false)) true (cond (AO bf u.1.2.1).isSome (IP ((AO bf u.1.2.1).getD (0,0)) u.2) false))
  (cond (u.1.1 == 4) (cond (cond (!(AO s.2.2 u.1.2.1).isSome) true (!(Ad u.1.2.2.2.1 u.1.2.2.2.2))) false
   (cond ((EK ((AO s.2.2 u.1.2.1).getD []) u.1.2.2.2.1 u.1.2.2.2.2).2.2 == 0) (IP ((EK ((AO s.2.2 u.1.2.1).getD []) u.1.2.2.2.1 u.1.2.2.2.2).1,(EK ((AO s.2.2 u.1.2.1).getD []) u.1.2.2.2.1 u.1.2.2.2.2).2.1) u.2) false)) true)):=rfl
 refine AG (!(Ad u.2.1 u.2.2)) (fun c1=>?_) (fun c1=>?_) <;> rw [c1] at hv
 ·refine AB zq K3 [] fun w4 K4=>?_
  exact AJ K4 (0,0) (.bool false) ⟨by rw [hv]; rfl,K4.B⟩
 refine AB SN K3 [(1,0)] fun w4 K4=>?_
 refine AG (u.1.1 == 3) (fun c2=>?_) (fun c2=>?_) <;> rw [c2] at hv
 ·refine Ae Ce ZH K4 [(0,3),(1,1)] fun w5 K5=>?_
  refine C4 (Dp FB (o:=Br ZH) (b:=b2) (m:=s.2.1) (x:=.tmp 25) (y:=.tmp 27) (by kernel_rfl) rfl (by kernel_rfl) u.1.2.1 (by kernel_rfl) hnl (BT.below (S:=FB) hS.m2 K5.B)) ?_
  refine Am 6 om K5 [] fun w6 K6=>?_
  refine Ap K6 (mem:=[⟨w.heap.size,0,(CF dA dn dc oA on oc (some b1) (some b2) (some b3)),72,true⟩,⟨w.heap.size + 1,0,CQ u,94,true⟩]) [(4,0,2),(6,1,1)] [⟨7,[(35,.map (some b1)),(37,.string ⟨⟨u.1.2.1⟩⟩)],.bool ((AO s.1 u.1.2.1).getD false),(!(!(AO s.2.1 u.1.2.1).isSome)) && true⟩] (fun e' he'=>K6.G e' he') (fun sp hsp=>?_) fun w7 E7 K7=>?_
  ·rw [List.mem_singleton.1 hsp]
   exact BG fun _ E x hx=>Ff F2 (x:=.tmp 35) (y:=.tmp 37) (by kernel_rfl) rfl (by kernel_rfl) u.1.2.1 (by kernel_rfl) hnl (BT.below (S:=F2) hS.m1 (K6.B.trans (hx.mono K6.B.size)))
  refine AB SM K7 [] fun w8 K8=>?_
  refine AG (cond (!(AO s.2.1 u.1.2.1).isSome) true ((AO s.1 u.1.2.1).getD false)) (fun c3=>?_) (fun c3=>?_) <;> rw [c3] at hv
  ·refine AB zp K8 [] fun w9 K9=>?_
   exact AJ K9 (0,0) (.bool true) ⟨by rw [hv]; rfl,K9.B⟩
  refine Ae Ce ZG K8 [(1,1)] fun wq K9=>?_
  refine C4 (Dp Eb (o:=Br ZG) (b:=bb) (m:=bf) (x:=.tmp 41) (y:=.tmp 43) (by kernel_rfl) rfl (by kernel_rfl) u.1.2.1 (by kernel_rfl) hnl (BT.below (S:=Eb) hbf K9.B)) ?_
  refine Bp 9 ol [⟨w.heap.size,0,(CF dA dn dc oA on oc (some b1) (some b2) (some b3)),72,true⟩,⟨w.heap.size + 1,0,CQ u,94,true⟩,⟨wq.heap.size,0,BP ((AO bf u.1.2.1).getD Eb.z),41,true⟩] K9 [(2,0)] fun w10 K10=>?_
  refine Ap K10 (mem:=[⟨w.heap.size,0,(CF dA dn dc oA on oc (some b1) (some b2) (some b3)),72,true⟩,⟨w.heap.size + 1,0,CQ u,94,true⟩,⟨wq.heap.size,0,BP ((AO bf u.1.2.1).getD Eb.z),41,true⟩]) [(2,2,0),(4,1,5)] [⟨5,[(49,.agg ⟨BP ((AO bf u.1.2.1).getD Eb.z)⟩),(51,.agg ⟨BP u.2⟩)],.bool (IP ((AO bf u.1.2.1).getD (0,0)) u.2),(AO bf u.1.2.1).isSome && true⟩] (fun e' he'=>K10.G e' he') (fun sp hsp=>?_) fun w11 E11 K11=>?_
  ·rw [List.mem_singleton.1 hsp]
   exact BG fun _ E x _=>Cy (k:=.eql) (T:=41) (a:=.agg ⟨BP ((AO bf u.1.2.1).getD Eb.z)⟩) (b:=.agg ⟨BP u.2⟩) (Ej x _ _ _ _)
  refine AB uZ K11 [] fun w12 K12=>?_
  exact AJ K12 (0,0) (.bool (cond (AO bf u.1.2.1).isSome (IP ((AO bf u.1.2.1).getD (0,0)) u.2) false)) ⟨by rw [hv]; rfl,K12.B⟩
 refine AB Ou K4 [] fun w5 K5=>?_
 refine AG (u.1.1 == 4) (fun c3=>?_) (fun c3=>?_) <;> rw [c3] at hv
 ·have hlk:(AO (sx.map fun q=>(q.1,Ei q.2)) u.1.2.1).isSome=(AO s.2.2 u.1.2.1).isSome:=by rw [← hS.sxe,Ec,Ec,Option.isSome_map,Option.isSome_map]
  refine Ae Ce TO K5 [(0,4),(1,1)] fun w6 K6=>?_
  refine C4 (v:=.tuple #[EM.ev ((AO (sx.map (fun q:List UInt8×GV=>(q.1,Ei q.2))) u.1.2.1).getD EM.z),.bool (AO s.2.2 u.1.2.1).isSome]) (by rw [← hlk]; exact Dp EM (o:=Br TO) (b:=b3) (m:=sx.map (fun q:List UInt8×GV=>(q.1,Ei q.2))) (x:=.tmp 58) (y:=.tmp 60) (by kernel_rfl) rfl (by kernel_rfl) u.1.2.1 (by kernel_rfl) hnl (BT.below (S:=EM) hS.m3 K6.B)) ?_
  refine Am 12 fJ K6 [] fun w7 K7=>?_
  refine Ap K7 (mem:=[⟨w.heap.size,0,(CF dA dn dc oA on oc (some b1) (some b2) (some b3)),72,true⟩,⟨w.heap.size + 1,0,CQ u,94,true⟩]) [(4,1,3)] [⟨5,[(68,.agg ⟨[AI u.1.2.2.2.1,AI u.1.2.2.2.2]⟩)],.bool (Ad u.1.2.2.2.1 u.1.2.2.2.2),(!(!(AO s.2.2 u.1.2.1).isSome)) && true⟩] (fun e' he'=>K7.G e' he') (fun sp hsp=>?_) fun w8 E8 K8=>?_
  ·rw [List.mem_singleton.1 hsp]
   exact AV 63 [.tmp 68] [.agg ⟨[AI u.1.2.2.2.1,AI u.1.2.2.2.2]⟩] (fun _=>by kernel_rfl) fun hc x hx=>AN hx (Bh u.1.2.2.2.1 u.1.2.2.2.2 x)
  refine AB TN K8 [] fun w9 K9=>?_
  refine AG (cond (!(AO s.2.2 u.1.2.1).isSome) true (!(Ad u.1.2.2.2.1 u.1.2.2.2.2))) (fun c4=>?_) (fun c4=>?_)
  ·rw [c4] at hv
   refine AB uY K9 [] fun w10 K10=>?_
   exact AJ K10 (0,0) (.bool false) ⟨by rw [hv]; rfl,K10.B⟩
  rw [c4] at hv
  have hsm:(AO sx u.1.2.1).isSome=true:=by
   cases h0:(AO s.2.2 u.1.2.1).isSome
   ·rw [h0] at c4; cases c4
   ·rw [← hlk,Ec,Option.isSome_map] at h0; exact h0
  obtain ⟨v,hvx⟩:=Option.isSome_iff_exists.1 hsm
  have hrow:=hS.se _ (FI hvx)
  have h22:(AO s.2.2 u.1.2.1)=some v.1:=by rw [← hS.sxe,Ec,hvx]; rfl
  rw [h22] at hv
  replace hv:KM s u bf=cond ((EK v.1 u.1.2.2.2.1 u.1.2.2.2.2).2.2 == 0) (IP ((EK v.1 u.1.2.2.2.1 u.1.2.2.2.2).1,(EK v.1 u.1.2.2.2.1 u.1.2.2.2.2).2.1) u.2) false:=hv
  rw [Ec,hvx,h22]
  refine AB fI K9 [(1,3)] fun w10 K10=>?_
  refine AQ K10 (args:=[.slice v.2.1 v.1.length v.2.2,.agg ⟨[AI u.1.2.2.2.1,AI u.1.2.2.2.2]⟩]) (Nm v.2.1 v.2.2 v.1 u.1.2.2.2.1 u.1.2.2.2.2 w10 (CU.below hrow.1 K10.B) hrow.2) fun w11 K11=>?_
  generalize (EK v.1 u.1.2.2.2.1 u.1.2.2.2.2)=q at hv K11 ⊢
  refine Bp 15 fH [⟨w.heap.size,0,(CF dA dn dc oA on oc (some b1) (some b2) (some b3)),72,true⟩,⟨w.heap.size + 1,0,CQ u,94,true⟩,⟨w11.heap.size,0,BP (q.1,q.2.1),41,true⟩] K11 [(2,0)] fun w12 K12=>?_
  refine Ap K12 (mem:=[⟨w.heap.size,0,(CF dA dn dc oA on oc (some b1) (some b2) (some b3)),72,true⟩,⟨w.heap.size + 1,0,CQ u,94,true⟩,⟨w11.heap.size,0,BP (q.1,q.2.1),41,true⟩]) [(3,2,0),(5,1,5)] [⟨6,[(82,.agg ⟨BP (q.1,q.2.1)⟩),(84,.agg ⟨BP u.2⟩)],.bool (IP (q.1,q.2.1) u.2),(q.2.2 == 0) && true⟩] (fun e' he'=>K12.G e' he') (fun sp hsp=>?_) fun w13 E13 K13=>?_
  ·rw [List.mem_singleton.1 hsp]
   exact BG fun _ E x _=>Cy (k:=.eql) (T:=41) (a:=.agg ⟨BP (q.1,q.2.1)⟩) (b:=.agg ⟨BP u.2⟩) (Ej x _ _ _ _)
  refine AB uX K13 [] fun w14 K14=>?_
  exact AJ K14 (0,0) (.bool (cond (q.2.2 == 0) (IP (q.1,q.2.1) u.2) false)) ⟨by rw [hv],K14.B⟩
 ·refine AB uW K5 [] fun w6 K6=>?_
  exact AJ K6 (0,0) (.bool true) ⟨by rw [hv]; rfl,K6.B⟩
end
end Go.Proofs.YtkjbdagicjbjjaaGreat

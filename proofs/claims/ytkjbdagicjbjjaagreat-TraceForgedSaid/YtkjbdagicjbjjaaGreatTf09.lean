/-
  Part 9 of a proof: contracts of functions.
-/
import Derived.Test.YtkjbdagicjbjjaaGreatTf08
set_option linter.all false
namespace Go.Proofs.YtkjbdagicjbjjaaGreat
noncomputable section
open Go.RowKit
set_option maxRecDepth 100000
set_option maxHeartbeats 1000000
attribute [local irreducible] A8 BL AC AD AF Ao AY AL Aq Bb Cn BK At Fr
def GI (p1:List UInt8):List (Df)→Int→Bool×Int×Int×Int×Int
 | [],a0_0=>(false,0,0,0,7)
 | e0 :: tl,a0_0=>cond (!(decide (e0.name=p1))) (GI p1 tl a0_0) (cond (e0.kind == 4) ((false,1,0,0,0)) ((e0.tb,e0.tm,e0.th,e0.td,0)))
theorem Vy {p1:List UInt8} {a:Int}:GI p1 [] a=((false,0,0,0,7)):=by rw [GI]
theorem Rz {p1:List UInt8} {b:Int} {es:List (Df)} (i:Nat) (a:Df) (hi:es[i]?=some a):GI p1 (es.drop i) b=(cond (!(decide (a.name=p1))) (GI p1 (es.drop (i + 1)) b) (cond (a.kind == 4) ((false,1,0,0,0)) ((a.tb,a.tm,a.th,a.td,0)))):=by
 have hl:i < es.length:=(List.getElem?_eq_some_iff.1 hi).1
 have he:es[i]=a:=(List.getElem?_eq_some_iff.1 hi).2
 rw [← List.getElem_cons_drop hl,GI] <;> (try rw [he])
def Cp (ds:List (Df)) (p1:List UInt8):Bool×Int×Int×Int×Int:=GI p1 ds 0
def P6 (r:Bool×Int×Int×Int×Int):Value:=.tuple #[.agg ⟨[.bool (r.1),AI (r.2.1),AI (r.2.2.1),AI (r.2.2.2.1)]⟩,AI (r.2.2.2.2)]
noncomputable def kh:Code:=Tryz.f125.body.getD .skip
def mC:=AA 60 ([.code kh])
def bU:=AA 60 (Ao mC)
def wY:=AA (Ak Aa 90 (AD bU)) (AD bU)
def wX:=Ai 4 (AC (AC wY))
def wW:=AA 60 (AL wX)
def mB:=AA 60 (AF wW)
def ACp:=AA 60 (AD mB)
def ACo:=AA 60 (AF mB)
def ACn:=AA 60 (AF bU)
theorem Lz (q:Option Addr) (ds:List (Df)) (h:Nat) (p1:List UInt8) (w:World) (d0:rowsDf w q ds) (m0:ds.length≤4294967296):Calls Tryz.prog 125 ([.slice q ds.length h,By p1]:List Value).toArray w fun e w'=>e=.returned (P6 (Cp ds p1))∧Below w.heap.size w w':=by
 refine AR (fn:=Tryz.f125) (c:=kh) (n:=27) ?_
 have K1:=Wk.start w
 refine Aj mC K1 [] fun w1 K2=>?_
 have K3:Wk w w1 [⟨w.heap.size,0,[.bool false,AI 0,AI 0,AI 0],56,true⟩] [] []:=K2.pk [0] []
 have b:(Cp ds p1)=GI p1 ds 0:=by unfold Cp; rfl
 refine AU [(1,By p1),(4,BY (w.heap.size)),(5,AI 0),(8,.slice q ds.length h),(9,AI ((ds.length:Int))),(10,AI (((0:Nat):Int)))] fun E2=>?_
 refine Bd (by kernel_rfl) (fun E z=>∃ (d:Nat) (f:Int) (E0:Nat→Value),d≤ds.length∧E=BC E0 [(1,By p1),(4,BY (w.heap.size)),(5,AI f),(8,.slice q ds.length h),(9,AI ((ds.length:Int))),(10,AI ((d:Int)))]∧(Cp ds p1)=GI p1 (List.drop d ds) f∧Wk w z [⟨w.heap.size,0,[.bool false,AI 0,AI 0,AI 0],56,true⟩] [] []) (fun E _=>ds.length - AK (E 10)) ⟨0,0,E2,Nat.zero_le _,rfl,b,K3⟩ ?_
 clear b
 rintro E z ⟨d,f,E0,c1,rfl,b,K4⟩ j
 refine AB bU K4 [] fun w4 K5=>?_
 refine AG (decide ((d:Int) < (ds.length:Int))) (fun c5=>?_) (fun c5=>?_)
 ·have i:d < ds.length:=by have:=of_decide_eq_true c5; omega
  obtain ⟨a,c0⟩:∃ e,ds[d]?=some e:=⟨_,List.getElem?_eq_getElem i⟩
  rw [Rz d a c0] at b
  obtain ⟨s,t,rfl,g0,h0⟩:=d0.all (by omega)
  obtain ⟨p,m,o,l,a0,p0,n0⟩:=h0 d _ c0
  refine Ae Aa wY K5 [] fun w6 K6=>?_
  refine Au (g:=s) (off:=t) (cap:=h) (sz:=21) (k:=d) (len:=ds.length) (some 12) i Tryz.underlying25 ?_
  refine BI 59 s (t + d * 21) [AI a.kind,By (a.name),.bool (a.tb),AI a.tm,AI a.th,AI a.td,AI a.frm,.slice p a.ents.length m,AI a.body.op,AI a.body.num,AI a.body.den,AI a.body.mu,AI a.body.hu,AI a.body.du,By (a.body.nm),AI a.body.cnt,AI a.body.md,.slice o a.body.ks.length l,AI a.mode,AI a.num,AI a.den] (some 13) (Ab a0 g0 K6.B) ?_
  refine Bp 4 wX [⟨w.heap.size,0,[.bool false,AI 0,AI 0,AI 0],56,true⟩,⟨w6.heap.size,0,(Be a p m o l),59,true⟩] K6 [(1,0)] fun w7 K7=>?_
  refine Ap K7 [(1,1,1)] [⟨3,[(15,By (a.name)),(16,By p1)],.bool (!(decide (a.name=p1))),true⟩] K7.G (fun sp l0=>?_) fun w8 E8 K8=>?_
  ·rw [List.mem_singleton.1 l0]
   exact BG fun _ E u _=>Mr (T:=9) (T':=9) (x:=.tmp 15) (y:=.tmp 16) (by kernel_rfl) (by kernel_rfl) (by kernel_rfl)
  refine AB wW K8 [] fun w9 K9=>?_
  refine AG (!(decide (a.name=p1))) (fun r=>?_) (fun r=>?_)
  ·refine AB (AY mC) K9 [] fun k0 v0=>?_
   refine AU [(1,By p1),(4,BY (w.heap.size)),(5,AI f),(8,.slice (some ⟨s,t,none⟩) ds.length h),(9,AI ((ds.length:Int))),(10,AI (IntKind.i64.wrap ((d:Int) + 1)))] fun w0=>?_
   have t0:Wk w k0 [⟨w.heap.size,0,[.bool false,AI 0,AI 0,AI 0],56,true⟩] [] []:=v0.pk [0] []
   rw [Bc d (by omega)]
   refine j _ _ ⟨d + 1,f,w0,i,rfl,by rw [b,r] <;> rfl,t0⟩ ?_
   show ds.length - AK (AI ((d + 1:Nat):Int)) < ds.length - AK (AI (d:Int))
   simp only [AK]
   omega
  ·refine AB mB K9 [(1,0)] fun b1 j0=>?_
   refine AG (a.kind == 4) (fun v=>?_) (fun v=>?_)
   ·refine Aj ACp j0 [(0,0)] fun a1 s0=>?_
    exact AP s0 (0,0) (.tuple #[.agg ⟨[.bool false,AI 1,AI 0,AI 0]⟩,AI 0]) (by rw [b,r,v] <;> rfl)
   ·refine Aj ACo j0 [(1,2),(0,0)] fun z0 r0=>?_
    exact AP r0 (0,0) (.tuple #[.agg ⟨[.bool (a.tb),AI a.tm,AI a.th,AI a.td]⟩,AI 0]) (by rw [b,r,v] <;> rfl)
 ·have b0:d=ds.length:=by have:=of_decide_eq_false c5; omega
  rw [b0,List.drop_length,Vy] at b
  refine AB ACn K5 [(0,0)] fun x0 q0=>?_
  exact AP q0 (0,0) (.tuple #[.agg ⟨[.bool false,AI 0,AI 0,AI 0]⟩,AI 7]) (by rw [b] <;> rfl)
def EX:List (Bool×Int×Int×Int)→Int→Int
 | [],a0_0=>0
 | e0 :: tl,a0_0=>cond (e0.1) (9) (EX tl a0_0)
theorem Pn {a:Int}:EX [] a=(0):=by rw [EX]
theorem OC {a:Int} {es:List (Bool×Int×Int×Int)} (i:Nat) (b:Bool×Int×Int×Int) (hi:es[i]?=some b):EX (es.drop i) a=(cond (b.1) (9) (EX (es.drop (i + 1)) a)):=by
 have hl:i < es.length:=(List.getElem?_eq_some_iff.1 hi).1
 have he:es[i]=b:=(List.getElem?_eq_some_iff.1 hi).2
 rw [← List.getElem_cons_drop hl,EX] <;> (try rw [he])
def CC (ts:List (Bool×Int×Int×Int)):Int:=EX ts 0
noncomputable def ke:Code:=Tryz.f132.body.getD .skip
def l8:=AA 60 ([.code ke])
def bT:=AA 60 (Ao l8)
def wT:=AA (Ak Aa 90 (AD bT)) (AD bT)
def wS:=AA 60 (AC (AC wT))
def ACi:=AA 60 (AD wS)
def ACh:=AA 60 (AF bT)
theorem Nl (j:Option Addr) (ts:List (Bool×Int×Int×Int)) (f:Nat) (w:World) (t:jg w j ts) (y:ts.length≤4294967296):Calls Tryz.prog 132 ([.slice j ts.length f]:List Value).toArray w fun e w'=>e=.returned (AI (CC ts))∧Below w.heap.size w w':=by
 refine AR (fn:=Tryz.f132) (c:=ke) (n:=14) ?_
 have K1:=Wk.start w
 refine AB l8 K1 [] fun w1 K2=>?_
 have K3:Wk w w1 [] [] []:=K2.pk [] []
 have b:(CC ts)=EX ts 0:=by unfold CC; rfl
 refine AU [(2,AI 0),(5,.slice j ts.length f),(6,AI ((ts.length:Int))),(7,AI (((0:Nat):Int)))] fun E2=>?_
 refine Bd (by kernel_rfl) (fun E p=>∃ (a:Nat) (d:Int) (E0:Nat→Value),a≤ts.length∧E=BC E0 [(2,AI d),(5,.slice j ts.length f),(6,AI ((ts.length:Int))),(7,AI ((a:Int)))]∧(CC ts)=EX (List.drop a ts) d∧Wk w p [] [] []) (fun E _=>ts.length - AK (E 7)) ⟨0,0,E2,Nat.zero_le _,rfl,b,K3⟩ ?_
 clear b
 rintro E p ⟨a,d,E0,g0,rfl,b,K4⟩ i
 refine AB bT K4 [] fun w4 K5=>?_
 refine AG (decide ((a:Int) < (ts.length:Int))) (fun c5=>?_) (fun c5=>?_)
 ·have h:a < ts.length:=by have:=of_decide_eq_true c5; omega
  obtain ⟨o,s⟩:∃ e,ts[a]?=some e:=⟨_,List.getElem?_eq_getElem h⟩
  rw [OC a o s] at b
  obtain ⟨l,m,rfl,u,v⟩:=t.all (by omega)
  have q:=v a _ s
  refine Ae Aa wT K5 [] fun w6 K6=>?_
  refine Au (g:=l) (off:=m) (cap:=f) (sz:=4) (k:=a) (len:=ts.length) (some 9) h Tryz.underlying66 ?_
  refine BI 56 l (m + a * 4) [.bool (o.1),AI o.2.1,AI o.2.2.1,AI o.2.2.2] (some 10) (Ab q u K6.B) ?_
  refine Aj wS K6 [(0,0),(0,0)] fun w7 K7=>?_
  refine AG (o.1) (fun z=>?_) (fun z=>?_)
  ·refine AB ACi K7 [] fun w9 K8=>?_
   exact AP K8 (0,0) (AI 9) (by rw [b,z] <;> rfl)
  ·refine AB (AY l8) K7 [] fun x K9=>?_
   refine AU [(2,AI d),(5,.slice (some ⟨l,m,none⟩) ts.length f),(6,AI ((ts.length:Int))),(7,AI (IntKind.i64.wrap ((a:Int) + 1)))] fun c0=>?_
   have b0:Wk w x [] [] []:=K9.pk [] []
   rw [Bc a (by omega)]
   refine i _ _ ⟨a + 1,d,c0,h,rfl,by rw [b,z] <;> rfl,b0⟩ ?_
   show ts.length - AK (AI ((a + 1:Nat):Int)) < ts.length - AK (AI (a:Int))
   simp only [AK]
   omega
 ·have r:a=ts.length:=by have:=of_decide_eq_false c5; omega
  rw [r,List.drop_length,Pn] at b
  refine AB ACh K5 [] fun d0 a0=>?_
  exact AP a0 (0,0) (AI 0) (by rw [b] <;> rfl)
def Fh:List (Bool×Int×Int×Int)→Int→Int
 | [],a0_0=>0
 | e0 :: tl,a0_0=>cond (!(e0.1)) (9) (Fh tl a0_0)
theorem R7 {a:Int}:Fh [] a=(0):=by rw [Fh]
theorem Q7 {a:Int} {es:List (Bool×Int×Int×Int)} (i:Nat) (b:Bool×Int×Int×Int) (hi:es[i]?=some b):Fh (es.drop i) a=(cond (!(b.1)) (9) (Fh (es.drop (i + 1)) a)):=by
 have hl:i < es.length:=(List.getElem?_eq_some_iff.1 hi).1
 have he:es[i]=b:=(List.getElem?_eq_some_iff.1 hi).2
 rw [← List.getElem_cons_drop hl,Fh] <;> (try rw [he])
def Aw (ts:List (Bool×Int×Int×Int)):Int:=Fh ts 0
noncomputable def km:Code:=Tryz.f131.body.getD .skip
def mH:=AA 60 ([.code km])
def bV:=AA 60 (Ao mH)
def wi:=AA (Ak Aa 90 (AD bV)) (AD bV)
def wh:=AA 60 (AC (AC wi))
def ACy:=AA 60 (AD wh)
def ACx:=AA 60 (AF bV)
theorem Kb (j:Option Addr) (ts:List (Bool×Int×Int×Int)) (f:Nat) (w:World) (t:jg w j ts) (y:ts.length≤4294967296):Calls Tryz.prog 131 ([.slice j ts.length f]:List Value).toArray w fun e w'=>e=.returned (AI (Aw ts))∧Below w.heap.size w w':=by
 refine AR (fn:=Tryz.f131) (c:=km) (n:=15) ?_
 have K1:=Wk.start w
 refine AB mH K1 [] fun w1 K2=>?_
 have K3:Wk w w1 [] [] []:=K2.pk [] []
 have b:(Aw ts)=Fh ts 0:=by unfold Aw; rfl
 refine AU [(2,AI 0),(5,.slice j ts.length f),(6,AI ((ts.length:Int))),(7,AI (((0:Nat):Int)))] fun E2=>?_
 refine Bd (by kernel_rfl) (fun E p=>∃ (a:Nat) (d:Int) (E0:Nat→Value),a≤ts.length∧E=BC E0 [(2,AI d),(5,.slice j ts.length f),(6,AI ((ts.length:Int))),(7,AI ((a:Int)))]∧(Aw ts)=Fh (List.drop a ts) d∧Wk w p [] [] []) (fun E _=>ts.length - AK (E 7)) ⟨0,0,E2,Nat.zero_le _,rfl,b,K3⟩ ?_
 clear b
 rintro E p ⟨a,d,E0,g0,rfl,b,K4⟩ i
 refine AB bV K4 [] fun w4 K5=>?_
 refine AG (decide ((a:Int) < (ts.length:Int))) (fun c5=>?_) (fun c5=>?_)
 ·have h:a < ts.length:=by have:=of_decide_eq_true c5; omega
  obtain ⟨o,s⟩:∃ e,ts[a]?=some e:=⟨_,List.getElem?_eq_getElem h⟩
  rw [Q7 a o s] at b
  obtain ⟨l,m,rfl,u,v⟩:=t.all (by omega)
  have q:=v a _ s
  refine Ae Aa wi K5 [] fun w6 K6=>?_
  refine Au (g:=l) (off:=m) (cap:=f) (sz:=4) (k:=a) (len:=ts.length) (some 9) h Tryz.underlying66 ?_
  refine BI 56 l (m + a * 4) [.bool (o.1),AI o.2.1,AI o.2.2.1,AI o.2.2.2] (some 10) (Ab q u K6.B) ?_
  refine Aj wh K6 [(0,0),(0,0)] fun w7 K7=>?_
  refine AG (!(o.1)) (fun z=>?_) (fun z=>?_)
  ·refine AB ACy K7 [] fun w9 K8=>?_
   exact AP K8 (0,0) (AI 9) (by rw [b,z] <;> rfl)
  ·refine AB (AY mH) K7 [] fun x K9=>?_
   refine AU [(2,AI d),(5,.slice (some ⟨l,m,none⟩) ts.length f),(6,AI ((ts.length:Int))),(7,AI (IntKind.i64.wrap ((a:Int) + 1)))] fun c0=>?_
   have b0:Wk w x [] [] []:=K9.pk [] []
   rw [Bc a (by omega)]
   refine i _ _ ⟨a + 1,d,c0,h,rfl,by rw [b,z] <;> rfl,b0⟩ ?_
   show ts.length - AK (AI ((a + 1:Nat):Int)) < ts.length - AK (AI (a:Int))
   simp only [AK]
   omega
 ·have r:a=ts.length:=by have:=of_decide_eq_false c5; omega
  rw [r,List.drop_length,R7] at b
  refine AB ACx K5 [] fun d0 a0=>?_
  exact AP a0 (0,0) (AI 0) (by rw [b] <;> rfl)
def Fn (p0:Int) (p1a:Bool) (p1ba:Int) (p1bb:Int) (p1bc:Int) (p2a:Bool) (p2ba:Int) (p2bb:Int) (p2bc:Int):Bool×Int×Int×Int×Int:=cond (!(CC [(p1a,p1ba,p1bb,p1bc),(p2a,p2ba,p2bb,p2bc)] == 0)) ((false,0,0,0,CC [(p1a,p1ba,p1bb,p1bc),(p2a,p2ba,p2bb,p2bc)])) (cond (p0 == 8) (cond (!((Ks p1ba p1bb p1bc p2ba p2bb p2bc).2.2.2 == 0)) ((false,0,0,0,10)) ((false,(Ks p1ba p1bb p1bc p2ba p2bb p2bc).1,(Ks p1ba p1bb p1bc p2ba p2bb p2bc).2.1,(Ks p1ba p1bb p1bc p2ba p2bb p2bc).2.2.1,0))) (cond (!((Kl p1ba p1bb p1bc p2ba p2bb p2bc).2.2.2 == 0)) ((false,0,0,0,10)) ((false,(Kl p1ba p1bb p1bc p2ba p2bb p2bc).1,(Kl p1ba p1bb p1bc p2ba p2bb p2bc).2.1,(Kl p1ba p1bb p1bc p2ba p2bb p2bc).2.2.1,0))))
def Ma (r:Bool×Int×Int×Int×Int):Value:=.tuple #[.agg ⟨[.bool (r.1),AI (r.2.1),AI (r.2.2.1),AI (r.2.2.2.1)]⟩,AI (r.2.2.2.2)]
noncomputable def kZ:Code:=Tryz.f129.body.getD .skip
def wR:=AA 60 ([.code kZ])
def l6:=AA 60 (AC wR)
def ACe:=AA 60 (AD l6)
def l5:=AA 60 (AF l6)
def wQ:=AA 60 (AD l5)
def l4:=AA 60 (AC wQ)
def ACd:=AA 60 (AD l4)
def ACc:=AA 60 (AF l4)
def wP:=AA 60 (AF l5)
def lz:=AA 60 (AC wP)
def ABO:=AA 60 (AD lz)
def ABN:=AA 60 (AF lz)
theorem Nh (r:Int) (j:Bool) (h g f:Int) (i:Bool) (d b a:Int) (w:World):Calls Tryz.prog 129 ([AI r,.agg ⟨[.bool j,AI h,AI g,AI f]⟩,.agg ⟨[.bool i,AI d,AI b,AI a]⟩]:List Value).toArray w fun e w'=>e=.returned (Ma (Fn r j h g f i d b a))∧Below w.heap.size w w':=by
 refine AR (fn:=Tryz.f129) (c:=kZ) (n:=36) ?_
 have K1:=Wk.start w
 refine Aj wR K1 [(0,0),(1,0)] fun w1 K2=>?_
 refine AQ K2 (Nl (some ⟨w.heap.size + 3,0,none⟩) [(j,h,g,f),(i,d,b,a)] 2 w1 (C8 (t:=56) (rs:=[[.bool j,AI h,AI g,AI f],[.bool i,AI d,AI b,AI a]]) (by simp) (K2.ent 3 (by kernel_rfl))) (by first | assumption | omega | (simp <;> omega))) fun w2 K3=>?_
 refine AB l6 K3 [] fun w3 K4=>?_
 refine AG (!(CC [(j,h,g,f),(i,d,b,a)] == 0)) (fun m=>?_) (fun m=>?_)
 ·refine AB ACe K4 [(2,0)] fun w5 K5=>?_
  exact AP K5 (2,0) (.tuple #[.agg ⟨[.bool false,AI 0,AI 0,AI 0]⟩,AI (CC [(j,h,g,f),(i,d,b,a)])]) (by unfold Fn; rw [m] <;> rfl)
 ·refine AB l5 K4 [] fun w6 K6=>?_
  refine AG (r == 8) (fun o=>?_) (fun o=>?_)
  ·refine AB wQ K6 [(0,1),(1,1)] fun w8 K7=>?_
   refine Rk K7 (lg h g f d b a w8) fun w9 K8=>?_
   refine Aj l4 K8 [(4,0)] fun h0 K9=>?_
   refine AG (!((Ks h g f d b a).2.2.2 == 0)) (fun l=>?_) (fun l=>?_)
   ·refine AB ACd K9 [(2,0)] fun g0 z=>?_
    exact AP z (2,0) (.tuple #[.agg ⟨[.bool false,AI 0,AI 0,AI 0]⟩,AI 10]) (by unfold Fn; rw [m,o,l] <;> rfl)
   ·refine Aj ACc K9 [(4,0),(2,0)] fun e0 y=>?_
    exact AP y (2,0) (.tuple #[.agg ⟨[.bool false,AI ((Ks h g f d b a).1),AI ((Ks h g f d b a).2.1),AI ((Ks h g f d b a).2.2.1)]⟩,AI 0]) (by unfold Fn; rw [m,o,l] <;> rfl)
  ·refine AB wP K6 [(0,1),(1,1)] fun q x=>?_
   refine Rk x (lf h g f d b a q) fun d0 v=>?_
   refine Aj lz v [(4,0)] fun c0 p=>?_
   refine AG (!((Kl h g f d b a).2.2.2 == 0)) (fun k=>?_) (fun k=>?_)
   ·refine AB ABO p [(2,0)] fun b0 u=>?_
    exact AP u (2,0) (.tuple #[.agg ⟨[.bool false,AI 0,AI 0,AI 0]⟩,AI 10]) (by unfold Fn; rw [m,o,k] <;> rfl)
   ·refine Aj ABN p [(4,0),(2,0)] fun a0 s=>?_
    exact AP s (2,0) (.tuple #[.agg ⟨[.bool false,AI ((Kl h g f d b a).1),AI ((Kl h g f d b a).2.1),AI ((Kl h g f d b a).2.2.1)]⟩,AI 0]) (by unfold Fn; rw [m,o,k] <;> rfl)
end
end Go.Proofs.YtkjbdagicjbjjaaGreat
namespace Go.Proofs.YtkjbdagicjbjjaaGreat
open Go.RowKit
set_option maxRecDepth 100000
def FW (w w':World):Prop:=Below w.heap.size w w'
theorem FW.refl (w:World):FW w w:=Below.refl _ _
theorem FW.trans {a b c:World} (h:FW a b) (k:FW b c):FW a c:=Below.trans h (Below.mono k (Below.size h))
def Jk (n sz:Nat) (rs:List (List Value)) (vs:List Value) (w:World):Prop:=∃ g,vs=[.slice (IN g) n n]∧DI Ca w sz (IN g) rs
theorem Jk.keep {n sz:Nat} {rs:List (List Value)} {a:List Value} {w w':World} (h:Jk n sz rs a w) (he:FW w w'):Jk n sz rs a w':=let ⟨g,h1,h2⟩:=h; ⟨g,h1,h2.below he⟩
theorem rowsEx.all {w:World} {A:Option Addr} {es:List Ex} (h:rowsEx w A es) (b:es≠[]):∃ g off,A=some ⟨g,off,none⟩∧g < w.heap.size∧∀ (i:Nat) e,es[i]?=some e→∃ a d,w.rangeAt g (off + i * 10) (AW e a d)∧rowsEx w a e.ks:=by
 obtain ⟨ks,c,h2⟩:=h
 rcases h2 with h2 | ⟨g,off,rfl,_,hg,hc⟩
 ·subst h2
  cases es with
  | nil=>exact absurd rfl b
  | cons e es=>unfold Eu at c; obtain ⟨_,_,h,_⟩:=c; exact nomatch h
 ·refine ⟨g,off,rfl,hg,fun i e hi=>?_⟩
  obtain ⟨r,hr,hx⟩:=L3 c hi
  obtain ⟨a,d,rfl,f⟩:=d9 hx
  exact ⟨a,d,fun j u hu=>hc i _ hr j u hu,f⟩
def CW (stop:List Item→Bool):Nat→List Bool→List Item→Nat×List Item
 | 0,_,t=>(0,t)
 | m + 1,bs,t=>match stop t with
  | true=>(0,t)
  | false=>match NJ t with
   | some t'=>let r:=CW stop m bs t'; (r.1 + 1,r.2)
   | none=>match t with
    | .code (.cond _ x y) :: k=>match bs with
     | []=>(0,t)
     | true :: bs=>let r:=CW stop m bs (.code x :: k); (r.1 + 1,r.2)
     | false :: bs=>let r:=CW stop m bs (.code y :: k); (r.1 + 1,r.2)
    | .code (.loop c) :: k=>let r:=CW stop m bs (.code c :: .inLoop c :: k); (r.1 + 1,r.2)
    | .inLoop c :: k=>let r:=CW stop m bs (.code c :: .inLoop c :: k); (r.1 + 1,r.2)
    | _=>(0,t)
def GQ (T:TypeId):Op→Bool
 | .indexAddr t _ _=>t == T
 | _=>false
def Do:Next→Option Value
 | .value v=>some v
 | .skip=>some undef
 | _=>none
section
variable {P:Program} {ops:Array Oper} {Q:Exit→Act→World→Prop} {md:Region.Mode} {n:Nat} {E:Nat→Value}
theorem np {a:Array Bool} {fuel i:Nat} {w:World} (o:Oper) (M M':List Az) (hint:Nat×Nat) (b:Nat) (v:Value) (hr:Region.ready md ops a=[i]) (ho:ops[i]?=some o) (hg:o.guard=none)
  (e:EB (M.map (·.id)) w.heap.size w ⟨w.heap.size,M,(0,0),[]⟩)
  (he:(CL P (execOp (Ax n E) o) ⟨w.heap.size,M,hint,[]⟩).map (fun p=>(Do p.1,p.2.mem,p.2.sz,p.2.eqs.map Prod.fst))=(CL P (execOp (Ax n E) o) ⟨w.heap.size,M,hint,[]⟩).map (fun p=>(some v,M',b,p.2.eqs.map Prod.snd)))
  (hs:(CL P (execOp (Ax n E) o) ⟨w.heap.size,M,hint,[]⟩).isSome=true)
  (g:∀ w',EB (M.map (·.id)) w.heap.size w' ⟨b,M',(0,0),[]⟩→Eh (M.map (·.id)) w.heap.size w w'→wpAny P md ops Q fuel (a.setIfInBounds i true) (Fr n (Aq E o.dst v)) w'):wpAny P md ops Q (fuel + 1) a (Fr n E) w:=by
 cases hm:CL P (execOp (Ax n E) o) ⟨w.heap.size,M,hint,[]⟩ with
 | none=>rw [hm] at hs; cases hs
 | some p=>
  obtain ⟨r,c⟩:=p
  rw [hm] at he
  simp only [Option.map_some,Option.some.injEq,Prod.mk.injEq] at he
  obtain ⟨f,h2,k,j⟩:=he
  refine Yh o ⟨w.heap.size,M,hint,[]⟩ c r v hr ho hg hm ?_ ⟨e.sat,e.le,e.own⟩ j fun w' d h=>g w' (Vp d b M' k h2) h
  cases r <;> simp [Do] at f
  ·exact .inl (by rw [f])
  ·exact .inr ⟨rfl,f.symm⟩
end
section
variable {P:Program} {ops:Array Oper} {Q:Exit→Act→World→Prop} {md:Region.Mode} {n:Nat} {E:Nat→Value}
theorem Ob {a:Array Bool} {fuel i:Nat} {w0 w:World} {M:List Az} {L T:List Th} (K:Wk w0 w M L T) (o:Oper) (M':List Az) (hint:Nat×Nat) (v:Value) (d:∀ w',Wk w0 w' M' L T→wpAny P md ops Q fuel (a.setIfInBounds i true) (Fr n (Aq E o.dst v)) w') (hr:Region.ready md ops a=[i]:=by kernel_rfl) (ho:ops[i]?=some o:=by kernel_rfl) (hg:o.guard=none:=by kernel_rfl) (he:(CL P (execOp (Ax n E) o) ⟨w.heap.size,M,hint,[]⟩).map (fun p=>(Do p.1,p.2.mem,p.2.eqs.map Prod.fst))=(CL P (execOp (Ax n E) o) ⟨w.heap.size,M,hint,[]⟩).map (fun p=>(some v,M',p.2.eqs.map Prod.snd)):=by kernel_rfl) (hs:(CL P (execOp (Ax n E) o) ⟨w.heap.size,M,hint,[]⟩).isSome=true:=by kernel_rfl) (hown:M'.all (·.own)=true:=by kernel_rfl):wpAny P md ops Q (fuel + 1) a (Fr n E) w:=by
 cases hm:CL P (execOp (Ax n E) o) ⟨w.heap.size,M,hint,[]⟩ with
 | none=>rw [hm] at hs; cases hs
 | some p=>
  have b:=he
  rw [hm] at b
  simp only [Option.map_some,Option.some.injEq,Prod.mk.injEq] at b
  refine np o M M' hint p.2.sz v hr ho hg K.H.lies ?_ hs fun w' e c=>d w' ⟨K.B.trans (K.H.keptB c),K.H.run e c hown⟩
  rw [hm]
  simp only [Option.map_some,Option.some.injEq,Prod.mk.injEq]
  exact ⟨b.1,b.2.1,trivial,b.2.2⟩
theorem Fq {a:Array Bool} {fuel i:Nat} {w0 w:World} {M:List Az} {L T:List Th} (K:Wk w0 w M L T) (o:Oper) (hint:Nat×Nat) (v:Value)
  (b:∀ w',Wk w0 w' (((CL P (execOp (Ax n E) o) ⟨w.heap.size,M,hint,[]⟩).map (·.2.mem)).getD []) L T→wpAny P md ops Q fuel (a.setIfInBounds i true) (Fr n (Aq E o.dst v)) w')
  (hr:Region.ready md ops a=[i]:=by kernel_rfl) (ho:ops[i]?=some o:=by kernel_rfl) (hg:o.guard=none:=by kernel_rfl)
  (he:(CL P (execOp (Ax n E) o) ⟨w.heap.size,M,hint,[]⟩).map (fun p=>(Do p.1,p.2.eqs.map Prod.fst))=(CL P (execOp (Ax n E) o) ⟨w.heap.size,M,hint,[]⟩).map (fun p=>(some v,p.2.eqs.map Prod.snd)):=by kernel_rfl)
  (hs:(CL P (execOp (Ax n E) o) ⟨w.heap.size,M,hint,[]⟩).isSome=true:=by kernel_rfl) (hown:(((CL P (execOp (Ax n E) o) ⟨w.heap.size,M,hint,[]⟩).map (·.2.mem)).getD []).all (·.own)=true:=by kernel_rfl):wpAny P md ops Q (fuel + 1) a (Fr n E) w:=by
 refine Ob K o _ hint v b hr ho hg ?_ hs hown
 cases hm:CL P (execOp (Ax n E) o) ⟨w.heap.size,M,hint,[]⟩ with
 | none=>rfl
 | some p=>
  rw [hm] at he
  simp only [Option.map_some,Option.some.injEq,Prod.mk.injEq,Option.getD_some,true_and] at he ⊢
  exact he
theorem CI {a:Array Bool} {fuel:Nat} {w:World} (l:List (Nat×Value)) (b:∀ E',wpAny P md ops Q fuel a (Fr n (BC E' l)) w) (h:l.map (fun p=>E p.1)=l.map (·.2):=by kernel_rfl):wpAny P md ops Q fuel a (Fr n E) w:=by
 rw [← MP h]
 exact b E
theorem AM.runsK {o:Oper} {ρ:Operand→Value} {w:World} {K:Value→World→Prop} {O:List Nat} {B:Nat} (ms a:MS) (r:Next) (v:Value) (hv:r=.value v∨(r=.skip∧v=undef)) (c:EB O B w ms) (he:a.eqs.map Prod.fst=a.eqs.map Prod.snd) (h:∀ w',EB O B w' a→Eh O B w w'→K v w') (hm:CL P (execOp ρ o) ms=some (r,a):=by kernel_rfl):AM P o ρ w K:=by
 have e:∀ p∈a.eqs,p.1=p.2:=fun p g=>by
  obtain ⟨i,hi⟩:=List.mem_iff_getElem?.1 g
  have d:(a.eqs.map Prod.fst)[i]?=some p.1:=by rw [List.getElem?_map,hi]; rfl
  have h2:(a.eqs.map Prod.snd)[i]?=some p.2:=by rw [List.getElem?_map,hi]; rfl
  rw [he,h2] at d
  exact (Option.some.inj d).symm
 obtain ⟨w',d,h2,f,j⟩:=JR _ _ _ _ w hm c.sat c.le c.own e
 have b:=h w' ⟨h2,Nat.le_trans c.le f.size,j⟩ f
 unfold AM
 rw [d]
 rcases hv with rfl | ⟨rfl,rfl⟩
 ·exact b
 ·exact b
end
section
variable {P:Program} {f:FuncId} {R:Ending→World→Prop}
end
theorem rowsEx.all0 {w:World} {A:Option Addr} {es:List Ex} (h:rowsEx w A es) (a:0 < es.length):∃ g off,A=some ⟨g,off,none⟩∧g < w.heap.size∧∀ (i:Nat) e,es[i]?=some e→∃ A2 c2,w.rangeAt g (off + i * 10) (AW e A2 c2)∧rowsEx w A2 e.ks:=
 h.all (fun b=>by rw [b] at a; exact absurd a (Nat.lt_irrefl _))
end Go.Proofs.YtkjbdagicjbjjaaGreat

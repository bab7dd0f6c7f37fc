/-
  Part 15 of a proof: contracts of functions.
-/
import Derived.Test.YtmcpjkcggfmcmaaGreatDoorD14
set_option linter.all false
namespace Go.Proofs.YtmcpjkcggfmcmaaGreatDoor
noncomputable section
open Go.RowKit
set_option maxRecDepth 100000
set_option maxHeartbeats 1000000
attribute [local irreducible] BO CB AE AG AL Ay Aj AP Bc Cq Eb CO At Fr
def Gg (p1:List UInt8):List (Df)→Int→Bool×Int×Int×Int×Int
 | [],a0_0=>(false,0,0,0,7)
 | e0 :: tl,a0_0=>cond (!(decide (e0.name=p1))) (Gg p1 tl a0_0) (cond (e0.kind == 4) ((false,1,0,0,0)) ((e0.tb,e0.tm,e0.th,e0.td,0)))
theorem UU {p1:List UInt8} {a:Int}:Gg p1 [] a=((false,0,0,0,7)):=by rw [Gg]
theorem Rk {p1:List UInt8} {b:Int} {es:List (Df)} (i:Nat) (a:Df) (hi:es[i]?=some a):Gg p1 (es.drop i) b=(cond (!(decide (a.name=p1))) (Gg p1 (es.drop (i + 1)) b) (cond (a.kind == 4) ((false,1,0,0,0)) ((a.tb,a.tm,a.th,a.td,0)))):=by
 have hl:i < es.length:=(List.getElem?_eq_some_iff.1 hi).1
 have he:es[i]=a:=(List.getElem?_eq_some_iff.1 hi).2
 rw [← List.getElem_cons_drop hl,Gg] <;> (try rw [he])
def Cv (ds:List (Df)) (p1:List UInt8):Bool×Int×Int×Int×Int:=Gg p1 ds 0
def Po (r:Bool×Int×Int×Int×Int):Value:=.tuple #[.agg ⟨[.bool (r.1),D (r.2.1),D (r.2.2.1),D (r.2.2.2.1)]⟩,D (r.2.2.2.2)]
noncomputable def dA:Code:=Tryz.f150.body.getD .skip
def eh:=AB 60 ([.code dA])
def Wf:=AB 60 (Ay eh)
def n6:=AB (BA Ai 90 (AG Wf)) (AG Wf)
def n5:=Ad 4 (AE (AE n6))
def n4:=AB 60 (AP n5)
def eg:=AB 60 (AL n4)
def uy:=AB 60 (AG eg)
def ux:=AB 60 (AL eg)
def uw:=AB 60 (AL Wf)
theorem L0 (q:Option Addr) (ds:List (Df)) (h:Nat) (p1:List UInt8) (w:World) (d0:rowsDf w q ds) (r0:ds.length≤4294967296):Calls Tryz.prog 150 ([.slice q ds.length h,.string ⟨⟨p1⟩⟩]:List Value).toArray w fun e w'=>e=.returned (Po (Cv ds p1))∧Below w.heap.size w w':=by
 refine Af (fn:=Tryz.f150) (c:=dA) (n:=27) ?_
 have K1:=Wk.start w
 refine BQ eh K1 [] fun w1 K2=>?_
 let z1:List BI:=[⟨w.heap.size,0,[.bool false,D 0,D 0,D 0],26,true⟩]
 have K3:Wk w w1 z1 [] []:=K2.pk [0] []
 have b:(Cv ds p1)=Gg p1 ds 0:=by unfold Cv; rfl
 refine BB [(1,.string ⟨⟨p1⟩⟩),(4,.pointer (some ⟨w.heap.size,0,none⟩)),(5,D 0),(8,.slice q ds.length h),(9,D ((ds.length:Int))),(10,D (((0:Nat):Int)))] fun E2=>?_
 refine Bi (by kernel_rfl) (fun E z=>∃ (d:Nat) (f:Int) (E0:Nat→Value),d≤ds.length∧E=Aw E0 [(1,.string ⟨⟨p1⟩⟩),(4,.pointer (some ⟨w.heap.size,0,none⟩)),(5,D f),(8,.slice q ds.length h),(9,D ((ds.length:Int))),(10,D ((d:Int)))]∧(Cv ds p1)=Gg p1 (List.drop d ds) f∧Wk w z z1 [] []) (fun E _=>ds.length - AQ (E 10)) ⟨0,0,E2,Nat.zero_le _,rfl,b,K3⟩ ?_
 clear b
 rintro E z ⟨d,f,E0,g1,rfl,b,K4⟩ j
 refine AC Wf K4 [] fun w4 K5=>?_
 refine AM (decide ((d:Int) < (ds.length:Int))) (fun c5=>?_) (fun c5=>?_)
 ·have i:d < ds.length:=by have:=of_decide_eq_true c5; omega
  obtain ⟨a,c0⟩:∃ e,ds[d]?=some e:=⟨_,List.getElem?_eq_getElem i⟩
  rw [Rk d a c0] at b
  obtain ⟨s,t,rfl,f0,h0⟩:=d0.all (by omega)
  obtain ⟨p,m,o,l,a0,v0,t0⟩:=h0 d _ c0
  refine BG Ai n6 K5 [] fun w6 K6=>?_
  refine BH (g:=s) (off:=t) (cap:=h) (sz:=21) (k:=d) (len:=ds.length) (some 12) i Tryz.underlying36 ?_
  refine CC 34 s (t + d * 21) [D a.kind,.string ⟨⟨a.name⟩⟩,.bool (a.tb),D a.tm,D a.th,D a.td,D a.frm,.slice p a.ents.length m,D a.body.op,D a.body.num,D a.body.den,D a.body.mu,D a.body.hu,D a.body.du,.string ⟨⟨a.body.nm⟩⟩,D a.body.cnt,D a.body.md,.slice o a.body.ks.length l,D a.mode,D a.num,D a.den] (some 13) (Ac a0 f0 K6.B) ?_
  refine CR 4 n5 [⟨w.heap.size,0,[.bool false,D 0,D 0,D 0],26,true⟩,⟨w6.heap.size,0,(Ce a p m o l),34,true⟩] K6 [(1,0)] fun w7 K7=>?_
  refine Ao K7 [(1,1,1)] [⟨3,[(15,.string ⟨⟨a.name⟩⟩),(16,.string ⟨⟨p1⟩⟩)],.bool (!(decide (a.name=p1))),true⟩] K7.G (fun sp q0=>?_) fun w8 E8 K8=>?_
  ·rw [List.mem_singleton.1 q0]
   exact An fun _ E u _=>IX (T:=9) (T':=9) (x:=.tmp 15) (y:=.tmp 16) (by kernel_rfl) (by kernel_rfl) (by kernel_rfl)
  refine AC n4 K8 [] fun w9 K9=>?_
  refine AM (!(decide (a.name=p1))) (fun r=>?_) (fun r=>?_)
  ·refine AC (Aj eh) K9 [] fun p0 a1=>?_
   refine BB [(1,.string ⟨⟨p1⟩⟩),(4,.pointer (some ⟨w.heap.size,0,none⟩)),(5,D f),(8,.slice (some ⟨s,t,none⟩) ds.length h),(9,D ((ds.length:Int))),(10,D (IntKind.i64.wrap ((d:Int) + 1)))] fun b1=>?_
   have z0:Wk w p0 z1 [] []:=a1.pk [0] []
   rw [Bs d (by omega)]
   refine j _ _ ⟨d + 1,f,b1,i,rfl,by rw [b,r] <;> rfl,z0⟩ ?_
   show ds.length - AQ (D ((d + 1:Nat):Int)) < ds.length - AQ (D (d:Int))
   simp only [AQ]
   omega
  ·refine AC eg K9 [(1,0)] fun f1 k0=>?_
   refine AM (a.kind == 4) (fun v=>?_) (fun v=>?_)
   ·refine BQ uy k0 [(0,0)] fun e1 y0=>?_
    exact AO y0 (0,0) (.tuple #[.agg ⟨[.bool false,D 1,D 0,D 0]⟩,D 0]) (by rw [b,r,v] <;> rfl)
   ·refine BQ ux k0 [(1,2),(0,0)] fun d1 x0=>?_
    exact AO x0 (0,0) (.tuple #[.agg ⟨[.bool (a.tb),D a.tm,D a.th,D a.td]⟩,D 0]) (by rw [b,r,v] <;> rfl)
 ·have b0:d=ds.length:=by have:=of_decide_eq_false c5; omega
  rw [b0,List.drop_length,UU] at b
  refine AC uw K5 [(0,0)] fun c1 w0=>?_
  exact AO w0 (0,0) (.tuple #[.agg ⟨[.bool false,D 0,D 0,D 0]⟩,D 7]) (by rw [b] <;> rfl)
def FC:List (Bool×Int×Int×Int)→Int→Int
 | [],a0_0=>0
 | e0 :: tl,a0_0=>cond (e0.1) (9) (FC tl a0_0)
theorem PQ {a:Int}:FC [] a=(0):=by rw [FC]
theorem OD {a:Int} {es:List (Bool×Int×Int×Int)} (i:Nat) (b:Bool×Int×Int×Int) (hi:es[i]?=some b):FC (es.drop i) a=(cond (b.1) (9) (FC (es.drop (i + 1)) a)):=by
 have hl:i < es.length:=(List.getElem?_eq_some_iff.1 hi).1
 have he:es[i]=b:=(List.getElem?_eq_some_iff.1 hi).2
 rw [← List.getElem_cons_drop hl,FC] <;> (try rw [he])
def Bw (ts:List (Bool×Int×Int×Int)):Int:=FC ts 0
noncomputable def cv:Code:=Tryz.f157.body.getD .skip
def ec:=AB 60 ([.code cv])
def We:=AB 60 (Ay ec)
def n0:=AB (BA Ai 90 (AG We)) (AG We)
def nz:=AB 60 (AE (AE n0))
def uo:=AB 60 (AG nz)
def un:=AB 60 (AL We)
theorem Nq (j:Option Addr) (ts:List (Bool×Int×Int×Int)) (f:Nat) (w:World) (t:bQ w j ts) (y:ts.length≤4294967296):Calls Tryz.prog 157 ([.slice j ts.length f]:List Value).toArray w fun e w'=>e=.returned (D (Bw ts))∧Below w.heap.size w w':=by
 refine Af (fn:=Tryz.f157) (c:=cv) (n:=14) ?_
 have K1:=Wk.start w
 refine AC ec K1 [] fun w1 K2=>?_
 have K3:Wk w w1 [] [] []:=K2.pk [] []
 have b:(Bw ts)=FC ts 0:=by unfold Bw; rfl
 refine BB [(2,D 0),(5,.slice j ts.length f),(6,D ((ts.length:Int))),(7,D (((0:Nat):Int)))] fun E2=>?_
 refine Bi (by kernel_rfl) (fun E p=>∃ (a:Nat) (d:Int) (E0:Nat→Value),a≤ts.length∧E=Aw E0 [(2,D d),(5,.slice j ts.length f),(6,D ((ts.length:Int))),(7,D ((a:Int)))]∧(Bw ts)=FC (List.drop a ts) d∧Wk w p [] [] []) (fun E _=>ts.length - AQ (E 7)) ⟨0,0,E2,Nat.zero_le _,rfl,b,K3⟩ ?_
 clear b
 rintro E p ⟨a,d,E0,f0,rfl,b,K4⟩ i
 refine AC We K4 [] fun w4 K5=>?_
 refine AM (decide ((a:Int) < (ts.length:Int))) (fun c5=>?_) (fun c5=>?_)
 ·have h:a < ts.length:=by have:=of_decide_eq_true c5; omega
  obtain ⟨o,s⟩:∃ e,ts[a]?=some e:=⟨_,List.getElem?_eq_getElem h⟩
  rw [OD a o s] at b
  obtain ⟨l,m,rfl,u,v⟩:=t.all (by omega)
  have q:=v a _ s
  refine BG Ai n0 K5 [] fun w6 K6=>?_
  refine BH (g:=l) (off:=m) (cap:=f) (sz:=4) (k:=a) (len:=ts.length) (some 9) h Tryz.underlying90 ?_
  refine CC 26 l (m + a * 4) [.bool (o.1),D o.2.1,D o.2.2.1,D o.2.2.2] (some 10) (Ac q u K6.B) ?_
  refine BQ nz K6 [(0,0),(0,0)] fun w7 K7=>?_
  refine AM (o.1) (fun z=>?_) (fun z=>?_)
  ·refine AC uo K7 [] fun w9 K8=>?_
   exact AO K8 (0,0) (D 9) (by rw [b,z] <;> rfl)
  ·refine AC (Aj ec) K7 [] fun x K9=>?_
   refine BB [(2,D d),(5,.slice (some ⟨l,m,none⟩) ts.length f),(6,D ((ts.length:Int))),(7,D (IntKind.i64.wrap ((a:Int) + 1)))] fun c0=>?_
   have b0:Wk w x [] [] []:=K9.pk [] []
   rw [Bs a (by omega)]
   refine i _ _ ⟨a + 1,d,c0,h,rfl,by rw [b,z] <;> rfl,b0⟩ ?_
   show ts.length - AQ (D ((a + 1:Nat):Int)) < ts.length - AQ (D (a:Int))
   simp only [AQ]
   omega
 ·have r:a=ts.length:=by have:=of_decide_eq_false c5; omega
  rw [r,List.drop_length,PQ] at b
  refine AC un K5 [] fun d0 a0=>?_
  exact AO a0 (0,0) (D 0) (by rw [b] <;> rfl)
def F8:List (Bool×Int×Int×Int)→Int→Int
 | [],a0_0=>0
 | e0 :: tl,a0_0=>cond (!(e0.1)) (9) (F8 tl a0_0)
theorem Rt {a:Int}:F8 [] a=(0):=by rw [F8]
theorem Qm {a:Int} {es:List (Bool×Int×Int×Int)} (i:Nat) (b:Bool×Int×Int×Int) (hi:es[i]?=some b):F8 (es.drop i) a=(cond (!(b.1)) (9) (F8 (es.drop (i + 1)) a)):=by
 have hl:i < es.length:=(List.getElem?_eq_some_iff.1 hi).1
 have he:es[i]=b:=(List.getElem?_eq_some_iff.1 hi).2
 rw [← List.getElem_cons_drop hl,F8] <;> (try rw [he])
def Av (ts:List (Bool×Int×Int×Int)):Int:=F8 ts 0
noncomputable def dE:Code:=Tryz.f156.body.getD .skip
def em:=AB 60 ([.code dE])
def Wg:=AB 60 (Ay em)
def oD:=AB (BA Ai 90 (AG Wg)) (AG Wg)
def oC:=AB 60 (AE (AE oD))
def vF:=AB 60 (AG oC)
def vE:=AB 60 (AL Wg)
theorem Ke (j:Option Addr) (ts:List (Bool×Int×Int×Int)) (f:Nat) (w:World) (t:bQ w j ts) (y:ts.length≤4294967296):Calls Tryz.prog 156 ([.slice j ts.length f]:List Value).toArray w fun e w'=>e=.returned (D (Av ts))∧Below w.heap.size w w':=by
 refine Af (fn:=Tryz.f156) (c:=dE) (n:=15) ?_
 have K1:=Wk.start w
 refine AC em K1 [] fun w1 K2=>?_
 have K3:Wk w w1 [] [] []:=K2.pk [] []
 have b:(Av ts)=F8 ts 0:=by unfold Av; rfl
 refine BB [(2,D 0),(5,.slice j ts.length f),(6,D ((ts.length:Int))),(7,D (((0:Nat):Int)))] fun E2=>?_
 refine Bi (by kernel_rfl) (fun E p=>∃ (a:Nat) (d:Int) (E0:Nat→Value),a≤ts.length∧E=Aw E0 [(2,D d),(5,.slice j ts.length f),(6,D ((ts.length:Int))),(7,D ((a:Int)))]∧(Av ts)=F8 (List.drop a ts) d∧Wk w p [] [] []) (fun E _=>ts.length - AQ (E 7)) ⟨0,0,E2,Nat.zero_le _,rfl,b,K3⟩ ?_
 clear b
 rintro E p ⟨a,d,E0,f0,rfl,b,K4⟩ i
 refine AC Wg K4 [] fun w4 K5=>?_
 refine AM (decide ((a:Int) < (ts.length:Int))) (fun c5=>?_) (fun c5=>?_)
 ·have h:a < ts.length:=by have:=of_decide_eq_true c5; omega
  obtain ⟨o,s⟩:∃ e,ts[a]?=some e:=⟨_,List.getElem?_eq_getElem h⟩
  rw [Qm a o s] at b
  obtain ⟨l,m,rfl,u,v⟩:=t.all (by omega)
  have q:=v a _ s
  refine BG Ai oD K5 [] fun w6 K6=>?_
  refine BH (g:=l) (off:=m) (cap:=f) (sz:=4) (k:=a) (len:=ts.length) (some 9) h Tryz.underlying90 ?_
  refine CC 26 l (m + a * 4) [.bool (o.1),D o.2.1,D o.2.2.1,D o.2.2.2] (some 10) (Ac q u K6.B) ?_
  refine BQ oC K6 [(0,0),(0,0)] fun w7 K7=>?_
  refine AM (!(o.1)) (fun z=>?_) (fun z=>?_)
  ·refine AC vF K7 [] fun w9 K8=>?_
   exact AO K8 (0,0) (D 9) (by rw [b,z] <;> rfl)
  ·refine AC (Aj em) K7 [] fun x K9=>?_
   refine BB [(2,D d),(5,.slice (some ⟨l,m,none⟩) ts.length f),(6,D ((ts.length:Int))),(7,D (IntKind.i64.wrap ((a:Int) + 1)))] fun c0=>?_
   have b0:Wk w x [] [] []:=K9.pk [] []
   rw [Bs a (by omega)]
   refine i _ _ ⟨a + 1,d,c0,h,rfl,by rw [b,z] <;> rfl,b0⟩ ?_
   show ts.length - AQ (D ((a + 1:Nat):Int)) < ts.length - AQ (D (a:Int))
   simp only [AQ]
   omega
 ·have r:a=ts.length:=by have:=of_decide_eq_false c5; omega
  rw [r,List.drop_length,Rt] at b
  refine AC vE K5 [] fun d0 a0=>?_
  exact AO a0 (0,0) (D 0) (by rw [b] <;> rfl)
def GB (p0:Int) (p1a:Bool) (p1ba:Int) (p1bb:Int) (p1bc:Int) (p2a:Bool) (p2ba:Int) (p2bb:Int) (p2bc:Int):Bool×Int×Int×Int×Int:=cond (!(Bw [(p1a,p1ba,p1bb,p1bc),(p2a,p2ba,p2bb,p2bc)] == 0)) ((false,0,0,0,Bw [(p1a,p1ba,p1bb,p1bc),(p2a,p2ba,p2bb,p2bc)])) (cond (p0 == 8) (cond (!((Kp p1ba p1bb p1bc p2ba p2bb p2bc).2.2.2 == 0)) ((false,0,0,0,10)) ((false,(Kp p1ba p1bb p1bc p2ba p2bb p2bc).1,(Kp p1ba p1bb p1bc p2ba p2bb p2bc).2.1,(Kp p1ba p1bb p1bc p2ba p2bb p2bc).2.2.1,0))) (cond (!((Kl p1ba p1bb p1bc p2ba p2bb p2bc).2.2.2 == 0)) ((false,0,0,0,10)) ((false,(Kl p1ba p1bb p1bc p2ba p2bb p2bc).1,(Kl p1ba p1bb p1bc p2ba p2bb p2bc).2.1,(Kl p1ba p1bb p1bc p2ba p2bb p2bc).2.2.1,0))))
def Mg (r:Bool×Int×Int×Int×Int):Value:=.tuple #[.agg ⟨[.bool (r.1),D (r.2.1),D (r.2.2.1),D (r.2.2.2.1)]⟩,D (r.2.2.2.2)]
noncomputable def ct:Code:=Tryz.f154.body.getD .skip
def ny:=AB 60 ([.code ct])
def eZ:=AB 60 (AE ny)
def uk:=AB 60 (AG eZ)
def eY:=AB 60 (AL eZ)
def nw:=AB 60 (AG eY)
def eX:=AB 60 (AE nw)
def uj:=AB 60 (AG eX)
def ui:=AB 60 (AL eX)
def nv:=AB 60 (AL eY)
def eW:=AB 60 (AE nv)
def rr:=AB 60 (AG eW)
def rq:=AB 60 (AL eW)
theorem Np (r:Int) (j:Bool) (h g f:Int) (i:Bool) (d b a:Int) (w:World):Calls Tryz.prog 154 ([D r,.agg ⟨[.bool j,D h,D g,D f]⟩,.agg ⟨[.bool i,D d,D b,D a]⟩]:List Value).toArray w fun e w'=>e=.returned (Mg (GB r j h g f i d b a))∧Below w.heap.size w w':=by
 refine Af (fn:=Tryz.f154) (c:=ct) (n:=36) ?_
 have K1:=Wk.start w
 refine BQ ny K1 [(0,0),(1,0)] fun w1 K2=>?_
 refine Ap K2 (Nq (some ⟨w.heap.size + 3,0,none⟩) [(j,h,g,f),(i,d,b,a)] 2 w1 (F2 (t:=26) (rs:=[[.bool j,D h,D g,D f],[.bool i,D d,D b,D a]]) (by simp) (K2.ent 3 (by kernel_rfl))) (by first | assumption | omega | (simp <;> omega))) fun w2 K3=>?_
 refine AC eZ K3 [] fun w3 K4=>?_
 refine AM (!(Bw [(j,h,g,f),(i,d,b,a)] == 0)) (fun m=>?_) (fun m=>?_)
 ·refine AC uk K4 [(2,0)] fun w5 K5=>?_
  exact AO K5 (2,0) (.tuple #[.agg ⟨[.bool false,D 0,D 0,D 0]⟩,D (Bw [(j,h,g,f),(i,d,b,a)])]) (by unfold GB; rw [m] <;> rfl)
 ·refine AC eY K4 [] fun w6 K6=>?_
  refine AM (r == 8) (fun o=>?_) (fun o=>?_)
  ·refine AC nw K6 [(0,1),(1,1)] fun w8 K7=>?_
   refine RN K7 (eF h g f d b a w8) fun w9 K8=>?_
   refine BQ eX K8 [(4,0)] fun h0 K9=>?_
   refine AM (!((Kp h g f d b a).2.2.2 == 0)) (fun l=>?_) (fun l=>?_)
   ·refine AC uj K9 [(2,0)] fun f0 z=>?_
    exact AO z (2,0) (.tuple #[.agg ⟨[.bool false,D 0,D 0,D 0]⟩,D 10]) (by unfold GB; rw [m,o,l] <;> rfl)
   ·refine BQ ui K9 [(4,0),(2,0)] fun e0 y=>?_
    exact AO y (2,0) (.tuple #[.agg ⟨[.bool false,D ((Kp h g f d b a).1),D ((Kp h g f d b a).2.1),D ((Kp h g f d b a).2.2.1)]⟩,D 0]) (by unfold GB; rw [m,o,l] <;> rfl)
  ·refine AC nv K6 [(0,1),(1,1)] fun q x=>?_
   refine RN x (eE h g f d b a q) fun d0 v=>?_
   refine BQ eW v [(4,0)] fun c0 p=>?_
   refine AM (!((Kl h g f d b a).2.2.2 == 0)) (fun k=>?_) (fun k=>?_)
   ·refine AC rr p [(2,0)] fun b0 u=>?_
    exact AO u (2,0) (.tuple #[.agg ⟨[.bool false,D 0,D 0,D 0]⟩,D 10]) (by unfold GB; rw [m,o,k] <;> rfl)
   ·refine BQ rq p [(4,0),(2,0)] fun a0 s=>?_
    exact AO s (2,0) (.tuple #[.agg ⟨[.bool false,D ((Kl h g f d b a).1),D ((Kl h g f d b a).2.1),D ((Kl h g f d b a).2.2.1)]⟩,D 0]) (by unfold GB; rw [m,o,k] <;> rfl)
end
end Go.Proofs.YtmcpjkcggfmcmaaGreatDoor
namespace Go.Proofs.YtmcpjkcggfmcmaaGreatDoor
open Go.RowKit
set_option maxRecDepth 100000
def Ck (w w':World):Prop:=Below w.heap.size w w'
theorem Ck.refl (w:World):Ck w w:=Below.refl _ _
theorem Ck.trans {a b c:World} (h:Ck a b) (k:Ck b c):Ck a c:=Below.trans h (Below.mono k (Below.size h))
def J3 (n sz:Nat) (rs:List (List Value)) (vs:List Value) (w:World):Prop:=∃ g,vs=[.slice (some ⟨g,0,none⟩) n n]∧DI CY w sz (some ⟨g,0,none⟩) rs
theorem J3.keep {n sz:Nat} {rs:List (List Value)} {a:List Value} {w w':World} (h:J3 n sz rs a w) (he:Ck w w'):J3 n sz rs a w':=let ⟨g,h1,h2⟩:=h; ⟨g,h1,h2.below he⟩
theorem rowsEx.all {w:World} {A:Option Addr} {es:List Ex} (h:rowsEx w A es) (b:es≠[]):∃ g off,A=some ⟨g,off,none⟩∧g < w.heap.size∧∀ (i:Nat) e,es[i]?=some e→∃ a d,w.rangeAt g (off + i * 10) (CW e a d)∧rowsEx w a e.ks:=by
 obtain ⟨ks,c,h2⟩:=h
 rcases h2 with h2 | ⟨g,off,rfl,_,hg,hc⟩
 ·subst h2
  cases es with
  | nil=>exact absurd rfl b
  | cons e es=>unfold Ev at c; obtain ⟨_,_,h,_⟩:=c; exact nomatch h
 ·refine ⟨g,off,rfl,hg,fun i e hi=>?_⟩
  obtain ⟨r,hr,f⟩:=L1 c hi
  obtain ⟨a,d,rfl,k⟩:=ZN f
  exact ⟨a,d,fun j u hu=>hc i _ hr j u hu,k⟩
def CV (stop:List Item→Bool):Nat→List Bool→List Item→Nat×List Item
 | 0,_,t=>(0,t)
 | m + 1,bs,t=>match stop t with
  | true=>(0,t)
  | false=>match NB t with
   | some t'=>let r:=CV stop m bs t'; (r.1 + 1,r.2)
   | none=>match t with
    | .code (.cond _ x y) :: k=>match bs with
     | []=>(0,t)
     | true :: bs=>let r:=CV stop m bs (.code x :: k); (r.1 + 1,r.2)
     | false :: bs=>let r:=CV stop m bs (.code y :: k); (r.1 + 1,r.2)
    | .code (.loop c) :: k=>let r:=CV stop m bs (.code c :: .inLoop c :: k); (r.1 + 1,r.2)
    | .inLoop c :: k=>let r:=CV stop m bs (.code c :: .inLoop c :: k); (r.1 + 1,r.2)
    | _=>(0,t)
def Gl (T:TypeId):Op→Bool
 | .indexAddr t _ _=>t == T
 | _=>false
def Ie:Next→Option Value
 | .value v=>some v
 | .skip=>some undef
 | _=>none
section
variable {P:Program} {ops:Array Oper} {Q:Exit→Act→World→Prop} {md:Region.Mode} {n:Nat} {E:Nat→Value}
theorem Oa {a:Array Bool} {fuel i:Nat} {w:World} (o:Oper) (M M':List BI) (hint:Nat×Nat) (b:Nat) (v:Value) (hr:Region.ready md ops a=[i]) (ho:ops[i]?=some o) (hg:o.guard=none)
  (e:DH (M.map (·.id)) w.heap.size w ⟨w.heap.size,M,(0,0),[]⟩)
  (he:(CS P (execOp (BN n E) o) ⟨w.heap.size,M,hint,[]⟩).map (fun p=>(Ie p.1,p.2.mem,p.2.sz,p.2.eqs.map Prod.fst))=(CS P (execOp (BN n E) o) ⟨w.heap.size,M,hint,[]⟩).map (fun p=>(some v,M',b,p.2.eqs.map Prod.snd)))
  (hs:(CS P (execOp (BN n E) o) ⟨w.heap.size,M,hint,[]⟩).isSome=true)
  (g:∀ w',DH (M.map (·.id)) w.heap.size w' ⟨b,M',(0,0),[]⟩→EC (M.map (·.id)) w.heap.size w w'→wpAny P md ops Q fuel (a.setIfInBounds i true) (Fr n (Bc E o.dst v)) w'):wpAny P md ops Q (fuel + 1) a (Fr n E) w:=by
 cases hm:CS P (execOp (BN n E) o) ⟨w.heap.size,M,hint,[]⟩ with
 | none=>rw [hm] at hs; cases hs
 | some p=>
  obtain ⟨r,c⟩:=p
  rw [hm] at he
  simp only [Option.map_some,Option.some.injEq,Prod.mk.injEq] at he
  obtain ⟨f,h2,k,j⟩:=he
  refine FL o ⟨w.heap.size,M,hint,[]⟩ c r v hr (ho:=ho) (hg:=hg) (hm:=hm) ?_ ⟨e.sat,e.le,e.own⟩ j fun w' d h=>g w' (UH d b M' k h2) h
  cases r <;> simp [Ie] at f
  ·exact .inl (by rw [f])
  ·exact .inr ⟨rfl,f.symm⟩
end
section
variable {P:Program} {ops:Array Oper} {Q:Exit→Act→World→Prop} {md:Region.Mode} {n:Nat} {E:Nat→Value}
theorem L4 {a:Array Bool} {fuel i:Nat} {w0 w:World} {M:List BI} {L T:List Th} (K:Wk w0 w M L T) (o:Oper) (M':List BI) (hint:Nat×Nat) (v:Value) (d:∀ w',Wk w0 w' M' L T→wpAny P md ops Q fuel (a.setIfInBounds i true) (Fr n (Bc E o.dst v)) w') (hr:Region.ready md ops a=[i]:=by kernel_rfl) (ho:ops[i]?=some o:=by kernel_rfl) (hg:o.guard=none:=by kernel_rfl) (he:(CS P (execOp (BN n E) o) ⟨w.heap.size,M,hint,[]⟩).map (fun p=>(Ie p.1,p.2.mem,p.2.eqs.map Prod.fst))=(CS P (execOp (BN n E) o) ⟨w.heap.size,M,hint,[]⟩).map (fun p=>(some v,M',p.2.eqs.map Prod.snd)):=by kernel_rfl) (hs:(CS P (execOp (BN n E) o) ⟨w.heap.size,M,hint,[]⟩).isSome=true:=by kernel_rfl) (hown:M'.all (·.own)=true:=by kernel_rfl):wpAny P md ops Q (fuel + 1) a (Fr n E) w:=by
 cases hm:CS P (execOp (BN n E) o) ⟨w.heap.size,M,hint,[]⟩ with
 | none=>rw [hm] at hs; cases hs
 | some p=>
  have b:=he
  rw [hm] at b
  simp only [Option.map_some,Option.some.injEq,Prod.mk.injEq] at b
  refine Oa o M M' hint p.2.sz v hr ho hg K.H.lies ?_ hs fun w' e c=>d w' ⟨K.B.trans (K.H.keptB c),K.H.run e c hown⟩
  rw [hm]
  simp only [Option.map_some,Option.some.injEq,Prod.mk.injEq]
  exact ⟨b.1,b.2.1,trivial,b.2.2⟩
theorem EB {a:Array Bool} {fuel i:Nat} {w0 w:World} {M:List BI} {L T:List Th} (K:Wk w0 w M L T) (o:Oper) (hint:Nat×Nat) (v:Value)
  (b:∀ w',Wk w0 w' (((CS P (execOp (BN n E) o) ⟨w.heap.size,M,hint,[]⟩).map (·.2.mem)).getD []) L T→wpAny P md ops Q fuel (a.setIfInBounds i true) (Fr n (Bc E o.dst v)) w')
  (hr:Region.ready md ops a=[i]:=by kernel_rfl) (ho:ops[i]?=some o:=by kernel_rfl) (hg:o.guard=none:=by kernel_rfl)
  (he:(CS P (execOp (BN n E) o) ⟨w.heap.size,M,hint,[]⟩).map (fun p=>(Ie p.1,p.2.eqs.map Prod.fst))=(CS P (execOp (BN n E) o) ⟨w.heap.size,M,hint,[]⟩).map (fun p=>(some v,p.2.eqs.map Prod.snd)):=by kernel_rfl)
  (hs:(CS P (execOp (BN n E) o) ⟨w.heap.size,M,hint,[]⟩).isSome=true:=by kernel_rfl) (hown:(((CS P (execOp (BN n E) o) ⟨w.heap.size,M,hint,[]⟩).map (·.2.mem)).getD []).all (·.own)=true:=by kernel_rfl):wpAny P md ops Q (fuel + 1) a (Fr n E) w:=by
 refine L4 K o _ hint v b hr ho hg ?_ hs hown
 cases hm:CS P (execOp (BN n E) o) ⟨w.heap.size,M,hint,[]⟩ with
 | none=>rfl
 | some p=>
  rw [hm] at he
  simp only [Option.map_some,Option.some.injEq,Prod.mk.injEq,Option.getD_some,true_and] at he ⊢
  exact he
theorem DN {a:Array Bool} {fuel:Nat} {w:World} (l:List (Nat×Value)) (b:∀ E',wpAny P md ops Q fuel a (Fr n (Aw E' l)) w) (h:l.map (fun p=>E p.1)=l.map (·.2):=by kernel_rfl):wpAny P md ops Q fuel a (Fr n E) w:=by
 rw [← Fy h]
 exact b E
theorem AH.runsK {o:Oper} {ρ:Operand→Value} {w:World} {K:Value→World→Prop} {O:List Nat} {B:Nat} (ms a:MS) (r:Next) (v:Value) (hv:r=.value v∨(r=.skip∧v=undef)) (c:DH O B w ms) (he:a.eqs.map Prod.fst=a.eqs.map Prod.snd) (h:∀ w',DH O B w' a→EC O B w w'→K v w') (hm:CS P (execOp ρ o) ms=some (r,a):=by kernel_rfl):AH P o ρ w K:=by
 have e:∀ p∈a.eqs,p.1=p.2:=fun p g=>by
  obtain ⟨i,hi⟩:=List.mem_iff_getElem?.1 g
  have d:(a.eqs.map Prod.fst)[i]?=some p.1:=by rw [List.getElem?_map,hi]; rfl
  have h2:(a.eqs.map Prod.snd)[i]?=some p.2:=by rw [List.getElem?_map,hi]; rfl
  rw [he,h2] at d
  exact (Option.some.inj d).symm
 obtain ⟨w',d,h2,f,j⟩:=Jt _ _ _ _ w hm c.sat c.le c.own e
 have b:=h w' ⟨h2,Nat.le_trans c.le f.size,j⟩ f
 unfold AH
 rw [d]
 rcases hv with rfl | ⟨rfl,rfl⟩
 ·exact b
 ·exact b
end
section
variable {P:Program} {f:FuncId} {R:Ending→World→Prop}
theorem mq {n:Nat} {todo:List Item} {E:Nat→Value} {w:World} (hl:LH todo=true) (h:At P f R (Ay todo) (Fr n E) w):At P f R todo (Fr n E) w:=by
 unfold LH at hl
 split at hl
 ·rename_i c k
  exact Di (by simp) (fun _=>step_loop) h
 ·cases hl
theorem ig {n:Nat} {todo:List Item} {E:Nat→Value} {w:World} (hl:LH todo=true) (h:At P f R (Ay todo) (Fr n E) w):At P f R (Aj todo) (Fr n E) w:=by
 unfold LH at hl
 split at hl
 ·rename_i c k
  exact Di (by simp [Aj]) (fun _=>step_inLoop) h
 ·cases hl
end
theorem rowsEx.all0 {w:World} {A:Option Addr} {es:List Ex} (h:rowsEx w A es) (a:0 < es.length):∃ g off,A=some ⟨g,off,none⟩∧g < w.heap.size∧∀ (i:Nat) e,es[i]?=some e→∃ A2 c2,w.rangeAt g (off + i * 10) (CW e A2 c2)∧rowsEx w A2 e.ks:=
 h.all (fun b=>by rw [b] at a; exact absurd a (Nat.lt_irrefl _))
end Go.Proofs.YtmcpjkcggfmcmaaGreatDoor

/-
  Part 16 of a proof: contracts of functions.
-/
import Derived.Test.YtkjbdagicjbjjaaGreatTf15
import Derived.Test.YtkjbdagicjbjjaaGreatTf04
set_option linter.all false
namespace Go.Proofs.YtkjbdagicjbjjaaGreat
noncomputable section
open Go.RowKit
set_option maxRecDepth 100000
set_option maxHeartbeats 1000000
attribute [local irreducible] A8 BL AC AD AF Ao AY AL Aq Bb Cn BR BK At Fr
def DS (ds:List (Df)) (x:Ex):List (Nat)→Int→Bool→Nat×Bool
 | [],a2_0,a2_1=>(0,false)
 | e2 :: tl,a2_0,a2_1=>cond (cond (cond (cond (x.op == 3) (Al (ds.getD e2 default)) (false)) (true) (cond (x.op == 4) ((ds.getD e2 default).kind == 2) (false))) (decide ((ds.getD e2 default).name=x.nm)) (false)) ((e2,true)) (DS ds x tl a2_0 a2_1)
theorem Pq {ds:List (Df)} {x:Ex} {b:Int} {a:Bool}:DS ds x [] b a=((0,false)):=by rw [DS]
theorem OJ {ds:List (Df)} {x:Ex} {b:Int} {a:Bool} {es:List (Nat)} (i c:Nat) (hi:es[i]?=some c):DS ds x (es.drop i) b a=(cond (cond (cond (cond (x.op == 3) (Al (ds.getD c default)) (false)) (true) (cond (x.op == 4) ((ds.getD c default).kind == 2) (false))) (decide ((ds.getD c default).name=x.nm)) (false)) ((c,true)) (DS ds x (es.drop (i + 1)) b a)):=by
 have hl:i < es.length:=(List.getElem?_eq_some_iff.1 hi).1
 have he:es[i]=c:=(List.getElem?_eq_some_iff.1 hi).2
 rw [← List.getElem_cons_drop hl,DS] <;> (try rw [he])
def DJ (ds:List (Df)) (x:Ex):List (Nat)→Int→Bool→Nat×Bool
 | [],a1_0,a1_1=>(0,false)
 | e1 :: tl,a1_0,a1_1=>cond (cond (cond (cond (x.op == 3) (Al (ds.getD e1 default)) (false)) (true) (cond (x.op == 4) ((ds.getD e1 default).kind == 2) (false))) (decide ((ds.getD e1 default).name=x.nm)) (false)) ((e1,true)) (DJ ds x tl a1_0 a1_1)
theorem Pr {ds:List (Df)} {x:Ex} {b:Int} {a:Bool}:DJ ds x [] b a=((0,false)):=by rw [DJ]
theorem OK {ds:List (Df)} {x:Ex} {b:Int} {a:Bool} {es:List (Nat)} (i c:Nat) (hi:es[i]?=some c):DJ ds x (es.drop i) b a=(cond (cond (cond (cond (x.op == 3) (Al (ds.getD c default)) (false)) (true) (cond (x.op == 4) ((ds.getD c default).kind == 2) (false))) (decide ((ds.getD c default).name=x.nm)) (false)) ((c,true)) (DJ ds x (es.drop (i + 1)) b a)):=by
 have hl:i < es.length:=(List.getElem?_eq_some_iff.1 hi).1
 have he:es[i]=c:=(List.getElem?_eq_some_iff.1 hi).2
 rw [← List.getElem_cons_drop hl,DJ] <;> (try rw [he])
def DT (ds:List (Df)) (act:List (Nat)) (x:Ex):List (Df)→Nat→Int→Bool→Nat×Bool
 | [],i0,a0_0,a0_1=>DJ ds x act a0_0 a0_1
 | e0 :: tl,i0,a0_0,a0_1=>cond (cond (e0.kind == 1) (decide (e0.name=x.nm)) (false)) ((i0,true)) (DT ds act x tl (i0 + 1) a0_0 a0_1)
theorem Ps {ds:List (Df)} {c:List (Nat)} {x:Ex} {d:Nat} {b:Int} {a:Bool}:DT ds c x [] d b a=(DJ ds x c b a):=by rw [DT]
theorem OL {ds:List (Df)} {d:List (Nat)} {x:Ex} {c:Int} {b:Bool} {es:List (Df)} (a:Nat) (e:Df) (hi:es[a]?=some e):DT ds d x (es.drop a) a c b=(cond (cond (e.kind == 1) (decide (e.name=x.nm)) (false)) ((a,true)) (DT ds d x (es.drop (a + 1)) (a + 1) c b)):=by
 have hl:a < es.length:=(List.getElem?_eq_some_iff.1 hi).1
 have he:es[a]=e:=(List.getElem?_eq_some_iff.1 hi).2
 rw [← List.getElem_cons_drop hl,DT] <;> (try rw [he])
def Ay (ds:List (Df)) (act:List (Nat)) (x:Ex):Nat×Bool:=cond (x.op == 3) (DT ds act x ds 0 0 false) (DS ds x act 0 false)
noncomputable def lI:Code:=Tryz.f84.body.getD .skip
def mm:=AA 60 ([.code lI])
def mj:=AA 60 (AD mm)
def dD:=AA 60 (Ao mj)
def yI:=AA (Ak Aa 90 (AD dD)) (AD dD)
def yH:=Ai 5 (AC (AC yI))
def yG:=AA 60 (AL yH)
def ADV:=AA 60 (AD yG)
def mh:=AA 60 (AF dD)
def dC:=AA 60 (Ao mh)
def mg:=AA (Ak Aa 90 (AD dC)) (AD dC)
def sQ:=AA (Ak Aa 90 (AC (AC mg))) (AC (AC mg))
def sP:=Ai 12 (AC (AC sQ))
def sO:=Ai 13 (AL sP)
def sN:=AA 60 (AL sO)
def AB3:=AA 60 (AD sN)
def AB2:=AA 60 (AF dC)
def dF:=AA 60 (AF mm)
def Sl:=AA 60 (Ao dF)
def dE:=AA (Ak Aa 90 (AD Sl)) (AD Sl)
def sM:=AA (Ak Aa 90 (AC (AC dE))) (AC (AC dE))
def sL:=Ai 12 (AC (AC sM))
def sK:=Ai 13 (AL sL)
def sJ:=AA 60 (AL sK)
def AB1:=AA 60 (AD sJ)
def AB0:=AA 60 (AF Sl)
theorem Wv (s:List UInt8) (q:Option Addr) (ds:List (Df)) (f:Nat) (c0:Option Addr) (a:List (Nat)) (b0:Nat) (x:Ex) (o:Option Addr) (p:Nat) (w:World) (n1:rowsDf w q ds) (q3:ds.length≤4294967296) (o1:rowsNat w c0 a) (h3:a.length≤4294967296) (e5:rowsEx w o x.ks) (x0:∀ i∈a,i < ds.length):Calls Tryz.prog 84 ([.agg ⟨[By s,.slice q ds.length f]⟩,.slice c0 a.length b0,.agg ⟨[AI x.op,AI x.num,AI x.den,AI x.mu,AI x.hu,AI x.du,By (x.nm),AI x.cnt,AI x.md,.slice o x.ks.length p]⟩]:List Value).toArray w fun e w'=>e=.returned (.tuple #[AI ((((Ay ds a x)).1:Int)),.bool (((Ay ds a x)).2)])∧Below w.heap.size w w':=by
 refine AR (fn:=Tryz.f84) (c:=lI) (n:=75) ?_
 have K1:=Wk.start w
 refine Aj mm K1 [(1,0)] fun w1 K2=>?_
 refine AG (x.op == 3) (fun c2=>?_) (fun c2=>?_)
 ·refine AB mj K2 [(0,1)] fun w3 K3=>?_
  have K4:Wk w w3 [⟨w.heap.size,0,[By s,.slice q ds.length f],27,true⟩,⟨w.heap.size + 1,0,(AW x o p),53,true⟩] [] []:=K3.pk [0,1] []
  have l0:(Ay ds a x)=DT ds a x ds 0 0 false:=by unfold Ay; rw [c2] <;> rfl
  refine AU [(1,.slice c0 a.length b0),(3,BY (w.heap.size)),(5,BY (w.heap.size + 1)),(6,AI 0),(7,.bool false),(18,.slice q ds.length f),(19,AI ((ds.length:Int))),(20,AI (((0:Nat):Int)))] fun E4=>?_
  refine Bd (by kernel_rfl) (fun E k2=>∃ (i0:Nat) (a0:Int) (z:Bool) (E0:Nat→Value),i0≤ds.length∧E=BC E0 [(1,.slice c0 a.length b0),(3,BY (w.heap.size)),(5,BY (w.heap.size + 1)),(6,AI a0),(7,.bool z),(18,.slice q ds.length f),(19,AI ((ds.length:Int))),(20,AI ((i0:Int)))]∧(Ay ds a x)=DT ds a x (List.drop i0 ds) i0 a0 z∧Wk w k2 [⟨w.heap.size,0,[By s,.slice q ds.length f],27,true⟩,⟨w.heap.size + 1,0,(AW x o p),53,true⟩] [] []) (fun E _=>ds.length - AK (E 20)) ⟨0,0,false,E4,Nat.zero_le _,rfl,l0,K4⟩ ?_
  clear l0
  rintro E k2 ⟨i0,a0,z,E0,f7,rfl,l0,K5⟩ m1
  refine AB dD K5 [] fun w6 K6=>?_
  refine AG (decide ((i0:Int) < (ds.length:Int))) (fun c7=>?_) (fun c7=>?_)
  ·have f1:i0 < ds.length:=by have:=of_decide_eq_true c7; omega
   obtain ⟨r,o2⟩:∃ e,ds[i0]?=some e:=⟨_,List.getElem?_eq_getElem f1⟩
   rw [OL i0 r o2] at l0
   obtain ⟨t,v,rfl,n0,p0⟩:=n1.all (by omega)
   obtain ⟨u1,s1,t1,r1,m0,t3,r3⟩:=p0 i0 _ o2
   refine Ae Aa yI K6 [] fun w8 K7=>?_
   refine Au (g:=t) (off:=v) (cap:=f) (sz:=21) (k:=i0) (len:=ds.length) (some 23) f1 Tryz.underlying25 ?_
   refine BI 59 t (v + i0 * 21) [AI r.kind,By (r.name),.bool (r.tb),AI r.tm,AI r.th,AI r.td,AI r.frm,.slice u1 r.ents.length s1,AI r.body.op,AI r.body.num,AI r.body.den,AI r.body.mu,AI r.body.hu,AI r.body.du,By (r.body.nm),AI r.body.cnt,AI r.body.md,.slice t1 r.body.ks.length r1,AI r.mode,AI r.num,AI r.den] (some 24) (Ab m0 n0 K7.B) ?_
   refine Bp 5 yH [⟨w.heap.size,0,[By s,.slice (some ⟨t,v,none⟩) ds.length f],27,true⟩,⟨w.heap.size + 1,0,(AW x o p),53,true⟩,⟨w8.heap.size,0,(Be r u1 s1 t1 r1),59,true⟩] K7 [(2,0)] fun w9 K8=>?_
   refine Ap K8 [(1,2,0),(5,2,1),(7,1,6)] [⟨8,[(30,By (r.name)),(32,By (x.nm))],.bool (decide (r.name=x.nm)),((r.kind == 1)) && (true)⟩] K8.G (fun sp d0=>?_) fun x6 w7 K9=>?_
   ·rw [List.mem_singleton.1 d0]
    exact BG fun _ E u _=>Gw (T:=9) (T':=9) (x:=.tmp 30) (y:=.tmp 32)
   refine AB yG K9 [] fun v6 g3=>?_
   refine AG (cond (r.kind == 1) (decide (r.name=x.nm)) (false)) (fun d2=>?_) (fun d2=>?_)
   ·refine AB ADV g3 [] fun t6 f3=>?_
    have hS:(Ay ds a x)=(i0,true):=by rw [l0,d2] <;> rfl
    exact AJ f3 (0,0) (.tuple #[AI ((i0:Int)),.bool true]) ⟨by rw [hS] <;> rfl,f3.B⟩
   ·refine AB (AY mj) g3 [] fun p3 w4=>?_
    refine AU [(1,.slice c0 a.length b0),(3,BY (w.heap.size)),(5,BY (w.heap.size + 1)),(6,AI a0),(7,.bool z),(18,.slice (some ⟨t,v,none⟩) ds.length f),(19,AI ((ds.length:Int))),(20,AI (IntKind.i64.wrap ((i0:Int) + 1)))] fun c5=>?_
    have v4:Wk w p3 [⟨w.heap.size,0,[By s,.slice (some ⟨t,v,none⟩) ds.length f],27,true⟩,⟨w.heap.size + 1,0,(AW x o p),53,true⟩] [] []:=w4.pk [0,1] []
    rw [Bc i0 (by omega)]
    refine m1 _ _ ⟨i0 + 1,a0,z,c5,f1,rfl,by rw [l0,d2] <;> rfl,v4⟩ ?_
    show ds.length - AK (AI ((i0 + 1:Nat):Int)) < ds.length - AK (AI (i0:Int))
    simp only [AK]
    omega
  ·have n2:i0=ds.length:=by have:=of_decide_eq_false c7; omega
   rw [n2,List.drop_length,Ps] at l0
   refine AB mh K6 [] fun o3 t4=>?_
   have q4:Wk w o3 [⟨w.heap.size,0,[By s,.slice q ds.length f],27,true⟩,⟨w.heap.size + 1,0,(AW x o p),53,true⟩] [] []:=t4.pk [0,1] []
   have k0:(Ay ds a x)=DJ ds x a a0 z:=by rw [l0] <;> rfl
   refine AU [(3,BY (w.heap.size)),(5,BY (w.heap.size + 1)),(6,AI a0),(7,.bool z),(37,.slice c0 a.length b0),(38,AI ((a.length:Int))),(39,AI (((0:Nat):Int)))] fun b5=>?_
   refine Bd (by kernel_rfl) (fun E h2=>∃ (i1:Nat) (t0:Int) (s0:Bool) (E0:Nat→Value),i1≤a.length∧E=BC E0 [(3,BY (w.heap.size)),(5,BY (w.heap.size + 1)),(6,AI t0),(7,.bool s0),(37,.slice c0 a.length b0),(38,AI ((a.length:Int))),(39,AI ((i1:Int)))]∧(Ay ds a x)=DJ ds x (List.drop i1 a) t0 s0∧Wk w h2 [⟨w.heap.size,0,[By s,.slice q ds.length f],27,true⟩,⟨w.heap.size + 1,0,(AW x o p),53,true⟩] [] []) (fun E _=>a.length - AK (E 39)) ⟨0,a0,z,b5,Nat.zero_le _,rfl,k0,q4⟩ ?_
   clear k0
   rintro E h2 ⟨i1,t0,s0,E0,b7,rfl,k0,p4⟩ l1
   refine AB dC p4 [] fun q6 e3=>?_
   refine AG (decide ((i1:Int) < (a.length:Int))) (fun b2=>?_) (fun b2=>?_)
   ·have d1:i1 < a.length:=by have:=of_decide_eq_true b2; omega
    obtain ⟨d,h1⟩:∃ e,a[i1]?=some e:=⟨_,List.getElem?_eq_getElem d1⟩
    rw [OK i1 d h1] at k0
    obtain ⟨t,v,rfl,n0,p0⟩:=o1.all (by omega)
    have m0:=p0 i1 _ h1
    refine Ae Aa mg e3 [] fun m6 c3=>?_
    refine Au (g:=t) (off:=v) (cap:=b0) (sz:=1) (k:=i1) (len:=a.length) (some 41) d1 Tryz.underlying22 ?_
    refine Dh 3 t (v + i1 * 1) (AI ((d:Int))) (some 42) (by simpa using Ab m0 n0 c3.B 0 _ rfl) ?_
    obtain ⟨g0,h0,rfl,p1,q1⟩:=n1.all (Nat.lt_of_le_of_lt (Nat.zero_le _) (x0 _ (List.mem_of_getElem? h1)))
    have v1:ds[d]?=some (ds.getD d default):=getD_some default (x0 _ (List.mem_of_getElem? h1))
    obtain ⟨m,j,l,h,b1,w0,v0⟩:=q1 d _ v1
    refine Ae Aa sQ c3 [(0,1)] fun n3 b3=>?_
    refine Au (g:=g0) (off:=h0) (cap:=f) (sz:=21) (k:=d) (len:=ds.length) (some 46) (x0 _ (List.mem_of_getElem? h1)) Tryz.underlying25 ?_
    refine BI 59 g0 (h0 + d * 21) [AI ((ds.getD d default).kind),By ((ds.getD d default).name),.bool ((ds.getD d default).tb),AI ((ds.getD d default).tm),AI ((ds.getD d default).th),AI ((ds.getD d default).td),AI ((ds.getD d default).frm),.slice m ((ds.getD d default).ents.length) j,AI ((ds.getD d default).body.op),AI ((ds.getD d default).body.num),AI ((ds.getD d default).body.den),AI ((ds.getD d default).body.mu),AI ((ds.getD d default).body.hu),AI ((ds.getD d default).body.du),By ((ds.getD d default).body.nm),AI ((ds.getD d default).body.cnt),AI ((ds.getD d default).body.md),.slice l ((ds.getD d default).body.ks.length) h,AI ((ds.getD d default).mode),AI ((ds.getD d default).num),AI ((ds.getD d default).den)] (some 47) (Ab b1 p1 b3.B) ?_
    refine Bp 12 sP [⟨w.heap.size,0,[By s,.slice (some ⟨g0,h0,none⟩) ds.length f],27,true⟩,⟨w.heap.size + 1,0,(AW x o p),53,true⟩,⟨n3.heap.size,0,(Be (ds.getD d default) m j l h),59,true⟩] b3 [(2,0)] fun k6 a1=>?_
    refine Ap a1 [(1,1,0),(4,2,0),(9,1,0),(13,2,0)] [⟨5,[(52,.agg ⟨[AI ((ds.getD d default).kind),By ((ds.getD d default).name),.bool ((ds.getD d default).tb),AI ((ds.getD d default).tm),AI ((ds.getD d default).th),AI ((ds.getD d default).td),AI ((ds.getD d default).frm),.slice m ((ds.getD d default).ents.length) j,AI ((ds.getD d default).body.op),AI ((ds.getD d default).body.num),AI ((ds.getD d default).body.den),AI ((ds.getD d default).body.mu),AI ((ds.getD d default).body.hu),AI ((ds.getD d default).body.du),By ((ds.getD d default).body.nm),AI ((ds.getD d default).body.cnt),AI ((ds.getD d default).body.md),.slice l ((ds.getD d default).body.ks.length) h,AI ((ds.getD d default).mode),AI ((ds.getD d default).num),AI ((ds.getD d default).den)]⟩)],.bool (Al (ds.getD d default)),((x.op == 3)) && (true)⟩] a1.G (fun sp d0=>?_) fun h6 v7 k4=>?_
    ·rw [List.mem_singleton.1 d0]
     exact AV 57 [.tmp 52] [.agg ⟨[AI ((ds.getD d default).kind),By ((ds.getD d default).name),.bool ((ds.getD d default).tb),AI ((ds.getD d default).tm),AI ((ds.getD d default).th),AI ((ds.getD d default).td),AI ((ds.getD d default).frm),.slice m ((ds.getD d default).ents.length) j,AI ((ds.getD d default).body.op),AI ((ds.getD d default).body.num),AI ((ds.getD d default).body.den),AI ((ds.getD d default).body.mu),AI ((ds.getD d default).body.hu),AI ((ds.getD d default).body.du),By ((ds.getD d default).body.nm),AI ((ds.getD d default).body.cnt),AI ((ds.getD d default).body.md),.slice l ((ds.getD d default).body.ks.length) h,AI ((ds.getD d default).mode),AI ((ds.getD d default).num),AI ((ds.getD d default).den)]⟩] (fun _=>by kernel_rfl) fun hc u hu=>AN hu (GU (ds.getD d default) m j l h u (w0.below (a1.B.trans (hu.mono a1.B.size))) (v0.below (a1.B.trans (hu.mono a1.B.size))))
    refine Am 13 sO k4 [] fun g6 a3=>?_
    refine Ap a3 [(3,2,1),(5,1,6)] [⟨6,[(68,By ((ds.getD d default).name)),(70,By (x.nm))],.bool (decide ((ds.getD d default).name=x.nm)),((cond (cond (x.op == 3) (Al (ds.getD d default)) (false)) (true) (cond (x.op == 4) ((ds.getD d default).kind == 2) (false)))) && (true)⟩] a3.G (fun sp d0=>?_) fun f6 q7 h4=>?_
    ·rw [List.mem_singleton.1 d0]
     exact BG fun _ E u _=>Gw (T:=9) (T':=9) (x:=.tmp 68) (y:=.tmp 70)
    refine AB sN h4 [] fun c6 z2=>?_
    refine AG (cond (cond (cond (x.op == 3) (Al (ds.getD d default)) (false)) (true) (cond (x.op == 4) ((ds.getD d default).kind == 2) (false))) (decide ((ds.getD d default).name=x.nm)) (false)) (fun a2=>?_) (fun a2=>?_)
    ·refine AB AB3 z2 [] fun b6 x2=>?_
     have hS:(Ay ds a x)=(d,true):=by rw [k0,a2] <;> rfl
     exact AJ x2 (0,0) (.tuple #[AI ((d:Int)),.bool true]) ⟨by rw [hS] <;> rfl,x2.B⟩
    ·refine AB (AY mh) z2 [] fun m3 g4=>?_
     refine AU [(3,BY (w.heap.size)),(5,BY (w.heap.size + 1)),(6,AI t0),(7,.bool s0),(37,.slice (some ⟨t,v,none⟩) a.length b0),(38,AI ((a.length:Int))),(39,AI (IntKind.i64.wrap ((i1:Int) + 1)))] fun a5=>?_
     have f4:Wk w m3 [⟨w.heap.size,0,[By s,.slice (some ⟨g0,h0,none⟩) ds.length f],27,true⟩,⟨w.heap.size + 1,0,(AW x o p),53,true⟩] [] []:=g4.pk [0,1] []
     rw [Bc i1 (by omega)]
     refine l1 _ _ ⟨i1 + 1,t0,s0,a5,d1,rfl,by rw [k0,a2] <;> rfl,f4⟩ ?_
     show a.length - AK (AI ((i1 + 1:Nat):Int)) < a.length - AK (AI (i1:Int))
     simp only [AK]
     omega
   ·have m2:i1=a.length:=by have:=of_decide_eq_false b2; omega
    rw [m2,List.drop_length,Pr] at k0
    refine AB AB2 e3 [] fun a6 w2=>?_
    have hS:(Ay ds a x)=(0,false):=by rw [k0] <;> rfl
    exact AJ w2 (0,0) (.tuple #[AI 0,.bool false]) ⟨by rw [hS] <;> rfl,w2.B⟩
 ·refine AB dF K2 [] fun l3 e4=>?_
  have c4:Wk w l3 [⟨w.heap.size,0,[By s,.slice q ds.length f],27,true⟩,⟨w.heap.size + 1,0,(AW x o p),53,true⟩] [] []:=e4.pk [0,1] []
  have j0:(Ay ds a x)=DS ds x a 0 false:=by unfold Ay; rw [c2] <;> rfl
  refine AU [(3,BY (w.heap.size)),(5,BY (w.heap.size + 1)),(6,AI 0),(7,.bool false),(37,.slice c0 a.length b0),(38,AI ((a.length:Int))),(39,AI (((0:Nat):Int)))] fun z4=>?_
  refine Bd (by kernel_rfl) (fun E g2=>∃ (i2:Nat) (r0:Int) (q0:Bool) (E0:Nat→Value),i2≤a.length∧E=BC E0 [(3,BY (w.heap.size)),(5,BY (w.heap.size + 1)),(6,AI r0),(7,.bool q0),(37,.slice c0 a.length b0),(38,AI ((a.length:Int))),(39,AI ((i2:Int)))]∧(Ay ds a x)=DS ds x (List.drop i2 a) r0 q0∧Wk w g2 [⟨w.heap.size,0,[By s,.slice q ds.length f],27,true⟩,⟨w.heap.size + 1,0,(AW x o p),53,true⟩] [] []) (fun E _=>a.length - AK (E 39)) ⟨0,0,false,z4,Nat.zero_le _,rfl,j0,c4⟩ ?_
  clear j0
  rintro E g2 ⟨i2,r0,q0,E0,a7,rfl,j0,b4⟩ k1
  refine AB Sl b4 [] fun z5 v2=>?_
  refine AG (decide ((i2:Int) < (a.length:Int))) (fun z1=>?_) (fun z1=>?_)
  ·have c1:i2 < a.length:=by have:=of_decide_eq_true z1; omega
   obtain ⟨b,g1⟩:∃ e,a[i2]?=some e:=⟨_,List.getElem?_eq_getElem c1⟩
   rw [OJ i2 b g1] at j0
   obtain ⟨t,v,rfl,n0,p0⟩:=o1.all (by omega)
   have m0:=p0 i2 _ g1
   refine Ae Aa dE v2 [] fun x5 u2=>?_
   refine Au (g:=t) (off:=v) (cap:=b0) (sz:=1) (k:=i2) (len:=a.length) (some 41) c1 Tryz.underlying22 ?_
   refine Dh 3 t (v + i2 * 1) (AI ((b:Int))) (some 42) (by simpa using Ab m0 n0 u2.B 0 _ rfl) ?_
   obtain ⟨g0,h0,rfl,p1,q1⟩:=n1.all (Nat.lt_of_le_of_lt (Nat.zero_le _) (x0 _ (List.mem_of_getElem? g1)))
   have v1:ds[b]?=some (ds.getD b default):=getD_some default (x0 _ (List.mem_of_getElem? g1))
   obtain ⟨m,j,l,h,b1,w0,v0⟩:=q1 b _ v1
   refine Ae Aa sM u2 [(0,1)] fun k3 t2=>?_
   refine Au (g:=g0) (off:=h0) (cap:=f) (sz:=21) (k:=b) (len:=ds.length) (some 46) (x0 _ (List.mem_of_getElem? g1)) Tryz.underlying25 ?_
   refine BI 59 g0 (h0 + b * 21) [AI ((ds.getD b default).kind),By ((ds.getD b default).name),.bool ((ds.getD b default).tb),AI ((ds.getD b default).tm),AI ((ds.getD b default).th),AI ((ds.getD b default).td),AI ((ds.getD b default).frm),.slice m ((ds.getD b default).ents.length) j,AI ((ds.getD b default).body.op),AI ((ds.getD b default).body.num),AI ((ds.getD b default).body.den),AI ((ds.getD b default).body.mu),AI ((ds.getD b default).body.hu),AI ((ds.getD b default).body.du),By ((ds.getD b default).body.nm),AI ((ds.getD b default).body.cnt),AI ((ds.getD b default).body.md),.slice l ((ds.getD b default).body.ks.length) h,AI ((ds.getD b default).mode),AI ((ds.getD b default).num),AI ((ds.getD b default).den)] (some 47) (Ab b1 p1 t2.B) ?_
   refine Bp 12 sL [⟨w.heap.size,0,[By s,.slice (some ⟨g0,h0,none⟩) ds.length f],27,true⟩,⟨w.heap.size + 1,0,(AW x o p),53,true⟩,⟨k3.heap.size,0,(Be (ds.getD b default) m j l h),59,true⟩] t2 [(2,0)] fun w5 z0=>?_
   refine Ap z0 [(1,1,0),(4,2,0),(9,1,0),(13,2,0)] [⟨5,[(52,.agg ⟨[AI ((ds.getD b default).kind),By ((ds.getD b default).name),.bool ((ds.getD b default).tb),AI ((ds.getD b default).tm),AI ((ds.getD b default).th),AI ((ds.getD b default).td),AI ((ds.getD b default).frm),.slice m ((ds.getD b default).ents.length) j,AI ((ds.getD b default).body.op),AI ((ds.getD b default).body.num),AI ((ds.getD b default).body.den),AI ((ds.getD b default).body.mu),AI ((ds.getD b default).body.hu),AI ((ds.getD b default).body.du),By ((ds.getD b default).body.nm),AI ((ds.getD b default).body.cnt),AI ((ds.getD b default).body.md),.slice l ((ds.getD b default).body.ks.length) h,AI ((ds.getD b default).mode),AI ((ds.getD b default).num),AI ((ds.getD b default).den)]⟩)],.bool (Al (ds.getD b default)),((x.op == 3)) && (true)⟩] z0.G (fun sp d0=>?_) fun v5 k7 a4=>?_
   ·rw [List.mem_singleton.1 d0]
    exact AV 57 [.tmp 52] [.agg ⟨[AI ((ds.getD b default).kind),By ((ds.getD b default).name),.bool ((ds.getD b default).tb),AI ((ds.getD b default).tm),AI ((ds.getD b default).th),AI ((ds.getD b default).td),AI ((ds.getD b default).frm),.slice m ((ds.getD b default).ents.length) j,AI ((ds.getD b default).body.op),AI ((ds.getD b default).body.num),AI ((ds.getD b default).body.den),AI ((ds.getD b default).body.mu),AI ((ds.getD b default).body.hu),AI ((ds.getD b default).body.du),By ((ds.getD b default).body.nm),AI ((ds.getD b default).body.cnt),AI ((ds.getD b default).body.md),.slice l ((ds.getD b default).body.ks.length) h,AI ((ds.getD b default).mode),AI ((ds.getD b default).num),AI ((ds.getD b default).den)]⟩] (fun _=>by kernel_rfl) fun hc u hu=>AN hu (GU (ds.getD b default) m j l h u (w0.below (z0.B.trans (hu.mono z0.B.size))) (v0.below (z0.B.trans (hu.mono z0.B.size))))
   refine Am 13 sK a4 [] fun t5 s2=>?_
   refine Ap s2 [(3,2,1),(5,1,6)] [⟨6,[(68,By ((ds.getD b default).name)),(70,By (x.nm))],.bool (decide ((ds.getD b default).name=x.nm)),((cond (cond (x.op == 3) (Al (ds.getD b default)) (false)) (true) (cond (x.op == 4) ((ds.getD b default).kind == 2) (false)))) && (true)⟩] s2.G (fun sp d0=>?_) fun q5 h7 z3=>?_
   ·rw [List.mem_singleton.1 d0]
    exact BG fun _ E u _=>Gw (T:=9) (T':=9) (x:=.tmp 68) (y:=.tmp 70)
   refine AB sJ z3 [] fun k5 r2=>?_
   refine AG (cond (cond (cond (x.op == 3) (Al (ds.getD b default)) (false)) (true) (cond (x.op == 4) ((ds.getD b default).kind == 2) (false))) (decide ((ds.getD b default).name=x.nm)) (false)) (fun x1=>?_) (fun x1=>?_)
   ·refine AB AB1 r2 [] fun h5 q2=>?_
    have hS:(Ay ds a x)=(b,true):=by rw [j0,x1] <;> rfl
    exact AJ q2 (0,0) (.tuple #[AI ((b:Int)),.bool true]) ⟨by rw [hS] <;> rfl,q2.B⟩
   ·refine AB (AY dF) r2 [] fun i3 x3=>?_
    refine AU [(3,BY (w.heap.size)),(5,BY (w.heap.size + 1)),(6,AI r0),(7,.bool q0),(37,.slice (some ⟨t,v,none⟩) a.length b0),(38,AI ((a.length:Int))),(39,AI (IntKind.i64.wrap ((i2:Int) + 1)))] fun x4=>?_
    have v3:Wk w i3 [⟨w.heap.size,0,[By s,.slice (some ⟨g0,h0,none⟩) ds.length f],27,true⟩,⟨w.heap.size + 1,0,(AW x o p),53,true⟩] [] []:=x3.pk [0,1] []
    rw [Bc i2 (by omega)]
    refine k1 _ _ ⟨i2 + 1,r0,q0,x4,c1,rfl,by rw [j0,x1] <;> rfl,v3⟩ ?_
    show a.length - AK (AI ((i2 + 1:Nat):Int)) < a.length - AK (AI (i2:Int))
    simp only [AK]
    omega
  ·have l2:i2=a.length:=by have:=of_decide_eq_false z1; omega
   rw [l2,List.drop_length,Pq] at j0
   refine AB AB0 v2 [] fun g5 p2=>?_
   have hS:(Ay ds a x)=(0,false):=by rw [j0] <;> rfl
   exact AJ p2 (0,0) (.tuple #[AI 0,.bool false]) ⟨by rw [hS] <;> rfl,p2.B⟩
def C3 (p0a:List UInt8) (ds:List (Df)) (p1:Int):List Nat:=cond (!(DF p0a ds p1 == 0)) ([]) ((An ds p1))
noncomputable def lN:Code:=Tryz.f37.body.getD .skip
def yU:=AA 60 ([.code lN])
def mw:=AA 60 (AC yU)
def ADg:=AA 60 (AD mw)
def yT:=AA 60 (AF mw)
def ADf:=AA 60 (AC yT)
theorem eR (a:List UInt8) (b:Option Addr) (ds:List (Df)) (f:Nat) (p1:Int) (w:World) (g:rowsDf w b ds) (j:ds.length≤4294967296) (hs:a.length≤4294967296) (ht:∀ d∈ds,FU d):Calls Tryz.prog 37 ([.agg ⟨[By a,.slice b ds.length f]⟩,AI p1]:List Value).toArray w fun e w'=>∃ (l:Option Addr) (k:Nat),e=.returned (.slice l ((C3 a ds p1).length) k)∧Below w.heap.size w w'∧Ac w.heap.size w' [BN l k (C3 a ds p1)]:=by
 refine AR (fn:=Tryz.f37) (c:=lN) (n:=12) ?_
 have K1:=Wk.start w
 refine Af yU [⟨w.heap.size,0,[By a,.slice b ds.length f],27,true⟩] K1 [(0,0)] fun x u=>?_
 refine AQ u (args:=[.agg ⟨[By a,.slice b ds.length f]⟩,AI p1]) (MA a _ ds _ p1 x (g.below u.B) j hs ht) fun w2 K3=>?_
 refine AB mw K3 [] fun w3 t=>?_
 refine AG (!(DF a ds p1 == 0)) (fun o=>?_) (fun o=>?_)
 ·have K5:=t.addNil 3 1 (fun e r=>r=FV e)
  refine AB ADg K5 [] fun w5 q=>?_
  have m:(C3 a ds p1)=[]:=by unfold C3; rw [o] <;> rfl
  exact AJ q (0,0) (.slice none 0 0) ⟨none,0,by rw [m] <;> rfl,q.B,by rw [m]; exact q.own0 [0] rfl (by decide)⟩
 ·refine AB yT t [(0,0)] fun v s=>?_
  refine A7 (MC a b ds f p1 v (g.below s.B) (by first | assumption | omega | (simp <;> omega))) fun en w8 y=>?_
  obtain ⟨i,h,rfl,z,Hn⟩:=y
  refine ⟨_,rfl,?_⟩
  have K8:=s.join z Hn
  refine AB ADf K8 [] fun w9 p=>?_
  have m:(C3 a ds p1)=(An ds p1):=by unfold C3; rw [o] <;> rfl
  exact AJ p (0,0) (.slice i ((An ds p1).length) h) ⟨i,h,by rw [m] <;> rfl,p.B,by rw [m]; exact p.own0 [0] rfl (by decide)⟩
end
end Go.Proofs.YtkjbdagicjbjjaaGreat
namespace Go.Proofs.YtkjbdagicjbjjaaGreat
noncomputable section
open Go.RowKit
set_option maxRecDepth 100000
set_option maxHeartbeats 1000000
attribute [local irreducible] A8 BL AC AD AF Ao AY AL Aq Bb Cn BR BK At Fr
mutual
def NM:Ex→List Ex
 | .mk op a b c d e nm cnt md ks=>cond (cond (op == 3) true (op == 4)) [.mk op a b c d e nm cnt md ks] []++Gt ks
def Gt:List Ex→List Ex
 | []=>[]
 | e :: es=>NM e++Gt es
end
mutual
def nE:Ex→Nat
 | .mk _ _ _ _ _ _ _ _ _ ks=>1 + FH ks
def FH:List Ex→Nat
 | []=>0
 | e :: es=>nE e + FH es
end
mutual
theorem VV:∀ e:Ex,(NM e).length≤nE e
 | .mk op a b c d e nm cnt md ks=>by
  rw [NM,nE,List.length_append]
  have h:=RP ks
  cases cond (op == 3) true (op == 4) <;> simp only [cond_true,cond_false,List.length_cons,List.length_nil] <;> omega
theorem RP:∀ es:List Ex,(Gt es).length≤FH es
 | []=>Nat.le_refl _
 | e :: es=>by
  rw [Gt,FH,List.length_append]
  have a:=VV e
  have h2:=RP es
  omega
end
theorem m7 (x:Ex):NM x=cond (cond (x.op == 3) true (x.op == 4)) [x] []++Gt x.ks:=by
 cases x with
 | mk=>rw [NM]; rfl
theorem NN (x:Ex):nE x=1 + FH x.ks:=by
 cases x with
 | mk=>rw [nE]; rfl
theorem dw {x e:Ex} {i:Nat} (h:x.ks[i]?=some e):e.height < x.height:=by
 cases x with
 | mk a1 a2 a3 a4 a5 a6 a7 a8 a9 ks=>
  have:=Is (show ks[i]?=some e from h)
  rw [Ex.height]
  omega
theorem NT {α:Type} {l:List α} {i:Nat} {e:α} (h:l[i]?=some e):l.drop i=e :: l.drop (i + 1):=by
 have hl:i < l.length:=(List.getElem?_eq_some_iff.1 h).1
 rw [← List.getElem_cons_drop hl,(List.getElem?_eq_some_iff.1 h).2]
theorem nh {x:Ex} (h:DR x):x.ks.length≤4294967296:=by
 cases x with
 | mk=>exact h.2.1
def BU (l:List Ex) (x:Ex):List Ex:=l++NM x
theorem Lg (l:List Ex) (x:Ex):(BU l x).length≤l.length + nE x:=by
 have:=VV x
 unfold BU
 rw [List.length_append]
 omega
def Ep:List (Ex)→List Ex→List Ex
 | [],a1_0=>a1_0
 | e1 :: tl,a1_0=>Ep tl (BU a1_0 e1)
theorem VW {a:List Ex}:Ep [] a=(a):=by rw [Ep]
theorem Rq {a:List Ex} {es:List (Ex)} (i:Nat) (b:Ex) (hi:es[i]?=some b):Ep (es.drop i) a=(Ep (es.drop (i + 1)) (BU a b)):=by
 have hl:i < es.length:=(List.getElem?_eq_some_iff.1 hi).1
 have he:es[i]=b:=(List.getElem?_eq_some_iff.1 hi).2
 rw [← List.getElem_cons_drop hl,Ep] <;> (try rw [he])
def Er:List (Ex)→List Ex→List Ex
 | [],a0_0=>a0_0
 | e0 :: tl,a0_0=>Er tl (BU a0_0 e0)
theorem VX {a:List Ex}:Er [] a=(a):=by rw [Er]
theorem Rr {a:List Ex} {es:List (Ex)} (i:Nat) (b:Ex) (hi:es[i]?=some b):Er (es.drop i) a=(Er (es.drop (i + 1)) (BU a b)):=by
 have hl:i < es.length:=(List.getElem?_eq_some_iff.1 hi).1
 have he:es[i]=b:=(List.getElem?_eq_some_iff.1 hi).2
 rw [← List.getElem_cons_drop hl,Er] <;> (try rw [he])
def Hd (l:List Ex) (x:Ex):List Ex:=cond (cond (x.op == 3) (true) (x.op == 4)) (Er x.ks (l++[x])) (Ep x.ks l)
noncomputable def kt:Code:=Tryz.f83.body.getD .skip
def xU:=Ai 1 ([.code kt])
def cI:=AA 60 (AL xU)
def mO:=AA (Ak BS 90 (AD cI)) (AD cI)
def mN:=AA 60 (AC mO)
def cH:=AA 60 (Ao mN)
def xT:=AA (Ak Aa 90 (AD cH)) (AD cH)
def AC8:=AA 60 (AC (AC xT))
def AC7:=AA 60 (AF cH)
def mM:=AA 60 (AF cI)
def cG:=AA 60 (Ao mM)
def ra:=AA (Ak Aa 90 (AD cG)) (AD cG)
def ABb:=AA 60 (AC (AC ra))
def ABa:=AA 60 (AF cG)
theorem ji (L:List Th) (t:Option Addr) (l:List Ex) (s:Nat) (x:Ex) (f:Option Addr) (a:Nat) (w we:World) (v0:rowsEx w f x.ks) (k1:DR x) (l1:∀ (L:List Th) (t:Option Addr) (l:List Ex) (s:Nat) (x':Ex) (f:Option Addr) (a:Nat) (w we:World),rowsEx w f x'.ks→x'∈x.ks→l.length + nE x'≤100000000→Below w.heap.size w we→Ac w.heap.size we ([FL w t s l]++L)→Calls Tryz.prog 83 ([.slice t l.length s,.agg ⟨AW x' f a⟩]:List Value).toArray we fun e w'=>∃ (l0:Option Addr) (k0:Nat),e=.returned (.slice l0 (BU l x').length k0)∧Below w.heap.size w w'∧Ac w.heap.size w' ([FL w l0 k0 (BU l x')]++L)) (hb:l.length + nE x≤100000000) (B:Below w.heap.size w we) (H:Ac w.heap.size we ([(FL w t s l)]++L)):Calls Tryz.prog 83 ([.slice t l.length s,.agg ⟨[AI x.op,AI x.num,AI x.den,AI x.mu,AI x.hu,AI x.du,By (x.nm),AI x.cnt,AI x.md,.slice f x.ks.length a]⟩]:List Value).toArray we fun e w'=>∃ (l0:Option Addr) (k0:Nat),e=.returned (.slice l0 ((Hd l x).length) k0)∧Below w.heap.size w w'∧Ac w.heap.size w' ([FL w l0 k0 (Hd l x)]++L):=by
 refine AR (fn:=Tryz.f83) (c:=kt) (n:=31) ?_
 have K1:Wk w we [] [(FL w t s l)] L:=⟨B,H⟩
 clear B H
 have c3:=nh k1
 refine Bp 1 xU [⟨we.heap.size,0,(AW x f a),53,true⟩] K1 [] fun w1 K2=>?_
 refine Ap K2 [(1,0,0),(5,0,0)] [] K2.G (fun sp d2=>by cases d2) fun w2 E2 K3=>?_
 refine AB cI K3 [] fun w3 K4=>?_
 refine AG (cond (x.op == 3) (true) (x.op == 4)) (fun c4=>?_) (fun c4=>?_)
 ·refine CA BS mO [⟨we.heap.size,0,(AW x f a),53,true⟩,⟨w3.heap.size,0,(AW x f a),53,true⟩] K4 [(0,0)] fun w5 K5=>?_
  refine Cg K5.H (K5.ix 0) (K5.at 0 rfl) x [AI x.op,AI x.num,AI x.den,AI x.mu,AI x.hu,AI x.du,By (x.nm),AI x.cnt,AI x.md,.slice f x.ks.length a] (V1 v0) (w3.heap.size) (K5.ent 1 (by kernel_rfl)) (Br mO) (by kernel_rfl) (.tmp 15) (.tmp 17) 51 (by kernel_rfl) (by kernel_rfl) (by kernel_rfl) (by decide) (by kernel_rfl) (by kernel_rfl) rfl rfl (by ((try simp only [maxLen,List.length_append,List.length_cons,List.length_nil,List.length_singleton]) <;> omega)) fun A6 c6 w6 Hn b6=>?_
  have K6:=K5.put 0 (by simp) b6 Hn
  refine AB mN K6 [(0,9)] fun w7 K7=>?_
  have K8:Wk w w7 [] [(FL w A6 c6 (l++[x]))] L:=K7.pk [] [0]
  have z:(Hd l x)=Er x.ks (l++[x]):=by unfold Hd; rw [c4] <;> rfl
  refine AU [(0,.slice A6 ((l++[x]).length) c6),(4,.slice none 0 0),(20,.slice f x.ks.length a),(21,AI ((x.ks.length:Int))),(22,AI (((0:Nat):Int)))] fun E8=>?_
  refine Bd (by kernel_rfl) (fun E h1=>∃ (v:Nat) (d:List Ex) (p:Option Addr) (o:Nat) (E0:Nat→Value),v≤x.ks.length∧E=BC E0 [(0,.slice p d.length o),(4,.slice none 0 0),(20,.slice f x.ks.length a),(21,AI ((x.ks.length:Int))),(22,AI ((v:Int)))]∧(Hd l x)=Er (List.drop v x.ks) d∧d.length + FH (List.drop v x.ks)≤100000000∧Wk w h1 [] [(FL w p o d)] L) (fun E _=>x.ks.length - AK (E 22)) ⟨0,(l++[x]),A6,c6,E8,Nat.zero_le _,rfl,z,by (rw [NN] at hb; simp only [List.drop_zero,List.length_append,List.length_singleton]; omega),K8⟩ ?_
  clear z
  rintro E h1 ⟨v,d,p,o,E0,f3,rfl,z,a1,K9⟩ t0
  refine AB cH K9 [] fun b3 t1=>?_
  refine AG (decide ((v:Int) < (x.ks.length:Int))) (fun c1=>?_) (fun c1=>?_)
  ·have p0:v < x.ks.length:=by have:=of_decide_eq_true c1; omega
   obtain ⟨r,r0⟩:∃ e,x.ks[v]?=some e:=⟨_,List.getElem?_eq_getElem p0⟩
   rw [Rr v r r0] at z
   obtain ⟨b0,c0,rfl,w0,x0⟩:=v0.all0 (by omega)
   obtain ⟨i,h,m0,a0⟩:=x0 v _ r0
   refine Ae Aa xT t1 [] fun c2 s1=>?_
   refine Au (g:=b0) (off:=c0) (cap:=a) (sz:=10) (k:=v) (len:=x.ks.length) (some 24) p0 Tryz.underlying51 ?_
   refine BI 53 b0 (c0 + v * 10) [AI r.op,AI r.num,AI r.den,AI r.mu,AI r.hu,AI r.du,By (r.nm),AI r.cnt,AI r.md,.slice i r.ks.length h] (some 25) (Ab m0 w0 s1.B) ?_
   refine Af AC8 [⟨c2.heap.size,0,(AW r i h),53,true⟩] s1 [(0,0),(0,0)] fun b2 r1=>?_
   have Kf:=(r1.pickL (L':=[(FL w p o d)]++[]) [0] rfl (by decide)).front
   refine A7 (args:=[.slice p d.length o,.agg ⟨[AI r.op,AI r.num,AI r.den,AI r.mu,AI r.hu,AI r.du,By (r.nm),AI r.cnt,AI r.md,.slice i r.ks.length h]⟩]) (l1 _ p d o r i h w b2 a0 (List.mem_of_getElem? r0) (by rw [NT r0] at a1; simp only [FH] at a1; omega) r1.B Kf) fun en a3 hh=>?_
   obtain ⟨j0,g0,rfl,g2,Hn⟩:=hh
   refine ⟨_,rfl,?_⟩
   have q2:=Wk.unfront g2 Hn
   refine AB (AY mN) q2 [] fun a2 p2=>?_
   refine AU [(0,.slice j0 ((BU d r).length) g0),(4,.slice none 0 0),(20,.slice (some ⟨b0,c0,none⟩) x.ks.length a),(21,AI ((x.ks.length:Int))),(22,AI (IntKind.i64.wrap ((v:Int) + 1)))] fun t2=>?_
   have o2:Wk w a2 [] [(FL w j0 g0 (BU d r))] L:=p2.pk [] [0]
   rw [Bc v (by omega)]
   refine t0 _ _ ⟨v + 1,(BU d r),j0,g0,t2,p0,rfl,by rw [z] <;> rfl,by (rw [NT r0] at a1; simp only [FH] at a1; have:=Lg d r; omega),o2⟩ ?_
   show x.ks.length - AK (AI ((v + 1:Nat):Int)) < x.ks.length - AK (AI (v:Int))
   simp only [AK]
   omega
  ·have n1:v=x.ks.length:=by have:=of_decide_eq_false c1; omega
   rw [n1,List.drop_length,VX] at z
   refine AB AC7 t1 [] fun z2 f1=>?_
   have hS:(Hd l x)=d:=by rw [z] <;> rfl
   exact AJ f1 (0,0) (.slice p d.length o) ⟨p,o,by rw [hS] <;> rfl,f1.B,by rw [hS]; exact f1.own [0] rfl (by decide)⟩
 ·refine AB mM K4 [(0,9)] fun z1 n2=>?_
  have m2:Wk w z1 [] [(FL w t s l)] L:=n2.pk [] [0]
  have y:(Hd l x)=Ep x.ks l:=by unfold Hd; rw [c4] <;> rfl
  refine AU [(0,.slice t l.length s),(4,.slice none 0 0),(20,.slice f x.ks.length a),(21,AI ((x.ks.length:Int))),(22,AI (((0:Nat):Int)))] fun s2=>?_
  refine Bd (by kernel_rfl) (fun E g1=>∃ (u:Nat) (b:List Ex) (m:Option Addr) (j:Nat) (E0:Nat→Value),u≤x.ks.length∧E=BC E0 [(0,.slice m b.length j),(4,.slice none 0 0),(20,.slice f x.ks.length a),(21,AI ((x.ks.length:Int))),(22,AI ((u:Int)))]∧(Hd l x)=Ep (List.drop u x.ks) b∧b.length + FH (List.drop u x.ks)≤100000000∧Wk w g1 [] [(FL w m j b)] L) (fun E _=>x.ks.length - AK (E 22)) ⟨0,l,t,s,s2,Nat.zero_le _,rfl,y,by (rw [NN] at hb; simp only [List.drop_zero,List.length_append,List.length_singleton]; omega),m2⟩ ?_
  clear y
  rintro E g1 ⟨u,b,m,j,E0,e3,rfl,y,z0,l2⟩ s0
  refine AB cG l2 [] fun x2 q1=>?_
  refine AG (decide ((u:Int) < (x.ks.length:Int))) (fun b1=>?_) (fun b1=>?_)
  ·have n0:u < x.ks.length:=by have:=of_decide_eq_true b1; omega
   obtain ⟨q,q0⟩:∃ e,x.ks[u]?=some e:=⟨_,List.getElem?_eq_getElem n0⟩
   rw [Rq u q q0] at y
   obtain ⟨b0,c0,rfl,w0,x0⟩:=v0.all0 (by omega)
   obtain ⟨i,h,m0,a0⟩:=x0 u _ q0
   refine Ae Aa ra q1 [] fun x1 p1=>?_
   refine Au (g:=b0) (off:=c0) (cap:=a) (sz:=10) (k:=u) (len:=x.ks.length) (some 24) n0 Tryz.underlying51 ?_
   refine BI 53 b0 (c0 + u * 10) [AI q.op,AI q.num,AI q.den,AI q.mu,AI q.hu,AI q.du,By (q.nm),AI q.cnt,AI q.md,.slice i q.ks.length h] (some 25) (Ab m0 w0 p1.B) ?_
   refine Af ABb [⟨x1.heap.size,0,(AW q i h),53,true⟩] p1 [(0,0),(0,0)] fun v1 o1=>?_
   have Kf:=(o1.pickL (L':=[(FL w m j b)]++[]) [0] rfl (by decide)).front
   refine A7 (args:=[.slice m b.length j,.agg ⟨[AI q.op,AI q.num,AI q.den,AI q.mu,AI q.hu,AI q.du,By (q.nm),AI q.cnt,AI q.md,.slice i q.ks.length h]⟩]) (l1 _ m b j q i h w v1 a0 (List.mem_of_getElem? q0) (by rw [NT q0] at z0; simp only [FH] at z0; omega) o1.B Kf) fun en v2 hh=>?_
   obtain ⟨h0,d0,rfl,e2,Hn⟩:=hh
   refine ⟨_,rfl,?_⟩
   have k2:=Wk.unfront e2 Hn
   refine AB (AY mM) k2 [] fun u1 i2=>?_
   refine AU [(0,.slice h0 ((BU b q).length) d0),(4,.slice none 0 0),(20,.slice (some ⟨b0,c0,none⟩) x.ks.length a),(21,AI ((x.ks.length:Int))),(22,AI (IntKind.i64.wrap ((u:Int) + 1)))] fun r2=>?_
   have h2:Wk w u1 [] [(FL w h0 d0 (BU b q))] L:=i2.pk [] [0]
   rw [Bc u (by omega)]
   refine s0 _ _ ⟨u + 1,(BU b q),h0,d0,r2,n0,rfl,by rw [y] <;> rfl,by (rw [NT q0] at z0; simp only [FH] at z0; have:=Lg b q; omega),h2⟩ ?_
   show x.ks.length - AK (AI ((u + 1:Nat):Int)) < x.ks.length - AK (AI (u:Int))
   simp only [AK]
   omega
  ·have m1:u=x.ks.length:=by have:=of_decide_eq_false b1; omega
   rw [m1,List.drop_length,VW] at y
   refine AB ABa q1 [] fun u2 d1=>?_
   have hS:(Hd l x)=b:=by rw [y] <;> rfl
   exact AJ d1 (0,0) (.slice m b.length j) ⟨m,j,by rw [hS] <;> rfl,d1.B,by rw [hS]; exact d1.own [0] rfl (by decide)⟩
def nv (n:Nat):Prop:=∀ (L:List Th) (p0A:Option Addr) (l:List Ex) (p0c:Nat) (x:Ex) (p1A0:Option Addr) (p1c0:Nat) (w we:World),rowsEx w p1A0 x.ks→x.height≤n→DR x→l.length + nE x≤100000000→Below w.heap.size w we→Ac w.heap.size we ([FL w p0A p0c l]++L)→Calls Tryz.prog 83 ([.slice p0A l.length p0c,.agg ⟨AW x p1A0 p1c0⟩]:List Value).toArray we fun e w'=>∃ (rA0:Option Addr) (rc0:Nat),e=.returned (.slice rA0 (BU l x).length rc0)∧Below w.heap.size w w'∧Ac w.heap.size w' ([FL w rA0 rc0 (BU l x)]++L)
theorem RO {x:Ex}:∀ (ks a:List Ex),Er ks a=a++Gt ks
 | [],a=>by rw [Er,Gt,List.append_nil]
 | e :: es,a=>by rw [Er,Gt,RO (x:=x) es,BU,List.append_assoc]
theorem Pg {x:Ex}:∀ (ks a:List Ex),Ep ks a=a++Gt ks
 | [],a=>by rw [Ep,Gt,List.append_nil]
 | e :: es,a=>by rw [Ep,Gt,Pg (x:=x) es,BU,List.append_assoc]
theorem m8 (l:List Ex) (x:Ex):Hd l x=BU l x:=by
 unfold Hd
 rw [RO (x:=x),Pg (x:=x),BU,m7]
 cases cond (x.op == 3) true (x.op == 4) <;> simp
theorem VU:∀ (n:Nat),nv n
 | 0=>fun L e l d x b a w h c g=>by
  cases x with
  | mk=>rw [Ex.height] at g; omega
 | n + 1=>fun L e l d x b a w h c g f hb B H=>by
  have:=ji L e l d x b a w h c f (fun L e l d j b a w h c hm hb B H=>VU n L e l d j b a w h c ?_ ?_ hb B H) hb B H
  ·rwa [m8] at this
  ·obtain ⟨i,hi⟩:=List.mem_iff_getElem?.1 hm
   have:=dw hi
   omega
  ·obtain ⟨i,hi⟩:=List.mem_iff_getElem?.1 hm
   cases x with
   | mk=>exact L4 f.2.2 hi
end
end Go.Proofs.YtkjbdagicjbjjaaGreat
namespace Go.Proofs.YtkjbdagicjbjjaaGreat
end Go.Proofs.YtkjbdagicjbjjaaGreat

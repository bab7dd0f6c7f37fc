/-
  Part 24 of a proof: contracts of functions.
-/
import Derived.Test.YtmcpjkcggfmcmaaGreatDoorD23
set_option linter.all false
namespace Go.Proofs.YtmcpjkcggfmcmaaGreatDoor
noncomputable section
open Go.RowKit
set_option maxRecDepth 100000
set_option maxHeartbeats 1000000
attribute [local irreducible] BO CB AE AG AL Ay Aj AP Bc Cq Eb CT CO At Fr
def De (ds:List (Df)) (x:Ex):List (Nat)→Int→Bool→Nat×Bool
 | [],a2_0,a2_1=>(0,false)
 | e2 :: tl,a2_0,a2_1=>cond (cond (cond (cond (x.op == 3) (Bp (ds.getD e2 default)) (false)) (true) (cond (x.op == 4) ((ds.getD e2 default).kind == 2) (false))) (decide ((ds.getD e2 default).name=x.nm)) (false)) ((e2,true)) (De ds x tl a2_0 a2_1)
theorem PT {ds:List (Df)} {x:Ex} {b:Int} {a:Bool}:De ds x [] b a=((0,false)):=by rw [De]
theorem OG {ds:List (Df)} {x:Ex} {b:Int} {a:Bool} {es:List (Nat)} (i c:Nat) (hi:es[i]?=some c):De ds x (es.drop i) b a=(cond (cond (cond (cond (x.op == 3) (Bp (ds.getD c default)) (false)) (true) (cond (x.op == 4) ((ds.getD c default).kind == 2) (false))) (decide ((ds.getD c default).name=x.nm)) (false)) ((c,true)) (De ds x (es.drop (i + 1)) b a)):=by
 have hl:i < es.length:=(List.getElem?_eq_some_iff.1 hi).1
 have he:es[i]=c:=(List.getElem?_eq_some_iff.1 hi).2
 rw [← List.getElem_cons_drop hl,De] <;> (try rw [he])
def DT (ds:List (Df)) (x:Ex):List (Nat)→Int→Bool→Nat×Bool
 | [],a1_0,a1_1=>(0,false)
 | e1 :: tl,a1_0,a1_1=>cond (cond (cond (cond (x.op == 3) (Bp (ds.getD e1 default)) (false)) (true) (cond (x.op == 4) ((ds.getD e1 default).kind == 2) (false))) (decide ((ds.getD e1 default).name=x.nm)) (false)) ((e1,true)) (DT ds x tl a1_0 a1_1)
theorem PU {ds:List (Df)} {x:Ex} {b:Int} {a:Bool}:DT ds x [] b a=((0,false)):=by rw [DT]
theorem OH {ds:List (Df)} {x:Ex} {b:Int} {a:Bool} {es:List (Nat)} (i c:Nat) (hi:es[i]?=some c):DT ds x (es.drop i) b a=(cond (cond (cond (cond (x.op == 3) (Bp (ds.getD c default)) (false)) (true) (cond (x.op == 4) ((ds.getD c default).kind == 2) (false))) (decide ((ds.getD c default).name=x.nm)) (false)) ((c,true)) (DT ds x (es.drop (i + 1)) b a)):=by
 have hl:i < es.length:=(List.getElem?_eq_some_iff.1 hi).1
 have he:es[i]=c:=(List.getElem?_eq_some_iff.1 hi).2
 rw [← List.getElem_cons_drop hl,DT] <;> (try rw [he])
def Dg (ds:List (Df)) (act:List (Nat)) (x:Ex):List (Df)→Nat→Int→Bool→Nat×Bool
 | [],i0,a0_0,a0_1=>DT ds x act a0_0 a0_1
 | e0 :: tl,i0,a0_0,a0_1=>cond (cond (e0.kind == 1) (decide (e0.name=x.nm)) (false)) ((i0,true)) (Dg ds act x tl (i0 + 1) a0_0 a0_1)
theorem PV {ds:List (Df)} {c:List (Nat)} {x:Ex} {d:Nat} {b:Int} {a:Bool}:Dg ds c x [] d b a=(DT ds x c b a):=by rw [Dg]
theorem OI {ds:List (Df)} {d:List (Nat)} {x:Ex} {c:Int} {b:Bool} {es:List (Df)} (a:Nat) (e:Df) (hi:es[a]?=some e):Dg ds d x (es.drop a) a c b=(cond (cond (e.kind == 1) (decide (e.name=x.nm)) (false)) ((a,true)) (Dg ds d x (es.drop (a + 1)) (a + 1) c b)):=by
 have hl:a < es.length:=(List.getElem?_eq_some_iff.1 hi).1
 have he:es[a]=e:=(List.getElem?_eq_some_iff.1 hi).2
 rw [← List.getElem_cons_drop hl,Dg] <;> (try rw [he])
def Ax (ds:List (Df)) (act:List (Nat)) (x:Ex):Nat×Bool:=cond (x.op == 3) (Dg ds act x ds 0 0 false) (De ds x act 0 false)
noncomputable def dX:Code:=Tryz.f128.body.getD .skip
def fo:=AB 60 ([.code dX])
def fm:=AB 60 (AG fo)
def X3:=AB 60 (Ay fm)
def pz:=AB (BA Ai 90 (AG X3)) (AG X3)
def py:=Ad 5 (AE (AE pz))
def px:=AB 60 (AP py)
def vw:=AB 60 (AG px)
def fl:=AB 60 (AL X3)
def X2:=AB 60 (Ay fl)
def fk:=AB (BA Ai 90 (AG X2)) (AG X2)
def ki:=AB (BA Ai 90 (AE (AE fk))) (AE (AE fk))
def kh:=Ad 12 (AE (AE ki))
def kg:=Ad 13 (AP kh)
def kf:=AB 60 (AP kg)
def tK:=AB 60 (AG kf)
def tJ:=AB 60 (AL X2)
def X5:=AB 60 (AL fo)
def R7:=AB 60 (Ay X5)
def X4:=AB (BA Ai 90 (AG R7)) (AG R7)
def ke:=AB (BA Ai 90 (AE (AE X4))) (AE (AE X4))
def kd:=Ad 12 (AE (AE ke))
def kb:=Ad 13 (AP kd)
def kZ:=AB 60 (AP kb)
def tI:=AB 60 (AG kZ)
def tH:=AB 60 (AL R7)
theorem VN (s:List UInt8) (q:Option Addr) (ds:List (Df)) (f:Nat) (c0:Option Addr) (a:List (Nat)) (b0:Nat) (x:Ex) (o:Option Addr) (p:Nat) (w:World) (t1:rowsDf w q ds) (z3:ds.length≤4294967296) (v1:rowsNat w c0 a) (q3:a.length≤4294967296) (d5:rowsEx w o x.ks) (c1:∀ i∈a,i < ds.length):Calls Tryz.prog 128 ([.agg ⟨[.string ⟨⟨s⟩⟩,.slice q ds.length f]⟩,.slice c0 a.length b0,.agg ⟨[D x.op,D x.num,D x.den,D x.mu,D x.hu,D x.du,.string ⟨⟨x.nm⟩⟩,D x.cnt,D x.md,.slice o x.ks.length p]⟩]:List Value).toArray w fun e w'=>e=.returned (.tuple #[D ((((Ax ds a x)).1:Int)),.bool (((Ax ds a x)).2)])∧Below w.heap.size w w':=by
 refine Af (fn:=Tryz.f128) (c:=dX) (n:=75) ?_
 have K1:=Wk.start w
 refine BQ fo K1 [(1,0)] fun w1 K2=>?_
 refine AM (x.op == 3) (fun c2=>?_) (fun c2=>?_)
 ·refine AC fm K2 [(0,1)] fun w3 K3=>?_
  let z8:List BI:=[⟨w.heap.size,0,[.string ⟨⟨s⟩⟩,.slice q ds.length f],38,true⟩,⟨w.heap.size + 1,0,(CW x o p),32,true⟩]
  have K4:Wk w w3 z8 [] []:=K3.pk [0,1] []
  have q0:(Ax ds a x)=Dg ds a x ds 0 0 false:=by unfold Ax; rw [c2] <;> rfl
  let z9:Option Addr:=some ⟨w.heap.size + 1,0,none⟩
  let z10:Option Addr:=some ⟨w.heap.size,0,none⟩
  refine BB [(1,.slice c0 a.length b0),(3,.pointer z10),(5,.pointer z9),(6,D 0),(7,.bool false),(18,.slice q ds.length f),(19,D ((ds.length:Int))),(20,D (((0:Nat):Int)))] fun E4=>?_
  refine Bi (by kernel_rfl) (fun E r2=>∃ (i0:Nat) (a0:Int) (z:Bool) (E0:Nat→Value),i0≤ds.length∧E=Aw E0 [(1,.slice c0 a.length b0),(3,.pointer z10),(5,.pointer z9),(6,D a0),(7,.bool z),(18,.slice q ds.length f),(19,D ((ds.length:Int))),(20,D ((i0:Int)))]∧(Ax ds a x)=Dg ds a x (List.drop i0 ds) i0 a0 z∧Wk w r2 z8 [] []) (fun E _=>ds.length - AQ (E 20)) ⟨0,0,false,E4,Nat.zero_le _,rfl,q0,K4⟩ ?_
  clear q0
  rintro E r2 ⟨i0,a0,z,E0,h6,rfl,q0,K5⟩ s1
  refine AC X3 K5 [] fun w6 K6=>?_
  refine AM (decide ((i0:Int) < (ds.length:Int))) (fun c7=>?_) (fun c7=>?_)
  ·have m1:i0 < ds.length:=by have:=of_decide_eq_true c7; omega
   obtain ⟨r,v2⟩:∃ e,ds[i0]?=some e:=⟨_,List.getElem?_eq_getElem m1⟩
   rw [OI i0 r v2] at q0
   obtain ⟨t,v,rfl,t0,v0⟩:=t1.all (by omega)
   obtain ⟨d2,a2,b2,z1,r0,b4,a4⟩:=v0 i0 _ v2
   refine BG Ai pz K6 [] fun w8 K7=>?_
   refine BH (g:=t) (off:=v) (cap:=f) (sz:=21) (k:=i0) (len:=ds.length) (some 23) m1 Tryz.underlying36 ?_
   refine CC 34 t (v + i0 * 21) [D r.kind,.string ⟨⟨r.name⟩⟩,.bool (r.tb),D r.tm,D r.th,D r.td,D r.frm,.slice d2 r.ents.length a2,D r.body.op,D r.body.num,D r.body.den,D r.body.mu,D r.body.hu,D r.body.du,.string ⟨⟨r.body.nm⟩⟩,D r.body.cnt,D r.body.md,.slice b2 r.body.ks.length z1,D r.mode,D r.num,D r.den] (some 24) (Ac r0 t0 K7.B) ?_
   refine CR 5 py [⟨w.heap.size,0,[.string ⟨⟨s⟩⟩,.slice (some ⟨t,v,none⟩) ds.length f],38,true⟩,⟨w.heap.size + 1,0,(CW x o p),32,true⟩,⟨w8.heap.size,0,(Ce r d2 a2 b2 z1),34,true⟩] K7 [(2,0)] fun w9 K8=>?_
   refine Ao K8 [(1,2,0),(5,2,1),(7,1,6)] [⟨8,[(30,.string ⟨⟨r.name⟩⟩),(32,.string ⟨⟨x.nm⟩⟩)],.bool (decide (r.name=x.nm)),((r.kind == 1)) && (true)⟩] K8.G (fun sp d0=>?_) fun e6 u6 K9=>?_
   ·rw [List.mem_singleton.1 d0]
    exact An fun _ E u _=>IR (T:=9) (T':=9) (x:=.tmp 30) (y:=.tmp 32)
   refine AC px K9 [] fun c6 m3=>?_
   refine AM (cond (r.kind == 1) (decide (r.name=x.nm)) (false)) (fun m2=>?_) (fun m2=>?_)
   ·refine AC vw m3 [] fun b6 l3=>?_
    have hS:(Ax ds a x)=(i0,true):=by rw [q0,m2] <;> rfl
    exact Ab l3 (0,0) (.tuple #[D ((i0:Int)),.bool true]) ⟨by rw [hS] <;> rfl,l3.B⟩
   ·refine AC (Aj fm) m3 [] fun y3 x4=>?_
    refine BB [(1,.slice c0 a.length b0),(3,.pointer z10),(5,.pointer z9),(6,D a0),(7,.bool z),(18,.slice (some ⟨t,v,none⟩) ds.length f),(19,D ((ds.length:Int))),(20,D (IntKind.i64.wrap ((i0:Int) + 1)))] fun c5=>?_
    have w4:Wk w y3 [⟨w.heap.size,0,[.string ⟨⟨s⟩⟩,.slice (some ⟨t,v,none⟩) ds.length f],38,true⟩,⟨w.heap.size + 1,0,(CW x o p),32,true⟩] [] []:=x4.pk [0,1] []
    rw [Bs i0 (by omega)]
    refine s1 _ _ ⟨i0 + 1,a0,z,c5,m1,rfl,by rw [q0,m2] <;> rfl,w4⟩ ?_
    show ds.length - AQ (D ((i0 + 1:Nat):Int)) < ds.length - AQ (D (i0:Int))
    simp only [AQ]
    omega
  ·have u2:i0=ds.length:=by have:=of_decide_eq_false c7; omega
   rw [u2,List.drop_length,PV] at q0
   refine AC fl K6 [] fun x3 v4=>?_
   have u4:Wk w x3 z8 [] []:=v4.pk [0,1] []
   have p0:(Ax ds a x)=DT ds x a a0 z:=by rw [q0] <;> rfl
   refine BB [(3,.pointer z10),(5,.pointer z9),(6,D a0),(7,.bool z),(37,.slice c0 a.length b0),(38,D ((a.length:Int))),(39,D (((0:Nat):Int)))] fun b5=>?_
   refine Bi (by kernel_rfl) (fun E q2=>∃ (i1:Nat) (z0:Int) (y0:Bool) (E0:Nat→Value),i1≤a.length∧E=Aw E0 [(3,.pointer z10),(5,.pointer z9),(6,D z0),(7,.bool y0),(37,.slice c0 a.length b0),(38,D ((a.length:Int))),(39,D ((i1:Int)))]∧(Ax ds a x)=DT ds x (List.drop i1 a) z0 y0∧Wk w q2 z8 [] []) (fun E _=>a.length - AQ (E 39)) ⟨0,a0,z,b5,Nat.zero_le _,rfl,p0,u4⟩ ?_
   clear p0
   rintro E q2 ⟨i1,z0,y0,E0,g6,rfl,p0,t4⟩ r1
   refine AC X2 t4 [] fun a6 k3=>?_
   refine AM (decide ((i1:Int) < (a.length:Int))) (fun l2=>?_) (fun l2=>?_)
   ·have k1:i1 < a.length:=by have:=of_decide_eq_true l2; omega
    obtain ⟨d,p1⟩:∃ e,a[i1]?=some e:=⟨_,List.getElem?_eq_getElem k1⟩
    rw [OH i1 d p1] at p0
    obtain ⟨t,v,rfl,t0,v0⟩:=v1.all (by omega)
    have r0:=v0 i1 _ p1
    refine BG Ai fk k3 [] fun z5 i3=>?_
    refine BH (g:=t) (off:=v) (cap:=b0) (sz:=1) (k:=i1) (len:=a.length) (some 41) k1 Tryz.underlying56 ?_
    refine EA 3 t (v + i1 * 1) (D ((d:Int))) (some 42) (by simpa using Ac r0 t0 i3.B 0 _ rfl) ?_
    obtain ⟨f0,h0,rfl,x1,y1⟩:=t1.all (Nat.lt_of_le_of_lt (Nat.zero_le _) (c1 _ (List.mem_of_getElem? p1)))
    have f2:ds[d]?=some (ds.getD d default):=getD_some default (c1 _ (List.mem_of_getElem? p1))
    obtain ⟨m,j,l,h,g1,b1,a1⟩:=y1 d _ f2
    refine BG Ai ki i3 [(0,1)] fun v3 h3=>?_
    refine BH (g:=f0) (off:=h0) (cap:=f) (sz:=21) (k:=d) (len:=ds.length) (some 46) (c1 _ (List.mem_of_getElem? p1)) Tryz.underlying36 ?_
    let z7:List Value:=[D ((ds.getD d default).kind),.string ⟨⟨(ds.getD d default).name⟩⟩,.bool ((ds.getD d default).tb),D ((ds.getD d default).tm),D ((ds.getD d default).th),D ((ds.getD d default).td),D ((ds.getD d default).frm),.slice m ((ds.getD d default).ents.length) j,D ((ds.getD d default).body.op),D ((ds.getD d default).body.num),D ((ds.getD d default).body.den),D ((ds.getD d default).body.mu),D ((ds.getD d default).body.hu),D ((ds.getD d default).body.du),.string ⟨⟨(ds.getD d default).body.nm⟩⟩,D ((ds.getD d default).body.cnt),D ((ds.getD d default).body.md),.slice l ((ds.getD d default).body.ks.length) h,D ((ds.getD d default).mode),D ((ds.getD d default).num),D ((ds.getD d default).den)]
    refine CC 34 f0 (h0 + d * 21) z7 (some 47) (Ac g1 x1 h3.B) ?_
    refine CR 12 kh [⟨w.heap.size,0,[.string ⟨⟨s⟩⟩,.slice (some ⟨f0,h0,none⟩) ds.length f],38,true⟩,⟨w.heap.size + 1,0,(CW x o p),32,true⟩,⟨v3.heap.size,0,(Ce (ds.getD d default) m j l h),34,true⟩] h3 [(2,0)] fun y5 f1=>?_
    refine Ao f1 [(1,1,0),(4,2,0),(9,1,0),(13,2,0)] [⟨5,[(52,.agg ⟨z7⟩)],.bool (Bp (ds.getD d default)),((x.op == 3)) && (true)⟩] f1.G (fun sp d0=>?_) fun x5 r6 s4=>?_
    ·rw [List.mem_singleton.1 d0]
     exact AX 91 [.tmp 52] [.agg ⟨z7⟩] (fun _=>by kernel_rfl) fun hc u hu=>AR hu (IK (ds.getD d default) m j l h u (b1.below (f1.B.trans (hu.mono f1.B.size))) (a1.below (f1.B.trans (hu.mono f1.B.size))))
    refine Al 13 kg s4 [] fun w5 g3=>?_
    let z12:=cond (cond (x.op == 3) (Bp (ds.getD d default)) (false)) (true) (cond (x.op == 4) ((ds.getD d default).kind == 2) (false))
    refine Ao g3 [(3,2,1),(5,1,6)] [⟨6,[(68,.string ⟨⟨(ds.getD d default).name⟩⟩),(70,.string ⟨⟨x.nm⟩⟩)],.bool (decide ((ds.getD d default).name=x.nm)),(z12) && (true)⟩] g3.G (fun sp d0=>?_) fun v5 q6 r4=>?_
    ·rw [List.mem_singleton.1 d0]
     exact An fun _ E u _=>IR (T:=9) (T':=9) (x:=.tmp 68) (y:=.tmp 70)
    refine AC kf r4 [] fun u5 f3=>?_
    refine AM (cond z12 (decide ((ds.getD d default).name=x.nm)) (false)) (fun k2=>?_) (fun k2=>?_)
    ·refine AC tK f3 [] fun t5 e3=>?_
     have hS:(Ax ds a x)=(d,true):=by rw [p0,k2] <;> rfl
     exact Ab e3 (0,0) (.tuple #[D ((d:Int)),.bool true]) ⟨by rw [hS] <;> rfl,e3.B⟩
    ·refine AC (Aj fl) f3 [] fun u3 q4=>?_
     refine BB [(3,.pointer z10),(5,.pointer z9),(6,D z0),(7,.bool y0),(37,.slice (some ⟨t,v,none⟩) a.length b0),(38,D ((a.length:Int))),(39,D (IntKind.i64.wrap ((i1:Int) + 1)))] fun a5=>?_
     have m4:Wk w u3 [⟨w.heap.size,0,[.string ⟨⟨s⟩⟩,.slice (some ⟨f0,h0,none⟩) ds.length f],38,true⟩,⟨w.heap.size + 1,0,(CW x o p),32,true⟩] [] []:=q4.pk [0,1] []
     rw [Bs i1 (by omega)]
     refine r1 _ _ ⟨i1 + 1,z0,y0,a5,k1,rfl,by rw [p0,k2] <;> rfl,m4⟩ ?_
     show a.length - AQ (D ((i1 + 1:Nat):Int)) < a.length - AQ (D (i1:Int))
     simp only [AQ]
     omega
   ·have t2:i1=a.length:=by have:=of_decide_eq_false l2; omega
    rw [t2,List.drop_length,PU] at p0
    refine AC tJ k3 [] fun s5 d3=>?_
    have hS:(Ax ds a x)=(0,false):=by rw [p0] <;> rfl
    exact Ab d3 (0,0) (.tuple #[D 0,.bool false]) ⟨by rw [hS] <;> rfl,d3.B⟩
 ·refine AC X5 K2 [] fun t3 k4=>?_
  let z13:List BI:=[⟨w.heap.size,0,[.string ⟨⟨s⟩⟩,.slice q ds.length f],38,true⟩,⟨w.heap.size + 1,0,(CW x o p),32,true⟩]
  have i4:Wk w t3 z13 [] []:=k4.pk [0,1] []
  have k0:(Ax ds a x)=De ds x a 0 false:=by unfold Ax; rw [c2] <;> rfl
  let z14:Option Addr:=some ⟨w.heap.size + 1,0,none⟩
  refine BB [(3,.pointer (some ⟨w.heap.size,0,none⟩)),(5,.pointer z14),(6,D 0),(7,.bool false),(37,.slice c0 a.length b0),(38,D ((a.length:Int))),(39,D (((0:Nat):Int)))] fun z4=>?_
  refine Bi (by kernel_rfl) (fun E p2=>∃ (i2:Nat) (x0:Int) (w0:Bool) (E0:Nat→Value),i2≤a.length∧E=Aw E0 [(3,.pointer (some ⟨w.heap.size,0,none⟩)),(5,.pointer z14),(6,D x0),(7,.bool w0),(37,.slice c0 a.length b0),(38,D ((a.length:Int))),(39,D ((i2:Int)))]∧(Ax ds a x)=De ds x (List.drop i2 a) x0 w0∧Wk w p2 z13 [] []) (fun E _=>a.length - AQ (E 39)) ⟨0,0,false,z4,Nat.zero_le _,rfl,k0,i4⟩ ?_
  clear k0
  rintro E p2 ⟨i2,x0,w0,E0,f6,rfl,k0,h4⟩ q1
  refine AC R7 h4 [] fun r5 c3=>?_
  refine AM (decide ((i2:Int) < (a.length:Int))) (fun h2=>?_) (fun h2=>?_)
  ·have h1:i2 < a.length:=by have:=of_decide_eq_true h2; omega
   obtain ⟨b,n1⟩:∃ e,a[i2]?=some e:=⟨_,List.getElem?_eq_getElem h1⟩
   rw [OG i2 b n1] at k0
   obtain ⟨t,v,rfl,t0,v0⟩:=v1.all (by omega)
   have r0:=v0 i2 _ n1
   refine BG Ai X4 c3 [] fun q5 b3=>?_
   refine BH (g:=t) (off:=v) (cap:=b0) (sz:=1) (k:=i2) (len:=a.length) (some 41) h1 Tryz.underlying56 ?_
   refine EA 3 t (v + i2 * 1) (D ((b:Int))) (some 42) (by simpa using Ac r0 t0 b3.B 0 _ rfl) ?_
   obtain ⟨f0,h0,rfl,x1,y1⟩:=t1.all (Nat.lt_of_le_of_lt (Nat.zero_le _) (c1 _ (List.mem_of_getElem? n1)))
   have f2:ds[b]?=some (ds.getD b default):=getD_some default (c1 _ (List.mem_of_getElem? n1))
   obtain ⟨m,j,l,h,g1,b1,a1⟩:=y1 b _ f2
   refine BG Ai ke b3 [(0,1)] fun s3 a3=>?_
   refine BH (g:=f0) (off:=h0) (cap:=f) (sz:=21) (k:=b) (len:=ds.length) (some 46) (c1 _ (List.mem_of_getElem? n1)) Tryz.underlying36 ?_
   let z6:List Value:=[D ((ds.getD b default).kind),.string ⟨⟨(ds.getD b default).name⟩⟩,.bool ((ds.getD b default).tb),D ((ds.getD b default).tm),D ((ds.getD b default).th),D ((ds.getD b default).td),D ((ds.getD b default).frm),.slice m ((ds.getD b default).ents.length) j,D ((ds.getD b default).body.op),D ((ds.getD b default).body.num),D ((ds.getD b default).body.den),D ((ds.getD b default).body.mu),D ((ds.getD b default).body.hu),D ((ds.getD b default).body.du),.string ⟨⟨(ds.getD b default).body.nm⟩⟩,D ((ds.getD b default).body.cnt),D ((ds.getD b default).body.md),.slice l ((ds.getD b default).body.ks.length) h,D ((ds.getD b default).mode),D ((ds.getD b default).num),D ((ds.getD b default).den)]
   refine CC 34 f0 (h0 + b * 21) z6 (some 47) (Ac g1 x1 a3.B) ?_
   refine CR 12 kd [⟨w.heap.size,0,[.string ⟨⟨s⟩⟩,.slice (some ⟨f0,h0,none⟩) ds.length f],38,true⟩,⟨w.heap.size + 1,0,(CW x o p),32,true⟩,⟨s3.heap.size,0,(Ce (ds.getD b default) m j l h),34,true⟩] a3 [(2,0)] fun m5 d1=>?_
   refine Ao d1 [(1,1,0),(4,2,0),(9,1,0),(13,2,0)] [⟨5,[(52,.agg ⟨z6⟩)],.bool (Bp (ds.getD b default)),((x.op == 3)) && (true)⟩] d1.G (fun sp d0=>?_) fun k5 m6 g4=>?_
   ·rw [List.mem_singleton.1 d0]
    exact AX 91 [.tmp 52] [.agg ⟨z6⟩] (fun _=>by kernel_rfl) fun hc u hu=>AR hu (IK (ds.getD b default) m j l h u (b1.below (d1.B.trans (hu.mono d1.B.size))) (a1.below (d1.B.trans (hu.mono d1.B.size))))
   refine Al 13 kb g4 [] fun i5 z2=>?_
   let z11:=cond (cond (x.op == 3) (Bp (ds.getD b default)) (false)) (true) (cond (x.op == 4) ((ds.getD b default).kind == 2) (false))
   refine Ao z2 [(3,2,1),(5,1,6)] [⟨6,[(68,.string ⟨⟨(ds.getD b default).name⟩⟩),(70,.string ⟨⟨x.nm⟩⟩)],.bool (decide ((ds.getD b default).name=x.nm)),(z11) && (true)⟩] z2.G (fun sp d0=>?_) fun h5 k6 f4=>?_
   ·rw [List.mem_singleton.1 d0]
    exact An fun _ E u _=>IR (T:=9) (T':=9) (x:=.tmp 68) (y:=.tmp 70)
   refine AC kZ f4 [] fun g5 y2=>?_
   refine AM (cond z11 (decide ((ds.getD b default).name=x.nm)) (false)) (fun g2=>?_) (fun g2=>?_)
   ·refine AC tI y2 [] fun f5 x2=>?_
    have hS:(Ax ds a x)=(b,true):=by rw [k0,g2] <;> rfl
    exact Ab x2 (0,0) (.tuple #[D ((b:Int)),.bool true]) ⟨by rw [hS] <;> rfl,x2.B⟩
   ·refine AC (Aj X5) y2 [] fun r3 e4=>?_
    refine BB [(3,.pointer (some ⟨w.heap.size,0,none⟩)),(5,.pointer z14),(6,D x0),(7,.bool w0),(37,.slice (some ⟨t,v,none⟩) a.length b0),(38,D ((a.length:Int))),(39,D (IntKind.i64.wrap ((i2:Int) + 1)))] fun y4=>?_
    have c4:Wk w r3 [⟨w.heap.size,0,[.string ⟨⟨s⟩⟩,.slice (some ⟨f0,h0,none⟩) ds.length f],38,true⟩,⟨w.heap.size + 1,0,(CW x o p),32,true⟩] [] []:=e4.pk [0,1] []
    rw [Bs i2 (by omega)]
    refine q1 _ _ ⟨i2 + 1,x0,w0,y4,h1,rfl,by rw [k0,g2] <;> rfl,c4⟩ ?_
    show a.length - AQ (D ((i2 + 1:Nat):Int)) < a.length - AQ (D (i2:Int))
    simp only [AQ]
    omega
  ·have s2:i2=a.length:=by have:=of_decide_eq_false h2; omega
   rw [s2,List.drop_length,PT] at k0
   refine AC tH c3 [] fun e5 w2=>?_
   have hS:(Ax ds a x)=(0,false):=by rw [k0] <;> rfl
   exact Ab w2 (0,0) (.tuple #[D 0,.bool false]) ⟨by rw [hS] <;> rfl,w2.B⟩
def BK (p0a:List UInt8) (ds:List (Df)) (p1:Int):List Nat:=cond (!(EF p0a ds p1 == 0)) ([]) ((BC ds p1))
noncomputable def db:Code:=Tryz.f52.body.getD .skip
def qA:=AB 60 ([.code db])
def fu:=AB 60 (AE qA)
def wD:=AB 60 (AG fu)
def p9:=AB 60 (AL fu)
def wC:=AB 60 (AE p9)
theorem Zc (a:List UInt8) (b:Option Addr) (ds:List (Df)) (f:Nat) (p1:Int) (w:World) (g:rowsDf w b ds) (j:ds.length≤4294967296) (hs:a.length≤4294967296) (ht:∀ d∈ds,IJ d):Calls Tryz.prog 52 ([.agg ⟨[.string ⟨⟨a⟩⟩,.slice b ds.length f]⟩,D p1]:List Value).toArray w fun e w'=>∃ (l:Option Addr) (k:Nat),e=.returned (.slice l ((BK a ds p1).length) k)∧Below w.heap.size w w'∧AU w.heap.size w' [BP l k (BK a ds p1)]:=by
 refine Af (fn:=Tryz.f52) (c:=db) (n:=12) ?_
 have K1:=Wk.start w
 refine C8 qA [⟨w.heap.size,0,[.string ⟨⟨a⟩⟩,.slice b ds.length f],38,true⟩] K1 [(0,0)] fun x u=>?_
 refine Ap u (args:=[.agg ⟨[.string ⟨⟨a⟩⟩,.slice b ds.length f]⟩,D p1]) (Ps a _ ds _ p1 x (g.below u.B) j hs ht) fun w2 K3=>?_
 refine AC fu K3 [] fun w3 t=>?_
 refine AM (!(EF a ds p1 == 0)) (fun o=>?_) (fun o=>?_)
 ·have K5:=t.addNil 3 1 (fun e r=>r=Fs e)
  refine AC wD K5 [] fun w5 q=>?_
  have m:(BK a ds p1)=[]:=by unfold BK; rw [o] <;> rfl
  exact Ab q (0,0) (.slice none 0 0) ⟨none,0,by rw [m] <;> rfl,q.B,by rw [m]; exact q.own0 [0] rfl (by decide)⟩
 ·refine AC p9 t [(0,0)] fun v s=>?_
  refine CJ (QJ a b ds f p1 v (g.below s.B) (by first | assumption | omega | (simp <;> omega))) fun en w8 y=>?_
  obtain ⟨i,h,rfl,z,Hn⟩:=y
  refine ⟨_,rfl,?_⟩
  have K8:=s.join z Hn
  refine AC wC K8 [] fun w9 p=>?_
  have m:(BK a ds p1)=(BC ds p1):=by unfold BK; rw [o] <;> rfl
  exact Ab p (0,0) (.slice i ((BC ds p1).length) h) ⟨i,h,by rw [m] <;> rfl,p.B,by rw [m]; exact p.own0 [0] rfl (by decide)⟩
end
end Go.Proofs.YtmcpjkcggfmcmaaGreatDoor

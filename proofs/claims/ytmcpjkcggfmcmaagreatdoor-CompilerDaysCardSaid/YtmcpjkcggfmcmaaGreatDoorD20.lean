/-
  Part 20 of a proof: contracts of functions.
-/
import Derived.Test.YtmcpjkcggfmcmaaGreatDoorD19
import Derived.Test.YtmcpjkcggfmcmaaGreatDoorD14
import Derived.Test.YtmcpjkcggfmcmaaGreatDoorD07
set_option linter.all false
namespace Go.Proofs.YtmcpjkcggfmcmaaGreatDoor
noncomputable section
open Go.RowKit
set_option maxRecDepth 100000
set_option maxHeartbeats 1000000
attribute [local irreducible] BO CB AE AG AL Ay Aj AP Bc Cq Eb CT CO At Fr
def Cg (ds:List (Df)) (p1:Int) (i:Nat):List (Df)→Nat→Bool→Bool
 | [],i0,a0_0=>false
 | e0 :: tl,i0,a0_0=>cond (cond (cond (!(e0.kind == (ds.getD i default).kind)) (true) (!(decide (e0.name=(ds.getD i default).name)))) (true) (decide (p1 < e0.frm))) (Cg ds p1 i tl (i0 + 1) a0_0) (cond (cond (decide ((ds.getD i default).frm < e0.frm)) (true) (cond (e0.frm == (ds.getD i default).frm) (decide ((i0:Int) < (i:Int))) (false))) (true) (Cg ds p1 i tl (i0 + 1) a0_0))
theorem N7 {ds:List (Df)} {p1:Int} {i:Nat} {b:Nat} {a:Bool}:Cg ds p1 i [] b a=(false):=by rw [Cg]
theorem NS {ds:List (Df)} {p1:Int} {i:Nat} {a:Bool} {es:List (Df)} (b:Nat) (c:Df) (hi:es[b]?=some c):Cg ds p1 i (es.drop b) b a=(cond (cond (cond (!(c.kind == (ds.getD i default).kind)) (true) (!(decide (c.name=(ds.getD i default).name)))) (true) (decide (p1 < c.frm))) (Cg ds p1 i (es.drop (b + 1)) (b + 1) a) (cond (cond (decide ((ds.getD i default).frm < c.frm)) (true) (cond (c.frm == (ds.getD i default).frm) (decide ((b:Int) < (i:Int))) (false))) (true) (Cg ds p1 i (es.drop (b + 1)) (b + 1) a))):=by
 have hl:b < es.length:=(List.getElem?_eq_some_iff.1 hi).1
 have he:es[b]=c:=(List.getElem?_eq_some_iff.1 hi).2
 rw [← List.getElem_cons_drop hl,Cg] <;> (try rw [he])
def Ek (ds:List (Df)) (p1:Int) (i:Nat):Bool:=Cg ds p1 i ds 0 false
noncomputable def Un:Code:=Tryz.f126.body.getD .skip
def po:=AB (BA Ai 90 ([.code Un])) ([.code Un])
def Xx:=AB 60 (AE (AE po))
def Xw:=AB 60 (Ay Xx)
def pn:=AB (BA Ai 90 (AG Xw)) (AG Xw)
def pm:=Ad 5 (AE (AE pn))
def pl:=AB 60 (AP pm)
def pj:=Ad 6 (AL pl)
def pi:=AB 60 (AP pj)
def vu:=AB 60 (AG pi)
def vt:=AB 60 (AL Xw)
theorem Ts (d1:List UInt8) (c0:Option Addr) (ds:List (Df)) (l:Nat) (p1:Int) (i:Nat) (w:World) (x0:rowsDf w c0 ds) (e1:ds.length≤4294967296) (d0:i < ds.length):Calls Tryz.prog 126 ([.agg ⟨[.string ⟨⟨d1⟩⟩,.slice c0 ds.length l]⟩,D p1,D ((i:Int))]:List Value).toArray w fun e w'=>e=.returned (.bool (Ek ds p1 i))∧Below w.heap.size w w':=by
 refine Af (fn:=Tryz.f126) (c:=Un) (n:=59) ?_
 have K1:=Wk.start w
 obtain ⟨q,r,rfl,f0,h0⟩:=x0.all (by omega)
 have f1:ds[i]?=some (ds.getD i default):=getD_some default d0
 obtain ⟨h,d,f,b,t0,k1,i1⟩:=h0 i _ f1
 refine WB Ai po K1 [(0,1)] fun w1 K2=>?_
 refine BH (g:=q) (off:=r) (cap:=l) (sz:=21) (k:=i) (len:=ds.length) (some 13) d0 Tryz.underlying36 ?_
 refine CC 34 q (r + i * 21) [D ((ds.getD i default).kind),.string ⟨⟨(ds.getD i default).name⟩⟩,.bool ((ds.getD i default).tb),D ((ds.getD i default).tm),D ((ds.getD i default).th),D ((ds.getD i default).td),D ((ds.getD i default).frm),.slice h ((ds.getD i default).ents.length) d,D ((ds.getD i default).body.op),D ((ds.getD i default).body.num),D ((ds.getD i default).body.den),D ((ds.getD i default).body.mu),D ((ds.getD i default).body.hu),D ((ds.getD i default).body.du),.string ⟨⟨(ds.getD i default).body.nm⟩⟩,D ((ds.getD i default).body.cnt),D ((ds.getD i default).body.md),.slice f ((ds.getD i default).body.ks.length) b,D ((ds.getD i default).mode),D ((ds.getD i default).num),D ((ds.getD i default).den)] (some 14) (Ac t0 f0 K2.B) ?_
 refine BQ Xx K2 [(1,0),(0,1)] fun w2 K3=>?_
 let z2:List BI:=[⟨w1.heap.size,0,(Ce (ds.getD i default) h d f b),34,true⟩]
 have K4:Wk w w2 z2 [] []:=K3.pk [1] []
 have o:(Ek ds p1 i)=Cg ds p1 i ds 0 false:=by unfold Ek; rfl
 let z3:Option Addr:=some ⟨w1.heap.size,0,none⟩
 refine BB [(1,D p1),(2,D ((i:Int))),(6,.bool false),(7,.pointer z3),(16,.slice (some ⟨q,r,none⟩) ds.length l),(17,D ((ds.length:Int))),(18,D (((0:Nat):Int)))] fun E3=>?_
 refine Bi (by kernel_rfl) (fun E q0=>∃ (j:Nat) (m:Bool) (E0:Nat→Value),j≤ds.length∧E=Aw E0 [(1,D p1),(2,D ((i:Int))),(6,.bool m),(7,.pointer z3),(16,.slice (some ⟨q,r,none⟩) ds.length l),(17,D ((ds.length:Int))),(18,D ((j:Int)))]∧(Ek ds p1 i)=Cg ds p1 i (List.drop j ds) j m∧Wk w q0 z2 [] []) (fun E _=>ds.length - AQ (E 18)) ⟨0,false,E3,Nat.zero_le _,rfl,o,K4⟩ ?_
 clear o
 rintro E q0 ⟨j,m,E0,f2,rfl,o,K5⟩ p
 refine AC Xw K5 [] fun w5 K6=>?_
 refine AM (decide ((j:Int) < (ds.length:Int))) (fun c6=>?_) (fun c6=>?_)
 ·have s:j < ds.length:=by have:=of_decide_eq_true c6; omega
  obtain ⟨a,w0⟩:∃ e,ds[j]?=some e:=⟨_,List.getElem?_eq_getElem s⟩
  rw [NS j a w0] at o
  obtain ⟨a0,v,z,t,r0,h1,g1⟩:=h0 j _ w0
  refine BG Ai pn K6 [] fun w7 K7=>?_
  refine BH (g:=q) (off:=r) (cap:=l) (sz:=21) (k:=j) (len:=ds.length) (some 21) s Tryz.underlying36 ?_
  refine CC 34 q (r + j * 21) [D a.kind,.string ⟨⟨a.name⟩⟩,.bool (a.tb),D a.tm,D a.th,D a.td,D a.frm,.slice a0 a.ents.length v,D a.body.op,D a.body.num,D a.body.den,D a.body.mu,D a.body.hu,D a.body.du,.string ⟨⟨a.body.nm⟩⟩,D a.body.cnt,D a.body.md,.slice z a.body.ks.length t,D a.mode,D a.num,D a.den] (some 22) (Ac r0 f0 K7.B) ?_
  refine CR 5 pm [⟨w1.heap.size,0,(Ce (ds.getD i default) h d f b),34,true⟩,⟨w7.heap.size,0,(Ce a a0 v z t),34,true⟩] K7 [(1,0)] fun w8 K8=>?_
  refine Ao K8 [(1,1,0),(3,0,0),(7,1,1),(9,0,1),(14,1,6)] [⟨10,[(30,.string ⟨⟨a.name⟩⟩),(32,.string ⟨⟨(ds.getD i default).name⟩⟩)],.bool (!(decide (a.name=(ds.getD i default).name))),(!(!(a.kind == (ds.getD i default).kind))) && (true)⟩] K8.G (fun sp k0=>?_) fun w9 E9 K9=>?_
  ·rw [List.mem_singleton.1 k0]
   exact An fun _ E u _=>IX (T:=9) (T':=9) (x:=.tmp 30) (y:=.tmp 32) (by kernel_rfl) (by kernel_rfl) (by kernel_rfl)
  refine AC pl K9 [] fun e2 a1=>?_
  refine AM (cond (cond (!(a.kind == (ds.getD i default).kind)) (true) (!(decide (a.name=(ds.getD i default).name)))) (true) (decide (p1 < a.frm))) (fun b0=>?_) (fun b0=>?_)
  ·refine AC (Aj Xx) a1 [] fun c1 v1=>?_
   refine BB [(1,D p1),(2,D ((i:Int))),(6,.bool m),(7,.pointer z3),(16,.slice (some ⟨q,r,none⟩) ds.length l),(17,D ((ds.length:Int))),(18,D (IntKind.i64.wrap ((j:Int) + 1)))] fun y1=>?_
   have t1:Wk w c1 z2 [] []:=v1.pk [0] []
   rw [Bs j (by omega)]
   refine p _ _ ⟨j + 1,m,y1,s,rfl,by rw [o,b0] <;> rfl,t1⟩ ?_
   show ds.length - AQ (D ((j + 1:Nat):Int)) < ds.length - AQ (D (j:Int))
   simp only [AQ]
   omega
  ·refine Al 6 pj a1 [] fun d2 z0=>?_
   refine Ao z0 [(1,1,6),(3,0,6),(7,1,6),(9,0,6)] [] z0.G (fun sp k0=>by cases k0) fun c2 g2 s1=>?_
   refine AC pi s1 [] fun b2 y0=>?_
   refine AM (cond (decide ((ds.getD i default).frm < a.frm)) (true) (cond (a.frm == (ds.getD i default).frm) (decide ((j:Int) < (i:Int))) (false))) (fun p0=>?_) (fun p0=>?_)
   ·refine AC vu y0 [] fun a2 r1=>?_
    exact AO r1 (0,0) (.bool true) (by rw [o,b0,p0] <;> rfl)
   ·refine AC (Aj Xx) y0 [] fun b1 q1=>?_
    refine BB [(1,D p1),(2,D ((i:Int))),(6,.bool m),(7,.pointer z3),(16,.slice (some ⟨q,r,none⟩) ds.length l),(17,D ((ds.length:Int))),(18,D (IntKind.i64.wrap ((j:Int) + 1)))] fun x1=>?_
    have n1:Wk w b1 z2 [] []:=q1.pk [0] []
    rw [Bs j (by omega)]
    refine p _ _ ⟨j + 1,m,x1,s,rfl,by rw [o,b0,p0] <;> rfl,n1⟩ ?_
    show ds.length - AQ (D ((j + 1:Nat):Int)) < ds.length - AQ (D (j:Int))
    simp only [AQ]
    omega
 ·have v0:j=ds.length:=by have:=of_decide_eq_false c6; omega
  rw [v0,List.drop_length,N7] at o
  refine AC vt K6 [] fun z1 m1=>?_
  exact AO m1 (0,0) (.bool false) (by rw [o] <;> rfl)
end
end Go.Proofs.YtmcpjkcggfmcmaaGreatDoor
namespace Go.Proofs.YtmcpjkcggfmcmaaGreatDoor
noncomputable section
open Go.RowKit
set_option maxRecDepth 100000
set_option maxHeartbeats 1000000
attribute [local irreducible] BO CB AE AG AL Ay Aj AP Bc Cq Eb CT CO At Fr
theorem rowsDf.agr {w:World} {A:Option Addr} {c:Nat} {nm:List UInt8} {ds:List Df} (h:rowsDf w A ds):U8 w nm ds [.string ⟨⟨nm⟩⟩,.slice A ds.length c]:=
 let ⟨rs,h1,h2⟩:=h
 ⟨A,c,rs,rfl,h1,h2⟩
def EF (p0a:List UInt8) (ds:List (Df)) (p1:Int):Int:=cond (!(FF p0a ds)) (1) (cond (cond (decide (p1 < 0)) (true) (decide (84005 < p1))) (2) (0))
noncomputable def dY:Code:=Tryz.f89.body.getD .skip
def p4:=AB 60 ([.code dY])
def fq:=AB 60 (AE p4)
def vz:=AB 60 (AG fq)
def p3:=Ad 3 (AL fq)
def fp:=AB 60 (AP p3)
def vy:=AB 60 (AG fp)
def vx:=AB 60 (AL fp)
theorem Ps (a:List UInt8) (b:Option Addr) (ds:List (Df)) (f:Nat) (p1:Int) (w:World) (h:rowsDf w b ds) (g:ds.length≤4294967296) (hs:a.length≤4294967296) (ht:∀ d∈ds,IJ d):Calls Tryz.prog 89 ([.agg ⟨[.string ⟨⟨a⟩⟩,.slice b ds.length f]⟩,D p1]:List Value).toArray w fun e w'=>e=.returned (D (EF a ds p1))∧Below w.heap.size w w':=by
 refine Af (fn:=Tryz.f89) (c:=dY) (n:=14) ?_
 have z:=Wk.start w
 refine C8 p4 [⟨w.heap.size,0,[.string ⟨⟨a⟩⟩,.slice b ds.length f],38,true⟩] z [(0,0)] fun t q=>?_
 refine Ap q (args:=[.agg ⟨[.string ⟨⟨a⟩⟩,.slice b ds.length f]⟩]) (LX a ds _ t hs g ht (h.below q.B).agr) fun w2 y=>?_
 refine AC fq y [] fun w3 p=>?_
 refine AM (!(FF a ds)) (fun i=>?_) (fun i=>?_)
 ·refine AC vz p [] fun w5 x=>?_
  exact AO x (0,0) (D 1) (by unfold EF; rw [i] <;> rfl)
 ·refine Al 3 p3 p [] fun w6 o=>?_
  refine Ao o [] [] o.G (fun sp j=>by cases j) fun w7 E7 v=>?_
  refine AC fp v [] fun w8 m=>?_
  refine AM (cond (decide (p1 < 0)) (true) (decide (84005 < p1))) (fun k=>?_) (fun k=>?_)
  ·refine AC vy m [] fun s u=>?_
   exact AO u (0,0) (D 2) (by unfold EF; rw [i,k] <;> rfl)
  ·refine AC vx m [] fun r l=>?_
   exact AO l (0,0) (D 0) (by unfold EF; rw [i,k] <;> rfl)
end
end Go.Proofs.YtmcpjkcggfmcmaaGreatDoor
namespace Go.Proofs.YtmcpjkcggfmcmaaGreatDoor
noncomputable section
open Go.RowKit
set_option maxRecDepth 100000
set_option maxHeartbeats 1000000
attribute [local irreducible] BO CB AE AG AL Ay Aj AP Bc Cq Eb CT CO At Fr
def Dl (d:Df) (ns:List (Df)) (ss:List (Df)) (ps:List (Df)):Int:=cond (!((Bf d.body ns ss ps).2.2.2.2 == 0)) ((Bf d.body ns ss ps).2.2.2.2) (Ha ((Bf d.body ns ss ps).1) ((Bf d.body ns ss ps).2.1) ((Bf d.body ns ss ps).2.2.1) ((Bf d.body ns ss ps).2.2.2.1) ((Ah d.kind d.tb d.tm d.th d.td).1) ((Ah d.kind d.tb d.tm d.th d.td).2.1) ((Ah d.kind d.tb d.tm d.th d.td).2.2.1) ((Ah d.kind d.tb d.tm d.th d.td).2.2.2))
noncomputable def dQ:Code:=Tryz.f49.body.getD .skip
def pN:=AB 60 ([.code dQ])
def fd:=AB 60 (AE pN)
def vl:=AB 60 (AG fd)
def pM:=Ad 4 (AL fd)
def vk:=AB 60 (AP pM)
theorem Rr (d:Df) (g:Option Addr) (h:Nat) (b:Option Addr) (f:Nat) (k:Option Addr) (ns:List (Df)) (o:Nat) (j:Option Addr) (ss:List (Df)) (m:Nat) (i:Option Addr) (a:List (Df)) (l:Nat) (w:World) (a0:DW w g d.ents) (t:rowsEx w b d.body.ks) (s:rowsDf w k ns) (z:ns.length≤4294967296) (q:rowsDf w j ss) (x:ss.length≤4294967296) (r:rowsDf w i a) (y:a.length≤4294967296) (ht:Dq d.body):Calls Tryz.prog 49 ([.agg ⟨[D d.kind,.string ⟨⟨d.name⟩⟩,.bool (d.tb),D d.tm,D d.th,D d.td,D d.frm,.slice g d.ents.length h,D d.body.op,D d.body.num,D d.body.den,D d.body.mu,D d.body.hu,D d.body.du,.string ⟨⟨d.body.nm⟩⟩,D d.body.cnt,D d.body.md,.slice b d.body.ks.length f,D d.mode,D d.num,D d.den]⟩,.slice k ns.length o,.slice j ss.length m,.slice i a.length l]:List Value).toArray w fun e w'=>e=.returned (D (Dl d ns ss a))∧Below w.heap.size w w':=by
 refine Af (fn:=Tryz.f49) (c:=dQ) (n:=27) ?_
 have K1:=Wk.start w
 refine BQ pN K1 [(0,8)] fun w1 v=>?_
 refine Ap v (SS d.body b f k ns o j ss m i a l w1 (t.below v.B) (s.below v.B) (by first | assumption | omega | (simp <;> omega)) (q.below v.B) (by first | assumption | omega | (simp <;> omega)) (r.below v.B) (by first | assumption | omega | (simp <;> omega)) ht) fun w2 K3=>?_
 let z4:=(Bf d.body ns ss a).2.2.2.1
 let z2:List Value:=[.bool ((Bf d.body ns ss a).1),D ((Bf d.body ns ss a).2.1),D ((Bf d.body ns ss a).2.2.1),D z4]
 refine C8 fd [⟨w.heap.size,0,(Ce d g h b f),34,true⟩,⟨w2.heap.size,0,z2,26,true⟩] K3 [(1,0)] fun w3 K4=>?_
 refine AM (!((Bf d.body ns ss a).2.2.2.2 == 0)) (fun c4=>?_) (fun c4=>?_)
 ·refine AC vl K4 [] fun w5 K5=>?_
  exact AO K5 (0,0) (D ((Bf d.body ns ss a).2.2.2.2)) (by unfold Dl; rw [c4] <;> rfl)
 ·refine Al 4 pM K4 [] fun w6 K6=>?_
  let z0:=Ah d.kind d.tb d.tm d.th d.td
  let z1:List Value:=[D d.kind,.string ⟨⟨d.name⟩⟩,.bool (d.tb),D d.tm,D d.th,D d.td,D d.frm,.slice g d.ents.length h,D d.body.op,D d.body.num,D d.body.den,D d.body.mu,D d.body.hu,D d.body.du,.string ⟨⟨d.body.nm⟩⟩,D d.body.cnt,D d.body.md,.slice b d.body.ks.length f,D d.mode,D d.num,D d.den]
  let z3:=Ha ((Bf d.body ns ss a).1) ((Bf d.body ns ss a).2.1) ((Bf d.body ns ss a).2.2.1) z4 (z0.1) (z0.2.1) (z0.2.2.1) (z0.2.2.2)
  refine Ao K6 [(0,1,0),(1,0,0)] [⟨2,[(24,.agg ⟨z1⟩)],EU z0,true⟩,⟨3,[(23,.agg ⟨z2⟩),(25,EU z0)],D z3,true⟩] K6.G (fun sp p=>?_) fun w7 E7 K7=>?_
  ·simp only [List.mem_cons,List.not_mem_nil,or_false] at p
   rcases p with rfl | rfl
   ·exact AX 85 [.tmp 24] [.agg ⟨z1⟩] (fun _=>by kernel_rfl) fun hc u hu=>AR hu (JM d.kind d.name d.tb d.tm d.th d.td d.frm g d.ents.length h d.body.op d.body.num d.body.den d.body.mu d.body.hu d.body.du d.body.nm d.body.cnt d.body.md b d.body.ks.length f d.mode d.num d.den u)
   ·exact AX 87 [.tmp 23,.tmp 25] [.agg ⟨z2⟩,EU z0] (fun _=>by kernel_rfl) fun hc u hu=>AR hu (RP ((Bf d.body ns ss a).1) ((Bf d.body ns ss a).2.1) ((Bf d.body ns ss a).2.2.1) z4 (z0.1) (z0.2.1) (z0.2.2.1) (z0.2.2.2) u)
  refine AC vk K7 [] fun w8 K8=>?_
  exact AO K8 (0,0) (D z3) (by unfold Dl; rw [c4] <;> rfl)
end
end Go.Proofs.YtmcpjkcggfmcmaaGreatDoor
namespace Go.Proofs.YtmcpjkcggfmcmaaGreatDoor
noncomputable section
open Go.RowKit
set_option maxRecDepth 100000
set_option maxHeartbeats 1000000
attribute [local irreducible] BO CB AE AG AL Ay Aj AP Bc Cq Eb CT CO At Fr
def DG (F:Df→Bool):List (Df)→Nat→Int→Int
 | [],i0,a0_0=>-1
 | e0 :: tl,i0,a0_0=>cond (F e0) ((i0:Int)) (DG F tl (i0 + 1) a0_0)
theorem Pg {F:Df→Bool} {b:Nat} {a:Int}:DG F [] b a=(-1):=by rw [DG]
theorem OK {F:Df→Bool} {b:Int} {es:List (Df)} (a:Nat) (c:Df) (hi:es[a]?=some c):DG F (es.drop a) a b=(cond (F c) ((a:Int)) (DG F (es.drop (a + 1)) (a + 1) b)):=by
 have hl:a < es.length:=(List.getElem?_eq_some_iff.1 hi).1
 have he:es[a]=c:=(List.getElem?_eq_some_iff.1 hi).2
 rw [← List.getElem_cons_drop hl,DG] <;> (try rw [he])
def AJ (F:Df→Bool) (ds:List (Df)):Int:=DG F ds 0 0
noncomputable def cg:Code:=Tryz.f84.body.getD .skip
def eH:=AB 60 ([.code cg])
def WL:=AB 60 (Ay eH)
def nR:=AB (BA Ai 90 (AG WL)) (AG WL)
def nQ:=AB 60 (AE (AE nR))
def nP:=AB 60 (AE nQ)
def uU:=AB 60 (AG nP)
def uT:=AB 60 (AL WL)
theorem Ns (F:Df→Bool) (q:Option Addr) (ds:List (Df)) (h:Nat) (g:FuncId) (cap:List Value) (w:World) (c0:rowsDf w q ds) (k0:ds.length≤4294967296) (hg:Dw Tryz.prog g=true) (hF:∀ u,Below w.heap.size w u→∀ (e:Df) (A1:Option Addr) (c1:Nat) (A2:Option Addr) (c2:Nat),DW u A1 e.ents→rowsEx u A2 e.body.ks→Calls Tryz.prog g (.agg ⟨Ce e A1 c1 A2 c2⟩ :: cap).toArray u fun en w'=>en=.returned (.bool (F e))∧Below u.heap.size u w'):Calls Tryz.prog 84 ([.slice q ds.length h,.func (.func g) #[] ⟨cap⟩]:List Value).toArray w fun e w'=>e=.returned (D (AJ F ds))∧Below w.heap.size w w':=by
 refine Af (fn:=Tryz.f84) (c:=cg) (n:=19) ?_
 have K1:=Wk.start w
 refine AC eH K1 [] fun w1 K2=>?_
 have K3:Wk w w1 [] [] []:=K2.pk [] []
 have d:(AJ F ds)=DG F ds 0 0:=by unfold AJ; rfl
 refine BB [(0,.slice q ds.length h),(1,.func (.func g) #[] ⟨cap⟩),(4,D 0),(7,D ((ds.length:Int))),(8,D (((0:Nat):Int)))] fun E2=>?_
 refine Bi (by kernel_rfl) (fun E y=>∃ (b:Nat) (f:Int) (E0:Nat→Value),b≤ds.length∧E=Aw E0 [(0,.slice q ds.length h),(1,.func (.func g) #[] ⟨cap⟩),(4,D f),(7,D ((ds.length:Int))),(8,D ((b:Int)))]∧(AJ F ds)=DG F (List.drop b ds) b f∧Wk w y [] [] []) (fun E _=>ds.length - AQ (E 8)) ⟨0,0,E2,Nat.zero_le _,rfl,d,K3⟩ ?_
 clear d
 rintro E y ⟨b,f,E0,y0,rfl,d,K4⟩ j
 refine AC WL K4 [] fun w4 K5=>?_
 refine AM (decide ((b:Int) < (ds.length:Int))) (fun c5=>?_) (fun c5=>?_)
 ·have i:b < ds.length:=by have:=of_decide_eq_true c5; omega
  obtain ⟨a,b0⟩:∃ e,ds[b]?=some e:=⟨_,List.getElem?_eq_getElem i⟩
  rw [OK b a b0] at d
  obtain ⟨t,v,rfl,d0,f0⟩:=c0.all (by omega)
  obtain ⟨p,m,o,l,z,s,r⟩:=f0 b _ b0
  refine BG Ai nR K5 [] fun w6 K6=>?_
  refine BH (g:=t) (off:=v) (cap:=h) (sz:=21) (k:=b) (len:=ds.length) (some 14) i Tryz.underlying36 ?_
  let z0:List Value:=[D a.kind,.string ⟨⟨a.name⟩⟩,.bool (a.tb),D a.tm,D a.th,D a.td,D a.frm,.slice p a.ents.length m,D a.body.op,D a.body.num,D a.body.den,D a.body.mu,D a.body.hu,D a.body.du,.string ⟨⟨a.body.nm⟩⟩,D a.body.cnt,D a.body.md,.slice o a.body.ks.length l,D a.mode,D a.num,D a.den]
  refine CC 34 t (v + b * 21) z0 (some 15) (Ac z d0 K6.B) ?_
  refine AC nQ K6 [] fun w7 K7=>?_
  refine M5 g (.agg ⟨z0⟩ :: cap) (hg:=hg) (hF w7 K7.B _ _ _ _ _ (s.below K7.B) (r.below K7.B)) fun en w8 hh=>?_
  obtain ⟨rfl,b8⟩:=hh
  refine ⟨_,rfl,?_⟩
  have K8:=K7.below b8
  refine AC nP K8 [] fun w9 K9=>?_
  refine AM (F a) (fun x=>?_) (fun x=>?_)
  ·refine AC uU K9 [] fun x0 t0=>?_
   exact AO t0 (0,0) (D ((b:Int))) (by rw [d,x] <;> rfl)
  ·refine AC (Aj eH) K9 [] fun h0 r0=>?_
   refine BB [(0,.slice (some ⟨t,v,none⟩) ds.length h),(1,.func (.func g) #[] ⟨cap⟩),(4,D f),(7,D ((ds.length:Int))),(8,D (IntKind.i64.wrap ((b:Int) + 1)))] fun v0=>?_
   have q0:Wk w h0 [] [] []:=r0.pk [] []
   rw [Bs b (by omega)]
   refine j _ _ ⟨b + 1,f,v0,i,rfl,by rw [d,x] <;> rfl,q0⟩ ?_
   show ds.length - AQ (D ((b + 1:Nat):Int)) < ds.length - AQ (D (b:Int))
   simp only [AQ]
   omega
 ·have a0:b=ds.length:=by have:=of_decide_eq_false c5; omega
  rw [a0,List.drop_length,Pg] at d
  refine AC uT K5 [] fun w0 p0=>?_
  exact AO p0 (0,0) (D (-1)) (by rw [d] <;> rfl)
def Gr (F:Df→Bool) (ds:List (Df)):Bool:=decide (0≤AJ F ds)
noncomputable def Vy:Code:=Tryz.f45.body.getD .skip
def i7:=AB 60 ([.code Vy])
def rd:=AB 60 (AE i7)
theorem Qe (F:Df→Bool) (a:Option Addr) (ds:List (Df)) (d:Nat) (g:FuncId) (cap:List Value) (w:World) (f:rowsDf w a ds) (b:ds.length≤4294967296) (hg:Dw Tryz.prog g=true) (m:∀ u,Below w.heap.size w u→∀ (e:Df) (j:Option Addr) (q:Nat) (i:Option Addr) (p:Nat),DW u j e.ents→rowsEx u i e.body.ks→Calls Tryz.prog g (.agg ⟨Ce e j q i p⟩ :: cap).toArray u fun o w'=>o=.returned (.bool (F e))∧Below u.heap.size u w'):Calls Tryz.prog 45 ([.slice a ds.length d,.func (.func g) #[] ⟨cap⟩]:List Value).toArray w fun e w'=>e=.returned (.bool (Gr F ds))∧Below w.heap.size w w':=by
 refine Af (fn:=Tryz.f45) (c:=Vy) (n:=9) ?_
 have v:=Wk.start w
 refine AC i7 v [] fun k h=>?_
 refine Ap h (args:=[.slice a ds.length d,.func (.func g) #[] ⟨cap⟩]) (Ns F _ ds _ g cap k (f.below h.B) b hg (fun l r=>m l (h.B.trans (r.mono h.B.size)))) fun y t=>?_
 refine AC rd t [] fun x s=>?_
 exact AO s (0,0) (.bool (decide (0≤AJ F ds))) (by unfold Gr; rfl)
end
end Go.Proofs.YtmcpjkcggfmcmaaGreatDoor
namespace Go.Proofs.YtmcpjkcggfmcmaaGreatDoor
noncomputable section
open Go.RowKit
set_option maxRecDepth 100000
set_option maxHeartbeats 1000000
attribute [local irreducible] BO CB AE AG AL Ay Aj AP Bc Cq Eb CT CO At Fr
def lw (T:TypeId) (x:Nat):Op→Bool
 | .load t (.tmp y)=>t == T && y == x
 | _=>false
def JB (x:Df) (d:Df):Bool:=JA x d
noncomputable def Ul:Code:=Tryz.f46.body.getD .skip
def pF:=AB (BA (lw 34 1) 90 ([.code Ul])) ([.code Ul])
def pE:=AB 60 (AE (pF))
def va:=AB 60 (AE pE)
theorem Vb (x:Df) (g:Option Addr) (l:Nat) (f:Option Addr) (k b:Nat) (d:Df) (j:Option Addr) (o:Nat) (i:Option Addr) (m:Nat) (w:World) (q:DW w g x.ents) (p:rowsEx w f x.body.ks) (h:b < w.heap.size) (a:w.rangeAt b 0 [D d.kind,.string ⟨⟨d.name⟩⟩,.bool (d.tb),D d.tm,D d.th,D d.td,D d.frm,.slice j d.ents.length o,D d.body.op,D d.body.num,D d.body.den,D d.body.mu,D d.body.hu,D d.body.du,.string ⟨⟨d.body.nm⟩⟩,D d.body.cnt,D d.body.md,.slice i d.body.ks.length m,D d.mode,D d.num,D d.den]) (s:DW w j d.ents) (r:rowsEx w i d.body.ks):Calls Tryz.prog 46 ([.agg ⟨[D x.kind,.string ⟨⟨x.name⟩⟩,.bool (x.tb),D x.tm,D x.th,D x.td,D x.frm,.slice g x.ents.length l,D x.body.op,D x.body.num,D x.body.den,D x.body.mu,D x.body.hu,D x.body.du,.string ⟨⟨x.body.nm⟩⟩,D x.body.cnt,D x.body.md,.slice f x.body.ks.length k,D x.mode,D x.num,D x.den]⟩,.pointer (some ⟨b,0,none⟩)]:List Value).toArray w fun e w'=>e=.returned (.bool (JB x d))∧Below w.heap.size w w':=by
 refine Af (fn:=Tryz.f46) (c:=Ul) (n:=7) ?_
 have z:=h
 have u:=a
 have K1:=Wk.start w
 refine WB (lw 34 1) pF K1 [(0,0)] fun w1 v=>?_
 refine CC 34 b 0 [D d.kind,.string ⟨⟨d.name⟩⟩,.bool (d.tb),D d.tm,D d.th,D d.td,D d.frm,.slice j d.ents.length o,D d.body.op,D d.body.num,D d.body.den,D d.body.mu,D d.body.hu,D d.body.du,.string ⟨⟨d.body.nm⟩⟩,D d.body.cnt,D d.body.md,.slice i d.body.ks.length m,D d.mode,D d.num,D d.den] (some 5) (Ac a h v.B) ?_
 refine AC pE v [] fun y t=>?_
 refine Ap t (Va x g l f k d j o i m y (q.below t.B) (p.below t.B) (s.below t.B) (r.below t.B)) fun w3 K4=>?_
 refine AC va K4 [] fun w4 K5=>?_
 exact AO K5 (0,0) (.bool (JA x d)) (by unfold JB; rfl)
def AD (x:Df) (d:Df):Bool:=decide (x.name=d.name)
noncomputable def dN:Code:=Tryz.f86.body.getD .skip
def pD:=Ad 1 ([.code dN])
def vZ:=AB 60 (AP pD)
theorem QC (x:Df) (f:Option Addr) (i:Nat) (a:Option Addr) (h b:Nat) (d:Df) (m:Option Addr) (q:Nat) (l:Option Addr) (p:Nat) (w:World) (v:DW w f x.ents) (t:rowsEx w a x.body.ks) (k:b < w.heap.size) (g:w.rangeAt b 0 [D d.kind,.string ⟨⟨d.name⟩⟩,.bool (d.tb),D d.tm,D d.th,D d.td,D d.frm,.slice m d.ents.length q,D d.body.op,D d.body.num,D d.body.den,D d.body.mu,D d.body.hu,D d.body.du,.string ⟨⟨d.body.nm⟩⟩,D d.body.cnt,D d.body.md,.slice l d.body.ks.length p,D d.mode,D d.num,D d.den]) (a0:DW w m d.ents) (z:rowsEx w l d.body.ks):Calls Tryz.prog 86 ([.agg ⟨[D x.kind,.string ⟨⟨x.name⟩⟩,.bool (x.tb),D x.tm,D x.th,D x.td,D x.frm,.slice f x.ents.length i,D x.body.op,D x.body.num,D x.body.den,D x.body.mu,D x.body.hu,D x.body.du,.string ⟨⟨x.body.nm⟩⟩,D x.body.cnt,D x.body.md,.slice a x.body.ks.length h,D x.mode,D x.num,D x.den]⟩,.pointer (some ⟨b,0,none⟩)]:List Value).toArray w fun e w'=>e=.returned (.bool (AD x d))∧Below w.heap.size w w':=by
 refine Af (fn:=Tryz.f86) (c:=dN) (n:=9) ?_
 have o:=k
 have j:=g
 have K1:=Wk.start w
 refine CR 1 pD [⟨w.heap.size,0,(Ce x f i a h),34,true⟩] K1 [] fun w1 r=>?_
 refine Ao r [(1,0,1),(3,1,1)] [⟨4,[(5,.string ⟨⟨x.name⟩⟩),(7,.string ⟨⟨d.name⟩⟩)],.bool (decide (x.name=d.name)),true⟩] (C1 (x:=⟨b,0 + 0 * 0,[D d.kind,.string ⟨⟨d.name⟩⟩,.bool (d.tb),D d.tm,D d.th,D d.td,D d.frm,.slice m d.ents.length q,D d.body.op,D d.body.num,D d.body.den,D d.body.mu,D d.body.hu,D d.body.du,.string ⟨⟨d.body.nm⟩⟩,D d.body.cnt,D d.body.md,.slice l d.body.ks.length p,D d.mode,D d.num,D d.den],34,false⟩) r.G ⟨Nat.lt_of_lt_of_le o r.B.size,Ac j o r.B⟩) (fun sp s=>?_) fun w2 E2 K3=>?_
 ·rw [List.mem_singleton.1 s]
  exact An fun _ E u _=>IR (T:=9) (T':=9) (x:=.tmp 5) (y:=.tmp 7)
 refine AC vZ K3 [] fun w3 K4=>?_
 exact AO K4 (0,0) (.bool (decide (x.name=d.name))) (by unfold AD; rfl)
end
end Go.Proofs.YtmcpjkcggfmcmaaGreatDoor
namespace Go.Proofs.YtmcpjkcggfmcmaaGreatDoor
open Go.RowKit
set_option maxRecDepth 100000
section
variable {b:Nat} {w w':World} {L L':List Th}
theorem VV {n:Nat} {xs:List (List Value)} (hn:∀ r∈xs,r.length=n):∀ (i:Nat) (r:List Value),xs[i]?=some r→∀ (j:Nat) u,r[j]?=some u→xs.flatten[i * n + j]?=some u:=by
 induction xs with
 | nil=>intro i e hi; simp at hi
 | cons x xs ih=>
  intro i r hi j u hu
  have a:x.length=n:=hn x (by simp)
  cases i with
  | zero=>
   simp at hi
   subst hi
   have b:j < x.length:=(List.getElem?_eq_some_iff.1 hu).1
   rw [List.flatten_cons,List.getElem?_append_left (by omega),Nat.zero_mul,Nat.zero_add]
   exact hu
  | succ i=>
   have:=ih (fun r hr=>hn r (by simp [hr])) i r (by simpa using hi) j u hu
   rw [List.flatten_cons,List.getElem?_append_right (by rw [a,Nat.succ_mul]; omega),a,show (i + 1) * n + j - n=i * n + j by rw [Nat.succ_mul]; omega]
   exact this
theorem Mh {T:TypeId} {n:Nat} {A:Option Addr} {m c:Nat} {rs:List (List Value)} (hm:rs.length=m) (hn:∀ r∈rs,r.length=n) (ho:w.ownsRow 0 T n (.slice A m c) m rs.flatten):DI CY w n A rs:=by
 rcases ho.2 with ⟨a,e⟩ | ⟨g,cap,b,a,hb,hg,hc,d,hs,ht⟩
 ·have:rs=[]:=List.eq_nil_of_length_eq_zero (hm.trans e)
  subst this
  cases a
  exact .inl rfl
 ·cases a
  refine .inr ⟨g,0,rfl,trivial,(Array.getElem?_eq_some_iff.1 hg).1,fun i r hi j u hu=>?_⟩
  have a:=VV hn i r hi j u hu
  rw [← ht,List.getElem?_take] at a
  split at a
  ·have h2:b[i * n + j]?=some u:=by rw [← Array.getElem?_toList]; exact a
   rw [show (0 + i * n + j)=i * n + j by omega]
   simp [World.cell?,hg,h2]
  ·cases a
theorem AU.rows {α:Type} {T:TypeId} {n:Nat} {a:α→List Value→Prop} {A:Option Addr} {c:Nat} {l:List α} (hn:∀ e r,a e r→r.length=n) (h:AU b w L) (i:Nat) (hi:L[i]?=some (Th.row T n a A c l)):∃ rs,Dm a l rs∧DI CY w n A rs:=by
 obtain ⟨rs,hr,ho⟩:(Th.row T n a A c l).P w:=h.all i _ hi
 exact ⟨rs,hr,Mh (I4 hr) (KU hn hr) ho⟩
theorem AU.rowsF {α:Type} {T:TypeId} {n:Nat} {f:α→List Value} {A:Option Addr} {c:Nat} {l:List α} (hn:∀ e,(f e).length=n) (h:AU b w L) (i:Nat) (hi:L[i]?=some (Th.row T n (fun e r=>r=f e) A c l)):FB n f w A l:=by
 obtain ⟨rs,hr,hs⟩:=h.rows (fun e r hr=>hr ▸ hn e) i hi
 rw [Lg hr] at hs
 exact hs
end
section
variable {P:Program} {fi:FuncId} {R:Ending→World→Prop}
theorem Ch {α:Type} {T:TypeId} {n:Nat} {rel:α→List Value→Prop} {b:Nat} {A:Option Addr} {c:Nat} {l:List α} {L:List Th} {w:World} {k:Nat} {td:List Item} {E:Nat→Value} (H:AU b w L) (i:Nat) (hi:L[i]?=some (Th.row T n rel A c l)) (e:α) (row:List Value) (hrel:rel e row) (g:Nat)
  (hgood:BI.good w ⟨g,0,row,T,true⟩) (o:Oper) (hc:FY k E td=some o) (s x:Operand) (t:TypeId) (ho:o.op=.call { callee:=.builtin .append,args:=#[s,x],argTypes:=#[t,t] })
  (ht:P.underlying t=some (.slice T)) (hinfo:(P.info? T).map (fun i=>(i.zero.map (·.cells.size),i.size,Nat.ble i.bytes 1024))=some (some n,n,true)) (hsz:0 < n)
  (hs:BN k E s=.slice A l.length c) (hx:BN k E x=.slice (some ⟨g,0,none⟩) 1 1) (hn:row.length=n) (h1:row.all (·.oneCell')=true) (hlen:l.length + 1≤100000000000)
  (hk:∀ A' c' w',AU b w' (L.set i (Th.row T n rel A' c' (l++[e])))→Below b w w'→At P fi R (AE td) (Fr k (Bc E o.dst (.slice A' (l++[e]).length c'))) w'):At P fi R td (Fr k E) w:=by
 obtain ⟨rs,hrs,hP⟩:(Th.row T n rel A c l).P w:=H.all i _ hi
 obtain ⟨inf,hin,z,hz,hzs,hsize,hby⟩:∃ inf,P.info? T=some inf∧∃ z,inf.zero=some z∧z.cells.size=n∧inf.size=n∧inf.bytes≤1024:=by
  cases hi:P.info? T with
  | none=>rw [hi] at hinfo; cases hinfo
  | some inf=>
   rw [hi] at hinfo
   simp only [Option.map_some,Option.some.injEq,Prod.mk.injEq,Option.map_eq_some_iff] at hinfo
   obtain ⟨⟨z,h1,h2⟩,h3,h4⟩:=hinfo
   exact ⟨inf,rfl,z,h1,h2,h3,Nat.le_of_ble_eq_true h4⟩
 have h63:l.length + 1≤maxLen:=by unfold maxLen; omega
 have hbytes:(l.length + 1) * inf.bytes≤140737488355328:=Nat.le_trans (Nat.mul_le_mul hlen hby) (by decide)
 have hnews:∀ j u,row[j]?=some u→w.cell? ((⟨g,0,none⟩:Addr).add j)=some u:=fun j u hu=>by
  have hadd:(⟨g,0,none⟩:Addr).add j=⟨g,j,none⟩:=by
   unfold Addr.add
   split
   ·rename_i hj; rw [hj]
   ·simp
  rw [hadd]
  exact Fl hgood hu rfl (by show j=0 + j; omega) rfl
 obtain ⟨v',w',hr,h2,h3,_,h5⟩:=run_append_own_at (P:=P) (w:=w) 0 t o.type T inf z n inf.bytes ht hin hz hsize rfl hzs hsz _ _ _ hP ⟨g,0,none⟩ 1 1 row (by rw [hn,Nat.one_mul]) hnews (fun u hu=>List.all_eq_true.1 h1 u hu) h63 hbytes (Nat.zero_le _)
 have hv:∃ g' c',v'=.slice (some ⟨g',0,none⟩) (l.length + 1) c':=by
  rcases h2.2 with ⟨_,h0⟩ | ⟨g',cap,cur,rfl,_⟩
  ·omega
  ·exact ⟨g',cap,rfl⟩
 obtain ⟨g',c',rfl⟩:=hv
 let z0:=Th.row T n rel (some ⟨g',0,none⟩) c' (l++[e])
 have hrow:z0.P w':=⟨rs++[row],Mc hrel hrs,by
  rw [List.length_append,List.length_singleton,List.flatten_append]
  simpa using h2⟩
 have hF:∀ q,z0.F q→q < w'.heap.size∧((Th.row T n rel A c l).F q∨w.heap.size≤q):=fun q (hq:some (⟨g',0,none⟩:Addr)=some ⟨q,0,none⟩)=>by
  obtain rfl:g'=q:=by injection hq with hq; injection hq
  refine ⟨(Js h2 (g:=g') rfl).2,?_⟩
  rcases h5 with h5 | h5
  ·exact .inl (DC hP (h5.symm.trans rfl)).1
  ·right
   have:g'=w.heap.size:=Option.some.inj (show some g'=some w.heap.size from h5)
   omega
 have hkeep:∀ q,q < w.heap.size→¬ (Th.row T n rel A c l).F q→w'.heap[q]?=w.heap[q]?:=fun q hq hnf=>h3.block q hq fun he=>hnf (DC hP he.symm).1
 have H':AU b w' (L.set i z0):=H.set i hi h3.size hrow hF hkeep
 have hB:Below b w w':=⟨h3.os,h3.tape,h3.output,h3.size,fun q hq=>h3.block q (Nat.lt_of_lt_of_le hq H.base) fun he=>by
  have:=(H.lo i _ hi q (DC hP he.symm).1).1
  omega⟩
 unfold FY at hc
 split at hc
 ·rename_i ops i' r k'
  split at hc
  ·rename_i o' ho'
   split at hc
   ·rename_i hw
    obtain rfl:=Option.some.inj hc
    refine FU ho' (by rw [Ez]; exact hw) ?_
    unfold Oper.wp execOp
    rw [Cm]
    simp only [ho,resolve,invoke,builtin,Sem.run_bind,Sem.run_pure,Result.andThen_ok,List.map_toArray,List.map_cons,List.map_nil,hs,hx,hr]
    show wpOps P ops _ r ((Fr k E).put o'.dst (.slice (some ⟨g',0,none⟩) (l.length + 1) c')) w'
    rw [Dy]
    have:=hk _ _ w' H' hB
    rw [List.length_append,List.length_singleton] at this
    exact this
   ·cases hc
  ·cases hc
 ·cases hc
end
end Go.Proofs.YtmcpjkcggfmcmaaGreatDoor

/-
  Part 33 of a proof: contracts of functions.
-/
import Derived.Test.YtmcpjkcggfmcmaaGreatDoorD32
set_option linter.all false
namespace Go.Proofs.YtmcpjkcggfmcmaaGreatDoor
noncomputable section
open Go.RowKit
set_option maxRecDepth 100000
set_option maxHeartbeats 1000000
attribute [local irreducible] BO CB AE AG AL Ay Aj AP Bc Cq Eb CT CO At Fr
theorem LI {F:Df→Bool}:∀ (es:List Df) (i:Nat) (a:Int),DG F es i a < (i + es.length:Nat)∧(DG F es i a=-1∨0≤DG F es i a)
 | [],i,a=>by rw [DG]; exact ⟨by omega,.inl rfl⟩
 | e :: es,i,a=>by
  rw [DG,List.length_cons]
  cases F e
  ·show DG F es (i + 1) a < _∧_
   have:=LI (F:=F) es (i + 1) a
   exact ⟨by have:=this.1; omega,this.2⟩
  ·exact ⟨by show (i:Int) < _; omega,.inr (by show (0:Int)≤i; omega)⟩
theorem VT {F:Df→Bool} {ds:List Df} (h:decide (AJ F ds < 0)=false):AJ F ds=((AJ F ds).toNat:Int)∧(AJ F ds).toNat < ds.length:=by
 have b:=of_decide_eq_false h
 have h2:=(LI (F:=F) ds 0 0).1
 have a:AJ F ds < (0 + ds.length:Nat):=h2
 omega
theorem Pv (F:Df→Bool) (a:Option Addr) (ds:List (Df)) {m:Nat} (c:Nat) (g:FuncId) (cap:List Value) (w:World) (d:rowsDf w a ds) (hm:ds.length=m) (b:ds.length≤4294967296) (hg:Dw Tryz.prog g=true) (i:∀ u,Below w.heap.size w u→∀ (e:Df) (h:Option Addr) (l:Nat) (f:Option Addr) (k:Nat),DW u h e.ents→rowsEx u f e.body.ks→Calls Tryz.prog g (.agg ⟨Ce e h l f k⟩ :: cap).toArray u fun j w'=>j=.returned (.bool (F e))∧Below u.heap.size u w'):Calls Tryz.prog 45 ([.slice a m c,.func (.func g) #[] ⟨cap⟩]:List Value).toArray w fun e w'=>e=.returned (.bool (Gr F ds))∧Below w.heap.size w w':=by
 subst hm
 exact Qe F a ds c g cap w d b hg i
def DQ (d:Df) (ns:List (Df)):Int:=cond (decide (AJ (fun x=>AD x d) ns < 0)) (0) (Ha ((Ah ((ns.getD (AJ (fun x=>AD x d) ns).toNat default).kind) ((ns.getD (AJ (fun x=>AD x d) ns).toNat default).tb) ((ns.getD (AJ (fun x=>AD x d) ns).toNat default).tm) ((ns.getD (AJ (fun x=>AD x d) ns).toNat default).th) ((ns.getD (AJ (fun x=>AD x d) ns).toNat default).td)).1) ((Ah ((ns.getD (AJ (fun x=>AD x d) ns).toNat default).kind) ((ns.getD (AJ (fun x=>AD x d) ns).toNat default).tb) ((ns.getD (AJ (fun x=>AD x d) ns).toNat default).tm) ((ns.getD (AJ (fun x=>AD x d) ns).toNat default).th) ((ns.getD (AJ (fun x=>AD x d) ns).toNat default).td)).2.1) ((Ah ((ns.getD (AJ (fun x=>AD x d) ns).toNat default).kind) ((ns.getD (AJ (fun x=>AD x d) ns).toNat default).tb) ((ns.getD (AJ (fun x=>AD x d) ns).toNat default).tm) ((ns.getD (AJ (fun x=>AD x d) ns).toNat default).th) ((ns.getD (AJ (fun x=>AD x d) ns).toNat default).td)).2.2.1) ((Ah ((ns.getD (AJ (fun x=>AD x d) ns).toNat default).kind) ((ns.getD (AJ (fun x=>AD x d) ns).toNat default).tb) ((ns.getD (AJ (fun x=>AD x d) ns).toNat default).tm) ((ns.getD (AJ (fun x=>AD x d) ns).toNat default).th) ((ns.getD (AJ (fun x=>AD x d) ns).toNat default).td)).2.2.2) d.tb d.tm d.th d.td)
noncomputable def V5:Code:=Tryz.f48.body.getD .skip
def lH:=AB 60 ([.code V5])
def YW:=AB 60 (AE lH)
def ti:=AB 60 (AG YW)
def lG:=Ad 4 (AL YW)
def tg:=AB 60 (AP lG)
theorem Rp (d:Df) (b:Option Addr) (k:Nat) (a:Option Addr) (j:Nat) (r:Option Addr) (ns:List (Df)) (l:Nat) (w:World) (a0:DW w b d.ents) (z:rowsEx w a d.body.ks) (p:rowsDf w r ns) (c0:ns.length≤4294967296):Calls Tryz.prog 48 ([.agg ⟨[D d.kind,.string ⟨⟨d.name⟩⟩,.bool (d.tb),D d.tm,D d.th,D d.td,D d.frm,.slice b d.ents.length k,D d.body.op,D d.body.num,D d.body.den,D d.body.mu,D d.body.hu,D d.body.du,.string ⟨⟨d.body.nm⟩⟩,D d.body.cnt,D d.body.md,.slice a d.body.ks.length j,D d.mode,D d.num,D d.den]⟩,.slice r ns.length l]:List Value).toArray w fun e w'=>e=.returned (D ((DQ d ns)))∧Below w.heap.size w w':=by
 refine Af (fn:=Tryz.f48) (c:=V5) (n:=19) ?_
 have K1:=Wk.start w
 refine C8 lH [⟨w.heap.size,0,(Ce d b k a j),34,true⟩] K1 [] fun w1 o=>?_
 refine Ap o (args:=[.slice r ns.length l,.func (.func 86) #[] ⟨[.pointer (some ⟨w.heap.size,0,none⟩)]⟩]) (Ns (fun x=>AD x d) _ ns _ 86 [.pointer (some ⟨w.heap.size,0,none⟩)] w1 (p.below o.B) (by first | assumption | omega) (by kernel_rfl) (fun u2 b2 x A1 c1 A2 c2 g1 g2=>QC x A1 c1 A2 c2 (w.heap.size) d _ _ _ _ u2 g1 g2 (Nat.lt_of_lt_of_le (o.ent (e:=⟨w.heap.size,0,(Ce d b k a j),34,true⟩) 0 (by kernel_rfl)).1 b2.size) (Ac (Ju (o.ent (e:=⟨w.heap.size,0,(Ce d b k a j),34,true⟩) 0 (by kernel_rfl))) (o.ent (e:=⟨w.heap.size,0,(Ce d b k a j),34,true⟩) 0 (by kernel_rfl)).1 b2) (a0.below (o.B.trans (b2.mono o.B.size))) (z.below (o.B.trans (b2.mono o.B.size))))) fun w2 K3=>?_
 refine AC YW K3 [] fun w3 K4=>?_
 refine AM (decide (AJ (fun x=>AD x d) ns < 0)) (fun c4=>?_) (fun c4=>?_)
 ·refine AC ti K4 [] fun w5 K5=>?_
  have hS:(DQ d ns)=0:=by unfold DQ; rw [c4] <;> rfl
  exact Ab K5 (0,0) (D 0) ⟨by rw [hS] <;> rfl,K5.B⟩
 ·have m:=VT c4
  rw [m.1]
  refine Al 4 lG K4 [] fun w6 K6=>?_
  obtain ⟨s,t,rfl,q,b0⟩:=p.all (Nat.lt_of_le_of_lt (Nat.zero_le _) m.2)
  have d0:ns[(AJ (fun x=>AD x d) ns).toNat]?=some (ns.getD (AJ (fun x=>AD x d) ns).toNat default):=getD_some default m.2
  obtain ⟨i,g,h,f,y,f0,e0⟩:=b0 (AJ (fun x=>AD x d) ns).toNat _ d0
  refine Ao K6 [(3,1,0),(6,0,2)] [⟨2,[(11,.slice (some ⟨s,t,none⟩) ns.length l),(12,D (((AJ (fun x=>AD x d) ns).toNat:Int)))],.pointer (some ⟨s,t + (AJ (fun x=>AD x d) ns).toNat * 21,none⟩),true⟩,⟨4,[(14,.agg ⟨[D ((ns.getD (AJ (fun x=>AD x d) ns).toNat default).kind),.string ⟨⟨(ns.getD (AJ (fun x=>AD x d) ns).toNat default).name⟩⟩,.bool ((ns.getD (AJ (fun x=>AD x d) ns).toNat default).tb),D ((ns.getD (AJ (fun x=>AD x d) ns).toNat default).tm),D ((ns.getD (AJ (fun x=>AD x d) ns).toNat default).th),D ((ns.getD (AJ (fun x=>AD x d) ns).toNat default).td),D ((ns.getD (AJ (fun x=>AD x d) ns).toNat default).frm),.slice i ((ns.getD (AJ (fun x=>AD x d) ns).toNat default).ents.length) g,D ((ns.getD (AJ (fun x=>AD x d) ns).toNat default).body.op),D ((ns.getD (AJ (fun x=>AD x d) ns).toNat default).body.num),D ((ns.getD (AJ (fun x=>AD x d) ns).toNat default).body.den),D ((ns.getD (AJ (fun x=>AD x d) ns).toNat default).body.mu),D ((ns.getD (AJ (fun x=>AD x d) ns).toNat default).body.hu),D ((ns.getD (AJ (fun x=>AD x d) ns).toNat default).body.du),.string ⟨⟨(ns.getD (AJ (fun x=>AD x d) ns).toNat default).body.nm⟩⟩,D ((ns.getD (AJ (fun x=>AD x d) ns).toNat default).body.cnt),D ((ns.getD (AJ (fun x=>AD x d) ns).toNat default).body.md),.slice h ((ns.getD (AJ (fun x=>AD x d) ns).toNat default).body.ks.length) f,D ((ns.getD (AJ (fun x=>AD x d) ns).toNat default).mode),D ((ns.getD (AJ (fun x=>AD x d) ns).toNat default).num),D ((ns.getD (AJ (fun x=>AD x d) ns).toNat default).den)]⟩)],EU (Ah ((ns.getD (AJ (fun x=>AD x d) ns).toNat default).kind) ((ns.getD (AJ (fun x=>AD x d) ns).toNat default).tb) ((ns.getD (AJ (fun x=>AD x d) ns).toNat default).tm) ((ns.getD (AJ (fun x=>AD x d) ns).toNat default).th) ((ns.getD (AJ (fun x=>AD x d) ns).toNat default).td)),true⟩,⟨7,[(15,EU (Ah ((ns.getD (AJ (fun x=>AD x d) ns).toNat default).kind) ((ns.getD (AJ (fun x=>AD x d) ns).toNat default).tb) ((ns.getD (AJ (fun x=>AD x d) ns).toNat default).tm) ((ns.getD (AJ (fun x=>AD x d) ns).toNat default).th) ((ns.getD (AJ (fun x=>AD x d) ns).toNat default).td))),(17,.agg ⟨[.bool (d.tb),D d.tm,D d.th,D d.td]⟩)],D (Ha ((Ah ((ns.getD (AJ (fun x=>AD x d) ns).toNat default).kind) ((ns.getD (AJ (fun x=>AD x d) ns).toNat default).tb) ((ns.getD (AJ (fun x=>AD x d) ns).toNat default).tm) ((ns.getD (AJ (fun x=>AD x d) ns).toNat default).th) ((ns.getD (AJ (fun x=>AD x d) ns).toNat default).td)).1) ((Ah ((ns.getD (AJ (fun x=>AD x d) ns).toNat default).kind) ((ns.getD (AJ (fun x=>AD x d) ns).toNat default).tb) ((ns.getD (AJ (fun x=>AD x d) ns).toNat default).tm) ((ns.getD (AJ (fun x=>AD x d) ns).toNat default).th) ((ns.getD (AJ (fun x=>AD x d) ns).toNat default).td)).2.1) ((Ah ((ns.getD (AJ (fun x=>AD x d) ns).toNat default).kind) ((ns.getD (AJ (fun x=>AD x d) ns).toNat default).tb) ((ns.getD (AJ (fun x=>AD x d) ns).toNat default).tm) ((ns.getD (AJ (fun x=>AD x d) ns).toNat default).th) ((ns.getD (AJ (fun x=>AD x d) ns).toNat default).td)).2.2.1) ((Ah ((ns.getD (AJ (fun x=>AD x d) ns).toNat default).kind) ((ns.getD (AJ (fun x=>AD x d) ns).toNat default).tb) ((ns.getD (AJ (fun x=>AD x d) ns).toNat default).tm) ((ns.getD (AJ (fun x=>AD x d) ns).toNat default).th) ((ns.getD (AJ (fun x=>AD x d) ns).toNat default).td)).2.2.2) d.tb d.tm d.th d.td),true⟩] (C1 (x:=⟨s,t + (AJ (fun x=>AD x d) ns).toNat * 21,[D ((ns.getD (AJ (fun x=>AD x d) ns).toNat default).kind),.string ⟨⟨(ns.getD (AJ (fun x=>AD x d) ns).toNat default).name⟩⟩,.bool ((ns.getD (AJ (fun x=>AD x d) ns).toNat default).tb),D ((ns.getD (AJ (fun x=>AD x d) ns).toNat default).tm),D ((ns.getD (AJ (fun x=>AD x d) ns).toNat default).th),D ((ns.getD (AJ (fun x=>AD x d) ns).toNat default).td),D ((ns.getD (AJ (fun x=>AD x d) ns).toNat default).frm),.slice i ((ns.getD (AJ (fun x=>AD x d) ns).toNat default).ents.length) g,D ((ns.getD (AJ (fun x=>AD x d) ns).toNat default).body.op),D ((ns.getD (AJ (fun x=>AD x d) ns).toNat default).body.num),D ((ns.getD (AJ (fun x=>AD x d) ns).toNat default).body.den),D ((ns.getD (AJ (fun x=>AD x d) ns).toNat default).body.mu),D ((ns.getD (AJ (fun x=>AD x d) ns).toNat default).body.hu),D ((ns.getD (AJ (fun x=>AD x d) ns).toNat default).body.du),.string ⟨⟨(ns.getD (AJ (fun x=>AD x d) ns).toNat default).body.nm⟩⟩,D ((ns.getD (AJ (fun x=>AD x d) ns).toNat default).body.cnt),D ((ns.getD (AJ (fun x=>AD x d) ns).toNat default).body.md),.slice h ((ns.getD (AJ (fun x=>AD x d) ns).toNat default).body.ks.length) f,D ((ns.getD (AJ (fun x=>AD x d) ns).toNat default).mode),D ((ns.getD (AJ (fun x=>AD x d) ns).toNat default).num),D ((ns.getD (AJ (fun x=>AD x d) ns).toNat default).den)],34,false⟩) K6.G ⟨Nat.lt_of_lt_of_le q K6.B.size,Ac y q K6.B⟩) (fun sp v=>?_) fun w7 E7 K7=>?_
  ·simp only [List.mem_cons,List.not_mem_nil,or_false] at v
   rcases v with rfl | rfl | rfl
   ·exact An fun _ E u _=>Bd (sz:=21) (cap:=l) 36 (.tmp 11) (.tmp 12) (by kernel_rfl) (by kernel_rfl) m.2 Tryz.underlying36
   ·exact AX 85 [.tmp 14] [.agg ⟨[D ((ns.getD (AJ (fun x=>AD x d) ns).toNat default).kind),.string ⟨⟨(ns.getD (AJ (fun x=>AD x d) ns).toNat default).name⟩⟩,.bool ((ns.getD (AJ (fun x=>AD x d) ns).toNat default).tb),D ((ns.getD (AJ (fun x=>AD x d) ns).toNat default).tm),D ((ns.getD (AJ (fun x=>AD x d) ns).toNat default).th),D ((ns.getD (AJ (fun x=>AD x d) ns).toNat default).td),D ((ns.getD (AJ (fun x=>AD x d) ns).toNat default).frm),.slice i ((ns.getD (AJ (fun x=>AD x d) ns).toNat default).ents.length) g,D ((ns.getD (AJ (fun x=>AD x d) ns).toNat default).body.op),D ((ns.getD (AJ (fun x=>AD x d) ns).toNat default).body.num),D ((ns.getD (AJ (fun x=>AD x d) ns).toNat default).body.den),D ((ns.getD (AJ (fun x=>AD x d) ns).toNat default).body.mu),D ((ns.getD (AJ (fun x=>AD x d) ns).toNat default).body.hu),D ((ns.getD (AJ (fun x=>AD x d) ns).toNat default).body.du),.string ⟨⟨(ns.getD (AJ (fun x=>AD x d) ns).toNat default).body.nm⟩⟩,D ((ns.getD (AJ (fun x=>AD x d) ns).toNat default).body.cnt),D ((ns.getD (AJ (fun x=>AD x d) ns).toNat default).body.md),.slice h ((ns.getD (AJ (fun x=>AD x d) ns).toNat default).body.ks.length) f,D ((ns.getD (AJ (fun x=>AD x d) ns).toNat default).mode),D ((ns.getD (AJ (fun x=>AD x d) ns).toNat default).num),D ((ns.getD (AJ (fun x=>AD x d) ns).toNat default).den)]⟩] (fun _=>by kernel_rfl) fun hc u hu=>AR hu (JM ((ns.getD (AJ (fun x=>AD x d) ns).toNat default).kind) ((ns.getD (AJ (fun x=>AD x d) ns).toNat default).name) ((ns.getD (AJ (fun x=>AD x d) ns).toNat default).tb) ((ns.getD (AJ (fun x=>AD x d) ns).toNat default).tm) ((ns.getD (AJ (fun x=>AD x d) ns).toNat default).th) ((ns.getD (AJ (fun x=>AD x d) ns).toNat default).td) ((ns.getD (AJ (fun x=>AD x d) ns).toNat default).frm) i ((ns.getD (AJ (fun x=>AD x d) ns).toNat default).ents.length) g ((ns.getD (AJ (fun x=>AD x d) ns).toNat default).body.op) ((ns.getD (AJ (fun x=>AD x d) ns).toNat default).body.num) ((ns.getD (AJ (fun x=>AD x d) ns).toNat default).body.den) ((ns.getD (AJ (fun x=>AD x d) ns).toNat default).body.mu) ((ns.getD (AJ (fun x=>AD x d) ns).toNat default).body.hu) ((ns.getD (AJ (fun x=>AD x d) ns).toNat default).body.du) ((ns.getD (AJ (fun x=>AD x d) ns).toNat default).body.nm) ((ns.getD (AJ (fun x=>AD x d) ns).toNat default).body.cnt) ((ns.getD (AJ (fun x=>AD x d) ns).toNat default).body.md) h ((ns.getD (AJ (fun x=>AD x d) ns).toNat default).body.ks.length) f ((ns.getD (AJ (fun x=>AD x d) ns).toNat default).mode) ((ns.getD (AJ (fun x=>AD x d) ns).toNat default).num) ((ns.getD (AJ (fun x=>AD x d) ns).toNat default).den) u)
   ·exact AX 87 [.tmp 15,.tmp 17] [EU (Ah ((ns.getD (AJ (fun x=>AD x d) ns).toNat default).kind) ((ns.getD (AJ (fun x=>AD x d) ns).toNat default).tb) ((ns.getD (AJ (fun x=>AD x d) ns).toNat default).tm) ((ns.getD (AJ (fun x=>AD x d) ns).toNat default).th) ((ns.getD (AJ (fun x=>AD x d) ns).toNat default).td)),.agg ⟨[.bool (d.tb),D d.tm,D d.th,D d.td]⟩] (fun _=>by kernel_rfl) fun hc u hu=>AR hu (RP ((Ah ((ns.getD (AJ (fun x=>AD x d) ns).toNat default).kind) ((ns.getD (AJ (fun x=>AD x d) ns).toNat default).tb) ((ns.getD (AJ (fun x=>AD x d) ns).toNat default).tm) ((ns.getD (AJ (fun x=>AD x d) ns).toNat default).th) ((ns.getD (AJ (fun x=>AD x d) ns).toNat default).td)).1) ((Ah ((ns.getD (AJ (fun x=>AD x d) ns).toNat default).kind) ((ns.getD (AJ (fun x=>AD x d) ns).toNat default).tb) ((ns.getD (AJ (fun x=>AD x d) ns).toNat default).tm) ((ns.getD (AJ (fun x=>AD x d) ns).toNat default).th) ((ns.getD (AJ (fun x=>AD x d) ns).toNat default).td)).2.1) ((Ah ((ns.getD (AJ (fun x=>AD x d) ns).toNat default).kind) ((ns.getD (AJ (fun x=>AD x d) ns).toNat default).tb) ((ns.getD (AJ (fun x=>AD x d) ns).toNat default).tm) ((ns.getD (AJ (fun x=>AD x d) ns).toNat default).th) ((ns.getD (AJ (fun x=>AD x d) ns).toNat default).td)).2.2.1) ((Ah ((ns.getD (AJ (fun x=>AD x d) ns).toNat default).kind) ((ns.getD (AJ (fun x=>AD x d) ns).toNat default).tb) ((ns.getD (AJ (fun x=>AD x d) ns).toNat default).tm) ((ns.getD (AJ (fun x=>AD x d) ns).toNat default).th) ((ns.getD (AJ (fun x=>AD x d) ns).toNat default).td)).2.2.2) d.tb d.tm d.th d.td u)
  refine AC tg K7 [] fun w8 K8=>?_
  have hS:(DQ d ns)=Ha ((Ah ((ns.getD (AJ (fun x=>AD x d) ns).toNat default).kind) ((ns.getD (AJ (fun x=>AD x d) ns).toNat default).tb) ((ns.getD (AJ (fun x=>AD x d) ns).toNat default).tm) ((ns.getD (AJ (fun x=>AD x d) ns).toNat default).th) ((ns.getD (AJ (fun x=>AD x d) ns).toNat default).td)).1) ((Ah ((ns.getD (AJ (fun x=>AD x d) ns).toNat default).kind) ((ns.getD (AJ (fun x=>AD x d) ns).toNat default).tb) ((ns.getD (AJ (fun x=>AD x d) ns).toNat default).tm) ((ns.getD (AJ (fun x=>AD x d) ns).toNat default).th) ((ns.getD (AJ (fun x=>AD x d) ns).toNat default).td)).2.1) ((Ah ((ns.getD (AJ (fun x=>AD x d) ns).toNat default).kind) ((ns.getD (AJ (fun x=>AD x d) ns).toNat default).tb) ((ns.getD (AJ (fun x=>AD x d) ns).toNat default).tm) ((ns.getD (AJ (fun x=>AD x d) ns).toNat default).th) ((ns.getD (AJ (fun x=>AD x d) ns).toNat default).td)).2.2.1) ((Ah ((ns.getD (AJ (fun x=>AD x d) ns).toNat default).kind) ((ns.getD (AJ (fun x=>AD x d) ns).toNat default).tb) ((ns.getD (AJ (fun x=>AD x d) ns).toNat default).tm) ((ns.getD (AJ (fun x=>AD x d) ns).toNat default).th) ((ns.getD (AJ (fun x=>AD x d) ns).toNat default).td)).2.2.2) d.tb d.tm d.th d.td:=by unfold DQ; rw [c4] <;> rfl
  exact Ab K8 (0,0) (D (Ha ((Ah ((ns.getD (AJ (fun x=>AD x d) ns).toNat default).kind) ((ns.getD (AJ (fun x=>AD x d) ns).toNat default).tb) ((ns.getD (AJ (fun x=>AD x d) ns).toNat default).tm) ((ns.getD (AJ (fun x=>AD x d) ns).toNat default).th) ((ns.getD (AJ (fun x=>AD x d) ns).toNat default).td)).1) ((Ah ((ns.getD (AJ (fun x=>AD x d) ns).toNat default).kind) ((ns.getD (AJ (fun x=>AD x d) ns).toNat default).tb) ((ns.getD (AJ (fun x=>AD x d) ns).toNat default).tm) ((ns.getD (AJ (fun x=>AD x d) ns).toNat default).th) ((ns.getD (AJ (fun x=>AD x d) ns).toNat default).td)).2.1) ((Ah ((ns.getD (AJ (fun x=>AD x d) ns).toNat default).kind) ((ns.getD (AJ (fun x=>AD x d) ns).toNat default).tb) ((ns.getD (AJ (fun x=>AD x d) ns).toNat default).tm) ((ns.getD (AJ (fun x=>AD x d) ns).toNat default).th) ((ns.getD (AJ (fun x=>AD x d) ns).toNat default).td)).2.2.1) ((Ah ((ns.getD (AJ (fun x=>AD x d) ns).toNat default).kind) ((ns.getD (AJ (fun x=>AD x d) ns).toNat default).tb) ((ns.getD (AJ (fun x=>AD x d) ns).toNat default).tm) ((ns.getD (AJ (fun x=>AD x d) ns).toNat default).th) ((ns.getD (AJ (fun x=>AD x d) ns).toNat default).td)).2.2.2) d.tb d.tm d.th d.td)) ⟨by rw [hS] <;> rfl,K8.B⟩
theorem Gm:∀ (es a b c:List Df),(CN es a b c).1.length≤a.length + es.length∧(CN es a b c).2.1.length≤b.length + es.length∧(CN es a b c).2.2.length≤c.length + es.length
 | [],a,b,c=>by rw [CN]; exact ⟨Nat.le_refl _,Nat.le_refl _,Nat.le_refl _⟩
 | e :: es,a,b,c=>by
  have g:=Gm es a b c
  have f:=Gm es (a++[e]) b c
  have h2:=Gm es a (b++[e]) c
  have d:=Gm es a b (c++[e])
  simp only [List.length_append,List.length_singleton] at f h2 d
  rw [CN,List.length_cons]
  cases e.kind == 1 <;> cases e.kind == 3 <;> cases e.kind == 4 <;> cases e.kind == 2 <;> cases e.kind == 5 <;> simp only [cond_true,cond_false] <;> omega
theorem VX (ds:List Df):(AW ds).1.length≤ds.length∧(AW ds).2.1.length≤ds.length∧(AW ds).2.2.length≤ds.length:=by
 have:=Gm ds [] [] []
 simpa [AW] using this
def DE (ds:List (Df)):List (Df)→Nat→List (Int×Int)→List (Int×Int)×Int
 | [],i0,a0_0=>(a0_0,0)
 | e0 :: tl,i0,a0_0=>cond (Gr (fun x=>JB x e0) (ds.take i0)) (DE ds tl (i0 + 1) (a0_0++[((i0:Int),8)])) (cond (e0.kind == 5) (cond (!((DQ e0 (((AW ds)).1)) == 0)) (DE ds tl (i0 + 1) (a0_0++[((i0:Int),(DQ e0 (((AW ds)).1)))])) (DE ds tl (i0 + 1) a0_0)) (cond (cond (e0.kind == 3) (true) (e0.kind == 4)) (cond (!(Dl e0 (((AW ds)).1) (((AW ds)).2.1) (((AW ds)).2.2) == 0)) (DE ds tl (i0 + 1) (a0_0++[((i0:Int),Dl e0 (((AW ds)).1) (((AW ds)).2.1) (((AW ds)).2.2))])) (DE ds tl (i0 + 1) a0_0)) (DE ds tl (i0 + 1) a0_0)))
theorem Rq {ds:List (Df)} {b:Nat} {a:List (Int×Int)}:DE ds [] b a=((a,0)):=by rw [DE]
theorem Ql {ds:List (Df)} {a:List (Int×Int)} {es:List (Df)} (b:Nat) (c:Df) (hi:es[b]?=some c):DE ds (es.drop b) b a=(cond (Gr (fun x=>JB x c) (ds.take b)) (DE ds (es.drop (b + 1)) (b + 1) (a++[((b:Int),8)])) (cond (c.kind == 5) (cond (!((DQ c (((AW ds)).1)) == 0)) (DE ds (es.drop (b + 1)) (b + 1) (a++[((b:Int),(DQ c (((AW ds)).1)))])) (DE ds (es.drop (b + 1)) (b + 1) a)) (cond (cond (c.kind == 3) (true) (c.kind == 4)) (cond (!(Dl c (((AW ds)).1) (((AW ds)).2.1) (((AW ds)).2.2) == 0)) (DE ds (es.drop (b + 1)) (b + 1) (a++[((b:Int),Dl c (((AW ds)).1) (((AW ds)).2.1) (((AW ds)).2.2))])) (DE ds (es.drop (b + 1)) (b + 1) a)) (DE ds (es.drop (b + 1)) (b + 1) a)))):=by
 have hl:b < es.length:=(List.getElem?_eq_some_iff.1 hi).1
 have he:es[b]=c:=(List.getElem?_eq_some_iff.1 hi).2
 rw [← List.getElem_cons_drop hl,DE] <;> (try rw [he])
def CL (p0a:List UInt8) (ds:List (Df)):List (Int×Int)×Int:=cond (!(FF p0a ds)) (([],1)) (DE ds ds 0 ([]))
noncomputable def V6:Code:=Tryz.f18.body.getD .skip
def lL:=AB 60 ([.code V6])
def YZ:=AB 60 (AE lL)
def tj:=AB 60 (AG YZ)
def lK:=AB 60 (AL YZ)
def KS:=AB 60 (AE lK)
def R9:=AB 60 (Ay KS)
def YY:=AB (BA Ai 90 (AG R9)) (AG R9)
def lJ:=AB (BA UO 90 (AE (AE YY))) (AE (AE YY))
def lI:=AB 60 (AE lJ)
def YX:=AB 60 (AE lI)
def TQ:=AB 60 (AG YX)
def bA:=AB (BA Bb 90 (AG TQ)) (AG TQ)
def TP:=AB 60 (AL YX)
def az:=AB 60 (AG TP)
def TO:=AB 60 (AE az)
def ay:=AB (BA Bb 90 (AG TO)) (AG TO)
def ax:=Ad 13 (AL TP)
def TN:=AB 60 (AP ax)
def aw:=AB 60 (AG TN)
def TM:=AB 60 (AE aw)
def av:=AB (BA Bb 90 (AG TM)) (AG TM)
def qf:=AB 60 (AL TN)
def qe:=AB 60 (AL R9)
theorem dt (y:List UInt8) (k0:Option Addr) (ds:List (Df)) (a:Nat) (w:World) (a1:rowsDf w k0 ds) (i1:ds.length≤4294967296) (hs:y.length≤4294967296) (ht:∀ d∈ds,IJ d) (g5:ds.length≤a):Calls Tryz.prog 18 ([.agg ⟨[.string ⟨⟨y⟩⟩,.slice k0 ds.length a]⟩]:List Value).toArray w fun e w'=>∃ (h2:Option Addr) (f2:Nat),e=.returned (.tuple #[.slice h2 ((((CL y ds)).1).length) f2,D (((CL y ds)).2)])∧Below w.heap.size w w'∧AU w.heap.size w' [Iz h2 f2 (((CL y ds)).1)]:=by
 refine Af (fn:=Tryz.f18) (c:=V6) (n:=63) ?_
 have K1:=Wk.start w
 let z13:List Value:=[.string ⟨⟨y⟩⟩,.slice k0 ds.length a]
 let z16:List BI:=[⟨w.heap.size,0,z13,38,true⟩]
 refine C8 lL z16 K1 [(0,0)] fun w1 K2=>?_
 refine Ap K2 (args:=[.agg ⟨z13⟩]) (LX y ds _ w1 hs i1 ht (a1.below K2.B).agr) fun w2 K3=>?_
 refine AC YZ K3 [] fun w3 K4=>?_
 refine AM (!(FF y ds)) (fun c4=>?_) (fun c4=>?_)
 ·have K5:=K4.addNil 70 2 (fun e r=>r=lp e)
  refine AC tj K5 [] fun w5 K6=>?_
  have hS:(CL y ds)=([],1):=by unfold CL; rw [c4] <;> rfl
  exact Ab K6 (0,0) (.tuple #[.slice none 0 0,D 1]) ⟨none,0,by rw [hS] <;> rfl,K6.B,by rw [hS]; exact K6.own0 [0] rfl (by decide)⟩
 ·refine AC lK K4 [(0,0)] fun w6 K7=>?_
  have Kf:=(K7.pickL (L':=[]++[]) [] rfl (by decide)).front
  refine CJ (args:=[.agg ⟨z13⟩]) (ZP _ y k0 ds a w w6 a1 (by first | assumption | omega | (simp <;> omega)) K7.B Kf) fun en w8 hh=>?_
  obtain ⟨p,l,v,s,u,q,rfl,b8,Hn⟩:=hh
  refine ⟨_,rfl,?_⟩
  have K8:=Wk.unfront b8 Hn
  have h6:=VX ds
  have q6:(AW ds).1.length≤4294967296:=by omega
  have m6:(AW ds).2.1.length≤4294967296:=by omega
  have k6:(AW ds).2.2.length≤4294967296:=by omega
  refine AC KS K8 [(0,1)] fun w9 K9=>?_
  let z11:=Ct w v s (((AW ds)).2.1)
  let z12:=Ct w u q (((AW ds)).2.2)
  let z15:=Ct w p l (((AW ds)).1)
  have y4:Wk w w9 z16 [z15,z11,z12] []:=K9.pk [0] [0,1,2]
  have x4:=y4.addNil 70 2 (fun e r=>r=lp e)
  have r0:(CL y ds)=DE ds ds 0 ([]):=by unfold CL; rw [c4] <;> rfl
  let z8:Option Addr:=some ⟨w.heap.size,0,none⟩
  let z9:=(((AW ds)).2.1).length
  let z10:=(((AW ds)).2.2).length
  let z14:=(((AW ds)).1).length
  refine BB [(1,.pointer z8),(2,.slice none 0 0),(3,D 0),(4,.slice p z14 l),(5,.slice v z9 s),(6,.slice u z10 q),(7,.slice none 0 0),(21,.slice k0 ds.length a),(22,D ((ds.length:Int))),(23,D (((0:Nat):Int)))] fun f5=>?_
  refine Bi (by kernel_rfl) (fun E z1=>∃ (j:Nat) (b:List (Int×Int)) (o:Option Addr) (m:Nat) (E0:Nat→Value),j≤ds.length∧E=Aw E0 [(1,.pointer z8),(2,.slice none 0 0),(3,D 0),(4,.slice p z14 l),(5,.slice v z9 s),(6,.slice u z10 q),(7,.slice o b.length m),(21,.slice k0 ds.length a),(22,D ((ds.length:Int))),(23,D ((j:Int)))]∧(CL y ds)=DE ds (List.drop j ds) j b∧b.length≤1 * j + 0∧Wk w z1 z16 [z15,z11,z12,(Iz o m b)] []) (fun E _=>ds.length - AQ (E 23)) ⟨0,([]),none,0,f5,Nat.zero_le _,rfl,r0,by simp,x4⟩ ?_
  clear r0
  rintro E z1 ⟨j,b,o,m,E0,g6,rfl,r0,k3,w4⟩ d0
  refine AC R9 w4 [] fun f6 y2=>?_
  refine AM (decide ((j:Int) < (ds.length:Int))) (fun s1=>?_) (fun s1=>?_)
  ·have q0:j < ds.length:=by have:=of_decide_eq_true s1; omega
   obtain ⟨f,k1⟩:∃ e,ds[j]?=some e:=⟨_,List.getElem?_eq_getElem q0⟩
   rw [Ql j f k1] at r0
   obtain ⟨f0,h0,rfl,l2,m2⟩:=a1.all (by omega)
   obtain ⟨c0,a0,b0,z,i2,x0,w0⟩:=m2 j _ k1
   refine BG Ai YY y2 [] fun t0 x2=>?_
   refine BH (g:=f0) (off:=h0) (cap:=a) (sz:=21) (k:=j) (len:=ds.length) (some 26) q0 Tryz.underlying36 ?_
   let z7:List Value:=[D f.kind,.string ⟨⟨f.name⟩⟩,.bool (f.tb),D f.tm,D f.th,D f.td,D f.frm,.slice c0 f.ents.length a0,D f.body.op,D f.body.num,D f.body.den,D f.body.mu,D f.body.hu,D f.body.du,.string ⟨⟨f.body.nm⟩⟩,D f.body.cnt,D f.body.md,.slice b0 f.body.ks.length z,D f.mode,D f.num,D f.den]
   refine CC 34 f0 (h0 + j * 21) z7 (some 27) (Ac i2 l2 x2.B) ?_
   let z6:List Value:=[.string ⟨⟨y⟩⟩,.slice (some ⟨f0,h0,none⟩) ds.length a]
   refine Cb UO lJ [⟨w.heap.size,0,z6,38,true⟩,⟨t0.heap.size,0,(Ce f c0 a0 b0 z),34,true⟩] x2 [(1,0),(0,1)] fun e6 v4=>?_
   refine IA (iX (g:=f0) (off:=h0) (len:=ds.length) (cap:=a) (t:=36) (x:=.tmp 29) (h:=.tmp 30) (by kernel_rfl) Tryz.underlying36 (by decide) (by kernel_rfl) (by kernel_rfl) (i:=j) (by omega)) ?_
   refine AC lI v4 [] fun h3 v0=>?_
   refine Ap v0 (args:=[.slice (some ⟨f0,h0,none⟩) j a,.func (.func 46) #[] ⟨[.pointer (some ⟨t0.heap.size,0,none⟩)]⟩]) (Pv (fun x=>JB x f) _ (ds.take j) _ 46 [.pointer (some ⟨t0.heap.size,0,none⟩)] h3 ((a1.take _).below v0.B) (by simp <;> omega) (by simp <;> omega) (by kernel_rfl) (fun u2 b2 x A1 c1 A2 c2 g1 g2=>Vb x A1 c1 A2 c2 (t0.heap.size) f _ _ _ _ u2 g1 g2 (Nat.lt_of_lt_of_le (v0.ent (e:=⟨t0.heap.size,0,(Ce f c0 a0 b0 z),34,true⟩) 1 (by kernel_rfl)).1 b2.size) (Ac (Ju (v0.ent (e:=⟨t0.heap.size,0,(Ce f c0 a0 b0 z),34,true⟩) 1 (by kernel_rfl))) (v0.ent (e:=⟨t0.heap.size,0,(Ce f c0 a0 b0 z),34,true⟩) 1 (by kernel_rfl)).1 b2) (x0.below (v0.B.trans (b2.mono v0.B.size))) (w0.below (v0.B.trans (b2.mono v0.B.size))))) fun c6 u4=>?_
   refine AC YX u4 [] fun b6 v2=>?_
   refine AM (Gr (fun x=>JB x f) (ds.take j)) (fun y0=>?_) (fun y0=>?_)
   ·refine AC TQ v2 [] fun e2 t4=>?_
    refine AM true (fun _=>?_) (fun h=>nomatch h)
    refine Cb Bb bA [⟨w.heap.size,0,z6,38,true⟩,⟨t0.heap.size,0,(Ce f c0 a0 b0 z),34,true⟩,⟨e2.heap.size,0,[D ((j:Int)),D 8],70,true⟩] t4 [] fun a6 f1=>?_
    refine Ch f1.H (f1.ix 3) (f1.at 3 rfl) (((j:Int),8)) [D ((j:Int)),D 8] rfl (e2.heap.size) (f1.ent 2 (by kernel_rfl)) (DM bA) (by kernel_rfl) (.tmp 55) (.tmp 59) 66 (by kernel_rfl) (by kernel_rfl) (by kernel_rfl) (by decide) (by kernel_rfl) (by kernel_rfl) rfl rfl (by ((try simp only [maxLen,List.length_append,List.length_cons,List.length_nil,List.length_singleton]) <;> omega)) fun y1 r1 z5 Hn r3=>?_
    have s4:=f1.put 3 (by simp) r3 Hn
    refine AC (Aj KS) s4 [] fun g3 r4=>?_
    refine BB [(1,.pointer z8),(2,.slice none 0 0),(3,D 0),(4,.slice p z14 l),(5,.slice v z9 s),(6,.slice u z10 q),(7,.slice y1 ((b++[((j:Int),8)]).length) r1),(21,.slice (some ⟨f0,h0,none⟩) ds.length a),(22,D ((ds.length:Int))),(23,D (IntKind.i64.wrap ((j:Int) + 1)))] fun e5=>?_
    have q4:Wk w g3 [⟨w.heap.size,0,z6,38,true⟩] [z15,z11,z12,(Iz y1 r1 (b++[((j:Int),8)]))] []:=r4.pk [0] [0,1,2,3]
    rw [Bs j (by omega)]
    refine d0 _ _ ⟨j + 1,(b++[((j:Int),8)]),y1,r1,e5,q0,rfl,by rw [r0,y0] <;> rfl,by ((try simp only [maxLen,List.length_append,List.length_cons,List.length_nil,List.length_singleton]) <;> omega),q4⟩ ?_
    show ds.length - AQ (D ((j + 1:Nat):Int)) < ds.length - AQ (D (j:Int))
    simp only [AQ]
    omega
   ·refine AC TP v2 [(1,0)] fun y5 t2=>?_
    refine AM (f.kind == 5) (fun b1=>?_) (fun b1=>?_)
    ·refine AC az t2 [(1,0)] fun f3 z0=>?_
     refine CJ (Rp f c0 a0 b0 z p (((AW ds)).1) l f3 (x0.below z0.B) (w0.below z0.B) (z0.H.rowsDf z0.B (z0.ix 0) (z0.at 0 rfl)) (by first | assumption | omega | (simp <;> omega))) fun en x5 hh=>?_
     obtain ⟨rfl,q3⟩:=hh
     refine ⟨_,rfl,?_⟩
     have m4:=z0.below q3
     refine AC TO m4 [] fun d2 s2=>?_
     refine AM (!((DQ f (((AW ds)).1)) == 0)) (fun q1=>?_) (fun q1=>?_)
     ·refine Cb Bb ay [⟨w.heap.size,0,z6,38,true⟩,⟨t0.heap.size,0,(Ce f c0 a0 b0 z),34,true⟩,⟨d2.heap.size,0,[D ((j:Int)),D ((DQ f (((AW ds)).1)))],70,true⟩] s2 [] fun v5 e1=>?_
      refine Ch e1.H (e1.ix 3) (e1.at 3 rfl) (((j:Int),(DQ f (((AW ds)).1)))) [D ((j:Int)),D ((DQ f (((AW ds)).1)))] rfl (d2.heap.size) (e1.ent 2 (by kernel_rfl)) (DM ay) (by kernel_rfl) (.tmp 55) (.tmp 59) 66 (by kernel_rfl) (by kernel_rfl) (by kernel_rfl) (by decide) (by kernel_rfl) (by kernel_rfl) rfl rfl (by ((try simp only [maxLen,List.length_append,List.length_cons,List.length_nil,List.length_singleton]) <;> omega)) fun x1 p1 u5 Hn m3=>?_
      have k4:=e1.put 3 (by simp) m3 Hn
      refine AC (Aj KS) k4 [] fun e3 i4=>?_
      refine BB [(1,.pointer z8),(2,.slice none 0 0),(3,D 0),(4,.slice p z14 l),(5,.slice v z9 s),(6,.slice u z10 q),(7,.slice x1 ((b++[((j:Int),(DQ f (((AW ds)).1)))]).length) p1),(21,.slice (some ⟨f0,h0,none⟩) ds.length a),(22,D ((ds.length:Int))),(23,D (IntKind.i64.wrap ((j:Int) + 1)))] fun d5=>?_
      have h4:Wk w e3 [⟨w.heap.size,0,z6,38,true⟩] [z15,z11,z12,(Iz x1 p1 (b++[((j:Int),(DQ f (((AW ds)).1)))]))] []:=i4.pk [0] [0,1,2,3]
      rw [Bs j (by omega)]
      refine d0 _ _ ⟨j + 1,(b++[((j:Int),(DQ f (((AW ds)).1)))]),x1,p1,d5,q0,rfl,by rw [r0,y0,b1,q1] <;> rfl,by ((try simp only [maxLen,List.length_append,List.length_cons,List.length_nil,List.length_singleton]) <;> omega),h4⟩ ?_
      show ds.length - AQ (D ((j + 1:Nat):Int)) < ds.length - AQ (D (j:Int))
      simp only [AQ]
      omega
     ·refine AC (Aj KS) s2 [] fun d3 g4=>?_
      refine BB [(1,.pointer z8),(2,.slice none 0 0),(3,D 0),(4,.slice p z14 l),(5,.slice v z9 s),(6,.slice u z10 q),(7,.slice o b.length m),(21,.slice (some ⟨f0,h0,none⟩) ds.length a),(22,D ((ds.length:Int))),(23,D (IntKind.i64.wrap ((j:Int) + 1)))] fun c5=>?_
      have f4:Wk w d3 [⟨w.heap.size,0,z6,38,true⟩] [z15,z11,z12,(Iz o m b)] []:=g4.pk [0] [0,1,2,3]
      rw [Bs j (by omega)]
      refine d0 _ _ ⟨j + 1,b,o,m,c5,q0,rfl,by rw [r0,y0,b1,q1] <;> rfl,by ((try simp only [maxLen,List.length_append,List.length_cons,List.length_nil,List.length_singleton]) <;> omega),f4⟩ ?_
      show ds.length - AQ (D ((j + 1:Nat):Int)) < ds.length - AQ (D (j:Int))
      simp only [AQ]
      omega
    ·refine Al 13 ax t2 [] fun t5 r2=>?_
     refine Ao r2 [(1,1,0),(5,1,0)] [] r2.G (fun sp i3=>by cases i3) fun s5 r6 e4=>?_
     refine AC TN e4 [] fun r5 q2=>?_
     refine AM (cond (f.kind == 3) (true) (f.kind == 4)) (fun h1=>?_) (fun h1=>?_)
     ·refine AC aw q2 [(1,0)] fun c3 p0=>?_
      refine Ap p0 (args:=[.agg ⟨z7⟩,.slice p z14 l,.slice v z9 s,.slice u z10 q]) (Rr f c0 a0 b0 z p (((AW ds)).1) l v (((AW ds)).2.1) s u (((AW ds)).2.2) q c3 (x0.below p0.B) (w0.below p0.B) (p0.H.rowsDf p0.B (p0.ix 0) (p0.at 0 rfl)) (by first | assumption | omega | (simp <;> omega)) (p0.H.rowsDf p0.B (p0.ix 1) (p0.at 1 rfl)) (by first | assumption | omega | (simp <;> omega)) (p0.H.rowsDf p0.B (p0.ix 2) (p0.at 2 rfl)) (by first | assumption | omega | (simp <;> omega)) (ht _ (List.mem_of_getElem? k1)).1) fun q5 b4=>?_
      refine AC TM b4 [] fun a2 p2=>?_
      refine AM (!(Dl f (((AW ds)).1) (((AW ds)).2.1) (((AW ds)).2.2) == 0)) (fun n1=>?_) (fun n1=>?_)
      ·refine Cb Bb av [⟨w.heap.size,0,z6,38,true⟩,⟨t0.heap.size,0,(Ce f c0 a0 b0 z),34,true⟩,⟨a2.heap.size,0,[D ((j:Int)),D (Dl f (((AW ds)).1) (((AW ds)).2.1) (((AW ds)).2.2))],70,true⟩] p2 [] fun m5 d1=>?_
       refine Ch d1.H (d1.ix 3) (d1.at 3 rfl) (((j:Int),Dl f (((AW ds)).1) (((AW ds)).2.1) (((AW ds)).2.2))) [D ((j:Int)),D (Dl f (((AW ds)).1) (((AW ds)).2.1) (((AW ds)).2.2))] rfl (a2.heap.size) (d1.ent 2 (by kernel_rfl)) (DM av) (by kernel_rfl) (.tmp 55) (.tmp 59) 66 (by kernel_rfl) (by kernel_rfl) (by kernel_rfl) (by decide) (by kernel_rfl) (by kernel_rfl) rfl rfl (by ((try simp only [maxLen,List.length_append,List.length_cons,List.length_nil,List.length_singleton]) <;> omega)) fun v1 m1 k5 Hn l3=>?_
       have a4:=d1.put 3 (by simp) l3 Hn
       refine AC (Aj KS) a4 [] fun b3 z3=>?_
       refine BB [(1,.pointer z8),(2,.slice none 0 0),(3,D 0),(4,.slice p z14 l),(5,.slice v z9 s),(6,.slice u z10 q),(7,.slice v1 ((b++[((j:Int),Dl f (((AW ds)).1) (((AW ds)).2.1) (((AW ds)).2.2))]).length) m1),(21,.slice (some ⟨f0,h0,none⟩) ds.length a),(22,D ((ds.length:Int))),(23,D (IntKind.i64.wrap ((j:Int) + 1)))] fun b5=>?_
       have y3:Wk w b3 [⟨w.heap.size,0,z6,38,true⟩] [z15,z11,z12,(Iz v1 m1 (b++[((j:Int),Dl f (((AW ds)).1) (((AW ds)).2.1) (((AW ds)).2.2))]))] []:=z3.pk [0] [0,1,2,3]
       rw [Bs j (by omega)]
       refine d0 _ _ ⟨j + 1,(b++[((j:Int),Dl f (((AW ds)).1) (((AW ds)).2.1) (((AW ds)).2.2))]),v1,m1,b5,q0,rfl,by rw [r0,y0,b1,h1,n1] <;> rfl,by ((try simp only [maxLen,List.length_append,List.length_cons,List.length_nil,List.length_singleton]) <;> omega),y3⟩ ?_
       show ds.length - AQ (D ((j + 1:Nat):Int)) < ds.length - AQ (D (j:Int))
       simp only [AQ]
       omega
      ·refine AC (Aj KS) p2 [] fun a3 x3=>?_
       refine BB [(1,.pointer z8),(2,.slice none 0 0),(3,D 0),(4,.slice p z14 l),(5,.slice v z9 s),(6,.slice u z10 q),(7,.slice o b.length m),(21,.slice (some ⟨f0,h0,none⟩) ds.length a),(22,D ((ds.length:Int))),(23,D (IntKind.i64.wrap ((j:Int) + 1)))] fun a5=>?_
       have v3:Wk w a3 [⟨w.heap.size,0,z6,38,true⟩] [z15,z11,z12,(Iz o m b)] []:=x3.pk [0] [0,1,2,3]
       rw [Bs j (by omega)]
       refine d0 _ _ ⟨j + 1,b,o,m,a5,q0,rfl,by rw [r0,y0,b1,h1,n1] <;> rfl,by ((try simp only [maxLen,List.length_append,List.length_cons,List.length_nil,List.length_singleton]) <;> omega),v3⟩ ?_
       show ds.length - AQ (D ((j + 1:Nat):Int)) < ds.length - AQ (D (j:Int))
       simp only [AQ]
       omega
     ·refine AC qf q2 [] fun i5 u3=>?_
      refine AM false (fun h=>nomatch h) (fun _=>?_)
      refine AC (Aj KS) u3 [] fun z2 t3=>?_
      refine BB [(1,.pointer z8),(2,.slice none 0 0),(3,D 0),(4,.slice p z14 l),(5,.slice v z9 s),(6,.slice u z10 q),(7,.slice o b.length m),(21,.slice (some ⟨f0,h0,none⟩) ds.length a),(22,D ((ds.length:Int))),(23,D (IntKind.i64.wrap ((j:Int) + 1)))] fun z4=>?_
      have s3:Wk w z2 [⟨w.heap.size,0,z6,38,true⟩] [z15,z11,z12,(Iz o m b)] []:=t3.pk [0] [0,1,2,3]
      rw [Bs j (by omega)]
      refine d0 _ _ ⟨j + 1,b,o,m,z4,q0,rfl,by rw [r0,y0,b1,h1] <;> rfl,by ((try simp only [maxLen,List.length_append,List.length_cons,List.length_nil,List.length_singleton]) <;> omega),s3⟩ ?_
      show ds.length - AQ (D ((j + 1:Nat):Int)) < ds.length - AQ (D (j:Int))
      simp only [AQ]
      omega
  ·have k2:j=ds.length:=by have:=of_decide_eq_false s1; omega
   rw [k2,List.drop_length,Rq] at r0
   refine AC qe y2 [] fun h5 t1=>?_
   have hS:(CL y ds)=(b,0):=by rw [r0] <;> rfl
   exact Ab t1 (0,0) (.tuple #[.slice o b.length m,D 0]) ⟨o,m,by rw [hS] <;> rfl,t1.B,by rw [hS]; exact t1.own0 [3] rfl (by decide)⟩
end
end Go.Proofs.YtmcpjkcggfmcmaaGreatDoor

/-
  Part 26 of a proof: contracts of functions.
-/
import Derived.Test.YtkjbdagicjbjjaaGreatTf19
set_option linter.all false
namespace Go.Proofs.YtkjbdagicjbjjaaGreat
noncomputable section
open Go.RowKit
set_option maxRecDepth 100000
set_option maxHeartbeats 1000000
attribute [local irreducible] A8 BL AC AD AF Ao AY AL Aq Bb Cn BR BK At Fr
theorem LM {F:Df→Bool}:∀ (es:List Df) (i:Nat) (a:Int),Cs F es i a < (i + es.length:Nat)∧(Cs F es i a=-1∨0≤Cs F es i a)
 | [],i,a=>by rw [Cs]; exact ⟨by omega,.inl rfl⟩
 | e :: es,i,a=>by
  rw [Cs,List.length_cons]
  cases F e
  ·show Cs F es (i + 1) a < _∧_
   have:=LM (F:=F) es (i + 1) a
   exact ⟨by have:=this.1; omega,this.2⟩
  ·exact ⟨by show (i:Int) < _; omega,.inr (by show (0:Int)≤i; omega)⟩
theorem Wy {F:Df→Bool} {ds:List Df} (h:decide (AH F ds < 0)=false):AH F ds=((AH F ds).toNat:Int)∧(AH F ds).toNat < ds.length:=by
 have b:=of_decide_eq_false h
 have h2:=(LM (F:=F) ds 0 0).1
 have a:AH F ds < (0 + ds.length:Nat):=h2
 omega
theorem QC (F:Df→Bool) (a:Option Addr) (ds:List (Df)) {m:Nat} (c:Nat) (g:FuncId) (cap:List Value) (w:World) (d:rowsDf w a ds) (hm:ds.length=m) (b:ds.length≤4294967296) (hg:DG Tryz.prog g=true) (i:∀ u,Below w.heap.size w u→∀ (e:Df) (h:Option Addr) (l:Nat) (f:Option Addr) (k:Nat),Cb u h e.ents→rowsEx u f e.body.ks→Calls Tryz.prog g (.agg ⟨Be e h l f k⟩ :: cap).toArray u fun j w'=>j=.returned (.bool (F e))∧Below u.heap.size u w'):Calls Tryz.prog 47 ([.slice a m c,.func (.func g) #[] ⟨cap⟩]:List Value).toArray w fun e w'=>e=.returned (.bool (Dk F ds))∧Below w.heap.size w w':=by
 subst hm
 exact Qw F a ds c g cap w d b hg i
def Cq (d:Df) (ns:List (Df)):Int:=cond (decide (AH (fun x=>AE x d) ns < 0)) (0) (Gz ((Ah ((ns.getD (AH (fun x=>AE x d) ns).toNat default).kind) ((ns.getD (AH (fun x=>AE x d) ns).toNat default).tb) ((ns.getD (AH (fun x=>AE x d) ns).toNat default).tm) ((ns.getD (AH (fun x=>AE x d) ns).toNat default).th) ((ns.getD (AH (fun x=>AE x d) ns).toNat default).td)).1) ((Ah ((ns.getD (AH (fun x=>AE x d) ns).toNat default).kind) ((ns.getD (AH (fun x=>AE x d) ns).toNat default).tb) ((ns.getD (AH (fun x=>AE x d) ns).toNat default).tm) ((ns.getD (AH (fun x=>AE x d) ns).toNat default).th) ((ns.getD (AH (fun x=>AE x d) ns).toNat default).td)).2.1) ((Ah ((ns.getD (AH (fun x=>AE x d) ns).toNat default).kind) ((ns.getD (AH (fun x=>AE x d) ns).toNat default).tb) ((ns.getD (AH (fun x=>AE x d) ns).toNat default).tm) ((ns.getD (AH (fun x=>AE x d) ns).toNat default).th) ((ns.getD (AH (fun x=>AE x d) ns).toNat default).td)).2.2.1) ((Ah ((ns.getD (AH (fun x=>AE x d) ns).toNat default).kind) ((ns.getD (AH (fun x=>AE x d) ns).toNat default).tb) ((ns.getD (AH (fun x=>AE x d) ns).toNat default).tm) ((ns.getD (AH (fun x=>AE x d) ns).toNat default).th) ((ns.getD (AH (fun x=>AE x d) ns).toNat default).td)).2.2.2) d.tb d.tm d.th d.td)
noncomputable def Yc:Code:=Tryz.f50.body.getD .skip
def sS:=AA 60 ([.code Yc])
def dK:=AA 60 (AC sS)
def AB5:=AA 60 (AD dK)
def sR:=Ai 4 (AF dK)
def AB4:=AA 60 (AL sR)
theorem R4 (d:Df) (b:Option Addr) (k:Nat) (a:Option Addr) (j:Nat) (r:Option Addr) (ns:List (Df)) (l:Nat) (w:World) (a0:Cb w b d.ents) (z:rowsEx w a d.body.ks) (p:rowsDf w r ns) (c0:ns.length≤4294967296):Calls Tryz.prog 50 ([.agg ⟨[AI d.kind,By (d.name),.bool (d.tb),AI d.tm,AI d.th,AI d.td,AI d.frm,.slice b d.ents.length k,AI d.body.op,AI d.body.num,AI d.body.den,AI d.body.mu,AI d.body.hu,AI d.body.du,By (d.body.nm),AI d.body.cnt,AI d.body.md,.slice a d.body.ks.length j,AI d.mode,AI d.num,AI d.den]⟩,.slice r ns.length l]:List Value).toArray w fun e w'=>e=.returned (AI ((Cq d ns)))∧Below w.heap.size w w':=by
 refine AR (fn:=Tryz.f50) (c:=Yc) (n:=19) ?_
 have K1:=Wk.start w
 refine Af sS [⟨w.heap.size,0,(Be d b k a j),59,true⟩] K1 [] fun w1 o=>?_
 refine AQ o (args:=[.slice r ns.length l,.func (.func 74) #[] ⟨[BY (w.heap.size)]⟩]) (Nr (fun x=>AE x d) _ ns _ 74 [BY (w.heap.size)] w1 (p.below o.B) (by first | assumption | omega) (by kernel_rfl) (fun u2 b2 x A1 c1 A2 c2 g1 g2=>QJ x A1 c1 A2 c2 (w.heap.size) d _ _ _ _ u2 g1 g2 (Nat.lt_of_lt_of_le (o.ent (e:=⟨w.heap.size,0,(Be d b k a j),59,true⟩) 0 (by kernel_rfl)).1 b2.size) (Ab (GH (o.ent (e:=⟨w.heap.size,0,(Be d b k a j),59,true⟩) 0 (by kernel_rfl))) (o.ent (e:=⟨w.heap.size,0,(Be d b k a j),59,true⟩) 0 (by kernel_rfl)).1 b2) (a0.below (o.B.trans (b2.mono o.B.size))) (z.below (o.B.trans (b2.mono o.B.size))))) fun w2 K3=>?_
 refine AB dK K3 [] fun w3 K4=>?_
 refine AG (decide (AH (fun x=>AE x d) ns < 0)) (fun c4=>?_) (fun c4=>?_)
 ·refine AB AB5 K4 [] fun w5 K5=>?_
  have hS:(Cq d ns)=0:=by unfold Cq; rw [c4] <;> rfl
  exact AJ K5 (0,0) (AI 0) ⟨by rw [hS] <;> rfl,K5.B⟩
 ·have m:=Wy c4
  rw [m.1]
  refine Am 4 sR K4 [] fun w6 K6=>?_
  obtain ⟨s,t,rfl,q,b0⟩:=p.all (Nat.lt_of_le_of_lt (Nat.zero_le _) m.2)
  have d0:ns[(AH (fun x=>AE x d) ns).toNat]?=some (ns.getD (AH (fun x=>AE x d) ns).toNat default):=getD_some default m.2
  obtain ⟨i,g,h,f,y,g0,e0⟩:=b0 (AH (fun x=>AE x d) ns).toNat _ d0
  refine Ap K6 [(3,1,0),(6,0,2)] [⟨2,[(11,.slice (some ⟨s,t,none⟩) ns.length l),(12,AI (((AH (fun x=>AE x d) ns).toNat:Int)))],.pointer (some ⟨s,t + (AH (fun x=>AE x d) ns).toNat * 21,none⟩),true⟩,⟨4,[(14,.agg ⟨[AI ((ns.getD (AH (fun x=>AE x d) ns).toNat default).kind),By ((ns.getD (AH (fun x=>AE x d) ns).toNat default).name),.bool ((ns.getD (AH (fun x=>AE x d) ns).toNat default).tb),AI ((ns.getD (AH (fun x=>AE x d) ns).toNat default).tm),AI ((ns.getD (AH (fun x=>AE x d) ns).toNat default).th),AI ((ns.getD (AH (fun x=>AE x d) ns).toNat default).td),AI ((ns.getD (AH (fun x=>AE x d) ns).toNat default).frm),.slice i ((ns.getD (AH (fun x=>AE x d) ns).toNat default).ents.length) g,AI ((ns.getD (AH (fun x=>AE x d) ns).toNat default).body.op),AI ((ns.getD (AH (fun x=>AE x d) ns).toNat default).body.num),AI ((ns.getD (AH (fun x=>AE x d) ns).toNat default).body.den),AI ((ns.getD (AH (fun x=>AE x d) ns).toNat default).body.mu),AI ((ns.getD (AH (fun x=>AE x d) ns).toNat default).body.hu),AI ((ns.getD (AH (fun x=>AE x d) ns).toNat default).body.du),By ((ns.getD (AH (fun x=>AE x d) ns).toNat default).body.nm),AI ((ns.getD (AH (fun x=>AE x d) ns).toNat default).body.cnt),AI ((ns.getD (AH (fun x=>AE x d) ns).toNat default).body.md),.slice h ((ns.getD (AH (fun x=>AE x d) ns).toNat default).body.ks.length) f,AI ((ns.getD (AH (fun x=>AE x d) ns).toNat default).mode),AI ((ns.getD (AH (fun x=>AE x d) ns).toNat default).num),AI ((ns.getD (AH (fun x=>AE x d) ns).toNat default).den)]⟩)],D9 (Ah ((ns.getD (AH (fun x=>AE x d) ns).toNat default).kind) ((ns.getD (AH (fun x=>AE x d) ns).toNat default).tb) ((ns.getD (AH (fun x=>AE x d) ns).toNat default).tm) ((ns.getD (AH (fun x=>AE x d) ns).toNat default).th) ((ns.getD (AH (fun x=>AE x d) ns).toNat default).td)),true⟩,⟨7,[(15,D9 (Ah ((ns.getD (AH (fun x=>AE x d) ns).toNat default).kind) ((ns.getD (AH (fun x=>AE x d) ns).toNat default).tb) ((ns.getD (AH (fun x=>AE x d) ns).toNat default).tm) ((ns.getD (AH (fun x=>AE x d) ns).toNat default).th) ((ns.getD (AH (fun x=>AE x d) ns).toNat default).td))),(17,.agg ⟨[.bool (d.tb),AI d.tm,AI d.th,AI d.td]⟩)],AI (Gz ((Ah ((ns.getD (AH (fun x=>AE x d) ns).toNat default).kind) ((ns.getD (AH (fun x=>AE x d) ns).toNat default).tb) ((ns.getD (AH (fun x=>AE x d) ns).toNat default).tm) ((ns.getD (AH (fun x=>AE x d) ns).toNat default).th) ((ns.getD (AH (fun x=>AE x d) ns).toNat default).td)).1) ((Ah ((ns.getD (AH (fun x=>AE x d) ns).toNat default).kind) ((ns.getD (AH (fun x=>AE x d) ns).toNat default).tb) ((ns.getD (AH (fun x=>AE x d) ns).toNat default).tm) ((ns.getD (AH (fun x=>AE x d) ns).toNat default).th) ((ns.getD (AH (fun x=>AE x d) ns).toNat default).td)).2.1) ((Ah ((ns.getD (AH (fun x=>AE x d) ns).toNat default).kind) ((ns.getD (AH (fun x=>AE x d) ns).toNat default).tb) ((ns.getD (AH (fun x=>AE x d) ns).toNat default).tm) ((ns.getD (AH (fun x=>AE x d) ns).toNat default).th) ((ns.getD (AH (fun x=>AE x d) ns).toNat default).td)).2.2.1) ((Ah ((ns.getD (AH (fun x=>AE x d) ns).toNat default).kind) ((ns.getD (AH (fun x=>AE x d) ns).toNat default).tb) ((ns.getD (AH (fun x=>AE x d) ns).toNat default).tm) ((ns.getD (AH (fun x=>AE x d) ns).toNat default).th) ((ns.getD (AH (fun x=>AE x d) ns).toNat default).td)).2.2.2) d.tb d.tm d.th d.td),true⟩] (Lw (x:=⟨s,t + (AH (fun x=>AE x d) ns).toNat * 21,[AI ((ns.getD (AH (fun x=>AE x d) ns).toNat default).kind),By ((ns.getD (AH (fun x=>AE x d) ns).toNat default).name),.bool ((ns.getD (AH (fun x=>AE x d) ns).toNat default).tb),AI ((ns.getD (AH (fun x=>AE x d) ns).toNat default).tm),AI ((ns.getD (AH (fun x=>AE x d) ns).toNat default).th),AI ((ns.getD (AH (fun x=>AE x d) ns).toNat default).td),AI ((ns.getD (AH (fun x=>AE x d) ns).toNat default).frm),.slice i ((ns.getD (AH (fun x=>AE x d) ns).toNat default).ents.length) g,AI ((ns.getD (AH (fun x=>AE x d) ns).toNat default).body.op),AI ((ns.getD (AH (fun x=>AE x d) ns).toNat default).body.num),AI ((ns.getD (AH (fun x=>AE x d) ns).toNat default).body.den),AI ((ns.getD (AH (fun x=>AE x d) ns).toNat default).body.mu),AI ((ns.getD (AH (fun x=>AE x d) ns).toNat default).body.hu),AI ((ns.getD (AH (fun x=>AE x d) ns).toNat default).body.du),By ((ns.getD (AH (fun x=>AE x d) ns).toNat default).body.nm),AI ((ns.getD (AH (fun x=>AE x d) ns).toNat default).body.cnt),AI ((ns.getD (AH (fun x=>AE x d) ns).toNat default).body.md),.slice h ((ns.getD (AH (fun x=>AE x d) ns).toNat default).body.ks.length) f,AI ((ns.getD (AH (fun x=>AE x d) ns).toNat default).mode),AI ((ns.getD (AH (fun x=>AE x d) ns).toNat default).num),AI ((ns.getD (AH (fun x=>AE x d) ns).toNat default).den)],59,false⟩) K6.G ⟨Nat.lt_of_lt_of_le q K6.B.size,Ab y q K6.B⟩) (fun sp v=>?_) fun w7 E7 K7=>?_
  ·simp only [List.mem_cons,List.not_mem_nil,or_false] at v
   rcases v with rfl | rfl | rfl
   ·exact BG fun _ E u _=>BZ (sz:=21) (cap:=l) 25 (.tmp 11) (.tmp 12) m.2 Tryz.underlying25
   ·exact AV 73 [.tmp 14] [.agg ⟨[AI ((ns.getD (AH (fun x=>AE x d) ns).toNat default).kind),By ((ns.getD (AH (fun x=>AE x d) ns).toNat default).name),.bool ((ns.getD (AH (fun x=>AE x d) ns).toNat default).tb),AI ((ns.getD (AH (fun x=>AE x d) ns).toNat default).tm),AI ((ns.getD (AH (fun x=>AE x d) ns).toNat default).th),AI ((ns.getD (AH (fun x=>AE x d) ns).toNat default).td),AI ((ns.getD (AH (fun x=>AE x d) ns).toNat default).frm),.slice i ((ns.getD (AH (fun x=>AE x d) ns).toNat default).ents.length) g,AI ((ns.getD (AH (fun x=>AE x d) ns).toNat default).body.op),AI ((ns.getD (AH (fun x=>AE x d) ns).toNat default).body.num),AI ((ns.getD (AH (fun x=>AE x d) ns).toNat default).body.den),AI ((ns.getD (AH (fun x=>AE x d) ns).toNat default).body.mu),AI ((ns.getD (AH (fun x=>AE x d) ns).toNat default).body.hu),AI ((ns.getD (AH (fun x=>AE x d) ns).toNat default).body.du),By ((ns.getD (AH (fun x=>AE x d) ns).toNat default).body.nm),AI ((ns.getD (AH (fun x=>AE x d) ns).toNat default).body.cnt),AI ((ns.getD (AH (fun x=>AE x d) ns).toNat default).body.md),.slice h ((ns.getD (AH (fun x=>AE x d) ns).toNat default).body.ks.length) f,AI ((ns.getD (AH (fun x=>AE x d) ns).toNat default).mode),AI ((ns.getD (AH (fun x=>AE x d) ns).toNat default).num),AI ((ns.getD (AH (fun x=>AE x d) ns).toNat default).den)]⟩] (fun _=>by kernel_rfl) fun hc u hu=>AN hu (Iv ((ns.getD (AH (fun x=>AE x d) ns).toNat default).kind) ((ns.getD (AH (fun x=>AE x d) ns).toNat default).name) ((ns.getD (AH (fun x=>AE x d) ns).toNat default).tb) ((ns.getD (AH (fun x=>AE x d) ns).toNat default).tm) ((ns.getD (AH (fun x=>AE x d) ns).toNat default).th) ((ns.getD (AH (fun x=>AE x d) ns).toNat default).td) ((ns.getD (AH (fun x=>AE x d) ns).toNat default).frm) i ((ns.getD (AH (fun x=>AE x d) ns).toNat default).ents.length) g ((ns.getD (AH (fun x=>AE x d) ns).toNat default).body.op) ((ns.getD (AH (fun x=>AE x d) ns).toNat default).body.num) ((ns.getD (AH (fun x=>AE x d) ns).toNat default).body.den) ((ns.getD (AH (fun x=>AE x d) ns).toNat default).body.mu) ((ns.getD (AH (fun x=>AE x d) ns).toNat default).body.hu) ((ns.getD (AH (fun x=>AE x d) ns).toNat default).body.du) ((ns.getD (AH (fun x=>AE x d) ns).toNat default).body.nm) ((ns.getD (AH (fun x=>AE x d) ns).toNat default).body.cnt) ((ns.getD (AH (fun x=>AE x d) ns).toNat default).body.md) h ((ns.getD (AH (fun x=>AE x d) ns).toNat default).body.ks.length) f ((ns.getD (AH (fun x=>AE x d) ns).toNat default).mode) ((ns.getD (AH (fun x=>AE x d) ns).toNat default).num) ((ns.getD (AH (fun x=>AE x d) ns).toNat default).den) u)
   ·exact AV 75 [.tmp 15,.tmp 17] [D9 (Ah ((ns.getD (AH (fun x=>AE x d) ns).toNat default).kind) ((ns.getD (AH (fun x=>AE x d) ns).toNat default).tb) ((ns.getD (AH (fun x=>AE x d) ns).toNat default).tm) ((ns.getD (AH (fun x=>AE x d) ns).toNat default).th) ((ns.getD (AH (fun x=>AE x d) ns).toNat default).td)),.agg ⟨[.bool (d.tb),AI d.tm,AI d.th,AI d.td]⟩] (fun _=>by kernel_rfl) fun hc u hu=>AN hu (Rm ((Ah ((ns.getD (AH (fun x=>AE x d) ns).toNat default).kind) ((ns.getD (AH (fun x=>AE x d) ns).toNat default).tb) ((ns.getD (AH (fun x=>AE x d) ns).toNat default).tm) ((ns.getD (AH (fun x=>AE x d) ns).toNat default).th) ((ns.getD (AH (fun x=>AE x d) ns).toNat default).td)).1) ((Ah ((ns.getD (AH (fun x=>AE x d) ns).toNat default).kind) ((ns.getD (AH (fun x=>AE x d) ns).toNat default).tb) ((ns.getD (AH (fun x=>AE x d) ns).toNat default).tm) ((ns.getD (AH (fun x=>AE x d) ns).toNat default).th) ((ns.getD (AH (fun x=>AE x d) ns).toNat default).td)).2.1) ((Ah ((ns.getD (AH (fun x=>AE x d) ns).toNat default).kind) ((ns.getD (AH (fun x=>AE x d) ns).toNat default).tb) ((ns.getD (AH (fun x=>AE x d) ns).toNat default).tm) ((ns.getD (AH (fun x=>AE x d) ns).toNat default).th) ((ns.getD (AH (fun x=>AE x d) ns).toNat default).td)).2.2.1) ((Ah ((ns.getD (AH (fun x=>AE x d) ns).toNat default).kind) ((ns.getD (AH (fun x=>AE x d) ns).toNat default).tb) ((ns.getD (AH (fun x=>AE x d) ns).toNat default).tm) ((ns.getD (AH (fun x=>AE x d) ns).toNat default).th) ((ns.getD (AH (fun x=>AE x d) ns).toNat default).td)).2.2.2) d.tb d.tm d.th d.td u)
  refine AB AB4 K7 [] fun w8 K8=>?_
  have hS:(Cq d ns)=Gz ((Ah ((ns.getD (AH (fun x=>AE x d) ns).toNat default).kind) ((ns.getD (AH (fun x=>AE x d) ns).toNat default).tb) ((ns.getD (AH (fun x=>AE x d) ns).toNat default).tm) ((ns.getD (AH (fun x=>AE x d) ns).toNat default).th) ((ns.getD (AH (fun x=>AE x d) ns).toNat default).td)).1) ((Ah ((ns.getD (AH (fun x=>AE x d) ns).toNat default).kind) ((ns.getD (AH (fun x=>AE x d) ns).toNat default).tb) ((ns.getD (AH (fun x=>AE x d) ns).toNat default).tm) ((ns.getD (AH (fun x=>AE x d) ns).toNat default).th) ((ns.getD (AH (fun x=>AE x d) ns).toNat default).td)).2.1) ((Ah ((ns.getD (AH (fun x=>AE x d) ns).toNat default).kind) ((ns.getD (AH (fun x=>AE x d) ns).toNat default).tb) ((ns.getD (AH (fun x=>AE x d) ns).toNat default).tm) ((ns.getD (AH (fun x=>AE x d) ns).toNat default).th) ((ns.getD (AH (fun x=>AE x d) ns).toNat default).td)).2.2.1) ((Ah ((ns.getD (AH (fun x=>AE x d) ns).toNat default).kind) ((ns.getD (AH (fun x=>AE x d) ns).toNat default).tb) ((ns.getD (AH (fun x=>AE x d) ns).toNat default).tm) ((ns.getD (AH (fun x=>AE x d) ns).toNat default).th) ((ns.getD (AH (fun x=>AE x d) ns).toNat default).td)).2.2.2) d.tb d.tm d.th d.td:=by unfold Cq; rw [c4] <;> rfl
  exact AJ K8 (0,0) (AI (Gz ((Ah ((ns.getD (AH (fun x=>AE x d) ns).toNat default).kind) ((ns.getD (AH (fun x=>AE x d) ns).toNat default).tb) ((ns.getD (AH (fun x=>AE x d) ns).toNat default).tm) ((ns.getD (AH (fun x=>AE x d) ns).toNat default).th) ((ns.getD (AH (fun x=>AE x d) ns).toNat default).td)).1) ((Ah ((ns.getD (AH (fun x=>AE x d) ns).toNat default).kind) ((ns.getD (AH (fun x=>AE x d) ns).toNat default).tb) ((ns.getD (AH (fun x=>AE x d) ns).toNat default).tm) ((ns.getD (AH (fun x=>AE x d) ns).toNat default).th) ((ns.getD (AH (fun x=>AE x d) ns).toNat default).td)).2.1) ((Ah ((ns.getD (AH (fun x=>AE x d) ns).toNat default).kind) ((ns.getD (AH (fun x=>AE x d) ns).toNat default).tb) ((ns.getD (AH (fun x=>AE x d) ns).toNat default).tm) ((ns.getD (AH (fun x=>AE x d) ns).toNat default).th) ((ns.getD (AH (fun x=>AE x d) ns).toNat default).td)).2.2.1) ((Ah ((ns.getD (AH (fun x=>AE x d) ns).toNat default).kind) ((ns.getD (AH (fun x=>AE x d) ns).toNat default).tb) ((ns.getD (AH (fun x=>AE x d) ns).toNat default).tm) ((ns.getD (AH (fun x=>AE x d) ns).toNat default).th) ((ns.getD (AH (fun x=>AE x d) ns).toNat default).td)).2.2.2) d.tb d.tm d.th d.td)) ⟨by rw [hS] <;> rfl,K8.B⟩
theorem GT:∀ (es a b c:List Df),(CN es a b c).1.length≤a.length + es.length∧(CN es a b c).2.1.length≤b.length + es.length∧(CN es a b c).2.2.length≤c.length + es.length
 | [],a,b,c=>by rw [CN]; exact ⟨Nat.le_refl _,Nat.le_refl _,Nat.le_refl _⟩
 | e :: es,a,b,c=>by
  have g:=GT es a b c
  have f:=GT es (a++[e]) b c
  have h2:=GT es a (b++[e]) c
  have d:=GT es a b (c++[e])
  simp only [List.length_append,List.length_singleton] at f h2 d
  rw [CN,List.length_cons]
  cases e.kind == 1 <;> cases e.kind == 3 <;> cases e.kind == 4 <;> cases e.kind == 2 <;> cases e.kind == 5 <;> simp only [cond_true,cond_false] <;> omega
theorem W5 (ds:List Df):(AX ds).1.length≤ds.length∧(AX ds).2.1.length≤ds.length∧(AX ds).2.2.length≤ds.length:=by
 have:=GT ds [] [] []
 simpa [AX] using this
def CD (ds:List (Df)):List (Df)→Nat→List (Int×Int)→List (Int×Int)×Int
 | [],i0,a0_0=>(a0_0,0)
 | e0 :: tl,i0,a0_0=>cond (Dk (fun x=>Ew x e0) (ds.take i0)) (CD ds tl (i0 + 1) (a0_0++[((i0:Int),8)])) (cond (e0.kind == 5) (cond (!((Cq e0 (((AX ds)).1)) == 0)) (CD ds tl (i0 + 1) (a0_0++[((i0:Int),(Cq e0 (((AX ds)).1)))])) (CD ds tl (i0 + 1) a0_0)) (cond (cond (e0.kind == 3) (true) (e0.kind == 4)) (cond (!(C9 e0 (((AX ds)).1) (((AX ds)).2.1) (((AX ds)).2.2) == 0)) (CD ds tl (i0 + 1) (a0_0++[((i0:Int),C9 e0 (((AX ds)).1) (((AX ds)).2.1) (((AX ds)).2.2))])) (CD ds tl (i0 + 1) a0_0)) (CD ds tl (i0 + 1) a0_0)))
theorem R5 {ds:List (Df)} {b:Nat} {a:List (Int×Int)}:CD ds [] b a=((a,0)):=by rw [CD]
theorem Q6 {ds:List (Df)} {a:List (Int×Int)} {es:List (Df)} (b:Nat) (c:Df) (hi:es[b]?=some c):CD ds (es.drop b) b a=(cond (Dk (fun x=>Ew x c) (ds.take b)) (CD ds (es.drop (b + 1)) (b + 1) (a++[((b:Int),8)])) (cond (c.kind == 5) (cond (!((Cq c (((AX ds)).1)) == 0)) (CD ds (es.drop (b + 1)) (b + 1) (a++[((b:Int),(Cq c (((AX ds)).1)))])) (CD ds (es.drop (b + 1)) (b + 1) a)) (cond (cond (c.kind == 3) (true) (c.kind == 4)) (cond (!(C9 c (((AX ds)).1) (((AX ds)).2.1) (((AX ds)).2.2) == 0)) (CD ds (es.drop (b + 1)) (b + 1) (a++[((b:Int),C9 c (((AX ds)).1) (((AX ds)).2.1) (((AX ds)).2.2))])) (CD ds (es.drop (b + 1)) (b + 1) a)) (CD ds (es.drop (b + 1)) (b + 1) a)))):=by
 have hl:b < es.length:=(List.getElem?_eq_some_iff.1 hi).1
 have he:es[b]=c:=(List.getElem?_eq_some_iff.1 hi).2
 rw [← List.getElem_cons_drop hl,CD] <;> (try rw [he])
def CX (p0a:List UInt8) (ds:List (Df)):List (Int×Int)×Int:=cond (!(Fz p0a ds)) (([],1)) (CD ds ds 0 ([]))
noncomputable def Yd:Code:=Tryz.f35.body.getD .skip
def sW:=AA 60 ([.code Yd])
def dN:=AA 60 (AC sW)
def AB6:=AA 60 (AD dN)
def sV:=AA 60 (AF dN)
def KL:=AA 60 (AC sV)
def Sm:=AA 60 (Ao KL)
def dM:=AA (Ak Aa 90 (AD Sm)) (AD Sm)
def sU:=AA (Ak Vu 90 (AC (AC dM))) (AC (AC dM))
def sT:=AA 60 (AC sU)
def dL:=AA 60 (AC sT)
def VK:=AA 60 (AD dL)
def ja:=AA (Ak BS 90 (AD VK)) (AD VK)
def VJ:=AA 60 (AF dL)
def jZ:=AA 60 (AD VJ)
def VI:=AA 60 (AC jZ)
def jY:=AA (Ak BS 90 (AD VI)) (AD VI)
def jX:=Ai 13 (AF VJ)
def VH:=AA 60 (AL jX)
def jW:=AA 60 (AD VH)
def VG:=AA 60 (AC jW)
def jV:=AA (Ak BS 90 (AD VG)) (AD VG)
def yW:=AA 60 (AF VH)
def yV:=AA 60 (AF Sm)
theorem lO (y:List UInt8) (j0:Option Addr) (ds:List (Df)) (a:Nat) (w:World) (v0:rowsDf w j0 ds) (d1:ds.length≤4294967296) (hs:y.length≤4294967296) (ht:∀ d∈ds,FU d) (k5:ds.length≤a):Calls Tryz.prog 35 ([.agg ⟨[By y,.slice j0 ds.length a]⟩]:List Value).toArray w fun e w'=>∃ (x1:Option Addr) (v1:Nat),e=.returned (.tuple #[.slice x1 ((((CX y ds)).1).length) v1,AI (((CX y ds)).2)])∧Below w.heap.size w w'∧Ac w.heap.size w' [Kg x1 v1 (((CX y ds)).1)]:=by
 refine AR (fn:=Tryz.f35) (c:=Yd) (n:=63) ?_
 have K1:=Wk.start w
 refine Af sW [⟨w.heap.size,0,[By y,.slice j0 ds.length a],27,true⟩] K1 [(0,0)] fun w1 K2=>?_
 refine AQ K2 (args:=[.agg ⟨[By y,.slice j0 ds.length a]⟩]) (Oh y ds _ w1 hs d1 ht (v0.below K2.B).agr) fun w2 K3=>?_
 refine AB dN K3 [] fun w3 K4=>?_
 refine AG (!(Fz y ds)) (fun c4=>?_) (fun c4=>?_)
 ·have K5:=K4.addNil 106 2 (fun e r=>r=jr e)
  refine AB AB6 K5 [] fun w5 K6=>?_
  have hS:(CX y ds)=([],1):=by unfold CX; rw [c4] <;> rfl
  exact AJ K6 (0,0) (.tuple #[.slice none 0 0,AI 1]) ⟨none,0,by rw [hS] <;> rfl,K6.B,by rw [hS]; exact K6.own0 [0] rfl (by decide)⟩
 ·refine AB sV K4 [(0,0)] fun w6 K7=>?_
  have Kf:=(K7.pickL (L':=[]++[]) [] rfl (by decide)).front
  refine A7 (args:=[.agg ⟨[By y,.slice j0 ds.length a]⟩]) (eC _ y j0 ds a w w6 v0 (by first | assumption | omega | (simp <;> omega)) K7.B Kf) fun en w8 hh=>?_
  obtain ⟨p,l,v,s,u,q,rfl,b8,Hn⟩:=hh
  refine ⟨_,rfl,?_⟩
  have K8:=Wk.unfront b8 Hn
  have c7:=W5 ds
  have k7:(AX ds).1.length≤4294967296:=by omega
  have h7:(AX ds).2.1.length≤4294967296:=by omega
  have f7:(AX ds).2.2.length≤4294967296:=by omega
  refine AB KL K8 [(0,1)] fun w9 K9=>?_
  have x4:Wk w w9 [⟨w.heap.size,0,[By y,.slice j0 ds.length a],27,true⟩] [(Co w p l (((AX ds)).1)),(Co w v s (((AX ds)).2.1)),(Co w u q (((AX ds)).2.2))] []:=K9.pk [0] [0,1,2]
  have w4:=x4.addNil 106 2 (fun e r=>r=jr e)
  have m0:(CX y ds)=CD ds ds 0 ([]):=by unfold CX; rw [c4] <;> rfl
  refine AU [(1,BY (w.heap.size)),(2,.slice none 0 0),(3,AI 0),(4,.slice p ((((AX ds)).1).length) l),(5,.slice v ((((AX ds)).2.1).length) s),(6,.slice u ((((AX ds)).2.2).length) q),(7,.slice none 0 0),(21,.slice j0 ds.length a),(22,AI ((ds.length:Int))),(23,AI (((0:Nat):Int)))] fun h5=>?_
  refine Bd (by kernel_rfl) (fun E r1=>∃ (j:Nat) (b:List (Int×Int)) (o:Option Addr) (m:Nat) (E0:Nat→Value),j≤ds.length∧E=BC E0 [(1,BY (w.heap.size)),(2,.slice none 0 0),(3,AI 0),(4,.slice p ((((AX ds)).1).length) l),(5,.slice v ((((AX ds)).2.1).length) s),(6,.slice u ((((AX ds)).2.2).length) q),(7,.slice o b.length m),(21,.slice j0 ds.length a),(22,AI ((ds.length:Int))),(23,AI ((j:Int)))]∧(CX y ds)=CD ds (List.drop j ds) j b∧b.length≤1 * j + 0∧Wk w r1 [⟨w.heap.size,0,[By y,.slice j0 ds.length a],27,true⟩] [(Co w p l (((AX ds)).1)),(Co w v s (((AX ds)).2.1)),(Co w u q (((AX ds)).2.2)),(Kg o m b)] []) (fun E _=>ds.length - AK (E 23)) ⟨0,([]),none,0,h5,Nat.zero_le _,rfl,m0,by simp,w4⟩ ?_
  clear m0
  rintro E r1 ⟨j,b,o,m,E0,b7,rfl,m0,e3,v4⟩ d0
  refine AB Sm v4 [] fun a7 p2=>?_
  refine AG (decide ((j:Int) < (ds.length:Int))) (fun m1=>?_) (fun m1=>?_)
  ·have l0:j < ds.length:=by have:=of_decide_eq_true m1; omega
   obtain ⟨f,e1⟩:∃ e,ds[j]?=some e:=⟨_,List.getElem?_eq_getElem l0⟩
   rw [Q6 j f e1] at m0
   obtain ⟨g0,h0,rfl,d2,e2⟩:=v0.all (by omega)
   obtain ⟨c0,a0,b0,z,z1,r0,q0⟩:=e2 j _ e1
   refine Ae Aa dM p2 [] fun n0 o2=>?_
   refine Au (g:=g0) (off:=h0) (cap:=a) (sz:=21) (k:=j) (len:=ds.length) (some 26) l0 Tryz.underlying25 ?_
   refine BI 59 g0 (h0 + j * 21) [AI f.kind,By (f.name),.bool (f.tb),AI f.tm,AI f.th,AI f.td,AI f.frm,.slice c0 f.ents.length a0,AI f.body.op,AI f.body.num,AI f.body.den,AI f.body.mu,AI f.body.hu,AI f.body.du,By (f.body.nm),AI f.body.cnt,AI f.body.md,.slice b0 f.body.ks.length z,AI f.mode,AI f.num,AI f.den] (some 27) (Ab z1 d2 o2.B) ?_
   refine CA Vu sU [⟨w.heap.size,0,[By y,.slice (some ⟨g0,h0,none⟩) ds.length a],27,true⟩,⟨n0.heap.size,0,(Be f c0 a0 b0 z),59,true⟩] o2 [(1,0),(0,1)] fun x6 t4=>?_
   refine C4 (nZ (g:=g0) (off:=h0) (len:=ds.length) (cap:=a) (t:=25) (x:=.tmp 29) (h:=.tmp 30) (by kernel_rfl) Tryz.underlying25 (by decide) (by kernel_rfl) (by kernel_rfl) (i:=j) (by omega)) ?_
   refine AB sT t4 [] fun b3 p0=>?_
   refine AQ p0 (args:=[.slice (some ⟨g0,h0,none⟩) j a,.func (.func 48) #[] ⟨[BY (n0.heap.size)]⟩]) (QC (fun x=>Ew x f) _ (ds.take j) _ 48 [BY (n0.heap.size)] b3 ((v0.take _).below p0.B) (by simp <;> omega) (by simp <;> omega) (by kernel_rfl) (fun u2 b2 x A1 c1 A2 c2 g1 g2=>XE x A1 c1 A2 c2 (n0.heap.size) f _ _ _ _ u2 g1 g2 (Nat.lt_of_lt_of_le (p0.ent (e:=⟨n0.heap.size,0,(Be f c0 a0 b0 z),59,true⟩) 1 (by kernel_rfl)).1 b2.size) (Ab (GH (p0.ent (e:=⟨n0.heap.size,0,(Be f c0 a0 b0 z),59,true⟩) 1 (by kernel_rfl))) (p0.ent (e:=⟨n0.heap.size,0,(Be f c0 a0 b0 z),59,true⟩) 1 (by kernel_rfl)).1 b2) (r0.below (p0.B.trans (b2.mono p0.B.size))) (q0.below (p0.B.trans (b2.mono p0.B.size))))) fun v6 q4=>?_
   refine AB dL q4 [] fun t6 n2=>?_
   refine AG (Dk (fun x=>Ew x f) (ds.take j)) (fun s0=>?_) (fun s0=>?_)
   ·refine AB VK n2 [] fun u1 p4=>?_
    refine AG true (fun _=>?_) (fun h=>nomatch h)
    refine CA BS ja [⟨w.heap.size,0,[By y,.slice (some ⟨g0,h0,none⟩) ds.length a],27,true⟩,⟨n0.heap.size,0,(Be f c0 a0 b0 z),59,true⟩,⟨u1.heap.size,0,[AI ((j:Int)),AI 8],106,true⟩] p4 [] fun q6 a1=>?_
    refine Cg a1.H (a1.ix 3) (a1.at 3 rfl) (((j:Int),8)) [AI ((j:Int)),AI 8] rfl (u1.heap.size) (a1.ent 2 (by kernel_rfl)) (Br ja) (by kernel_rfl) (.tmp 55) (.tmp 59) 102 (by kernel_rfl) (by kernel_rfl) (by kernel_rfl) (by decide) (by kernel_rfl) (by kernel_rfl) rfl rfl (by ((try simp only [maxLen,List.length_append,List.length_cons,List.length_nil,List.length_singleton]) <;> omega)) fun q1 l1 m6 Hn i3=>?_
    have k4:=a1.put 3 (by simp) i3 Hn
    refine AB (AY KL) k4 [] fun a3 h4=>?_
    refine AU [(1,BY (w.heap.size)),(2,.slice none 0 0),(3,AI 0),(4,.slice p ((((AX ds)).1).length) l),(5,.slice v ((((AX ds)).2.1).length) s),(6,.slice u ((((AX ds)).2.2).length) q),(7,.slice q1 ((b++[((j:Int),8)]).length) l1),(21,.slice (some ⟨g0,h0,none⟩) ds.length a),(22,AI ((ds.length:Int))),(23,AI (IntKind.i64.wrap ((j:Int) + 1)))] fun g5=>?_
    have g4:Wk w a3 [⟨w.heap.size,0,[By y,.slice (some ⟨g0,h0,none⟩) ds.length a],27,true⟩] [(Co w p l (((AX ds)).1)),(Co w v s (((AX ds)).2.1)),(Co w u q (((AX ds)).2.2)),(Kg q1 l1 (b++[((j:Int),8)]))] []:=h4.pk [0] [0,1,2,3]
    rw [Bc j (by omega)]
    refine d0 _ _ ⟨j + 1,(b++[((j:Int),8)]),q1,l1,g5,l0,rfl,by rw [m0,s0] <;> rfl,by ((try simp only [maxLen,List.length_append,List.length_cons,List.length_nil,List.length_singleton]) <;> omega),g4⟩ ?_
    show ds.length - AK (AI ((j + 1:Nat):Int)) < ds.length - AK (AI (j:Int))
    simp only [AK]
    omega
   ·refine AB VJ n2 [(1,0)] fun k6 m2=>?_
    refine AG (f.kind == 5) (fun w0=>?_) (fun w0=>?_)
    ·refine AB jZ m2 [(1,0)] fun z2 t0=>?_
     refine A7 (R4 f c0 a0 b0 z p (((AX ds)).1) l z2 (r0.below t0.B) (q0.below t0.B) (t0.H.rowsDf t0.B (t0.ix 0) (t0.at 0 rfl)) (by first | assumption | omega | (simp <;> omega))) fun en h6 hh=>?_
     obtain ⟨rfl,h3⟩:=hh
     refine ⟨_,rfl,?_⟩
     have f4:=t0.below h3
     refine AB VI f4 [] fun t1 l2=>?_
     refine AG (!((Cq f (((AX ds)).1)) == 0)) (fun k1=>?_) (fun k1=>?_)
     ·refine CA BS jY [⟨w.heap.size,0,[By y,.slice (some ⟨g0,h0,none⟩) ds.length a],27,true⟩,⟨n0.heap.size,0,(Be f c0 a0 b0 z),59,true⟩,⟨t1.heap.size,0,[AI ((j:Int)),AI ((Cq f (((AX ds)).1)))],106,true⟩] l2 [] fun g6 z0=>?_
      refine Cg z0.H (z0.ix 3) (z0.at 3 rfl) (((j:Int),(Cq f (((AX ds)).1)))) [AI ((j:Int)),AI ((Cq f (((AX ds)).1)))] rfl (t1.heap.size) (z0.ent 2 (by kernel_rfl)) (Br jY) (by kernel_rfl) (.tmp 55) (.tmp 59) 102 (by kernel_rfl) (by kernel_rfl) (by kernel_rfl) (by decide) (by kernel_rfl) (by kernel_rfl) rfl rfl (by ((try simp only [maxLen,List.length_append,List.length_cons,List.length_nil,List.length_singleton]) <;> omega)) fun p1 i1 f6 Hn g3=>?_
      have e4:=z0.put 3 (by simp) g3 Hn
      refine AB (AY KL) e4 [] fun x2 b4=>?_
      refine AU [(1,BY (w.heap.size)),(2,.slice none 0 0),(3,AI 0),(4,.slice p ((((AX ds)).1).length) l),(5,.slice v ((((AX ds)).2.1).length) s),(6,.slice u ((((AX ds)).2.2).length) q),(7,.slice p1 ((b++[((j:Int),(Cq f (((AX ds)).1)))]).length) i1),(21,.slice (some ⟨g0,h0,none⟩) ds.length a),(22,AI ((ds.length:Int))),(23,AI (IntKind.i64.wrap ((j:Int) + 1)))] fun e5=>?_
      have a4:Wk w x2 [⟨w.heap.size,0,[By y,.slice (some ⟨g0,h0,none⟩) ds.length a],27,true⟩] [(Co w p l (((AX ds)).1)),(Co w v s (((AX ds)).2.1)),(Co w u q (((AX ds)).2.2)),(Kg p1 i1 (b++[((j:Int),(Cq f (((AX ds)).1)))]))] []:=b4.pk [0] [0,1,2,3]
      rw [Bc j (by omega)]
      refine d0 _ _ ⟨j + 1,(b++[((j:Int),(Cq f (((AX ds)).1)))]),p1,i1,e5,l0,rfl,by rw [m0,s0,w0,k1] <;> rfl,by ((try simp only [maxLen,List.length_append,List.length_cons,List.length_nil,List.length_singleton]) <;> omega),a4⟩ ?_
      show ds.length - AK (AI ((j + 1:Nat):Int)) < ds.length - AK (AI (j:Int))
      simp only [AK]
      omega
     ·refine AB (AY KL) l2 [] fun v2 z3=>?_
      refine AU [(1,BY (w.heap.size)),(2,.slice none 0 0),(3,AI 0),(4,.slice p ((((AX ds)).1).length) l),(5,.slice v ((((AX ds)).2.1).length) s),(6,.slice u ((((AX ds)).2.2).length) q),(7,.slice o b.length m),(21,.slice (some ⟨g0,h0,none⟩) ds.length a),(22,AI ((ds.length:Int))),(23,AI (IntKind.i64.wrap ((j:Int) + 1)))] fun c5=>?_
      have x3:Wk w v2 [⟨w.heap.size,0,[By y,.slice (some ⟨g0,h0,none⟩) ds.length a],27,true⟩] [(Co w p l (((AX ds)).1)),(Co w v s (((AX ds)).2.1)),(Co w u q (((AX ds)).2.2)),(Kg o m b)] []:=z3.pk [0] [0,1,2,3]
      rw [Bc j (by omega)]
      refine d0 _ _ ⟨j + 1,b,o,m,c5,l0,rfl,by rw [m0,s0,w0,k1] <;> rfl,by ((try simp only [maxLen,List.length_append,List.length_cons,List.length_nil,List.length_singleton]) <;> omega),x3⟩ ?_
      show ds.length - AK (AI ((j + 1:Nat):Int)) < ds.length - AK (AI (j:Int))
      simp only [AK]
      omega
    ·refine Am 13 jX m2 [] fun c6 k2=>?_
     refine Ap k2 [(1,1,0),(5,1,0)] [] k2.G (fun sp c3=>by cases c3) fun b6 q7 v3=>?_
     refine AB VH v3 [] fun a6 i2=>?_
     refine AG (cond (f.kind == 3) (true) (f.kind == 4)) (fun b1=>?_) (fun b1=>?_)
     ·refine AB jW i2 [(1,0)] fun t2 k0=>?_
      refine AQ k0 (args:=[.agg ⟨[AI f.kind,By (f.name),.bool (f.tb),AI f.tm,AI f.th,AI f.td,AI f.frm,.slice c0 f.ents.length a0,AI f.body.op,AI f.body.num,AI f.body.den,AI f.body.mu,AI f.body.hu,AI f.body.du,By (f.body.nm),AI f.body.cnt,AI f.body.md,.slice b0 f.body.ks.length z,AI f.mode,AI f.num,AI f.den]⟩,.slice p ((((AX ds)).1).length) l,.slice v ((((AX ds)).2.1).length) s,.slice u ((((AX ds)).2.2).length) q]) (R6 f c0 a0 b0 z p (((AX ds)).1) l v (((AX ds)).2.1) s u (((AX ds)).2.2) q t2 (r0.below k0.B) (q0.below k0.B) (k0.H.rowsDf k0.B (k0.ix 0) (k0.at 0 rfl)) (by first | assumption | omega | (simp <;> omega)) (k0.H.rowsDf k0.B (k0.ix 1) (k0.at 1 rfl)) (by first | assumption | omega | (simp <;> omega)) (k0.H.rowsDf k0.B (k0.ix 2) (k0.at 2 rfl)) (by first | assumption | omega | (simp <;> omega)) (ht _ (List.mem_of_getElem? e1)).1) fun z5 t3=>?_
      refine AB VG t3 [] fun s1 h2=>?_
      refine AG (!(C9 f (((AX ds)).1) (((AX ds)).2.1) (((AX ds)).2.2) == 0)) (fun h1=>?_) (fun h1=>?_)
      ·refine CA BS jV [⟨w.heap.size,0,[By y,.slice (some ⟨g0,h0,none⟩) ds.length a],27,true⟩,⟨n0.heap.size,0,(Be f c0 a0 b0 z),59,true⟩,⟨s1.heap.size,0,[AI ((j:Int)),AI (C9 f (((AX ds)).1) (((AX ds)).2.1) (((AX ds)).2.2))],106,true⟩] h2 [] fun x5 x0=>?_
       refine Cg x0.H (x0.ix 3) (x0.at 3 rfl) (((j:Int),C9 f (((AX ds)).1) (((AX ds)).2.1) (((AX ds)).2.2))) [AI ((j:Int)),AI (C9 f (((AX ds)).1) (((AX ds)).2.1) (((AX ds)).2.2))] rfl (s1.heap.size) (x0.ent 2 (by kernel_rfl)) (Br jV) (by kernel_rfl) (.tmp 55) (.tmp 59) 102 (by kernel_rfl) (by kernel_rfl) (by kernel_rfl) (by decide) (by kernel_rfl) (by kernel_rfl) rfl rfl (by ((try simp only [maxLen,List.length_append,List.length_cons,List.length_nil,List.length_singleton]) <;> omega)) fun o1 f1 v5 Hn f3=>?_
       have r3:=x0.put 3 (by simp) f3 Hn
       refine AB (AY KL) r3 [] fun s2 q3=>?_
       refine AU [(1,BY (w.heap.size)),(2,.slice none 0 0),(3,AI 0),(4,.slice p ((((AX ds)).1).length) l),(5,.slice v ((((AX ds)).2.1).length) s),(6,.slice u ((((AX ds)).2.2).length) q),(7,.slice o1 ((b++[((j:Int),C9 f (((AX ds)).1) (((AX ds)).2.1) (((AX ds)).2.2))]).length) f1),(21,.slice (some ⟨g0,h0,none⟩) ds.length a),(22,AI ((ds.length:Int))),(23,AI (IntKind.i64.wrap ((j:Int) + 1)))] fun b5=>?_
       have p3:Wk w s2 [⟨w.heap.size,0,[By y,.slice (some ⟨g0,h0,none⟩) ds.length a],27,true⟩] [(Co w p l (((AX ds)).1)),(Co w v s (((AX ds)).2.1)),(Co w u q (((AX ds)).2.2)),(Kg o1 f1 (b++[((j:Int),C9 f (((AX ds)).1) (((AX ds)).2.1) (((AX ds)).2.2))]))] []:=q3.pk [0] [0,1,2,3]
       rw [Bc j (by omega)]
       refine d0 _ _ ⟨j + 1,(b++[((j:Int),C9 f (((AX ds)).1) (((AX ds)).2.1) (((AX ds)).2.2))]),o1,f1,b5,l0,rfl,by rw [m0,s0,w0,b1,h1] <;> rfl,by ((try simp only [maxLen,List.length_append,List.length_cons,List.length_nil,List.length_singleton]) <;> omega),p3⟩ ?_
       show ds.length - AK (AI ((j + 1:Nat):Int)) < ds.length - AK (AI (j:Int))
       simp only [AK]
       omega
      ·refine AB (AY KL) h2 [] fun r2 o3=>?_
       refine AU [(1,BY (w.heap.size)),(2,.slice none 0 0),(3,AI 0),(4,.slice p ((((AX ds)).1).length) l),(5,.slice v ((((AX ds)).2.1).length) s),(6,.slice u ((((AX ds)).2.2).length) q),(7,.slice o b.length m),(21,.slice (some ⟨g0,h0,none⟩) ds.length a),(22,AI ((ds.length:Int))),(23,AI (IntKind.i64.wrap ((j:Int) + 1)))] fun a5=>?_
       have n3:Wk w r2 [⟨w.heap.size,0,[By y,.slice (some ⟨g0,h0,none⟩) ds.length a],27,true⟩] [(Co w p l (((AX ds)).1)),(Co w v s (((AX ds)).2.1)),(Co w u q (((AX ds)).2.2)),(Kg o m b)] []:=o3.pk [0] [0,1,2,3]
       rw [Bc j (by omega)]
       refine d0 _ _ ⟨j + 1,b,o,m,a5,l0,rfl,by rw [m0,s0,w0,b1,h1] <;> rfl,by ((try simp only [maxLen,List.length_append,List.length_cons,List.length_nil,List.length_singleton]) <;> omega),n3⟩ ?_
       show ds.length - AK (AI ((j + 1:Nat):Int)) < ds.length - AK (AI (j:Int))
       simp only [AK]
       omega
     ·refine AB yW i2 [] fun t5 m3=>?_
      refine AG false (fun h=>nomatch h) (fun _=>?_)
      refine AB (AY KL) m3 [] fun q2 l3=>?_
      refine AU [(1,BY (w.heap.size)),(2,.slice none 0 0),(3,AI 0),(4,.slice p ((((AX ds)).1).length) l),(5,.slice v ((((AX ds)).2.1).length) s),(6,.slice u ((((AX ds)).2.2).length) q),(7,.slice o b.length m),(21,.slice (some ⟨g0,h0,none⟩) ds.length a),(22,AI ((ds.length:Int))),(23,AI (IntKind.i64.wrap ((j:Int) + 1)))] fun z4=>?_
      have k3:Wk w q2 [⟨w.heap.size,0,[By y,.slice (some ⟨g0,h0,none⟩) ds.length a],27,true⟩] [(Co w p l (((AX ds)).1)),(Co w v s (((AX ds)).2.1)),(Co w u q (((AX ds)).2.2)),(Kg o m b)] []:=l3.pk [0] [0,1,2,3]
      rw [Bc j (by omega)]
      refine d0 _ _ ⟨j + 1,b,o,m,z4,l0,rfl,by rw [m0,s0,w0,b1] <;> rfl,by ((try simp only [maxLen,List.length_append,List.length_cons,List.length_nil,List.length_singleton]) <;> omega),k3⟩ ?_
      show ds.length - AK (AI ((j + 1:Nat):Int)) < ds.length - AK (AI (j:Int))
      simp only [AK]
      omega
  ·have a2:j=ds.length:=by have:=of_decide_eq_false m1; omega
   rw [a2,List.drop_length,R5] at m0
   refine AB yV p2 [] fun q5 n1=>?_
   have hS:(CX y ds)=(b,0):=by rw [m0] <;> rfl
   exact AJ n1 (0,0) (.tuple #[.slice o b.length m,AI 0]) ⟨o,m,by rw [hS] <;> rfl,n1.B,by rw [hS]; exact n1.own0 [3] rfl (by decide)⟩
end
end Go.Proofs.YtkjbdagicjbjjaaGreat
namespace Go.Proofs.YtkjbdagicjbjjaaGreat
open Go.RowKit
set_option maxRecDepth 100000
set_option maxHeartbeats 600000
abbrev ML:=Nat×List Nat×Option Addr×Nat
abbrev KX (x:ML):Nat×lW:=(x.1,x.2.2.1,x.2.1.length,x.2.2.2)
abbrev j9 (x:ML):Th:=BN x.2.2.1 x.2.2.2 x.2.1
abbrev IY (x:ML):Nat×List Nat:=(x.1,x.2.1)
abbrev G6 (xs:List ML):Th:=Th.all (xs.map j9)
theorem Ac.rowSpot {α:Type} {b:Nat} {w:World} {L:List Th} {T:TypeId} {n:Nat} {d:α→List Value→Prop} {A:Option Addr} {c:Nat} {l:List α} (h:Ac b w L) (i:Nat) (hi:L[i]?=some (Th.row T n d A c l)):∀ a,A=some a→a.spot=none:=by
 obtain ⟨rs,hr,ho⟩:(Th.row T n d A c l).P w:=h.all i _ hi
 intro a ha
 rcases ho.2 with ⟨e,j⟩ | ⟨g,cap,f,e,_⟩
 ·injection e with e1
  rw [e1] at ha
  cases ha
 ·injection e with e1
  rw [e1] at ha
  injection ha with ha
  rw [← ha]
theorem tV {w:World} {xs:List ML} (hf:(G6 xs).P w) (i:Nat):∃ A c,(AO (xs.map KX) i).getD (none,0,0)=(A,((AO (xs.map IY) i).getD []).length,c)∧rowsNat w A ((AO (xs.map IY) i).getD []):=by
 induction xs with
 | nil=>exact ⟨none,0,rfl,.inl rfl⟩
 | cons x xs ih=>
  rw [List.map_cons,List.map_cons,AO,AO]
  by_cases hx:x.1=i
  ·rw [if_pos hx,if_pos hx]
   have d:(j9 x).P w:=hf _ (by simp)
   have H:Ac 0 w [j9 x]:=⟨Nat.zero_le _,fun j t ht=>by
     cases j with
     | zero=>obtain rfl:=Option.some.inj ht; exact d
     | succ j=>simp at ht,fun j t ht k e=>by
     cases j with
     | zero=>
      obtain rfl:=Option.some.inj ht
      obtain ⟨rs,hr,ho⟩:=d
      have a:x.2.2.1=IN k:=e
      exact ⟨Nat.zero_le _,(Cw ho (g:=k) (by rw [a]; rfl)).2⟩
     | succ j=>simp at ht,fun j k s t hs ht b=>by
     cases j with
     | zero=>cases k with
      | zero=>exact absurd rfl b
      | succ k=>simp at ht
     | succ j=>simp at hs⟩
   exact ⟨x.2.2.1,x.2.2.2,rfl,H.rowsNat 0 rfl⟩
  ·rw [if_neg hx,if_neg hx]
   exact ih fun u hu=>hf u (by simp at hu ⊢; exact .inr hu)
end Go.Proofs.YtkjbdagicjbjjaaGreat

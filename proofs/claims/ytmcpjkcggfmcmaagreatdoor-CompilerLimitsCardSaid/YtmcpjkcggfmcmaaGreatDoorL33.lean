/-
  Part 33 of a proof: contracts of functions.
-/
import Derived.Test.YtmcpjkcggfmcmaaGreatDoorL32
set_option linter.all false
namespace Go.Proofs.YtmcpjkcggfmcmaaGreatDoor
noncomputable section
open Go.RowKit
set_option maxRecDepth 100000
set_option maxHeartbeats 1000000
attribute [local irreducible] BD Bb AF AG AL A4 Ai AO BO CV Di CC Bp At Fr
theorem Iu {F:Df→Bool}:∀ (es:List Df) (i:Nat) (a:Int),Co F es i a < (i + es.length:Nat)∧(Co F es i a=-1∨0≤Co F es i a)
 | [],i,a=>by rw [Co]; exact ⟨by omega,.inl rfl⟩
 | e :: es,i,a=>by
  rw [Co,List.length_cons]
  cases F e
  ·show Co F es (i + 1) a < _∧_
   have:=Iu (F:=F) es (i + 1) a
   exact ⟨by have:=this.1; omega,this.2⟩
  ·exact ⟨by show (i:Int) < _; omega,.inr (by show (0:Int)≤i; omega)⟩
theorem Rm {F:Df→Bool} {ds:List Df} (h:decide (AH F ds < 0)=false):AH F ds=((AH F ds).toNat:Int)∧(AH F ds).toNat < ds.length:=by
 have h1:=of_decide_eq_false h
 have h2:=(Iu (F:=F) ds 0 0).1
 have h3:AH F ds < (0 + ds.length:Nat):=h2
 omega
theorem My (F:Df→Bool) (p0A:Option Addr) (ds:List (Df)) {m:Nat} (p0c:Nat) (g:FuncId) (cap:List Value) (w:World) (h_ds:rowsDf w p0A ds) (hm:ds.length=m) (hl_ds:ds.length≤4294967296) (hg:DO Tryz.prog g=true) (hF:∀ u,Below w.heap.size w u→∀ (e:Df) (A1:Option Addr) (c1:Nat) (A2:Option Addr) (c2:Nat),C1 u A1 e.ents→rowsEx u A2 e.body.ks→Calls Tryz.prog g (.agg ⟨Be e A1 c1 A2 c2⟩ :: cap).toArray u fun en w'=>en=.returned (.bool (F e))∧Below u.heap.size u w'):Calls Tryz.prog 45 ([.slice p0A m p0c,.func (.func g) #[] ⟨cap⟩]:List Value).toArray w fun e w'=>e=.returned (.bool (FR F ds))∧Below w.heap.size w w':=by
 subst hm
 exact NX F p0A ds p0c g cap w h_ds hl_ds hg hF
def Cv (d:Df) (ns:List (Df)):Int:=cond (decide (AH (fun x=>AD x d) ns < 0)) (0) (Fh ((Ad ((ns.getD (AH (fun x=>AD x d) ns).toNat default).kind) ((ns.getD (AH (fun x=>AD x d) ns).toNat default).tb) ((ns.getD (AH (fun x=>AD x d) ns).toNat default).tm) ((ns.getD (AH (fun x=>AD x d) ns).toNat default).th) ((ns.getD (AH (fun x=>AD x d) ns).toNat default).td)).1) ((Ad ((ns.getD (AH (fun x=>AD x d) ns).toNat default).kind) ((ns.getD (AH (fun x=>AD x d) ns).toNat default).tb) ((ns.getD (AH (fun x=>AD x d) ns).toNat default).tm) ((ns.getD (AH (fun x=>AD x d) ns).toNat default).th) ((ns.getD (AH (fun x=>AD x d) ns).toNat default).td)).2.1) ((Ad ((ns.getD (AH (fun x=>AD x d) ns).toNat default).kind) ((ns.getD (AH (fun x=>AD x d) ns).toNat default).tb) ((ns.getD (AH (fun x=>AD x d) ns).toNat default).tm) ((ns.getD (AH (fun x=>AD x d) ns).toNat default).th) ((ns.getD (AH (fun x=>AD x d) ns).toNat default).td)).2.2.1) ((Ad ((ns.getD (AH (fun x=>AD x d) ns).toNat default).kind) ((ns.getD (AH (fun x=>AD x d) ns).toNat default).tb) ((ns.getD (AH (fun x=>AD x d) ns).toNat default).tm) ((ns.getD (AH (fun x=>AD x d) ns).toNat default).th) ((ns.getD (AH (fun x=>AD x d) ns).toNat default).td)).2.2.2) d.tb d.tm d.th d.td)
noncomputable def SS:Code:=Tryz.f48.body.getD .skip
def di:List Item:=AB 60 ([.code SS])
def Ux:List Item:=AB 60 (AF di)
def mI:List Item:=AB 60 (AG Ux)
def dh:List Item:=Ac 4 (AL Ux)
def mH:List Item:=AB 60 (AO dh)
theorem OW (d:Df) (p0A0:Option Addr) (p0c0:Nat) (p0A1:Option Addr) (p0c1:Nat) (p1A:Option Addr) (ns:List (Df)) (p1c:Nat) (w:World) (h_d0:C1 w p0A0 d.ents) (h_d1:rowsEx w p0A1 d.body.ks) (h_ns:rowsDf w p1A ns) (hl_ns:ns.length≤4294967296):Calls Tryz.prog 48 ([.agg ⟨[.int .i64 d.kind,.string ⟨⟨d.name⟩⟩,.bool (d.tb),.int .i64 d.tm,.int .i64 d.th,.int .i64 d.td,.int .i64 d.frm,.slice p0A0 d.ents.length p0c0,.int .i64 d.body.op,.int .i64 d.body.num,.int .i64 d.body.den,.int .i64 d.body.mu,.int .i64 d.body.hu,.int .i64 d.body.du,.string ⟨⟨d.body.nm⟩⟩,.int .i64 d.body.cnt,.int .i64 d.body.md,.slice p0A1 d.body.ks.length p0c1,.int .i64 d.mode,.int .i64 d.num,.int .i64 d.den]⟩,.slice p1A ns.length p1c]:List Value).toArray w fun e w'=>e=.returned (.int .i64 ((Cv d ns)))∧Below w.heap.size w w':=by
 refine Ab (fn:=Tryz.f48) (c:=SS) (n:=19) ?_
 have K1:=Wk.start w
 refine Bv di [⟨w.heap.size,0,(Be d p0A0 p0c0 p0A1 p0c1),34,true⟩] K1 [] fun w1 K2=>?_
 refine Ak K2 (args:=[.slice p1A ns.length p1c,.func (.func 86) #[] ⟨[.pointer (some ⟨w.heap.size,0,none⟩)]⟩]) (LF (fun x=>AD x d) _ ns _ 86 [.pointer (some ⟨w.heap.size,0,none⟩)] w1 (h_ns.below K2.B) (by first | assumption | omega) (by kernel_rfl) (fun u2 b2 x A1 c1 A2 c2 g1 g2=>M6 x A1 c1 A2 c2 (w.heap.size) d _ _ _ _ u2 g1 g2 (Nat.lt_of_lt_of_le (K2.ent (e:=⟨w.heap.size,0,(Be d p0A0 p0c0 p0A1 p0c1),34,true⟩) 0 (by kernel_rfl)).1 b2.size) (Af (Hf (K2.ent (e:=⟨w.heap.size,0,(Be d p0A0 p0c0 p0A1 p0c1),34,true⟩) 0 (by kernel_rfl))) (K2.ent (e:=⟨w.heap.size,0,(Be d p0A0 p0c0 p0A1 p0c1),34,true⟩) 0 (by kernel_rfl)).1 b2) (h_d0.below (K2.B.trans (b2.mono K2.B.size))) (h_d1.below (K2.B.trans (b2.mono K2.B.size))))) fun w2 K3=>?_
 refine AC Ux K3 [] fun w3 K4=>?_
 refine AK (decide (AH (fun x=>AD x d) ns < 0)) (fun c4=>?_) (fun c4=>?_)
 ·refine AC mI K4 [] fun w5 K5=>?_
  have hS:(Cv d ns)=0:=by unfold Cv; rw [c4] <;> rfl
  exact Aa K5 (0,0) (.int .i64 0) ⟨by rw [hS] <;> rfl,K5.B⟩
 ·have hiX:=Rm c4
  rw [hiX.1]
  refine Ag 4 dh K4 [] fun w6 K6=>?_
  obtain ⟨gB0,fB0,rfl,hB0g,hB0a⟩:=h_ns.all (Nat.lt_of_le_of_lt (Nat.zero_le _) hiX.2)
  have hd0:ns[(AH (fun x=>AD x d) ns).toNat]?=some (ns.getD (AH (fun x=>AD x d) ns).toNat default):=getD_some default hiX.2
  obtain ⟨aE0_0,cE0_0,aE0_1,cE0_1,hr0_,hE0_0,hE0_1⟩:=hB0a (AH (fun x=>AD x d) ns).toNat _ hd0
  refine Aj K6 [(3,1,0),(6,0,2)] [⟨2,[(11,.slice (some ⟨gB0,fB0,none⟩) ns.length p1c),(12,.int .i64 (((AH (fun x=>AD x d) ns).toNat:Int)))],.pointer (some ⟨gB0,fB0 + (AH (fun x=>AD x d) ns).toNat * 21,none⟩),true⟩,⟨4,[(14,.agg ⟨[.int .i64 ((ns.getD (AH (fun x=>AD x d) ns).toNat default).kind),.string ⟨⟨(ns.getD (AH (fun x=>AD x d) ns).toNat default).name⟩⟩,.bool ((ns.getD (AH (fun x=>AD x d) ns).toNat default).tb),.int .i64 ((ns.getD (AH (fun x=>AD x d) ns).toNat default).tm),.int .i64 ((ns.getD (AH (fun x=>AD x d) ns).toNat default).th),.int .i64 ((ns.getD (AH (fun x=>AD x d) ns).toNat default).td),.int .i64 ((ns.getD (AH (fun x=>AD x d) ns).toNat default).frm),.slice aE0_0 ((ns.getD (AH (fun x=>AD x d) ns).toNat default).ents.length) cE0_0,.int .i64 ((ns.getD (AH (fun x=>AD x d) ns).toNat default).body.op),.int .i64 ((ns.getD (AH (fun x=>AD x d) ns).toNat default).body.num),.int .i64 ((ns.getD (AH (fun x=>AD x d) ns).toNat default).body.den),.int .i64 ((ns.getD (AH (fun x=>AD x d) ns).toNat default).body.mu),.int .i64 ((ns.getD (AH (fun x=>AD x d) ns).toNat default).body.hu),.int .i64 ((ns.getD (AH (fun x=>AD x d) ns).toNat default).body.du),.string ⟨⟨(ns.getD (AH (fun x=>AD x d) ns).toNat default).body.nm⟩⟩,.int .i64 ((ns.getD (AH (fun x=>AD x d) ns).toNat default).body.cnt),.int .i64 ((ns.getD (AH (fun x=>AD x d) ns).toNat default).body.md),.slice aE0_1 ((ns.getD (AH (fun x=>AD x d) ns).toNat default).body.ks.length) cE0_1,.int .i64 ((ns.getD (AH (fun x=>AD x d) ns).toNat default).mode),.int .i64 ((ns.getD (AH (fun x=>AD x d) ns).toNat default).num),.int .i64 ((ns.getD (AH (fun x=>AD x d) ns).toNat default).den)]⟩)],Dg (Ad ((ns.getD (AH (fun x=>AD x d) ns).toNat default).kind) ((ns.getD (AH (fun x=>AD x d) ns).toNat default).tb) ((ns.getD (AH (fun x=>AD x d) ns).toNat default).tm) ((ns.getD (AH (fun x=>AD x d) ns).toNat default).th) ((ns.getD (AH (fun x=>AD x d) ns).toNat default).td)),true⟩,⟨7,[(15,Dg (Ad ((ns.getD (AH (fun x=>AD x d) ns).toNat default).kind) ((ns.getD (AH (fun x=>AD x d) ns).toNat default).tb) ((ns.getD (AH (fun x=>AD x d) ns).toNat default).tm) ((ns.getD (AH (fun x=>AD x d) ns).toNat default).th) ((ns.getD (AH (fun x=>AD x d) ns).toNat default).td))),(17,.agg ⟨[.bool (d.tb),.int .i64 d.tm,.int .i64 d.th,.int .i64 d.td]⟩)],.int .i64 (Fh ((Ad ((ns.getD (AH (fun x=>AD x d) ns).toNat default).kind) ((ns.getD (AH (fun x=>AD x d) ns).toNat default).tb) ((ns.getD (AH (fun x=>AD x d) ns).toNat default).tm) ((ns.getD (AH (fun x=>AD x d) ns).toNat default).th) ((ns.getD (AH (fun x=>AD x d) ns).toNat default).td)).1) ((Ad ((ns.getD (AH (fun x=>AD x d) ns).toNat default).kind) ((ns.getD (AH (fun x=>AD x d) ns).toNat default).tb) ((ns.getD (AH (fun x=>AD x d) ns).toNat default).tm) ((ns.getD (AH (fun x=>AD x d) ns).toNat default).th) ((ns.getD (AH (fun x=>AD x d) ns).toNat default).td)).2.1) ((Ad ((ns.getD (AH (fun x=>AD x d) ns).toNat default).kind) ((ns.getD (AH (fun x=>AD x d) ns).toNat default).tb) ((ns.getD (AH (fun x=>AD x d) ns).toNat default).tm) ((ns.getD (AH (fun x=>AD x d) ns).toNat default).th) ((ns.getD (AH (fun x=>AD x d) ns).toNat default).td)).2.2.1) ((Ad ((ns.getD (AH (fun x=>AD x d) ns).toNat default).kind) ((ns.getD (AH (fun x=>AD x d) ns).toNat default).tb) ((ns.getD (AH (fun x=>AD x d) ns).toNat default).tm) ((ns.getD (AH (fun x=>AD x d) ns).toNat default).th) ((ns.getD (AH (fun x=>AD x d) ns).toNat default).td)).2.2.2) d.tb d.tm d.th d.td),true⟩] (Fq (x:=⟨gB0,fB0 + (AH (fun x=>AD x d) ns).toNat * 21,[.int .i64 ((ns.getD (AH (fun x=>AD x d) ns).toNat default).kind),.string ⟨⟨(ns.getD (AH (fun x=>AD x d) ns).toNat default).name⟩⟩,.bool ((ns.getD (AH (fun x=>AD x d) ns).toNat default).tb),.int .i64 ((ns.getD (AH (fun x=>AD x d) ns).toNat default).tm),.int .i64 ((ns.getD (AH (fun x=>AD x d) ns).toNat default).th),.int .i64 ((ns.getD (AH (fun x=>AD x d) ns).toNat default).td),.int .i64 ((ns.getD (AH (fun x=>AD x d) ns).toNat default).frm),.slice aE0_0 ((ns.getD (AH (fun x=>AD x d) ns).toNat default).ents.length) cE0_0,.int .i64 ((ns.getD (AH (fun x=>AD x d) ns).toNat default).body.op),.int .i64 ((ns.getD (AH (fun x=>AD x d) ns).toNat default).body.num),.int .i64 ((ns.getD (AH (fun x=>AD x d) ns).toNat default).body.den),.int .i64 ((ns.getD (AH (fun x=>AD x d) ns).toNat default).body.mu),.int .i64 ((ns.getD (AH (fun x=>AD x d) ns).toNat default).body.hu),.int .i64 ((ns.getD (AH (fun x=>AD x d) ns).toNat default).body.du),.string ⟨⟨(ns.getD (AH (fun x=>AD x d) ns).toNat default).body.nm⟩⟩,.int .i64 ((ns.getD (AH (fun x=>AD x d) ns).toNat default).body.cnt),.int .i64 ((ns.getD (AH (fun x=>AD x d) ns).toNat default).body.md),.slice aE0_1 ((ns.getD (AH (fun x=>AD x d) ns).toNat default).body.ks.length) cE0_1,.int .i64 ((ns.getD (AH (fun x=>AD x d) ns).toNat default).mode),.int .i64 ((ns.getD (AH (fun x=>AD x d) ns).toNat default).num),.int .i64 ((ns.getD (AH (fun x=>AD x d) ns).toNat default).den)],34,false⟩) K6.G ⟨Nat.lt_of_lt_of_le hB0g K6.B.size,Af hr0_ hB0g K6.B⟩) (fun sp hsp=>?_) fun w7 E7 K7=>?_
  ·simp only [List.mem_cons,List.not_mem_nil,or_false] at hsp
   rcases hsp with rfl | rfl | rfl
   ·exact Av fun _ E u _=>Cd (sz:=21) (cap:=p1c) 36 (.tmp 11) (.tmp 12) (by kernel_rfl) (by kernel_rfl) hiX.2 Tryz.underlying36
   ·exact AR 85 [.tmp 14] [.agg ⟨[.int .i64 ((ns.getD (AH (fun x=>AD x d) ns).toNat default).kind),.string ⟨⟨(ns.getD (AH (fun x=>AD x d) ns).toNat default).name⟩⟩,.bool ((ns.getD (AH (fun x=>AD x d) ns).toNat default).tb),.int .i64 ((ns.getD (AH (fun x=>AD x d) ns).toNat default).tm),.int .i64 ((ns.getD (AH (fun x=>AD x d) ns).toNat default).th),.int .i64 ((ns.getD (AH (fun x=>AD x d) ns).toNat default).td),.int .i64 ((ns.getD (AH (fun x=>AD x d) ns).toNat default).frm),.slice aE0_0 ((ns.getD (AH (fun x=>AD x d) ns).toNat default).ents.length) cE0_0,.int .i64 ((ns.getD (AH (fun x=>AD x d) ns).toNat default).body.op),.int .i64 ((ns.getD (AH (fun x=>AD x d) ns).toNat default).body.num),.int .i64 ((ns.getD (AH (fun x=>AD x d) ns).toNat default).body.den),.int .i64 ((ns.getD (AH (fun x=>AD x d) ns).toNat default).body.mu),.int .i64 ((ns.getD (AH (fun x=>AD x d) ns).toNat default).body.hu),.int .i64 ((ns.getD (AH (fun x=>AD x d) ns).toNat default).body.du),.string ⟨⟨(ns.getD (AH (fun x=>AD x d) ns).toNat default).body.nm⟩⟩,.int .i64 ((ns.getD (AH (fun x=>AD x d) ns).toNat default).body.cnt),.int .i64 ((ns.getD (AH (fun x=>AD x d) ns).toNat default).body.md),.slice aE0_1 ((ns.getD (AH (fun x=>AD x d) ns).toNat default).body.ks.length) cE0_1,.int .i64 ((ns.getD (AH (fun x=>AD x d) ns).toNat default).mode),.int .i64 ((ns.getD (AH (fun x=>AD x d) ns).toNat default).num),.int .i64 ((ns.getD (AH (fun x=>AD x d) ns).toNat default).den)]⟩] (fun _=>by kernel_rfl) fun hc u hu=>AP hu (Gz ((ns.getD (AH (fun x=>AD x d) ns).toNat default).kind) ((ns.getD (AH (fun x=>AD x d) ns).toNat default).name) ((ns.getD (AH (fun x=>AD x d) ns).toNat default).tb) ((ns.getD (AH (fun x=>AD x d) ns).toNat default).tm) ((ns.getD (AH (fun x=>AD x d) ns).toNat default).th) ((ns.getD (AH (fun x=>AD x d) ns).toNat default).td) ((ns.getD (AH (fun x=>AD x d) ns).toNat default).frm) aE0_0 ((ns.getD (AH (fun x=>AD x d) ns).toNat default).ents.length) cE0_0 ((ns.getD (AH (fun x=>AD x d) ns).toNat default).body.op) ((ns.getD (AH (fun x=>AD x d) ns).toNat default).body.num) ((ns.getD (AH (fun x=>AD x d) ns).toNat default).body.den) ((ns.getD (AH (fun x=>AD x d) ns).toNat default).body.mu) ((ns.getD (AH (fun x=>AD x d) ns).toNat default).body.hu) ((ns.getD (AH (fun x=>AD x d) ns).toNat default).body.du) ((ns.getD (AH (fun x=>AD x d) ns).toNat default).body.nm) ((ns.getD (AH (fun x=>AD x d) ns).toNat default).body.cnt) ((ns.getD (AH (fun x=>AD x d) ns).toNat default).body.md) aE0_1 ((ns.getD (AH (fun x=>AD x d) ns).toNat default).body.ks.length) cE0_1 ((ns.getD (AH (fun x=>AD x d) ns).toNat default).mode) ((ns.getD (AH (fun x=>AD x d) ns).toNat default).num) ((ns.getD (AH (fun x=>AD x d) ns).toNat default).den) u)
   ·exact AR 87 [.tmp 15,.tmp 17] [Dg (Ad ((ns.getD (AH (fun x=>AD x d) ns).toNat default).kind) ((ns.getD (AH (fun x=>AD x d) ns).toNat default).tb) ((ns.getD (AH (fun x=>AD x d) ns).toNat default).tm) ((ns.getD (AH (fun x=>AD x d) ns).toNat default).th) ((ns.getD (AH (fun x=>AD x d) ns).toNat default).td)),.agg ⟨[.bool (d.tb),.int .i64 d.tm,.int .i64 d.th,.int .i64 d.td]⟩] (fun _=>by kernel_rfl) fun hc u hu=>AP hu (OG ((Ad ((ns.getD (AH (fun x=>AD x d) ns).toNat default).kind) ((ns.getD (AH (fun x=>AD x d) ns).toNat default).tb) ((ns.getD (AH (fun x=>AD x d) ns).toNat default).tm) ((ns.getD (AH (fun x=>AD x d) ns).toNat default).th) ((ns.getD (AH (fun x=>AD x d) ns).toNat default).td)).1) ((Ad ((ns.getD (AH (fun x=>AD x d) ns).toNat default).kind) ((ns.getD (AH (fun x=>AD x d) ns).toNat default).tb) ((ns.getD (AH (fun x=>AD x d) ns).toNat default).tm) ((ns.getD (AH (fun x=>AD x d) ns).toNat default).th) ((ns.getD (AH (fun x=>AD x d) ns).toNat default).td)).2.1) ((Ad ((ns.getD (AH (fun x=>AD x d) ns).toNat default).kind) ((ns.getD (AH (fun x=>AD x d) ns).toNat default).tb) ((ns.getD (AH (fun x=>AD x d) ns).toNat default).tm) ((ns.getD (AH (fun x=>AD x d) ns).toNat default).th) ((ns.getD (AH (fun x=>AD x d) ns).toNat default).td)).2.2.1) ((Ad ((ns.getD (AH (fun x=>AD x d) ns).toNat default).kind) ((ns.getD (AH (fun x=>AD x d) ns).toNat default).tb) ((ns.getD (AH (fun x=>AD x d) ns).toNat default).tm) ((ns.getD (AH (fun x=>AD x d) ns).toNat default).th) ((ns.getD (AH (fun x=>AD x d) ns).toNat default).td)).2.2.2) d.tb d.tm d.th d.td u)
  refine AC mH K7 [] fun w8 K8=>?_
  have hS:(Cv d ns)=Fh ((Ad ((ns.getD (AH (fun x=>AD x d) ns).toNat default).kind) ((ns.getD (AH (fun x=>AD x d) ns).toNat default).tb) ((ns.getD (AH (fun x=>AD x d) ns).toNat default).tm) ((ns.getD (AH (fun x=>AD x d) ns).toNat default).th) ((ns.getD (AH (fun x=>AD x d) ns).toNat default).td)).1) ((Ad ((ns.getD (AH (fun x=>AD x d) ns).toNat default).kind) ((ns.getD (AH (fun x=>AD x d) ns).toNat default).tb) ((ns.getD (AH (fun x=>AD x d) ns).toNat default).tm) ((ns.getD (AH (fun x=>AD x d) ns).toNat default).th) ((ns.getD (AH (fun x=>AD x d) ns).toNat default).td)).2.1) ((Ad ((ns.getD (AH (fun x=>AD x d) ns).toNat default).kind) ((ns.getD (AH (fun x=>AD x d) ns).toNat default).tb) ((ns.getD (AH (fun x=>AD x d) ns).toNat default).tm) ((ns.getD (AH (fun x=>AD x d) ns).toNat default).th) ((ns.getD (AH (fun x=>AD x d) ns).toNat default).td)).2.2.1) ((Ad ((ns.getD (AH (fun x=>AD x d) ns).toNat default).kind) ((ns.getD (AH (fun x=>AD x d) ns).toNat default).tb) ((ns.getD (AH (fun x=>AD x d) ns).toNat default).tm) ((ns.getD (AH (fun x=>AD x d) ns).toNat default).th) ((ns.getD (AH (fun x=>AD x d) ns).toNat default).td)).2.2.2) d.tb d.tm d.th d.td:=by unfold Cv; rw [c4] <;> rfl
  exact Aa K8 (0,0) (.int .i64 (Fh ((Ad ((ns.getD (AH (fun x=>AD x d) ns).toNat default).kind) ((ns.getD (AH (fun x=>AD x d) ns).toNat default).tb) ((ns.getD (AH (fun x=>AD x d) ns).toNat default).tm) ((ns.getD (AH (fun x=>AD x d) ns).toNat default).th) ((ns.getD (AH (fun x=>AD x d) ns).toNat default).td)).1) ((Ad ((ns.getD (AH (fun x=>AD x d) ns).toNat default).kind) ((ns.getD (AH (fun x=>AD x d) ns).toNat default).tb) ((ns.getD (AH (fun x=>AD x d) ns).toNat default).tm) ((ns.getD (AH (fun x=>AD x d) ns).toNat default).th) ((ns.getD (AH (fun x=>AD x d) ns).toNat default).td)).2.1) ((Ad ((ns.getD (AH (fun x=>AD x d) ns).toNat default).kind) ((ns.getD (AH (fun x=>AD x d) ns).toNat default).tb) ((ns.getD (AH (fun x=>AD x d) ns).toNat default).tm) ((ns.getD (AH (fun x=>AD x d) ns).toNat default).th) ((ns.getD (AH (fun x=>AD x d) ns).toNat default).td)).2.2.1) ((Ad ((ns.getD (AH (fun x=>AD x d) ns).toNat default).kind) ((ns.getD (AH (fun x=>AD x d) ns).toNat default).tb) ((ns.getD (AH (fun x=>AD x d) ns).toNat default).tm) ((ns.getD (AH (fun x=>AD x d) ns).toNat default).th) ((ns.getD (AH (fun x=>AD x d) ns).toNat default).td)).2.2.2) d.tb d.tm d.th d.td)) ⟨by rw [hS] <;> rfl,K8.B⟩
theorem FM:∀ (es:List Df) (a b c:List Df),(Bk es a b c).1.length≤a.length + es.length∧(Bk es a b c).2.1.length≤b.length + es.length∧(Bk es a b c).2.2.length≤c.length + es.length
 | [],a,b,c=>by rw [Bk]; exact ⟨Nat.le_refl _,Nat.le_refl _,Nat.le_refl _⟩
 | e :: es,a,b,c=>by
  have h0:=FM es a b c
  have h1:=FM es (a++[e]) b c
  have h2:=FM es a (b++[e]) c
  have h3:=FM es a b (c++[e])
  simp only [List.length_append,List.length_singleton] at h1 h2 h3
  rw [Bk,List.length_cons]
  cases e.kind == 1 <;> cases e.kind == 3 <;> cases e.kind == 4 <;> cases e.kind == 2 <;> cases e.kind == 5 <;> simp only [cond_true,cond_false] <;> omega
theorem Rr (ds:List Df):(AW ds).1.length≤ds.length∧(AW ds).2.1.length≤ds.length∧(AW ds).2.2.length≤ds.length:=by
 have:=FM ds [] [] []
 simpa [AW] using this
def Cm (ds:List (Df)):List (Df)→Nat→List (Int×Int)→List (Int×Int)×Int
 | [],i0,a0_0=>(a0_0,0)
 | e0 :: tl,i0,a0_0=>cond (FR (fun x=>Gq x e0) (ds.take i0)) (Cm ds tl (i0 + 1) (a0_0++[((i0:Int),8)])) (cond (e0.kind == 5) (cond (!((Cv e0 (((AW ds)).1)) == 0)) (Cm ds tl (i0 + 1) (a0_0++[((i0:Int),(Cv e0 (((AW ds)).1)))])) (Cm ds tl (i0 + 1) a0_0)) (cond (cond (e0.kind == 3) (true) (e0.kind == 4)) (cond (!(DF e0 (((AW ds)).1) (((AW ds)).2.1) (((AW ds)).2.2) == 0)) (Cm ds tl (i0 + 1) (a0_0++[((i0:Int),DF e0 (((AW ds)).1) (((AW ds)).2.1) (((AW ds)).2.2))])) (Cm ds tl (i0 + 1) a0_0)) (Cm ds tl (i0 + 1) a0_0)))
theorem OX {ds:List (Df)} {i0:Nat} {a0_0:List (Int×Int)}:Cm ds [] i0 a0_0=((a0_0,0)):=by rw [Cm]
theorem Nf {ds:List (Df)} {a0_0:List (Int×Int)} {es:List (Df)} (i0:Nat) (e0:Df) (hi:es[i0]?=some e0):Cm ds (es.drop i0) i0 a0_0=(cond (FR (fun x=>Gq x e0) (ds.take i0)) (Cm ds (es.drop (i0 + 1)) (i0 + 1) (a0_0++[((i0:Int),8)])) (cond (e0.kind == 5) (cond (!((Cv e0 (((AW ds)).1)) == 0)) (Cm ds (es.drop (i0 + 1)) (i0 + 1) (a0_0++[((i0:Int),(Cv e0 (((AW ds)).1)))])) (Cm ds (es.drop (i0 + 1)) (i0 + 1) a0_0)) (cond (cond (e0.kind == 3) (true) (e0.kind == 4)) (cond (!(DF e0 (((AW ds)).1) (((AW ds)).2.1) (((AW ds)).2.2) == 0)) (Cm ds (es.drop (i0 + 1)) (i0 + 1) (a0_0++[((i0:Int),DF e0 (((AW ds)).1) (((AW ds)).2.1) (((AW ds)).2.2))])) (Cm ds (es.drop (i0 + 1)) (i0 + 1) a0_0)) (Cm ds (es.drop (i0 + 1)) (i0 + 1) a0_0)))):=by
 have hl:i0 < es.length:=(List.getElem?_eq_some_iff.1 hi).1
 have he:es[i0]=e0:=(List.getElem?_eq_some_iff.1 hi).2
 rw [← List.getElem_cons_drop hl,Cm] <;> (try rw [he])
def Bt (p0a:List UInt8) (ds:List (Df)):List (Int×Int)×Int:=cond (!(EO p0a ds)) (([],1)) (Cm ds ds 0 ([]))
noncomputable def SU:Code:=Tryz.f18.body.getD .skip
def dm:List Item:=AB 60 ([.code SU])
def U0:List Item:=AB 60 (AF dm)
def mJ:List Item:=AB 60 (AG U0)
def dl:List Item:=AB 60 (AL U0)
def IL:List Item:=AB 60 (AF dl)
def Oo:List Item:=AB 60 (A4 IL)
def Uz:List Item:=AB (As Ae 90 (AG Oo)) (AG Oo)
def dk:List Item:=AB (As Qn 90 (AF (AF Uz))) (AF (AF Uz))
def dj:List Item:=AB 60 (AF dk)
def Uy:List Item:=AB 60 (AF dj)
def P8:List Item:=AB 60 (AG Uy)
def W0:List Item:=AB (As BK 90 (AG P8)) (AG P8)
def P7:List Item:=AB 60 (AL Uy)
def Wz:List Item:=AB 60 (AG P7)
def P6:List Item:=AB 60 (AF Wz)
def Wy:List Item:=AB (As BK 90 (AG P6)) (AG P6)
def Wx:List Item:=Ac 13 (AL P7)
def P5:List Item:=AB 60 (AO Wx)
def Ww:List Item:=AB 60 (AG P5)
def P4:List Item:=AB 60 (AF Ww)
def Wv:List Item:=AB (As BK 90 (AG P4)) (AG P4)
def jr:List Item:=AB 60 (AL P5)
def jq:List Item:=AB 60 (AL Oo)
theorem Yd (p0a:List UInt8) (p0bA:Option Addr) (ds:List (Df)) (p0bc:Nat) (w:World) (h_ds:rowsDf w p0bA ds) (hl_ds:ds.length≤4294967296) (hs:p0a.length≤4294967296) (ht:∀ d∈ds,GB d) (hcap:ds.length≤p0bc):Calls Tryz.prog 18 ([.agg ⟨[.string ⟨⟨p0a⟩⟩,.slice p0bA ds.length p0bc]⟩]:List Value).toArray w fun e w'=>∃ (rA0:Option Addr) (rc0:Nat),e=.returned (.tuple #[.slice rA0 ((((Bt p0a ds)).1).length) rc0,.int .i64 (((Bt p0a ds)).2)])∧Below w.heap.size w w'∧AY w.heap.size w' [Gh rA0 rc0 (((Bt p0a ds)).1)]:=by
 refine Ab (fn:=Tryz.f18) (c:=SU) (n:=63) ?_
 have K1:=Wk.start w
 refine Bv dm [⟨w.heap.size,0,[.string ⟨⟨p0a⟩⟩,.slice p0bA ds.length p0bc],38,true⟩] K1 [(0,0)] fun w1 K2=>?_
 refine Ak K2 (args:=[.agg ⟨[.string ⟨⟨p0a⟩⟩,.slice p0bA ds.length p0bc]⟩]) (I4 p0a ds _ w1 hs hl_ds ht (h_ds.below K2.B).agr) fun w2 K3=>?_
 refine AC U0 K3 [] fun w3 K4=>?_
 refine AK (!(EO p0a ds)) (fun c4=>?_) (fun c4=>?_)
 ·have K5:=K4.addNil 70 2 (fun e r=>r=eL e)
  refine AC mJ K5 [] fun w5 K6=>?_
  have hS:(Bt p0a ds)=([],1):=by unfold Bt; rw [c4] <;> rfl
  exact Aa K6 (0,0) (.tuple #[.slice none 0 0,.int .i64 1]) ⟨none,0,by rw [hS] <;> rfl,K6.B,by rw [hS]; exact K6.own0 [0] rfl (by decide)⟩
 ·refine AC dl K4 [(0,0)] fun w6 K7=>?_
  have Kf:=(K7.pickL (L':=[]++[]) [] rfl (by decide)).front
  refine BX (args:=[.agg ⟨[.string ⟨⟨p0a⟩⟩,.slice p0bA ds.length p0bc]⟩]) (Vj _ p0a p0bA ds p0bc w w6 h_ds (by first | assumption | omega | (simp <;> omega)) K7.B Kf) fun en w8 hh=>?_
  obtain ⟨A7_0,c7_0,A7_1,c7_1,A7_2,c7_2,rfl,b8,Hn⟩:=hh
  refine ⟨_,rfl,?_⟩
  have K8:=Wk.unfront b8 Hn
  have hdl:=Rr ds
  have hd1:(AW ds).1.length≤4294967296:=by omega
  have hd2:(AW ds).2.1.length≤4294967296:=by omega
  have hd3:(AW ds).2.2.length≤4294967296:=by omega
  refine AC IL K8 [(0,1)] fun w9 K9=>?_
  have K10:Wk w w9 [⟨w.heap.size,0,[.string ⟨⟨p0a⟩⟩,.slice p0bA ds.length p0bc],38,true⟩] [(CY w A7_0 c7_0 (((AW ds)).1)),(CY w A7_1 c7_1 (((AW ds)).2.1)),(CY w A7_2 c7_2 (((AW ds)).2.2))] []:=K9.pk [0] [0,1,2]
  have K11:=K10.addNil 70 2 (fun e r=>r=eL e)
  have hv0:(Bt p0a ds)=Cm ds ds 0 ([]):=by unfold Bt; rw [c4] <;> rfl
  refine Ax [(1,.pointer (some ⟨w.heap.size,0,none⟩)),(2,.slice none 0 0),(3,.int .i64 0),(4,.slice A7_0 ((((AW ds)).1).length) c7_0),(5,.slice A7_1 ((((AW ds)).2.1).length) c7_1),(6,.slice A7_2 ((((AW ds)).2.2).length) c7_2),(7,.slice none 0 0),(21,.slice p0bA ds.length p0bc),(22,.int .i64 ((ds.length:Int))),(23,.int .i64 (((0:Nat):Int)))] fun E10=>?_
  refine Bj (by kernel_rfl) (fun E wx0=>∃ (i0:Nat) (a0_0:List (Int×Int)) (a0_0A:Option Addr) (a0_0c:Nat) (E0:Nat→Value),i0≤ds.length∧E=CX E0 [(1,.pointer (some ⟨w.heap.size,0,none⟩)),(2,.slice none 0 0),(3,.int .i64 0),(4,.slice A7_0 ((((AW ds)).1).length) c7_0),(5,.slice A7_1 ((((AW ds)).2.1).length) c7_1),(6,.slice A7_2 ((((AW ds)).2.2).length) c7_2),(7,.slice a0_0A a0_0.length a0_0c),(21,.slice p0bA ds.length p0bc),(22,.int .i64 ((ds.length:Int))),(23,.int .i64 ((i0:Int)))]∧(Bt p0a ds)=Cm ds (List.drop i0 ds) i0 a0_0∧a0_0.length≤1 * i0 + 0∧Wk w wx0 [⟨w.heap.size,0,[.string ⟨⟨p0a⟩⟩,.slice p0bA ds.length p0bc],38,true⟩] [(CY w A7_0 c7_0 (((AW ds)).1)),(CY w A7_1 c7_1 (((AW ds)).2.1)),(CY w A7_2 c7_2 (((AW ds)).2.2)),(Gh a0_0A a0_0c a0_0)] []) (fun E _=>ds.length - AQ (E 23)) ⟨0,([]),none,0,E10,Nat.zero_le _,rfl,hv0,by simp,K11⟩ ?_
  clear hv0
  rintro E wx0 ⟨i0,a0_0,a0_0A,a0_0c,E0,hi0,rfl,hv0,hb0_0,K12⟩ hagain0
  refine AC Oo K12 [] fun w12 K13=>?_
  refine AK (decide ((i0:Int) < (ds.length:Int))) (fun c13=>?_) (fun c13=>?_)
  ·have hlt0:i0 < ds.length:=by have:=of_decide_eq_true c13; omega
   obtain ⟨e0,he0⟩:∃ e,ds[i0]?=some e:=⟨_,List.getElem?_eq_getElem hlt0⟩
   rw [Nf i0 e0 he0] at hv0
   obtain ⟨gB0,fB0,rfl,hB0g,hB0a⟩:=h_ds.all (by omega)
   obtain ⟨aE0_0,cE0_0,aE0_1,cE0_1,hr0_,hE0_0,hE0_1⟩:=hB0a i0 _ he0
   refine BA Ae Uz K13 [] fun w14 K14=>?_
   refine BB (g:=gB0) (off:=fB0) (cap:=p0bc) (sz:=21) (k:=i0) (len:=ds.length) (some 26) hlt0 Tryz.underlying36 ?_
   refine Bc 34 gB0 (fB0 + i0 * 21) [.int .i64 e0.kind,.string ⟨⟨e0.name⟩⟩,.bool (e0.tb),.int .i64 e0.tm,.int .i64 e0.th,.int .i64 e0.td,.int .i64 e0.frm,.slice aE0_0 e0.ents.length cE0_0,.int .i64 e0.body.op,.int .i64 e0.body.num,.int .i64 e0.body.den,.int .i64 e0.body.mu,.int .i64 e0.body.hu,.int .i64 e0.body.du,.string ⟨⟨e0.body.nm⟩⟩,.int .i64 e0.body.cnt,.int .i64 e0.body.md,.slice aE0_1 e0.body.ks.length cE0_1,.int .i64 e0.mode,.int .i64 e0.num,.int .i64 e0.den] (some 27) (Af hr0_ hB0g K14.B) ?_
   refine CA Qn dk [⟨w.heap.size,0,[.string ⟨⟨p0a⟩⟩,.slice (some ⟨gB0,fB0,none⟩) ds.length p0bc],38,true⟩,⟨w14.heap.size,0,(Be e0 aE0_0 cE0_0 aE0_1 cE0_1),34,true⟩] K14 [(1,0),(0,1)] fun w15 K15=>?_
   refine F5 (au (g:=gB0) (off:=fB0) (len:=ds.length) (cap:=p0bc) (t:=36) (x:=.tmp 29) (h:=.tmp 30) (by kernel_rfl) Tryz.underlying36 (by decide) (by kernel_rfl) (by kernel_rfl) (i:=i0) (by omega)) ?_
   refine AC dj K15 [] fun w16 K16=>?_
   refine Ak K16 (args:=[.slice (some ⟨gB0,fB0,none⟩) i0 p0bc,.func (.func 46) #[] ⟨[.pointer (some ⟨w14.heap.size,0,none⟩)]⟩]) (My (fun x=>Gq x e0) _ (ds.take i0) _ 46 [.pointer (some ⟨w14.heap.size,0,none⟩)] w16 ((h_ds.take _).below K16.B) (by simp <;> omega) (by simp <;> omega) (by kernel_rfl) (fun u2 b2 x A1 c1 A2 c2 g1 g2=>Rv x A1 c1 A2 c2 (w14.heap.size) e0 _ _ _ _ u2 g1 g2 (Nat.lt_of_lt_of_le (K16.ent (e:=⟨w14.heap.size,0,(Be e0 aE0_0 cE0_0 aE0_1 cE0_1),34,true⟩) 1 (by kernel_rfl)).1 b2.size) (Af (Hf (K16.ent (e:=⟨w14.heap.size,0,(Be e0 aE0_0 cE0_0 aE0_1 cE0_1),34,true⟩) 1 (by kernel_rfl))) (K16.ent (e:=⟨w14.heap.size,0,(Be e0 aE0_0 cE0_0 aE0_1 cE0_1),34,true⟩) 1 (by kernel_rfl)).1 b2) (hE0_0.below (K16.B.trans (b2.mono K16.B.size))) (hE0_1.below (K16.B.trans (b2.mono K16.B.size))))) fun w17 K17=>?_
   refine AC Uy K17 [] fun w18 K18=>?_
   refine AK (FR (fun x=>Gq x e0) (ds.take i0)) (fun c19=>?_) (fun c19=>?_)
   ·refine AC P8 K18 [] fun w20 K19=>?_
    refine AK true (fun _=>?_) (fun h=>nomatch h)
    refine CA BK W0 [⟨w.heap.size,0,[.string ⟨⟨p0a⟩⟩,.slice (some ⟨gB0,fB0,none⟩) ds.length p0bc],38,true⟩,⟨w14.heap.size,0,(Be e0 aE0_0 cE0_0 aE0_1 cE0_1),34,true⟩,⟨w20.heap.size,0,[.int .i64 ((i0:Int)),.int .i64 8],70,true⟩] K19 [] fun w21 K20=>?_
    refine CF K20.H (K20.ix 3) (K20.at 3 rfl) (((i0:Int),8)) [.int .i64 ((i0:Int)),.int .i64 8] rfl (w20.heap.size) (K20.ent 2 (by kernel_rfl)) (Ck W0) (by kernel_rfl) (.tmp 55) (.tmp 59) 66 (by kernel_rfl) (by kernel_rfl) (by kernel_rfl) (by decide) (by kernel_rfl) (by kernel_rfl) rfl rfl (by ((try simp only [maxLen,List.length_append,List.length_cons,List.length_nil,List.length_singleton]) <;> omega)) fun A22 c22 w22 Hn b22=>?_
    have K21:=K20.put 3 (by simp) b22 Hn
    refine AC (Ai IL) K21 [] fun w23 K22=>?_
    refine Ax [(1,.pointer (some ⟨w.heap.size,0,none⟩)),(2,.slice none 0 0),(3,.int .i64 0),(4,.slice A7_0 ((((AW ds)).1).length) c7_0),(5,.slice A7_1 ((((AW ds)).2.1).length) c7_1),(6,.slice A7_2 ((((AW ds)).2.2).length) c7_2),(7,.slice A22 ((a0_0++[((i0:Int),8)]).length) c22),(21,.slice (some ⟨gB0,fB0,none⟩) ds.length p0bc),(22,.int .i64 ((ds.length:Int))),(23,.int .i64 (IntKind.i64.wrap ((i0:Int) + 1)))] fun E24=>?_
    have K23:Wk w w23 [⟨w.heap.size,0,[.string ⟨⟨p0a⟩⟩,.slice (some ⟨gB0,fB0,none⟩) ds.length p0bc],38,true⟩] [(CY w A7_0 c7_0 (((AW ds)).1)),(CY w A7_1 c7_1 (((AW ds)).2.1)),(CY w A7_2 c7_2 (((AW ds)).2.2)),(Gh A22 c22 (a0_0++[((i0:Int),8)]))] []:=K22.pk [0] [0,1,2,3]
    rw [Bf i0 (by omega)]
    refine hagain0 _ _ ⟨i0 + 1,(a0_0++[((i0:Int),8)]),A22,c22,E24,hlt0,rfl,by rw [hv0,c19] <;> rfl,by ((try simp only [maxLen,List.length_append,List.length_cons,List.length_nil,List.length_singleton]) <;> omega),K23⟩ ?_
    show ds.length - AQ (.int .i64 ((i0 + 1:Nat):Int)) < ds.length - AQ (.int .i64 (i0:Int))
    simp only [AQ]
    omega
   ·refine AC P7 K18 [(1,0)] fun w25 K24=>?_
    refine AK (e0.kind == 5) (fun c26=>?_) (fun c26=>?_)
    ·refine AC Wz K24 [(1,0)] fun w27 K25=>?_
     refine BX (OW e0 aE0_0 cE0_0 aE0_1 cE0_1 A7_0 (((AW ds)).1) c7_0 w27 (hE0_0.below K25.B) (hE0_1.below K25.B) (K25.H.rowsDf K25.B (K25.ix 0) (K25.at 0 rfl)) (by first | assumption | omega | (simp <;> omega))) fun en w29 hh=>?_
     obtain ⟨rfl,b29⟩:=hh
     refine ⟨_,rfl,?_⟩
     have K26:=K25.below b29
     refine AC P6 K26 [] fun w30 K27=>?_
     refine AK (!((Cv e0 (((AW ds)).1)) == 0)) (fun c31=>?_) (fun c31=>?_)
     ·refine CA BK Wy [⟨w.heap.size,0,[.string ⟨⟨p0a⟩⟩,.slice (some ⟨gB0,fB0,none⟩) ds.length p0bc],38,true⟩,⟨w14.heap.size,0,(Be e0 aE0_0 cE0_0 aE0_1 cE0_1),34,true⟩,⟨w30.heap.size,0,[.int .i64 ((i0:Int)),.int .i64 ((Cv e0 (((AW ds)).1)))],70,true⟩] K27 [] fun w32 K28=>?_
      refine CF K28.H (K28.ix 3) (K28.at 3 rfl) (((i0:Int),(Cv e0 (((AW ds)).1)))) [.int .i64 ((i0:Int)),.int .i64 ((Cv e0 (((AW ds)).1)))] rfl (w30.heap.size) (K28.ent 2 (by kernel_rfl)) (Ck Wy) (by kernel_rfl) (.tmp 55) (.tmp 59) 66 (by kernel_rfl) (by kernel_rfl) (by kernel_rfl) (by decide) (by kernel_rfl) (by kernel_rfl) rfl rfl (by ((try simp only [maxLen,List.length_append,List.length_cons,List.length_nil,List.length_singleton]) <;> omega)) fun A33 c33 w33 Hn b33=>?_
      have K29:=K28.put 3 (by simp) b33 Hn
      refine AC (Ai IL) K29 [] fun w34 K30=>?_
      refine Ax [(1,.pointer (some ⟨w.heap.size,0,none⟩)),(2,.slice none 0 0),(3,.int .i64 0),(4,.slice A7_0 ((((AW ds)).1).length) c7_0),(5,.slice A7_1 ((((AW ds)).2.1).length) c7_1),(6,.slice A7_2 ((((AW ds)).2.2).length) c7_2),(7,.slice A33 ((a0_0++[((i0:Int),(Cv e0 (((AW ds)).1)))]).length) c33),(21,.slice (some ⟨gB0,fB0,none⟩) ds.length p0bc),(22,.int .i64 ((ds.length:Int))),(23,.int .i64 (IntKind.i64.wrap ((i0:Int) + 1)))] fun E35=>?_
      have K31:Wk w w34 [⟨w.heap.size,0,[.string ⟨⟨p0a⟩⟩,.slice (some ⟨gB0,fB0,none⟩) ds.length p0bc],38,true⟩] [(CY w A7_0 c7_0 (((AW ds)).1)),(CY w A7_1 c7_1 (((AW ds)).2.1)),(CY w A7_2 c7_2 (((AW ds)).2.2)),(Gh A33 c33 (a0_0++[((i0:Int),(Cv e0 (((AW ds)).1)))]))] []:=K30.pk [0] [0,1,2,3]
      rw [Bf i0 (by omega)]
      refine hagain0 _ _ ⟨i0 + 1,(a0_0++[((i0:Int),(Cv e0 (((AW ds)).1)))]),A33,c33,E35,hlt0,rfl,by rw [hv0,c19,c26,c31] <;> rfl,by ((try simp only [maxLen,List.length_append,List.length_cons,List.length_nil,List.length_singleton]) <;> omega),K31⟩ ?_
      show ds.length - AQ (.int .i64 ((i0 + 1:Nat):Int)) < ds.length - AQ (.int .i64 (i0:Int))
      simp only [AQ]
      omega
     ·refine AC (Ai IL) K27 [] fun w36 K32=>?_
      refine Ax [(1,.pointer (some ⟨w.heap.size,0,none⟩)),(2,.slice none 0 0),(3,.int .i64 0),(4,.slice A7_0 ((((AW ds)).1).length) c7_0),(5,.slice A7_1 ((((AW ds)).2.1).length) c7_1),(6,.slice A7_2 ((((AW ds)).2.2).length) c7_2),(7,.slice a0_0A a0_0.length a0_0c),(21,.slice (some ⟨gB0,fB0,none⟩) ds.length p0bc),(22,.int .i64 ((ds.length:Int))),(23,.int .i64 (IntKind.i64.wrap ((i0:Int) + 1)))] fun E37=>?_
      have K33:Wk w w36 [⟨w.heap.size,0,[.string ⟨⟨p0a⟩⟩,.slice (some ⟨gB0,fB0,none⟩) ds.length p0bc],38,true⟩] [(CY w A7_0 c7_0 (((AW ds)).1)),(CY w A7_1 c7_1 (((AW ds)).2.1)),(CY w A7_2 c7_2 (((AW ds)).2.2)),(Gh a0_0A a0_0c a0_0)] []:=K32.pk [0] [0,1,2,3]
      rw [Bf i0 (by omega)]
      refine hagain0 _ _ ⟨i0 + 1,a0_0,a0_0A,a0_0c,E37,hlt0,rfl,by rw [hv0,c19,c26,c31] <;> rfl,by ((try simp only [maxLen,List.length_append,List.length_cons,List.length_nil,List.length_singleton]) <;> omega),K33⟩ ?_
      show ds.length - AQ (.int .i64 ((i0 + 1:Nat):Int)) < ds.length - AQ (.int .i64 (i0:Int))
      simp only [AQ]
      omega
    ·refine Ag 13 Wx K24 [] fun w38 K34=>?_
     refine Aj K34 [(1,1,0),(5,1,0)] [] K34.G (fun sp hsp=>by cases hsp) fun w39 E39 K35=>?_
     refine AC P5 K35 [] fun w40 K36=>?_
     refine AK (cond (e0.kind == 3) (true) (e0.kind == 4)) (fun c41=>?_) (fun c41=>?_)
     ·refine AC Ww K36 [(1,0)] fun w42 K37=>?_
      refine Ak K37 (args:=[.agg ⟨[.int .i64 e0.kind,.string ⟨⟨e0.name⟩⟩,.bool (e0.tb),.int .i64 e0.tm,.int .i64 e0.th,.int .i64 e0.td,.int .i64 e0.frm,.slice aE0_0 e0.ents.length cE0_0,.int .i64 e0.body.op,.int .i64 e0.body.num,.int .i64 e0.body.den,.int .i64 e0.body.mu,.int .i64 e0.body.hu,.int .i64 e0.body.du,.string ⟨⟨e0.body.nm⟩⟩,.int .i64 e0.body.cnt,.int .i64 e0.body.md,.slice aE0_1 e0.body.ks.length cE0_1,.int .i64 e0.mode,.int .i64 e0.num,.int .i64 e0.den]⟩,.slice A7_0 ((((AW ds)).1).length) c7_0,.slice A7_1 ((((AW ds)).2.1).length) c7_1,.slice A7_2 ((((AW ds)).2.2).length) c7_2]) (OY e0 aE0_0 cE0_0 aE0_1 cE0_1 A7_0 (((AW ds)).1) c7_0 A7_1 (((AW ds)).2.1) c7_1 A7_2 (((AW ds)).2.2) c7_2 w42 (hE0_0.below K37.B) (hE0_1.below K37.B) (K37.H.rowsDf K37.B (K37.ix 0) (K37.at 0 rfl)) (by first | assumption | omega | (simp <;> omega)) (K37.H.rowsDf K37.B (K37.ix 1) (K37.at 1 rfl)) (by first | assumption | omega | (simp <;> omega)) (K37.H.rowsDf K37.B (K37.ix 2) (K37.at 2 rfl)) (by first | assumption | omega | (simp <;> omega)) (ht _ (List.mem_of_getElem? he0)).1) fun w43 K38=>?_
      refine AC P4 K38 [] fun w44 K39=>?_
      refine AK (!(DF e0 (((AW ds)).1) (((AW ds)).2.1) (((AW ds)).2.2) == 0)) (fun c45=>?_) (fun c45=>?_)
      ·refine CA BK Wv [⟨w.heap.size,0,[.string ⟨⟨p0a⟩⟩,.slice (some ⟨gB0,fB0,none⟩) ds.length p0bc],38,true⟩,⟨w14.heap.size,0,(Be e0 aE0_0 cE0_0 aE0_1 cE0_1),34,true⟩,⟨w44.heap.size,0,[.int .i64 ((i0:Int)),.int .i64 (DF e0 (((AW ds)).1) (((AW ds)).2.1) (((AW ds)).2.2))],70,true⟩] K39 [] fun w46 K40=>?_
       refine CF K40.H (K40.ix 3) (K40.at 3 rfl) (((i0:Int),DF e0 (((AW ds)).1) (((AW ds)).2.1) (((AW ds)).2.2))) [.int .i64 ((i0:Int)),.int .i64 (DF e0 (((AW ds)).1) (((AW ds)).2.1) (((AW ds)).2.2))] rfl (w44.heap.size) (K40.ent 2 (by kernel_rfl)) (Ck Wv) (by kernel_rfl) (.tmp 55) (.tmp 59) 66 (by kernel_rfl) (by kernel_rfl) (by kernel_rfl) (by decide) (by kernel_rfl) (by kernel_rfl) rfl rfl (by ((try simp only [maxLen,List.length_append,List.length_cons,List.length_nil,List.length_singleton]) <;> omega)) fun A47 c47 w47 Hn b47=>?_
       have K41:=K40.put 3 (by simp) b47 Hn
       refine AC (Ai IL) K41 [] fun w48 K42=>?_
       refine Ax [(1,.pointer (some ⟨w.heap.size,0,none⟩)),(2,.slice none 0 0),(3,.int .i64 0),(4,.slice A7_0 ((((AW ds)).1).length) c7_0),(5,.slice A7_1 ((((AW ds)).2.1).length) c7_1),(6,.slice A7_2 ((((AW ds)).2.2).length) c7_2),(7,.slice A47 ((a0_0++[((i0:Int),DF e0 (((AW ds)).1) (((AW ds)).2.1) (((AW ds)).2.2))]).length) c47),(21,.slice (some ⟨gB0,fB0,none⟩) ds.length p0bc),(22,.int .i64 ((ds.length:Int))),(23,.int .i64 (IntKind.i64.wrap ((i0:Int) + 1)))] fun E49=>?_
       have K43:Wk w w48 [⟨w.heap.size,0,[.string ⟨⟨p0a⟩⟩,.slice (some ⟨gB0,fB0,none⟩) ds.length p0bc],38,true⟩] [(CY w A7_0 c7_0 (((AW ds)).1)),(CY w A7_1 c7_1 (((AW ds)).2.1)),(CY w A7_2 c7_2 (((AW ds)).2.2)),(Gh A47 c47 (a0_0++[((i0:Int),DF e0 (((AW ds)).1) (((AW ds)).2.1) (((AW ds)).2.2))]))] []:=K42.pk [0] [0,1,2,3]
       rw [Bf i0 (by omega)]
       refine hagain0 _ _ ⟨i0 + 1,(a0_0++[((i0:Int),DF e0 (((AW ds)).1) (((AW ds)).2.1) (((AW ds)).2.2))]),A47,c47,E49,hlt0,rfl,by rw [hv0,c19,c26,c41,c45] <;> rfl,by ((try simp only [maxLen,List.length_append,List.length_cons,List.length_nil,List.length_singleton]) <;> omega),K43⟩ ?_
       show ds.length - AQ (.int .i64 ((i0 + 1:Nat):Int)) < ds.length - AQ (.int .i64 (i0:Int))
       simp only [AQ]
       omega
      ·refine AC (Ai IL) K39 [] fun w50 K44=>?_
       refine Ax [(1,.pointer (some ⟨w.heap.size,0,none⟩)),(2,.slice none 0 0),(3,.int .i64 0),(4,.slice A7_0 ((((AW ds)).1).length) c7_0),(5,.slice A7_1 ((((AW ds)).2.1).length) c7_1),(6,.slice A7_2 ((((AW ds)).2.2).length) c7_2),(7,.slice a0_0A a0_0.length a0_0c),(21,.slice (some ⟨gB0,fB0,none⟩) ds.length p0bc),(22,.int .i64 ((ds.length:Int))),(23,.int .i64 (IntKind.i64.wrap ((i0:Int) + 1)))] fun E51=>?_
       have K45:Wk w w50 [⟨w.heap.size,0,[.string ⟨⟨p0a⟩⟩,.slice (some ⟨gB0,fB0,none⟩) ds.length p0bc],38,true⟩] [(CY w A7_0 c7_0 (((AW ds)).1)),(CY w A7_1 c7_1 (((AW ds)).2.1)),(CY w A7_2 c7_2 (((AW ds)).2.2)),(Gh a0_0A a0_0c a0_0)] []:=K44.pk [0] [0,1,2,3]
       rw [Bf i0 (by omega)]
       refine hagain0 _ _ ⟨i0 + 1,a0_0,a0_0A,a0_0c,E51,hlt0,rfl,by rw [hv0,c19,c26,c41,c45] <;> rfl,by ((try simp only [maxLen,List.length_append,List.length_cons,List.length_nil,List.length_singleton]) <;> omega),K45⟩ ?_
       show ds.length - AQ (.int .i64 ((i0 + 1:Nat):Int)) < ds.length - AQ (.int .i64 (i0:Int))
       simp only [AQ]
       omega
     ·refine AC jr K36 [] fun w52 K46=>?_
      refine AK false (fun h=>nomatch h) (fun _=>?_)
      refine AC (Ai IL) K46 [] fun w53 K47=>?_
      refine Ax [(1,.pointer (some ⟨w.heap.size,0,none⟩)),(2,.slice none 0 0),(3,.int .i64 0),(4,.slice A7_0 ((((AW ds)).1).length) c7_0),(5,.slice A7_1 ((((AW ds)).2.1).length) c7_1),(6,.slice A7_2 ((((AW ds)).2.2).length) c7_2),(7,.slice a0_0A a0_0.length a0_0c),(21,.slice (some ⟨gB0,fB0,none⟩) ds.length p0bc),(22,.int .i64 ((ds.length:Int))),(23,.int .i64 (IntKind.i64.wrap ((i0:Int) + 1)))] fun E54=>?_
      have K48:Wk w w53 [⟨w.heap.size,0,[.string ⟨⟨p0a⟩⟩,.slice (some ⟨gB0,fB0,none⟩) ds.length p0bc],38,true⟩] [(CY w A7_0 c7_0 (((AW ds)).1)),(CY w A7_1 c7_1 (((AW ds)).2.1)),(CY w A7_2 c7_2 (((AW ds)).2.2)),(Gh a0_0A a0_0c a0_0)] []:=K47.pk [0] [0,1,2,3]
      rw [Bf i0 (by omega)]
      refine hagain0 _ _ ⟨i0 + 1,a0_0,a0_0A,a0_0c,E54,hlt0,rfl,by rw [hv0,c19,c26,c41] <;> rfl,by ((try simp only [maxLen,List.length_append,List.length_cons,List.length_nil,List.length_singleton]) <;> omega),K48⟩ ?_
      show ds.length - AQ (.int .i64 ((i0 + 1:Nat):Int)) < ds.length - AQ (.int .i64 (i0:Int))
      simp only [AQ]
      omega
  ·have hie0:i0=ds.length:=by have:=of_decide_eq_false c13; omega
   rw [hie0,List.drop_length,OX] at hv0
   refine AC jq K13 [] fun w55 K49=>?_
   have hS:(Bt p0a ds)=(a0_0,0):=by rw [hv0] <;> rfl
   exact Aa K49 (0,0) (.tuple #[.slice a0_0A a0_0.length a0_0c,.int .i64 0]) ⟨a0_0A,a0_0c,by rw [hS] <;> rfl,K49.B,by rw [hS]; exact K49.own0 [3] rfl (by decide)⟩
end
end Go.Proofs.YtmcpjkcggfmcmaaGreatDoor

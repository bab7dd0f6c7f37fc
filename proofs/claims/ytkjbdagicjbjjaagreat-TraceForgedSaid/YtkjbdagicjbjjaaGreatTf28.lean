/-
  Part 28 of a proof: contracts of functions.
-/
import Derived.Test.YtkjbdagicjbjjaaGreatTf27
set_option linter.all false
namespace Go.Proofs.YtkjbdagicjbjjaaGreat
noncomputable section
open Go.RowKit
set_option maxRecDepth 100000
set_option maxHeartbeats 1000000
theorem KW {F:Nat→Bool}:∀ (es:List Nat) (i:Nat) (a:Int),CS F es i a < (i + es.length:Nat)∧(CS F es i a=-1∨0≤CS F es i a)
 | [],i,a=>by rw [CS]; exact ⟨by omega,.inl rfl⟩
 | e :: es,i,a=>by
  rw [CS,List.length_cons]
  cases F e
  ·show CS F es (i + 1) a < _∧_
   have:=KW (F:=F) es (i + 1) a
   exact ⟨by have:=this.1; omega,this.2⟩
  ·exact ⟨by show (i:Int) < _; omega,.inr (by show (0:Int)≤i; omega)⟩
theorem Jw {F:Nat→Bool} {ds:List Nat} (h:decide (CM F ds < 0)=false):CM F ds=((CM F ds).toNat:Int)∧(CM F ds).toNat < ds.length:=by
 have b:=of_decide_eq_false h
 have a:CM F ds < (0 + ds.length:Nat):=(KW (F:=F) ds 0 0).1
 omega
theorem eO {α β:Type} [DecidableEq α] (S:BT α β) {ops:Array Oper} {Q:Exit→Act→World→Prop} {md:Region.Mode} {n:Nat} {E:Nat→Value} {b:Nat} {L:List Th} {w:World} {c:Array Bool} {fuel j:Nat} (H:Ac b w L) (i:Nat) {g:Nat} {m:List (α×β)} (hi:L[i]?=some (S.th g m)) (a:α) (v:β) (ha:S.ka a) (hv:S.ea v)
  (o:Oper) (hr:Region.ready md ops c=[j]) (h:ops[j]?=some o) (k:o.guard=none) {t:TypeId} {x y z:Operand} (ho:o.op=.mapUpdate t x y z) (ht:t=S.t) (hx:Ax n E x=.map (some g)) (l:Ax n E y=S.kv a) (hz:Ax n E z=S.ev v) (hm:m.length < 100000000000)
  (p:∀ w',Ac b w' (L.set i (S.th g ((a,v) :: m)))→Below b w w'→wpAny Tryz.prog md ops Q fuel (c.setIfInBounds j true) (Fr n (Aq E o.dst undef)) w'):wpAny Tryz.prog md ops Q (fuel + 1) c (Fr n E) w:=by
 subst ht
 obtain ⟨w',r,h2,d⟩:=S.store (H.all i _ hi) a v ha hv (by unfold maxLen; omega)
 have hl:=(H.lo i _ hi g rfl)
 have f:(execOp (Ax n E) o).run Tryz.prog w=.ok .skip w':=by
  unfold execOp
  simp only [ho,hx,l,hz]
  rw [Sem.run_bind,r]
  rfl
 refine LS o hr h k f (p w' (H.set i hi d.size h2 (fun q e=>?_) (fun q e hf=>d.block q e fun he=>hf (Option.some.inj he))) ⟨d.os,d.tape,d.output,d.size,fun q e=>d.block q (Nat.lt_of_lt_of_le e H.base) fun he=>?_⟩)
 ·obtain rfl:q=g:=e
  exact ⟨World.ownsMap.lt h2.1,.inl rfl⟩
 ·have:=Option.some.inj he
  omega
def GP (nodes:List Nat) (ns:List (Nat×List Nat)):Nat→List Nat→List (Nat×Bool)→List Nat×Int
 | 0,r,_=>(r,0)
 | k + 1,r,ml=>cond (decide ((r.length:Int) < (nodes.length:Int))) (cond (decide (CM (De ml ns) nodes < 0)) ([],11) (GP nodes ns k (r++[nodes.getD (CM (De ml ns) nodes).toNat default]) ((nodes.getD (CM (De ml ns) nodes).toNat default,true) :: ml))) (r,0)
def GO (nodes:List Nat) (ns:List (Nat×List Nat)):List Nat×Int:=GP nodes ns (nodes.length + 1) [] []
def dk:Value→Nat
 | .slice _ n _=>n
 | _=>0
noncomputable def LQ:Code:=Tryz.f53.body.getD .skip
def Sh:=AA (Ak EA 90 ([.code LQ])) ([.code LQ])
def Sg:=AA 60 (AC Sh)
def cL:=AA 60 (Ao Sg)
def cK:=AA 60 (AD cL)
def Sf:=AA 60 (AC cK)
def NI:=Ai 7 (AF Sf)
def Qi:Array Oper:=(FD NI).getD #[]
def tg:Wr:=[(20,0),(22,2),(23,3),(24,4),(25,5)]
def PW:=AA (Ak Aa 90 (AL NI)) (AL NI)
def cJ:=AA (Ak BS 90 (AC (AC PW))) (AC (AC PW))
theorem js (q:Option Addr) (nodes:List Nat) (d m:Nat) (xs:List ML) (w:World) (b0:rowsNat w q nodes) (hl:nodes.length≤4294967296) (hn:BT.at IW m (xs.map KX) w) (hf:(G6 xs).P w) (j0:∀ j∈nodes,j≤4294967296)
  (c0:∀ i,(∀ j∈(AO (xs.map IY) i).getD [],j≤4294967296)∧((AO (xs.map IY) i).getD []).length≤4294967296) :
  Calls Tryz.prog 53 ([.agg ⟨[.slice q nodes.length d,.map (some m)]⟩]:List Value).toArray w fun e w'=>∃ (c1:Option Addr) (b1:Nat),e=.returned (.tuple #[.slice c1 (GO nodes (xs.map IY)).1.length b1,AI (GO nodes (xs.map IY)).2])∧Below w.heap.size w w'∧Ac w.heap.size w' [BN c1 b1 (GO nodes (xs.map IY)).1]:=by
 refine Hs (args:=[.agg ⟨[.slice q nodes.length d,.map (some m)]⟩]) (fn:=Tryz.f53) (c:=LQ) (n:=35) ?_
 have B:Below w.heap.size w w:=Below.refl _ _
 have H:Ac w.heap.size w (List.map Th.ent []++[]):=Ac.nil (Nat.le_refl _)
 generalize hns:xs.map IY=ns at c0
 refine CY (Ak EA 90 ([.code LQ])) ([.code LQ]) w.heap.size [] [] Sh [(1,BY (w.heap.size)),(4,.slice none 0 0)] (w.heap.size + 1) [⟨w.heap.size,0,[.slice q nodes.length d,.map (some m)],131,true⟩] (H.lies (M:=[])) fun a E1 r1 l1=>?_
 replace B:=B.trans (H.keptB (M:=[]) l1)
 replace H:Ac w.heap.size a (List.map Th.ent [⟨w.heap.size,0,[.slice q nodes.length d,.map (some m)],131,true⟩]++[]):=H.run (M:=[]) (M':=[⟨w.heap.size,0,[.slice q nodes.length d,.map (some m)],131,true⟩]) r1 l1 rfl
 refine Ey D0 H (Br Sh) (by kernel_rfl) (t:=76) (by kernel_rfl) fun f Z2 Hn b2=>?_
 replace H:Ac w.heap.size f (List.map Th.ent [⟨w.heap.size,0,[.slice q nodes.length d,.map (some m)],131,true⟩]++[BT.th D0 a.heap.size []]):=Hn
 clear Hn
 replace B:=B.trans b2
 refine CY 60 (AC Sh) f.heap.size [⟨w.heap.size,0,[.slice q nodes.length d,.map (some m)],131,true⟩] [(1,0)] Sg [(1,BY (w.heap.size)),(4,.slice none 0 0),(5,BY (f.heap.size))] (f.heap.size + 1) [⟨w.heap.size,0,[.slice q nodes.length d,.map (some m)],131,true⟩,⟨f.heap.size,0,[.map (some a.heap.size)],76,true⟩] (H.lies (M:=[⟨w.heap.size,0,[.slice q nodes.length d,.map (some m)],131,true⟩])) fun w3 E3 q1 k1=>?_
 replace B:=B.trans (H.keptB (M:=[⟨w.heap.size,0,[.slice q nodes.length d,.map (some m)],131,true⟩]) k1)
 replace H:Ac w.heap.size w3 (List.map Th.ent [⟨w.heap.size,0,[.slice q nodes.length d,.map (some m)],131,true⟩,⟨f.heap.size,0,[.map (some a.heap.size)],76,true⟩]++[BT.th D0 a.heap.size []]):=H.run (M:=[⟨w.heap.size,0,[.slice q nodes.length d,.map (some m)],131,true⟩]) (M':=[⟨w.heap.size,0,[.slice q nodes.length d,.map (some m)],131,true⟩,⟨f.heap.size,0,[.map (some a.heap.size)],76,true⟩]) q1 k1 rfl
 replace H:Ac w.heap.size w3 (List.map Th.ent [⟨w.heap.size,0,[.slice q nodes.length d,.map (some m)],131,true⟩,⟨f.heap.size,0,[.map (some a.heap.size)],76,true⟩]++[BT.th D0 a.heap.size [],BN none 0 []]):=H.addNil 3 1 (fun e r=>r=FV e)
 refine Bd (by kernel_rfl) (fun E wx=>∃ (r:List Nat) (s:List (Nat×Bool)) (A:Option Addr) (c:Nat) (E0:Nat→Value),E=BC E0 [(1,BY (w.heap.size)),(4,.slice A r.length c),(5,BY (f.heap.size))]∧GO nodes ns=GP nodes ns (nodes.length + 1 - r.length) r s∧r.length≤nodes.length∧s.length=r.length∧Below w.heap.size w wx∧Ac w.heap.size wx (List.map Th.ent [⟨w.heap.size,0,[.slice q nodes.length d,.map (some m)],131,true⟩,⟨f.heap.size,0,[.map (some a.heap.size)],76,true⟩]++[BT.th D0 a.heap.size s,BN A c r])) (fun E _=>nodes.length - dk (E 4)) ⟨[],[],none,0,E3,rfl,rfl,Nat.zero_le _,rfl,B,H⟩ ?_
 rintro E wx ⟨r,s,A,c,E0,rfl,hv,x1,z1,B,H⟩ i0
 refine CY 60 (Ao Sg) wx.heap.size [⟨w.heap.size,0,[.slice q nodes.length d,.map (some m)],131,true⟩,⟨f.heap.size,0,[.map (some a.heap.size)],76,true⟩] [(0,0)] cL [(1,BY (w.heap.size)),(4,.slice A r.length c),(5,BY (f.heap.size)),(13,.bool (decide ((r.length:Int) < (nodes.length:Int))))] wx.heap.size [⟨w.heap.size,0,[.slice q nodes.length d,.map (some m)],131,true⟩,⟨f.heap.size,0,[.map (some a.heap.size)],76,true⟩] (H.lies (M:=[⟨w.heap.size,0,[.slice q nodes.length d,.map (some m)],131,true⟩,⟨f.heap.size,0,[.map (some a.heap.size)],76,true⟩])) fun w4 i2 i1 n0=>?_
 replace B:=B.trans (H.keptB (M:=[⟨w.heap.size,0,[.slice q nodes.length d,.map (some m)],131,true⟩,⟨f.heap.size,0,[.map (some a.heap.size)],76,true⟩]) n0)
 replace H:Ac w.heap.size w4 (List.map Th.ent [⟨w.heap.size,0,[.slice q nodes.length d,.map (some m)],131,true⟩,⟨f.heap.size,0,[.map (some a.heap.size)],76,true⟩]++[BT.th D0 a.heap.size s,BN A c r]):=H.run (M:=[⟨w.heap.size,0,[.slice q nodes.length d,.map (some m)],131,true⟩,⟨f.heap.size,0,[.map (some a.heap.size)],76,true⟩]) (M':=[⟨w.heap.size,0,[.slice q nodes.length d,.map (some m)],131,true⟩,⟨f.heap.size,0,[.map (some a.heap.size)],76,true⟩]) i1 n0 rfl
 refine Dc (decide ((r.length:Int) < (nodes.length:Int))) (fun c5=>?_) (fun c5=>?_)
 ·have a2:r.length < nodes.length:=by have:=of_decide_eq_true c5; omega
  rw [show nodes.length + 1 - r.length=(nodes.length - r.length) + 1 by omega,GP,c5] at hv
  change GO nodes ns=cond (decide (CM (De s ns) nodes < 0)) _ _ at hv
  refine CY 60 (AD cL) w4.heap.size [⟨w.heap.size,0,[.slice q nodes.length d,.map (some m)],131,true⟩,⟨f.heap.size,0,[.map (some a.heap.size)],76,true⟩] [(0,0)] cK [(1,BY (w.heap.size)),(4,.slice A r.length c),(5,BY (f.heap.size)),(15,.slice q nodes.length d),(16,.func (.func 78) #[] ⟨[BY (f.heap.size),BY (w.heap.size)]⟩)] w4.heap.size [⟨w.heap.size,0,[.slice q nodes.length d,.map (some m)],131,true⟩,⟨f.heap.size,0,[.map (some a.heap.size)],76,true⟩] (H.lies (M:=[⟨w.heap.size,0,[.slice q nodes.length d,.map (some m)],131,true⟩,⟨f.heap.size,0,[.map (some a.heap.size)],76,true⟩])) fun w5 g2 h1 m0=>?_
  replace B:=B.trans (H.keptB (M:=[⟨w.heap.size,0,[.slice q nodes.length d,.map (some m)],131,true⟩,⟨f.heap.size,0,[.map (some a.heap.size)],76,true⟩]) m0)
  replace H:Ac w.heap.size w5 (List.map Th.ent [⟨w.heap.size,0,[.slice q nodes.length d,.map (some m)],131,true⟩,⟨f.heap.size,0,[.map (some a.heap.size)],76,true⟩]++[BT.th D0 a.heap.size s,BN A c r]):=H.run (M:=[⟨w.heap.size,0,[.slice q nodes.length d,.map (some m)],131,true⟩,⟨f.heap.size,0,[.map (some a.heap.size)],76,true⟩]) (M':=[⟨w.heap.size,0,[.slice q nodes.length d,.map (some m)],131,true⟩,⟨f.heap.size,0,[.map (some a.heap.size)],76,true⟩]) h1 m0 rfl
  have G:=H.goods (M:=[⟨w.heap.size,0,[.slice q nodes.length d,.map (some m)],131,true⟩,⟨f.heap.size,0,[.map (some a.heap.size)],76,true⟩])
  have v0:=G _ (List.mem_of_getElem? (i:=0) rfl)
  have t0:=G _ (List.mem_of_getElem? (i:=1) rfl)
  have p1:BT.at D0 a.heap.size s w5:=H.all 2 _ rfl
  refine LR 77 [.tmp 15,.tmp 16] (some 17) [.slice q nodes.length d,.func (.func 78) #[] ⟨[BY (f.heap.size),BY (w.heap.size)]⟩] (by kernel_rfl) (by kernel_rfl) (by kernel_rfl) ((Mk (De s ns) q nodes d 78 [BY (f.heap.size),BY (w.heap.size)] w5 (CU.below b0 B) hl (by kernel_rfl) (fun u b e he=>by
   have Bu:=B.trans (b.mono B.size)
   rw [← hns]
   exact Ws e f.heap.size a.heap.size s w.heap.size q nodes.length d m xs u (Nat.lt_of_lt_of_le t0.1 b.size) (Ab (GH t0) t0.1 b) (BT.below p1 b) (Nat.lt_of_lt_of_le v0.1 b.size) (Ab (GH v0) v0.1 b) (BT.below hn Bu) ((G6 xs).fr w u hf Bu.size (fun k _ hk=>Bu.block k hk)) (j0 e he) (by rw [hns]; exact (c0 e).1) (by rw [hns]; exact (c0 e).2))).mono fun en w6 hh=>?_)
  obtain ⟨rfl,b6⟩:=hh
  refine ⟨_,rfl,?_⟩
  replace B:=B.trans (b6.mono B.size)
  replace H:Ac w.heap.size w6 (List.map Th.ent [⟨w.heap.size,0,[.slice q nodes.length d,.map (some m)],131,true⟩,⟨f.heap.size,0,[.map (some a.heap.size)],76,true⟩]++[BT.th D0 a.heap.size s,BN A c r]):=H.below b6
  refine CY 60 (AC cK) w6.heap.size [⟨w.heap.size,0,[.slice q nodes.length d,.map (some m)],131,true⟩,⟨f.heap.size,0,[.map (some a.heap.size)],76,true⟩] [] Sf [(1,BY (w.heap.size)),(4,.slice A r.length c),(5,BY (f.heap.size)),(6,AI (CM (De s ns) nodes)),(19,.bool (decide (CM (De s ns) nodes < 0)))] w6.heap.size [⟨w.heap.size,0,[.slice q nodes.length d,.map (some m)],131,true⟩,⟨f.heap.size,0,[.map (some a.heap.size)],76,true⟩] (H.lies (M:=[⟨w.heap.size,0,[.slice q nodes.length d,.map (some m)],131,true⟩,⟨f.heap.size,0,[.map (some a.heap.size)],76,true⟩])) fun w7 e2 g1 l0=>?_
  replace B:=B.trans (H.keptB (M:=[⟨w.heap.size,0,[.slice q nodes.length d,.map (some m)],131,true⟩,⟨f.heap.size,0,[.map (some a.heap.size)],76,true⟩]) l0)
  replace H:Ac w.heap.size w7 (List.map Th.ent [⟨w.heap.size,0,[.slice q nodes.length d,.map (some m)],131,true⟩,⟨f.heap.size,0,[.map (some a.heap.size)],76,true⟩]++[BT.th D0 a.heap.size s,BN A c r]):=H.run (M:=[⟨w.heap.size,0,[.slice q nodes.length d,.map (some m)],131,true⟩,⟨f.heap.size,0,[.map (some a.heap.size)],76,true⟩]) (M':=[⟨w.heap.size,0,[.slice q nodes.length d,.map (some m)],131,true⟩,⟨f.heap.size,0,[.map (some a.heap.size)],76,true⟩]) g1 l0 rfl
  refine Dc (decide (CM (De s ns) nodes < 0)) (fun c8=>?_) (fun c8=>?_)
  ·rw [c8] at hv
   change GO nodes ns=([],11) at hv
   replace H:=H.addNil 3 1 (fun e r=>r=FV e)
   refine El (fn:=Tryz.f53) 60 (.tuple #[.slice none 0 0,AI 11]) fun wz Bz=>⟨none,0,by rw [hv] <;> rfl,B.trans (Bz.mono B.size),?_⟩
   rw [hv]
   exact (H.below Bz).pick [4] rfl (by decide)
  ·rw [c8] at hv
   have d0:=Jw c8
   change GO nodes ns=GP nodes ns (nodes.length - r.length) (r++[nodes.getD (CM (De s ns) nodes).toNat default]) ((nodes.getD (CM (De s ns) nodes).toNat default,true) :: s) at hv
   rw [d0.1]
   have hd:=getD_some default d0.2
   have r0:=Dt (l:=nodes) d0.2
   generalize (CM (De s ns) nodes).toNat=ix at hv d0 hd r0 ⊢
   generalize nodes.getD ix default=x at hv hd r0
   obtain ⟨o,p,rfl,s0,e1⟩:=b0.all (Nat.lt_of_le_of_lt (Nat.zero_le _) d0.2)
   refine CY (JV 7 90 (AF Sf)) (AF Sf) w7.heap.size [⟨w.heap.size,0,[.slice (some ⟨o,p,none⟩) nodes.length d,.map (some m)],131,true⟩,⟨f.heap.size,0,[.map (some a.heap.size)],76,true⟩] [] NI [(1,BY (w.heap.size)),(4,.slice A r.length c),(5,BY (f.heap.size)),(6,AI (ix:Int))] w7.heap.size [⟨w.heap.size,0,[.slice (some ⟨o,p,none⟩) nodes.length d,.map (some m)],131,true⟩,⟨f.heap.size,0,[.map (some a.heap.size)],76,true⟩] (H.lies (M:=[⟨w.heap.size,0,[.slice (some ⟨o,p,none⟩) nodes.length d,.map (some m)],131,true⟩,⟨f.heap.size,0,[.map (some a.heap.size)],76,true⟩])) fun w8 d2 f1 k0=>?_
   replace B:=B.trans (H.keptB (M:=[⟨w.heap.size,0,[.slice (some ⟨o,p,none⟩) nodes.length d,.map (some m)],131,true⟩,⟨f.heap.size,0,[.map (some a.heap.size)],76,true⟩]) k0)
   replace H:Ac w.heap.size w8 (List.map Th.ent [⟨w.heap.size,0,[.slice (some ⟨o,p,none⟩) nodes.length d,.map (some m)],131,true⟩,⟨f.heap.size,0,[.map (some a.heap.size)],76,true⟩]++[BT.th D0 a.heap.size s,BN A c r]):=H.run (M:=[⟨w.heap.size,0,[.slice (some ⟨o,p,none⟩) nodes.length d,.map (some m)],131,true⟩,⟨f.heap.size,0,[.map (some a.heap.size)],76,true⟩]) (M':=[⟨w.heap.size,0,[.slice (some ⟨o,p,none⟩) nodes.length d,.map (some m)],131,true⟩,⟨f.heap.size,0,[.map (some a.heap.size)],76,true⟩]) f1 k0 rfl
   have G:=H.goods (M:=[⟨w.heap.size,0,[.slice (some ⟨o,p,none⟩) nodes.length d,.map (some m)],131,true⟩,⟨f.heap.size,0,[.map (some a.heap.size)],76,true⟩])
   refine EV Qi 7 ?_
   refine I6 (i:=1) (v:=BY (w.heap.size)) (Qi.getD 1 default) (by kernel_rfl) (by kernel_rfl) (by kernel_rfl) (by kernel_rfl) (by kernel_rfl) (by kernel_rfl) (fun _ _ _ h=>nomatch h.1) ?_
   refine Dq (md:=.any) (fuel:=1) (L:=[BV 0 [] (.map (some a.heap.size)),BV 2 [] (.slice (some ⟨o,p,none⟩) nodes.length d),BV 3 [] (AI (ix:Int)),BV 4 [2,3] (.pointer (some ⟨o,p + ix * 1,none⟩)),BV 5 [2,3,4] (AI (x:Int))]) (W:=tg) (C:=fun u=>Below w8.heap.size w8 u) (Ext:=FW) (Below.refl _ _).drew FW.refl (fun _ _ _=>FW.trans) ⟨?_,?_,?_,?_,?_,trivial⟩ rfl ?_
   ·refine ⟨fun _ _ _ _ _ h=>h,fun vals u hu hb=>?_⟩
    exact AM.knownE [] trivial (AM.reads ⟨0,[⟨w.heap.size,0,[.slice (some ⟨o,p,none⟩) nodes.length d,.map (some m)],131,true⟩,⟨f.heap.size,0,[.map (some a.heap.size)],76,true⟩],(1,0),[]⟩ (CB G hu) (.map (some a.heap.size)) ⟨hu,.refl _,rfl⟩)
   ·refine ⟨fun _ _ _ _ _ h=>h,fun vals u hu hb=>?_⟩
    exact AM.knownE [] trivial (AM.reads ⟨0,[⟨w.heap.size,0,[.slice (some ⟨o,p,none⟩) nodes.length d,.map (some m)],131,true⟩,⟨f.heap.size,0,[.map (some a.heap.size)],76,true⟩],(0,0),[]⟩ (CB G hu) (.slice (some ⟨o,p,none⟩) nodes.length d) ⟨hu,.refl _,rfl⟩)
   ·refine ⟨fun _ _ _ _ _ h=>h,fun vals u hu hb=>?_⟩
    exact AM.knownE [] trivial (AM.reads ⟨0,[],(0,0),[]⟩ (fun e he=>by cases he) (AI (ix:Int)) ⟨hu,.refl _,rfl⟩)
   ·refine ⟨fun _ _ _ _ _ h=>h,fun vals u hu hb=>?_⟩
    obtain ⟨h2,h3,_⟩:=hb
    exact AM.knownE [(22,2,.slice (some ⟨o,p,none⟩) nodes.length d),(23,3,AI (ix:Int))] ⟨(List.cons.inj h2).1,(List.cons.inj h3).1,trivial⟩ (AM.value (BZ (sz:=1) (cap:=d) 22 (.tmp 22) (.tmp 23) (hx:=rfl) (hi:=rfl) d0.2 Tryz.underlying22) ⟨hu,.refl _,rfl⟩)
   ·refine ⟨fun _ _ _ _ _ h=>h,fun vals u hu hb=>?_⟩
    obtain ⟨h2,h3,h4,_⟩:=hb
    have Bu:=B.trans (hu.mono B.size)
    exact AM.knownE [(24,4,.pointer (some ⟨o,p + ix * 1,none⟩))] ⟨(List.cons.inj h4).1,trivial⟩ (AM.reads ⟨0,[⟨o,p + ix * 1,[AI (x:Int)],3,false⟩],(0,0),[]⟩ (fun e he=>by rw [List.mem_singleton.1 he]; exact ⟨Nat.lt_of_lt_of_le s0 Bu.size,Ab (e1 ix x hd) s0 Bu⟩) (AI (x:Int)) ⟨hu,.refl _,rfl⟩)
   intro vals w9 b9 _ d1
   replace b9:Below w8.heap.size w8 w9:=b9
   obtain ⟨x0,x2,x3,x4,x5,_⟩:=d1
   replace B:=B.trans (b9.mono B.size)
   replace H:Ac w.heap.size w9 (List.map Th.ent [⟨w.heap.size,0,[.slice (some ⟨o,p,none⟩) nodes.length d,.map (some m)],131,true⟩,⟨f.heap.size,0,[.map (some a.heap.size)],76,true⟩]++[BT.th D0 a.heap.size s,BN A c r]):=H.below b9
   refine CI [(1,BY (w.heap.size)),(4,.slice A r.length c),(5,BY (f.heap.size)),(6,AI (ix:Int)),(20,vals 0),(25,vals 5)] fun E9=>?_
   rw [show vals 0=.map (some a.heap.size) from (List.cons.inj x0).1,show vals 5=AI (x:Int) from (List.cons.inj x5).1]
   refine eO D0 H 2 rfl x true (j0 x r0) trivial (j:=6) (Qi.getD 6 default) (by kernel_rfl) (by kernel_rfl) (by kernel_rfl) (t:=76) (x:=.tmp 20) (y:=.tmp 25) (z:=.const (.bool true)) (by kernel_rfl) rfl rfl rfl rfl (by omega) fun q0 Hn t1=>?_
   replace H:Ac w.heap.size q0 (List.map Th.ent [⟨w.heap.size,0,[.slice (some ⟨o,p,none⟩) nodes.length d,.map (some m)],131,true⟩,⟨f.heap.size,0,[.map (some a.heap.size)],76,true⟩]++[BT.th D0 a.heap.size ((x,true) :: s),BN A c r]):=Hn
   clear Hn
   replace B:=B.trans t1
   refine Em ⟨rfl,At.mid ?_⟩
   refine CY (Ak Aa 90 (AL NI)) (AL NI) q0.heap.size [⟨w.heap.size,0,[.slice (some ⟨o,p,none⟩) nodes.length d,.map (some m)],131,true⟩,⟨f.heap.size,0,[.map (some a.heap.size)],76,true⟩] [(0,0)] PW [(1,BY (w.heap.size)),(4,.slice A r.length c),(5,BY (f.heap.size)),(26,.slice A r.length c),(28,.slice (some ⟨o,p,none⟩) nodes.length d),(29,AI (ix:Int))] q0.heap.size [⟨w.heap.size,0,[.slice (some ⟨o,p,none⟩) nodes.length d,.map (some m)],131,true⟩,⟨f.heap.size,0,[.map (some a.heap.size)],76,true⟩] (H.lies (M:=[⟨w.heap.size,0,[.slice (some ⟨o,p,none⟩) nodes.length d,.map (some m)],131,true⟩,⟨f.heap.size,0,[.map (some a.heap.size)],76,true⟩])) fun a0 v1 a1 h0=>?_
   replace B:=B.trans (H.keptB (M:=[⟨w.heap.size,0,[.slice (some ⟨o,p,none⟩) nodes.length d,.map (some m)],131,true⟩,⟨f.heap.size,0,[.map (some a.heap.size)],76,true⟩]) h0)
   replace H:Ac w.heap.size a0 (List.map Th.ent [⟨w.heap.size,0,[.slice (some ⟨o,p,none⟩) nodes.length d,.map (some m)],131,true⟩,⟨f.heap.size,0,[.map (some a.heap.size)],76,true⟩]++[BT.th D0 a.heap.size ((x,true) :: s),BN A c r]):=H.run (M:=[⟨w.heap.size,0,[.slice (some ⟨o,p,none⟩) nodes.length d,.map (some m)],131,true⟩,⟨f.heap.size,0,[.map (some a.heap.size)],76,true⟩]) (M':=[⟨w.heap.size,0,[.slice (some ⟨o,p,none⟩) nodes.length d,.map (some m)],131,true⟩,⟨f.heap.size,0,[.map (some a.heap.size)],76,true⟩]) a1 h0 rfl
   refine Au (g:=o) (off:=p) (cap:=d) (sz:=1) (k:=ix) (len:=nodes.length) (some 30) d0.2 Tryz.underlying22 ?_
   refine Dh 3 o (p + ix * 1) (AI (x:Int)) (some 31) (by simpa using Ab (e1 ix x hd) s0 B 0 _ rfl) ?_
   refine CY (Ak BS 90 (AC (AC PW))) (AC (AC PW)) a0.heap.size [⟨w.heap.size,0,[.slice (some ⟨o,p,none⟩) nodes.length d,.map (some m)],131,true⟩,⟨f.heap.size,0,[.map (some a.heap.size)],76,true⟩] [] cJ [(1,BY (w.heap.size)),(5,BY (f.heap.size)),(26,.slice A r.length c),(32,.slice (IN a0.heap.size) 1 1)] (a0.heap.size + 1) [⟨w.heap.size,0,[.slice (some ⟨o,p,none⟩) nodes.length d,.map (some m)],131,true⟩,⟨f.heap.size,0,[.map (some a.heap.size)],76,true⟩,⟨a0.heap.size,0,[AI (x:Int)],3,true⟩] (H.lies (M:=[⟨w.heap.size,0,[.slice (some ⟨o,p,none⟩) nodes.length d,.map (some m)],131,true⟩,⟨f.heap.size,0,[.map (some a.heap.size)],76,true⟩])) fun o1 u1 z0 g0=>?_
   replace B:=B.trans (H.keptB (M:=[⟨w.heap.size,0,[.slice (some ⟨o,p,none⟩) nodes.length d,.map (some m)],131,true⟩,⟨f.heap.size,0,[.map (some a.heap.size)],76,true⟩]) g0)
   replace H:Ac w.heap.size o1 (List.map Th.ent [⟨w.heap.size,0,[.slice (some ⟨o,p,none⟩) nodes.length d,.map (some m)],131,true⟩,⟨f.heap.size,0,[.map (some a.heap.size)],76,true⟩,⟨a0.heap.size,0,[AI (x:Int)],3,true⟩]++[BT.th D0 a.heap.size ((x,true) :: s),BN A c r]):=H.run (M:=[⟨w.heap.size,0,[.slice (some ⟨o,p,none⟩) nodes.length d,.map (some m)],131,true⟩,⟨f.heap.size,0,[.map (some a.heap.size)],76,true⟩]) (M':=[⟨w.heap.size,0,[.slice (some ⟨o,p,none⟩) nodes.length d,.map (some m)],131,true⟩,⟨f.heap.size,0,[.map (some a.heap.size)],76,true⟩,⟨a0.heap.size,0,[AI (x:Int)],3,true⟩]) z0 g0 rfl
   have G3:=H.goods (M:=[⟨w.heap.size,0,[.slice (some ⟨o,p,none⟩) nodes.length d,.map (some m)],131,true⟩,⟨f.heap.size,0,[.map (some a.heap.size)],76,true⟩,⟨a0.heap.size,0,[AI (x:Int)],3,true⟩])
   refine Cg H 4 rfl x [AI (x:Int)] rfl (a0.heap.size) (G3 _ (List.mem_of_getElem? (i:=2) rfl)) (Br cJ) (by kernel_rfl) (.tmp 26) (.tmp 32) 22 (by kernel_rfl) (by kernel_rfl) (by kernel_rfl) (by decide) (by kernel_rfl) (by kernel_rfl) rfl rfl (by ((try simp only [maxLen,List.length_map,List.length_append,List.length_cons,List.length_nil,List.length_singleton]) <;> omega)) fun A2 c2 p0 Hn s1=>?_
   replace H:Ac w.heap.size p0 (List.map Th.ent [⟨w.heap.size,0,[.slice (some ⟨o,p,none⟩) nodes.length d,.map (some m)],131,true⟩,⟨f.heap.size,0,[.map (some a.heap.size)],76,true⟩]++[BT.th D0 a.heap.size ((x,true) :: s),BN A2 c2 (r++[x])]):=Hn.pick [0,1,3,4] rfl (by decide)
   clear Hn
   replace B:=B.trans s1
   refine CY 60 (AC cJ) p0.heap.size [⟨w.heap.size,0,[.slice (some ⟨o,p,none⟩) nodes.length d,.map (some m)],131,true⟩,⟨f.heap.size,0,[.map (some a.heap.size)],76,true⟩] [] (AY Sg) [(1,BY (w.heap.size)),(4,.slice A2 (r++[x]).length c2),(5,BY (f.heap.size))] p0.heap.size [⟨w.heap.size,0,[.slice (some ⟨o,p,none⟩) nodes.length d,.map (some m)],131,true⟩,⟨f.heap.size,0,[.map (some a.heap.size)],76,true⟩] (H.lies (M:=[⟨w.heap.size,0,[.slice (some ⟨o,p,none⟩) nodes.length d,.map (some m)],131,true⟩,⟨f.heap.size,0,[.map (some a.heap.size)],76,true⟩])) fun n1 m1 w0 e0=>?_
   replace B:=B.trans (H.keptB (M:=[⟨w.heap.size,0,[.slice (some ⟨o,p,none⟩) nodes.length d,.map (some m)],131,true⟩,⟨f.heap.size,0,[.map (some a.heap.size)],76,true⟩]) e0)
   replace H:Ac w.heap.size n1 (List.map Th.ent [⟨w.heap.size,0,[.slice (some ⟨o,p,none⟩) nodes.length d,.map (some m)],131,true⟩,⟨f.heap.size,0,[.map (some a.heap.size)],76,true⟩]++[BT.th D0 a.heap.size ((x,true) :: s),BN A2 c2 (r++[x])]):=H.run (M:=[⟨w.heap.size,0,[.slice (some ⟨o,p,none⟩) nodes.length d,.map (some m)],131,true⟩,⟨f.heap.size,0,[.map (some a.heap.size)],76,true⟩]) (M':=[⟨w.heap.size,0,[.slice (some ⟨o,p,none⟩) nodes.length d,.map (some m)],131,true⟩,⟨f.heap.size,0,[.map (some a.heap.size)],76,true⟩]) w0 e0 rfl
   refine i0 _ _ ⟨r++[x],(x,true) :: s,A2,c2,m1,rfl,by rw [hv,List.length_append,List.length_singleton,show nodes.length + 1 - (r.length + 1)=nodes.length - r.length by omega],by ((try simp only [maxLen,List.length_map,List.length_append,List.length_cons,List.length_nil,List.length_singleton]) <;> omega),by ((try simp only [maxLen,List.length_map,List.length_append,List.length_cons,List.length_nil,List.length_singleton]) <;> omega),B,H⟩ ?_
   show nodes.length - dk (.slice A2 (r++[x]).length c2) < nodes.length - dk (.slice A r.length c)
   simp only [dk,List.length_append,List.length_singleton]
   omega
 ·rw [show nodes.length + 1 - r.length=(nodes.length - r.length) + 1 by omega,GP,c5] at hv
  change GO nodes ns=(r,0) at hv
  refine El (fn:=Tryz.f53) 60 (.tuple #[.slice A r.length c,AI 0]) fun wz Bz=>⟨A,c,by rw [hv] <;> rfl,B.trans (Bz.mono B.size),?_⟩
  rw [hv]
  exact (H.below Bz).pick [3] rfl (by decide)
end
end Go.Proofs.YtkjbdagicjbjjaaGreat
namespace Go.Proofs.YtkjbdagicjbjjaaGreat
noncomputable section
open Go.RowKit
set_option maxRecDepth 100000
set_option maxHeartbeats 1000000
def KE (ds:List Df) (l:List Nat):Prop:=(∀ j∈l,j < ds.length)∧l.length≤1000000
theorem Jq {ds:List Df} {b:List Nat} (d:∀ i∈b,i < ds.length):∀ (es:List Ex) (a:Int) (r:List Nat),(∀ j∈r,j < ds.length)→(∀ j∈(Dg ds b es a r).1,j < ds.length)∧(Dg ds b es a r).1.length≤r.length + es.length
 | [],a,r,h=>by
  rw [Dg]
  exact ⟨fun j c=>h j (jd.1 (WD c)),by have:=Mv (Fu r); rw [KN] at this; simpa using this⟩
 | e :: es,a,r,h=>by
  rw [Dg,List.length_cons]
  cases hm:!(Ay ds b e).2
  ·simp only [cond_false]
   cases Al (ds.getD (Ay ds b e).1 default)
   ·have:=Jq d es a r h
    exact ⟨this.1,by have:=this.2; simp only [cond_false]; omega⟩
   ·have:=Jq d es a (r++[(Ay ds b e).1]) (fun j c=>by
     rcases List.mem_append.1 c with c | c
     ·exact h j c
     ·rw [List.mem_singleton.1 c]; exact Lm d hm)
    rw [List.length_append,List.length_singleton] at this
    exact ⟨this.1,by have:=this.2; simp only [cond_true]; omega⟩
  ·exact ⟨fun j c=>(by cases c),Nat.zero_le _⟩
theorem RW {ds:List Df} {a:List Nat} {i:Nat} (b:∀ i∈a,i < ds.length) (hi:i < ds.length) (hn:∀ d∈ds,nE d.body≤1000000):KE ds (Cf ds a i).1:=by
 have h:=Jq b (BU [] ((ds.getD i default).body)) 0 [] (fun j c=>by cases c)
 have e:=Ph (ds.getD i default).body
 have h2:=hn _ (Dt hi)
 exact ⟨h.1,by have:=h.2; simp only [List.length_nil] at this; exact Nat.le_trans this (by omega)⟩
theorem IF {ds:List Df} {p1:Int} (hn:∀ d∈ds,nE d.body≤1000000):∀ (es:List Nat) (a0:Int) (b:List Nat) (c:List (Nat×List Nat)),(∀ i∈es,i < ds.length)→(∀ i∈b,i < ds.length)→(∀ p∈c,KE ds p.2)→
  (∀ i∈(Bl ds p1 es a0 b c).1,i < ds.length)∧(Bl ds p1 es a0 b c).1.length≤b.length + es.length∧∀ p∈(Bl ds p1 es a0 b c).2.1,KE ds p.2
 | [],a0,b,c,_,h1,h2=>by rw [Bl]; exact ⟨h1,Nat.le_refl _,h2⟩
 | e :: es,a0,b,c,h0,h1,h2=>by
  have he:e < ds.length:=h0 e (by simp)
  have f:∀ i∈es,i < ds.length:=fun i hi=>h0 i (by simp [hi])
  rw [Bl,List.length_cons]
  cases !(Al (ds.getD e default))
  ·simp only [cond_false]
   cases !((Cf ds (An ds p1) e).2 == 0)
   ·have:=IF (p1:=p1) hn es a0 (b++[e]) ((e,(Cf ds (An ds p1) e).1) :: c) f (fun j a=>by
     rcases List.mem_append.1 a with a | a
     ·exact h1 j a
     ·rw [List.mem_singleton.1 a]; exact he) (fun p g=>by
     rcases List.mem_cons.1 g with rfl | g
     ·exact RW EI he hn
     ·exact h2 p g)
    simp only [List.length_append,List.length_singleton] at this
    exact ⟨this.1,by have:=this.2.1; simp only [cond_false]; omega,this.2.2⟩
   ·exact ⟨fun j a=>(by cases a),Nat.zero_le _,fun j a=>(by cases a)⟩
  ·have:=IF (p1:=p1) hn es a0 b c f h1 h2
   exact ⟨this.1,by have:=this.2.1; simp only [cond_true]; omega,this.2.2⟩
theorem Mf {n:List UInt8} {ds:List Df} {p1:Int} (hn:∀ d∈ds,nE d.body≤1000000):(∀ i∈(BJ n ds p1).1,i < ds.length)∧(BJ n ds p1).1.length≤ds.length∧∀ p∈(BJ n ds p1).2.1,KE ds p.2:=by
 unfold BJ
 cases !(DF n ds p1 == 0)
 ·have:=IF (p1:=p1) hn (An ds p1) 0 [] [] EI (fun j a=>by cases a) (fun j a=>by cases a)
  have hl:=Iw (ds:=ds) (p1:=p1)
  exact ⟨this.1,by have:=this.2.1; simp only [List.length_nil] at this; exact Nat.le_trans this (by omega),this.2.2⟩
 ·exact ⟨fun j a=>(by cases a),Nat.zero_le _,fun j a=>(by cases a)⟩
theorem Mg {β:Type} {P:β→Prop} {d:β} (hd:P d):∀ (m:List (Nat×β)) (i:Nat),(∀ p∈m,P p.2)→P ((AO m i).getD d)
 | [],_,_=>hd
 | p :: m,i,h=>by
  rw [AO]
  by_cases hp:p.1=i
  ·rw [if_pos hp]; exact h p (by simp)
  ·rw [if_neg hp]; exact Mg hd m i fun q a=>h q (by simp [a])
theorem KQ {nodes:List Nat} {ns:List (Nat×List Nat)}:∀ (k:Nat) (r:List Nat) (a:List (Nat×Bool)),(∀ i∈r,i∈nodes)→r.length≤nodes.length→(∀ i∈(GP nodes ns k r a).1,i∈nodes)∧(GP nodes ns k r a).1.length≤nodes.length
 | 0,r,a,h,hl=>⟨h,hl⟩
 | k + 1,r,a,h,hl=>by
  rw [GP]
  cases hc:decide ((r.length:Int) < (nodes.length:Int))
  ·exact ⟨h,hl⟩
  ·simp only [cond_true]
   have hc:=of_decide_eq_true hc
   cases hx:decide (CM (De a ns) nodes < 0)
   ·exact KQ k _ _ (fun i hi=>by
     rcases List.mem_append.1 hi with hi | hi
     ·exact h i hi
     ·rw [List.mem_singleton.1 hi]; exact Dt (Jw hx).2) (by rw [List.length_append,List.length_singleton]; omega)
   ·exact ⟨fun j b=>(by cases b),Nat.zero_le _⟩
def Ag (n:List UInt8) (ds:List Df) (p1:Int):List Nat×Int:=cond (!((BJ n ds p1).2.2 == 0)) ([],(BJ n ds p1).2.2) (GO (BJ n ds p1).1 (BJ n ds p1).2.1)
theorem Rn {n:List UInt8} {ds:List Df} {p1:Int} (hn:∀ d∈ds,nE d.body≤1000000):(∀ i∈(Ag n ds p1).1,i < ds.length)∧(Ag n ds p1).1.length≤ds.length:=by
 unfold Ag
 have h:=Mf (n:=n) (p1:=p1) hn
 cases !((BJ n ds p1).2.2 == 0)
 ·have h2:=KQ (nodes:=(BJ n ds p1).1) (ns:=(BJ n ds p1).2.1) ((BJ n ds p1).1.length + 1) [] [] (fun j a=>(by cases a)) (Nat.zero_le _)
  exact ⟨fun i hi=>h.1 i (h2.1 i hi),Nat.le_trans h2.2 h.2.1⟩
 ·exact ⟨fun j a=>(by cases a),Nat.zero_le _⟩
noncomputable def WQ:Code:=Tryz.f36.body.getD .skip
def dJ:=AA 60 ([.code WQ])
def dI:=AA 60 (AC dJ)
def ADb:=AA 60 (AF dI)
theorem lX (f:List UInt8) (a:Option Addr) (ds:List (Df)) (b:Nat) (p1:Int) (w:World) (b0:rowsDf w a ds) (k:ds.length≤4294967296) (hs:f.length≤4294967296) (ht:∀ d∈ds,FU d) (a0:∀ d∈ds,DR d.body) (hn:∀ d∈ds,nE d.body≤1000000):Calls Tryz.prog 36 ([.agg ⟨[By f,.slice a ds.length b]⟩,AI p1]:List Value).toArray w fun e w'=>∃ (s:Option Addr) (q:Nat),e=.returned (.tuple #[.slice s (Ag f ds p1).1.length q,AI (Ag f ds p1).2])∧Below w.heap.size w w'∧Ac w.heap.size w' [BN s q (Ag f ds p1).1]:=by
 refine Hs (args:=[.agg ⟨[By f,.slice a ds.length b]⟩,AI p1]) (fn:=Tryz.f36) (c:=WQ) (n:=21) ?_
 have B:Below w.heap.size w w:=Below.refl _ _
 have H:Ac w.heap.size w (List.map Th.ent []++[]):=Ac.nil (Nat.le_refl _)
 refine CY 60 ([.code WQ]) w.heap.size [] [(0,0)] dJ [(1,AI p1),(2,BY (w.heap.size)),(9,.agg ⟨[By f,.slice a ds.length b]⟩),(10,AI p1)] (w.heap.size + 1) [⟨w.heap.size,0,[By f,.slice a ds.length b],27,true⟩] (H.lies (M:=[])) fun w1 E1 g0 d0=>?_
 replace B:=B.trans (H.keptB (M:=[]) d0)
 replace H:Ac w.heap.size w1 (List.map Th.ent [⟨w.heap.size,0,[By f,.slice a ds.length b],27,true⟩]++[]):=H.run (M:=[]) (M':=[⟨w.heap.size,0,[By f,.slice a ds.length b],27,true⟩]) g0 d0 rfl
 refine LR 52 [.tmp 9,.tmp 10] (some 11) [.agg ⟨[By f,.slice a ds.length b]⟩,AI p1] (by kernel_rfl) (by kernel_rfl) (by kernel_rfl) ((Vh f a ds b p1 w1 (b0.below B) k hs ht a0 hn).mono fun en h hh=>?_)
 have t:=Mf (n:=f) (p1:=p1) hn
 have hO:Ag f ds p1=_:=rfl
 rw [show Ag f ds p1=cond (!((BJ f ds p1).2.2 == 0)) ([],(BJ f ds p1).2.2) (GO (BJ f ds p1).1 (BJ f ds p1).2.1) from rfl]
 clear hO
 generalize BJ f ds p1=g at hh t ⊢
 obtain ⟨nodes,ns,z⟩:=g
 rcases hh with ⟨o,l,m,p,rfl,v,b2,h0,Hn⟩ | ⟨rfl,h0,b2⟩
 ·replace v:p.map IY=ns:=v
  obtain rfl:z=0:=h0
  replace Hn:Ac w1.heap.size h [BN o l nodes,BT.th IW m (p.map KX),G6 p]:=Hn
  refine ⟨_,rfl,?_⟩
  replace H:Ac w.heap.size h (List.map Th.ent [⟨w.heap.size,0,[By f,.slice a ds.length b],27,true⟩]++[BN o l nodes,BT.th IW m (p.map KX),G6 p]):=H.join b2 Hn
  replace B:=B.trans (b2.mono B.size)
  refine CY 60 (AC dJ) h.heap.size [⟨w.heap.size,0,[By f,.slice a ds.length b],27,true⟩] [(1,0)] dI [(6,BY (h.heap.size)),(7,AI 0),(15,.bool (!((0:Int) == 0)))] (h.heap.size + 1) [⟨w.heap.size,0,[By f,.slice a ds.length b],27,true⟩,⟨h.heap.size,0,[.slice o nodes.length l,.map (some m)],131,true⟩] (H.lies (M:=[⟨w.heap.size,0,[By f,.slice a ds.length b],27,true⟩])) fun w3 E3 y u=>?_
  replace B:=B.trans (H.keptB (M:=[⟨w.heap.size,0,[By f,.slice a ds.length b],27,true⟩]) u)
  replace H:Ac w.heap.size w3 (List.map Th.ent [⟨w.heap.size,0,[By f,.slice a ds.length b],27,true⟩,⟨h.heap.size,0,[.slice o nodes.length l,.map (some m)],131,true⟩]++[BN o l nodes,BT.th IW m (p.map KX),G6 p]):=H.run (M:=[⟨w.heap.size,0,[By f,.slice a ds.length b],27,true⟩]) (M':=[⟨w.heap.size,0,[By f,.slice a ds.length b],27,true⟩,⟨h.heap.size,0,[.slice o nodes.length l,.map (some m)],131,true⟩]) y u rfl
  refine Dc (!((0:Int) == 0)) (fun c4=>?_) (fun c4=>?_)
  ·exact absurd c4 (by decide)
  ·refine CY 60 (AF dI) w3.heap.size [⟨w.heap.size,0,[By f,.slice a ds.length b],27,true⟩,⟨h.heap.size,0,[.slice o nodes.length l,.map (some m)],131,true⟩] [(1,0)] ADb [(17,.agg ⟨[.slice o nodes.length l,.map (some m)]⟩)] w3.heap.size [⟨w.heap.size,0,[By f,.slice a ds.length b],27,true⟩,⟨h.heap.size,0,[.slice o nodes.length l,.map (some m)],131,true⟩] (H.lies (M:=[⟨w.heap.size,0,[By f,.slice a ds.length b],27,true⟩,⟨h.heap.size,0,[.slice o nodes.length l,.map (some m)],131,true⟩])) fun w4 E4 e0 c0=>?_
   replace B:=B.trans (H.keptB (M:=[⟨w.heap.size,0,[By f,.slice a ds.length b],27,true⟩,⟨h.heap.size,0,[.slice o nodes.length l,.map (some m)],131,true⟩]) c0)
   replace H:Ac w.heap.size w4 (List.map Th.ent [⟨w.heap.size,0,[By f,.slice a ds.length b],27,true⟩,⟨h.heap.size,0,[.slice o nodes.length l,.map (some m)],131,true⟩]++[BN o l nodes,BT.th IW m (p.map KX),G6 p]):=H.run (M:=[⟨w.heap.size,0,[By f,.slice a ds.length b],27,true⟩,⟨h.heap.size,0,[.slice o nodes.length l,.map (some m)],131,true⟩]) (M':=[⟨w.heap.size,0,[By f,.slice a ds.length b],27,true⟩,⟨h.heap.size,0,[.slice o nodes.length l,.map (some m)],131,true⟩]) e0 c0 rfl
   subst v
   refine LR 53 [.tmp 17] (some 18) [.agg ⟨[.slice o nodes.length l,.map (some m)]⟩] (by kernel_rfl) (by kernel_rfl) (by kernel_rfl) ((js o nodes l m p w4 (H.rowsNat 2 rfl) (Nat.le_trans t.2.1 k) (H.all 3 _ rfl) (H.all 4 _ rfl) (fun j x=>Nat.le_trans (Nat.le_of_lt (t.1 j x)) k) (fun i=>⟨fun j x=>?_,?_⟩)).mono fun en w5 hh=>?_)
   ·exact Nat.le_trans (Nat.le_of_lt ((Mg (P:=KE ds) ⟨fun j x=>(by cases x),Nat.zero_le _⟩ _ i t.2.2).1 j x)) k
   ·exact Nat.le_trans (Mg (P:=KE ds) ⟨fun j x=>(by cases x),Nat.zero_le _⟩ _ i t.2.2).2 (by decide)
   obtain ⟨s,q,rfl,b5,Hr⟩:=hh
   refine ⟨_,rfl,?_⟩
   replace B:=B.trans (b5.mono B.size)
   refine El (fn:=Tryz.f36) 60 (.tuple #[.slice s (GO nodes (p.map IY)).1.length q,AI (GO nodes (p.map IY)).2]) fun wz Bz=>⟨s,q,rfl,B.trans (Bz.mono B.size),(Hr.below Bz).mono H.base⟩
 ·skip
  replace h0:¬ z=0:=h0
  refine ⟨_,rfl,?_⟩
  replace H:Ac w.heap.size h (List.map Th.ent [⟨w.heap.size,0,[By f,.slice a ds.length b],27,true⟩]++[]):=H.below b2
  replace B:=B.trans (b2.mono B.size)
  refine CY 60 (AC dJ) h.heap.size [⟨w.heap.size,0,[By f,.slice a ds.length b],27,true⟩] [(1,0)] dI [(6,BY (h.heap.size)),(7,AI z),(15,.bool (!((z:Int) == 0)))] (h.heap.size + 1) [⟨w.heap.size,0,[By f,.slice a ds.length b],27,true⟩,⟨h.heap.size,0,[.slice none 0 0,.map none],131,true⟩] (H.lies (M:=[⟨w.heap.size,0,[By f,.slice a ds.length b],27,true⟩])) fun w3 E3 y u=>?_
  replace B:=B.trans (H.keptB (M:=[⟨w.heap.size,0,[By f,.slice a ds.length b],27,true⟩]) u)
  replace H:Ac w.heap.size w3 (List.map Th.ent [⟨w.heap.size,0,[By f,.slice a ds.length b],27,true⟩,⟨h.heap.size,0,[.slice none 0 0,.map none],131,true⟩]++[]):=H.run (M:=[⟨w.heap.size,0,[By f,.slice a ds.length b],27,true⟩]) (M':=[⟨w.heap.size,0,[By f,.slice a ds.length b],27,true⟩,⟨h.heap.size,0,[.slice none 0 0,.map none],131,true⟩]) y u rfl
  refine Dc (!((z:Int) == 0)) (fun c4=>?_) (fun c4=>?_)
  ·replace H:=H.addNil 3 1 (fun e r=>r=FV e)
   rw [c4]
   refine El (fn:=Tryz.f36) 60 (.tuple #[.slice none 0 0,AI z]) fun wz Bz=>⟨none,0,rfl,B.trans (Bz.mono B.size),(H.below Bz).pick [2] rfl (by decide)⟩
  ·simp [h0] at c4
end
end Go.Proofs.YtkjbdagicjbjjaaGreat

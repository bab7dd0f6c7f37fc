/-
  Part 35 of a proof: contracts of functions.
-/
import Derived.Test.YtmcpjkcggfmcmaaGreatDoorL34
set_option linter.all false
namespace Go.Proofs.YtmcpjkcggfmcmaaGreatDoor
noncomputable section
open Go.RowKit
set_option maxRecDepth 100000
set_option maxHeartbeats 1000000
theorem IR {F:Nat→Bool}:∀ (es:List Nat) (i:Nat) (a:Int),Cc F es i a < (i + es.length:Nat)∧(Cc F es i a=-1∨0≤Cc F es i a)
 | [],i,a=>by rw [Cc]; exact ⟨by omega,.inl rfl⟩
 | e :: es,i,a=>by
  rw [Cc,List.length_cons]
  cases F e
  ·show Cc F es (i + 1) a < _∧_
   have:=IR (F:=F) es (i + 1) a
   exact ⟨by have:=this.1; omega,this.2⟩
  ·exact ⟨by show (i:Int) < _; omega,.inr (by show (0:Int)≤i; omega)⟩
theorem KC {F:Nat→Bool} {ds:List Nat} (h:decide (CT F ds < 0)=false):CT F ds=((CT F ds).toNat:Int)∧(CT F ds).toNat < ds.length:=by
 have h1:=of_decide_eq_false h
 have h3:CT F ds < (0 + ds.length:Nat):=(IR (F:=F) ds 0 0).1
 omega
theorem Vs {α β:Type} [DecidableEq α] (S:AZ α β) {ops:Array Oper} {Q:Exit→Act→World→Prop} {md:Region.Mode} {n:Nat} {E:Nat→Value} {b:Nat} {L:List Th} {w:World} {listed:Array Bool} {fuel j:Nat} (H:AY b w L) (i:Nat) {g:Nat} {m:List (α×β)} (hi:L[i]?=some (S.th g m)) (a:α) (v:β) (ha:S.ka a) (hv:S.ea v)
  (o:Oper) (hr:Region.ready md ops listed=[j]) (hoj:ops[j]?=some o) (hgd:o.guard=none) {t:TypeId} {x y z:Operand} (ho:o.op=.mapUpdate t x y z) (ht:t=S.t) (hx:BJ n E x=.map (some g)) (hy:BJ n E y=S.kv a) (hz:BJ n E z=S.ev v) (hm:m.length < 100000000000)
  (hk:∀ w',AY b w' (L.set i (S.th g ((a,v) :: m)))→Below b w w'→wpAny Tryz.prog md ops Q fuel (listed.setIfInBounds j true) (Fr n (BO E o.dst undef)) w'):wpAny Tryz.prog md ops Q (fuel + 1) listed (Fr n E) w:=by
 subst ht
 obtain ⟨w',h1,h2,h3⟩:=S.store (H.all i _ hi) a v ha hv (by unfold maxLen; omega)
 have hl:=(H.lo i _ hi g rfl)
 have hxx:(execOp (BJ n E) o).run Tryz.prog w=.ok .skip w':=by
  unfold execOp
  simp only [ho,hx,hy,hz]
  rw [Sem.run_bind,h1]
  rfl
 refine fJ o hr hoj hgd hxx (hk w' (H.set i hi h3.size h2 (fun q hq=>?_) (fun q hq hf=>h3.block q hq fun he=>hf (Option.some.inj he))) ⟨h3.os,h3.tape,h3.output,h3.size,fun q hq=>h3.block q (Nat.lt_of_lt_of_le hq H.base) fun he=>?_⟩)
 ·obtain rfl:q=g:=hq
  exact ⟨World.ownsMap.lt h2,.inl rfl⟩
 ·have:=Option.some.inj he
  omega
def GU (nodes:List Nat) (ns:List (Nat×List Nat)):Nat→List Nat→List (Nat×Bool)→List Nat×Int
 | 0,r,_=>(r,0)
 | k + 1,r,ml=>cond (decide ((r.length:Int) < (nodes.length:Int))) (cond (decide (CT (Dl ml ns) nodes < 0)) ([],11) (GU nodes ns k (r++[nodes.getD (CT (Dl ml ns) nodes).toNat default]) ((nodes.getD (CT (Dl ml ns) nodes).toNat default,true) :: ml))) (r,0)
def FJ (nodes:List Nat) (ns:List (Nat×List Nat)):List Nat×Int:=GU nodes ns (nodes.length + 1) [] []
def VU:Value→Nat
 | .slice _ n _=>n
 | _=>0
noncomputable def Iz:Code:=Tryz.f51.body.getD .skip
def Of:List Item:=AB (As GA 90 ([.code Iz])) ([.code Iz])
def Oe:List Item:=AB 60 (AF Of)
def TY:List Item:=AB 60 (A4 Oe)
def TX:List Item:=AB 60 (AG TY)
def Od:List Item:=AB 60 (AF TX)
def KT:List Item:=Ac 7 (AL Od)
def NQ:Array Oper:=(Cs KT).getD #[]
def fM:Wr:=[(20,0),(22,2),(23,3),(24,4),(25,5)]
def L3:List Item:=AB (As Ae 90 (AO KT)) (AO KT)
def TW:List Item:=AB (As BK 90 (AF (AF L3))) (AF (AF L3))
theorem XK (nA:Option Addr) (nodes:List Nat) (nc bn:Nat) (xs:List Jj) (w:World) (h_nodes:rowsNat w nA nodes) (hl:nodes.length≤4294967296) (hn:AZ.at H3 bn (xs.map IV) w) (hf:(Fk xs).P w) (hnod:∀ j∈nodes,j≤4294967296)
  (hneed:∀ i,(∀ j∈(BV (xs.map Gg) i).getD [],j≤4294967296)∧((BV (xs.map Gg) i).getD []).length≤4294967296) :
  Calls Tryz.prog 51 ([.agg ⟨[.slice nA nodes.length nc,.map (some bn)]⟩]:List Value).toArray w fun e w'=>∃ (rA0:Option Addr) (rc0:Nat),e=.returned (.tuple #[.slice rA0 (FJ nodes (xs.map Gg)).1.length rc0,.int .i64 (FJ nodes (xs.map Gg)).2])∧Below w.heap.size w w'∧AY w.heap.size w' [BE rA0 rc0 (FJ nodes (xs.map Gg)).1]:=by
 refine Ff (args:=[.agg ⟨[.slice nA nodes.length nc,.map (some bn)]⟩]) (fn:=Tryz.f51) (c:=Iz) (n:=35) ?_
 have B:Below w.heap.size w w:=Below.refl _ _
 have H:AY w.heap.size w (List.map Th.ent []++[]):=AY.nil (Nat.le_refl _)
 generalize hns:xs.map Gg=ns at hneed
 refine Bi (As GA 90 ([.code Iz])) ([.code Iz]) w.heap.size [] [] Of [(1,.pointer (some ⟨w.heap.size,0,none⟩)),(4,.slice none 0 0)] (w.heap.size + 1) [⟨w.heap.size,0,[.slice nA nodes.length nc,.map (some bn)],108,true⟩] (H.lies (M:=[])) fun w1 E1 hL1 hK1=>?_
 replace B:=B.trans (H.keptB (M:=[]) hK1)
 replace H:AY w.heap.size w1 (List.map Th.ent [⟨w.heap.size,0,[.slice nA nodes.length nc,.map (some bn)],108,true⟩]++[]):=H.run (M:=[]) (M':=[⟨w.heap.size,0,[.slice nA nodes.length nc,.map (some bn)],108,true⟩]) hL1 hK1 rfl
 refine Gt Fs H (Ck Of) (by kernel_rfl) (t:=149) (by kernel_rfl) fun w2 Z2 Hn b2=>?_
 replace H:AY w.heap.size w2 (List.map Th.ent [⟨w.heap.size,0,[.slice nA nodes.length nc,.map (some bn)],108,true⟩]++[AZ.th Fs w1.heap.size []]):=Hn
 clear Hn
 replace B:=B.trans b2
 refine Bi 60 (AF Of) w2.heap.size [⟨w.heap.size,0,[.slice nA nodes.length nc,.map (some bn)],108,true⟩] [(1,0)] Oe [(1,.pointer (some ⟨w.heap.size,0,none⟩)),(4,.slice none 0 0),(5,.pointer (some ⟨w2.heap.size,0,none⟩))] (w2.heap.size + 1) [⟨w.heap.size,0,[.slice nA nodes.length nc,.map (some bn)],108,true⟩,⟨w2.heap.size,0,[.map (some w1.heap.size)],149,true⟩] (H.lies (M:=[⟨w.heap.size,0,[.slice nA nodes.length nc,.map (some bn)],108,true⟩])) fun w3 E3 hL3 hK3=>?_
 replace B:=B.trans (H.keptB (M:=[⟨w.heap.size,0,[.slice nA nodes.length nc,.map (some bn)],108,true⟩]) hK3)
 replace H:AY w.heap.size w3 (List.map Th.ent [⟨w.heap.size,0,[.slice nA nodes.length nc,.map (some bn)],108,true⟩,⟨w2.heap.size,0,[.map (some w1.heap.size)],149,true⟩]++[AZ.th Fs w1.heap.size []]):=H.run (M:=[⟨w.heap.size,0,[.slice nA nodes.length nc,.map (some bn)],108,true⟩]) (M':=[⟨w.heap.size,0,[.slice nA nodes.length nc,.map (some bn)],108,true⟩,⟨w2.heap.size,0,[.map (some w1.heap.size)],149,true⟩]) hL3 hK3 rfl
 replace H:AY w.heap.size w3 (List.map Th.ent [⟨w.heap.size,0,[.slice nA nodes.length nc,.map (some bn)],108,true⟩,⟨w2.heap.size,0,[.map (some w1.heap.size)],149,true⟩]++[AZ.th Fs w1.heap.size [],BE none 0 []]):=H.addNil 3 1 (fun e r=>r=Eb e)
 refine Bj (by kernel_rfl) (fun E wx=>∃ (r:List Nat) (ml:List (Nat×Bool)) (A:Option Addr) (c:Nat) (E0:Nat→Value),E=CX E0 [(1,.pointer (some ⟨w.heap.size,0,none⟩)),(4,.slice A r.length c),(5,.pointer (some ⟨w2.heap.size,0,none⟩))]∧FJ nodes ns=GU nodes ns (nodes.length + 1 - r.length) r ml∧r.length≤nodes.length∧ml.length=r.length∧Below w.heap.size w wx∧AY w.heap.size wx (List.map Th.ent [⟨w.heap.size,0,[.slice nA nodes.length nc,.map (some bn)],108,true⟩,⟨w2.heap.size,0,[.map (some w1.heap.size)],149,true⟩]++[AZ.th Fs w1.heap.size ml,BE A c r])) (fun E _=>nodes.length - VU (E 4)) ⟨[],[],none,0,E3,rfl,rfl,Nat.zero_le _,rfl,B,H⟩ ?_
 rintro E wx ⟨r,ml,A,c,E0,rfl,hv,hrl,hml,B,H⟩ hagain
 refine Bi 60 (A4 Oe) wx.heap.size [⟨w.heap.size,0,[.slice nA nodes.length nc,.map (some bn)],108,true⟩,⟨w2.heap.size,0,[.map (some w1.heap.size)],149,true⟩] [(0,0)] TY [(1,.pointer (some ⟨w.heap.size,0,none⟩)),(4,.slice A r.length c),(5,.pointer (some ⟨w2.heap.size,0,none⟩)),(13,.bool (decide ((r.length:Int) < (nodes.length:Int))))] wx.heap.size [⟨w.heap.size,0,[.slice nA nodes.length nc,.map (some bn)],108,true⟩,⟨w2.heap.size,0,[.map (some w1.heap.size)],149,true⟩] (H.lies (M:=[⟨w.heap.size,0,[.slice nA nodes.length nc,.map (some bn)],108,true⟩,⟨w2.heap.size,0,[.map (some w1.heap.size)],149,true⟩])) fun w4 Ew4 hLw4 hKw4=>?_
 replace B:=B.trans (H.keptB (M:=[⟨w.heap.size,0,[.slice nA nodes.length nc,.map (some bn)],108,true⟩,⟨w2.heap.size,0,[.map (some w1.heap.size)],149,true⟩]) hKw4)
 replace H:AY w.heap.size w4 (List.map Th.ent [⟨w.heap.size,0,[.slice nA nodes.length nc,.map (some bn)],108,true⟩,⟨w2.heap.size,0,[.map (some w1.heap.size)],149,true⟩]++[AZ.th Fs w1.heap.size ml,BE A c r]):=H.run (M:=[⟨w.heap.size,0,[.slice nA nodes.length nc,.map (some bn)],108,true⟩,⟨w2.heap.size,0,[.map (some w1.heap.size)],149,true⟩]) (M':=[⟨w.heap.size,0,[.slice nA nodes.length nc,.map (some bn)],108,true⟩,⟨w2.heap.size,0,[.map (some w1.heap.size)],149,true⟩]) hLw4 hKw4 rfl
 refine DB (decide ((r.length:Int) < (nodes.length:Int))) (fun c5=>?_) (fun c5=>?_)
 ·have hlt:r.length < nodes.length:=by have:=of_decide_eq_true c5; omega
  rw [show nodes.length + 1 - r.length=(nodes.length - r.length) + 1 by omega,GU,c5] at hv
  change FJ nodes ns=cond (decide (CT (Dl ml ns) nodes < 0)) _ _ at hv
  refine Bi 60 (AG TY) w4.heap.size [⟨w.heap.size,0,[.slice nA nodes.length nc,.map (some bn)],108,true⟩,⟨w2.heap.size,0,[.map (some w1.heap.size)],149,true⟩] [(0,0)] TX [(1,.pointer (some ⟨w.heap.size,0,none⟩)),(4,.slice A r.length c),(5,.pointer (some ⟨w2.heap.size,0,none⟩)),(15,.slice nA nodes.length nc),(16,.func (.func 94) #[] ⟨[.pointer (some ⟨w2.heap.size,0,none⟩),.pointer (some ⟨w.heap.size,0,none⟩)]⟩)] w4.heap.size [⟨w.heap.size,0,[.slice nA nodes.length nc,.map (some bn)],108,true⟩,⟨w2.heap.size,0,[.map (some w1.heap.size)],149,true⟩] (H.lies (M:=[⟨w.heap.size,0,[.slice nA nodes.length nc,.map (some bn)],108,true⟩,⟨w2.heap.size,0,[.map (some w1.heap.size)],149,true⟩])) fun w5 Ew5 hLw5 hKw5=>?_
  replace B:=B.trans (H.keptB (M:=[⟨w.heap.size,0,[.slice nA nodes.length nc,.map (some bn)],108,true⟩,⟨w2.heap.size,0,[.map (some w1.heap.size)],149,true⟩]) hKw5)
  replace H:AY w.heap.size w5 (List.map Th.ent [⟨w.heap.size,0,[.slice nA nodes.length nc,.map (some bn)],108,true⟩,⟨w2.heap.size,0,[.map (some w1.heap.size)],149,true⟩]++[AZ.th Fs w1.heap.size ml,BE A c r]):=H.run (M:=[⟨w.heap.size,0,[.slice nA nodes.length nc,.map (some bn)],108,true⟩,⟨w2.heap.size,0,[.map (some w1.heap.size)],149,true⟩]) (M':=[⟨w.heap.size,0,[.slice nA nodes.length nc,.map (some bn)],108,true⟩,⟨w2.heap.size,0,[.map (some w1.heap.size)],149,true⟩]) hLw5 hKw5 rfl
  have G:=H.goods (M:=[⟨w.heap.size,0,[.slice nA nodes.length nc,.map (some bn)],108,true⟩,⟨w2.heap.size,0,[.map (some w1.heap.size)],149,true⟩])
  have hg0:=G _ (List.mem_of_getElem? (i:=0) rfl)
  have hg1:=G _ (List.mem_of_getElem? (i:=1) rfl)
  have hmp:AZ.at Fs w1.heap.size ml w5:=H.all 2 _ rfl
  refine I0 93 [.tmp 15,.tmp 16] (some 17) [.slice nA nodes.length nc,.func (.func 94) #[] ⟨[.pointer (some ⟨w2.heap.size,0,none⟩),.pointer (some ⟨w.heap.size,0,none⟩)]⟩] (by kernel_rfl) (by kernel_rfl) (by kernel_rfl) ((KB (Dl ml ns) nA nodes nc 94 [.pointer (some ⟨w2.heap.size,0,none⟩),.pointer (some ⟨w.heap.size,0,none⟩)] w5 (Dx.below h_nodes B) hl (by kernel_rfl) (fun u b e he=>by
   have Bu:=B.trans (b.mono B.size)
   rw [← hns]
   exact Rf e w2.heap.size w1.heap.size ml w.heap.size nA nodes.length nc bn xs u (Nat.lt_of_lt_of_le hg1.1 b.size) (Af (Hf hg1) hg1.1 b) (AZ.below hmp b) (Nat.lt_of_lt_of_le hg0.1 b.size) (Af (Hf hg0) hg0.1 b) (AZ.below hn Bu) ((Fk xs).fr w u hf Bu.size (fun k _ hk=>Bu.block k hk)) (hnod e he) (by rw [hns]; exact (hneed e).1) (by rw [hns]; exact (hneed e).2))).mono fun en w6 hh=>?_)
  obtain ⟨rfl,b6⟩:=hh
  refine ⟨_,rfl,?_⟩
  replace B:=B.trans (b6.mono B.size)
  replace H:AY w.heap.size w6 (List.map Th.ent [⟨w.heap.size,0,[.slice nA nodes.length nc,.map (some bn)],108,true⟩,⟨w2.heap.size,0,[.map (some w1.heap.size)],149,true⟩]++[AZ.th Fs w1.heap.size ml,BE A c r]):=H.below b6
  refine Bi 60 (AF TX) w6.heap.size [⟨w.heap.size,0,[.slice nA nodes.length nc,.map (some bn)],108,true⟩,⟨w2.heap.size,0,[.map (some w1.heap.size)],149,true⟩] [] Od [(1,.pointer (some ⟨w.heap.size,0,none⟩)),(4,.slice A r.length c),(5,.pointer (some ⟨w2.heap.size,0,none⟩)),(6,.int .i64 (CT (Dl ml ns) nodes)),(19,.bool (decide (CT (Dl ml ns) nodes < 0)))] w6.heap.size [⟨w.heap.size,0,[.slice nA nodes.length nc,.map (some bn)],108,true⟩,⟨w2.heap.size,0,[.map (some w1.heap.size)],149,true⟩] (H.lies (M:=[⟨w.heap.size,0,[.slice nA nodes.length nc,.map (some bn)],108,true⟩,⟨w2.heap.size,0,[.map (some w1.heap.size)],149,true⟩])) fun w7 Ew7 hLw7 hKw7=>?_
  replace B:=B.trans (H.keptB (M:=[⟨w.heap.size,0,[.slice nA nodes.length nc,.map (some bn)],108,true⟩,⟨w2.heap.size,0,[.map (some w1.heap.size)],149,true⟩]) hKw7)
  replace H:AY w.heap.size w7 (List.map Th.ent [⟨w.heap.size,0,[.slice nA nodes.length nc,.map (some bn)],108,true⟩,⟨w2.heap.size,0,[.map (some w1.heap.size)],149,true⟩]++[AZ.th Fs w1.heap.size ml,BE A c r]):=H.run (M:=[⟨w.heap.size,0,[.slice nA nodes.length nc,.map (some bn)],108,true⟩,⟨w2.heap.size,0,[.map (some w1.heap.size)],149,true⟩]) (M':=[⟨w.heap.size,0,[.slice nA nodes.length nc,.map (some bn)],108,true⟩,⟨w2.heap.size,0,[.map (some w1.heap.size)],149,true⟩]) hLw7 hKw7 rfl
  refine DB (decide (CT (Dl ml ns) nodes < 0)) (fun c8=>?_) (fun c8=>?_)
  ·rw [c8] at hv
   change FJ nodes ns=([],11) at hv
   replace H:=H.addNil 3 1 (fun e r=>r=Eb e)
   refine D6 (fn:=Tryz.f51) 60 (.tuple #[.slice none 0 0,.int .i64 11]) fun wz Bz=>⟨none,0,by rw [hv] <;> rfl,B.trans (Bz.mono B.size),?_⟩
   rw [hv]
   exact (H.below Bz).pick [4] rfl (by decide)
  ·rw [c8] at hv
   have hix:=KC c8
   change FJ nodes ns=GU nodes ns (nodes.length - r.length) (r++[nodes.getD (CT (Dl ml ns) nodes).toNat default]) ((nodes.getD (CT (Dl ml ns) nodes).toNat default,true) :: ml) at hv
   rw [hix.1]
   have hd:=getD_some default hix.2
   have hxm:=Ds (l:=nodes) hix.2
   generalize (CT (Dl ml ns) nodes).toNat=ix at hv hix hd hxm ⊢
   generalize nodes.getD ix default=x at hv hd hxm
   obtain ⟨gN,fN,rfl,hgN,haN⟩:=h_nodes.all (Nat.lt_of_le_of_lt (Nat.zero_le _) hix.2)
   refine Bi (Hi 7 90 (AL Od)) (AL Od) w7.heap.size [⟨w.heap.size,0,[.slice (some ⟨gN,fN,none⟩) nodes.length nc,.map (some bn)],108,true⟩,⟨w2.heap.size,0,[.map (some w1.heap.size)],149,true⟩] [] KT [(1,.pointer (some ⟨w.heap.size,0,none⟩)),(4,.slice A r.length c),(5,.pointer (some ⟨w2.heap.size,0,none⟩)),(6,.int .i64 (ix:Int))] w7.heap.size [⟨w.heap.size,0,[.slice (some ⟨gN,fN,none⟩) nodes.length nc,.map (some bn)],108,true⟩,⟨w2.heap.size,0,[.map (some w1.heap.size)],149,true⟩] (H.lies (M:=[⟨w.heap.size,0,[.slice (some ⟨gN,fN,none⟩) nodes.length nc,.map (some bn)],108,true⟩,⟨w2.heap.size,0,[.map (some w1.heap.size)],149,true⟩])) fun w8 Ew8 hLw8 hKw8=>?_
   replace B:=B.trans (H.keptB (M:=[⟨w.heap.size,0,[.slice (some ⟨gN,fN,none⟩) nodes.length nc,.map (some bn)],108,true⟩,⟨w2.heap.size,0,[.map (some w1.heap.size)],149,true⟩]) hKw8)
   replace H:AY w.heap.size w8 (List.map Th.ent [⟨w.heap.size,0,[.slice (some ⟨gN,fN,none⟩) nodes.length nc,.map (some bn)],108,true⟩,⟨w2.heap.size,0,[.map (some w1.heap.size)],149,true⟩]++[AZ.th Fs w1.heap.size ml,BE A c r]):=H.run (M:=[⟨w.heap.size,0,[.slice (some ⟨gN,fN,none⟩) nodes.length nc,.map (some bn)],108,true⟩,⟨w2.heap.size,0,[.map (some w1.heap.size)],149,true⟩]) (M':=[⟨w.heap.size,0,[.slice (some ⟨gN,fN,none⟩) nodes.length nc,.map (some bn)],108,true⟩,⟨w2.heap.size,0,[.map (some w1.heap.size)],149,true⟩]) hLw8 hKw8 rfl
   have G:=H.goods (M:=[⟨w.heap.size,0,[.slice (some ⟨gN,fN,none⟩) nodes.length nc,.map (some bn)],108,true⟩,⟨w2.heap.size,0,[.map (some w1.heap.size)],149,true⟩])
   refine DY NQ 7 ?_
   refine Ct (i:=1) (v:=.pointer (some ⟨w.heap.size,0,none⟩)) (NQ.getD 1 default) (fun _ _ _ h=>nomatch h.1) ?_
   refine Ce (md:=.any) (fuel:=1) (L:=[Ar 0 [] (.map (some w1.heap.size)),Ar 2 [] (.slice (some ⟨gN,fN,none⟩) nodes.length nc),Ar 3 [] (.int .i64 (ix:Int)),Ar 4 [2,3] (.pointer (some ⟨gN,fN + ix * 1,none⟩)),Ar 5 [2,3,4] (.int .i64 (x:Int))]) (W:=fM) (C:=fun u=>Below w8.heap.size w8 u) (Ext:=CQ) (Below.refl _ _).drew CQ.refl (fun _ _ _=>CQ.trans) ⟨?_,?_,?_,?_,?_,trivial⟩ rfl ?_
   ·refine ⟨fun _ _ _ _ _ h=>h,fun vals u hu hb=>?_⟩
    exact AN.knownE [] trivial (AN.reads ⟨0,[⟨w.heap.size,0,[.slice (some ⟨gN,fN,none⟩) nodes.length nc,.map (some bn)],108,true⟩,⟨w2.heap.size,0,[.map (some w1.heap.size)],149,true⟩],(1,0),[]⟩ (Au G hu) (.map (some w1.heap.size)) ⟨hu,.refl _,rfl⟩)
   ·refine ⟨fun _ _ _ _ _ h=>h,fun vals u hu hb=>?_⟩
    exact AN.knownE [] trivial (AN.reads ⟨0,[⟨w.heap.size,0,[.slice (some ⟨gN,fN,none⟩) nodes.length nc,.map (some bn)],108,true⟩,⟨w2.heap.size,0,[.map (some w1.heap.size)],149,true⟩],(0,0),[]⟩ (Au G hu) (.slice (some ⟨gN,fN,none⟩) nodes.length nc) ⟨hu,.refl _,rfl⟩)
   ·refine ⟨fun _ _ _ _ _ h=>h,fun vals u hu hb=>?_⟩
    exact AN.knownE [] trivial (AN.reads ⟨0,[],(0,0),[]⟩ (fun e he=>by cases he) (.int .i64 (ix:Int)) ⟨hu,.refl _,rfl⟩)
   ·refine ⟨fun _ _ _ _ _ h=>h,fun vals u hu hb=>?_⟩
    obtain ⟨h2,h3,_⟩:=hb
    exact AN.knownE [(22,2,.slice (some ⟨gN,fN,none⟩) nodes.length nc),(23,3,.int .i64 (ix:Int))] ⟨(List.cons.inj h2).1,(List.cons.inj h3).1,trivial⟩ (AN.value (Cd (sz:=1) (cap:=nc) 56 (.tmp 22) (.tmp 23) rfl rfl hix.2 Tryz.underlying56) ⟨hu,.refl _,rfl⟩)
   ·refine ⟨fun _ _ _ _ _ h=>h,fun vals u hu hb=>?_⟩
    obtain ⟨h2,h3,h4,_⟩:=hb
    have Bu:=B.trans (hu.mono B.size)
    exact AN.knownE [(24,4,.pointer (some ⟨gN,fN + ix * 1,none⟩))] ⟨(List.cons.inj h4).1,trivial⟩ (AN.reads ⟨0,[⟨gN,fN + ix * 1,[.int .i64 (x:Int)],3,false⟩],(0,0),[]⟩ (fun e he=>by rw [List.mem_singleton.1 he]; exact ⟨Nat.lt_of_lt_of_le hgN Bu.size,Af (haN ix x hd) hgN Bu⟩) (.int .i64 (x:Int)) ⟨hu,.refl _,rfl⟩)
   intro vals w9 b9 _ hall
   replace b9:Below w8.heap.size w8 w9:=b9
   obtain ⟨x0,x2,x3,x4,x5,_⟩:=hall
   replace B:=B.trans (b9.mono B.size)
   replace H:AY w.heap.size w9 (List.map Th.ent [⟨w.heap.size,0,[.slice (some ⟨gN,fN,none⟩) nodes.length nc,.map (some bn)],108,true⟩,⟨w2.heap.size,0,[.map (some w1.heap.size)],149,true⟩]++[AZ.th Fs w1.heap.size ml,BE A c r]):=H.below b9
   refine C0 [(1,.pointer (some ⟨w.heap.size,0,none⟩)),(4,.slice A r.length c),(5,.pointer (some ⟨w2.heap.size,0,none⟩)),(6,.int .i64 (ix:Int)),(20,vals 0),(25,vals 5)] fun E9=>?_
   rw [show vals 0=.map (some w1.heap.size) from (List.cons.inj x0).1,show vals 5=.int .i64 (x:Int) from (List.cons.inj x5).1]
   refine Vs Fs H 2 rfl x true (hnod x hxm) trivial (j:=6) (NQ.getD 6 default) (by kernel_rfl) (by kernel_rfl) (by kernel_rfl) (t:=149) (x:=.tmp 20) (y:=.tmp 25) (z:=.const (.bool true)) (by kernel_rfl) rfl rfl rfl rfl (by omega) fun w10 Hn b10=>?_
   replace H:AY w.heap.size w10 (List.map Th.ent [⟨w.heap.size,0,[.slice (some ⟨gN,fN,none⟩) nodes.length nc,.map (some bn)],108,true⟩,⟨w2.heap.size,0,[.map (some w1.heap.size)],149,true⟩]++[AZ.th Fs w1.heap.size ((x,true) :: ml),BE A c r]):=Hn
   clear Hn
   replace B:=B.trans b10
   refine DV ⟨rfl,At.mid ?_⟩
   refine Bi (As Ae 90 (AO KT)) (AO KT) w10.heap.size [⟨w.heap.size,0,[.slice (some ⟨gN,fN,none⟩) nodes.length nc,.map (some bn)],108,true⟩,⟨w2.heap.size,0,[.map (some w1.heap.size)],149,true⟩] [(0,0)] L3 [(1,.pointer (some ⟨w.heap.size,0,none⟩)),(4,.slice A r.length c),(5,.pointer (some ⟨w2.heap.size,0,none⟩)),(26,.slice A r.length c),(28,.slice (some ⟨gN,fN,none⟩) nodes.length nc),(29,.int .i64 (ix:Int))] w10.heap.size [⟨w.heap.size,0,[.slice (some ⟨gN,fN,none⟩) nodes.length nc,.map (some bn)],108,true⟩,⟨w2.heap.size,0,[.map (some w1.heap.size)],149,true⟩] (H.lies (M:=[⟨w.heap.size,0,[.slice (some ⟨gN,fN,none⟩) nodes.length nc,.map (some bn)],108,true⟩,⟨w2.heap.size,0,[.map (some w1.heap.size)],149,true⟩])) fun w11 Ew11 hLw11 hKw11=>?_
   replace B:=B.trans (H.keptB (M:=[⟨w.heap.size,0,[.slice (some ⟨gN,fN,none⟩) nodes.length nc,.map (some bn)],108,true⟩,⟨w2.heap.size,0,[.map (some w1.heap.size)],149,true⟩]) hKw11)
   replace H:AY w.heap.size w11 (List.map Th.ent [⟨w.heap.size,0,[.slice (some ⟨gN,fN,none⟩) nodes.length nc,.map (some bn)],108,true⟩,⟨w2.heap.size,0,[.map (some w1.heap.size)],149,true⟩]++[AZ.th Fs w1.heap.size ((x,true) :: ml),BE A c r]):=H.run (M:=[⟨w.heap.size,0,[.slice (some ⟨gN,fN,none⟩) nodes.length nc,.map (some bn)],108,true⟩,⟨w2.heap.size,0,[.map (some w1.heap.size)],149,true⟩]) (M':=[⟨w.heap.size,0,[.slice (some ⟨gN,fN,none⟩) nodes.length nc,.map (some bn)],108,true⟩,⟨w2.heap.size,0,[.map (some w1.heap.size)],149,true⟩]) hLw11 hKw11 rfl
   refine BB (g:=gN) (off:=fN) (cap:=nc) (sz:=1) (k:=ix) (len:=nodes.length) (some 30) hix.2 Tryz.underlying56 ?_
   refine Dm 3 gN (fN + ix * 1) (.int .i64 (x:Int)) (some 31) (by simpa using Af (haN ix x hd) hgN B 0 _ rfl) ?_
   refine Bi (As BK 90 (AF (AF L3))) (AF (AF L3)) w11.heap.size [⟨w.heap.size,0,[.slice (some ⟨gN,fN,none⟩) nodes.length nc,.map (some bn)],108,true⟩,⟨w2.heap.size,0,[.map (some w1.heap.size)],149,true⟩] [] TW [(1,.pointer (some ⟨w.heap.size,0,none⟩)),(5,.pointer (some ⟨w2.heap.size,0,none⟩)),(26,.slice A r.length c),(32,.slice (some ⟨w11.heap.size,0,none⟩) 1 1)] (w11.heap.size + 1) [⟨w.heap.size,0,[.slice (some ⟨gN,fN,none⟩) nodes.length nc,.map (some bn)],108,true⟩,⟨w2.heap.size,0,[.map (some w1.heap.size)],149,true⟩,⟨w11.heap.size,0,[.int .i64 (x:Int)],3,true⟩] (H.lies (M:=[⟨w.heap.size,0,[.slice (some ⟨gN,fN,none⟩) nodes.length nc,.map (some bn)],108,true⟩,⟨w2.heap.size,0,[.map (some w1.heap.size)],149,true⟩])) fun w12 Ew12 hLw12 hKw12=>?_
   replace B:=B.trans (H.keptB (M:=[⟨w.heap.size,0,[.slice (some ⟨gN,fN,none⟩) nodes.length nc,.map (some bn)],108,true⟩,⟨w2.heap.size,0,[.map (some w1.heap.size)],149,true⟩]) hKw12)
   replace H:AY w.heap.size w12 (List.map Th.ent [⟨w.heap.size,0,[.slice (some ⟨gN,fN,none⟩) nodes.length nc,.map (some bn)],108,true⟩,⟨w2.heap.size,0,[.map (some w1.heap.size)],149,true⟩,⟨w11.heap.size,0,[.int .i64 (x:Int)],3,true⟩]++[AZ.th Fs w1.heap.size ((x,true) :: ml),BE A c r]):=H.run (M:=[⟨w.heap.size,0,[.slice (some ⟨gN,fN,none⟩) nodes.length nc,.map (some bn)],108,true⟩,⟨w2.heap.size,0,[.map (some w1.heap.size)],149,true⟩]) (M':=[⟨w.heap.size,0,[.slice (some ⟨gN,fN,none⟩) nodes.length nc,.map (some bn)],108,true⟩,⟨w2.heap.size,0,[.map (some w1.heap.size)],149,true⟩,⟨w11.heap.size,0,[.int .i64 (x:Int)],3,true⟩]) hLw12 hKw12 rfl
   have G3:=H.goods (M:=[⟨w.heap.size,0,[.slice (some ⟨gN,fN,none⟩) nodes.length nc,.map (some bn)],108,true⟩,⟨w2.heap.size,0,[.map (some w1.heap.size)],149,true⟩,⟨w11.heap.size,0,[.int .i64 (x:Int)],3,true⟩])
   refine CF H 4 rfl x [.int .i64 (x:Int)] rfl (w11.heap.size) (G3 _ (List.mem_of_getElem? (i:=2) rfl)) (Ck TW) (by kernel_rfl) (.tmp 26) (.tmp 32) 56 (by kernel_rfl) (by kernel_rfl) (by kernel_rfl) (by decide) (by kernel_rfl) (by kernel_rfl) rfl rfl (by ((try simp only [maxLen,List.length_map,List.length_append,List.length_cons,List.length_nil,List.length_singleton]) <;> omega)) fun A2 c2 w13 Hn b13=>?_
   replace H:AY w.heap.size w13 (List.map Th.ent [⟨w.heap.size,0,[.slice (some ⟨gN,fN,none⟩) nodes.length nc,.map (some bn)],108,true⟩,⟨w2.heap.size,0,[.map (some w1.heap.size)],149,true⟩]++[AZ.th Fs w1.heap.size ((x,true) :: ml),BE A2 c2 (r++[x])]):=Hn.pick [0,1,3,4] rfl (by decide)
   clear Hn
   replace B:=B.trans b13
   refine Bi 60 (AF TW) w13.heap.size [⟨w.heap.size,0,[.slice (some ⟨gN,fN,none⟩) nodes.length nc,.map (some bn)],108,true⟩,⟨w2.heap.size,0,[.map (some w1.heap.size)],149,true⟩] [] (Ai Oe) [(1,.pointer (some ⟨w.heap.size,0,none⟩)),(4,.slice A2 (r++[x]).length c2),(5,.pointer (some ⟨w2.heap.size,0,none⟩))] w13.heap.size [⟨w.heap.size,0,[.slice (some ⟨gN,fN,none⟩) nodes.length nc,.map (some bn)],108,true⟩,⟨w2.heap.size,0,[.map (some w1.heap.size)],149,true⟩] (H.lies (M:=[⟨w.heap.size,0,[.slice (some ⟨gN,fN,none⟩) nodes.length nc,.map (some bn)],108,true⟩,⟨w2.heap.size,0,[.map (some w1.heap.size)],149,true⟩])) fun w14 Ew14 hLw14 hKw14=>?_
   replace B:=B.trans (H.keptB (M:=[⟨w.heap.size,0,[.slice (some ⟨gN,fN,none⟩) nodes.length nc,.map (some bn)],108,true⟩,⟨w2.heap.size,0,[.map (some w1.heap.size)],149,true⟩]) hKw14)
   replace H:AY w.heap.size w14 (List.map Th.ent [⟨w.heap.size,0,[.slice (some ⟨gN,fN,none⟩) nodes.length nc,.map (some bn)],108,true⟩,⟨w2.heap.size,0,[.map (some w1.heap.size)],149,true⟩]++[AZ.th Fs w1.heap.size ((x,true) :: ml),BE A2 c2 (r++[x])]):=H.run (M:=[⟨w.heap.size,0,[.slice (some ⟨gN,fN,none⟩) nodes.length nc,.map (some bn)],108,true⟩,⟨w2.heap.size,0,[.map (some w1.heap.size)],149,true⟩]) (M':=[⟨w.heap.size,0,[.slice (some ⟨gN,fN,none⟩) nodes.length nc,.map (some bn)],108,true⟩,⟨w2.heap.size,0,[.map (some w1.heap.size)],149,true⟩]) hLw14 hKw14 rfl
   refine hagain _ _ ⟨r++[x],(x,true) :: ml,A2,c2,Ew14,rfl,by rw [hv,List.length_append,List.length_singleton,show nodes.length + 1 - (r.length + 1)=nodes.length - r.length by omega],by ((try simp only [maxLen,List.length_map,List.length_append,List.length_cons,List.length_nil,List.length_singleton]) <;> omega),by ((try simp only [maxLen,List.length_map,List.length_append,List.length_cons,List.length_nil,List.length_singleton]) <;> omega),B,H⟩ ?_
   show nodes.length - VU (.slice A2 (r++[x]).length c2) < nodes.length - VU (.slice A r.length c)
   simp only [VU,List.length_append,List.length_singleton]
   omega
 ·rw [show nodes.length + 1 - r.length=(nodes.length - r.length) + 1 by omega,GU,c5] at hv
  change FJ nodes ns=(r,0) at hv
  refine D6 (fn:=Tryz.f51) 60 (.tuple #[.slice A r.length c,.int .i64 0]) fun wz Bz=>⟨A,c,by rw [hv] <;> rfl,B.trans (Bz.mono B.size),?_⟩
  rw [hv]
  exact (H.below Bz).pick [3] rfl (by decide)
end
end Go.Proofs.YtmcpjkcggfmcmaaGreatDoor

/-
  Part 35 of a proof: contracts of functions.
-/
import Derived.Test.YtmcpjkcggfmcmaaGreatDoorD34
set_option linter.all false
namespace Go.Proofs.YtmcpjkcggfmcmaaGreatDoor
noncomputable section
open Go.RowKit
set_option maxRecDepth 100000
set_option maxHeartbeats 1000000
theorem KX {F:Nat→Bool}:∀ (es:List Nat) (i:Nat) (a:Int),Cz F es i a < (i + es.length:Nat)∧(Cz F es i a=-1∨0≤Cz F es i a)
 | [],i,a=>by rw [Cz]; exact ⟨by omega,.inl rfl⟩
 | e :: es,i,a=>by
  rw [Cz,List.length_cons]
  cases F e
  ·show Cz F es (i + 1) a < _∧_
   have:=KX (F:=F) es (i + 1) a
   exact ⟨by have:=this.1; omega,this.2⟩
  ·exact ⟨by show (i:Int) < _; omega,.inr (by show (0:Int)≤i; omega)⟩
theorem Mt {F:Nat→Bool} {ds:List Nat} (h:decide (Cp F ds < 0)=false):Cp F ds=((Cp F ds).toNat:Int)∧(Cp F ds).toNat < ds.length:=by
 have b:=of_decide_eq_false h
 have a:Cp F ds < (0 + ds.length:Nat):=(KX (F:=F) ds 0 0).1
 omega
theorem Za {α β:Type} [DecidableEq α] (S:AY α β) {ops:Array Oper} {Q:Exit→Act→World→Prop} {md:Region.Mode} {n:Nat} {E:Nat→Value} {b:Nat} {L:List Th} {w:World} {c:Array Bool} {fuel j:Nat} (H:AU b w L) (i:Nat) {g:Nat} {m:List (α×β)} (hi:L[i]?=some (S.th g m)) (a:α) (v:β) (ha:S.ka a) (hv:S.ea v)
  (o:Oper) (hr:Region.ready md ops c=[j]) (h:ops[j]?=some o) (hgd:o.guard=none) {t:TypeId} {x y z:Operand} (ho:o.op=.mapUpdate t x y z) (ht:t=S.t) (l:BN n E x=.map (some g)) (k:BN n E y=S.kv a) (hz:BN n E z=S.ev v) (hm:m.length < 100000000000)
  (p:∀ w',AU b w' (L.set i (S.th g ((a,v) :: m)))→Below b w w'→wpAny Tryz.prog md ops Q fuel (c.setIfInBounds j true) (Fr n (Bc E o.dst undef)) w'):wpAny Tryz.prog md ops Q (fuel + 1) c (Fr n E) w:=by
 subst ht
 obtain ⟨w',r,h2,d⟩:=S.store (H.all i _ hi) a v ha hv (by unfold maxLen; omega)
 have hl:=(H.lo i _ hi g rfl)
 have f:(execOp (BN n E) o).run Tryz.prog w=.ok .skip w':=by
  unfold execOp
  simp only [ho,l,k,hz]
  rw [Sem.run_bind,r]
  rfl
 refine my o hr h hgd f (p w' (H.set i hi d.size h2 (fun q e=>?_) (fun q e hf=>d.block q e fun he=>hf (Option.some.inj he))) ⟨d.os,d.tape,d.output,d.size,fun q e=>d.block q (Nat.lt_of_lt_of_le e H.base) fun he=>?_⟩)
 ·obtain rfl:q=g:=e
  exact ⟨World.ownsMap.lt h2,.inl rfl⟩
 ·have:=Option.some.inj he
  omega
def Ig (nodes:List Nat) (ns:List (Nat×List Nat)):Nat→List Nat→List (Nat×Bool)→List Nat×Int
 | 0,r,_=>(r,0)
 | k + 1,r,ml=>cond (decide ((r.length:Int) < (nodes.length:Int))) (cond (decide (Cp (Ed ml ns) nodes < 0)) ([],11) (Ig nodes ns k (r++[nodes.getD (Cp (Ed ml ns) nodes).toNat default]) ((nodes.getD (Cp (Ed ml ns) nodes).toNat default,true) :: ml))) (r,0)
def Gk (nodes:List Nat) (ns:List (Nat×List Nat)):List Nat×Int:=Ig nodes ns (nodes.length + 1) [] []
def Y9:Value→Nat
 | .slice _ n _=>n
 | _=>0
noncomputable def LS:Code:=Tryz.f51.body.getD .skip
def R1:=AB (BA II 90 ([.code LS])) ([.code LS])
def R0:=AB 60 (AE R1)
def XF:=AB 60 (Ay R0)
def XE:=AB 60 (AG XF)
def Rz:=AB 60 (AE XE)
def NA:=Ad 7 (AL Rz)
def QW:Array Oper:=(C6 NA).getD #[]
def m8:Wr:=[(20,0),(22,2),(23,3),(24,4),(25,5)]
def On:=AB (BA Ai 90 (AP NA)) (AP NA)
def XD:=AB (BA Bb 90 (AE (AE On))) (AE (AE On))
theorem cB (q:Option Addr) (nodes:List Nat) (d m:Nat) (xs:List MK) (w:World) (b0:rowsNat w q nodes) (hl:nodes.length≤4294967296) (hn:AY.at KD m (xs.map KZ) w) (hf:(Hg xs).P w) (k0:∀ j∈nodes,j≤4294967296)
  (c0:∀ i,(∀ j∈(CA (xs.map Ix) i).getD [],j≤4294967296)∧((CA (xs.map Ix) i).getD []).length≤4294967296) :
  Calls Tryz.prog 51 ([.agg ⟨[.slice q nodes.length d,.map (some m)]⟩]:List Value).toArray w fun e w'=>∃ (g1:Option Addr) (f1:Nat),e=.returned (.tuple #[.slice g1 (Gk nodes (xs.map Ix)).1.length f1,D (Gk nodes (xs.map Ix)).2])∧Below w.heap.size w w'∧AU w.heap.size w' [BP g1 f1 (Gk nodes (xs.map Ix)).1]:=by
 refine GD (args:=[.agg ⟨[.slice q nodes.length d,.map (some m)]⟩]) (fn:=Tryz.f51) (c:=LS) (n:=35) ?_
 have B:Below w.heap.size w w:=Below.refl _ _
 have H:AU w.heap.size w (List.map Th.ent []++[]):=AU.nil (Nat.le_refl _)
 generalize hns:xs.map Ix=ns at c0
 let z4:List BI:=[⟨w.heap.size,0,[.slice q nodes.length d,.map (some m)],108,true⟩]
 refine Am (BA II 90 ([.code LS])) ([.code LS]) w.heap.size [] [] R1 [(1,.pointer (some ⟨w.heap.size,0,none⟩)),(4,.slice none 0 0)] (w.heap.size + 1) z4 (H.lies (M:=[])) fun a E1 z1 r1=>?_
 replace B:=B.trans (H.keptB (M:=[]) r1)
 replace H:AU w.heap.size a (List.map Th.ent z4++[]):=H.run (M:=[]) (M':=z4) z1 r1 rfl
 refine JE Ht H (DM R1) (by kernel_rfl) (t:=149) (by kernel_rfl) fun f Z2 Hn b2=>?_
 replace H:AU w.heap.size f (List.map Th.ent z4++[AY.th Ht a.heap.size []]):=Hn
 clear Hn
 replace B:=B.trans b2
 refine Am 60 (AE R1) f.heap.size z4 [(1,0)] R0 [(1,.pointer (some ⟨w.heap.size,0,none⟩)),(4,.slice none 0 0),(5,.pointer (some ⟨f.heap.size,0,none⟩))] (f.heap.size + 1) [⟨w.heap.size,0,[.slice q nodes.length d,.map (some m)],108,true⟩,⟨f.heap.size,0,[.map (some a.heap.size)],149,true⟩] (H.lies (M:=z4)) fun w3 E3 y1 q1=>?_
 replace B:=B.trans (H.keptB (M:=z4) q1)
 replace H:AU w.heap.size w3 (List.map Th.ent [⟨w.heap.size,0,[.slice q nodes.length d,.map (some m)],108,true⟩,⟨f.heap.size,0,[.map (some a.heap.size)],149,true⟩]++[AY.th Ht a.heap.size []]):=H.run (M:=z4) (M':=[⟨w.heap.size,0,[.slice q nodes.length d,.map (some m)],108,true⟩,⟨f.heap.size,0,[.map (some a.heap.size)],149,true⟩]) y1 q1 rfl
 replace H:AU w.heap.size w3 (List.map Th.ent [⟨w.heap.size,0,[.slice q nodes.length d,.map (some m)],108,true⟩,⟨f.heap.size,0,[.map (some a.heap.size)],149,true⟩]++[AY.th Ht a.heap.size [],BP none 0 []]):=H.addNil 3 1 (fun e r=>r=Fs e)
 refine Bi (by kernel_rfl) (fun E wx=>∃ (r:List Nat) (ml:List (Nat×Bool)) (A:Option Addr) (c:Nat) (E0:Nat→Value),E=Aw E0 [(1,.pointer (some ⟨w.heap.size,0,none⟩)),(4,.slice A r.length c),(5,.pointer (some ⟨f.heap.size,0,none⟩))]∧Gk nodes ns=Ig nodes ns (nodes.length + 1 - r.length) r ml∧r.length≤nodes.length∧ml.length=r.length∧Below w.heap.size w wx∧AU w.heap.size wx (List.map Th.ent [⟨w.heap.size,0,[.slice q nodes.length d,.map (some m)],108,true⟩,⟨f.heap.size,0,[.map (some a.heap.size)],149,true⟩]++[AY.th Ht a.heap.size ml,BP A c r])) (fun E _=>nodes.length - Y9 (E 4)) ⟨[],[],none,0,E3,rfl,rfl,Nat.zero_le _,rfl,B,H⟩ ?_
 rintro E wx ⟨r,ml,A,c,E0,rfl,hv,g2,i2,B,H⟩ i0
 refine Am 60 (Ay R0) wx.heap.size [⟨w.heap.size,0,[.slice q nodes.length d,.map (some m)],108,true⟩,⟨f.heap.size,0,[.map (some a.heap.size)],149,true⟩] [(0,0)] XF [(1,.pointer (some ⟨w.heap.size,0,none⟩)),(4,.slice A r.length c),(5,.pointer (some ⟨f.heap.size,0,none⟩)),(13,.bool (decide ((r.length:Int) < (nodes.length:Int))))] wx.heap.size [⟨w.heap.size,0,[.slice q nodes.length d,.map (some m)],108,true⟩,⟨f.heap.size,0,[.map (some a.heap.size)],149,true⟩] (H.lies (M:=[⟨w.heap.size,0,[.slice q nodes.length d,.map (some m)],108,true⟩,⟨f.heap.size,0,[.map (some a.heap.size)],149,true⟩])) fun w4 q2 p1 t0=>?_
 replace B:=B.trans (H.keptB (M:=[⟨w.heap.size,0,[.slice q nodes.length d,.map (some m)],108,true⟩,⟨f.heap.size,0,[.map (some a.heap.size)],149,true⟩]) t0)
 replace H:AU w.heap.size w4 (List.map Th.ent [⟨w.heap.size,0,[.slice q nodes.length d,.map (some m)],108,true⟩,⟨f.heap.size,0,[.map (some a.heap.size)],149,true⟩]++[AY.th Ht a.heap.size ml,BP A c r]):=H.run (M:=[⟨w.heap.size,0,[.slice q nodes.length d,.map (some m)],108,true⟩,⟨f.heap.size,0,[.map (some a.heap.size)],149,true⟩]) (M':=[⟨w.heap.size,0,[.slice q nodes.length d,.map (some m)],108,true⟩,⟨f.heap.size,0,[.map (some a.heap.size)],149,true⟩]) p1 t0 rfl
 refine Cf (decide ((r.length:Int) < (nodes.length:Int))) (fun c5=>?_) (fun c5=>?_)
 ·have k2:r.length < nodes.length:=by have:=of_decide_eq_true c5; omega
  rw [show nodes.length + 1 - r.length=(nodes.length - r.length) + 1 by omega,Ig,c5] at hv
  let z8:=decide (Cp (Ed ml ns) nodes < 0)
  change Gk nodes ns=cond z8 _ _ at hv
  let z5:List Value:=[.pointer (some ⟨f.heap.size,0,none⟩),.pointer (some ⟨w.heap.size,0,none⟩)]
  refine Am 60 (AG XF) w4.heap.size [⟨w.heap.size,0,[.slice q nodes.length d,.map (some m)],108,true⟩,⟨f.heap.size,0,[.map (some a.heap.size)],149,true⟩] [(0,0)] XE [(1,.pointer (some ⟨w.heap.size,0,none⟩)),(4,.slice A r.length c),(5,.pointer (some ⟨f.heap.size,0,none⟩)),(15,.slice q nodes.length d),(16,.func (.func 94) #[] ⟨z5⟩)] w4.heap.size [⟨w.heap.size,0,[.slice q nodes.length d,.map (some m)],108,true⟩,⟨f.heap.size,0,[.map (some a.heap.size)],149,true⟩] (H.lies (M:=[⟨w.heap.size,0,[.slice q nodes.length d,.map (some m)],108,true⟩,⟨f.heap.size,0,[.map (some a.heap.size)],149,true⟩])) fun w5 p2 n1 r0=>?_
  replace B:=B.trans (H.keptB (M:=[⟨w.heap.size,0,[.slice q nodes.length d,.map (some m)],108,true⟩,⟨f.heap.size,0,[.map (some a.heap.size)],149,true⟩]) r0)
  replace H:AU w.heap.size w5 (List.map Th.ent [⟨w.heap.size,0,[.slice q nodes.length d,.map (some m)],108,true⟩,⟨f.heap.size,0,[.map (some a.heap.size)],149,true⟩]++[AY.th Ht a.heap.size ml,BP A c r]):=H.run (M:=[⟨w.heap.size,0,[.slice q nodes.length d,.map (some m)],108,true⟩,⟨f.heap.size,0,[.map (some a.heap.size)],149,true⟩]) (M':=[⟨w.heap.size,0,[.slice q nodes.length d,.map (some m)],108,true⟩,⟨f.heap.size,0,[.map (some a.heap.size)],149,true⟩]) n1 r0 rfl
  have G:=H.goods (M:=[⟨w.heap.size,0,[.slice q nodes.length d,.map (some m)],108,true⟩,⟨f.heap.size,0,[.map (some a.heap.size)],149,true⟩])
  have b1:=G _ (List.mem_of_getElem? (i:=0) rfl)
  have a1:=G _ (List.mem_of_getElem? (i:=1) rfl)
  have x1:AY.at Ht a.heap.size ml w5:=H.all 2 _ rfl
  refine Cw 93 [.tmp 15,.tmp 16] (some 17) [.slice q nodes.length d,.func (.func 94) #[] ⟨z5⟩] ((Ms (Ed ml ns) q nodes d 94 z5 w5 (FB.below b0 B) hl (by kernel_rfl) (fun u b e he=>by
   have Bu:=B.trans (b.mono B.size)
   rw [← hns]
   exact VM e f.heap.size a.heap.size ml w.heap.size q nodes.length d m xs u (Nat.lt_of_lt_of_le a1.1 b.size) (Ac (Ju a1) a1.1 b) (AY.below x1 b) (Nat.lt_of_lt_of_le b1.1 b.size) (Ac (Ju b1) b1.1 b) (AY.below hn Bu) ((Hg xs).fr w u hf Bu.size (fun k _ hk=>Bu.block k hk)) (k0 e he) (by rw [hns]; exact (c0 e).1) (by rw [hns]; exact (c0 e).2))).mono fun en w6 hh=>?_)
  obtain ⟨rfl,b6⟩:=hh
  refine ⟨_,rfl,?_⟩
  replace B:=B.trans (b6.mono B.size)
  replace H:AU w.heap.size w6 (List.map Th.ent [⟨w.heap.size,0,[.slice q nodes.length d,.map (some m)],108,true⟩,⟨f.heap.size,0,[.map (some a.heap.size)],149,true⟩]++[AY.th Ht a.heap.size ml,BP A c r]):=H.below b6
  refine Am 60 (AE XE) w6.heap.size [⟨w.heap.size,0,[.slice q nodes.length d,.map (some m)],108,true⟩,⟨f.heap.size,0,[.map (some a.heap.size)],149,true⟩] [] Rz [(1,.pointer (some ⟨w.heap.size,0,none⟩)),(4,.slice A r.length c),(5,.pointer (some ⟨f.heap.size,0,none⟩)),(6,D (Cp (Ed ml ns) nodes)),(19,.bool z8)] w6.heap.size [⟨w.heap.size,0,[.slice q nodes.length d,.map (some m)],108,true⟩,⟨f.heap.size,0,[.map (some a.heap.size)],149,true⟩] (H.lies (M:=[⟨w.heap.size,0,[.slice q nodes.length d,.map (some m)],108,true⟩,⟨f.heap.size,0,[.map (some a.heap.size)],149,true⟩])) fun w7 m2 m1 q0=>?_
  replace B:=B.trans (H.keptB (M:=[⟨w.heap.size,0,[.slice q nodes.length d,.map (some m)],108,true⟩,⟨f.heap.size,0,[.map (some a.heap.size)],149,true⟩]) q0)
  replace H:AU w.heap.size w7 (List.map Th.ent [⟨w.heap.size,0,[.slice q nodes.length d,.map (some m)],108,true⟩,⟨f.heap.size,0,[.map (some a.heap.size)],149,true⟩]++[AY.th Ht a.heap.size ml,BP A c r]):=H.run (M:=[⟨w.heap.size,0,[.slice q nodes.length d,.map (some m)],108,true⟩,⟨f.heap.size,0,[.map (some a.heap.size)],149,true⟩]) (M':=[⟨w.heap.size,0,[.slice q nodes.length d,.map (some m)],108,true⟩,⟨f.heap.size,0,[.map (some a.heap.size)],149,true⟩]) m1 q0 rfl
  refine Cf z8 (fun c8=>?_) (fun c8=>?_)
  ·rw [c8] at hv
   change Gk nodes ns=([],11) at hv
   replace H:=H.addNil 3 1 (fun e r=>r=Fs e)
   refine Eg (fn:=Tryz.f51) 60 (.tuple #[.slice none 0 0,D 11]) fun wz Bz=>⟨none,0,by rw [hv] <;> rfl,B.trans (Bz.mono B.size),?_⟩
   rw [hv]
   exact (H.below Bz).pick [4] rfl (by decide)
  ·rw [c8] at hv
   have d0:=Mt c8
   change Gk nodes ns=Ig nodes ns (nodes.length - r.length) (r++[nodes.getD (Cp (Ed ml ns) nodes).toNat default]) ((nodes.getD (Cp (Ed ml ns) nodes).toNat default,true) :: ml) at hv
   rw [d0.1]
   have hd:=getD_some default d0.2
   have y0:=Ee (l:=nodes) d0.2
   generalize (Cp (Ed ml ns) nodes).toNat=ix at hv d0 hd y0 ⊢
   generalize nodes.getD ix default=x at hv hd y0
   obtain ⟨o,p,rfl,z0,i1⟩:=b0.all (Nat.lt_of_le_of_lt (Nat.zero_le _) d0.2)
   let z2:List BI:=[⟨w.heap.size,0,[.slice (some ⟨o,p,none⟩) nodes.length d,.map (some m)],108,true⟩,⟨f.heap.size,0,[.map (some a.heap.size)],149,true⟩]
   refine Am (JO 7 90 (AL Rz)) (AL Rz) w7.heap.size z2 [] NA [(1,.pointer (some ⟨w.heap.size,0,none⟩)),(4,.slice A r.length c),(5,.pointer (some ⟨f.heap.size,0,none⟩)),(6,D (ix:Int))] w7.heap.size z2 (H.lies (M:=z2)) fun w8 l2 k1 p0=>?_
   replace B:=B.trans (H.keptB (M:=z2) p0)
   replace H:AU w.heap.size w8 (List.map Th.ent z2++[AY.th Ht a.heap.size ml,BP A c r]):=H.run (M:=z2) (M':=z2) k1 p0 rfl
   have G:=H.goods (M:=z2)
   refine C4 QW 7 ?_
   refine C5 (i:=1) (v:=.pointer (some ⟨w.heap.size,0,none⟩)) (QW.getD 1 default) (fun _ _ _ h=>nomatch h.1) ?_
   refine CG (md:=.any) (fuel:=1) (L:=[AN 0 [] (.map (some a.heap.size)),AN 2 [] (.slice (some ⟨o,p,none⟩) nodes.length d),AN 3 [] (D (ix:Int)),AN 4 [2,3] (.pointer (some ⟨o,p + ix * 1,none⟩)),AN 5 [2,3,4] (D (x:Int))]) (W:=m8) (C:=fun u=>Below w8.heap.size w8 u) (Ext:=Ck) (Below.refl _ _).drew Ck.refl (fun _ _ _=>Ck.trans) ⟨?_,?_,?_,?_,?_,trivial⟩ rfl ?_
   ·refine ⟨fun _ _ _ _ _ h=>h,fun s u hu hb=>?_⟩
    exact AH.knownE [] (by kernel_rfl) trivial (AH.reads ⟨0,z2,(1,0),[]⟩ (Az G hu) (.map (some a.heap.size)) ⟨hu,.refl _,rfl⟩)
   ·refine ⟨fun _ _ _ _ _ h=>h,fun s u hu hb=>?_⟩
    exact AH.knownE [] (by kernel_rfl) trivial (AH.reads ⟨0,z2,(0,0),[]⟩ (Az G hu) (.slice (some ⟨o,p,none⟩) nodes.length d) ⟨hu,.refl _,rfl⟩)
   ·refine ⟨fun _ _ _ _ _ h=>h,fun s u hu hb=>?_⟩
    exact AH.knownE [] (by kernel_rfl) trivial (AH.reads ⟨0,[],(0,0),[]⟩ (fun e he=>by cases he) (D (ix:Int)) ⟨hu,.refl _,rfl⟩)
   ·refine ⟨fun _ _ _ _ _ h=>h,fun s u hu hb=>?_⟩
    obtain ⟨h2,h3,_⟩:=hb
    exact AH.knownE [(22,2,.slice (some ⟨o,p,none⟩) nodes.length d),(23,3,D (ix:Int))] (by kernel_rfl) ⟨(List.cons.inj h2).1,(List.cons.inj h3).1,trivial⟩ (AH.value (h:=(Bd (sz:=1) (cap:=d) 56 (.tmp 22) (.tmp 23) rfl rfl d0.2 Tryz.underlying56)) ⟨hu,.refl _,rfl⟩)
   ·refine ⟨fun _ _ _ _ _ h=>h,fun s u hu hb=>?_⟩
    obtain ⟨h2,h3,h4,_⟩:=hb
    have Bu:=B.trans (hu.mono B.size)
    exact AH.knownE [(24,4,.pointer (some ⟨o,p + ix * 1,none⟩))] (by kernel_rfl) ⟨(List.cons.inj h4).1,trivial⟩ (AH.reads ⟨0,[⟨o,p + ix * 1,[D (x:Int)],3,false⟩],(0,0),[]⟩ (fun e he=>by rw [List.mem_singleton.1 he]; exact ⟨Nat.lt_of_lt_of_le z0 Bu.size,Ac (i1 ix x hd) z0 Bu⟩) (D (x:Int)) ⟨hu,.refl _,rfl⟩)
   intro s w9 b9 _ h1
   replace b9:Below w8.heap.size w8 w9:=b9
   obtain ⟨x0,x2,x3,x4,x5,_⟩:=h1
   replace B:=B.trans (b9.mono B.size)
   replace H:AU w.heap.size w9 (List.map Th.ent z2++[AY.th Ht a.heap.size ml,BP A c r]):=H.below b9
   refine DN [(1,.pointer (some ⟨w.heap.size,0,none⟩)),(4,.slice A r.length c),(5,.pointer (some ⟨f.heap.size,0,none⟩)),(6,D (ix:Int)),(20,s 0),(25,s 5)] fun E9=>?_
   rw [show s 0=.map (some a.heap.size) from (List.cons.inj x0).1,show s 5=D (x:Int) from (List.cons.inj x5).1]
   refine Za Ht H 2 rfl x true (k0 x y0) trivial (j:=6) (QW.getD 6 default) (by kernel_rfl) (by kernel_rfl) (by kernel_rfl) (t:=149) (x:=.tmp 20) (y:=.tmp 25) (z:=.const (.bool true)) (by kernel_rfl) rfl rfl rfl rfl (by omega) fun w0 Hn d2=>?_
   let z7:=(List.map Th.ent z2++[AY.th Ht a.heap.size ((x,true) :: ml),BP A c r])
   replace H:AU w.heap.size w0 z7:=Hn
   clear Hn
   replace B:=B.trans d2
   refine Cy ⟨rfl,At.mid ?_⟩
   refine Am (BA Ai 90 (AP NA)) (AP NA) w0.heap.size z2 [(0,0)] On [(1,.pointer (some ⟨w.heap.size,0,none⟩)),(4,.slice A r.length c),(5,.pointer (some ⟨f.heap.size,0,none⟩)),(26,.slice A r.length c),(28,.slice (some ⟨o,p,none⟩) nodes.length d),(29,D (ix:Int))] w0.heap.size z2 (H.lies (M:=z2)) fun a0 f2 e1 h0=>?_
   replace B:=B.trans (H.keptB (M:=z2) h0)
   replace H:AU w.heap.size a0 z7:=H.run (M:=z2) (M':=z2) e1 h0 rfl
   refine BH (g:=o) (off:=p) (cap:=d) (sz:=1) (k:=ix) (len:=nodes.length) (some 30) d0.2 Tryz.underlying56 ?_
   refine EA 3 o (p + ix * 1) (D (x:Int)) (some 31) (by simpa using Ac (i1 ix x hd) z0 B 0 _ rfl) ?_
   let z3:List BI:=[⟨w.heap.size,0,[.slice (some ⟨o,p,none⟩) nodes.length d,.map (some m)],108,true⟩,⟨f.heap.size,0,[.map (some a.heap.size)],149,true⟩,⟨a0.heap.size,0,[D (x:Int)],3,true⟩]
   refine Am (BA Bb 90 (AE (AE On))) (AE (AE On)) a0.heap.size z2 [] XD [(1,.pointer (some ⟨w.heap.size,0,none⟩)),(5,.pointer (some ⟨f.heap.size,0,none⟩)),(26,.slice A r.length c),(32,.slice (some ⟨a0.heap.size,0,none⟩) 1 1)] (a0.heap.size + 1) z3 (H.lies (M:=z2)) fun v1 e2 d1 f0=>?_
   replace B:=B.trans (H.keptB (M:=z2) f0)
   replace H:AU w.heap.size v1 (List.map Th.ent z3++[AY.th Ht a.heap.size ((x,true) :: ml),BP A c r]):=H.run (M:=z2) (M':=z3) d1 f0 rfl
   have G3:=H.goods (M:=z3)
   refine Ch H 4 rfl x [D (x:Int)] rfl (a0.heap.size) (G3 _ (List.mem_of_getElem? (i:=2) rfl)) (DM XD) (by kernel_rfl) (.tmp 26) (.tmp 32) 56 (by kernel_rfl) (by kernel_rfl) (by kernel_rfl) (by decide) (by kernel_rfl) (by kernel_rfl) rfl rfl (by ((try simp only [maxLen,List.length_map,List.length_append,List.length_cons,List.length_nil,List.length_singleton]) <;> omega)) fun A2 c2 v0 Hn a2=>?_
   let z6:=(List.map Th.ent z2++[AY.th Ht a.heap.size ((x,true) :: ml),BP A2 c2 (r++[x])])
   replace H:AU w.heap.size v0 z6:=Hn.pick [0,1,3,4] rfl (by decide)
   clear Hn
   replace B:=B.trans a2
   refine Am 60 (AE XD) v0.heap.size z2 [] (Aj R0) [(1,.pointer (some ⟨w.heap.size,0,none⟩)),(4,.slice A2 (r++[x]).length c2),(5,.pointer (some ⟨f.heap.size,0,none⟩))] v0.heap.size z2 (H.lies (M:=z2)) fun t1 s1 c1 e0=>?_
   replace B:=B.trans (H.keptB (M:=z2) e0)
   replace H:AU w.heap.size t1 z6:=H.run (M:=z2) (M':=z2) c1 e0 rfl
   refine i0 _ _ ⟨r++[x],(x,true) :: ml,A2,c2,s1,rfl,by rw [hv,List.length_append,List.length_singleton,show nodes.length + 1 - (r.length + 1)=nodes.length - r.length by omega],by ((try simp only [maxLen,List.length_map,List.length_append,List.length_cons,List.length_nil,List.length_singleton]) <;> omega),by ((try simp only [maxLen,List.length_map,List.length_append,List.length_cons,List.length_nil,List.length_singleton]) <;> omega),B,H⟩ ?_
   show nodes.length - Y9 (.slice A2 (r++[x]).length c2) < nodes.length - Y9 (.slice A r.length c)
   simp only [Y9,List.length_append,List.length_singleton]
   omega
 ·rw [show nodes.length + 1 - r.length=(nodes.length - r.length) + 1 by omega,Ig,c5] at hv
  change Gk nodes ns=(r,0) at hv
  refine Eg (fn:=Tryz.f51) 60 (.tuple #[.slice A r.length c,D 0]) fun wz Bz=>⟨A,c,by rw [hv] <;> rfl,B.trans (Bz.mono B.size),?_⟩
  rw [hv]
  exact (H.below Bz).pick [3] rfl (by decide)
end
end Go.Proofs.YtmcpjkcggfmcmaaGreatDoor
namespace Go.Proofs.YtmcpjkcggfmcmaaGreatDoor
noncomputable section
open Go.RowKit
set_option maxRecDepth 100000
set_option maxHeartbeats 1000000
def LW (ds:List Df) (l:List Nat):Prop:=(∀ j∈l,j < ds.length)∧l.length≤1000000
theorem J8 {ds:List Df} {b:List Nat} (d:∀ i∈b,i < ds.length):∀ (es:List Ex) (a:Int) (r:List Nat),(∀ j∈r,j < ds.length)→(∀ j∈(Dt ds b es a r).1,j < ds.length)∧(Dt ds b es a r).1.length≤r.length + es.length
 | [],a,r,h=>by
  rw [Dt]
  exact ⟨fun j c=>h j (bK.1 (Ue c)),by have:=Mz (GH r); rw [KT] at this; simpa using this⟩
 | e :: es,a,r,h=>by
  rw [Dt,List.length_cons]
  cases hm:!(Ax ds b e).2
  ·simp only [cond_false]
   cases Bp (ds.getD (Ax ds b e).1 default)
   ·have:=J8 d es a r h
    exact ⟨this.1,by have:=this.2; simp only [cond_false]; omega⟩
   ·have:=J8 d es a (r++[(Ax ds b e).1]) (fun j c=>by
     rcases List.mem_append.1 c with c | c
     ·exact h j c
     ·rw [List.mem_singleton.1 c]; exact Lv d hm)
    rw [List.length_append,List.length_singleton] at this
    exact ⟨this.1,by have:=this.2; simp only [cond_true]; omega⟩
  ·exact ⟨fun j c=>(by cases c),Nat.zero_le _⟩
theorem cE {ds:List Df} {a:List Nat} {i:Nat} (b:∀ i∈a,i < ds.length) (hi:i < ds.length) (hn:∀ d∈ds,nE d.body≤1000000):LW ds (DS ds a i).1:=by
 have h:=J8 b (BV [] ((ds.getD i default).body)) 0 [] (fun j c=>by cases c)
 have e:=PN (ds.getD i default).body
 have h2:=hn _ (Ee hi)
 exact ⟨h.1,by have:=h.2; simp only [List.length_nil] at this; exact Nat.le_trans this (by omega)⟩
theorem Ih {ds:List Df} {p1:Int} (hn:∀ d∈ds,nE d.body≤1000000):∀ (es:List Nat) (a0:Int) (b:List Nat) (a2:List (Nat×List Nat)),(∀ i∈es,i < ds.length)→(∀ i∈b,i < ds.length)→(∀ p∈a2,LW ds p.2)→
  (∀ i∈(Bj ds p1 es a0 b a2).1,i < ds.length)∧(Bj ds p1 es a0 b a2).1.length≤b.length + es.length∧∀ p∈(Bj ds p1 es a0 b a2).2.1,LW ds p.2
 | [],a0,b,a2,_,h1,h2=>by rw [Bj]; exact ⟨h1,Nat.le_refl _,h2⟩
 | e :: es,a0,b,a2,h0,h1,h2=>by
  have he:e < ds.length:=h0 e (by simp)
  have c:∀ i∈es,i < ds.length:=fun i hi=>h0 i (by simp [hi])
  rw [Bj,List.length_cons]
  cases !(Bp (ds.getD e default))
  ·simp only [cond_false]
   cases !((DS ds (BC ds p1) e).2 == 0)
   ·have:=Ih (p1:=p1) hn es a0 (b++[e]) ((e,(DS ds (BC ds p1) e).1) :: a2) c (fun j a=>by
     rcases List.mem_append.1 a with a | a
     ·exact h1 j a
     ·rw [List.mem_singleton.1 a]; exact he) (fun p f=>by
     rcases List.mem_cons.1 f with rfl | f
     ·exact cE FZ he hn
     ·exact h2 p f)
    simp only [List.length_append,List.length_singleton] at this
    exact ⟨this.1,by have:=this.2.1; simp only [cond_false]; omega,this.2.2⟩
   ·exact ⟨fun j a=>(by cases a),Nat.zero_le _,fun j a=>(by cases a)⟩
  ·have:=Ih (p1:=p1) hn es a0 b a2 c h1 h2
   exact ⟨this.1,by have:=this.2.1; simp only [cond_true]; omega,this.2.2⟩
theorem Mk {n:List UInt8} {ds:List Df} {p1:Int} (hn:∀ d∈ds,nE d.body≤1000000):(∀ i∈(BT n ds p1).1,i < ds.length)∧(BT n ds p1).1.length≤ds.length∧∀ p∈(BT n ds p1).2.1,LW ds p.2:=by
 unfold BT
 cases !(EF n ds p1 == 0)
 ·have:=Ih (p1:=p1) hn (BC ds p1) 0 [] [] FZ (fun j a=>by cases a) (fun j a=>by cases a)
  have hl:=Ks (ds:=ds) (p1:=p1)
  exact ⟨this.1,by have:=this.2.1; simp only [List.length_nil] at this; exact Nat.le_trans this (by omega),this.2.2⟩
 ·exact ⟨fun j a=>(by cases a),Nat.zero_le _,fun j a=>(by cases a)⟩
theorem Mm {β:Type} {P:β→Prop} {d:β} (hd:P d):∀ (m:List (Nat×β)) (i:Nat),(∀ p∈m,P p.2)→P ((CA m i).getD d)
 | [],_,_=>hd
 | p :: m,i,h=>by
  rw [CA]
  by_cases hp:p.1=i
  ·rw [if_pos hp]; exact h p (by simp)
  ·rw [if_neg hp]; exact Mm hd m i fun q a=>h q (by simp [a])
theorem Mi {nodes:List Nat} {ns:List (Nat×List Nat)}:∀ (k:Nat) (r:List Nat) (a:List (Nat×Bool)),(∀ i∈r,i∈nodes)→r.length≤nodes.length→(∀ i∈(Ig nodes ns k r a).1,i∈nodes)∧(Ig nodes ns k r a).1.length≤nodes.length
 | 0,r,a,h,hl=>⟨h,hl⟩
 | k + 1,r,a,h,hl=>by
  rw [Ig]
  cases hc:decide ((r.length:Int) < (nodes.length:Int))
  ·exact ⟨h,hl⟩
  ·simp only [cond_true]
   have hc:=of_decide_eq_true hc
   cases hx:decide (Cp (Ed a ns) nodes < 0)
   ·exact Mi k _ _ (fun i hi=>by
     rcases List.mem_append.1 hi with hi | hi
     ·exact h i hi
     ·rw [List.mem_singleton.1 hi]; exact Ee (Mt hx).2) (by rw [List.length_append,List.length_singleton]; omega)
   ·exact ⟨fun j b=>(by cases b),Nat.zero_le _⟩
def Au (n:List UInt8) (ds:List Df) (p1:Int):List Nat×Int:=cond (!((BT n ds p1).2.2 == 0)) ([],(BT n ds p1).2.2) (Gk (BT n ds p1).1 (BT n ds p1).2.1)
theorem FD {n:List UInt8} {ds:List Df} {p1:Int} (hn:∀ d∈ds,nE d.body≤1000000):(∀ i∈(Au n ds p1).1,i < ds.length)∧(Au n ds p1).1.length≤ds.length:=by
 unfold Au
 have h:=Mk (n:=n) (p1:=p1) hn
 cases !((BT n ds p1).2.2 == 0)
 ·have h2:=Mi (nodes:=(BT n ds p1).1) (ns:=(BT n ds p1).2.1) ((BT n ds p1).1.length + 1) [] [] (fun j a=>(by cases a)) (Nat.zero_le _)
  exact ⟨fun i hi=>h.1 i (h2.1 i hi),Nat.le_trans h2.2 h.2.1⟩
 ·exact ⟨fun j a=>(by cases a),Nat.zero_le _⟩
noncomputable def Up:Code:=Tryz.f19.body.getD .skip
def X9:=AB 60 ([.code Up])
def X8:=AB 60 (AE X9)
def v8:=AB 60 (AL X8)
theorem eA (f:List UInt8) (a:Option Addr) (ds:List (Df)) (b:Nat) (p1:Int) (w:World) (b0:rowsDf w a ds) (k:ds.length≤4294967296) (hs:f.length≤4294967296) (ht:∀ d∈ds,IJ d) (a0:∀ d∈ds,Dq d.body) (hn:∀ d∈ds,nE d.body≤1000000):Calls Tryz.prog 19 ([.agg ⟨[.string ⟨⟨f⟩⟩,.slice a ds.length b]⟩,D p1]:List Value).toArray w fun e w'=>∃ (s:Option Addr) (q:Nat),e=.returned (.tuple #[.slice s (Au f ds p1).1.length q,D (Au f ds p1).2])∧Below w.heap.size w w'∧AU w.heap.size w' [BP s q (Au f ds p1).1]:=by
 let z2:List Value:=[.string ⟨⟨f⟩⟩,.slice a ds.length b]
 refine GD (args:=[.agg ⟨z2⟩,D p1]) (fn:=Tryz.f19) (c:=Up) (n:=21) ?_
 have B:Below w.heap.size w w:=Below.refl _ _
 have H:AU w.heap.size w (List.map Th.ent []++[]):=AU.nil (Nat.le_refl _)
 let z1:List BI:=[⟨w.heap.size,0,z2,38,true⟩]
 refine Am 60 ([.code Up]) w.heap.size [] [(0,0)] X9 [(1,D p1),(2,.pointer (some ⟨w.heap.size,0,none⟩)),(9,.agg ⟨z2⟩),(10,D p1)] (w.heap.size + 1) z1 (H.lies (M:=[])) fun w1 E1 f0 d0=>?_
 replace B:=B.trans (H.keptB (M:=[]) d0)
 replace H:AU w.heap.size w1 (List.map Th.ent z1++[]):=H.run (M:=[]) (M':=z1) f0 d0 rfl
 refine Cw 50 [.tmp 9,.tmp 10] (some 11) [.agg ⟨z2⟩,D p1] ((UD f a ds b p1 w1 (b0.below B) k hs ht a0 hn).mono fun en h hh=>?_)
 have t:=Mk (n:=f) (p1:=p1) hn
 have hO:Au f ds p1=_:=rfl
 rw [show Au f ds p1=cond (!((BT f ds p1).2.2 == 0)) ([],(BT f ds p1).2.2) (Gk (BT f ds p1).1 (BT f ds p1).2.1) from rfl]
 clear hO
 generalize BT f ds p1=g at hh t ⊢
 obtain ⟨nodes,ns,z⟩:=g
 rcases hh with ⟨o,l,m,p,rfl,v,b2,h0,Hn⟩ | ⟨rfl,h0,b2⟩
 ·replace v:p.map Ix=ns:=v
  obtain rfl:z=0:=h0
  replace Hn:AU w1.heap.size h [BP o l nodes,AY.th KD m (p.map KZ),Hg p]:=Hn
  refine ⟨_,rfl,?_⟩
  replace H:AU w.heap.size h (List.map Th.ent z1++[BP o l nodes,AY.th KD m (p.map KZ),Hg p]):=H.join b2 Hn
  replace B:=B.trans (b2.mono B.size)
  let z4:List Value:=[.slice o nodes.length l,.map (some m)]
  let z0:List BI:=[⟨w.heap.size,0,z2,38,true⟩,⟨h.heap.size,0,z4,108,true⟩]
  refine Am 60 (AE X9) h.heap.size z1 [(1,0)] X8 [(6,.pointer (some ⟨h.heap.size,0,none⟩)),(7,D 0),(15,.bool (!((0:Int) == 0)))] (h.heap.size + 1) z0 (H.lies (M:=z1)) fun w3 E3 y u=>?_
  replace B:=B.trans (H.keptB (M:=z1) u)
  let z5:=List.map Th.ent z0++[BP o l nodes,AY.th KD m (p.map KZ),Hg p]
  replace H:AU w.heap.size w3 z5:=H.run (M:=z1) (M':=z0) y u rfl
  refine Cf (!((0:Int) == 0)) (fun c4=>?_) (fun c4=>?_)
  ·exact absurd c4 (by decide)
  ·refine Am 60 (AL X8) w3.heap.size z0 [(1,0)] v8 [(17,.agg ⟨z4⟩)] w3.heap.size z0 (H.lies (M:=z0)) fun w4 E4 e0 c0=>?_
   replace B:=B.trans (H.keptB (M:=z0) c0)
   replace H:AU w.heap.size w4 z5:=H.run (M:=z0) (M':=z0) e0 c0 rfl
   subst v
   refine Cw 51 [.tmp 17] (some 18) [.agg ⟨z4⟩] ((cB o nodes l m p w4 (H.rowsNat 2 rfl) (Nat.le_trans t.2.1 k) (H.all 3 _ rfl) (H.all 4 _ rfl) (fun j x=>Nat.le_trans (Nat.le_of_lt (t.1 j x)) k) (fun i=>⟨fun j x=>?_,?_⟩)).mono fun en w5 hh=>?_)
   ·exact Nat.le_trans (Nat.le_of_lt ((Mm (P:=LW ds) ⟨fun j x=>(by cases x),Nat.zero_le _⟩ _ i t.2.2).1 j x)) k
   ·exact Nat.le_trans (Mm (P:=LW ds) ⟨fun j x=>(by cases x),Nat.zero_le _⟩ _ i t.2.2).2 (by decide)
   obtain ⟨s,q,rfl,b5,Hr⟩:=hh
   refine ⟨_,rfl,?_⟩
   replace B:=B.trans (b5.mono B.size)
   refine Eg (fn:=Tryz.f19) 60 (.tuple #[.slice s (Gk nodes (p.map Ix)).1.length q,D (Gk nodes (p.map Ix)).2]) fun wz Bz=>⟨s,q,rfl,B.trans (Bz.mono B.size),(Hr.below Bz).mono H.base⟩
 ·skip
  replace h0:¬ z=0:=h0
  refine ⟨_,rfl,?_⟩
  replace H:AU w.heap.size h (List.map Th.ent z1++[]):=H.below b2
  replace B:=B.trans (b2.mono B.size)
  let z3:List BI:=[⟨w.heap.size,0,z2,38,true⟩,⟨h.heap.size,0,[.slice none 0 0,.map none],108,true⟩]
  refine Am 60 (AE X9) h.heap.size z1 [(1,0)] X8 [(6,.pointer (some ⟨h.heap.size,0,none⟩)),(7,D z),(15,.bool (!((z:Int) == 0)))] (h.heap.size + 1) z3 (H.lies (M:=z1)) fun w3 E3 y u=>?_
  replace B:=B.trans (H.keptB (M:=z1) u)
  replace H:AU w.heap.size w3 (List.map Th.ent z3++[]):=H.run (M:=z1) (M':=z3) y u rfl
  refine Cf (!((z:Int) == 0)) (fun c4=>?_) (fun c4=>?_)
  ·replace H:=H.addNil 3 1 (fun e r=>r=Fs e)
   rw [c4]
   refine Eg (fn:=Tryz.f19) 60 (.tuple #[.slice none 0 0,D z]) fun wz Bz=>⟨none,0,rfl,B.trans (Bz.mono B.size),(H.below Bz).pick [2] rfl (by decide)⟩
  ·simp [h0] at c4
end
end Go.Proofs.YtmcpjkcggfmcmaaGreatDoor

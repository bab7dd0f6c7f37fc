/-
  Part 51 of a proof: contracts of functions.
-/
import Derived.Test.YtmcpjkcggfmcmaaGreatDoorD48
import Derived.Test.YtmcpjkcggfmcmaaGreatDoorD50
import Derived.Test.YtmcpjkcggfmcmaaGreatDoorD37
import Derived.Test.YtmcpjkcggfmcmaaGreatDoorD09
set_option linter.all false
namespace Go.Proofs.YtmcpjkcggfmcmaaGreatDoor
noncomputable section
open Go.RowKit
set_option maxRecDepth 100000
set_option maxHeartbeats 1000000
attribute [local irreducible] BO CB AE AG AL Ay Aj AP Bc Cq Eb CT CO At Fr
def OP:Ex:=.mk 1 2 1 0 0 0 [] 0 0 []
def ON:Ex:=.mk 3 0 0 0 0 0 [98] 0 0 []
def OO:Ex:=.mk 3 0 0 0 0 0 [97] 0 0 []
def OQ:Ex:=.mk 7 0 0 0 0 0 [] 0 0 [OP,ON]
def ZM:Ex:=.mk 5 0 0 0 0 0 [] 0 0 [OO,OQ]
def rR:Ex:=.mk 0 0 0 0 0 0 [] 0 0 []
def Jg (n:UInt8):Df:=⟨1,[n],false,0,0,0,0,[],rR,0,0,0⟩
def OS:Df:=⟨3,[114],false,0,0,0,0,[],ZM,0,0,0⟩
def Ic:List Df:=[Jg 97,Jg 98,OS]
def PH:List AK:=[(2,0,0,0,0,0),(1,0,2,1,0,0),(2,1,0,0,0,0),(7,0,0,0,0,0),(5,0,0,0,0,0)]
def Lc:DL:=([114],false,0,0,0,PH)
theorem uJ:CF [109] Ic 0=([[97],[98]],[],[],[Lc],0):=by kernel_rfl
theorem uI:(CF [109] Ic (-1)).2.2.2.2=2:=by kernel_rfl
theorem nI:DP [[97],[98]] [] [] [Lc]=true:=by kernel_rfl
theorem rX:Lc.1++[58,10]++KE PH 0=[114,58,10,32,32,48,32,105,110,112,117,116,32,48,10,32,32,49,32,112,117,115,104,32,50,10,32,32,50,32,105,110,112,117,116,32,49,10,32,32,51,32,109,117,108,10,32,32,52,32,97,100,100,10]:=by kernel_rfl
theorem JP (w:World):rowsEx w none []:=⟨[],rfl,.inl rfl⟩
theorem Le (w:World):DW w none []:=.inl rfl
theorem Ti {w:World} {b:Nat} (e:BI.good w ⟨b,0,[CW OP none 0,CW ON none 0].flatten,32,true⟩) (d:BI.good w ⟨b + 1,0,[CW OO none 0,CW OQ (some ⟨b,0,none⟩) 2].flatten,32,true⟩) (c:BI.good w ⟨b + 3,0,[Ce (Jg 97) none 0 none 0,Ce (Jg 98) none 0 none 0,Ce OS none 0 (some ⟨b + 1,0,none⟩) 2].flatten,34,true⟩):rowsDf w (some ⟨b + 3,0,none⟩) Ic:=by
 have a:rowsEx w (some ⟨b,0,none⟩) [OP,ON]:=⟨[CW OP none 0,CW ON none 0],⟨_,_,rfl,LN (JP w),_,_,rfl,LN (JP w),rfl⟩,F2 (by simp) e⟩
 have h2:rowsEx w (some ⟨b + 1,0,none⟩) [OO,OQ]:=⟨[CW OO none 0,CW OQ (some ⟨b,0,none⟩) 2],⟨_,_,rfl,LN (JP w),_,_,rfl,LN a,rfl⟩,F2 (by simp) d⟩
 exact ⟨[Ce (Jg 97) none 0 none 0,Ce (Jg 98) none 0 none 0,Ce OS none 0 (some ⟨b + 1,0,none⟩) 2],⟨_,_,rfl,JW (Le w) (JP w),_,_,rfl,JW (Le w) (JP w),_,_,rfl,JW (Le w) h2,rfl⟩,F2 (by simp) c⟩
theorem rI:∀ x∈PH,Tc x:=by
 intro x a
 simp only [PH,List.mem_cons,List.not_mem_nil,or_false] at a
 rcases a with rfl | rfl | rfl | rfl | rfl <;> simp [Tc]
noncomputable def dH:Code:=Tryz.f10.body.getD .skip
def om:=AB 60 ([.code dH])
def ol:=AB 60 (AE om)
def oj:=Ad 5 (AE ol)
def vN:=AB 60 (AP oj)
theorem Tg (w:World) (a0:Hs w):Calls Tryz.prog 10 ([]:List Value).toArray w fun e w'=>e=.returned (.bool true)∧Below w.heap.size w w':=by
 refine Af (args:=[]) (fn:=Tryz.f10) (c:=dH) (n:=46) ?_
 have K1:=Wk.start w
 let z1:Option Addr:=some ⟨w.heap.size + 1,0,none⟩
 let z2:List Value:=[.string ⟨⟨[109]⟩⟩,.slice (some ⟨w.heap.size + 3,0,none⟩) 3 3]
 refine C8 om [⟨w.heap.size,0,[CW OP none 0,CW ON none 0].flatten,32,true⟩,⟨w.heap.size + 1,0,[CW OO none 0,CW OQ (some ⟨w.heap.size,0,none⟩) 2].flatten,32,true⟩,⟨w.heap.size + 2,0,CW ZM z1 2,32,true⟩,⟨w.heap.size + 3,0,[Ce (Jg 97) none 0 none 0,Ce (Jg 98) none 0 none 0,Ce OS none 0 z1 2].flatten,34,true⟩,⟨w.heap.size + 4,0,z2,38,true⟩] K1 [(2,0),(2,0),(4,0),(4,0)] fun w1 t=>?_
 have r:∀ d∈Ic,IJ d:=by
  intro d hd
  simp only [Ic,List.mem_cons,List.not_mem_nil,or_false] at hd
  rcases hd with rfl | rfl | rfl <;> simp [IJ,Jg,OS,rR,ZM,OO,OQ,OP,ON,Dq,Ik]
 have f2:∀ d∈Ic,d.ents.length≤4294967296:=by
  intro d hd
  simp only [Ic,List.mem_cons,List.not_mem_nil,or_false] at hd
  rcases hd with rfl | rfl | rfl <;> simp [Jg,OS]
 have f3:∀ d∈Ic,nE d.body≤1000000:=by
  intro d hd
  simp only [Ic,List.mem_cons,List.not_mem_nil,or_false] at hd
  rcases hd with rfl | rfl | rfl <;> decide
 refine CJ (JN [109] _ Ic 3 0 w1 (Ti (t.ent 0 rfl) (t.ent 1 rfl) (t.ent 3 rfl)) (by decide) (by decide) r (by decide) f2 (fun d hd=>(r d hd).1) f3) fun en w2 q=>?_
 rw [uJ] at q
 obtain ⟨m,j,l,i,x1,k,h,f,g,v,rfl,q1,q3,b2,H2⟩:=q
 refine ⟨_,rfl,?_⟩
 obtain rfl:x1=[]:=List.map_eq_nil_iff.1 q1
 have l3:v.length=1:=by have:=congrArg List.length q3; simpa using this
 rw [l3]
 have K3:=t.join b2 H2
 let z0:List Value:=[.slice m 2 j,.slice l 0 i,.slice k 0 h,.slice f 1 g]
 refine C8 ol [⟨w.heap.size,0,[CW OP none 0,CW ON none 0].flatten,32,true⟩,⟨w.heap.size + 1,0,[CW OO none 0,CW OQ (some ⟨w.heap.size,0,none⟩) 2].flatten,32,true⟩,⟨w.heap.size + 2,0,CW ZM z1 2,32,true⟩,⟨w.heap.size + 3,0,[Ce (Jg 97) none 0 none 0,Ce (Jg 98) none 0 none 0,Ce OS none 0 z1 2].flatten,34,true⟩,⟨w.heap.size + 4,0,z2,38,true⟩,⟨w2.heap.size,0,z0,43,true⟩] K3 [(5,0),(4,0)] fun w3 s=>?_
 refine CJ (JN [109] _ Ic 3 (-1) w3 (Ti (s.ent 0 rfl) (s.ent 1 rfl) (s.ent 3 rfl)) (by decide) (by decide) r (by decide) f2 (fun d hd=>(r d hd).1) f3) fun en w4 q=>?_
 rw [uI] at q
 obtain ⟨_,_,_,_,_,_,_,_,_,_,rfl,_,_,b4,_⟩:=q
 refine ⟨_,rfl,?_⟩
 have K5:=s.below b4
 refine mt 5 oj K5 [(6,0)] fun z K6=>?_
 have o:Wk w z [⟨w2.heap.size,0,z0,43,true⟩] [Bo m j [[97],[98]],EZ l i [],DY [],Bo k h [],Hw f g v,F0 v] []:=K6.pk [5] [0,1,2,3,4,5]
 have hR:∀ u,Below z.heap.size z u→rowsRt u f [Lc]:=fun u hu=>by
  have:=(o.H.rowsRt 5 6 rfl rfl).below hu
  rwa [q3] at this
 refine Ao o [(7,0,0),(11,0,0)] [⟨8,[(38,.agg ⟨z0⟩)],.bool true,true⟩,⟨12,[(42,.agg ⟨z0⟩)],.string ⟨⟨[114,58,10,32,32,48,32,105,110,112,117,116,32,48,10,32,32,49,32,112,117,115,104,32,50,10,32,32,50,32,105,110,112,117,116,32,49,10,32,32,51,32,109,117,108,10,32,32,52,32,97,100,100,10]⟩⟩,true⟩,⟨13,[(43,.string ⟨⟨[114,58,10,32,32,48,32,105,110,112,117,116,32,48,10,32,32,49,32,112,117,115,104,32,50,10,32,32,50,32,105,110,112,117,116,32,49,10,32,32,51,32,109,117,108,10,32,32,52,32,97,100,100,10]⟩⟩)],.bool true,true⟩] o.G (fun sp p=>?_) fun w6 E6 K8=>?_
 ·simp only [List.mem_cons,List.not_mem_nil,or_false] at p
  rcases p with rfl | rfl | rfl
  ·exact AX 9 [.tmp 38] [.agg ⟨z0⟩] (fun _=>by kernel_rfl) fun hc u hu=>AR hu (by
    have:=Ro m [[97],[98]] j l [] i k [] h f [Lc] g u ((o.H.rowsStr 1 rfl).below hu) (by decide) ((o.H.rowsSc 2 3 rfl rfl).below hu) (by decide) ((o.H.rowsStr 4 rfl).below hu) (by decide) (hR u hu) (by decide) (fun e he=>by cases he) (fun e he=>by rw [List.mem_singleton.1 he]; decide)
    rw [nI] at this
    exact this)
  ·exact AX 28 [.tmp 42] [.agg ⟨z0⟩] (fun _=>by kernel_rfl) fun hc u hu=>AR hu (by
    have:=VO m l k f 2 0 0 j i h g Lc u (hR u hu) (by decide) (by decide) rI (Gp a0 (o.B.trans (hu.mono o.B.size)))
    rw [show Lc.2.2.2.2.2=PH from rfl,rX] at this
    exact this)
  ·exact An fun _ E u _=>IR (T:=9) (T':=9) (x:=.tmp 43) (y:=.const (.string ⟨⟨[114,58,10,32,32,48,32,105,110,112,117,116,32,48,10,32,32,49,32,112,117,115,104,32,50,10,32,32,50,32,105,110,112,117,116,32,49,10,32,32,51,32,109,117,108,10,32,32,52,32,97,100,100,10]⟩⟩)) (a:=[114,58,10,32,32,48,32,105,110,112,117,116,32,48,10,32,32,49,32,112,117,115,104,32,50,10,32,32,50,32,105,110,112,117,116,32,49,10,32,32,51,32,109,117,108,10,32,32,52,32,97,100,100,10]) (b:=[114,58,10,32,32,48,32,105,110,112,117,116,32,48,10,32,32,49,32,112,117,115,104,32,50,10,32,32,50,32,105,110,112,117,116,32,49,10,32,32,51,32,109,117,108,10,32,32,52,32,97,100,100,10])
 refine AC vN K8 [] fun w7 K9=>?_
 exact Ab K9 (0,0) (.bool true) ⟨rfl,K9.B⟩
end
end Go.Proofs.YtmcpjkcggfmcmaaGreatDoor
namespace Go.Proofs.YtmcpjkcggfmcmaaGreatDoor
noncomputable section
open Go.RowKit
set_option maxRecDepth 100000
set_option maxHeartbeats 1000000
theorem He.more {w:World} {b a:Nat} {v:Value} {ns:List Int} (h:He w b v ns) (hb:b≤a):He w a v ns:=by
 obtain ⟨A,c,rfl,f,h2,d⟩:=h
 exact ⟨A,c,rfl,f,h2,fun hn=>let ⟨g,off,e,hg,hc⟩:=d hn; ⟨g,off,e,by omega,hc⟩⟩
def Ar:List UInt8:=[109,101,116,97,108]
def wq (w:World) (e:Ending) (w':World):Prop:=e=.returned (.bool true)∧Below w.heap.size w w'
noncomputable def Uq:Code:=Tryz.f5.body.getD .skip
def gR:=AB 60 [.code Uq]
def Ym:=AB 60 (AE gR)
def gQ:=AB 60 (AE Ym)
def Yl:=AB 60 (AE gQ)
def N5:=AB 60 (Ay Yl)
def TR:=AB (BA Ai 90 (AG N5)) (AG N5)
def gP:=AB (BA (NJ 3) 90 (AE TR)) (AE TR)
def Yk:=AB 60 (AE gP)
def wZ:=AB 60 (AG Yk)
def gO:=AB 60 (AL N5)
def Yj:=AB 60 (AE gO)
def qp:=Ad 11 (AE Yj)
theorem cd {R:Ending→World→Prop} (A:Option Addr) (c:Nat) (ds:List Df) (fr:Int) (E:Nat→Value) (w:World) (t0:rowsDf w A ds) (hok:∀ d∈ds,F4 3 d) (f3:ds.length≤30) (a1:ds.length≤c) (q2:-9223372036854775808≤fr) (p2:fr≤9223372036854775807) (hg:Tryz.prog.globals.size≤w.heap.size) (hR:Hs w) (hk:∀ w',Below w.heap.size w w'→R (.returned (.bool true)) w') :
  At Tryz.prog 5 R (AE Ym) (Fr 61 (Bc (Aw E [(1,D fr)]) (some 16) (.agg ⟨[.string ⟨⟨Ar⟩⟩,.slice A ds.length c]⟩))) w:=by
 have B:Below w.heap.size w w:=Below.refl _ _
 have H:AU w.heap.size w (List.map Th.ent []++[]):=AU.nil (Nat.le_refl _)
 let z9:List Value:=[.string ⟨⟨Ar⟩⟩,.slice A ds.length c]
 let z4:List BI:=[⟨w.heap.size,0,z9,38,true⟩]
 let z10:Option Addr:=some ⟨w.heap.size,0,none⟩
 refine Am 60 (AE Ym) w.heap.size [] [(0,0)] gQ [(6,.pointer z10),(17,D fr)] (w.heap.size + 1) z4 (H.lies (M:=[])) fun w1 q3 g2 f1=>?_
 replace B:=B.trans (H.keptB (M:=[]) f1)
 let z11:=List.map Th.ent z4++[]
 replace H:AU w.heap.size w1 z11:=H.run (M:=[]) (M':=z4) g2 f1 rfl
 refine Cw 6 [.tmp 17,.const (D 30)] (some 18) [D fr,D 30] ((Vt fr 30 w1 q2 p2 (by decide) (by decide)).mono fun en w2 hh=>?_)
 obtain ⟨rfl,rfl⟩:=hh
 refine ⟨_,rfl,?_⟩
 refine Am 60 (AE gQ) w1.heap.size z4 [] Yl [(6,.pointer z10),(7,D (IntKind.i64.wrap (20454 + fr % 30))),(8,D ((0:Nat):Int))] w1.heap.size z4 (H.lies (M:=z4)) fun w3 z2 f2 e1=>?_
 replace B:=B.trans (H.keptB (M:=z4) e1)
 replace H:AU w.heap.size w3 z11:=H.run (M:=z4) (M':=z4) f2 e1 rfl
 have m2:=Int.emod_nonneg fr (show (30:Int)≠0 by decide)
 have l2:=Int.emod_lt_of_pos fr (show (0:Int) < 30 by decide)
 rw [IntWalk.i64_in (20454 + fr % 30) (by omega)]
 have c2:0≤20454 + fr % 30:=by omega
 have a2:20454 + fr % 30 + 1≤84005:=by omega
 generalize 20454 + fr % 30=d at c2 a2
 clear m2 l2
 refine Bi (by kernel_rfl) (fun E wx=>∃ (i:Nat) (E0:Nat→Value),i≤ds.length∧E=Aw E0 [(6,.pointer z10),(7,D d),(8,D (i:Int))]∧(∀ (k:Nat) (e:Df),k < i→ds[k]?=some e→e.frm≠d + 1)∧Below w.heap.size w wx∧AU w.heap.size wx z11) (fun E _=>ds.length - AQ (E 8)) ⟨0,z2,Nat.zero_le _,rfl,fun k e hk=>absurd hk (Nat.not_lt_zero _),B,H⟩ ?_
 clear B H
 rintro E wx ⟨i,E0,hi,rfl,y1,B,H⟩ p1
 refine Am 60 (Ay Yl) wx.heap.size z4 [(0,1)] N5 [(6,.pointer z10),(7,D d),(8,D (i:Int)),(24,.bool (decide ((i:Int) < (ds.length:Int))))] wx.heap.size z4 (H.lies (M:=z4)) fun w4 m3 e2 d1=>?_
 replace B:=B.trans (H.keptB (M:=z4) d1)
 replace H:AU w.heap.size w4 z11:=H.run (M:=z4) (M':=z4) e2 d1 rfl
 refine Cf (decide ((i:Int) < (ds.length:Int))) (fun c5=>?_) (fun c5=>?_)
 ·have h1:i < ds.length:=by have:=of_decide_eq_true c5; omega
  obtain ⟨e,he⟩:∃ e,ds[i]?=some e:=⟨_,List.getElem?_eq_getElem h1⟩
  obtain ⟨q,s,rfl,r2,t2⟩:=t0.all (by omega)
  obtain ⟨k3,h3,i3,g3,k2,e3,d3⟩:=t2 i _ he
  let z3:List BI:=[⟨w.heap.size,0,[.string ⟨⟨Ar⟩⟩,.slice (some ⟨q,s,none⟩) ds.length c],38,true⟩]
  refine Am (BA Ai 90 (AG N5)) (AG N5) w4.heap.size z3 [(0,1)] TR [(6,.pointer z10),(7,D d),(8,D (i:Int)),(28,.slice (some ⟨q,s,none⟩) ds.length c),(29,D (i:Int))] w4.heap.size z3 (H.lies (M:=z3)) fun w6 y2 x0 q0=>?_
  replace B:=B.trans (H.keptB (M:=z3) q0)
  let z12:=List.map Th.ent z3++[]
  replace H:AU w.heap.size w6 z12:=H.run (M:=z3) (M':=z3) x0 q0 rfl
  refine BH (g:=q) (off:=s) (cap:=c) (sz:=21) (k:=i) (len:=ds.length) (some 30) h1 Tryz.underlying36 ?_
  refine Am (BA (NJ 3) 90 (AE TR)) (AE TR) w6.heap.size z3 [] gP [(6,.pointer z10),(7,D d),(8,D (i:Int)),(31,.pointer (some ⟨q,s + i * 21 + 6,none⟩))] w6.heap.size z3 (H.lies (M:=z3)) fun w7 l3 d2 c1=>?_
  replace B:=B.trans (H.keptB (M:=z3) c1)
  replace H:AU w.heap.size w7 z12:=H.run (M:=z3) (M':=z3) d2 c1 rfl
  refine EA 3 q (s + i * 21 + 6) (D e.frm) (some 32) (Ac k2 r2 B 6 _ rfl) ?_
  refine Am 60 (AE gP) w7.heap.size z3 [] Yk [(6,.pointer z10),(7,D d),(8,D (i:Int)),(35,.bool (e.frm == IntKind.i64.wrap (d + 1)))] w7.heap.size z3 (H.lies (M:=z3)) fun w8 x2 w0 p0=>?_
  replace B:=B.trans (H.keptB (M:=z3) p0)
  replace H:AU w.heap.size w8 z12:=H.run (M:=z3) (M':=z3) w0 p0 rfl
  rw [IntWalk.i64_in (d + 1) (by omega)]
  refine Cf (e.frm == d + 1) (fun c9=>?_) (fun c9=>?_)
  ·refine Am 60 (AG Yk) w8.heap.size z3 [] wZ [] w8.heap.size z3 (H.lies (M:=z3)) fun w9 i2 v0 k0=>?_
   replace B:=B.trans (H.keptB (M:=z3) k0)
   replace H:AU w.heap.size w9 z12:=H.run (M:=z3) (M':=z3) v0 k0 rfl
   refine Cw 10 [] (some 36) [] ((Tg w9 (Gp hR B)).mono fun en z0 hh=>?_)
   obtain ⟨rfl,v2⟩:=hh
   refine ⟨_,rfl,?_⟩
   replace B:=B.trans (v2.mono B.size)
   exact Eg (fn:=Tryz.f5) 60 (.bool true) fun wz Bz=>hk _ (B.trans (Bz.mono B.size))
  ·refine Am 60 (AL Yk) w8.heap.size z3 [] (Aj Yl) [(6,.pointer z10),(7,D d),(8,D (IntKind.i64.wrap ((i:Int) + 1)))] w8.heap.size z3 (H.lies (M:=z3)) fun w9 i2 v0 k0=>?_
   replace B:=B.trans (H.keptB (M:=z3) k0)
   replace H:AU w.heap.size w9 z12:=H.run (M:=z3) (M':=z3) v0 k0 rfl
   rw [Bs i (by omega)]
   refine p1 _ _ ⟨i + 1,i2,h1,rfl,fun k x hk hx=>?_,B,H⟩ ?_
   ·by_cases hki:k=i
    ·subst hki
     obtain rfl:=Option.some.inj (he.symm.trans hx)
     simpa using c9
    ·exact y1 k x (by omega) hx
   ·show ds.length - AQ (D ((i + 1:Nat):Int)) < ds.length - AQ (D (i:Int))
    simp only [AQ]
    omega
 ·have c3:i=ds.length:=by have:=of_decide_eq_false c5; omega
  have z1:∀ e∈ds,e.frm≠d + 1:=fun e he=>by
   obtain ⟨k,hk⟩:=List.mem_iff_getElem?.1 he
   exact y1 k e (by have:=(List.getElem?_eq_some_iff.1 hk).1; omega) hk
  have r0:=fun d hd=>cC (hok d hd) (by decide)
  have ht:∀ d∈ds,IJ d:=fun d hd=>(r0 d hd).1
  have x1:∀ d∈ds,Dq d.body:=fun d hd=>(r0 d hd).2.1
  have hn:∀ d∈ds,nE d.body≤1000000:=fun d hd=>(r0 d hd).2.2.1
  have i1:∀ d∈ds,d.ents.length≤4294967296:=fun d hd=>(r0 d hd).2.2.2
  have hP:=VY (n:=Ar) (p:=d) i1 hn
  refine Am 60 (AL N5) w4.heap.size z4 [(0,0)] gO [(6,.pointer z10),(7,D d),(38,.agg ⟨z9⟩),(39,D d)] w4.heap.size z4 (H.lies (M:=z4)) fun w6 y2 x0 q0=>?_
  replace B:=B.trans (H.keptB (M:=z4) q0)
  replace H:AU w.heap.size w6 z11:=H.run (M:=z4) (M':=z4) x0 q0 rfl
  have h2:=JN Ar A ds c d w6 (t0.below B) (by omega) (by decide) ht a1 i1 x1 hn
  have k1:=Ud (n:=Ar) c2 a2 z1
  have n1:=fun (u:World) (B:Below w.heap.size w u)=>JN Ar A ds c (d + 1) u (t0.below B) (by omega) (by decide) ht a1 i1 x1 hn
  rw [← k1] at n1
  generalize CF Ar ds d=r at h2 n1 hP
  refine Cw 8 [.tmp 38,.tmp 39] (some 40) [.agg ⟨z9⟩,D (d)] ((h2).mono fun en w7 hh=>?_)
  obtain ⟨o,h,m,f,f0,l,b,j,a,e0,rfl,v1,t1,b1,Hn⟩:=hh
  rw [show f0.length=r.2.1.length by rw [← v1,List.length_map],show e0.length=r.2.2.2.1.length by rw [← t1,List.length_map]]
  refine ⟨_,rfl,?_⟩
  replace H:AU w.heap.size w7 (List.map Th.ent z4++[Bo o h r.1,EZ m f f0,DY f0,Bo l b r.2.2.1,Hw j a e0,F0 e0]):=H.join b1 Hn
  replace B:=B.trans (b1.mono B.size)
  let z5:List Value:=[.slice o r.1.length h,.slice m r.2.1.length f,.slice l r.2.2.1.length b,.slice j r.2.2.2.1.length a]
  let z7:List BI:=[⟨w.heap.size,0,z9,38,true⟩,⟨w7.heap.size,0,z5,43,true⟩]
  refine Am 60 (AE gO) w7.heap.size z4 [(1,0),(0,0)] Yj [(9,.pointer (some ⟨w7.heap.size,0,none⟩)),(10,D r.2.2.2.2),(44,.agg ⟨z9⟩),(46,D (IntKind.i64.wrap (d + 1)))] (w7.heap.size + 1) z7 (H.lies (M:=z4)) fun w8 x2 w0 p0=>?_
  replace B:=B.trans (H.keptB (M:=z4) p0)
  replace H:AU w.heap.size w8 (List.map Th.ent z7++[Bo o h r.1,EZ m f f0,DY f0,Bo l b r.2.2.1,Hw j a e0,F0 e0]):=H.run (M:=z4) (M':=z7) w0 p0 rfl
  rw [IntWalk.i64_in (d + 1) (by omega)]
  refine Cw 8 [.tmp 44,.tmp 46] (some 47) [.agg ⟨z9⟩,D (d + 1)] ((n1 w8 B).mono fun en w9 hh=>?_)
  obtain ⟨d0,z,c0,y,i0,b0,v,a0,t,h0,rfl,r1,q1,b2,Hn⟩:=hh
  rw [show i0.length=r.2.1.length by rw [← r1,List.length_map],show h0.length=r.2.2.2.1.length by rw [← q1,List.length_map]]
  refine ⟨_,rfl,?_⟩
  replace H:AU w.heap.size w9 (List.map Th.ent z7++[Bo o h r.1,EZ m f f0,DY f0,Bo l b r.2.2.1,Hw j a e0,F0 e0,Bo d0 z r.1,EZ c0 y i0,DY i0,Bo b0 v r.2.2.1,Hw a0 t h0,F0 h0]):=H.join b2 Hn
  replace B:=B.trans (b2.mono B.size)
  let z8:List Value:=[.slice d0 r.1.length z,.slice c0 r.2.1.length y,.slice b0 r.2.2.1.length v,.slice a0 r.2.2.2.1.length t]
  let z6:List BI:=[⟨w.heap.size,0,z9,38,true⟩,⟨w7.heap.size,0,z5,43,true⟩,⟨w9.heap.size,0,z8,43,true⟩]
  refine Am (JO 11 90 (AE Yj)) (AE Yj) w9.heap.size z7 [(2,0)] qp [(9,.pointer (some ⟨w7.heap.size,0,none⟩)),(10,D r.2.2.2.2),(11,.pointer (some ⟨w9.heap.size,0,none⟩)),(12,D r.2.2.2.2)] (w9.heap.size + 1) z6 (H.lies (M:=z7)) fun z0 a3 m1 y0=>?_
  replace B:=B.trans (H.keptB (M:=z7) y0)
  replace H:AU w.heap.size z0 (List.map Th.ent z6++[Bo o h r.1,EZ m f f0,DY f0,Bo l b r.2.2.1,Hw j a e0,F0 e0,Bo d0 z r.1,EZ c0 y i0,DY i0,Bo b0 v r.2.2.1,Hw a0 t h0,F0 h0]):=H.run (M:=z7) (M':=z6) m1 y0 rfl
  have G:=H.goods (M:=z6)
  have hS:∀ u,Below z0.heap.size z0 u→Calls Tryz.prog 16 ([.agg ⟨z5⟩,.agg ⟨z8⟩]:List Value).toArray u fun e w'=>e=.returned (.bool true)∧Below u.heap.size u w':=fun u hu=>by
   have s1:=(H.rowsSc 4 5 rfl rfl).below hu
   have s2:=(H.rowsSc 10 11 rfl rfl).below hu
   have s3:=(H.rowsRt 7 8 rfl rfl).below hu
   have s4:=(H.rowsRt 13 14 rfl rfl).below hu
   rw [v1] at s1
   rw [r1] at s2
   rw [t1] at s3
   rw [q1] at s4
   have:=gV o r.1 h m r.2.1 f l r.2.2.1 b j r.2.2.2.1 a d0 z c0 y b0 v a0 t u ((H.rowsStr 3 rfl).below hu) (by have:=hP.ins; omega) s1 (by have:=hP.scs; omega) ((H.rowsStr 6 rfl).below hu) (by have:=hP.pas; omega) s3 (by have:=hP.rts; omega) ((H.rowsStr 9 rfl).below hu) s2 ((H.rowsStr 12 rfl).below hu) s4 hP.ent (fun x hx=>Nat.le_trans (hP.code x hx) (by decide))
   rw [Yy] at this
   exact this
  refine HW ((C6 qp).getD #[]) ⟨z6,[(4,1,0),(5,2,0)],[⟨6,[(54,.agg ⟨z5⟩),(55,.agg ⟨z8⟩)],.bool true,(r.2.2.2.2 == r.2.2.2.2) && true⟩,⟨9,[],.bool true,(cond (r.2.2.2.2 == r.2.2.2.2) true false) && true⟩]⟩ [(4,.bool (cond (cond (r.2.2.2.2 == r.2.2.2.2) true false) true false))] (by kernel_rfl) (by kernel_rfl) (by kernel_rfl) G (fun sp g1=>?_) (fun X=>by kernel_rfl) (by kernel_rfl) fun b3 r3 u2=>?_
  ·rcases List.mem_cons.1 g1 with rfl | g1
   ·exact AX 16 [.tmp 54,.tmp 55] [.agg ⟨z5⟩,.agg ⟨z8⟩] (fun _=>by kernel_rfl) fun _ u hu=>AR hu (hS u hu)
   ·obtain rfl:=List.mem_singleton.1 g1
    exact AX 10 [] [] (fun _=>by kernel_rfl) fun _ u hu=>AR hu (Tg u (Gp hR (B.trans (hu.mono B.size))))
  replace B:=B.trans (u2.mono B.size)
  rw [show cond (cond (r.2.2.2.2 == r.2.2.2.2) true false) true false=true by simp]
  exact Eg (fn:=Tryz.f5) 60 (.bool true) fun wz Bz=>hk _ (B.trans (Bz.mono B.size))
theorem ib (u:Value) (ns:List Int) (fr:Int) (w:World) (hi:He w w.heap.size u ns) (p:-9223372036854775808≤fr) (o:fr≤9223372036854775807) (hg:Tryz.prog.globals.size≤w.heap.size) (hR:Hs w) :
  Calls Tryz.prog 5 #[u,D fr] w (wq w):=by
 obtain ⟨A,ca,rfl,c0,b0,a0⟩:=id hi
 have hI:He w w.heap.size (.slice A ns.length ca) ns:=hi
 refine GD (args:=[.slice A ns.length ca,D fr]) (fn:=Tryz.f5) (c:=Uq) (n:=61) ?_
 refine Am 60 [.code Uq] w.heap.size [] [] gR [(1,D fr),(13,.slice A ns.length ca)] w.heap.size [] (Br w) fun j E4 f0 s=>?_
 have h:Below w.heap.size w j:=s.below (Nat.le_refl _) (fun k l=>by cases l)
 refine Cw 11 [.tmp 13] (some 14) [.slice A ns.length ca] ((VE _ ns j ((hI.keep fun g hg=>h.block g hg).more h.size)).mono fun e a m=>?_)
 obtain ⟨rfl,D5,v,b5⟩:=m
 refine ⟨_,rfl,?_⟩
 have z:=h.trans (b5.mono h.size)
 have d0:=h.size
 generalize j.heap.size=b at *
 refine Am 60 (AE gR) a.heap.size [] [] Ym [(1,D fr),(15,.pointer (some ⟨b,0,none⟩))] a.heap.size [] (Br a) fun w6 E6 e0 r=>?_
 have x:Below a.heap.size a w6:=r.below (Nat.le_refl _) (fun k l=>by cases l)
 have y:=z.trans (x.mono z.size)
 have D6:=D5.below x
 refine Cw 12 [.tmp 15,.const (D 3),.const (.bool false)] (some 16) [pt b 0,D (3:Nat),.bool false] ((Rv (wl:=false) 3 (by decide) (by decide) D6).mono fun e w7 m=>?_)
 obtain ⟨A7,c7,ds,rfl,q,d,t,hok,D7,f⟩:=IB.rows m
 refine ⟨_,rfl,?_⟩
 have i:=y.trans (f.below (by omega) y.size)
 exact cd A7 c7 ds fr _ w7 q hok t d p o (Nat.le_trans hg i.size) (Gp hR i) fun w' Bz=>⟨rfl,i.trans (Bz.mono i.size)⟩
end
end Go.Proofs.YtmcpjkcggfmcmaaGreatDoor

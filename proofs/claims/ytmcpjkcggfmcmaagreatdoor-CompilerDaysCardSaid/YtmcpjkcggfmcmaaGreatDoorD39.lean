/-
  Part 39 of a proof: contracts of functions.
-/
import Derived.Test.YtmcpjkcggfmcmaaGreatDoorD38
set_option linter.all false
namespace Go.Proofs.YtmcpjkcggfmcmaaGreatDoor
noncomputable section
open Go.RowKit
set_option maxRecDepth 100000
set_option maxHeartbeats 1000000
attribute [local irreducible] BO CB AE AG AL Ay Aj AP Bc Cq Eb CT CO At Fr
def Ep (k5:Bool):List (AK)→Bool
 | []=>k5
 | e5 :: tl=>cond (!((e5.1 == e5.1) && ((e5.2.1 == e5.2.1) && ((e5.2.2.1 == e5.2.2.1) && ((e5.2.2.2.1 == e5.2.2.2.1) && ((e5.2.2.2.2.1 == e5.2.2.2.2.1) && (e5.2.2.2.2.2 == e5.2.2.2.2.2))))))) (false) (Ep k5 tl)
theorem Tj {a:Bool}:Ep a []=(a):=by rw [Ep]
theorem RT {b:Bool} {es:List (AK)} (i:Nat) (a:AK) (hi:es[i]?=some a):Ep b (es.drop i)=(cond (!((a.1 == a.1) && ((a.2.1 == a.2.1) && ((a.2.2.1 == a.2.2.1) && ((a.2.2.2.1 == a.2.2.2.1) && ((a.2.2.2.2.1 == a.2.2.2.2.1) && (a.2.2.2.2.2 == a.2.2.2.2.2))))))) (false) (Ep b (es.drop (i + 1)))):=by
 have hl:i < es.length:=(List.getElem?_eq_some_iff.1 hi).1
 have he:es[i]=a:=(List.getElem?_eq_some_iff.1 hi).2
 rw [← List.getElem_cons_drop hl,Ep] <;> (try rw [he])
def EM:List (DL)→Bool
 | []=>true
 | e4 :: tl=>cond (cond (cond (cond (cond (!(decide (e4.1=e4.1))) (true) (!(e4.2.1 == e4.2.1))) (true) (!(e4.2.2.1 == e4.2.2.1))) (true) (!((e4.2.2.2.1 == e4.2.2.2.1) && (e4.2.2.2.2.1 == e4.2.2.2.2.1)))) (true) (!((e4.2.2.2.2.2.length:Int) == (e4.2.2.2.2.2.length:Int)))) (false) (Ep (EM tl) e4.2.2.2.2.2)
theorem Tl:EM []=(true):=by rw [EM]
theorem RU {es:List (DL)} (i:Nat) (a:DL) (hi:es[i]?=some a):EM (es.drop i)=(cond (cond (cond (cond (cond (!(decide (a.1=a.1))) (true) (!(a.2.1 == a.2.1))) (true) (!(a.2.2.1 == a.2.2.1))) (true) (!((a.2.2.2.1 == a.2.2.2.1) && (a.2.2.2.2.1 == a.2.2.2.2.1)))) (true) (!((a.2.2.2.2.2.length:Int) == (a.2.2.2.2.2.length:Int)))) (false) (Ep (EM (es.drop (i + 1))) a.2.2.2.2.2)):=by
 have hl:i < es.length:=(List.getElem?_eq_some_iff.1 hi).1
 have he:es[i]=a:=(List.getElem?_eq_some_iff.1 hi).2
 rw [← List.getElem_cons_drop hl,EM] <;> (try rw [he])
def Eq (k3:Bool):List (Int×Int×Int)→Bool
 | []=>k3
 | e3 :: tl=>cond (!((e3.1 == e3.1) && ((e3.2.1 == e3.2.1) && (e3.2.2 == e3.2.2)))) (false) (Eq k3 tl)
theorem Tm {a:Bool}:Eq a []=(a):=by rw [Eq]
theorem RV {b:Bool} {es:List (Int×Int×Int)} (i:Nat) (a:Int×Int×Int) (hi:es[i]?=some a):Eq b (es.drop i)=(cond (!((a.1 == a.1) && ((a.2.1 == a.2.1) && (a.2.2 == a.2.2)))) (false) (Eq b (es.drop (i + 1)))):=by
 have hl:i < es.length:=(List.getElem?_eq_some_iff.1 hi).1
 have he:es[i]=a:=(List.getElem?_eq_some_iff.1 hi).2
 rw [← List.getElem_cons_drop hl,Eq] <;> (try rw [he])
def EN (rts:List (DL)):List (List (Int×Int×Int))→Bool
 | []=>EM rts
 | e2 :: tl=>cond (!((e2.length:Int) == (e2.length:Int))) (false) (Eq (EN rts tl) e2)
theorem Tn {rts:List (DL)}:EN rts []=(EM rts):=by rw [EN]
theorem RW {rts:List (DL)} {es:List (List (Int×Int×Int))} (i:Nat) (a:List (Int×Int×Int)) (hi:es[i]?=some a):EN rts (es.drop i)=(cond (!((a.length:Int) == (a.length:Int))) (false) (Eq (EN rts (es.drop (i + 1))) a)):=by
 have hl:i < es.length:=(List.getElem?_eq_some_iff.1 hi).1
 have he:es[i]=a:=(List.getElem?_eq_some_iff.1 hi).2
 rw [← List.getElem_cons_drop hl,EN] <;> (try rw [he])
def Er (scs:List (List (Int×Int×Int))) (rts:List (DL)):List (List UInt8)→Bool
 | []=>EN rts scs
 | e1 :: tl=>cond (!(decide (e1=e1))) (false) (Er scs rts tl)
theorem To {scs:List (List (Int×Int×Int))} {rts:List (DL)}:Er scs rts []=(EN rts scs):=by rw [Er]
theorem RX {scs:List (List (Int×Int×Int))} {rts:List (DL)} {es:List (List UInt8)} (i:Nat) (a:List UInt8) (hi:es[i]?=some a):Er scs rts (es.drop i)=(cond (!(decide (a=a))) (false) (Er scs rts (es.drop (i + 1)))):=by
 have hl:i < es.length:=(List.getElem?_eq_some_iff.1 hi).1
 have he:es[i]=a:=(List.getElem?_eq_some_iff.1 hi).2
 rw [← List.getElem_cons_drop hl,Er] <;> (try rw [he])
def FN (scs:List (List (Int×Int×Int))) (pas:List (List UInt8)) (rts:List (DL)):List (List UInt8)→Bool
 | []=>Er scs rts pas
 | e0 :: tl=>cond (!(decide (e0=e0))) (false) (FN scs pas rts tl)
theorem Tp {scs:List (List (Int×Int×Int))} {pas:List (List UInt8)} {rts:List (DL)}:FN scs pas rts []=(Er scs rts pas):=by rw [FN]
theorem RY {scs:List (List (Int×Int×Int))} {pas:List (List UInt8)} {rts:List (DL)} {es:List (List UInt8)} (i:Nat) (a:List UInt8) (hi:es[i]?=some a):FN scs pas rts (es.drop i)=(cond (!(decide (a=a))) (false) (FN scs pas rts (es.drop (i + 1)))):=by
 have hl:i < es.length:=(List.getElem?_eq_some_iff.1 hi).1
 have he:es[i]=a:=(List.getElem?_eq_some_iff.1 hi).2
 rw [← List.getElem_cons_drop hl,FN] <;> (try rw [he])
def EJ (ins:List (List UInt8)) (scs:List (List (Int×Int×Int))) (pas:List (List UInt8)) (rts:List (DL)):Bool:=cond (cond (cond (cond (!((ins.length:Int) == (ins.length:Int))) (true) (!((scs.length:Int) == (scs.length:Int)))) (true) (!((pas.length:Int) == (pas.length:Int)))) (true) (!((rts.length:Int) == (rts.length:Int)))) (false) (FN scs pas rts ins)
noncomputable def dG:Code:=Tryz.f16.body.getD .skip
def oi:=Ad 1 ([.code dG])
def fE:=AB 60 (AP oi)
def vM:=AB 60 (AG fE)
def fD:=AB 60 (AL fE)
def fA:=AB 60 (Ay fD)
def oh:=Ad 6 (AG fA)
def og:=AB 60 (AP oh)
def vL:=AB 60 (AG og)
def ez:=AB 60 (AL fA)
def ew:=AB 60 (Ay ez)
def jk:=Ad 11 (AG ew)
def ji:=AB 60 (AP jk)
def sL:=AB 60 (AG ji)
def W6:=AB 60 (AL ew)
def W5:=AB 60 (Ay W6)
def jh:=Ad 16 (AG W5)
def W4:=AB 60 (AP jh)
def sK:=AB 60 (AG W4)
def Ry:=AB 60 (AL W4)
def jg:=AB (BA Ai 90 (Ay Ry)) (Ay Ry)
def jf:=AB 60 (AE (AE jg))
def je:=Ad 21 (AG jf)
def jd:=AB 60 (AP je)
def sJ:=AB 60 (AG jd)
def W3:=AB 60 (AL W5)
def W2:=AB 60 (Ay W3)
def W1:=Ad 26 (AG W2)
def NF:Array Oper:=(C6 W1).getD #[]
def m7:Wr:=[(138,1),(139,2),(140,3),(141,4),(143,6),(144,7),(145,8),(146,9),(10,10),(11,11)]
def jc:=Ad 27 (AP W1)
def W0:=AB 60 (AP jc)
def sI:=AB 60 (AG W0)
def Wz:=AB 60 (AL W0)
def jb:=AB 60 (Ay Wz)
def ja:=Ad 32 (AG jb)
def jZ:=AB 60 (AP ja)
def sH:=AB 60 (AG jZ)
def sG:=AB 60 (AL W2)
theorem gV (b0:Option Addr) (ins:List (List UInt8)) (s:Nat) (d0:Option Addr) (scs:List (List (Int×Int×Int))) (f:Nat) (a0:Option Addr) (pas:List (List UInt8)) (r:Nat) (x0:Option Addr) (rts:List (DL)) (m:Nat) (z:Option Addr) (q:Nat) (c0:Option Addr) (l:Nat) (t:Option Addr) (p:Nat) (w0:Option Addr) (j:Nat) (w:World) (v4:rowsStr w b0 ins) (f8:ins.length≤4294967296) (s4:rowsSc w d0 scs) (b8:scs.length≤4294967296) (u4:rowsStr w a0 pas) (e8:pas.length≤4294967296) (t4:rowsRt w x0 rts) (c8:rts.length≤4294967296) (z3:rowsStr w z ins) (u3:rowsSc w c0 scs) (y3:rowsStr w t pas) (v3:rowsRt w w0 rts) (y5:∀ e∈scs,e.length≤4294967296) (z5:∀ e∈rts,e.2.2.2.2.2.length≤4294967296):Calls Tryz.prog 16 ([.agg ⟨[.slice b0 ins.length s,.slice d0 scs.length f,.slice a0 pas.length r,.slice x0 rts.length m]⟩,.agg ⟨[.slice z ins.length q,.slice c0 scs.length l,.slice t pas.length p,.slice w0 rts.length j]⟩]:List Value).toArray w fun e w'=>e=.returned (.bool ((EJ ins scs pas rts)))∧Below w.heap.size w w':=by
 refine Af (fn:=Tryz.f16) (c:=dG) (n:=200) ?_
 have K1:=Wk.start w
 let z11:List BI:=[⟨w.heap.size,0,[.slice b0 ins.length s,.slice d0 scs.length f,.slice a0 pas.length r,.slice x0 rts.length m],43,true⟩,⟨w.heap.size + 1,0,[.slice z ins.length q,.slice c0 scs.length l,.slice t pas.length p,.slice w0 rts.length j],43,true⟩]
 refine CR 1 oi z11 K1 [] fun w1 K2=>?_
 refine Ao K2 [(1,0,0),(4,1,0),(9,0,1),(12,1,1),(18,0,2),(21,1,2),(27,0,3),(30,1,3)] [] K2.G (fun sp t0=>by cases t0) fun w2 E2 K3=>?_
 refine AC fE K3 [] fun w3 K4=>?_
 refine AM (cond (cond (cond (!((ins.length:Int) == (ins.length:Int))) (true) (!((scs.length:Int) == (scs.length:Int)))) (true) (!((pas.length:Int) == (pas.length:Int)))) (true) (!((rts.length:Int) == (rts.length:Int)))) (fun c4=>?_) (fun c4=>?_)
 ·refine AC vM K4 [] fun w5 K5=>?_
  have hS:(EJ ins scs pas rts)=false:=by unfold EJ; rw [c4] <;> rfl
  exact Ab K5 (0,0) (.bool false) ⟨by rw [hS] <;> rfl,K5.B⟩
 ·refine AC fD K4 [] fun w6 K6=>?_
  have K7:Wk w w6 z11 [] []:=K6.pk [0,1] []
  have c2:(EJ ins scs pas rts)=FN scs pas rts ins:=by unfold EJ; rw [c4] <;> rfl
  let z14:Option Addr:=some ⟨w.heap.size + 1,0,none⟩
  let z15:Option Addr:=some ⟨w.heap.size,0,none⟩
  refine BB [(2,.pointer z15),(3,.pointer z14),(4,.bool false),(5,D (((0:Nat):Int)))] fun E7=>?_
  refine Bi (by kernel_rfl) (fun E x5=>∃ (i0:Nat) (E0:Nat→Value),i0≤ins.length∧E=Aw E0 [(2,.pointer z15),(3,.pointer z14),(4,.bool false),(5,D ((i0:Int)))]∧(EJ ins scs pas rts)=FN scs pas rts (List.drop i0 ins)∧Wk w x5 z11 [] []) (fun E _=>ins.length - AQ (E 5)) ⟨0,E7,Nat.zero_le _,rfl,c2,K7⟩ ?_
  clear c2
  rintro E x5 ⟨i0,E0,hi0,rfl,c2,K8⟩ k3
  refine AC fA K8 [(0,0)] fun w9 K9=>?_
  refine AM (decide ((i0:Int) < (ins.length:Int))) (fun m5=>?_) (fun m5=>?_)
  ·have r2:i0 < ins.length:=by have:=of_decide_eq_true m5; omega
   obtain ⟨e0,r4⟩:∃ e,ins[i0]?=some e:=⟨_,List.getElem?_eq_getElem r2⟩
   rw [RY i0 e0 r4] at c2
   refine Al 6 oh K9 [] fun wr y2=>?_
   obtain ⟨h0,k0,rfl,c1,n1⟩:=v4.all (by omega)
   have f1:=n1 i0 _ r4
   obtain ⟨p0,q0,rfl,d1,m1⟩:=z3.all (by omega)
   have g1:=m1 i0 _ r4
   refine Ao y2 [(1,0,0),(4,2,0),(6,1,0),(9,3,0)] [⟨3,[(55,.slice (some ⟨h0,k0,none⟩) ins.length s),(56,D ((i0:Int)))],.pointer (some ⟨h0,k0 + i0 * 1,none⟩),true⟩,⟨8,[(60,.slice (some ⟨p0,q0,none⟩) ins.length q),(61,D ((i0:Int)))],.pointer (some ⟨p0,q0 + i0 * 1,none⟩),true⟩,⟨10,[(58,.string ⟨⟨e0⟩⟩),(63,.string ⟨⟨e0⟩⟩)],.bool (!(decide (e0=e0))),true⟩] (C1 (x:=⟨p0,q0 + i0 * 1,[.string ⟨⟨e0⟩⟩],9,false⟩) (C1 (x:=⟨h0,k0 + i0 * 1,[.string ⟨⟨e0⟩⟩],9,false⟩) y2.G ⟨Nat.lt_of_lt_of_le c1 y2.B.size,Ac f1 c1 y2.B⟩) ⟨Nat.lt_of_lt_of_le d1 y2.B.size,Ac g1 d1 y2.B⟩) (fun sp t0=>?_) fun wp E12 xq=>?_
   ·rcases List.mem_cons.1 t0 with rfl | t0
    ·exact An fun _ E u _=>Bd (sz:=1) (cap:=s) 39 (.tmp 55) (.tmp 56) (by kernel_rfl) (by kernel_rfl) r2 Tryz.underlying39
    rcases List.mem_cons.1 t0 with rfl | t0
    ·exact An fun _ E u _=>Bd (sz:=1) (cap:=q) 39 (.tmp 60) (.tmp 61) (by kernel_rfl) (by kernel_rfl) r2 Tryz.underlying39
    obtain rfl:=List.mem_singleton.1 t0
    exact An fun _ E u _=>IX (T:=9) (T':=9) (x:=.tmp 58) (y:=.tmp 63) (by kernel_rfl) (by kernel_rfl) (by kernel_rfl)
   refine AC og xq [] fun wl a8=>?_
   refine AM (!(decide (e0=e0))) (fun k5=>?_) (fun k5=>?_)
   ·refine AC vL a8 [] fun wk z7=>?_
    have hS:(EJ ins scs pas rts)=false:=by rw [c2,k5] <;> rfl
    exact Ab z7 (0,0) (.bool false) ⟨by rw [hS] <;> rfl,z7.B⟩
   ·refine AC (Aj fD) a8 [] fun e9 xp=>?_
    refine BB [(2,.pointer z15),(3,.pointer z14),(4,.bool false),(5,D (IntKind.i64.wrap ((i0:Int) + 1)))] fun zb=>?_
    have xo:Wk w e9 [⟨w.heap.size,0,[.slice (some ⟨h0,k0,none⟩) ins.length s,.slice d0 scs.length f,.slice a0 pas.length r,.slice x0 rts.length m],43,true⟩,⟨w.heap.size + 1,0,[.slice (some ⟨p0,q0,none⟩) ins.length q,.slice c0 scs.length l,.slice t pas.length p,.slice w0 rts.length j],43,true⟩] [] []:=xp.pk [0,1] []
    rw [Bs i0 (by omega)]
    refine k3 _ _ ⟨i0 + 1,zb,r2,rfl,by rw [c2,k5] <;> rfl,xo⟩ ?_
    show ins.length - AQ (D ((i0 + 1:Nat):Int)) < ins.length - AQ (D (i0:Int))
    simp only [AQ]
    omega
  ·have g6:i0=ins.length:=by have:=of_decide_eq_false m5; omega
   rw [g6,List.drop_length,Tp] at c2
   refine AC ez K9 [] fun c9 xn=>?_
   have xm:Wk w c9 z11 [] []:=xn.pk [0,1] []
   have b2:(EJ ins scs pas rts)=Er scs rts pas:=by rw [c2] <;> rfl
   refine BB [(2,.pointer z15),(3,.pointer z14),(4,.bool false),(6,D (((0:Nat):Int)))] fun za=>?_
   refine Bi (by kernel_rfl) (fun E v5=>∃ (i1:Nat) (E0:Nat→Value),i1≤pas.length∧E=Aw E0 [(2,.pointer z15),(3,.pointer z14),(4,.bool false),(6,D ((i1:Int)))]∧(EJ ins scs pas rts)=Er scs rts (List.drop i1 pas)∧Wk w v5 z11 [] []) (fun E _=>pas.length - AQ (E 6)) ⟨0,za,Nat.zero_le _,rfl,b2,xm⟩ ?_
   clear b2
   rintro E v5 ⟨i1,E0,wz,rfl,b2,xl⟩ g3
   refine AC ew xl [(0,2)] fun wf y7=>?_
   refine AM (decide ((i1:Int) < (pas.length:Int))) (fun h5=>?_) (fun h5=>?_)
   ·have q2:i1 < pas.length:=by have:=of_decide_eq_true h5; omega
    obtain ⟨e1,q4⟩:∃ e,pas[i1]?=some e:=⟨_,List.getElem?_eq_getElem q2⟩
    rw [RX i1 e1 q4] at b2
    refine Al 11 jk y7 [] fun we v2=>?_
    obtain ⟨h0,k0,rfl,c1,n1⟩:=u4.all (by omega)
    have f1:=n1 i1 _ q4
    obtain ⟨p0,q0,rfl,d1,m1⟩:=y3.all (by omega)
    have g1:=m1 i1 _ q4
    refine Ao v2 [(1,0,2),(4,2,0),(6,1,2),(9,3,0)] [⟨3,[(73,.slice (some ⟨h0,k0,none⟩) pas.length r),(74,D ((i1:Int)))],.pointer (some ⟨h0,k0 + i1 * 1,none⟩),true⟩,⟨8,[(78,.slice (some ⟨p0,q0,none⟩) pas.length p),(79,D ((i1:Int)))],.pointer (some ⟨p0,q0 + i1 * 1,none⟩),true⟩,⟨10,[(76,.string ⟨⟨e1⟩⟩),(81,.string ⟨⟨e1⟩⟩)],.bool (!(decide (e1=e1))),true⟩] (C1 (x:=⟨p0,q0 + i1 * 1,[.string ⟨⟨e1⟩⟩],9,false⟩) (C1 (x:=⟨h0,k0 + i1 * 1,[.string ⟨⟨e1⟩⟩],9,false⟩) v2.G ⟨Nat.lt_of_lt_of_le c1 v2.B.size,Ac f1 c1 v2.B⟩) ⟨Nat.lt_of_lt_of_le d1 v2.B.size,Ac g1 d1 v2.B⟩) (fun sp t0=>?_) fun wc E24 xk=>?_
    ·rcases List.mem_cons.1 t0 with rfl | t0
     ·exact An fun _ E u _=>Bd (sz:=1) (cap:=r) 39 (.tmp 73) (.tmp 74) (by kernel_rfl) (by kernel_rfl) q2 Tryz.underlying39
     rcases List.mem_cons.1 t0 with rfl | t0
     ·exact An fun _ E u _=>Bd (sz:=1) (cap:=p) 39 (.tmp 78) (.tmp 79) (by kernel_rfl) (by kernel_rfl) q2 Tryz.underlying39
     obtain rfl:=List.mem_singleton.1 t0
     exact An fun _ E u _=>IX (T:=9) (T':=9) (x:=.tmp 76) (y:=.tmp 81) (by kernel_rfl) (by kernel_rfl) (by kernel_rfl)
    refine AC ji xk [] fun wa w7=>?_
    refine AM (!(decide (e1=e1))) (fun g5=>?_) (fun g5=>?_)
    ·refine AC sL w7 [] fun vs u7=>?_
     have hS:(EJ ins scs pas rts)=false:=by rw [b2,g5] <;> rfl
     exact Ab u7 (0,0) (.bool false) ⟨by rw [hS] <;> rfl,u7.B⟩
    ·refine AC (Aj ez) w7 [] fun b9 xj=>?_
     refine BB [(2,.pointer z15),(3,.pointer z14),(4,.bool false),(6,D (IntKind.i64.wrap ((i1:Int) + 1)))] fun xz=>?_
     have xi:Wk w b9 [⟨w.heap.size,0,[.slice b0 ins.length s,.slice d0 scs.length f,.slice (some ⟨h0,k0,none⟩) pas.length r,.slice x0 rts.length m],43,true⟩,⟨w.heap.size + 1,0,[.slice z ins.length q,.slice c0 scs.length l,.slice (some ⟨p0,q0,none⟩) pas.length p,.slice w0 rts.length j],43,true⟩] [] []:=xj.pk [0,1] []
     rw [Bs i1 (by omega)]
     refine g3 _ _ ⟨i1 + 1,xz,q2,rfl,by rw [b2,g5] <;> rfl,xi⟩ ?_
     show pas.length - AQ (D ((i1 + 1:Nat):Int)) < pas.length - AQ (D (i1:Int))
     simp only [AQ]
     omega
   ·have f6:i1=pas.length:=by have:=of_decide_eq_false h5; omega
    rw [f6,List.drop_length,To] at b2
    refine AC W6 y7 [] fun a9 xh=>?_
    have xg:Wk w a9 z11 [] []:=xh.pk [0,1] []
    have a2:(EJ ins scs pas rts)=EN rts scs:=by rw [b2] <;> rfl
    refine BB [(2,.pointer z15),(3,.pointer z14),(4,.bool false),(7,D (((0:Nat):Int)))] fun xy=>?_
    refine Bi (by kernel_rfl) (fun E u5=>∃ (i2:Nat) (E0:Nat→Value),i2≤scs.length∧E=Aw E0 [(2,.pointer z15),(3,.pointer z14),(4,.bool false),(7,D ((i2:Int)))]∧(EJ ins scs pas rts)=EN rts (List.drop i2 scs)∧Wk w u5 z11 [] []) (fun E _=>scs.length - AQ (E 7)) ⟨0,xy,Nat.zero_le _,rfl,a2,xg⟩ ?_
    clear a2
    rintro E u5 ⟨i2,E0,wy,rfl,a2,xf⟩ f3
    refine AC W5 xf [(0,1)] fun vi s7=>?_
    refine AM (decide ((i2:Int) < (scs.length:Int))) (fun f5=>?_) (fun f5=>?_)
    ·have k1:i2 < scs.length:=by have:=of_decide_eq_true f5; omega
     obtain ⟨e2,t3⟩:∃ e,scs[i2]?=some e:=⟨_,List.getElem?_eq_getElem k1⟩
     rw [RW i2 e2 t3] at a2
     refine Al 16 jh s7 [] fun vd t2=>?_
     obtain ⟨h0,k0,rfl,c1,n1⟩:=s4.all (by omega)
     obtain ⟨f0,o,f1,k2⟩:=n1 i2 _ t3
     obtain ⟨p0,q0,rfl,d1,m1⟩:=u3.all (by omega)
     obtain ⟨z0,r0,g1,g2⟩:=m1 i2 _ t3
     refine Ao t2 [(1,0,1),(4,2,0),(7,1,1),(10,3,0)] [⟨3,[(91,.slice (some ⟨h0,k0,none⟩) scs.length f),(92,D ((i2:Int)))],.pointer (some ⟨h0,k0 + i2 * 1,none⟩),true⟩,⟨9,[(97,.slice (some ⟨p0,q0,none⟩) scs.length l),(98,D ((i2:Int)))],.pointer (some ⟨p0,q0 + i2 * 1,none⟩),true⟩] (C1 (x:=⟨p0,q0 + i2 * 1,[.slice z0 e2.length r0],27,false⟩) (C1 (x:=⟨h0,k0 + i2 * 1,[.slice f0 e2.length o],27,false⟩) t2.G ⟨Nat.lt_of_lt_of_le c1 t2.B.size,Ac f1 c1 t2.B⟩) ⟨Nat.lt_of_lt_of_le d1 t2.B.size,Ac g1 d1 t2.B⟩) (fun sp t0=>?_) fun vc E36 xe=>?_
     ·rcases List.mem_cons.1 t0 with rfl | t0
      ·exact An fun _ E u _=>Bd (sz:=1) (cap:=f) 40 (.tmp 91) (.tmp 92) (by kernel_rfl) (by kernel_rfl) k1 Tryz.underlying40
      obtain rfl:=List.mem_singleton.1 t0
      exact An fun _ E u _=>Bd (sz:=1) (cap:=l) 40 (.tmp 97) (.tmp 98) (by kernel_rfl) (by kernel_rfl) k1 Tryz.underlying40
     refine AC W4 xe [] fun zz r7=>?_
     refine AM (!((e2.length:Int) == (e2.length:Int))) (fun d5=>?_) (fun d5=>?_)
     ·refine AC sK r7 [] fun zy q7=>?_
      have hS:(EJ ins scs pas rts)=false:=by rw [a2,d5] <;> rfl
      exact Ab q7 (0,0) (.bool false) ⟨by rw [hS] <;> rfl,q7.B⟩
     ·refine AC Ry r7 [] fun z8 xd=>?_
      let z18:List Value:=[.slice b0 ins.length s,.slice (some ⟨h0,k0,none⟩) scs.length f,.slice a0 pas.length r,.slice x0 rts.length m]
      let z19:List BI:=[⟨w.heap.size,0,z18,43,true⟩,⟨w.heap.size + 1,0,[.slice z ins.length q,.slice (some ⟨p0,q0,none⟩) scs.length l,.slice t pas.length p,.slice w0 rts.length j],43,true⟩]
      have xc:Wk w z8 z19 [] []:=xd.pk [0,1] []
      have zd:e2.length≤4294967296:=y5 _ (List.mem_of_getElem? t3)
      have z1:(EJ ins scs pas rts)=Eq (EN rts (List.drop (i2 + 1) scs)) e2:=by rw [a2,d5] <;> rfl
      refine BB [(2,.pointer z15),(3,.pointer z14),(4,.bool false),(7,D ((i2:Int))),(8,D (((0:Nat):Int)))] fun xx=>?_
      refine Bi (by kernel_rfl) (fun E t5=>∃ (i3:Nat) (E0:Nat→Value),i3≤e2.length∧E=Aw E0 [(2,.pointer z15),(3,.pointer z14),(4,.bool false),(7,D ((i2:Int))),(8,D ((i3:Int)))]∧(EJ ins scs pas rts)=Eq (EN rts (List.drop (i2 + 1) scs)) (List.drop i3 e2)∧Wk w t5 z19 [] []) (fun E _=>e2.length - AQ (E 8)) ⟨0,xx,Nat.zero_le _,rfl,z1,xc⟩ ?_
      clear z1
      rintro E t5 ⟨i3,E0,wx,rfl,z1,xb⟩ d3
      refine BG Ai jg xb [(0,1)] fun zx k7=>?_
      refine BH (g:=h0) (off:=k0) (cap:=f) (sz:=1) (k:=i2) (len:=scs.length) (some 107) k1 Tryz.underlying40 ?_
      refine EA 27 h0 (k0 + i2 * 1) (.slice f0 e2.length o) (some 108) (by simpa using Ac f1 c1 k7.B 0 _ rfl) ?_
      refine AC jf k7 [] fun zw f7=>?_
      refine AM (decide ((i3:Int) < (e2.length:Int))) (fun c5=>?_) (fun c5=>?_)
      ·have p2:i3 < e2.length:=by have:=of_decide_eq_true c5; omega
       obtain ⟨e3,m4⟩:∃ e,e2[i3]?=some e:=⟨_,List.getElem?_eq_getElem p2⟩
       rw [RV i3 e3 m4] at z1
       refine Al 21 je f7 [] fun zv p1=>?_
       obtain ⟨r1,t1,rfl,f2,m3⟩:=k2.all (by omega)
       have a3:=m3 i3 _ m4
       obtain ⟨q1,s1,rfl,d2,l3⟩:=g2.all (by omega)
       have z2:=l3 i3 _ m4
       let z25:=(e3.1 == e3.1) && ((e3.2.1 == e3.2.1) && (e3.2.2 == e3.2.2))
       refine Ao p1 [(1,0,1),(4,2,0),(7,3,0),(9,1,1),(12,4,0),(15,5,0)] [⟨3,[(114,.slice (some ⟨h0,k0,none⟩) scs.length f),(115,D ((i2:Int)))],.pointer (some ⟨h0,k0 + i2 * 1,none⟩),true⟩,⟨6,[(117,.slice (some ⟨r1,t1,none⟩) e2.length o),(118,D ((i3:Int)))],.pointer (some ⟨r1,t1 + i3 * 3,none⟩),true⟩,⟨11,[(122,.slice (some ⟨p0,q0,none⟩) scs.length l),(123,D ((i2:Int)))],.pointer (some ⟨p0,q0 + i2 * 1,none⟩),true⟩,⟨14,[(125,.slice (some ⟨q1,s1,none⟩) e2.length r0),(126,D ((i3:Int)))],.pointer (some ⟨q1,s1 + i3 * 3,none⟩),true⟩,⟨16,[(120,.agg ⟨[D e3.1,D e3.2.1,D e3.2.2]⟩),(128,.agg ⟨[D e3.1,D e3.2.1,D e3.2.2]⟩)],.bool (!z25),true⟩] (C1 (x:=⟨q1,s1 + i3 * 3,[D e3.1,D e3.2.1,D e3.2.2],97,false⟩) (C1 (x:=⟨p0,q0 + i2 * 1,[.slice (some ⟨q1,s1,none⟩) e2.length r0],27,false⟩) (C1 (x:=⟨r1,t1 + i3 * 3,[D e3.1,D e3.2.1,D e3.2.2],97,false⟩) (C1 (x:=⟨h0,k0 + i2 * 1,[.slice (some ⟨r1,t1,none⟩) e2.length o],27,false⟩) p1.G ⟨Nat.lt_of_lt_of_le c1 p1.B.size,Ac f1 c1 p1.B⟩) ⟨Nat.lt_of_lt_of_le f2 p1.B.size,Ac a3 f2 p1.B⟩) ⟨Nat.lt_of_lt_of_le d1 p1.B.size,Ac g1 d1 p1.B⟩) ⟨Nat.lt_of_lt_of_le d2 p1.B.size,Ac z2 d2 p1.B⟩) (fun sp t0=>?_) fun zu E47 xa=>?_
       ·rcases List.mem_cons.1 t0 with rfl | t0
        ·exact An fun _ E u _=>Bd (sz:=1) (cap:=f) 40 (.tmp 114) (.tmp 115) (by kernel_rfl) (by kernel_rfl) k1 Tryz.underlying40
        rcases List.mem_cons.1 t0 with rfl | t0
        ·exact An fun _ E u _=>Bd (sz:=3) (cap:=o) 27 (.tmp 117) (.tmp 118) (by kernel_rfl) (by kernel_rfl) p2 Tryz.underlying27
        rcases List.mem_cons.1 t0 with rfl | t0
        ·exact An fun _ E u _=>Bd (sz:=1) (cap:=l) 40 (.tmp 122) (.tmp 123) (by kernel_rfl) (by kernel_rfl) k1 Tryz.underlying40
        rcases List.mem_cons.1 t0 with rfl | t0
        ·exact An fun _ E u _=>Bd (sz:=3) (cap:=r0) 27 (.tmp 125) (.tmp 126) (by kernel_rfl) (by kernel_rfl) p2 Tryz.underlying27
        obtain rfl:=List.mem_singleton.1 t0
        exact An fun _ E u _=>EP (k:=.neq) (T:=97) (a:=.agg ⟨[D e3.1,D e3.2.1,D e3.2.2]⟩) (b:=.agg ⟨[D e3.1,D e3.2.1,D e3.2.2]⟩) (PK u e3.1 e3.2.1 e3.2.2 e3.1 e3.2.1 e3.2.2)
       refine AC jd xa [] fun zt e7=>?_
       refine AM (!z25) (fun b5=>?_) (fun b5=>?_)
       ·refine AC sJ e7 [] fun zs c7=>?_
        have hS:(EJ ins scs pas rts)=false:=by rw [z1,b5] <;> rfl
        exact Ab c7 (0,0) (.bool false) ⟨by rw [hS] <;> rfl,c7.B⟩
       ·refine AC (Aj Ry) e7 [] fun y8 js=>?_
        refine BB [(2,.pointer z15),(3,.pointer z14),(4,.bool false),(7,D ((i2:Int))),(8,D (IntKind.i64.wrap ((i3:Int) + 1)))] fun xw=>?_
        have jj:Wk w y8 z19 [] []:=js.pk [0,1] []
        rw [Bs i3 (by omega)]
        refine d3 _ _ ⟨i3 + 1,xw,p2,rfl,by rw [z1,b5] <;> rfl,jj⟩ ?_
        show e2.length - AQ (D ((i3 + 1:Nat):Int)) < e2.length - AQ (D (i3:Int))
        simp only [AQ]
        omega
      ·have c6:i3=e2.length:=by have:=of_decide_eq_false c5; omega
       rw [c6,List.drop_length,Tm] at z1
       refine AC (Aj W6) f7 [] fun w8 kv=>?_
       refine BB [(2,.pointer z15),(3,.pointer z14),(4,.bool false),(7,D (IntKind.i64.wrap ((i2:Int) + 1)))] fun xv=>?_
       have ks:Wk w w8 z19 [] []:=kv.pk [0,1] []
       rw [Bs i2 (by omega)]
       refine f3 _ _ ⟨i2 + 1,xv,k1,rfl,by rw [z1] <;> rfl,ks⟩ ?_
       show scs.length - AQ (D ((i2 + 1:Nat):Int)) < scs.length - AQ (D (i2:Int))
       simp only [AQ]
       omega
    ·have e6:i2=scs.length:=by have:=of_decide_eq_false f5; omega
     rw [e6,List.drop_length,Tn] at a2
     refine AC W3 s7 [] fun u8 kn=>?_
     have kl:Wk w u8 z11 [] []:=kn.pk [0,1] []
     have y1:(EJ ins scs pas rts)=EM rts:=by rw [a2] <;> rfl
     refine BB [(2,.pointer z15),(3,.pointer z14),(4,.bool false),(9,D (((0:Nat):Int)))] fun xu=>?_
     refine Bi (by kernel_rfl) (fun E s5=>∃ (i4:Nat) (E0:Nat→Value),i4≤rts.length∧E=Aw E0 [(2,.pointer z15),(3,.pointer z14),(4,.bool false),(9,D ((i4:Int)))]∧(EJ ins scs pas rts)=EM (List.drop i4 rts)∧Wk w s5 z11 [] []) (fun E _=>rts.length - AQ (E 9)) ⟨0,xu,Nat.zero_le _,rfl,y1,kl⟩ ?_
     clear y1
     rintro E s5 ⟨i4,E0,ww,rfl,y1,kc⟩ c3
     refine AC W2 kc [(0,3)] fun zr b7=>?_
     refine AM (decide ((i4:Int) < (rts.length:Int))) (fun a5=>?_) (fun a5=>?_)
     ·have m2:i4 < rts.length:=by have:=of_decide_eq_true a5; omega
      obtain ⟨d,s3⟩:∃ e,rts[i4]?=some e:=⟨_,List.getElem?_eq_getElem m2⟩
      rw [RU i4 d s3] at y1
      refine Al 26 W1 b7 [] fun r3 ka=>?_
      have qs:Wk w r3 z11 [] []:=ka.pk [0,1] []
      refine BB [(2,.pointer z15),(3,.pointer z14),(4,.bool false),(9,D ((i4:Int)))] fun E61=>?_
      obtain ⟨B,H0⟩:=qs
      have H:AU w.heap.size r3 (List.map Th.ent z11++[]):=H0.noTail
      clear H0
      have G:=H.goods (M:=z11)
      have S61:=B.size
      obtain ⟨h0,k0,rfl,c1,n1⟩:=t4.all (by omega)
      obtain ⟨f0,o,f1,k2⟩:=n1 i4 _ s3
      obtain ⟨p0,q0,rfl,d1,m1⟩:=v3.all (by omega)
      obtain ⟨z0,r0,g1,g2⟩:=m1 i4 _ s3
      refine C4 NF 14 ?_
      refine C5 (i:=0) (v:=.pointer (some ⟨w.heap.size,3,none⟩)) (NF.getD 0 default) (fun _ _ _ h=>nomatch h.1) ?_
      refine C5 (i:=5) (v:=.pointer (some ⟨w.heap.size + 1,3,none⟩)) (NF.getD 5 default) (fun _ _ _ h=>nomatch h.1) ?_
      let z13:List Value:=[.string ⟨⟨d.1⟩⟩,.bool (d.2.1),D d.2.2.1,D d.2.2.2.1,D d.2.2.2.2.1,.slice f0 d.2.2.2.2.2.length o]
      let z16:List Value:=[.string ⟨⟨d.1⟩⟩,.bool (d.2.1),D d.2.2.1,D d.2.2.2.1,D d.2.2.2.2.1,.slice z0 d.2.2.2.2.2.length r0]
      let z17:List Value:=[.string ⟨⟨[]⟩⟩,.bool false,D 0,D 0,D 0,.slice none 0 0]
      refine ZZ (md:=.any) (fuel:=1) (L:=[AN 1 [] (.slice (some ⟨h0,k0,none⟩) rts.length m),AN 2 [] (D ((i4:Int))),AN 3 [1,2] (.pointer (some ⟨h0,k0 + i4 * 6,none⟩)),AN 4 [1,2,3] (.agg ⟨z13⟩),AN 6 [] (.slice (some ⟨p0,q0,none⟩) rts.length j),AN 7 [] (D ((i4:Int))),AN 8 [6,7] (.pointer (some ⟨p0,q0 + i4 * 6,none⟩)),AN 9 [6,7,8] (.agg ⟨z16⟩),⟨10,[],[],fun _ _=>True⟩,⟨11,[],[],fun _ _=>True⟩,⟨12,[1,2,3,4,10,11],[],fun _ _=>True⟩]) (W:=m7) (J:=Gu r3 49 49 z17 z13 z17 10 11 12) (Ext:=fun _ _=>True) (by kernel_rfl) (Gu.start (by kernel_rfl)) (fun _=>trivial) (fun _ _ _ _ _=>trivial) ⟨?_,?_,?_,?_,?_,?_,?_,?_,?_,?_,?_,trivial⟩ rfl ?_
      ·refine ⟨fun _ _ _ _ h=>h,fun a1 b1 u hl hj hu hb=>?_⟩
       have hB:=hu.below
       exact AH.knownE [] (by kernel_rfl) trivial (AH.reads ⟨0,[⟨w.heap.size,0,[.slice b0 ins.length s,.slice d0 scs.length f,.slice a0 pas.length r,.slice (some ⟨h0,k0,none⟩) rts.length m],43,true⟩,⟨w.heap.size + 1,0,[.slice z ins.length q,.slice c0 scs.length l,.slice t pas.length p,.slice (some ⟨p0,q0,none⟩) rts.length j],43,true⟩],(0,3),[]⟩ (Az G hB) (.slice (some ⟨h0,k0,none⟩) rts.length m) ⟨hu.pure (i:=1) hl (show 10≠1 by decide) (show 11≠1 by decide) (show 12≠1 by decide),trivial,rfl⟩)
      ·refine ⟨fun _ _ _ _ h=>h,fun a1 b1 u hl hj hu hb=>?_⟩
       have hB:=hu.below
       exact AH.knownE [] (by kernel_rfl) trivial (AH.reads ⟨0,[],(0,0),[]⟩ (fun e he=>by cases he) (D ((i4:Int))) ⟨hu.pure (i:=2) hl (show 10≠2 by decide) (show 11≠2 by decide) (show 12≠2 by decide),trivial,rfl⟩)
      ·refine ⟨fun _ _ _ _ h=>h,fun a1 b1 u hl hj hu hb=>?_⟩
       have hB:=hu.below
       obtain ⟨h1,h2,_⟩:=hb
       exact AH.knownE [(138,1,.slice (some ⟨h0,k0,none⟩) rts.length m),(139,2,D ((i4:Int)))] (by kernel_rfl) ⟨(List.cons.inj h1).1,(List.cons.inj h2).1,trivial⟩ (AH.value (h:=(Bd (sz:=6) (cap:=m) 41 (.tmp 138) (.tmp 139) rfl rfl m2 Tryz.underlying41)) ⟨hu.pure (i:=3) hl (show 10≠3 by decide) (show 11≠3 by decide) (show 12≠3 by decide),trivial,rfl⟩)
      ·refine ⟨fun _ _ _ _ h=>h,fun a1 b1 u hl hj hu hb=>?_⟩
       have hB:=hu.below
       obtain ⟨h1,h2,h3,_⟩:=hb
       exact AH.knownE [(140,3,.pointer (some ⟨h0,k0 + i4 * 6,none⟩))] (by kernel_rfl) ⟨(List.cons.inj h3).1,trivial⟩ (AH.reads ⟨0,[⟨h0,k0 + i4 * 6,z13,49,false⟩],(0,0),[]⟩ (fun e he=>by rw [List.mem_singleton.1 he]; exact ⟨Nat.lt_of_lt_of_le c1 (B.trans (hB.mono B.size)).size,Ac f1 c1 (B.trans (hB.mono B.size))⟩) (.agg ⟨z13⟩) ⟨hu.pure (i:=4) hl (show 10≠4 by decide) (show 11≠4 by decide) (show 12≠4 by decide),trivial,rfl⟩)
      ·refine ⟨fun _ _ _ _ h=>h,fun a1 b1 u hl hj hu hb=>?_⟩
       have hB:=hu.below
       exact AH.knownE [] (by kernel_rfl) trivial (AH.reads ⟨0,[⟨w.heap.size,0,[.slice b0 ins.length s,.slice d0 scs.length f,.slice a0 pas.length r,.slice (some ⟨h0,k0,none⟩) rts.length m],43,true⟩,⟨w.heap.size + 1,0,[.slice z ins.length q,.slice c0 scs.length l,.slice t pas.length p,.slice (some ⟨p0,q0,none⟩) rts.length j],43,true⟩],(1,3),[]⟩ (Az G hB) (.slice (some ⟨p0,q0,none⟩) rts.length j) ⟨hu.pure (i:=6) hl (show 10≠6 by decide) (show 11≠6 by decide) (show 12≠6 by decide),trivial,rfl⟩)
      ·refine ⟨fun _ _ _ _ h=>h,fun a1 b1 u hl hj hu hb=>?_⟩
       have hB:=hu.below
       exact AH.knownE [] (by kernel_rfl) trivial (AH.reads ⟨0,[],(0,0),[]⟩ (fun e he=>by cases he) (D ((i4:Int))) ⟨hu.pure (i:=7) hl (show 10≠7 by decide) (show 11≠7 by decide) (show 12≠7 by decide),trivial,rfl⟩)
      ·refine ⟨fun _ _ _ _ h=>h,fun a1 b1 u hl hj hu hb=>?_⟩
       have hB:=hu.below
       obtain ⟨h6,h7,_⟩:=hb
       exact AH.knownE [(143,6,.slice (some ⟨p0,q0,none⟩) rts.length j),(144,7,D ((i4:Int)))] (by kernel_rfl) ⟨(List.cons.inj h6).1,(List.cons.inj h7).1,trivial⟩ (AH.value (h:=(Bd (sz:=6) (cap:=j) 41 (.tmp 143) (.tmp 144) rfl rfl m2 Tryz.underlying41)) ⟨hu.pure (i:=8) hl (show 10≠8 by decide) (show 11≠8 by decide) (show 12≠8 by decide),trivial,rfl⟩)
      ·refine ⟨fun _ _ _ _ h=>h,fun a1 b1 u hl hj hu hb=>?_⟩
       have hB:=hu.below
       obtain ⟨h6,h7,h8,_⟩:=hb
       exact AH.knownE [(145,8,.pointer (some ⟨p0,q0 + i4 * 6,none⟩))] (by kernel_rfl) ⟨(List.cons.inj h8).1,trivial⟩ (AH.reads ⟨0,[⟨p0,q0 + i4 * 6,z16,49,false⟩],(0,0),[]⟩ (fun e he=>by rw [List.mem_singleton.1 he]; exact ⟨Nat.lt_of_lt_of_le d1 (B.trans (hB.mono B.size)).size,Ac g1 d1 (B.trans (hB.mono B.size))⟩) (.agg ⟨z16⟩) ⟨hu.pure (i:=9) hl (show 10≠9 by decide) (show 11≠9 by decide) (show 12≠9 by decide),trivial,rfl⟩)
      ·refine ⟨fun _ _ _ _ h=>h,fun a1 b1 u hl hj hu hb=>?_⟩
       refine AH.knownE [] (by kernel_rfl) trivial (AH.runsK ⟨u.heap.size,[],(0,0),[]⟩ ⟨u.heap.size + 1,[⟨u.heap.size,0,z17,49,true⟩],(0,0),[]⟩ (.value (.pointer (some ⟨u.heap.size,0,none⟩))) (.pointer (some ⟨u.heap.size,0,none⟩)) (.inl rfl) (Br u) rfl fun u2 hL hK=>?_)
       exact ⟨hu.allocA hl (by decide) (by decide) hL hK,trivial,trivial⟩
      ·refine ⟨fun _ _ _ _ h=>h,fun a1 b1 u hl hj hu hb=>?_⟩
       refine AH.knownE [] (by kernel_rfl) trivial (AH.runsK ⟨u.heap.size,[],(0,0),[]⟩ ⟨u.heap.size + 1,[⟨u.heap.size,0,z17,49,true⟩],(0,0),[]⟩ (.value (.pointer (some ⟨u.heap.size,0,none⟩))) (.pointer (some ⟨u.heap.size,0,none⟩)) (.inl rfl) (Br u) rfl fun u2 hL hK=>?_)
       exact ⟨hu.allocB hl (by decide) (by decide) hL hK,trivial,trivial⟩
      ·refine ⟨fun _ _ _ _ h=>h,fun a1 b1 u hl hj hu hb=>?_⟩
       obtain ⟨h1,h2,h3,h4,h10,h11,_⟩:=hb
       obtain ⟨v0,g4,hg,hk⟩:=hu.box (hj 10 (by decide)) hl (by decide) (by decide)
       refine AH.knownE [(141,4,.agg ⟨z13⟩),(10,10,.pointer (some ⟨v0,0,none⟩))] (by kernel_rfl) ⟨(List.cons.inj h4).1,g4,trivial⟩ (AH.storeH ⟨v0,0,z17,49,true⟩ ⟨v0,0,z13,49,true⟩ (0,0) hg fun u2 hn hB=>?_)
       exact ⟨hk u2 _ hn hB,trivial,trivial⟩
      intro b1 q3 hJ _ k6
      obtain ⟨x1,x2,x3,x4,x6,x7,x8,x9,zg,zf,ze,_⟩:=k6
      have q5:=hJ.below
      obtain ⟨v0,y0,g4,f9,Hn⟩:=hJ.done (by kernel_rfl)
      replace Hn:AU r3.heap.size q3 [Th.ent ⟨v0,0,z13,49,true⟩,Th.ent ⟨y0,0,z17,49,true⟩]:=Hn
      let z20:List Value:=[.slice b0 ins.length s,.slice d0 scs.length f,.slice a0 pas.length r,.slice (some ⟨h0,k0,none⟩) rts.length m]
      let z21:List Value:=[.slice z ins.length q,.slice c0 scs.length l,.slice t pas.length p,.slice (some ⟨p0,q0,none⟩) rts.length j]
      let z12:List BI:=[⟨w.heap.size,0,z20,43,true⟩,⟨w.heap.size + 1,0,z21,43,true⟩,⟨v0,0,z13,49,true⟩,⟨y0,0,z17,49,true⟩]
      replace H:AU w.heap.size q3 (List.map Th.ent z12++[]):=(H.join q5 Hn).pick [0,1,2,3] rfl (by decide)
      have Z62:=q5.size
      replace B:=B.trans (q5.mono B.size)
      have S62:=B.size
      replace G:=H.goods (M:=z12)
      refine DN [(2,.pointer z15),(3,.pointer z14),(4,.bool false),(9,D ((i4:Int))),(10,b1 10),(11,b1 11),(146,b1 9)] fun E62=>?_
      rw [show b1 10=.pointer (some ⟨v0,0,none⟩) from g4]
      rw [show b1 11=.pointer (some ⟨y0,0,none⟩) from f9]
      rw [show b1 9=.agg ⟨z16⟩ from (List.cons.inj x9).1]
      let z10:List BI:=[⟨w.heap.size,0,z20,43,true⟩,⟨w.heap.size + 1,0,z21,43,true⟩,⟨v0,0,z13,49,true⟩,⟨y0,0,z16,49,true⟩]
      refine Oa (i:=13) (NF.getD 13 default) z12 z10 (3,0) q3.heap.size (undef) (by kernel_rfl) (by kernel_rfl) (by kernel_rfl) (H.lies (M:=z12)) (by kernel_rfl) (by kernel_rfl) fun f4 a4 b4=>?_
      have Z63:f4.heap.size=q3.heap.size:=a4.sat.size
      replace B:=B.trans (H.keptB (M:=z12) b4)
      replace H:AU w.heap.size f4 (List.map Th.ent z10++[]):=H.run (M:=z12) (M':=z10) a4 b4 rfl
      have S63:=B.size
      replace G:=H.goods (M:=z10)
      refine Cy ⟨rfl,At.mid ?_⟩
      have z9:Wk w f4 z10 [] []:=⟨B,H.withTail⟩
      clear B H G
      refine Al 27 jc z9 [] fun zq a7=>?_
      let z23:=cond (cond (!(decide (d.1=d.1))) (true) (!(d.2.1 == d.2.1))) (true) (!(d.2.2.1 == d.2.2.1))
      let z24:List Value:=[D d.2.2.2.1,D d.2.2.2.2.1]
      refine Ao a7 [(1,2,0),(3,3,0),(7,2,1),(9,3,1),(14,2,2),(16,3,2),(21,2,3),(23,3,3),(28,2,5),(31,3,5)] [⟨4,[(148,.string ⟨⟨d.1⟩⟩),(150,.string ⟨⟨d.1⟩⟩)],.bool (!(decide (d.1=d.1))),true⟩,⟨24,[(168,.agg ⟨z24⟩),(170,.agg ⟨z24⟩)],.bool (!((d.2.2.2.1 == d.2.2.2.1) && (d.2.2.2.2.1 == d.2.2.2.2.1))),(!z23) && (true)⟩] a7.G (fun sp t0=>?_) fun zp E65 y9=>?_
      ·rcases List.mem_cons.1 t0 with rfl | t0
       ·exact An fun _ E u _=>IX (T:=9) (T':=9) (x:=.tmp 148) (y:=.tmp 150) (by kernel_rfl) (by kernel_rfl) (by kernel_rfl)
       obtain rfl:=List.mem_singleton.1 t0
       exact An fun _ E u _=>EP (k:=.neq) (T:=29) (a:=.agg ⟨z24⟩) (b:=.agg ⟨z24⟩) (PI u d.2.2.2.1 d.2.2.2.2.1 d.2.2.2.1 d.2.2.2.2.1)
      refine AC W0 y9 [] fun zo z6=>?_
      refine AM (cond (cond z23 (true) (!((d.2.2.2.1 == d.2.2.2.1) && (d.2.2.2.2.1 == d.2.2.2.2.1)))) (true) (!((d.2.2.2.2.2.length:Int) == (d.2.2.2.2.2.length:Int)))) (fun z4=>?_) (fun z4=>?_)
      ·refine AC sI z6 [] fun zn y6=>?_
       have hS:(EJ ins scs pas rts)=false:=by rw [y1,z4] <;> rfl
       exact Ab y6 (0,0) (.bool false) ⟨by rw [hS] <;> rfl,y6.B⟩
      ·refine AC Wz z6 [] fun r8 v9=>?_
       have t9:Wk w r8 z10 [] []:=v9.pk [0,1,2,3] []
       have zc:d.2.2.2.2.2.length≤4294967296:=z5 _ (List.mem_of_getElem? s3)
       have v1:(EJ ins scs pas rts)=Ep (EM (List.drop (i4 + 1) rts)) d.2.2.2.2.2:=by rw [y1,z4] <;> rfl
       refine BB [(2,.pointer z15),(3,.pointer z14),(4,.bool false),(9,D ((i4:Int))),(10,.pointer (some ⟨v0,0,none⟩)),(11,.pointer (some ⟨y0,0,none⟩)),(12,D (((0:Nat):Int)))] fun xt=>?_
       refine Bi (by kernel_rfl) (fun E r5=>∃ (i5:Nat) (E0:Nat→Value),i5≤d.2.2.2.2.2.length∧E=Aw E0 [(2,.pointer z15),(3,.pointer z14),(4,.bool false),(9,D ((i4:Int))),(10,.pointer (some ⟨v0,0,none⟩)),(11,.pointer (some ⟨y0,0,none⟩)),(12,D ((i5:Int)))]∧(EJ ins scs pas rts)=Ep (EM (List.drop (i4 + 1) rts)) (List.drop i5 d.2.2.2.2.2)∧Wk w r5 z10 [] []) (fun E _=>d.2.2.2.2.2.length - AQ (E 12)) ⟨0,xt,Nat.zero_le _,rfl,v1,t9⟩ ?_
       clear v1
       rintro E r5 ⟨i5,E0,wv,rfl,v1,r9⟩ b3
       refine AC jb r9 [(2,5)] fun zm u6=>?_
       refine AM (decide ((i5:Int) < (d.2.2.2.2.2.length:Int))) (fun y4=>?_) (fun y4=>?_)
       ·have l2:i5 < d.2.2.2.2.2.length:=by have:=of_decide_eq_true y4; omega
        obtain ⟨e5,k4⟩:∃ e,d.2.2.2.2.2[i5]?=some e:=⟨_,List.getElem?_eq_getElem l2⟩
        rw [RT i5 e5 k4] at v1
        refine Al 32 ja u6 [] fun zl s2=>?_
        obtain ⟨r1,t1,rfl,f2,m3⟩:=k2.all (by omega)
        have a3:=m3 i5 _ k4
        obtain ⟨q1,s1,rfl,d2,l3⟩:=g2.all (by omega)
        have z2:=l3 i5 _ k4
        let z22:=(e5.1 == e5.1) && ((e5.2.1 == e5.2.1) && ((e5.2.2.1 == e5.2.2.1) && ((e5.2.2.2.1 == e5.2.2.2.1) && ((e5.2.2.2.2.1 == e5.2.2.2.2.1) && (e5.2.2.2.2.2 == e5.2.2.2.2.2)))))
        refine Ao s2 [(1,2,5),(4,4,0),(6,3,5),(9,5,0)] [⟨3,[(190,.slice (some ⟨r1,t1,none⟩) d.2.2.2.2.2.length o),(191,D ((i5:Int)))],.pointer (some ⟨r1,t1 + i5 * 6,none⟩),true⟩,⟨8,[(195,.slice (some ⟨q1,s1,none⟩) d.2.2.2.2.2.length r0),(196,D ((i5:Int)))],.pointer (some ⟨q1,s1 + i5 * 6,none⟩),true⟩,⟨10,[(193,.agg ⟨[D e5.1,D e5.2.1,D e5.2.2.1,D e5.2.2.2.1,D e5.2.2.2.2.1,D e5.2.2.2.2.2]⟩),(198,.agg ⟨[D e5.1,D e5.2.1,D e5.2.2.1,D e5.2.2.2.1,D e5.2.2.2.2.1,D e5.2.2.2.2.2]⟩)],.bool (!z22),true⟩] (C1 (x:=⟨q1,s1 + i5 * 6,[D e5.1,D e5.2.1,D e5.2.2.1,D e5.2.2.2.1,D e5.2.2.2.2.1,D e5.2.2.2.2.2],53,false⟩) (C1 (x:=⟨r1,t1 + i5 * 6,[D e5.1,D e5.2.1,D e5.2.2.1,D e5.2.2.2.1,D e5.2.2.2.2.1,D e5.2.2.2.2.2],53,false⟩) s2.G ⟨Nat.lt_of_lt_of_le f2 s2.B.size,Ac a3 f2 s2.B⟩) ⟨Nat.lt_of_lt_of_le d2 s2.B.size,Ac z2 d2 s2.B⟩) (fun sp t0=>?_) fun zk E75 q9=>?_
        ·rcases List.mem_cons.1 t0 with rfl | t0
         ·exact An fun _ E u _=>Bd (sz:=6) (cap:=o) 47 (.tmp 190) (.tmp 191) (by kernel_rfl) (by kernel_rfl) l2 Tryz.underlying47
         rcases List.mem_cons.1 t0 with rfl | t0
         ·exact An fun _ E u _=>Bd (sz:=6) (cap:=r0) 47 (.tmp 195) (.tmp 196) (by kernel_rfl) (by kernel_rfl) l2 Tryz.underlying47
         obtain rfl:=List.mem_singleton.1 t0
         exact An fun _ E u _=>EP (k:=.neq) (T:=53) (a:=.agg ⟨[D e5.1,D e5.2.1,D e5.2.2.1,D e5.2.2.2.1,D e5.2.2.2.2.1,D e5.2.2.2.2.2]⟩) (b:=.agg ⟨[D e5.1,D e5.2.1,D e5.2.2.1,D e5.2.2.2.1,D e5.2.2.2.2.1,D e5.2.2.2.2.2]⟩) (PJ u e5.1 e5.2.1 e5.2.2.1 e5.2.2.2.1 e5.2.2.2.2.1 e5.2.2.2.2.2 e5.1 e5.2.1 e5.2.2.1 e5.2.2.2.1 e5.2.2.2.2.1 e5.2.2.2.2.2)
        refine AC jZ q9 [] fun zj r6=>?_
        refine AM (!z22) (fun w4=>?_) (fun w4=>?_)
        ·refine AC sH r6 [] fun zi q6=>?_
         have hS:(EJ ins scs pas rts)=false:=by rw [v1,w4] <;> rfl
         exact Ab q6 (0,0) (.bool false) ⟨by rw [hS] <;> rfl,q6.B⟩
        ·refine AC (Aj Wz) r6 [] fun q8 o9=>?_
         refine BB [(2,.pointer z15),(3,.pointer z14),(4,.bool false),(9,D ((i4:Int))),(10,.pointer (some ⟨v0,0,none⟩)),(11,.pointer (some ⟨y0,0,none⟩)),(12,D (IntKind.i64.wrap ((i5:Int) + 1)))] fun xs=>?_
         have n9:Wk w q8 [⟨w.heap.size,0,z20,43,true⟩,⟨w.heap.size + 1,0,z21,43,true⟩,⟨v0,0,[.string ⟨⟨d.1⟩⟩,.bool (d.2.1),D d.2.2.1,D d.2.2.2.1,D d.2.2.2.2.1,.slice (some ⟨r1,t1,none⟩) d.2.2.2.2.2.length o],49,true⟩,⟨y0,0,[.string ⟨⟨d.1⟩⟩,.bool (d.2.1),D d.2.2.1,D d.2.2.2.1,D d.2.2.2.2.1,.slice (some ⟨q1,s1,none⟩) d.2.2.2.2.2.length r0],49,true⟩] [] []:=o9.pk [0,1,2,3] []
         rw [Bs i5 (by omega)]
         refine b3 _ _ ⟨i5 + 1,xs,l2,rfl,by rw [v1,w4] <;> rfl,n9⟩ ?_
         show d.2.2.2.2.2.length - AQ (D ((i5 + 1:Nat):Int)) < d.2.2.2.2.2.length - AQ (D (i5:Int))
         simp only [AQ]
         omega
       ·have a6:i5=d.2.2.2.2.2.length:=by have:=of_decide_eq_false y4; omega
        rw [a6,List.drop_length,Tj] at v1
        refine AC (Aj W3) u6 [] fun k8 k9=>?_
        refine BB [(2,.pointer z15),(3,.pointer z14),(4,.bool false),(9,D (IntKind.i64.wrap ((i4:Int) + 1)))] fun xr=>?_
        have h9:Wk w k8 [⟨w.heap.size,0,z20,43,true⟩,⟨w.heap.size + 1,0,z21,43,true⟩] [] []:=k9.pk [0,1] []
        rw [Bs i4 (by omega)]
        refine c3 _ _ ⟨i4 + 1,xr,m2,rfl,by rw [v1] <;> rfl,h9⟩ ?_
        show rts.length - AQ (D ((i4 + 1:Nat):Int)) < rts.length - AQ (D (i4:Int))
        simp only [AQ]
        omega
     ·have b6:i4=rts.length:=by have:=of_decide_eq_false a5; omega
      rw [b6,List.drop_length,Tl] at y1
      refine AC sG b7 [] fun zh m6=>?_
      have hS:(EJ ins scs pas rts)=true:=by rw [y1] <;> rfl
      exact Ab m6 (0,0) (.bool true) ⟨by rw [hS] <;> rfl,m6.B⟩
end
end Go.Proofs.YtmcpjkcggfmcmaaGreatDoor

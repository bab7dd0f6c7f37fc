/-
  Part 39 of a proof: contracts of functions.
-/
import Derived.Test.YtmcpjkcggfmcmaaGreatDoorL38
set_option linter.all false
namespace Go.Proofs.YtmcpjkcggfmcmaaGreatDoor
noncomputable section
open Go.RowKit
set_option maxRecDepth 100000
set_option maxHeartbeats 1000000
attribute [local irreducible] BD Bb AF AG AL A4 Ai AO BO CV Di CC Bp At Fr
def Dk (p0:Int) (p1a:Int) (p1b:Int):List Int:=cond (p1a == 16) ([p1b]) (cond (p1a == 17) ([IntKind.i64.wrap (p0 + 1),p1b]) ([IntKind.i64.wrap (p0 + 1)]))
noncomputable def SP:Code:=Tryz.f61.body.getD .skip
def Uf:List Item:=AB 60 ([.code SP])
def dV:List Item:=AB 60 (AG Uf)
def ly:List Item:=AB 60 (dV)
def Ue:List Item:=AB 60 (AL Uf)
def dU:List Item:=AB 60 (AG Ue)
def lx:List Item:=AB 60 (dU)
def dT:List Item:=AB 60 (AL Ue)
def lw:List Item:=AB 60 (dT)
theorem RY (p0:Int) (p1a:Int) (p1b:Int) (p1ca:Int) (p1cb:Int) (p1d:Int) (p1e:Int) (w:World):Calls Tryz.prog 61 ([.int .i64 p0,.agg ⟨[.int .i64 p1a,.int .i64 p1b,.int .i64 p1ca,.int .i64 p1cb,.int .i64 p1d,.int .i64 p1e]⟩]:List Value).toArray w fun e w'=>∃ (rA0:Option Addr) (rc0:Nat),e=.returned (.slice rA0 ((Dk p0 p1a p1b).length) rc0)∧Below w.heap.size w w'∧AY w.heap.size w' [Fj rA0 rc0 (Dk p0 p1a p1b)]:=by
 refine Ab (fn:=Tryz.f61) (c:=SP) (n:=22) ?_
 have K1:=Wk.start w
 refine BF Uf K1 [(0,0)] fun w1 K2=>?_
 refine AK (p1a == 16) (fun c2=>?_) (fun c2=>?_)
 ·refine Bv dV [⟨w.heap.size,0,[.int .i64 p1a,.int .i64 p1b,.int .i64 p1ca,.int .i64 p1cb,.int .i64 p1d,.int .i64 p1e],53,true⟩,⟨w1.heap.size,0,[.int .i64 p1b],3,true⟩] K2 [(0,1)] fun w3 K3=>?_
  have K4:=K3.entRows 1 (g:=w1.heap.size) (U:=3) (n:=1) (fun e r=>r=HP e) [p1b] [[.int .i64 p1b]] (by repeat (first | exact trivial | refine ⟨rfl,?_⟩)) rfl rfl (by simp) (by kernel_rfl)
  refine AC ly K4 [] fun w4 K5=>?_
  have hS:(Dk p0 p1a p1b)=([p1b]):=by unfold Dk; rw [c2] <;> rfl
  exact Aa K5 (0,0) (.slice (some ⟨w1.heap.size,0,none⟩) 1 1) ⟨(some ⟨w1.heap.size,0,none⟩),1,by rw [hS] <;> rfl,K5.B,by rw [hS]; exact K5.own0 [0] rfl (by decide)⟩
 ·refine AC Ue K2 [] fun w5 K6=>?_
  refine AK (p1a == 17) (fun c6=>?_) (fun c6=>?_)
  ·refine Bv dU [⟨w.heap.size,0,[.int .i64 p1a,.int .i64 p1b,.int .i64 p1ca,.int .i64 p1cb,.int .i64 p1d,.int .i64 p1e],53,true⟩,⟨w5.heap.size,0,[.int .i64 (IntKind.i64.wrap (p0 + 1)),.int .i64 p1b],3,true⟩] K6 [(0,1)] fun w7 K7=>?_
   have K8:=K7.entRows 1 (g:=w5.heap.size) (U:=3) (n:=1) (fun e r=>r=HP e) [IntKind.i64.wrap (p0 + 1),p1b] [[.int .i64 (IntKind.i64.wrap (p0 + 1))],[.int .i64 p1b]] (by repeat (first | exact trivial | refine ⟨rfl,?_⟩)) rfl rfl (by simp) (by kernel_rfl)
   refine AC lx K8 [] fun w8 K9=>?_
   have hS:(Dk p0 p1a p1b)=([IntKind.i64.wrap (p0 + 1),p1b]):=by unfold Dk; rw [c2,c6] <;> rfl
   exact Aa K9 (0,0) (.slice (some ⟨w5.heap.size,0,none⟩) 2 2) ⟨(some ⟨w5.heap.size,0,none⟩),2,by rw [hS] <;> rfl,K9.B,by rw [hS]; exact K9.own0 [0] rfl (by decide)⟩
  ·refine Bv dT [⟨w.heap.size,0,[.int .i64 p1a,.int .i64 p1b,.int .i64 p1ca,.int .i64 p1cb,.int .i64 p1d,.int .i64 p1e],53,true⟩,⟨w5.heap.size,0,[.int .i64 (IntKind.i64.wrap (p0 + 1))],3,true⟩] K6 [] fun w9 K10=>?_
   have K11:=K10.entRows 1 (g:=w5.heap.size) (U:=3) (n:=1) (fun e r=>r=HP e) [IntKind.i64.wrap (p0 + 1)] [[.int .i64 (IntKind.i64.wrap (p0 + 1))]] (by repeat (first | exact trivial | refine ⟨rfl,?_⟩)) rfl rfl (by simp) (by kernel_rfl)
   refine AC lw K11 [] fun w10 K12=>?_
   have hS:(Dk p0 p1a p1b)=([IntKind.i64.wrap (p0 + 1)]):=by unfold Dk; rw [c2,c6] <;> rfl
   exact Aa K12 (0,0) (.slice (some ⟨w5.heap.size,0,none⟩) 1 1) ⟨(some ⟨w5.heap.size,0,none⟩),1,by rw [hS] <;> rfl,K12.B,by rw [hS]; exact K12.own0 [0] rfl (by decide)⟩
def Mo (cs:List AJ):Prop:=∀ (i:Nat) (x:AJ),cs[i]?=some x→x.1=16∨x.1=17→(i:Int) < x.2.1∧x.2.1≤(cs.length:Int)
def BS (i:Nat) (x:AJ):List Nat:=(Dk (i:Int) x.1 x.2.1).map Int.toNat
theorem PI (i:Nat) (x:AJ):(BS i x).length≤2:=by
 unfold BS Dk
 rw [List.length_map]
 cases x.1 == 16 <;> cases x.1 == 17 <;> simp
theorem Ky {cs:List AJ} (h:Mo cs) (hl:cs.length≤4294967296) {i:Nat} {x:AJ} (hi:cs[i]?=some x):∀ t∈Dk (i:Int) x.1 x.2.1,0≤t∧t < (cs.length:Int) + 1:=fun t ht=>by
 have hlt:i < cs.length:=(List.getElem?_eq_some_iff.1 hi).1
 have hj:=h i x hi
 unfold Dk at ht
 rw [IntWalk.i64_in ((i:Int) + 1) (by omega)] at ht
 cases h16:(x.1 == 16) <;> rw [h16] at ht
 ·cases h17:(x.1 == 17) <;> rw [h17] at ht
  ·simp only [cond_false,List.mem_singleton] at ht
   omega
  ·have:=hj (.inr (by simpa using h17))
   simp only [cond_false,cond_true,List.mem_cons,List.not_mem_nil,or_false] at ht
   omega
 ·have:=hj (.inl (by simpa using h16))
  simp only [cond_true,List.mem_singleton] at ht
  omega
theorem Gw {cs:List AJ} (h:Mo cs) (hl:cs.length≤4294967296) {i:Nat} {x:AJ} (hi:cs[i]?=some x):∀ t∈BS i x,t < cs.length + 1:=fun t ht=>by
 obtain ⟨z,hz,rfl⟩:=List.mem_map.1 ht
 have:=Ky h hl hi z hz
 omega
theorem PJ {cs:List AJ} (h:Mo cs) (hl:cs.length≤4294967296) {i:Nat} {x:AJ} (hi:cs[i]?=some x) (w:World):Calls Tryz.prog 61 ([.int .i64 (i:Int),.agg ⟨IB x⟩]:List Value).toArray w fun e w'=>∃ (A:Option Addr) (c:Nat),e=.returned (.slice A (BS i x).length c)∧Below w.heap.size w w'∧AY w.heap.size w' [BE A c (BS i x)]:=by
 refine (RY (i:Int) x.1 x.2.1 x.2.2.1 x.2.2.2.1 x.2.2.2.2.1 x.2.2.2.2.2 w).mono fun e w' hh=>?_
 obtain ⟨A,c,rfl,B,H⟩:=hh
 refine ⟨A,c,by unfold BS; rw [List.length_map],B,H.natRow (BS i x) ?_ 0 rfl⟩
 unfold BS
 rw [List.map_map]
 refine (List.map_id _).symm.trans (List.map_congr_left fun t ht=>?_)
 have:=(Ky h hl hi t ht).1
 show t=((t.toNat:Nat):Int)
 omega
def CO (a1_0:List Int) (e1:AJ) (i1:Nat) (k2:(List Int)→Bool):List (Nat)→List Int→Bool
 | [],a2_0=>k2 a2_0
 | e2 :: tl,a2_0=>cond (cond (!((a2_0.getD e2 default) == -1)) (!((a2_0.getD e2 default) == IntKind.i64.wrap ((IntKind.i64.wrap ((a1_0.getD i1 default) - ((Am e1.1).1))) + ((Am e1.1).2)))) (false)) (false) (CO a1_0 e1 i1 k2 tl ((a2_0.set e2 (IntKind.i64.wrap ((IntKind.i64.wrap ((a1_0.getD i1 default) - ((Am e1.1).1))) + ((Am e1.1).2))))))
theorem Lp {a1_0:List Int} {e1:AJ} {i1:Nat} {k2:(List Int)→Bool} {a2_0:List Int}:CO a1_0 e1 i1 k2 [] a2_0=(k2 a2_0):=by rw [CO]
theorem Kv {a1_0:List Int} {e1:AJ} {i1:Nat} {k2:(List Int)→Bool} {a2_0:List Int} {es:List (Nat)} (i:Nat) (e2:Nat) (hi:es[i]?=some e2):CO a1_0 e1 i1 k2 (es.drop i) a2_0=(cond (cond (!((a2_0.getD e2 default) == -1)) (!((a2_0.getD e2 default) == IntKind.i64.wrap ((IntKind.i64.wrap ((a1_0.getD i1 default) - ((Am e1.1).1))) + ((Am e1.1).2)))) (false)) (false) (CO a1_0 e1 i1 k2 (es.drop (i + 1)) ((a2_0.set e2 (IntKind.i64.wrap ((IntKind.i64.wrap ((a1_0.getD i1 default) - ((Am e1.1).1))) + ((Am e1.1).2))))))):=by
 have hl:i < es.length:=(List.getElem?_eq_some_iff.1 hi).1
 have he:es[i]=e2:=(List.getElem?_eq_some_iff.1 hi).2
 rw [← List.getElem_cons_drop hl,CO] <;> (try rw [he])
def BQ (cs:List (AJ)):List (AJ)→Nat→List Int→Bool
 | [],i1,a1_0=>(a1_0.getD cs.length default) == 1
 | e1 :: tl,i1,a1_0=>cond (cond ((a1_0.getD i1 default) == -1) (true) (decide ((a1_0.getD i1 default) < (Am e1.1).1))) (false) (cond (decide (64 < IntKind.i64.wrap ((IntKind.i64.wrap ((a1_0.getD i1 default) - ((Am e1.1).1))) + ((Am e1.1).2)))) (false) (CO a1_0 e1 i1 (fun (a2_0:List Int)=>BQ cs tl (i1 + 1) a2_0) (BS i1 e1) a1_0))
theorem Lq {cs:List (AJ)} {i1:Nat} {a1_0:List Int}:BQ cs [] i1 a1_0=((a1_0.getD cs.length default) == 1):=by rw [BQ]
theorem Kw {cs:List (AJ)} {a1_0:List Int} {es:List (AJ)} (i1:Nat) (e1:AJ) (hi:es[i1]?=some e1):BQ cs (es.drop i1) i1 a1_0=(cond (cond ((a1_0.getD i1 default) == -1) (true) (decide ((a1_0.getD i1 default) < (Am e1.1).1))) (false) (cond (decide (64 < IntKind.i64.wrap ((IntKind.i64.wrap ((a1_0.getD i1 default) - ((Am e1.1).1))) + ((Am e1.1).2)))) (false) (CO a1_0 e1 i1 (fun (a2_0:List Int)=>BQ cs (es.drop (i1 + 1)) (i1 + 1) a2_0) (BS i1 e1) a1_0))):=by
 have hl:i1 < es.length:=(List.getElem?_eq_some_iff.1 hi).1
 have he:es[i1]=e1:=(List.getElem?_eq_some_iff.1 hi).2
 rw [← List.getElem_cons_drop hl,BQ] <;> (try rw [he])
def C7 (cs:List (AJ)):List (Int)→Nat→List Int→Bool
 | [],i0,a0_0=>BQ cs cs 0 (a0_0.set 0 0)
 | e0 :: tl,i0,a0_0=>C7 cs tl (i0 + 1) ((a0_0.set i0 (-1)))
theorem Lr {cs:List (AJ)} {i0:Nat} {a0_0:List Int}:C7 cs [] i0 a0_0=(BQ cs cs 0 (a0_0.set 0 0)):=by rw [C7]
theorem Kx {cs:List (AJ)} {a0_0:List Int} {es:List (Int)} (i0:Nat) (e0:Int) (hi:es[i0]?=some e0):C7 cs (es.drop i0) i0 a0_0=(C7 cs (es.drop (i0 + 1)) (i0 + 1) ((a0_0.set i0 (-1)))):=by
 have hl:i0 < es.length:=(List.getElem?_eq_some_iff.1 hi).1
 have he:es[i0]=e0:=(List.getElem?_eq_some_iff.1 hi).2
 rw [← List.getElem_cons_drop hl,C7] <;> (try rw [he])
def CL (cs:List (AJ)):Bool:=C7 cs ((List.replicate ((cs.length + 1:Nat)) ((0:Int)))) 0 ((List.replicate ((cs.length + 1:Nat)) ((0:Int))))
noncomputable def Nd:Code:=Tryz.f27.body.getD .skip
def Ui:List Item:=AB (As eP 90 ([.code Nd])) ([.code Nd])
def Uh:List Item:=AB 60 (AF Ui)
def MB:List Item:=AB 60 (A4 Uh)
def lz:List Item:=AB (As Ae 90 (AG MB)) (AG MB)
def dZ:List Item:=AB (As Ae 90 (AL MB)) (AL MB)
def Ug:List Item:=AB 60 (AF (AF dZ))
def L9:List Item:=AB 60 (A4 Ug)
def dY:List Item:=AB (As Ae 90 (AG L9)) (AG L9)
def dX:List Item:=AB 60 (AF (AF dY))
def dW:List Item:=Ac 12 (AF dX)
def MC:List Item:=AB 60 (AO dW)
def jX:List Item:=AB 60 (AG MC)
def Wf:List Item:=AB (As Ae 90 (AL MC)) (AL MC)
def Pt:List Item:=AB 60 (AF (AF Wf))
def jW:List Item:=AB 60 (AG Pt)
def We:List Item:=AB 60 (AL Pt)
def Ps:List Item:=AB 60 (AF We)
def Pr:List Item:=AB 60 (A4 Ps)
def Wd:List Item:=AB (As Ae 90 (AG Pr)) (AG Pr)
def Wc:List Item:=Ac 20 (AF (AF Wd))
def MA:List Item:=AB 60 (AO Wc)
def jV:List Item:=AB 60 (AG MA)
def jU:List Item:=AB (As Ae 90 (AL MA)) (AL MA)
def Wb:List Item:=AB (As Ae 90 (AL L9)) (AL L9)
def jT:List Item:=AB 60 (AF (AF Wb))
theorem RO (p0A:Option Addr) (cs:List (AJ)) (p0c:Nat) (w:World) (h_cs:Dx 6 IB w p0A cs) (hl_cs:cs.length≤4294967296) (hj:Mo cs):Calls Tryz.prog 27 ([.slice p0A cs.length p0c]:List Value).toArray w fun e w'=>e=.returned (.bool ((CL cs)))∧Below w.heap.size w w':=by
 refine Ab (fn:=Tryz.f27) (c:=Nd) (n:=96) ?_
 have K1:=Wk.start w
 refine BA eP Ui K1 [] fun w1 K2=>?_
 refine Ax [(0,.slice p0A cs.length p0c),(2,.bool false),(14,.int .i64 (IntKind.i64.wrap ((cs.length:Int) + 1)))] fun E2=>?_
 rw [Bf cs.length (by omega)]
 refine bD (fun e r=>r=HP e) (0:Int) (HP (0:Int)) rfl (T:=3) (bytes:=8) (by kernel_rfl) rfl K2.H (Ck Ui) (by kernel_rfl) (t:=56) (x:=.tmp 14) (y:=.tmp 14) (by kernel_rfl) (by kernel_rfl) ((cs.length + 1:Nat)) (by kernel_rfl) (by kernel_rfl) (by omega) (by decide) fun gM3 w3 Z3 Hn b3=>?_
 have K3:=K2.add b3 Hn
 have hn3:(List.replicate ((cs.length + 1:Nat)) ((0:Int))).length=((cs.length + 1:Nat)):=List.length_replicate
 have hes0:((List.replicate ((cs.length + 1:Nat)) ((0:Int)))).length=((cs.length + 1:Nat)):=hn3
 refine AC Uh K3 [] fun w4 K4=>?_
 have K5:Wk w w4 [] [(Fj (some ⟨gM3,0,none⟩) (((cs.length + 1:Nat))) ((List.replicate ((cs.length + 1:Nat)) ((0:Int)))))] []:=K4.pk [] [0]
 have hv0:(CL cs)=C7 cs ((List.replicate ((cs.length + 1:Nat)) ((0:Int)))) 0 ((List.replicate ((cs.length + 1:Nat)) ((0:Int)))):=by unfold CL; rfl
 refine Ax [(0,.slice p0A cs.length p0c),(2,.bool false),(3,.slice (some ⟨gM3,0,none⟩) (((cs.length + 1:Nat))) (((cs.length + 1:Nat)))),(17,.int .i64 ((((cs.length + 1:Nat)):Int))),(18,.int .i64 (((0:Nat):Int)))] fun E5=>?_
 refine Bj (by kernel_rfl) (fun E wx0=>∃ (i0:Nat) (a0_0:List Int) (E0:Nat→Value),i0≤((List.replicate ((cs.length + 1:Nat)) ((0:Int)))).length∧E=CX E0 [(0,.slice p0A cs.length p0c),(2,.bool false),(3,.slice (some ⟨gM3,0,none⟩) (((cs.length + 1:Nat))) (((cs.length + 1:Nat)))),(17,.int .i64 ((((cs.length + 1:Nat)):Int))),(18,.int .i64 ((i0:Int)))]∧(CL cs)=C7 cs (List.drop i0 ((List.replicate ((cs.length + 1:Nat)) ((0:Int))))) i0 a0_0∧a0_0.length=((cs.length + 1:Nat))∧Wk w wx0 [] [(Fj (some ⟨gM3,0,none⟩) (((cs.length + 1:Nat))) a0_0)] []) (fun E _=>((List.replicate ((cs.length + 1:Nat)) ((0:Int)))).length - AQ (E 18)) ⟨0,((List.replicate ((cs.length + 1:Nat)) ((0:Int)))),E5,Nat.zero_le _,rfl,hv0,hn3,K5⟩ ?_
 clear hv0
 rintro E wx0 ⟨i0,a0_0,E0,hi0,rfl,hv0,hb0_0,K6⟩ hagain0
 refine AC MB K6 [] fun w7 K7=>?_
 refine AK (decide ((i0:Int) < (((cs.length + 1:Nat)):Int))) (fun c8=>?_) (fun c8=>?_)
 ·have hlt0:i0 < (List.replicate ((cs.length + 1:Nat)) ((0:Int))).length:=by have:=of_decide_eq_true c8; omega
  obtain ⟨e0,he0⟩:∃ e,((List.replicate ((cs.length + 1:Nat)) ((0:Int))))[i0]?=some e:=⟨_,List.getElem?_eq_getElem hlt0⟩
  rw [Kx i0 e0 he0] at hv0
  have hd0:a0_0[i0]?=some (a0_0.getD i0 default):=getD_some default (by have:=hlt0; omega)
  refine BA Ae lz K7 [] fun w9 K8=>?_
  refine BB (g:=gM3) (off:=0) (cap:=((cs.length + 1:Nat))) (sz:=1) (k:=i0) (len:=((cs.length + 1:Nat))) (some 23) (by have:=hlt0; omega) Tryz.underlying56 ?_
  refine Ej K8.H (K8.ix 0) (K8.at 0 rfl) i0 (a0_0.getD i0 default) hd0 0 (by decide) (.int .i64 (-1)) (fun r h=>by rw [h]; rfl) (fun _ _ h=>by rw [h]; rfl) 3 none (by kernel_rfl) (by kernel_rfl) rfl rfl (fun w10 Hn b10 Z10=>?_) (e':=-1)
  have hn10:(a0_0.set i0 (-1)).length=((cs.length + 1:Nat)):=by rw [List.length_set]; exact hb0_0
  have K9:=K8.put 0 (by simp) b10 Hn
  refine AC (Ai Uh) K9 [] fun w11 K10=>?_
  refine Ax [(0,.slice p0A cs.length p0c),(2,.bool false),(3,.slice (some ⟨gM3,0,none⟩) (((cs.length + 1:Nat))) (((cs.length + 1:Nat)))),(17,.int .i64 ((((cs.length + 1:Nat)):Int))),(18,.int .i64 (IntKind.i64.wrap ((i0:Int) + 1)))] fun E12=>?_
  have K11:Wk w w11 [] [(Fj (some ⟨gM3,0,none⟩) (((cs.length + 1:Nat))) ((a0_0.set i0 (-1))))] []:=K10.pk [] [0]
  rw [Bf i0 (by omega)]
  refine hagain0 _ _ ⟨i0 + 1,((a0_0.set i0 (-1))),E12,hlt0,rfl,by rw [hv0] <;> rfl,hn10,K11⟩ ?_
  show ((List.replicate ((cs.length + 1:Nat)) ((0:Int)))).length - AQ (.int .i64 ((i0 + 1:Nat):Int)) < ((List.replicate ((cs.length + 1:Nat)) ((0:Int)))).length - AQ (.int .i64 (i0:Int))
  simp only [AQ]
  omega
 ·have hie0:i0=(List.replicate ((cs.length + 1:Nat)) ((0:Int))).length:=by have:=of_decide_eq_false c8; omega
  rw [hie0,List.drop_length,Lr] at hv0
  have hd0:a0_0[0]?=some (a0_0.getD 0 default):=getD_some default (by omega)
  refine BA Ae dZ K7 [] fun w13 K12=>?_
  refine BB (g:=gM3) (off:=0) (cap:=((cs.length + 1:Nat))) (sz:=1) (k:=0) (len:=((cs.length + 1:Nat))) (some 26) (by omega) Tryz.underlying56 ?_
  refine Ej K12.H (K12.ix 0) (K12.at 0 rfl) 0 (a0_0.getD 0 default) hd0 0 (by decide) (.int .i64 0) (fun r h=>by rw [h]; rfl) (fun _ _ h=>by rw [h]; rfl) 3 none (by kernel_rfl) (by kernel_rfl) rfl rfl (fun w14 Hn b14 Z14=>?_) (e':=0)
  have hn14:(a0_0.set 0 0).length=((cs.length + 1:Nat)):=by rw [List.length_set]; exact hb0_0
  have K13:=K12.put 0 (by simp) b14 Hn
  refine AC Ug K13 [] fun w15 K14=>?_
  have K15:Wk w w15 [] [(Fj (some ⟨gM3,0,none⟩) (((cs.length + 1:Nat))) (a0_0.set 0 0))] []:=K14.pk [] [0]
  have hv1:(CL cs)=BQ cs cs 0 (a0_0.set 0 0):=by rw [hv0] <;> rfl
  refine Ax [(0,.slice p0A cs.length p0c),(2,.bool false),(3,.slice (some ⟨gM3,0,none⟩) (((cs.length + 1:Nat))) (((cs.length + 1:Nat)))),(27,.slice p0A cs.length p0c),(28,.int .i64 ((cs.length:Int))),(29,.int .i64 (((0:Nat):Int)))] fun E16=>?_
  refine Bj (by kernel_rfl) (fun E wx1=>∃ (i1:Nat) (a1_0:List Int) (E0:Nat→Value),i1≤cs.length∧E=CX E0 [(0,.slice p0A cs.length p0c),(2,.bool false),(3,.slice (some ⟨gM3,0,none⟩) (((cs.length + 1:Nat))) (((cs.length + 1:Nat)))),(27,.slice p0A cs.length p0c),(28,.int .i64 ((cs.length:Int))),(29,.int .i64 ((i1:Int)))]∧(CL cs)=BQ cs (List.drop i1 cs) i1 a1_0∧a1_0.length=((cs.length + 1:Nat))∧Wk w wx1 [] [(Fj (some ⟨gM3,0,none⟩) (((cs.length + 1:Nat))) a1_0)] []) (fun E _=>cs.length - AQ (E 29)) ⟨0,(a0_0.set 0 0),E16,Nat.zero_le _,rfl,hv1,hn14,K15⟩ ?_
  clear hv1
  rintro E wx1 ⟨i1,a1_0,E0,hi1,rfl,hv1,hb1_0,K16⟩ hagain1
  refine AC L9 K16 [] fun w18 K17=>?_
  refine AK (decide ((i1:Int) < (cs.length:Int))) (fun c19=>?_) (fun c19=>?_)
  ·have hlt1:i1 < cs.length:=by have:=of_decide_eq_true c19; omega
   obtain ⟨e1,he1⟩:∃ e,cs[i1]?=some e:=⟨_,List.getElem?_eq_getElem hlt1⟩
   rw [Kw i1 e1 he1] at hv1
   obtain ⟨gB1,fB1,rfl,hB1g,hB1a⟩:=h_cs.all (by omega)
   have hr0_:=hB1a i1 _ he1
   refine BA Ae dY K17 [] fun w20 K18=>?_
   refine BB (g:=gB1) (off:=fB1) (cap:=p0c) (sz:=6) (k:=i1) (len:=cs.length) (some 32) hlt1 Tryz.underlying47 ?_
   refine Bc 53 gB1 (fB1 + i1 * 6) [.int .i64 e1.1,.int .i64 e1.2.1,.int .i64 e1.2.2.1,.int .i64 e1.2.2.2.1,.int .i64 e1.2.2.2.2.1,.int .i64 e1.2.2.2.2.2] (some 33) (Af hr0_ hB1g K18.B) ?_
   refine Bv dX [⟨w20.heap.size,0,[.int .i64 e1.1,.int .i64 e1.2.1,.int .i64 e1.2.2.1,.int .i64 e1.2.2.2.1,.int .i64 e1.2.2.2.2.1,.int .i64 e1.2.2.2.2.2],53,true⟩] K18 [(0,0),(0,0)] fun w21 K19=>?_
   refine Ak K19 (Vh e1.1 w21) fun w22 K20=>?_
   refine Ag 12 dW K20 [] fun w23 K21=>?_
   have hd1:a1_0[i1]?=some (a1_0.getD i1 default):=getD_some default (by have:=hlt1; omega)
   refine Aj K21 [(3,1,0),(9,1,0)] [⟨2,[(40,.slice (some ⟨gM3,0,none⟩) (((cs.length + 1:Nat))) (((cs.length + 1:Nat)))),(41,.int .i64 ((i1:Int)))],.pointer (some ⟨gM3,0 + i1 * 1,none⟩),true⟩,⟨8,[(46,.slice (some ⟨gM3,0,none⟩) (((cs.length + 1:Nat))) (((cs.length + 1:Nat)))),(47,.int .i64 ((i1:Int)))],.pointer (some ⟨gM3,0 + i1 * 1,none⟩),(!((a1_0.getD i1 default) == -1)) && (true)⟩] (Fq (x:=⟨gM3,0 + i1 * 1,[.int .i64 ((a1_0.getD i1 default))],3,false⟩) K21.G ⟨K21.H.rowLt (K21.ix 0) (K21.at 0 rfl),K21.H.cellsF (T:=3) (n:=1) (f:=HP) (c:=(((cs.length + 1:Nat)))) (l:=a1_0) (fun _=>rfl) (K21.ix 0) (K21.at 0 rfl) hd1⟩) (fun sp hsp=>?_) fun w24 E24 K22=>?_
   ·simp only [List.mem_cons,List.not_mem_nil,or_false] at hsp
    rcases hsp with rfl | rfl
    ·exact Av fun _ E u _=>Cd (sz:=1) (cap:=((cs.length + 1:Nat))) (len:=((cs.length + 1:Nat))) 56 (.tmp 40) (.tmp 41) (by kernel_rfl) (by kernel_rfl) (by have:=hlt1; omega) Tryz.underlying56
    ·exact Av fun _ E u _=>Cd (sz:=1) (cap:=((cs.length + 1:Nat))) (len:=((cs.length + 1:Nat))) 56 (.tmp 46) (.tmp 47) (by kernel_rfl) (by kernel_rfl) (by have:=hlt1; omega) Tryz.underlying56
   refine AC MC K22 [] fun w25 K23=>?_
   refine AK (cond ((a1_0.getD i1 default) == -1) (true) (decide ((a1_0.getD i1 default) < (Am e1.1).1))) (fun c26=>?_) (fun c26=>?_)
   ·refine AC jX K23 [] fun w27 K24=>?_
    have hS:(CL cs)=false:=by rw [hv1,c26] <;> rfl
    exact Aa K24 (0,0) (.bool false) ⟨by rw [hS] <;> rfl,K24.B⟩
   ·refine BA Ae Wf K23 [] fun w28 K25=>?_
    refine BB (g:=gM3) (off:=0) (cap:=((cs.length + 1:Nat))) (sz:=1) (k:=i1) (len:=((cs.length + 1:Nat))) (some 55) (by have:=hlt1; omega) Tryz.underlying56 ?_
    refine Dm 3 gM3 (0 + i1 * 1) (.int .i64 ((a1_0.getD i1 default))) (some 56) (by simpa using (K25.H.cellsF (T:=3) (n:=1) (f:=HP) (c:=(((cs.length + 1:Nat)))) (l:=a1_0) (fun _=>rfl) (K25.ix 0) (K25.at 0 rfl) hd1) 0 _ rfl) ?_
    refine AC Pt K25 [] fun w29 K26=>?_
    refine AK (decide (64 < IntKind.i64.wrap ((IntKind.i64.wrap ((a1_0.getD i1 default) - ((Am e1.1).1))) + ((Am e1.1).2)))) (fun c30=>?_) (fun c30=>?_)
    ·refine AC jW K26 [] fun w31 K27=>?_
     have hS:(CL cs)=false:=by rw [hv1,c26,c30] <;> rfl
     exact Aa K27 (0,0) (.bool false) ⟨by rw [hS] <;> rfl,K27.B⟩
    ·refine AC We K26 [(0,0)] fun w32 K28=>?_
     refine BX (PJ hj hl_cs he1 w32) fun en w34 hh=>?_
     obtain ⟨A33_0,c33_0,rfl,b34,Hn⟩:=hh
     refine ⟨_,rfl,?_⟩
     have K29:=K28.join b34 Hn
     have ht2:(BS i1 e1).length≤2:=PI _ _
     refine AC Ps K29 [] fun w35 K30=>?_
     have K31:Wk w w35 [] [(Fj (some ⟨gM3,0,none⟩) (((cs.length + 1:Nat))) a1_0),(BE A33_0 c33_0 (BS i1 e1))] []:=K30.pk [] [0,1]
     have hv2:(CL cs)=CO a1_0 e1 i1 (fun (a2_0:List Int)=>BQ cs (List.drop (i1 + 1) cs) (i1 + 1) a2_0) (BS i1 e1) a1_0:=by rw [hv1,c26,c30] <;> rfl
     refine Ax [(0,.slice (some ⟨gB1,fB1,none⟩) cs.length p0c),(2,.bool false),(3,.slice (some ⟨gM3,0,none⟩) (((cs.length + 1:Nat))) (((cs.length + 1:Nat)))),(9,.int .i64 (IntKind.i64.wrap ((IntKind.i64.wrap ((a1_0.getD i1 default) - ((Am e1.1).1))) + ((Am e1.1).2)))),(27,.slice (some ⟨gB1,fB1,none⟩) cs.length p0c),(28,.int .i64 ((cs.length:Int))),(29,.int .i64 ((i1:Int))),(65,.slice A33_0 ((BS i1 e1).length) c33_0),(66,.int .i64 (((BS i1 e1).length:Int))),(67,.int .i64 (((0:Nat):Int)))] fun E36=>?_
     refine Bj (by kernel_rfl) (fun E wx2=>∃ (i2:Nat) (a2_0:List Int) (E0:Nat→Value),i2≤(BS i1 e1).length∧E=CX E0 [(0,.slice (some ⟨gB1,fB1,none⟩) cs.length p0c),(2,.bool false),(3,.slice (some ⟨gM3,0,none⟩) (((cs.length + 1:Nat))) (((cs.length + 1:Nat)))),(9,.int .i64 (IntKind.i64.wrap ((IntKind.i64.wrap ((a1_0.getD i1 default) - ((Am e1.1).1))) + ((Am e1.1).2)))),(27,.slice (some ⟨gB1,fB1,none⟩) cs.length p0c),(28,.int .i64 ((cs.length:Int))),(29,.int .i64 ((i1:Int))),(65,.slice A33_0 ((BS i1 e1).length) c33_0),(66,.int .i64 (((BS i1 e1).length:Int))),(67,.int .i64 ((i2:Int)))]∧(CL cs)=CO a1_0 e1 i1 (fun (a2_0:List Int)=>BQ cs (List.drop (i1 + 1) cs) (i1 + 1) a2_0) (List.drop i2 (BS i1 e1)) a2_0∧a2_0.length=((cs.length + 1:Nat))∧Wk w wx2 [] [(Fj (some ⟨gM3,0,none⟩) (((cs.length + 1:Nat))) a2_0),(BE A33_0 c33_0 (BS i1 e1))] []) (fun E _=>(BS i1 e1).length - AQ (E 67)) ⟨0,a1_0,E36,Nat.zero_le _,rfl,hv2,hb1_0,K31⟩ ?_
     clear hv2
     rintro E wx2 ⟨i2,a2_0,E0,hi2,rfl,hv2,hb2_0,K32⟩ hagain2
     refine AC Pr K32 [] fun w38 K33=>?_
     refine AK (decide ((i2:Int) < ((BS i1 e1).length:Int))) (fun c39=>?_) (fun c39=>?_)
     ·have hlt2:i2 < (BS i1 e1).length:=by have:=of_decide_eq_true c39; omega
      obtain ⟨e2,he2⟩:∃ e,(BS i1 e1)[i2]?=some e:=⟨_,List.getElem?_eq_getElem hlt2⟩
      rw [Kv i2 e2 he2] at hv2
      obtain ⟨gB2,rfl,hB2g⟩:=K33.H.rowAt (K33.ix 1) (K33.at 1 rfl) (by omega)
      refine BA Ae Wd K33 [] fun w40 K34=>?_
      refine BB (g:=gB2) (off:=0) (cap:=c33_0) (sz:=1) (k:=i2) (len:=(BS i1 e1).length) (some 69) hlt2 Tryz.underlying56 ?_
      refine Dm 3 gB2 (0 + i2 * 1) (.int .i64 ((e2:Int))) (some 70) (by simpa using (K34.H.cellsF (T:=3) (n:=1) (f:=Eb) (c:=c33_0) (l:=(BS i1 e1)) (fun _=>rfl) (K34.ix 1) (K34.at 1 rfl) he2) 0 _ rfl) ?_
      refine Ag 20 Wc K34 [] fun w41 K35=>?_
      have hd2:a2_0[e2]?=some (a2_0.getD e2 default):=getD_some default (by have:=((Gw hj hl_cs he1) _ (List.mem_of_getElem? he2)); omega)
      refine Aj K35 [(3,0,0),(9,0,0)] [⟨2,[(71,.slice (some ⟨gM3,0,none⟩) (((cs.length + 1:Nat))) (((cs.length + 1:Nat)))),(72,.int .i64 ((e2:Int)))],.pointer (some ⟨gM3,0 + e2 * 1,none⟩),true⟩,⟨8,[(77,.slice (some ⟨gM3,0,none⟩) (((cs.length + 1:Nat))) (((cs.length + 1:Nat)))),(78,.int .i64 ((e2:Int)))],.pointer (some ⟨gM3,0 + e2 * 1,none⟩),((!((a2_0.getD e2 default) == -1))) && (true)⟩] (Fq (x:=⟨gM3,0 + e2 * 1,[.int .i64 ((a2_0.getD e2 default))],3,false⟩) K35.G ⟨K35.H.rowLt (K35.ix 0) (K35.at 0 rfl),K35.H.cellsF (T:=3) (n:=1) (f:=HP) (c:=(((cs.length + 1:Nat)))) (l:=a2_0) (fun _=>rfl) (K35.ix 0) (K35.at 0 rfl) hd2⟩) (fun sp hsp=>?_) fun w42 E42 K36=>?_
      ·simp only [List.mem_cons,List.not_mem_nil,or_false] at hsp
       rcases hsp with rfl | rfl
       ·exact Av fun _ E u _=>Cd (sz:=1) (cap:=((cs.length + 1:Nat))) (len:=((cs.length + 1:Nat))) 56 (.tmp 71) (.tmp 72) (by kernel_rfl) (by kernel_rfl) (by have:=((Gw hj hl_cs he1) _ (List.mem_of_getElem? he2)); omega) Tryz.underlying56
       ·exact Av fun _ E u _=>Cd (sz:=1) (cap:=((cs.length + 1:Nat))) (len:=((cs.length + 1:Nat))) 56 (.tmp 77) (.tmp 78) (by kernel_rfl) (by kernel_rfl) (by have:=((Gw hj hl_cs he1) _ (List.mem_of_getElem? he2)); omega) Tryz.underlying56
      refine AC MA K36 [] fun w43 K37=>?_
      refine AK (cond (!((a2_0.getD e2 default) == -1)) (!((a2_0.getD e2 default) == IntKind.i64.wrap ((IntKind.i64.wrap ((a1_0.getD i1 default) - ((Am e1.1).1))) + ((Am e1.1).2)))) (false)) (fun c44=>?_) (fun c44=>?_)
      ·refine AC jV K37 [] fun w45 K38=>?_
       have hS:(CL cs)=false:=by rw [hv2,c44] <;> rfl
       exact Aa K38 (0,0) (.bool false) ⟨by rw [hS] <;> rfl,K38.B⟩
      ·refine BA Ae jU K37 [] fun w46 K39=>?_
       refine BB (g:=gM3) (off:=0) (cap:=((cs.length + 1:Nat))) (sz:=1) (k:=e2) (len:=((cs.length + 1:Nat))) (some 87) (by have:=((Gw hj hl_cs he1) _ (List.mem_of_getElem? he2)); omega) Tryz.underlying56 ?_
       refine Ej K39.H (K39.ix 0) (K39.at 0 rfl) e2 (a2_0.getD e2 default) hd2 0 (by decide) (.int .i64 (IntKind.i64.wrap ((IntKind.i64.wrap ((a1_0.getD i1 default) - ((Am e1.1).1))) + ((Am e1.1).2)))) (fun r h=>by rw [h]; rfl) (fun _ _ h=>by rw [h]; rfl) 3 none (by kernel_rfl) (by kernel_rfl) rfl rfl (fun w47 Hn b47 Z47=>?_) (e':=IntKind.i64.wrap ((IntKind.i64.wrap ((a1_0.getD i1 default) - ((Am e1.1).1))) + ((Am e1.1).2)))
       have hn47:(a2_0.set e2 (IntKind.i64.wrap ((IntKind.i64.wrap ((a1_0.getD i1 default) - ((Am e1.1).1))) + ((Am e1.1).2)))).length=((cs.length + 1:Nat)):=by rw [List.length_set]; exact hb2_0
       have K40:=K39.put 0 (by simp) b47 Hn
       refine AC (Ai Ps) K40 [] fun w48 K41=>?_
       refine Ax [(0,.slice (some ⟨gB1,fB1,none⟩) cs.length p0c),(2,.bool false),(3,.slice (some ⟨gM3,0,none⟩) (((cs.length + 1:Nat))) (((cs.length + 1:Nat)))),(9,.int .i64 (IntKind.i64.wrap ((IntKind.i64.wrap ((a1_0.getD i1 default) - ((Am e1.1).1))) + ((Am e1.1).2)))),(27,.slice (some ⟨gB1,fB1,none⟩) cs.length p0c),(28,.int .i64 ((cs.length:Int))),(29,.int .i64 ((i1:Int))),(65,.slice (some ⟨gB2,0,none⟩) ((BS i1 e1).length) c33_0),(66,.int .i64 (((BS i1 e1).length:Int))),(67,.int .i64 (IntKind.i64.wrap ((i2:Int) + 1)))] fun E49=>?_
       have K42:Wk w w48 [] [(Fj (some ⟨gM3,0,none⟩) (((cs.length + 1:Nat))) ((a2_0.set e2 (IntKind.i64.wrap ((IntKind.i64.wrap ((a1_0.getD i1 default) - ((Am e1.1).1))) + ((Am e1.1).2)))))),(BE (some ⟨gB2,0,none⟩) c33_0 (BS i1 e1))] []:=K41.pk [] [0,1]
       rw [Bf i2 (by omega)]
       refine hagain2 _ _ ⟨i2 + 1,((a2_0.set e2 (IntKind.i64.wrap ((IntKind.i64.wrap ((a1_0.getD i1 default) - ((Am e1.1).1))) + ((Am e1.1).2))))),E49,hlt2,rfl,by rw [hv2,c44] <;> rfl,hn47,K42⟩ ?_
       show (BS i1 e1).length - AQ (.int .i64 ((i2 + 1:Nat):Int)) < (BS i1 e1).length - AQ (.int .i64 (i2:Int))
       simp only [AQ]
       omega
     ·have hie2:i2=(BS i1 e1).length:=by have:=of_decide_eq_false c39; omega
      rw [hie2,List.drop_length,Lp] at hv2
      try dsimp only at hv2
      refine AC (Ai Ug) K33 [] fun w50 K43=>?_
      refine Ax [(0,.slice (some ⟨gB1,fB1,none⟩) cs.length p0c),(2,.bool false),(3,.slice (some ⟨gM3,0,none⟩) (((cs.length + 1:Nat))) (((cs.length + 1:Nat)))),(27,.slice (some ⟨gB1,fB1,none⟩) cs.length p0c),(28,.int .i64 ((cs.length:Int))),(29,.int .i64 (IntKind.i64.wrap ((i1:Int) + 1)))] fun E51=>?_
      have K44:Wk w w50 [] [(Fj (some ⟨gM3,0,none⟩) (((cs.length + 1:Nat))) a2_0)] []:=K43.pk [] [0]
      rw [Bf i1 (by omega)]
      refine hagain1 _ _ ⟨i1 + 1,a2_0,E51,hlt1,rfl,by rw [hv2] <;> rfl,hb2_0,K44⟩ ?_
      show cs.length - AQ (.int .i64 ((i1 + 1:Nat):Int)) < cs.length - AQ (.int .i64 (i1:Int))
      simp only [AQ]
      omega
  ·have hie1:i1=cs.length:=by have:=of_decide_eq_false c19; omega
   rw [hie1,List.drop_length,Lq] at hv1
   have hd0:a1_0[cs.length]?=some (a1_0.getD cs.length default):=getD_some default (by omega)
   refine BA Ae Wb K17 [] fun w52 K45=>?_
   refine BB (g:=gM3) (off:=0) (cap:=((cs.length + 1:Nat))) (sz:=1) (k:=cs.length) (len:=((cs.length + 1:Nat))) (some 93) (by omega) Tryz.underlying56 ?_
   refine Dm 3 gM3 (0 + cs.length * 1) (.int .i64 ((a1_0.getD cs.length default))) (some 94) (by simpa using (K45.H.cellsF (T:=3) (n:=1) (f:=HP) (c:=(((cs.length + 1:Nat)))) (l:=a1_0) (fun _=>rfl) (K45.ix 0) (K45.at 0 rfl) hd0) 0 _ rfl) ?_
   refine AC jT K45 [] fun w53 K46=>?_
   have hS:(CL cs)=((a1_0.getD cs.length default) == 1):=by rw [hv1] <;> rfl
   exact Aa K46 (0,0) (.bool ((a1_0.getD cs.length default) == 1)) ⟨by rw [hS] <;> rfl,K46.B⟩
end
end Go.Proofs.YtmcpjkcggfmcmaaGreatDoor

/-
  Part 37 of a proof: contracts of functions.
-/
import Derived.Test.YtmcpjkcggfmcmaaGreatDoorD36
set_option linter.all false
namespace Go.Proofs.YtmcpjkcggfmcmaaGreatDoor
noncomputable section
open Go.RowKit
set_option maxRecDepth 100000
set_option maxHeartbeats 1000000
attribute [local irreducible] BO CB AE AG AL Ay Aj AP Bc Cq Eb CT CO At Fr
def CK (p0a:List UInt8) (ds:List (Df)) (p1:Int) (a0_0:List (List UInt8×Int)):List (Nat)→Int→List DL→List (List UInt8)×List (List (Int×Int×Int))×List (List UInt8)×List DL×Int
 | [],a1_0,a1_1=>(((AA p0a ds p1)).1,((AA p0a ds p1)).2.1,((AA p0a ds p1)).2.2.1,a1_1,0)
 | e1 :: tl,a1_0,a1_1=>cond (decide (4096 < ((Aa (((AA p0a ds p1)).2.2.2.1) (((AA p0a ds p1)).2.2.2.2.1) (((AA p0a ds p1)).2.2.2.2.2.1) a0_0 ((ds.getD e1 default).body).height ((ds.getD e1 default).body) 0).length:Int))) (([],[],[],[],3)) (cond ((ds.getD e1 default).kind == 4) (CK p0a ds p1 a0_0 tl a1_0 (a1_1++[(((ds.getD e1 default).name,true,(ds.getD e1 default).mode,(ds.getD e1 default).num,(ds.getD e1 default).den,(Aa (((AA p0a ds p1)).2.2.2.1) (((AA p0a ds p1)).2.2.2.2.1) (((AA p0a ds p1)).2.2.2.2.2.1) a0_0 ((ds.getD e1 default).body).height ((ds.getD e1 default).body) 0)):DL)])) (CK p0a ds p1 a0_0 tl a1_0 (a1_1++[(((ds.getD e1 default).name,false,0,0,0,(Aa (((AA p0a ds p1)).2.2.2.1) (((AA p0a ds p1)).2.2.2.2.1) (((AA p0a ds p1)).2.2.2.2.2.1) a0_0 ((ds.getD e1 default).body).height ((ds.getD e1 default).body) 0)):DL)])))
theorem Pw {a:List UInt8} {ds:List (Df)} {p1:Int} {d:List (List UInt8×Int)} {c:Int} {b:List DL}:CK a ds p1 d [] c b=((((AA a ds p1)).1,((AA a ds p1)).2.1,((AA a ds p1)).2.2.1,b,0)):=by rw [CK]
theorem OT {a:List UInt8} {ds:List (Df)} {p1:Int} {b:List (List UInt8×Int)} {e:Int} {d:List DL} {es:List (Nat)} (i c:Nat) (hi:es[i]?=some c):CK a ds p1 b (es.drop i) e d=(cond (decide (4096 < ((Aa (((AA a ds p1)).2.2.2.1) (((AA a ds p1)).2.2.2.2.1) (((AA a ds p1)).2.2.2.2.2.1) b ((ds.getD c default).body).height ((ds.getD c default).body) 0).length:Int))) (([],[],[],[],3)) (cond ((ds.getD c default).kind == 4) (CK a ds p1 b (es.drop (i + 1)) e (d++[(((ds.getD c default).name,true,(ds.getD c default).mode,(ds.getD c default).num,(ds.getD c default).den,(Aa (((AA a ds p1)).2.2.2.1) (((AA a ds p1)).2.2.2.2.1) (((AA a ds p1)).2.2.2.2.2.1) b ((ds.getD c default).body).height ((ds.getD c default).body) 0)):DL)])) (CK a ds p1 b (es.drop (i + 1)) e (d++[(((ds.getD c default).name,false,0,0,0,(Aa (((AA a ds p1)).2.2.2.1) (((AA a ds p1)).2.2.2.2.1) (((AA a ds p1)).2.2.2.2.2.1) b ((ds.getD c default).body).height ((ds.getD c default).body) 0)):DL)])))):=by
 have hl:i < es.length:=(List.getElem?_eq_some_iff.1 hi).1
 have he:es[i]=c:=(List.getElem?_eq_some_iff.1 hi).2
 rw [← List.getElem_cons_drop hl,CK] <;> (try rw [he])
def Cn (p0a:List UInt8) (ds:List (Df)) (p1:Int):List (Nat)→Nat→List (List UInt8×Int)→List (List UInt8)×List (List (Int×Int×Int))×List (List UInt8)×List DL×Int
 | [],i0,a0_0=>CK p0a ds p1 a0_0 (((Au p0a ds p1)).1) 0 ([])
 | e0 :: tl,i0,a0_0=>Cn p0a ds p1 tl (i0 + 1) (CP a0_0 ((ds.getD e0 default).name) (i0:Int))
theorem Py {b:List UInt8} {ds:List (Df)} {p1:Int} {c:Nat} {a:List (List UInt8×Int)}:Cn b ds p1 [] c a=(CK b ds p1 a (((Au b ds p1)).1) 0 ([])):=by rw [Cn]
theorem OU {c:List UInt8} {ds:List (Df)} {p1:Int} {b:List (List UInt8×Int)} {es:List (Nat)} (a d:Nat) (hi:es[a]?=some d):Cn c ds p1 (es.drop a) a b=(Cn c ds p1 (es.drop (a + 1)) (a + 1) (CP b ((ds.getD d default).name) (a:Int))):=by
 have hl:a < es.length:=(List.getElem?_eq_some_iff.1 hi).1
 have he:es[a]=d:=(List.getElem?_eq_some_iff.1 hi).2
 rw [← List.getElem_cons_drop hl,Cn] <;> (try rw [he])
def CF (p0a:List UInt8) (ds:List (Df)) (p1:Int):List (List UInt8)×List (List (Int×Int×Int))×List (List UInt8)×List DL×Int:=cond (!(FF p0a ds)) (([],[],[],[],1)) (cond (cond (decide (p1 < 0)) (true) (decide (84005 < p1))) (([],[],[],[],2)) (cond (!(((CL p0a ds)).2 == 0)) (([],[],[],[],((CL p0a ds)).2)) (cond (decide (0 < ((((CL p0a ds)).1).length:Int))) (([],[],[],[],((((CL p0a ds)).1).getD 0 default).2)) (cond (!(((Au p0a ds p1)).2 == 0)) (([],[],[],[],((Au p0a ds p1)).2)) (Cn p0a ds p1 (((Au p0a ds p1)).1) 0 (((AA p0a ds p1)).2.2.2.2.2.2))))))
noncomputable def V4:Code:=Tryz.f8.body.getD .skip
def lF:=AB 60 ([.code V4])
def YP:=AB 60 (AE lF)
def tW:=AB 60 (AG YP)
def lE:=Ad 3 (AL YP)
def YO:=AB 60 (AP lE)
def tV:=AB 60 (AG YO)
def lD:=AB 60 (AL YO)
def YN:=AB 60 (AE lD)
def tU:=AB 60 (AG YN)
def YM:=AB 60 (AL YN)
def TL:=Ad 9 (AG YM)
def Vq:Array Oper:=(C6 TL).getD #[]
def nD:Wr:=[(40,0),(41,1),(42,2),(43,3),(44,4)]
def qc:=AB 60 (AP TL)
def au:=AB 60 (AL YM)
def TK:=AB 60 (AE au)
def qb:=AB 60 (AG TK)
def ar:=AB 60 (AL TK)
def TJ:=AB 60 (AE ar)
def O4:=AB 60 (Ay TJ)
def aq:=AB (BA Ai 90 (AG O4)) (AG O4)
def ap:=Ad 18 (AE (AE aq))
def Ln:Array Oper:=(C6 ap).getD #[]
def mD:Wr:=[(68,1),(70,3),(71,4),(72,5),(73,6),(74,7),(75,8)]
def O3:=AB 60 (AL O4)
def O2:=AB 60 (Ay O3)
def TI:=AB (BA Ai 90 (AG O2)) (AG O2)
def ao:=AB (BA Ai 90 (AE (AE TI))) (AE (AE TI))
def TH:=Ad 24 (AE (AE ao))
def Lm:Array Oper:=(C6 TH).getD #[]
def mC:Wr:=[(90,1),(91,2),(93,4),(94,5),(95,6),(16,7)]
def TG:=AB 60 (AP TH)
def qa:=AB 60 (AG TG)
def O1:=AB 60 (AL TG)
def O0:=Ad 28 (AG O1)
def Ll:Array Oper:=(C6 O0).getD #[]
def mB:Wr:=[(105,1),(107,3),(109,6),(110,8)]
def am:=AB (BA Bb 90 (AP O0)) (AP O0)
def al:=AB (BA Bb 90 (AL O1)) (AL O1)
def qZ:=AB 60 (AL O2)
theorem JN (a:List UInt8) (b1:Option Addr) (ds:List (Df)) (q0:Nat) (p1:Int) (w:World) (z1:rowsDf w b1 ds) (b4:ds.length≤4294967296) (hs:a.length≤4294967296) (ht:∀ d∈ds,IJ d) (g6:ds.length≤q0) (y8:∀ d∈ds,d.ents.length≤4294967296) (u3:∀ d∈ds,Dq d.body) (hn:∀ d∈ds,nE d.body≤1000000):Calls Tryz.prog 8 ([.agg ⟨[.string ⟨⟨a⟩⟩,.slice b1 ds.length q0]⟩,D p1]:List Value).toArray w fun e w'=>∃ (z5:Option Addr) (t5:Nat) (y5:Option Addr) (s5:Nat) (q3:List RQ) (v5:Option Addr) (r5:Nat) (u5:Option Addr) (q5:Nat) (m3:List RR),e=.returned (.tuple #[.agg ⟨[.slice z5 ((((CF a ds p1)).1).length) t5,.slice y5 q3.length s5,.slice v5 ((((CF a ds p1)).2.2.1).length) r5,.slice u5 m3.length q5]⟩,D (((CF a ds p1)).2.2.2.2)])∧q3.map Prod.fst=((CF a ds p1)).2.1∧m3.map lm=((CF a ds p1)).2.2.2.1∧Below w.heap.size w w'∧AU w.heap.size w' [Bo z5 t5 (((CF a ds p1)).1),EZ y5 s5 q3,DY q3,Bo v5 r5 (((CF a ds p1)).2.2.1),Hw u5 q5 m3,F0 m3]:=by
 refine Af (fn:=Tryz.f8) (c:=V4) (n:=119) ?_
 have K1:=Wk.start w
 let z13:List BI:=[⟨w.heap.size,0,[.string ⟨⟨a⟩⟩,.slice b1 ds.length q0],38,true⟩,⟨w.heap.size + 1,0,[.slice none 0 0,.slice none 0 0,.slice none 0 0,.slice none 0 0],43,true⟩]
 refine C8 lF z13 K1 [(0,0)] fun w1 K2=>?_
 refine Ap K2 (args:=[.agg ⟨[.string ⟨⟨a⟩⟩,.slice b1 ds.length q0]⟩]) (LX a ds _ w1 hs b4 ht (z1.below K2.B).agr) fun w2 K3=>?_
 refine AC YP K3 [] fun w3 K4=>?_
 refine AM (!(FF a ds)) (fun c4=>?_) (fun c4=>?_)
 ·have K5:=K4.addNil 9 1 (fun e r=>r=Hx e)
  have K6:=K5.addNil 27 1 (fun e r=>r=Qv e)
  have K7:=K6.addFam Ng
  have K8:=K7.addNil 9 1 (fun e r=>r=Hx e)
  have K9:=K8.addNil 49 6 (fun e r=>r=Qx e)
  have zv:=K9.addFam MZ
  refine AC tW zv [(1,0)] fun w5 c5=>?_
  have hS:(CF a ds p1)=([],[],[],[],1):=by unfold CF; rw [c4] <;> rfl
  exact Ab c5 (1,0) (.tuple #[.agg ⟨[.slice none 0 0,.slice none 0 0,.slice none 0 0,.slice none 0 0]⟩,D 1]) ⟨none,0,none,0,([]),none,0,none,0,([]),by rw [hS] <;> rfl,by rw [hS] <;> first | assumption | (simp; done) | (simp; assumption),by rw [hS] <;> first | assumption | (simp; done) | (simp; assumption),c5.B,by rw [hS]; exact c5.own0 [0,1,2,3,4,5] rfl (by decide)⟩
 ·refine Al 3 lE K4 [] fun w6 r7=>?_
  refine Ao r7 [] [] r7.G (fun sp u8=>by cases u8) fun w7 E7 zu=>?_
  refine AC YO zu [] fun w8 q7=>?_
  refine AM (cond (decide (p1 < 0)) (true) (decide (84005 < p1))) (fun c9=>?_) (fun c9=>?_)
  ·have zt:=q7.addNil 9 1 (fun e r=>r=Hx e)
   have zs:=zt.addNil 27 1 (fun e r=>r=Qv e)
   have zr:=zs.addFam Ng
   have zq:=zr.addNil 9 1 (fun e r=>r=Hx e)
   have zp:=zq.addNil 49 6 (fun e r=>r=Qx e)
   have zo:=zp.addFam MZ
   refine AC tV zo [(1,0)] fun w10 b5=>?_
   have hS:(CF a ds p1)=([],[],[],[],2):=by unfold CF; rw [c4,c9] <;> rfl
   exact Ab b5 (1,0) (.tuple #[.agg ⟨[.slice none 0 0,.slice none 0 0,.slice none 0 0,.slice none 0 0]⟩,D 2]) ⟨none,0,none,0,([]),none,0,none,0,([]),by rw [hS] <;> rfl,by rw [hS] <;> first | assumption | (simp; done) | (simp; assumption),by rw [hS] <;> first | assumption | (simp; done) | (simp; assumption),b5.B,by rw [hS]; exact b5.own0 [0,1,2,3,4,5] rfl (by decide)⟩
  ·refine AC lD q7 [(0,0)] fun e8 k7=>?_
   refine CJ (dt a b1 ds q0 e8 (z1.below k7.B) (by first | assumption | omega | (simp <;> omega)) hs ht g6) fun en w13 hh=>?_
   obtain ⟨i2,q1,rfl,q9,Hn⟩:=hh
   refine ⟨_,rfl,?_⟩
   have zn:=k7.join q9 Hn
   refine AC YN zn [] fun w14 f7=>?_
   refine AM (!(((CL a ds)).2 == 0)) (fun z2=>?_) (fun z2=>?_)
   ·have zm:=f7.addNil 9 1 (fun e r=>r=Hx e)
    have zl:=zm.addNil 27 1 (fun e r=>r=Qv e)
    have zk:=zl.addFam Ng
    have zj:=zk.addNil 9 1 (fun e r=>r=Hx e)
    have zi:=zj.addNil 49 6 (fun e r=>r=Qx e)
    have zh:=zi.addFam MZ
    refine AC tU zh [(1,0)] fun w16 a5=>?_
    have hS:(CF a ds p1)=([],[],[],[],((CL a ds)).2):=by unfold CF; rw [c4,c9,z2] <;> rfl
    exact Ab a5 (1,0) (.tuple #[.agg ⟨[.slice none 0 0,.slice none 0 0,.slice none 0 0,.slice none 0 0]⟩,D (((CL a ds)).2)]) ⟨none,0,none,0,([]),none,0,none,0,([]),by rw [hS] <;> rfl,by rw [hS] <;> first | assumption | (simp; done) | (simp; assumption),by rw [hS] <;> first | assumption | (simp; done) | (simp; assumption),a5.B,by rw [hS]; exact a5.own0 [1,2,3,4,5,6] rfl (by decide)⟩
   ·refine AC YM f7 [] fun w17 c7=>?_
    refine AM (decide (0 < ((((CL a ds)).1).length:Int))) (fun y2=>?_) (fun y2=>?_)
    ·have a6:0 < (((CL a ds)).1).length:=by have:=of_decide_eq_true y2; omega
     refine Al 9 TL c7 [] fun l3 zg=>?_
     have zf:Wk w l3 z13 [(Iz i2 q1 (((CL a ds)).1))] []:=zg.pk [0,1] [0]
     let z31:=(((CL a ds)).1).length
     refine BB [(1,D p1),(2,.pointer (some ⟨w.heap.size,0,none⟩)),(4,.pointer (some ⟨w.heap.size + 1,0,none⟩)),(5,D 0),(6,.slice i2 z31 q1),(7,D (((CL a ds)).2))] fun E20=>?_
     obtain ⟨B,H0⟩:=zf
     have H:AU w.heap.size l3 (List.map Th.ent z13++[(Iz i2 q1 (((CL a ds)).1))]):=H0.noTail
     clear H0
     have G:=H.goods (M:=z13)
     have S20:=B.size
     obtain ⟨c1,rfl,z3⟩:=H.rowAt 2 rfl (by omega)
     let z24:=(((CL a ds)).1).getD 0 default
     have z8:(((CL a ds)).1)[0]?=some z24:=getD_some default a6
     refine C4 Vq 7 ?_
     let z17:List (List Value):=[[.slice none 0 0,.slice none 0 0,.slice none 0 0,.slice none 0 0],[.slice none 0 0,.slice none 0 0,.slice none 0 0,.slice none 0 0]]
     refine CG (md:=.any) (fuel:=1) (L:=[AN 0 [] (.agg ⟨[.slice none 0 0,.slice none 0 0,.slice none 0 0,.slice none 0 0]⟩),AN 1 [] (.slice (some ⟨c1,0,none⟩) z31 q1),AN 2 [1] (.pointer (some ⟨c1,0 + 0 * 2,none⟩)),AN 3 [1,2] (.pointer (some ⟨c1,0 + 0 * 2 + 1,none⟩)),AN 4 [1,2,3] (D (z24.2)),⟨5,[0],[],fun _ u=>LV 43 z17 (w.heap.size + 1) 1 u⟩]) (W:=nD) (C:=M9 43 z17 (w.heap.size + 1) l3) (Ext:=Ft 43 z17 (w.heap.size + 1)) (M9.start (G _ (List.mem_of_getElem? (i:=1) rfl)) rfl) Ft.refl Ft.trans ⟨?_,?_,?_,?_,?_,?_,trivial⟩ rfl ?_
     ·refine ⟨fun _ _ _ _ _ h=>h,fun r0 u hu hb=>?_⟩
      exact AH.knownE [] (by kernel_rfl) trivial (AH.reads ⟨0,[],(0,0),[]⟩ (fun e he=>by cases he) (.agg ⟨[.slice none 0 0,.slice none 0 0,.slice none 0 0,.slice none 0 0]⟩) ⟨hu,Ft.refl _,rfl⟩)
     ·refine ⟨fun _ _ _ _ _ h=>h,fun r0 u hu hb=>?_⟩
      exact AH.knownE [] (by kernel_rfl) trivial (AH.reads ⟨0,[],(0,0),[]⟩ (fun e he=>by cases he) (.slice (some ⟨c1,0,none⟩) z31 q1) ⟨hu,Ft.refl _,rfl⟩)
     ·refine ⟨fun _ _ _ _ _ h=>h,fun r0 u hu hb=>?_⟩
      obtain ⟨h1,_⟩:=hb
      exact AH.knownE [(41,1,.slice (some ⟨c1,0,none⟩) z31 q1)] (by kernel_rfl) ⟨(List.cons.inj h1).1,trivial⟩ (AH.value (h:=(Bd (sz:=2) (cap:=q1) 66 (.tmp 41) (.const (D 0)) rfl rfl a6 Tryz.underlying66)) ⟨hu,Ft.refl _,rfl⟩)
     ·refine ⟨fun _ _ _ _ _ h=>h,fun r0 u hu hb=>?_⟩
      obtain ⟨h1,h2,_⟩:=hb
      exact AH.knownE [(42,2,.pointer (some ⟨c1,0 + 0 * 2,none⟩))] (by kernel_rfl) ⟨(List.cons.inj h2).1,trivial⟩ (AH.reads ⟨0,[],(0,0),[]⟩ (fun e he=>by cases he) (.pointer (some ⟨c1,0 + 0 * 2 + 1,none⟩)) ⟨hu,Ft.refl _,rfl⟩)
     ·refine ⟨fun _ _ _ _ _ h=>h,fun r0 u hu hb=>?_⟩
      obtain ⟨h1,h2,h3,_⟩:=hb
      exact AH.knownE [(43,3,.pointer (some ⟨c1,0 + 0 * 2 + 1,none⟩))] (by kernel_rfl) ⟨(List.cons.inj h3).1,trivial⟩ (AH.reads ⟨0,[⟨c1,0 + 0 * 2 + 1,[D (z24.2)],44,false⟩],(0,0),[]⟩ (fun e he=>by rw [List.mem_singleton.1 he]; exact ⟨Nat.lt_of_lt_of_le (H.lo 2 _ rfl c1 rfl).2 hu.1.size,Li (bY (H.cellsF (T:=70) (n:=2) (f:=lp) (c:=q1) (l:=(((CL a ds)).1)) (fun _=>rfl) 2 rfl z8) (H.lo 2 _ rfl c1 rfl).2 hu.1 (H.apart 2 1 _ _ rfl rfl (by decide) c1 rfl)) 1 _ rfl⟩) (D (z24.2)) ⟨hu,Ft.refl _,rfl⟩)
     ·refine ⟨fun _ _ _ _ he h=>he.up _ h,fun r0 u hu hb=>?_⟩
      obtain ⟨h0,_⟩:=hb
      have hf:∀ (j:Nat) (c:List Value),1≤j + 1→(z17:List (List Value))[j]?=some c→(z17:List (List Value))[max 1 j]?=some (Gd 0 [.slice none 0 0,.slice none 0 0,.slice none 0 0,.slice none 0 0] c):=fun j c h1 h2=>by
       have hl:j < 2:=(List.getElem?_eq_some_iff.1 h2).1
       have hx:j=0∨j=1:=by omega
       rcases hx with rfl | rfl <;> (obtain rfl:=Option.some.inj h2; rfl)
      have e2:LV 43 z17 (w.heap.size + 1) 0 u:=hu.2
      obtain ⟨j,c,hj,hc,hg⟩:=e2
      have e4:j < 2:=(List.getElem?_eq_some_iff.1 hc).1
      have hx:j=0∨j=1:=by omega
      rcases hx with rfl | rfl
      ·obtain rfl:=Option.some.inj hc
       refine AH.knownE [(40,0,.agg ⟨[.slice none 0 0,.slice none 0 0,.slice none 0 0,.slice none 0 0]⟩)] (by kernel_rfl) ⟨(List.cons.inj h0).1,trivial⟩ (AH.storeH ⟨w.heap.size + 1,0,[.slice none 0 0,.slice none 0 0,.slice none 0 0,.slice none 0 0],43,true⟩ ⟨w.heap.size + 1,0,[.slice none 0 0,.slice none 0 0,.slice none 0 0,.slice none 0 0],43,true⟩ (0,0) hg fun u2 hn hB=>?_)
       have hs:=EG (i:=1) (Gd 0 [.slice none 0 0,.slice none 0 0,.slice none 0 0,.slice none 0 0]) hf (j:=0) (by omega) rfl hg hB hn rfl
       exact ⟨⟨hu.1.trans hB,hs.1.up 0 hu.2⟩,hs.1,hs.2⟩
      ·obtain rfl:=Option.some.inj hc
       refine AH.knownE [(40,0,.agg ⟨[.slice none 0 0,.slice none 0 0,.slice none 0 0,.slice none 0 0]⟩)] (by kernel_rfl) ⟨(List.cons.inj h0).1,trivial⟩ (AH.storeH ⟨w.heap.size + 1,0,[.slice none 0 0,.slice none 0 0,.slice none 0 0,.slice none 0 0],43,true⟩ ⟨w.heap.size + 1,0,[.slice none 0 0,.slice none 0 0,.slice none 0 0,.slice none 0 0],43,true⟩ (0,0) hg fun u2 hn hB=>?_)
       have hs:=EG (i:=1) (Gd 0 [.slice none 0 0,.slice none 0 0,.slice none 0 0,.slice none 0 0]) hf (j:=1) (by omega) rfl hg hB hn rfl
       exact ⟨⟨hu.1.trans hB,hs.1.up 0 hu.2⟩,hs.1,hs.2⟩
     intro r0 k3 b3 _ y1
     replace b3:M9 43 z17 (w.heap.size + 1) l3 k3:=b3
     obtain ⟨x0,x1,x2,x3,x4,x5,_⟩:=y1
     have m6:=b3.1.below (H.lo 1 _ rfl (w.heap.size + 1) rfl).1 H.base
     let z30:=Iz (some ⟨c1,0,none⟩) q1 (((CL a ds)).1)
     replace H:AU w.heap.size k3 (List.map Th.ent z13++[z30]):=H.staged (cs:=z17) 1 rfl b3.1 x5 rfl
     have Z21:=b3.1.size
     replace B:=B.trans m6
     have S21:=B.size
     replace G:=H.goods (M:=z13)
     refine DN [(1,D p1),(2,.pointer (some ⟨w.heap.size,0,none⟩)),(4,.pointer (some ⟨w.heap.size + 1,0,none⟩)),(5,D 0),(7,D (((CL a ds)).2)),(44,r0 4)] fun E21=>?_
     rw [show r0 4=D (z24.2) from (List.cons.inj x4).1]
     refine Oa (i:=6) (Vq.getD 6 default) z13 z13 (0,0) k3.heap.size (D (z24.2)) (by kernel_rfl) (by kernel_rfl) (by kernel_rfl) (H.lies (M:=z13)) (by kernel_rfl) (by kernel_rfl) fun a4 v3 y3=>?_
     have Z22:a4.heap.size=k3.heap.size:=v3.sat.size
     replace B:=B.trans (H.keptB (M:=z13) y3)
     replace H:AU w.heap.size a4 (List.map Th.ent z13++[z30]):=H.run (M:=z13) (M':=z13) v3 y3 rfl
     have S22:=B.size
     replace G:=H.goods (M:=z13)
     refine Cy ⟨rfl,At.mid ?_⟩
     have ze:Wk w a4 z13 [z30] []:=⟨B,H.withTail⟩
     clear B H G
     have zd:=ze.addNil 9 1 (fun e r=>r=Hx e)
     have zc:=zd.addNil 27 1 (fun e r=>r=Qv e)
     have zb:=zc.addFam Ng
     have za:=zb.addNil 9 1 (fun e r=>r=Hx e)
     have xz:=za.addNil 49 6 (fun e r=>r=Qx e)
     have xy:=xz.addFam MZ
     refine AC qc xy [] fun w23 z4=>?_
     have hS:(CF a ds p1)=([],[],[],[],z24.2):=by unfold CF; rw [c4,c9,z2,y2] <;> rfl
     exact Ab z4 (1,0) (.tuple #[.agg ⟨[.slice none 0 0,.slice none 0 0,.slice none 0 0,.slice none 0 0]⟩,D (z24.2)]) ⟨none,0,none,0,([]),none,0,none,0,([]),by rw [hS] <;> rfl,by rw [hS] <;> first | assumption | (simp; done) | (simp; assumption),by rw [hS] <;> first | assumption | (simp; done) | (simp; assumption),z4.B,by rw [hS]; exact z4.own0 [1,2,3,4,5,6] rfl (by decide)⟩
    ·refine AC au c7 [(0,0)] fun c8 b7=>?_
     refine CJ (eA a b1 ds q0 p1 c8 (z1.below b7.B) (by first | assumption | omega | (simp <;> omega)) hs ht u3 hn) fun en w26 hh=>?_
     obtain ⟨r1,t0,rfl,o9,Hn⟩:=hh
     refine ⟨_,rfl,?_⟩
     have xx:=b7.join o9 Hn
     have hol:=(FD (n:=a) (p1:=p1) hn).2
     refine AC TK xx [] fun w27 a7=>?_
     refine AM (!(((Au a ds p1)).2 == 0)) (fun s4=>?_) (fun s4=>?_)
     ·have xw:=a7.addNil 9 1 (fun e r=>r=Hx e)
      have xv:=xw.addNil 27 1 (fun e r=>r=Qv e)
      have xu:=xv.addFam Ng
      have xt:=xu.addNil 9 1 (fun e r=>r=Hx e)
      have xs:=xt.addNil 49 6 (fun e r=>r=Qx e)
      have xr:=xs.addFam MZ
      refine AC qb xr [(1,0)] fun w29 y4=>?_
      have hS:(CF a ds p1)=([],[],[],[],((Au a ds p1)).2):=by unfold CF; rw [c4,c9,z2,y2,s4] <;> rfl
      exact Ab y4 (1,0) (.tuple #[.agg ⟨[.slice none 0 0,.slice none 0 0,.slice none 0 0,.slice none 0 0]⟩,D (((Au a ds p1)).2)]) ⟨none,0,none,0,([]),none,0,none,0,([]),by rw [hS] <;> rfl,by rw [hS] <;> first | assumption | (simp; done) | (simp; assumption),by rw [hS] <;> first | assumption | (simp; done) | (simp; assumption),y4.B,by rw [hS]; exact y4.own0 [2,3,4,5,6,7] rfl (by decide)⟩
     ·refine AC ar a7 [(0,0)] fun b8 z6=>?_
      refine CJ (Rd a b1 ds q0 p1 b8 (z1.below z6.B) (by first | assumption | omega | (simp <;> omega)) hs ht y8) fun en w0 hh=>?_
      obtain ⟨c0,y,b0,x,s,a0,t,p0,k0,f0,d0,rfl,k8,n9,Hn⟩:=hh
      refine ⟨_,rfl,?_⟩
      have xq:=z6.join n9 Hn
      have wa:=Re (n:=a) (ds:=ds) (p1:=p1)
      refine BQ TJ xq [(2,0),(2,0),(3,0)] fun a8 xp=>?_
      let z20:List Value:=[.slice c0 ((((AA a ds p1)).1).length) y,.slice b0 s.length x,.slice a0 ((((AA a ds p1)).2.2.1).length) t,.slice none 0 0]
      let z21:List BI:=[⟨w.heap.size,0,[.string ⟨⟨a⟩⟩,.slice b1 ds.length q0],38,true⟩,⟨w.heap.size + 1,0,[.slice none 0 0,.slice none 0 0,.slice none 0 0,.slice none 0 0],43,true⟩,⟨w0.heap.size,0,[.slice c0 ((((AA a ds p1)).1).length) y,.slice b0 s.length x,.slice a0 ((((AA a ds p1)).2.2.1).length) t,.slice none 0 0,.map (some p0),.map (some k0),.map (some f0),.map (some d0)],75,true⟩,⟨w0.heap.size + 1,0,z20,43,true⟩]
      have xo:Wk w a8 z21 [(BP r1 t0 (((Au a ds p1)).1)),(Bo c0 y (((AA a ds p1)).1)),(EZ b0 x s),(DY s),(Bo a0 t (((AA a ds p1)).2.2.1)),(AY.th BL p0 (((AA a ds p1)).2.2.2.1)),(AY.th BL k0 (((AA a ds p1)).2.2.2.2.1)),(AY.th BL f0 (((AA a ds p1)).2.2.2.2.2.1)),(AY.th BL d0 (((AA a ds p1)).2.2.2.2.2.2))] []:=xp.pk [0,1,2,3] [1,2,3,4,5,6,7,8,9]
      have d2:(CF a ds p1)=Cn a ds p1 (((Au a ds p1)).1) 0 (((AA a ds p1)).2.2.2.2.2.2):=by unfold CF; rw [c4,c9,z2,y2,s4] <;> rfl
      refine BB [(2,.pointer (some ⟨w.heap.size,0,none⟩)),(4,.pointer (some ⟨w.heap.size + 1,0,none⟩)),(5,D 0),(8,.slice r1 ((((Au a ds p1)).1).length) t0),(9,.pointer (some ⟨w0.heap.size,0,none⟩)),(10,.pointer (some ⟨w0.heap.size + 1,0,none⟩)),(60,.slice r1 ((((Au a ds p1)).1).length) t0),(61,D (((((Au a ds p1)).1).length:Int))),(62,D (((0:Nat):Int)))] fun vi=>?_
      refine Bi (by kernel_rfl) (fun E g5=>∃ (i0:Nat) (q:List (List UInt8×Int)) (E0:Nat→Value),i0≤(((Au a ds p1)).1).length∧E=Aw E0 [(2,.pointer (some ⟨w.heap.size,0,none⟩)),(4,.pointer (some ⟨w.heap.size + 1,0,none⟩)),(5,D 0),(8,.slice r1 ((((Au a ds p1)).1).length) t0),(9,.pointer (some ⟨w0.heap.size,0,none⟩)),(10,.pointer (some ⟨w0.heap.size + 1,0,none⟩)),(60,.slice r1 ((((Au a ds p1)).1).length) t0),(61,D (((((Au a ds p1)).1).length:Int))),(62,D ((i0:Int)))]∧(CF a ds p1)=Cn a ds p1 (List.drop i0 (((Au a ds p1)).1)) i0 q∧q.length≤1 * i0 + (((AA a ds p1)).2.2.2.2.2.2).length∧Wk w g5 z21 [(BP r1 t0 (((Au a ds p1)).1)),(Bo c0 y (((AA a ds p1)).1)),(EZ b0 x s),(DY s),(Bo a0 t (((AA a ds p1)).2.2.1)),(AY.th BL p0 (((AA a ds p1)).2.2.2.1)),(AY.th BL k0 (((AA a ds p1)).2.2.2.2.1)),(AY.th BL f0 (((AA a ds p1)).2.2.2.2.2.1)),(AY.th BL d0 q)] []) (fun E _=>(((Au a ds p1)).1).length - AQ (E 62)) ⟨0,(((AA a ds p1)).2.2.2.2.2.2),vi,Nat.zero_le _,rfl,d2,by simp,xo⟩ ?_
      clear d2
      rintro E g5 ⟨i0,q,E0,hi0,rfl,d2,b9,xn⟩ s2
      refine AC O4 xn [] fun w36 f3=>?_
      refine AM (decide ((i0:Int) < ((((Au a ds p1)).1).length:Int))) (fun r4=>?_) (fun r4=>?_)
      ·have r2:i0 < ((Au a ds p1)).1.length:=by have:=of_decide_eq_true r4; omega
       obtain ⟨e0,m2⟩:∃ e,(((Au a ds p1)).1)[i0]?=some e:=⟨_,List.getElem?_eq_getElem r2⟩
       rw [OU i0 e0 m2] at d2
       obtain ⟨c1,rfl,z3⟩:=f3.H.rowAt (f3.ix 0) (f3.at 0 rfl) (by omega)
       refine BG Ai aq f3 [] fun wz t3=>?_
       refine BH (g:=c1) (off:=0) (cap:=t0) (sz:=1) (k:=i0) (len:=(((Au a ds p1)).1).length) (some 65) r2 Tryz.underlying56 ?_
       refine EA 3 c1 (0 + i0 * 1) (D ((e0:Int))) (some 66) (by simpa using (t3.H.cellsF (T:=3) (n:=1) (f:=Fs) (c:=t0) (l:=(((Au a ds p1)).1)) (fun _=>rfl) (t3.ix 0) (t3.at 0 rfl) m2) 0 _ rfl) ?_
       refine Al 18 ap t3 [] fun i3 g2=>?_
       obtain ⟨m1,n1,rfl,l2,v2⟩:=z1.all (Nat.lt_of_le_of_lt (Nat.zero_le _) ((FD (n:=a) (p1:=p1) hn).1 _ (List.mem_of_getElem? m2)))
       have f4:ds[e0]?=some (ds.getD e0 default):=getD_some default ((FD (n:=a) (p1:=p1) hn).1 _ (List.mem_of_getElem? m2))
       obtain ⟨k1,g1,f1,d1,q2,g4,t2⟩:=v2 e0 _ f4
       refine C4 Ln 10 ?_
       refine C5 (i:=0) (v:=.pointer (some ⟨w0.heap.size,7,none⟩)) (Ln.getD 0 default) (fun _ _ _ h=>nomatch h.1) ?_
       refine C5 (i:=2) (v:=.pointer (some ⟨w.heap.size,1,none⟩)) (Ln.getD 2 default) (fun _ _ _ h=>nomatch h.1) ?_
       refine CG (md:=.any) (fuel:=1) (L:=[AN 1 [] (.map (some d0)),AN 3 [] (.slice (some ⟨m1,n1,none⟩) ds.length q0),AN 4 [] (D ((e0:Int))),AN 5 [3,4] (.pointer (some ⟨m1,n1 + e0 * 21,none⟩)),AN 6 [3,4,5] (.pointer (some ⟨m1,n1 + e0 * 21 + 1,none⟩)),AN 7 [3,4,5,6] (.string ⟨⟨(ds.getD e0 default).name⟩⟩),AN 8 [] (D ((i0:Int)))]) (W:=mD) (C:=fun u=>Below i3.heap.size i3 u) (Ext:=Ck) (Below.refl _ _).drew Ck.refl (fun _ _ _=>Ck.trans) ⟨?_,?_,?_,?_,?_,?_,?_,trivial⟩ rfl ?_
       ·refine ⟨fun _ _ _ _ _ h=>h,fun r0 u hu hb=>?_⟩
        exact AH.knownE [] (by kernel_rfl) trivial (AH.reads ⟨0,_,(2,7),[]⟩ (Az g2.G hu) (.map (some d0)) ⟨hu,.refl _,rfl⟩)
       ·refine ⟨fun _ _ _ _ _ h=>h,fun r0 u hu hb=>?_⟩
        exact AH.knownE [] (by kernel_rfl) trivial (AH.reads ⟨0,_,(0,1),[]⟩ (Az g2.G hu) (.slice (some ⟨m1,n1,none⟩) ds.length q0) ⟨hu,.refl _,rfl⟩)
       ·refine ⟨fun _ _ _ _ _ h=>h,fun r0 u hu hb=>?_⟩
        exact AH.knownE [] (by kernel_rfl) trivial (AH.reads ⟨0,[],(0,0),[]⟩ (fun e he=>by cases he) (D ((e0:Int))) ⟨hu,.refl _,rfl⟩)
       ·refine ⟨fun _ _ _ _ _ h=>h,fun r0 u hu hb=>?_⟩
        obtain ⟨h3,h4,_⟩:=hb
        exact AH.knownE [(70,3,.slice (some ⟨m1,n1,none⟩) ds.length q0),(71,4,D ((e0:Int)))] (by kernel_rfl) ⟨(List.cons.inj h3).1,(List.cons.inj h4).1,trivial⟩ (AH.value (h:=(Bd (sz:=21) (cap:=q0) 36 (.tmp 70) (.tmp 71) rfl rfl ((FD (n:=a) (p1:=p1) hn).1 _ (List.mem_of_getElem? m2)) Tryz.underlying36)) ⟨hu,.refl _,rfl⟩)
       ·refine ⟨fun _ _ _ _ _ h=>h,fun r0 u hu hb=>?_⟩
        obtain ⟨h3,h4,h5,_⟩:=hb
        exact AH.knownE [(72,5,.pointer (some ⟨m1,n1 + e0 * 21,none⟩))] (by kernel_rfl) ⟨(List.cons.inj h5).1,trivial⟩ (AH.reads ⟨0,[],(0,0),[]⟩ (fun e he=>by cases he) (.pointer (some ⟨m1,n1 + e0 * 21 + 1,none⟩)) ⟨hu,.refl _,rfl⟩)
       ·refine ⟨fun _ _ _ _ _ h=>h,fun r0 u hu hb=>?_⟩
        obtain ⟨h3,h4,h5,h6,_⟩:=hb
        exact AH.knownE [(73,6,.pointer (some ⟨m1,n1 + e0 * 21 + 1,none⟩))] (by kernel_rfl) ⟨(List.cons.inj h6).1,trivial⟩ (AH.reads ⟨0,[⟨m1,n1 + e0 * 21 + 1,[.string ⟨⟨(ds.getD e0 default).name⟩⟩],9,false⟩],(0,0),[]⟩ (fun e he=>by rw [List.mem_singleton.1 he]; exact ⟨Nat.lt_of_lt_of_le l2 (g2.B.trans (hu.mono g2.B.size)).size,Li (Ac q2 l2 (g2.B.trans (hu.mono g2.B.size))) 1 _ rfl⟩) (.string ⟨⟨(ds.getD e0 default).name⟩⟩) ⟨hu,.refl _,rfl⟩)
       ·refine ⟨fun _ _ _ _ _ h=>h,fun r0 u hu hb=>?_⟩
        exact AH.knownE [] (by kernel_rfl) trivial (AH.reads ⟨0,[],(0,0),[]⟩ (fun e he=>by cases he) (D ((i0:Int))) ⟨hu,.refl _,rfl⟩)
       intro r0 m5 u4 _ y1
       replace u4:Below i3.heap.size i3 m5:=u4
       obtain ⟨x1,x3,x4,x5,x6,x7,x8,_⟩:=y1
       have y6:=g2.below u4
       refine DN [(2,.pointer (some ⟨w.heap.size,0,none⟩)),(4,.pointer (some ⟨w.heap.size + 1,0,none⟩)),(5,D 0),(8,.slice (some ⟨c1,0,none⟩) ((((Au a ds p1)).1).length) t0),(9,.pointer (some ⟨w0.heap.size,0,none⟩)),(10,.pointer (some ⟨w0.heap.size + 1,0,none⟩)),(60,.slice (some ⟨c1,0,none⟩) ((((Au a ds p1)).1).length) t0),(61,D (((((Au a ds p1)).1).length:Int))),(62,D ((i0:Int))),(68,r0 1),(74,r0 7),(75,r0 8)] fun E40=>?_
       rw [show r0 1=.map (some d0) from (List.cons.inj x1).1]
       rw [show r0 7=.string ⟨⟨(ds.getD e0 default).name⟩⟩ from (List.cons.inj x7).1]
       rw [show r0 8=D ((i0:Int)) from (List.cons.inj x8).1]
       have Kf:=(y6.pickL (L':=[(AY.th BL d0 q)]++[(BP (some ⟨c1,0,none⟩) t0 (((Au a ds p1)).1)),(Bo c0 y (((AA a ds p1)).1)),(EZ b0 x s),(DY s),(Bo a0 t (((AA a ds p1)).2.2.1)),(AY.th BL p0 (((AA a ds p1)).2.2.2.1)),(AY.th BL k0 (((AA a ds p1)).2.2.2.2.1)),(AY.th BL f0 (((AA a ds p1)).2.2.2.2.2.1))]) [8,0,1,2,3,4,5,6,7] rfl (by decide)).front
       refine Gh (i:=9) (ats:=#[73,9,3]) (Ln.getD 9 default) 21 [.tmp 68,.tmp 74,.tmp 75] [.map (some d0),.string ⟨⟨(ds.getD e0 default).name⟩⟩,D ((i0:Int))] ((Id _ d0 q ((ds.getD e0 default).name) (i0:Int) w m5 (ht _ (Ee ((FD (n:=a) (p1:=p1) hn).1 _ (List.mem_of_getElem? m2)))).2 (by constructor <;> omega) (by ((try simp only [maxLen,List.length_map,List.length_append,List.length_cons,List.length_nil,List.length_singleton]) <;> omega)) y6.B Kf).mono fun en wy hh=>?_)
       obtain ⟨rfl,k9,Hn⟩:=hh
       refine ⟨_,rfl,?_⟩
       have xm:=Wk.unfront k9 Hn
       refine Cy ⟨rfl,At.mid ?_⟩
       refine AC (Aj TJ) xm [] fun z7 xl=>?_
       refine BB [(2,.pointer (some ⟨w.heap.size,0,none⟩)),(4,.pointer (some ⟨w.heap.size + 1,0,none⟩)),(5,D 0),(8,.slice (some ⟨c1,0,none⟩) ((((Au a ds p1)).1).length) t0),(9,.pointer (some ⟨w0.heap.size,0,none⟩)),(10,.pointer (some ⟨w0.heap.size + 1,0,none⟩)),(60,.slice (some ⟨c1,0,none⟩) ((((Au a ds p1)).1).length) t0),(61,D (((((Au a ds p1)).1).length:Int))),(62,D (IntKind.i64.wrap ((i0:Int) + 1)))] fun vd=>?_
       have xk:Wk w z7 [⟨w.heap.size,0,[.string ⟨⟨a⟩⟩,.slice (some ⟨m1,n1,none⟩) ds.length q0],38,true⟩,⟨w.heap.size + 1,0,[.slice none 0 0,.slice none 0 0,.slice none 0 0,.slice none 0 0],43,true⟩,⟨w0.heap.size,0,[.slice c0 ((((AA a ds p1)).1).length) y,.slice b0 s.length x,.slice a0 ((((AA a ds p1)).2.2.1).length) t,.slice none 0 0,.map (some p0),.map (some k0),.map (some f0),.map (some d0)],75,true⟩,⟨w0.heap.size + 1,0,z20,43,true⟩] [(BP (some ⟨c1,0,none⟩) t0 (((Au a ds p1)).1)),(Bo c0 y (((AA a ds p1)).1)),(EZ b0 x s),(DY s),(Bo a0 t (((AA a ds p1)).2.2.1)),(AY.th BL p0 (((AA a ds p1)).2.2.2.1)),(AY.th BL k0 (((AA a ds p1)).2.2.2.2.1)),(AY.th BL f0 (((AA a ds p1)).2.2.2.2.2.1)),(AY.th BL d0 (CP q ((ds.getD e0 default).name) (i0:Int)))] []:=xl.pk [0,1,2,3] [1,2,3,4,5,6,7,8,0]
       rw [Bs i0 (by omega)]
       refine s2 _ _ ⟨i0 + 1,(CP q ((ds.getD e0 default).name) (i0:Int)),vd,r2,rfl,by rw [d2] <;> rfl,by (first | ((try simp only [maxLen,List.length_append,List.length_cons,List.length_nil,List.length_singleton]) <;> omega) | (refine Nat.le_trans (Tt _ _ _) ?_; ((try simp only [maxLen,List.length_append,List.length_cons,List.length_nil,List.length_singleton]) <;> omega))),xk⟩ ?_
       show (((Au a ds p1)).1).length - AQ (D ((i0 + 1:Nat):Int)) < (((Au a ds p1)).1).length - AQ (D (i0:Int))
       simp only [AQ]
       omega
      ·have f6:i0=((Au a ds p1)).1.length:=by have:=of_decide_eq_false r4; omega
       rw [f6,List.drop_length,Py] at d2
       refine AC O3 f3 [] fun y7 xj=>?_
       have xi:Wk w y7 z21 [(BP r1 t0 (((Au a ds p1)).1)),(Bo c0 y (((AA a ds p1)).1)),(EZ b0 x s),(DY s),(Bo a0 t (((AA a ds p1)).2.2.1)),(AY.th BL p0 (((AA a ds p1)).2.2.2.1)),(AY.th BL k0 (((AA a ds p1)).2.2.2.2.1)),(AY.th BL f0 (((AA a ds p1)).2.2.2.2.2.1)),(AY.th BL d0 q)] []:=xj.pk [0,1,2,3] [0,1,2,3,4,5,6,7,8]
       have xh:=xi.addNil 49 6 (fun e r=>r=Qx e)
       have xg:=xh.addFam MZ
       have b2:(CF a ds p1)=CK a ds p1 q (((Au a ds p1)).1) 0 ([]):=by rw [d2] <;> rfl
       refine BB [(2,.pointer (some ⟨w.heap.size,0,none⟩)),(4,.pointer (some ⟨w.heap.size + 1,0,none⟩)),(5,D 0),(9,.pointer (some ⟨w0.heap.size,0,none⟩)),(10,.pointer (some ⟨w0.heap.size + 1,0,none⟩)),(78,.slice r1 ((((Au a ds p1)).1).length) t0),(79,D (((((Au a ds p1)).1).length:Int))),(80,D (((0:Nat):Int)))] fun vc=>?_
       refine Bi (by kernel_rfl) (fun E f5=>∃ (i1:Nat) (v1:Int) (v0:List RR) (a1:Option Addr) (z0:Nat) (E0:Nat→Value),i1≤(((Au a ds p1)).1).length∧E=Aw E0 [(2,.pointer (some ⟨w.heap.size,0,none⟩)),(4,.pointer (some ⟨w.heap.size + 1,0,none⟩)),(5,D v1),(9,.pointer (some ⟨w0.heap.size,0,none⟩)),(10,.pointer (some ⟨w0.heap.size + 1,0,none⟩)),(78,.slice r1 ((((Au a ds p1)).1).length) t0),(79,D (((((Au a ds p1)).1).length:Int))),(80,D ((i1:Int)))]∧(CF a ds p1)=CK a ds p1 q (List.drop i1 (((Au a ds p1)).1)) v1 (v0.map lm)∧v0.length≤1 * i1 + 0∧Wk w f5 [⟨w.heap.size,0,[.string ⟨⟨a⟩⟩,.slice b1 ds.length q0],38,true⟩,⟨w.heap.size + 1,0,[.slice none 0 0,.slice none 0 0,.slice none 0 0,.slice none 0 0],43,true⟩,⟨w0.heap.size,0,[.slice c0 ((((AA a ds p1)).1).length) y,.slice b0 s.length x,.slice a0 ((((AA a ds p1)).2.2.1).length) t,.slice none 0 0,.map (some p0),.map (some k0),.map (some f0),.map (some d0)],75,true⟩,⟨w0.heap.size + 1,0,[.slice c0 ((((AA a ds p1)).1).length) y,.slice b0 s.length x,.slice a0 ((((AA a ds p1)).2.2.1).length) t,.slice a1 v0.length z0],43,true⟩] [(BP r1 t0 (((Au a ds p1)).1)),(Bo c0 y (((AA a ds p1)).1)),(EZ b0 x s),(DY s),(Bo a0 t (((AA a ds p1)).2.2.1)),(AY.th BL p0 (((AA a ds p1)).2.2.2.1)),(AY.th BL k0 (((AA a ds p1)).2.2.2.2.1)),(AY.th BL f0 (((AA a ds p1)).2.2.2.2.2.1)),(AY.th BL d0 q),(Hw a1 z0 v0),(F0 v0)] []) (fun E _=>(((Au a ds p1)).1).length - AQ (E 80)) ⟨0,0,([]),none,0,vc,Nat.zero_le _,rfl,b2,by simp,xg⟩ ?_
       clear b2
       rintro E f5 ⟨i1,v1,v0,a1,z0,E0,hi1,rfl,b2,a9,xf⟩ c2
       refine AC O2 xf [] fun wx e3=>?_
       refine AM (decide ((i1:Int) < ((((Au a ds p1)).1).length:Int))) (fun q4=>?_) (fun q4=>?_)
       ·have k2:i1 < ((Au a ds p1)).1.length:=by have:=of_decide_eq_true q4; omega
        obtain ⟨m,f2⟩:∃ e,(((Au a ds p1)).1)[i1]?=some e:=⟨_,List.getElem?_eq_getElem k2⟩
        rw [OT i1 m f2] at b2
        obtain ⟨c1,rfl,z3⟩:=e3.H.rowAt (e3.ix 0) (e3.at 0 rfl) (by omega)
        refine BG Ai TI e3 [] fun ww s3=>?_
        refine BH (g:=c1) (off:=0) (cap:=t0) (sz:=1) (k:=i1) (len:=(((Au a ds p1)).1).length) (some 82) k2 Tryz.underlying56 ?_
        refine EA 3 c1 (0 + i1 * 1) (D ((m:Int))) (some 83) (by simpa using (s3.H.cellsF (T:=3) (n:=1) (f:=Fs) (c:=t0) (l:=(((Au a ds p1)).1)) (fun _=>rfl) (s3.ix 0) (s3.at 0 rfl) f2) 0 _ rfl) ?_
        obtain ⟨m1,n1,rfl,l2,v2⟩:=z1.all (Nat.lt_of_le_of_lt (Nat.zero_le _) ((FD (n:=a) (p1:=p1) hn).1 _ (List.mem_of_getElem? f2)))
        have f4:ds[m]?=some (ds.getD m default):=getD_some default ((FD (n:=a) (p1:=p1) hn).1 _ (List.mem_of_getElem? f2))
        obtain ⟨k1,g1,f1,d1,q2,g4,t2⟩:=v2 m _ f4
        refine BG Ai ao s3 [(0,1)] fun s1 u6=>?_
        refine BH (g:=m1) (off:=n1) (cap:=q0) (sz:=21) (k:=m) (len:=ds.length) (some 87) ((FD (n:=a) (p1:=p1) hn).1 _ (List.mem_of_getElem? f2)) Tryz.underlying36 ?_
        let z23:=(ds.getD m default).mode
        let z28:=(ds.getD m default).body.ks.length
        refine CC 34 m1 (n1 + m * 21) [D ((ds.getD m default).kind),.string ⟨⟨(ds.getD m default).name⟩⟩,.bool ((ds.getD m default).tb),D ((ds.getD m default).tm),D ((ds.getD m default).th),D ((ds.getD m default).td),D ((ds.getD m default).frm),.slice k1 ((ds.getD m default).ents.length) g1,D ((ds.getD m default).body.op),D ((ds.getD m default).body.num),D ((ds.getD m default).body.den),D ((ds.getD m default).body.mu),D ((ds.getD m default).body.hu),D ((ds.getD m default).body.du),.string ⟨⟨(ds.getD m default).body.nm⟩⟩,D ((ds.getD m default).body.cnt),D ((ds.getD m default).body.md),.slice f1 z28 d1,D z23,D ((ds.getD m default).num),D ((ds.getD m default).den)] (some 88) (Ac q2 l2 u6.B) ?_
        let z19:List Value:=[.string ⟨⟨a⟩⟩,.slice (some ⟨m1,n1,none⟩) ds.length q0]
        let z25:=Ce (ds.getD m default) k1 g1 f1 d1
        refine CR 24 TH [⟨w.heap.size,0,z19,38,true⟩,⟨w.heap.size + 1,0,[.slice none 0 0,.slice none 0 0,.slice none 0 0,.slice none 0 0],43,true⟩,⟨w0.heap.size,0,[.slice c0 ((((AA a ds p1)).1).length) y,.slice b0 s.length x,.slice a0 ((((AA a ds p1)).2.2.1).length) t,.slice none 0 0,.map (some p0),.map (some k0),.map (some f0),.map (some d0)],75,true⟩,⟨w0.heap.size + 1,0,[.slice c0 ((((AA a ds p1)).1).length) y,.slice b0 s.length x,.slice a0 ((((AA a ds p1)).2.2.1).length) t,.slice a1 v0.length z0],43,true⟩,⟨s1.heap.size,0,z25,34,true⟩] u6 [(4,0)] fun a2 t1=>?_
        refine C4 Lm 9 ?_
        refine C5 (i:=0) (v:=.pointer (some ⟨s1.heap.size,1,none⟩)) (Lm.getD 0 default) (fun _ _ _ h=>nomatch h.1) ?_
        refine C5 (i:=3) (v:=.pointer (some ⟨s1.heap.size,8,none⟩)) (Lm.getD 3 default) (fun _ _ _ h=>nomatch h.1) ?_
        let z18:=(Aa (((AA a ds p1)).2.2.2.1) (((AA a ds p1)).2.2.2.2.1) (((AA a ds p1)).2.2.2.2.2.1) q ((ds.getD m default).body).height ((ds.getD m default).body) 0)
        let z27:List Value:=[.string ⟨⟨[]⟩⟩,.bool false,D 0,D 0,D 0,.slice none 0 0]
        let z29:List Value:=[D ((ds.getD m default).body.op),D ((ds.getD m default).body.num),D ((ds.getD m default).body.den),D ((ds.getD m default).body.mu),D ((ds.getD m default).body.hu),D ((ds.getD m default).body.du),.string ⟨⟨(ds.getD m default).body.nm⟩⟩,D ((ds.getD m default).body.cnt),D ((ds.getD m default).body.md),.slice f1 z28 d1]
        refine CG (md:=.any) (fuel:=1) (L:=[AN 1 [] (.string ⟨⟨(ds.getD m default).name⟩⟩),AN 2 [] (.agg ⟨[.slice c0 ((((AA a ds p1)).1).length) y,.slice b0 s.length x,.slice a0 ((((AA a ds p1)).2.2.1).length) t,.slice none 0 0,.map (some p0),.map (some k0),.map (some f0),.map (some d0)]⟩),AN 4 [] (.agg ⟨z29⟩),⟨5,[2,4],[5],fun vs u=>∃ (p:Option Addr) (o:Nat),vs=[.slice p ((Aa (((AA a ds p1)).2.2.2.1) (((AA a ds p1)).2.2.2.2.1) (((AA a ds p1)).2.2.2.2.2.1) q ((ds.getD m default).body).height ((ds.getD m default).body) 0).length) o]∧AU a2.heap.size u [Cj p o z18]⟩,⟨6,[1,2,4,5],[5,6],fun vs u=>∃ (p:Option Addr) (o:Nat),vs=[.slice p ((Aa (((AA a ds p1)).2.2.2.1) (((AA a ds p1)).2.2.2.2.1) (((AA a ds p1)).2.2.2.2.2.1) q ((ds.getD m default).body).height ((ds.getD m default).body) 0).length) o,.agg ⟨[.string ⟨⟨(ds.getD m default).name⟩⟩,.bool false,D 0,D 0,D 0,.slice p ((Aa (((AA a ds p1)).2.2.2.1) (((AA a ds p1)).2.2.2.2.1) (((AA a ds p1)).2.2.2.2.2.1) q ((ds.getD m default).body).height ((ds.getD m default).body) 0).length) o]⟩]∧AU a2.heap.size u [Cj p o z18]⟩,⟨7,[],[7],fun vs u=>∃ (y0:Nat),vs=[.pointer (some ⟨y0,0,none⟩)]∧AU a2.heap.size u [Th.ent ⟨y0,0,z27,49,true⟩]⟩]) (W:=mC) (C:=fun u=>Below a2.heap.size a2 u) (Ext:=Ck) (Below.refl _ _).drew Ck.refl (fun _ _ _=>Ck.trans) ⟨?_,?_,?_,?_,?_,?_,trivial⟩ rfl ?_
        ·refine ⟨fun _ _ _ _ _ h=>h,fun r0 u hu hb=>?_⟩
         exact AH.knownE [] (by kernel_rfl) trivial (AH.reads ⟨0,_,(4,1),[]⟩ (Az t1.G hu) (.string ⟨⟨(ds.getD m default).name⟩⟩) ⟨hu,.refl _,rfl⟩)
        ·refine ⟨fun _ _ _ _ _ h=>h,fun r0 u hu hb=>?_⟩
         exact AH.knownE [] (by kernel_rfl) trivial (AH.reads ⟨0,_,(2,0),[]⟩ (Az t1.G hu) (.agg ⟨[.slice c0 ((((AA a ds p1)).1).length) y,.slice b0 s.length x,.slice a0 ((((AA a ds p1)).2.2.1).length) t,.slice none 0 0,.map (some p0),.map (some k0),.map (some f0),.map (some d0)]⟩) ⟨hu,.refl _,rfl⟩)
        ·refine ⟨fun _ _ _ _ _ h=>h,fun r0 u hu hb=>?_⟩
         exact AH.knownE [] (by kernel_rfl) trivial (AH.reads ⟨0,_,(4,8),[]⟩ (Az t1.G hu) (.agg ⟨z29⟩) ⟨hu,.refl _,rfl⟩)
        ·refine ⟨fun vs u u2 _ he ⟨p,o,h1,h2⟩=>⟨p,o,h1,h2.below he⟩,fun r0 u hu hb=>?_⟩
         obtain ⟨h2,h4,_⟩:=hb
         refine AH.knownE [(91,2,.agg ⟨[.slice c0 ((((AA a ds p1)).1).length) y,.slice b0 s.length x,.slice a0 ((((AA a ds p1)).2.2.1).length) t,.slice none 0 0,.map (some p0),.map (some k0),.map (some f0),.map (some d0)]⟩),(93,4,.agg ⟨z29⟩)] (by kernel_rfl) ⟨(List.cons.inj h2).1,(List.cons.inj h4).1,trivial⟩ (AH.call (f:=22) [.tmp 91,.const (.slice none 0 0),.tmp 93] (args:=[.agg ⟨[.slice c0 ((((AA a ds p1)).1).length) y,.slice b0 s.length x,.slice a0 ((((AA a ds p1)).2.2.1).length) t,.slice none 0 0,.map (some p0),.map (some k0),.map (some f0),.map (some d0)]⟩,.slice none 0 0,.agg ⟨z29⟩]) (ats:=#[75,47,32]) rfl (by kernel_rfl) (BW _ _) ((dp (AY.below (t1.H.all (t1.ix 5) _ (t1.at 5 rfl)) hu) (AY.below (t1.H.all (t1.ix 6) _ (t1.at 6 rfl)) hu) (AY.below (t1.H.all (t1.ix 7) _ (t1.at 7 rfl)) hu) (AY.below (t1.H.all (t1.ix 8) _ (t1.at 8 rfl)) hu) ((ds.getD m default).body) _ _ (t2.below (t1.B.trans (hu.mono t1.B.size))) (Y6 c4 u3 hn (List.mem_of_getElem? f2)) (by have:=hn _ (Ee ((FD (n:=a) (p1:=p1) hn).1 _ (List.mem_of_getElem? f2))); omega)).mono fun en u2 hh=>?_))
         obtain ⟨p,o,rfl,bb,Hn⟩:=hh
         exact ⟨_,rfl,hu.trans (bb.mono hu.size),bb,p,o,rfl,Hn.mono hu.size⟩
        ·refine ⟨fun vs u u2 _ he ⟨p,o,h1,h2⟩=>⟨p,o,h1,h2.below he⟩,fun r0 u hu hb=>?_⟩
         obtain ⟨h1,h2,h4,h5,_⟩:=hb
         obtain ⟨p,o,b6,e9⟩:=h5
         exact AH.knownE [(90,1,.string ⟨⟨(ds.getD m default).name⟩⟩),(94,5,.slice p ((Aa (((AA a ds p1)).2.2.2.1) (((AA a ds p1)).2.2.2.2.1) (((AA a ds p1)).2.2.2.2.2.1) q ((ds.getD m default).body).height ((ds.getD m default).body) 0).length) o)] (by kernel_rfl) ⟨(List.cons.inj h1).1,(List.cons.inj b6).1,trivial⟩ (AH.reads ⟨0,[],(0,0),[]⟩ (fun e he=>by cases he) (.agg ⟨[.string ⟨⟨(ds.getD m default).name⟩⟩,.bool false,D 0,D 0,D 0,.slice p ((Aa (((AA a ds p1)).2.2.2.1) (((AA a ds p1)).2.2.2.2.1) (((AA a ds p1)).2.2.2.2.2.1) q ((ds.getD m default).body).height ((ds.getD m default).body) 0).length) o]⟩) ⟨hu,.refl _,p,o,by show [r0 5,_]=_; rw [(List.cons.inj b6).1]; rfl,e9⟩)
        ·refine ⟨fun vs u u2 _ he ⟨y0,h1,h2⟩=>⟨y0,h1,h2.below he⟩,fun r0 u hu hb=>?_⟩
         refine AH.knownE [] (by kernel_rfl) trivial (AH.runsK ⟨u.heap.size,[],(0,0),[]⟩ ⟨u.heap.size + 1,[⟨u.heap.size,0,z27,49,true⟩],(0,0),[]⟩ (.value (.pointer (some ⟨u.heap.size,0,none⟩))) (.pointer (some ⟨u.heap.size,0,none⟩)) (.inl rfl) (Br u) rfl fun u2 hL hK=>?_)
         have Bq:Below u.heap.size u u2:=hK.below (Nat.le_refl _) (fun k hk=>by cases hk)
         have Hq:=AU.run (M:=[]) (M':=[⟨u.heap.size,0,z27,49,true⟩]) (L:=[]) (AU.nil (b:=a2.heap.size) (w:=u) hu.size) hL hK rfl
         exact ⟨hu.trans (Bq.mono hu.size),Bq,u.heap.size,rfl,Hq⟩
        intro r0 k5 t4 _ y1
        replace t4:Below a2.heap.size a2 k5:=t4
        obtain ⟨x1,x2,x4,x5,x6,x7,_⟩:=y1
        obtain ⟨p,o,q8,zw⟩:=x6
        obtain ⟨y0,r8,zx⟩:=x7
        have Hn:AU a2.heap.size k5 [Th.ent ⟨y0,0,z27,49,true⟩,Cj p o z18]:=AU.box zx zw (by decide)
        have xe:=t1.joinE t4 Hn
        have e7:r0 7=.pointer (some ⟨y0,0,none⟩):=(List.cons.inj r8).1
        have e6:r0 6=.agg ⟨[.string ⟨⟨(ds.getD m default).name⟩⟩,.bool false,D 0,D 0,D 0,.slice p ((Aa (((AA a ds p1)).2.2.2.1) (((AA a ds p1)).2.2.2.2.1) (((AA a ds p1)).2.2.2.2.2.1) q ((ds.getD m default).body).height ((ds.getD m default).body) 0).length) o]⟩:=(List.cons.inj (List.cons.inj q8).2).1
        refine DN [(2,.pointer (some ⟨w.heap.size,0,none⟩)),(4,.pointer (some ⟨w.heap.size + 1,0,none⟩)),(5,D v1),(9,.pointer (some ⟨w0.heap.size,0,none⟩)),(10,.pointer (some ⟨w0.heap.size + 1,0,none⟩)),(15,.pointer (some ⟨s1.heap.size,0,none⟩)),(78,.slice (some ⟨c1,0,none⟩) ((((Au a ds p1)).1).length) t0),(79,D (((((Au a ds p1)).1).length:Int))),(80,D ((i1:Int))),(16,r0 7),(95,r0 6)] fun E54=>?_
        rw [e7]
        rw [e6]
        let z12:List BI:=[⟨w.heap.size,0,z19,38,true⟩,⟨w.heap.size + 1,0,[.slice none 0 0,.slice none 0 0,.slice none 0 0,.slice none 0 0],43,true⟩,⟨w0.heap.size,0,[.slice c0 ((((AA a ds p1)).1).length) y,.slice b0 s.length x,.slice a0 ((((AA a ds p1)).2.2.1).length) t,.slice none 0 0,.map (some p0),.map (some k0),.map (some f0),.map (some d0)],75,true⟩,⟨w0.heap.size + 1,0,[.slice c0 ((((AA a ds p1)).1).length) y,.slice b0 s.length x,.slice a0 ((((AA a ds p1)).2.2.1).length) t,.slice a1 v0.length z0],43,true⟩,⟨s1.heap.size,0,z25,34,true⟩,⟨y0,0,[.string ⟨⟨(ds.getD m default).name⟩⟩,.bool false,D 0,D 0,D 0,.slice p ((Aa (((AA a ds p1)).2.2.2.1) (((AA a ds p1)).2.2.2.2.1) (((AA a ds p1)).2.2.2.2.2.1) q ((ds.getD m default).body).height ((ds.getD m default).body) 0).length) o],49,true⟩]
        refine L4 (i:=8) xe (Lm.getD 8 default) z12 (5,0) (undef) fun wv xd=>?_
        refine Cy ⟨rfl,At.mid ?_⟩
        refine AC TG xd [(5,5)] fun wr r6=>?_
        refine AM (decide (4096 < ((Aa (((AA a ds p1)).2.2.2.1) (((AA a ds p1)).2.2.2.2.1) (((AA a ds p1)).2.2.2.2.2.1) q ((ds.getD m default).body).height ((ds.getD m default).body) 0).length:Int))) (fun r3=>?_) (fun r3=>?_)
        ·have xc:=r6.addNil 9 1 (fun e r=>r=Hx e)
         have xb:=xc.addNil 27 1 (fun e r=>r=Qv e)
         have xa:=xb.addFam Ng
         have js:=xa.addNil 9 1 (fun e r=>r=Hx e)
         have jj:=js.addNil 49 6 (fun e r=>r=Qx e)
         have kv:=jj.addFam MZ
         refine AC qa kv [(1,0)] fun wp w4=>?_
         have hS:(CF a ds p1)=([],[],[],[],3):=by rw [b2,r3] <;> rfl
         exact Ab w4 (1,0) (.tuple #[.agg ⟨[.slice none 0 0,.slice none 0 0,.slice none 0 0,.slice none 0 0]⟩,D 3]) ⟨none,0,none,0,([]),none,0,none,0,([]),by rw [hS] <;> rfl,by rw [hS] <;> first | assumption | (simp; done) | (simp; assumption),by rw [hS] <;> first | assumption | (simp; done) | (simp; assumption),w4.B,by rw [hS]; exact w4.own0 [12,13,14,15,16,17] rfl (by decide)⟩
        ·refine AC O1 r6 [(4,0)] fun i5 q6=>?_
         refine AM ((ds.getD m default).kind == 4) (fun m4=>?_) (fun m4=>?_)
         ·refine Al 28 O0 q6 [] fun g3 kn=>?_
          let z26:=BP (some ⟨c1,0,none⟩) t0 (((Au a ds p1)).1)
          have kl:Wk w g3 z12 [z26,(Bo c0 y (((AA a ds p1)).1)),(EZ b0 x s),(DY s),(Bo a0 t (((AA a ds p1)).2.2.1)),(AY.th BL p0 (((AA a ds p1)).2.2.2.1)),(AY.th BL k0 (((AA a ds p1)).2.2.2.2.1)),(AY.th BL f0 (((AA a ds p1)).2.2.2.2.2.1)),(AY.th BL d0 q),(Hw a1 z0 v0),(F0 v0),(Cj p o z18)] []:=kn.pk [0,1,2,3,4,5] [0,1,2,3,4,5,6,7,8,9,10,11]
          refine BB [(2,.pointer (some ⟨w.heap.size,0,none⟩)),(4,.pointer (some ⟨w.heap.size + 1,0,none⟩)),(5,D v1),(9,.pointer (some ⟨w0.heap.size,0,none⟩)),(10,.pointer (some ⟨w0.heap.size + 1,0,none⟩)),(15,.pointer (some ⟨s1.heap.size,0,none⟩)),(16,.pointer (some ⟨y0,0,none⟩)),(78,.slice (some ⟨c1,0,none⟩) ((((Au a ds p1)).1).length) t0),(79,D (((((Au a ds p1)).1).length:Int))),(80,D ((i1:Int)))] fun E62=>?_
          obtain ⟨B,H0⟩:=kl
          have H:AU w.heap.size g3 (List.map Th.ent z12++[z26,(Bo c0 y (((AA a ds p1)).1)),(EZ b0 x s),(DY s),(Bo a0 t (((AA a ds p1)).2.2.1)),(AY.th BL p0 (((AA a ds p1)).2.2.2.1)),(AY.th BL k0 (((AA a ds p1)).2.2.2.2.1)),(AY.th BL f0 (((AA a ds p1)).2.2.2.2.2.1)),(AY.th BL d0 q),(Hw a1 z0 v0),(F0 v0),(Cj p o z18)]):=H0.noTail
          clear H0
          have G:=H.goods (M:=z12)
          have S62:=B.size
          refine C4 Ll 10 ?_
          refine C5 (i:=0) (v:=.pointer (some ⟨s1.heap.size,18,none⟩)) (Ll.getD 0 default) (fun _ _ _ h=>nomatch h.1) ?_
          refine C5 (i:=2) (v:=.pointer (some ⟨s1.heap.size,19,none⟩)) (Ll.getD 2 default) (fun _ _ _ h=>nomatch h.1) ?_
          refine C5 (i:=4) (v:=.pointer (some ⟨y0,1,none⟩)) (Ll.getD 4 default) (fun _ _ _ h=>nomatch h.1) ?_
          let z11:List Value:=[.string ⟨⟨(ds.getD m default).name⟩⟩,.bool true,D z23,D ((ds.getD m default).num),D ((ds.getD m default).den),.slice p ((Aa (((AA a ds p1)).2.2.2.1) (((AA a ds p1)).2.2.2.2.1) (((AA a ds p1)).2.2.2.2.2.1) q ((ds.getD m default).body).height ((ds.getD m default).body) 0).length) o]
          let z14:List Value:=[.string ⟨⟨(ds.getD m default).name⟩⟩,.bool true,D z23,D 0,D 0,.slice p ((Aa (((AA a ds p1)).2.2.2.1) (((AA a ds p1)).2.2.2.2.1) (((AA a ds p1)).2.2.2.2.2.1) q ((ds.getD m default).body).height ((ds.getD m default).body) 0).length) o]
          let z16:List Value:=[.string ⟨⟨(ds.getD m default).name⟩⟩,.bool true,D 0,D 0,D 0,.slice p ((Aa (((AA a ds p1)).2.2.2.1) (((AA a ds p1)).2.2.2.2.1) (((AA a ds p1)).2.2.2.2.2.1) q ((ds.getD m default).body).height ((ds.getD m default).body) 0).length) o]
          let z10:List (List Value):=[[.string ⟨⟨(ds.getD m default).name⟩⟩,.bool false,D 0,D 0,D 0,.slice p ((Aa (((AA a ds p1)).2.2.2.1) (((AA a ds p1)).2.2.2.2.1) (((AA a ds p1)).2.2.2.2.2.1) q ((ds.getD m default).body).height ((ds.getD m default).body) 0).length) o],z16,z14,z11]
          let z22:List Value:=[D ((ds.getD m default).num),D ((ds.getD m default).den)]
          refine CG (md:=.any) (fuel:=0) (L:=[AN 1 [] (D z23),AN 3 [] (.agg ⟨z22⟩),⟨5,[],[],fun _ u=>LV 49 z10 y0 1 u⟩,AN 6 [1,5] (.pointer (some ⟨y0,2,none⟩)),⟨7,[1,5,6],[],fun _ u=>LV 49 z10 y0 2 u⟩,AN 8 [1,3,5,6,7] (.pointer (some ⟨y0,3,none⟩)),⟨9,[1,3,5,6,7,8],[],fun _ u=>LV 49 z10 y0 3 u⟩]) (W:=mB) (C:=M9 49 z10 y0 g3) (Ext:=Ft 49 z10 y0) (M9.start (G _ (List.mem_of_getElem? (i:=5) rfl)) rfl) Ft.refl Ft.trans ⟨?_,?_,?_,?_,?_,?_,?_,trivial⟩ rfl ?_
          ·refine ⟨fun _ _ _ _ _ h=>h,fun r0 u hu hb=>?_⟩
           exact AH.knownE [] (by kernel_rfl) trivial (AH.reads ⟨0,[⟨s1.heap.size,0,z25,34,true⟩],(0,18),[]⟩ (fun e he=>by rw [List.mem_singleton.1 he]; exact US (G _ (List.mem_of_getElem? (i:=4) rfl)) hu.1 (H.apart 4 5 _ _ rfl rfl (by decide) s1.heap.size rfl)) (D z23) ⟨hu,Ft.refl _,rfl⟩)
          ·refine ⟨fun _ _ _ _ _ h=>h,fun r0 u hu hb=>?_⟩
           exact AH.knownE [] (by kernel_rfl) trivial (AH.reads ⟨0,[⟨s1.heap.size,0,z25,34,true⟩],(0,19),[]⟩ (fun e he=>by rw [List.mem_singleton.1 he]; exact US (G _ (List.mem_of_getElem? (i:=4) rfl)) hu.1 (H.apart 4 5 _ _ rfl rfl (by decide) s1.heap.size rfl)) (.agg ⟨z22⟩) ⟨hu,Ft.refl _,rfl⟩)
          ·refine ⟨fun _ _ _ _ he h=>he.up _ h,fun r0 u hu hb=>?_⟩
           have hf:∀ (j:Nat) (c:List Value),1≤j + 1→(z10:List (List Value))[j]?=some c→(z10:List (List Value))[max 1 j]?=some (Gd 1 [.bool true] c):=fun j c h1 h2=>by
            have hl:j < 4:=(List.getElem?_eq_some_iff.1 h2).1
            have hx:j=0∨j=1∨j=2∨j=3:=by omega
            rcases hx with rfl | rfl | rfl | rfl <;> (obtain rfl:=Option.some.inj h2; rfl)
           have e2:LV 49 z10 y0 0 u:=hu.2
           obtain ⟨j,c,hj,hc,hg⟩:=e2
           have e4:j < 4:=(List.getElem?_eq_some_iff.1 hc).1
           have hx:j=0∨j=1∨j=2∨j=3:=by omega
           rcases hx with rfl | rfl | rfl | rfl
           ·obtain rfl:=Option.some.inj hc
            refine AH.knownE [] (by kernel_rfl) trivial (AH.storeH ⟨y0,0,[.string ⟨⟨(ds.getD m default).name⟩⟩,.bool false,D 0,D 0,D 0,.slice p ((Aa (((AA a ds p1)).2.2.2.1) (((AA a ds p1)).2.2.2.2.1) (((AA a ds p1)).2.2.2.2.2.1) q ((ds.getD m default).body).height ((ds.getD m default).body) 0).length) o],49,true⟩ ⟨y0,0,z16,49,true⟩ (0,1) hg fun u2 hn hB=>?_)
            have hs:=EG (i:=1) (Gd 1 [.bool true]) hf (j:=0) (by omega) rfl hg hB hn rfl
            exact ⟨⟨hu.1.trans hB,hs.1.up 0 hu.2⟩,hs.1,hs.2⟩
           ·obtain rfl:=Option.some.inj hc
            refine AH.knownE [] (by kernel_rfl) trivial (AH.storeH ⟨y0,0,z16,49,true⟩ ⟨y0,0,z16,49,true⟩ (0,1) hg fun u2 hn hB=>?_)
            have hs:=EG (i:=1) (Gd 1 [.bool true]) hf (j:=1) (by omega) rfl hg hB hn rfl
            exact ⟨⟨hu.1.trans hB,hs.1.up 0 hu.2⟩,hs.1,hs.2⟩
           ·obtain rfl:=Option.some.inj hc
            refine AH.knownE [] (by kernel_rfl) trivial (AH.storeH ⟨y0,0,z14,49,true⟩ ⟨y0,0,z14,49,true⟩ (0,1) hg fun u2 hn hB=>?_)
            have hs:=EG (i:=1) (Gd 1 [.bool true]) hf (j:=2) (by omega) rfl hg hB hn rfl
            exact ⟨⟨hu.1.trans hB,hs.1.up 0 hu.2⟩,hs.1,hs.2⟩
           ·obtain rfl:=Option.some.inj hc
            refine AH.knownE [] (by kernel_rfl) trivial (AH.storeH ⟨y0,0,z11,49,true⟩ ⟨y0,0,z11,49,true⟩ (0,1) hg fun u2 hn hB=>?_)
            have hs:=EG (i:=1) (Gd 1 [.bool true]) hf (j:=3) (by omega) rfl hg hB hn rfl
            exact ⟨⟨hu.1.trans hB,hs.1.up 0 hu.2⟩,hs.1,hs.2⟩
          ·refine ⟨fun _ _ _ _ _ h=>h,fun r0 u hu hb=>?_⟩
           obtain ⟨h1,h5,_⟩:=hb
           exact AH.knownE [] (by kernel_rfl) trivial (AH.reads ⟨0,[],(0,0),[]⟩ (fun e he=>by cases he) (.pointer (some ⟨y0,2,none⟩)) ⟨hu,Ft.refl _,rfl⟩)
          ·refine ⟨fun _ _ _ _ he h=>he.up _ h,fun r0 u hu hb=>?_⟩
           obtain ⟨h1,h5,h6,_⟩:=hb
           have hf:∀ (j:Nat) (c:List Value),2≤j + 1→(z10:List (List Value))[j]?=some c→(z10:List (List Value))[max 2 j]?=some (Gd 2 [D z23] c):=fun j c h1 h2=>by
            have hl:j < 4:=(List.getElem?_eq_some_iff.1 h2).1
            have hx:j=1∨j=2∨j=3:=by omega
            rcases hx with rfl | rfl | rfl <;> (obtain rfl:=Option.some.inj h2; rfl)
           have e2:LV 49 z10 y0 1 u:=h5
           obtain ⟨j,c,hj,hc,hg⟩:=e2
           have e4:j < 4:=(List.getElem?_eq_some_iff.1 hc).1
           have hx:j=1∨j=2∨j=3:=by omega
           rcases hx with rfl | rfl | rfl
           ·obtain rfl:=Option.some.inj hc
            refine AH.knownE [(105,1,D z23),(109,6,.pointer (some ⟨y0,2,none⟩))] (by kernel_rfl) ⟨(List.cons.inj h1).1,(List.cons.inj h6).1,trivial⟩ (AH.storeH ⟨y0,0,z16,49,true⟩ ⟨y0,0,z14,49,true⟩ (0,2) hg fun u2 hn hB=>?_)
            have hs:=EG (i:=2) (Gd 2 [D z23]) hf (j:=1) (by omega) rfl hg hB hn rfl
            exact ⟨⟨hu.1.trans hB,hs.1.up 0 hu.2⟩,hs.1,hs.2⟩
           ·obtain rfl:=Option.some.inj hc
            refine AH.knownE [(105,1,D z23),(109,6,.pointer (some ⟨y0,2,none⟩))] (by kernel_rfl) ⟨(List.cons.inj h1).1,(List.cons.inj h6).1,trivial⟩ (AH.storeH ⟨y0,0,z14,49,true⟩ ⟨y0,0,z14,49,true⟩ (0,2) hg fun u2 hn hB=>?_)
            have hs:=EG (i:=2) (Gd 2 [D z23]) hf (j:=2) (by omega) rfl hg hB hn rfl
            exact ⟨⟨hu.1.trans hB,hs.1.up 0 hu.2⟩,hs.1,hs.2⟩
           ·obtain rfl:=Option.some.inj hc
            refine AH.knownE [(105,1,D z23),(109,6,.pointer (some ⟨y0,2,none⟩))] (by kernel_rfl) ⟨(List.cons.inj h1).1,(List.cons.inj h6).1,trivial⟩ (AH.storeH ⟨y0,0,z11,49,true⟩ ⟨y0,0,z11,49,true⟩ (0,2) hg fun u2 hn hB=>?_)
            have hs:=EG (i:=2) (Gd 2 [D z23]) hf (j:=3) (by omega) rfl hg hB hn rfl
            exact ⟨⟨hu.1.trans hB,hs.1.up 0 hu.2⟩,hs.1,hs.2⟩
          ·refine ⟨fun _ _ _ _ _ h=>h,fun r0 u hu hb=>?_⟩
           obtain ⟨h1,h3,h5,h6,h7,_⟩:=hb
           exact AH.knownE [] (by kernel_rfl) trivial (AH.reads ⟨0,[],(0,0),[]⟩ (fun e he=>by cases he) (.pointer (some ⟨y0,3,none⟩)) ⟨hu,Ft.refl _,rfl⟩)
          ·refine ⟨fun _ _ _ _ he h=>he.up _ h,fun r0 u hu hb=>?_⟩
           obtain ⟨h1,h3,h5,h6,h7,h8,_⟩:=hb
           have hf:∀ (j:Nat) (c:List Value),3≤j + 1→(z10:List (List Value))[j]?=some c→(z10:List (List Value))[max 3 j]?=some (Gd 3 z22 c):=fun j c h1 h2=>by
            have hl:j < 4:=(List.getElem?_eq_some_iff.1 h2).1
            have hx:j=2∨j=3:=by omega
            rcases hx with rfl | rfl <;> (obtain rfl:=Option.some.inj h2; rfl)
           have e2:LV 49 z10 y0 2 u:=h7
           obtain ⟨j,c,hj,hc,hg⟩:=e2
           have e4:j < 4:=(List.getElem?_eq_some_iff.1 hc).1
           have hx:j=2∨j=3:=by omega
           rcases hx with rfl | rfl
           ·obtain rfl:=Option.some.inj hc
            refine AH.knownE [(107,3,.agg ⟨z22⟩),(110,8,.pointer (some ⟨y0,3,none⟩))] (by kernel_rfl) ⟨(List.cons.inj h3).1,(List.cons.inj h8).1,trivial⟩ (AH.storeH ⟨y0,0,z14,49,true⟩ ⟨y0,0,z11,49,true⟩ (0,3) hg fun u2 hn hB=>?_)
            have hs:=EG (i:=3) (Gd 3 z22) hf (j:=2) (by omega) rfl hg hB hn rfl
            exact ⟨⟨hu.1.trans hB,hs.1.up 0 hu.2⟩,hs.1,hs.2⟩
           ·obtain rfl:=Option.some.inj hc
            refine AH.knownE [(107,3,.agg ⟨z22⟩),(110,8,.pointer (some ⟨y0,3,none⟩))] (by kernel_rfl) ⟨(List.cons.inj h3).1,(List.cons.inj h8).1,trivial⟩ (AH.storeH ⟨y0,0,z11,49,true⟩ ⟨y0,0,z11,49,true⟩ (0,3) hg fun u2 hn hB=>?_)
            have hs:=EG (i:=3) (Gd 3 z22) hf (j:=3) (by omega) rfl hg hB hn rfl
            exact ⟨⟨hu.1.trans hB,hs.1.up 0 hu.2⟩,hs.1,hs.2⟩
          intro r0 p2 a3 _ y1
          replace a3:M9 49 z10 y0 g3 p2:=a3
          obtain ⟨x1,x3,x5,x6,x7,x8,x9,_⟩:=y1
          have k6:=a3.1.below (H.lo 5 _ rfl y0 rfl).1 H.base
          let z15:List BI:=[⟨w.heap.size,0,z19,38,true⟩,⟨w.heap.size + 1,0,[.slice none 0 0,.slice none 0 0,.slice none 0 0,.slice none 0 0],43,true⟩,⟨w0.heap.size,0,[.slice c0 ((((AA a ds p1)).1).length) y,.slice b0 s.length x,.slice a0 ((((AA a ds p1)).2.2.1).length) t,.slice none 0 0,.map (some p0),.map (some k0),.map (some f0),.map (some d0)],75,true⟩,⟨w0.heap.size + 1,0,[.slice c0 ((((AA a ds p1)).1).length) y,.slice b0 s.length x,.slice a0 ((((AA a ds p1)).2.2.1).length) t,.slice a1 v0.length z0],43,true⟩,⟨s1.heap.size,0,z25,34,true⟩,⟨y0,0,z11,49,true⟩]
          replace H:AU w.heap.size p2 (List.map Th.ent z15++[z26,(Bo c0 y (((AA a ds p1)).1)),(EZ b0 x s),(DY s),(Bo a0 t (((AA a ds p1)).2.2.1)),(AY.th BL p0 (((AA a ds p1)).2.2.2.1)),(AY.th BL k0 (((AA a ds p1)).2.2.2.2.1)),(AY.th BL f0 (((AA a ds p1)).2.2.2.2.2.1)),(AY.th BL d0 q),(Hw a1 z0 v0),(F0 v0),(Cj p o z18)]):=H.staged (cs:=z10) 5 rfl a3.1 x9 rfl
          have Z63:=a3.1.size
          replace B:=B.trans k6
          have S63:=B.size
          replace G:=H.goods (M:=z15)
          refine DN [(2,.pointer (some ⟨w.heap.size,0,none⟩)),(4,.pointer (some ⟨w.heap.size + 1,0,none⟩)),(5,D v1),(9,.pointer (some ⟨w0.heap.size,0,none⟩)),(10,.pointer (some ⟨w0.heap.size + 1,0,none⟩)),(16,.pointer (some ⟨y0,0,none⟩)),(78,.slice (some ⟨c1,0,none⟩) ((((Au a ds p1)).1).length) t0),(79,D (((((Au a ds p1)).1).length:Int))),(80,D ((i1:Int)))] fun E63=>?_
          refine Cy ⟨rfl,At.mid ?_⟩
          have kc:Wk w p2 z15 [z26,(Bo c0 y (((AA a ds p1)).1)),(EZ b0 x s),(DY s),(Bo a0 t (((AA a ds p1)).2.2.1)),(AY.th BL p0 (((AA a ds p1)).2.2.2.1)),(AY.th BL k0 (((AA a ds p1)).2.2.2.2.1)),(AY.th BL f0 (((AA a ds p1)).2.2.2.2.2.1)),(AY.th BL d0 q),(Hw a1 z0 v0),(F0 v0),(Cj p o z18)] []:=⟨B,H.withTail⟩
          clear B H G
          refine Cb Bb am [⟨w.heap.size,0,z19,38,true⟩,⟨w.heap.size + 1,0,[.slice none 0 0,.slice none 0 0,.slice none 0 0,.slice none 0 0],43,true⟩,⟨w0.heap.size,0,[.slice c0 ((((AA a ds p1)).1).length) y,.slice b0 s.length x,.slice a0 ((((AA a ds p1)).2.2.1).length) t,.slice none 0 0,.map (some p0),.map (some k0),.map (some f0),.map (some d0)],75,true⟩,⟨w0.heap.size + 1,0,[.slice c0 ((((AA a ds p1)).1).length) y,.slice b0 s.length x,.slice a0 ((((AA a ds p1)).2.2.1).length) t,.slice a1 v0.length z0],43,true⟩,⟨s1.heap.size,0,z25,34,true⟩,⟨y0,0,z11,49,true⟩,⟨p2.heap.size,0,z11,49,true⟩] kc [(3,3),(5,0)] fun wl d3=>?_
          refine Ch d3.H (d3.ix 9) (d3.at 9 rfl) (((ds.getD m default).name,true,(ds.getD m default).mode,(ds.getD m default).num,(ds.getD m default).den,(Aa (((AA a ds p1)).2.2.2.1) (((AA a ds p1)).2.2.2.2.1) (((AA a ds p1)).2.2.2.2.2.1) q ((ds.getD m default).body).height ((ds.getD m default).body) 0),p,o)) z11 rfl (p2.heap.size) (d3.ent 6 (by kernel_rfl)) (DM am) (by kernel_rfl) (.tmp 112) (.tmp 114) 41 (by kernel_rfl) (by kernel_rfl) (by kernel_rfl) (by decide) (by kernel_rfl) (by kernel_rfl) rfl rfl (by ((try simp only [maxLen,List.length_map,List.length_append,List.length_cons,List.length_nil,List.length_singleton]) <;> omega)) fun e5 k4 wk Hn h9=>?_
          have ka:=d3.put 9 (by simp) h9 Hn
          have qs:=ka.take 10 11 MZ v0 (v0++[((ds.getD m default).name,true,(ds.getD m default).mode,(ds.getD m default).num,(ds.getD m default).den,(Aa (((AA a ds p1)).2.2.2.1) (((AA a ds p1)).2.2.2.2.1) (((AA a ds p1)).2.2.2.2.2.1) q ((ds.getD m default).body).height ((ds.getD m default).body) 0),p,o)]) (((ds.getD m default).name,true,(ds.getD m default).mode,(ds.getD m default).num,(ds.getD m default).den,(Aa (((AA a ds p1)).2.2.2.1) (((AA a ds p1)).2.2.2.2.1) (((AA a ds p1)).2.2.2.2.2.1) q ((ds.getD m default).body).height ((ds.getD m default).body) 0),p,o)) rfl rfl (by decide) (by intro z; simp [or_comm])
          refine BQ (Aj O3) qs [(3,3)] fun u7 z9=>?_
          refine BB [(2,.pointer (some ⟨w.heap.size,0,none⟩)),(4,.pointer (some ⟨w.heap.size + 1,0,none⟩)),(5,D v1),(9,.pointer (some ⟨w0.heap.size,0,none⟩)),(10,.pointer (some ⟨w0.heap.size + 1,0,none⟩)),(78,.slice (some ⟨c1,0,none⟩) ((((Au a ds p1)).1).length) t0),(79,D (((((Au a ds p1)).1).length:Int))),(80,D (IntKind.i64.wrap ((i1:Int) + 1)))] fun zz=>?_
          have y9:Wk w u7 [⟨w.heap.size,0,z19,38,true⟩,⟨w.heap.size + 1,0,[.slice none 0 0,.slice none 0 0,.slice none 0 0,.slice none 0 0],43,true⟩,⟨w0.heap.size,0,[.slice c0 ((((AA a ds p1)).1).length) y,.slice b0 s.length x,.slice a0 ((((AA a ds p1)).2.2.1).length) t,.slice none 0 0,.map (some p0),.map (some k0),.map (some f0),.map (some d0)],75,true⟩,⟨w0.heap.size + 1,0,[.slice c0 ((((AA a ds p1)).1).length) y,.slice b0 s.length x,.slice a0 ((((AA a ds p1)).2.2.1).length) t,.slice e5 ((v0++[((ds.getD m default).name,true,(ds.getD m default).mode,(ds.getD m default).num,(ds.getD m default).den,(Aa (((AA a ds p1)).2.2.2.1) (((AA a ds p1)).2.2.2.2.1) (((AA a ds p1)).2.2.2.2.2.1) q ((ds.getD m default).body).height ((ds.getD m default).body) 0),p,o)]).length) k4],43,true⟩] [z26,(Bo c0 y (((AA a ds p1)).1)),(EZ b0 x s),(DY s),(Bo a0 t (((AA a ds p1)).2.2.1)),(AY.th BL p0 (((AA a ds p1)).2.2.2.1)),(AY.th BL k0 (((AA a ds p1)).2.2.2.2.1)),(AY.th BL f0 (((AA a ds p1)).2.2.2.2.2.1)),(AY.th BL d0 q),(Hw e5 k4 (v0++[((ds.getD m default).name,true,(ds.getD m default).mode,(ds.getD m default).num,(ds.getD m default).den,(Aa (((AA a ds p1)).2.2.2.1) (((AA a ds p1)).2.2.2.2.1) (((AA a ds p1)).2.2.2.2.2.1) q ((ds.getD m default).body).height ((ds.getD m default).body) 0),p,o)])),(F0 (v0++[((ds.getD m default).name,true,(ds.getD m default).mode,(ds.getD m default).num,(ds.getD m default).den,(Aa (((AA a ds p1)).2.2.2.1) (((AA a ds p1)).2.2.2.2.1) (((AA a ds p1)).2.2.2.2.2.1) q ((ds.getD m default).body).height ((ds.getD m default).body) 0),p,o)]))] []:=z9.pk [0,1,2,3] [0,1,2,3,4,5,6,7,8,9,10]
          rw [Bs i1 (by omega)]
          refine c2 _ _ ⟨i1 + 1,v1,(v0++[((ds.getD m default).name,true,(ds.getD m default).mode,(ds.getD m default).num,(ds.getD m default).den,(Aa (((AA a ds p1)).2.2.2.1) (((AA a ds p1)).2.2.2.2.1) (((AA a ds p1)).2.2.2.2.2.1) q ((ds.getD m default).body).height ((ds.getD m default).body) 0),p,o)]),e5,k4,zz,k2,rfl,by rw [b2,r3,m4] <;> first | rfl | (simp only [cond_true,cond_false,List.length_map,List.map_append,List.map_cons,List.map_nil,id]; done) | (simp only [cond_true,cond_false,List.length_map,List.map_append,List.map_cons,List.map_nil,id]; rfl),by ((try simp only [maxLen,List.length_map,List.length_append,List.length_cons,List.length_nil,List.length_singleton]) <;> omega),y9⟩ ?_
          show (((Au a ds p1)).1).length - AQ (D ((i1 + 1:Nat):Int)) < (((Au a ds p1)).1).length - AQ (D (i1:Int))
          simp only [AQ]
          omega
         ·refine Cb Bb al [⟨w.heap.size,0,z19,38,true⟩,⟨w.heap.size + 1,0,[.slice none 0 0,.slice none 0 0,.slice none 0 0,.slice none 0 0],43,true⟩,⟨w0.heap.size,0,[.slice c0 ((((AA a ds p1)).1).length) y,.slice b0 s.length x,.slice a0 ((((AA a ds p1)).2.2.1).length) t,.slice none 0 0,.map (some p0),.map (some k0),.map (some f0),.map (some d0)],75,true⟩,⟨w0.heap.size + 1,0,[.slice c0 ((((AA a ds p1)).1).length) y,.slice b0 s.length x,.slice a0 ((((AA a ds p1)).2.2.1).length) t,.slice a1 v0.length z0],43,true⟩,⟨s1.heap.size,0,z25,34,true⟩,⟨y0,0,[.string ⟨⟨(ds.getD m default).name⟩⟩,.bool false,D 0,D 0,D 0,.slice p ((Aa (((AA a ds p1)).2.2.2.1) (((AA a ds p1)).2.2.2.2.1) (((AA a ds p1)).2.2.2.2.2.1) q ((ds.getD m default).body).height ((ds.getD m default).body) 0).length) o],49,true⟩,⟨i5.heap.size,0,[.string ⟨⟨(ds.getD m default).name⟩⟩,.bool false,D 0,D 0,D 0,.slice p ((Aa (((AA a ds p1)).2.2.2.1) (((AA a ds p1)).2.2.2.2.1) (((AA a ds p1)).2.2.2.2.2.1) q ((ds.getD m default).body).height ((ds.getD m default).body) 0).length) o],49,true⟩] q6 [(3,3),(5,0)] fun wf c3=>?_
          refine Ch c3.H (c3.ix 9) (c3.at 9 rfl) (((ds.getD m default).name,false,0,0,0,(Aa (((AA a ds p1)).2.2.2.1) (((AA a ds p1)).2.2.2.2.1) (((AA a ds p1)).2.2.2.2.2.1) q ((ds.getD m default).body).height ((ds.getD m default).body) 0),p,o)) [.string ⟨⟨(ds.getD m default).name⟩⟩,.bool false,D 0,D 0,D 0,.slice p ((Aa (((AA a ds p1)).2.2.2.1) (((AA a ds p1)).2.2.2.2.1) (((AA a ds p1)).2.2.2.2.2.1) q ((ds.getD m default).body).height ((ds.getD m default).body) 0).length) o] rfl (i5.heap.size) (c3.ent 6 (by kernel_rfl)) (DM al) (by kernel_rfl) (.tmp 112) (.tmp 114) 41 (by kernel_rfl) (by kernel_rfl) (by kernel_rfl) (by decide) (by kernel_rfl) (by kernel_rfl) rfl rfl (by ((try simp only [maxLen,List.length_map,List.length_append,List.length_cons,List.length_nil,List.length_singleton]) <;> omega)) fun d5 i4 we Hn f9=>?_
          have w9:=c3.put 9 (by simp) f9 Hn
          have v9:=w9.take 10 11 MZ v0 (v0++[((ds.getD m default).name,false,0,0,0,(Aa (((AA a ds p1)).2.2.2.1) (((AA a ds p1)).2.2.2.2.1) (((AA a ds p1)).2.2.2.2.2.1) q ((ds.getD m default).body).height ((ds.getD m default).body) 0),p,o)]) (((ds.getD m default).name,false,0,0,0,(Aa (((AA a ds p1)).2.2.2.1) (((AA a ds p1)).2.2.2.2.1) (((AA a ds p1)).2.2.2.2.2.1) q ((ds.getD m default).body).height ((ds.getD m default).body) 0),p,o)) rfl rfl (by decide) (by intro z; simp [or_comm])
          refine BQ (Aj O3) v9 [(3,3)] fun s7 t9=>?_
          refine BB [(2,.pointer (some ⟨w.heap.size,0,none⟩)),(4,.pointer (some ⟨w.heap.size + 1,0,none⟩)),(5,D v1),(9,.pointer (some ⟨w0.heap.size,0,none⟩)),(10,.pointer (some ⟨w0.heap.size + 1,0,none⟩)),(78,.slice (some ⟨c1,0,none⟩) ((((Au a ds p1)).1).length) t0),(79,D (((((Au a ds p1)).1).length:Int))),(80,D (IntKind.i64.wrap ((i1:Int) + 1)))] fun zy=>?_
          have r9:Wk w s7 [⟨w.heap.size,0,z19,38,true⟩,⟨w.heap.size + 1,0,[.slice none 0 0,.slice none 0 0,.slice none 0 0,.slice none 0 0],43,true⟩,⟨w0.heap.size,0,[.slice c0 ((((AA a ds p1)).1).length) y,.slice b0 s.length x,.slice a0 ((((AA a ds p1)).2.2.1).length) t,.slice none 0 0,.map (some p0),.map (some k0),.map (some f0),.map (some d0)],75,true⟩,⟨w0.heap.size + 1,0,[.slice c0 ((((AA a ds p1)).1).length) y,.slice b0 s.length x,.slice a0 ((((AA a ds p1)).2.2.1).length) t,.slice d5 ((v0++[((ds.getD m default).name,false,0,0,0,(Aa (((AA a ds p1)).2.2.2.1) (((AA a ds p1)).2.2.2.2.1) (((AA a ds p1)).2.2.2.2.2.1) q ((ds.getD m default).body).height ((ds.getD m default).body) 0),p,o)]).length) i4],43,true⟩] [(BP (some ⟨c1,0,none⟩) t0 (((Au a ds p1)).1)),(Bo c0 y (((AA a ds p1)).1)),(EZ b0 x s),(DY s),(Bo a0 t (((AA a ds p1)).2.2.1)),(AY.th BL p0 (((AA a ds p1)).2.2.2.1)),(AY.th BL k0 (((AA a ds p1)).2.2.2.2.1)),(AY.th BL f0 (((AA a ds p1)).2.2.2.2.2.1)),(AY.th BL d0 q),(Hw d5 i4 (v0++[((ds.getD m default).name,false,0,0,0,(Aa (((AA a ds p1)).2.2.2.1) (((AA a ds p1)).2.2.2.2.1) (((AA a ds p1)).2.2.2.2.2.1) q ((ds.getD m default).body).height ((ds.getD m default).body) 0),p,o)])),(F0 (v0++[((ds.getD m default).name,false,0,0,0,(Aa (((AA a ds p1)).2.2.2.1) (((AA a ds p1)).2.2.2.2.1) (((AA a ds p1)).2.2.2.2.2.1) q ((ds.getD m default).body).height ((ds.getD m default).body) 0),p,o)]))] []:=t9.pk [0,1,2,3] [0,1,2,3,4,5,6,7,8,9,10]
          rw [Bs i1 (by omega)]
          refine c2 _ _ ⟨i1 + 1,v1,(v0++[((ds.getD m default).name,false,0,0,0,(Aa (((AA a ds p1)).2.2.2.1) (((AA a ds p1)).2.2.2.2.1) (((AA a ds p1)).2.2.2.2.2.1) q ((ds.getD m default).body).height ((ds.getD m default).body) 0),p,o)]),d5,i4,zy,k2,rfl,by rw [b2,r3,m4] <;> first | rfl | (simp only [cond_true,cond_false,List.length_map,List.map_append,List.map_cons,List.map_nil,id]; done) | (simp only [cond_true,cond_false,List.length_map,List.map_append,List.map_cons,List.map_nil,id]; rfl),by ((try simp only [maxLen,List.length_map,List.length_append,List.length_cons,List.length_nil,List.length_singleton]) <;> omega),r9⟩ ?_
          show (((Au a ds p1)).1).length - AQ (D ((i1 + 1:Nat):Int)) < (((Au a ds p1)).1).length - AQ (D (i1:Int))
          simp only [AQ]
          omega
       ·have c6:i1=((Au a ds p1)).1.length:=by have:=of_decide_eq_false q4; omega
        rw [c6,List.drop_length,Pw] at b2
        refine BQ qZ e3 [(3,0),(1,0)] fun wc v4=>?_
        have hS:(CF a ds p1)=(((AA a ds p1)).1,((AA a ds p1)).2.1,((AA a ds p1)).2.2.1,(v0.map lm),0):=by rw [b2] <;> rfl
        exact Ab v4 (1,0) (.tuple #[.agg ⟨[.slice c0 ((((AA a ds p1)).1).length) y,.slice b0 s.length x,.slice a0 ((((AA a ds p1)).2.2.1).length) t,.slice a1 v0.length z0]⟩,D 0]) ⟨c0,y,b0,x,s,a0,t,a1,z0,v0,by rw [hS] <;> rfl,by rw [hS] <;> first | assumption | (simp; done) | (simp; assumption),by rw [hS] <;> first | assumption | (simp; done) | (simp; assumption),v4.B,by rw [hS]; exact v4.own0 [1,2,3,4,9,10] rfl (by decide)⟩
end
end Go.Proofs.YtmcpjkcggfmcmaaGreatDoor

/-
  Part 34 of a proof: contracts of functions.
-/
import Derived.Test.YtmcpjkcggfmcmaaGreatDoorL33
set_option linter.all false
namespace Go.Proofs.YtmcpjkcggfmcmaaGreatDoor
open Go.RowKit
set_option maxRecDepth 100000
set_option maxHeartbeats 600000
abbrev Jj:=Nat×List Nat×Option Addr×Nat
abbrev IV (x:Jj):Nat×m2:=(x.1,x.2.2.1,x.2.1.length,x.2.2.2)
abbrev XV (x:Jj):Th:=BE x.2.2.1 x.2.2.2 x.2.1
abbrev Gg (x:Jj):Nat×List Nat:=(x.1,x.2.1)
abbrev Fk (xs:List Jj):Th:=Th.all (xs.map XV)
theorem AY.rowSpot {α:Type} {b:Nat} {w:World} {L:List Th} {T:TypeId} {n:Nat} {rel:α→List Value→Prop} {A:Option Addr} {c:Nat} {l:List α} (h:AY b w L) (i:Nat) (hi:L[i]?=some (Th.row T n rel A c l)):∀ a,A=some a→a.spot=none:=by
 obtain ⟨rs,hr,ho⟩:(Th.row T n rel A c l).P w:=h.all i _ hi
 intro a ha
 rcases ho.2 with ⟨h1,h0⟩ | ⟨g,cap,cur,h1,_⟩
 ·injection h1 with e1
  rw [e1] at ha
  cases ha
 ·injection h1 with e1
  rw [e1] at ha
  injection ha with ha
  rw [← ha]
theorem ez {w:World} {xs:List Jj} (hf:(Fk xs).P w) (i:Nat):∃ A c,(BV (xs.map IV) i).getD (none,0,0)=(A,((BV (xs.map Gg) i).getD []).length,c)∧rowsNat w A ((BV (xs.map Gg) i).getD []):=by
 induction xs with
 | nil=>exact ⟨none,0,rfl,.inl rfl⟩
 | cons x xs ih=>
  rw [List.map_cons,List.map_cons,BV,BV]
  by_cases hx:x.1=i
  ·rw [if_pos hx,if_pos hx]
   have hP:(XV x).P w:=hf _ (by simp)
   have H:AY 0 w [XV x]:=⟨Nat.zero_le _,fun j t ht=>by
     cases j with
     | zero=>obtain rfl:=Option.some.inj ht; exact hP
     | succ j=>simp at ht,fun j t ht k hk=>by
     cases j with
     | zero=>
      obtain rfl:=Option.some.inj ht
      obtain ⟨rs,hr,ho⟩:=hP
      have hk':x.2.2.1=some ⟨k,0,none⟩:=hk
      exact ⟨Nat.zero_le _,(Cj ho (g:=k) (by rw [hk']; rfl)).2⟩
     | succ j=>simp at ht,fun j k s t hs ht hjk=>by
     cases j with
     | zero=>cases k with
      | zero=>exact absurd rfl hjk
      | succ k=>simp at ht
     | succ j=>simp at hs⟩
   exact ⟨x.2.2.1,x.2.2.2,rfl,H.rowsNat 0 rfl⟩
  ·rw [if_neg hx,if_neg hx]
   exact ih fun u hu=>hf u (by simp at hu ⊢; exact .inr hu)
end Go.Proofs.YtmcpjkcggfmcmaaGreatDoor
namespace Go.Proofs.YtmcpjkcggfmcmaaGreatDoor
noncomputable section
open Go.RowKit
set_option maxRecDepth 100000
set_option maxHeartbeats 1000000
attribute [local irreducible] BD Bb AF AG AL A4 Ai AO BO CV Di CC Bp At Fr
def Br (ds:List (Df)) (p1:Int):List (Nat)→Int→List Nat→List (Nat×List Nat)→List Nat×List (Nat×List Nat)×Int
 | [],a0_0,a0_1,a0_2=>(a0_1,a0_2,0)
 | e0 :: tl,a0_0,a0_1,a0_2=>cond (!(BU (ds.getD e0 default))) (Br ds p1 tl a0_0 a0_1 a0_2) (cond (!(((Cw ds (Aw ds p1) e0)).2 == 0)) (([],[],((Cw ds (Aw ds p1) e0)).2)) (Br ds p1 tl a0_0 (a0_1++[e0]) ((e0,((Cw ds (Aw ds p1) e0)).1) :: a0_2)))
theorem LW {ds:List (Df)} {p1:Int} {a0_0:Int} {a0_1:List Nat} {a0_2:List (Nat×List Nat)}:Br ds p1 [] a0_0 a0_1 a0_2=((a0_1,a0_2,0)):=by rw [Br]
theorem Kp {ds:List (Df)} {p1:Int} {a0_0:Int} {a0_1:List Nat} {a0_2:List (Nat×List Nat)} {es:List (Nat)} (i:Nat) (e0:Nat) (hi:es[i]?=some e0):Br ds p1 (es.drop i) a0_0 a0_1 a0_2=(cond (!(BU (ds.getD e0 default))) (Br ds p1 (es.drop (i + 1)) a0_0 a0_1 a0_2) (cond (!(((Cw ds (Aw ds p1) e0)).2 == 0)) (([],[],((Cw ds (Aw ds p1) e0)).2)) (Br ds p1 (es.drop (i + 1)) a0_0 (a0_1++[e0]) ((e0,((Cw ds (Aw ds p1) e0)).1) :: a0_2)))):=by
 have hl:i < es.length:=(List.getElem?_eq_some_iff.1 hi).1
 have he:es[i]=e0:=(List.getElem?_eq_some_iff.1 hi).2
 rw [← List.getElem_cons_drop hl,Br] <;> (try rw [he])
def BN (p0a:List UInt8) (ds:List (Df)) (p1:Int):List Nat×List (Nat×List Nat)×Int:=cond (!(Dt p0a ds p1 == 0)) (([],[],Dt p0a ds p1)) (Br ds p1 (Aw ds p1) 0 ([]) ([]))
noncomputable def X6:Code:=Tryz.f50.body.getD .skip
def iE:List Item:=AB 60 ([.code X6])
def Tl:List Item:=AB 60 (AF iE)
def n7:List Item:=AB 60 (AG Tl)
def Za:List Item:=AB (As GA 90 (AL Tl)) (AL Tl)
def iD:List Item:=AB 60 (AF Za)
def Tj:List Item:=AB 60 (AF iD)
def Ti:List Item:=AB 60 (A4 Tj)
def ZZ:List Item:=AB (As Ae 90 (AG Ti)) (AG Ti)
def iC:List Item:=AB (As Ae 90 (AF (AF ZZ))) (AF (AF ZZ))
def iB:List Item:=AB 60 (AF (AF iC))
def cN:List Item:=AB 60 (AF iB)
def cM:List Item:=AB 60 (AL cN)
def Oh:List Item:=AB 60 (AF cM)
def lF:List Item:=AB 60 (AG Oh)
def Og:List Item:=AB (As BK 90 (AL Oh)) (AL Oh)
def cL:List Item:=AB (As Mg 90 (AF Og)) (AF Og)
def lE:List Item:=AB 60 (AL Ti)
theorem Qd (p0a:List UInt8) (p0bA:Option Addr) (ds:List (Df)) (p0bc:Nat) (p1:Int) (w:World) (h_ds:rowsDf w p0bA ds) (hl_ds:ds.length≤4294967296) (hs:p0a.length≤4294967296) (ht:∀ d∈ds,GB d) (hlim:∀ d∈ds,DT d.body) (hn:∀ d∈ds,nE d.body≤1000000):Calls Tryz.prog 50 ([.agg ⟨[.string ⟨⟨p0a⟩⟩,.slice p0bA ds.length p0bc]⟩,.int .i64 p1]:List Value).toArray w fun e w'=>(∃ (rA0:Option Addr) (rc0:Nat) (rb1:Nat) (rx1:List Jj),e=.returned (.tuple #[.agg ⟨[.slice rA0 ((((BN p0a ds p1)).1).length) rc0,.map (some rb1)]⟩,.int .i64 (((BN p0a ds p1)).2.2)])∧rx1.map Gg=((BN p0a ds p1)).2.1∧Below w.heap.size w w'∧((BN p0a ds p1)).2.2=0∧AY w.heap.size w' [BE rA0 rc0 (((BN p0a ds p1)).1),AZ.th H3 rb1 (rx1.map IV),Fk rx1])∨(e=.returned (.tuple #[.agg ⟨[.slice none 0 0,.map none]⟩,.int .i64 (((BN p0a ds p1)).2.2)])∧¬ ((BN p0a ds p1)).2.2=0∧Below w.heap.size w w'):=by
 refine Ab (fn:=Tryz.f50) (c:=X6) (n:=61) ?_
 have K1:=Wk.start w
 refine Bv iE [⟨w.heap.size,0,[.string ⟨⟨p0a⟩⟩,.slice p0bA ds.length p0bc],38,true⟩,⟨w.heap.size + 1,0,[.slice none 0 0,.map none],108,true⟩] K1 [(0,0)] fun w1 K2=>?_
 refine Ak K2 (args:=[.agg ⟨[.string ⟨⟨p0a⟩⟩,.slice p0bA ds.length p0bc]⟩,.int .i64 p1]) (Mv p0a _ ds _ p1 w1 (h_ds.below K2.B) hl_ds hs ht) fun w2 K3=>?_
 refine AC Tl K3 [] fun w3 K4=>?_
 refine AK (!(Dt p0a ds p1 == 0)) (fun c4=>?_) (fun c4=>?_)
 ·have K5:=K4.addNil 3 1 (fun e r=>r=Eb e)
  refine AC n7 K5 [(1,0)] fun w5 K6=>?_
  have hS:(BN p0a ds p1)=([],[],Dt p0a ds p1):=by unfold BN; rw [c4] <;> rfl
  exact Aa K6 (1,0) (.tuple #[.agg ⟨[.slice none 0 0,.map none]⟩,.int .i64 (Dt p0a ds p1)]) (.inr ⟨by rw [hS] <;> rfl,by rw [hS]; simpa using c4,K6.B⟩)
 ·refine BA GA Za K4 [] fun w6 K7=>?_
  refine Gt H3 K7.H (Ck Za) (by kernel_rfl) (t:=106) (by kernel_rfl) fun w7 Z7 Hn b7=>?_
  have K8:=K7.add b7 Hn
  have K9:=K8.addFam XV
  refine Bv iD [⟨w.heap.size,0,[.string ⟨⟨p0a⟩⟩,.slice p0bA ds.length p0bc],38,true⟩,⟨w.heap.size + 1,0,[.slice none 0 0,.map none],108,true⟩,⟨w7.heap.size,0,[.slice none 0 0,.map (some w6.heap.size)],108,true⟩] K9 [(2,0),(0,0)] fun w8 K10=>?_
  refine BX (NB p0a p0bA ds p0bc p1 w8 (h_ds.below K10.B) (by first | assumption | omega | (simp <;> omega))) fun en w10 hh=>?_
  obtain ⟨A9_0,c9_0,rfl,b10,Hn⟩:=hh
  refine ⟨_,rfl,?_⟩
  have K11:=K10.join b10 Hn
  have hla:=Ih (ds:=ds) (p1:=p1)
  refine AC Tj K11 [] fun w11 K12=>?_
  have K13:Wk w w11 [⟨w.heap.size,0,[.string ⟨⟨p0a⟩⟩,.slice p0bA ds.length p0bc],38,true⟩,⟨w.heap.size + 1,0,[.slice none 0 0,.map none],108,true⟩,⟨w7.heap.size,0,[.slice none 0 0,.map (some w6.heap.size)],108,true⟩] [(AZ.th H3 w6.heap.size (([]:List Jj).map IV)),(Fk ([])),(BE A9_0 c9_0 (Aw ds p1))] []:=K12.pk [0,1,2] [0,1,2]
  have K14:=K13.addNil 3 1 (fun e r=>r=Eb e)
  have hv0:(BN p0a ds p1)=Br ds p1 (Aw ds p1) 0 ([]) ([]):=by unfold BN; rw [c4] <;> rfl
  refine Ax [(2,.pointer (some ⟨w.heap.size,0,none⟩)),(4,.pointer (some ⟨w.heap.size + 1,0,none⟩)),(5,.int .i64 0),(7,.pointer (some ⟨w7.heap.size,0,none⟩)),(8,.slice A9_0 ((Aw ds p1).length) c9_0),(25,.slice A9_0 ((Aw ds p1).length) c9_0),(26,.int .i64 (((Aw ds p1).length:Int))),(27,.int .i64 (((0:Nat):Int)))] fun E12=>?_
  refine Bj (by kernel_rfl) (fun E wx0=>∃ (i0:Nat) (a0_0:Int) (a0_1:List Nat) (a0_2:List Jj) (a0_1A:Option Addr) (a0_1c:Nat) (E0:Nat→Value),i0≤(Aw ds p1).length∧E=CX E0 [(2,.pointer (some ⟨w.heap.size,0,none⟩)),(4,.pointer (some ⟨w.heap.size + 1,0,none⟩)),(5,.int .i64 a0_0),(7,.pointer (some ⟨w7.heap.size,0,none⟩)),(8,.slice A9_0 ((Aw ds p1).length) c9_0),(25,.slice A9_0 ((Aw ds p1).length) c9_0),(26,.int .i64 (((Aw ds p1).length:Int))),(27,.int .i64 ((i0:Int)))]∧(BN p0a ds p1)=Br ds p1 (List.drop i0 (Aw ds p1)) a0_0 a0_1 (a0_2.map Gg)∧a0_1.length≤1 * i0 + 0∧a0_2.length≤1 * i0 + 0∧Wk w wx0 [⟨w.heap.size,0,[.string ⟨⟨p0a⟩⟩,.slice p0bA ds.length p0bc],38,true⟩,⟨w.heap.size + 1,0,[.slice none 0 0,.map none],108,true⟩,⟨w7.heap.size,0,[.slice a0_1A a0_1.length a0_1c,.map (some w6.heap.size)],108,true⟩] [(AZ.th H3 w6.heap.size (a0_2.map IV)),(Fk a0_2),(BE A9_0 c9_0 (Aw ds p1)),(BE a0_1A a0_1c a0_1)] []) (fun E _=>(Aw ds p1).length - AQ (E 27)) ⟨0,0,([]),([]),none,0,E12,Nat.zero_le _,rfl,hv0,by simp,by simp,K14⟩ ?_
  clear hv0
  rintro E wx0 ⟨i0,a0_0,a0_1,a0_2,a0_1A,a0_1c,E0,hi0,rfl,hv0,hb0_0,hb0_1,K15⟩ hagain0
  refine AC Ti K15 [] fun w14 K16=>?_
  refine AK (decide ((i0:Int) < ((Aw ds p1).length:Int))) (fun c15=>?_) (fun c15=>?_)
  ·have hlt0:i0 < (Aw ds p1).length:=by have:=of_decide_eq_true c15; omega
   obtain ⟨e0,he0⟩:∃ e,(Aw ds p1)[i0]?=some e:=⟨_,List.getElem?_eq_getElem hlt0⟩
   rw [Kp i0 e0 he0] at hv0
   obtain ⟨gB0,rfl,hB0g⟩:=K16.H.rowAt (K16.ix 2) (K16.at 2 rfl) (by omega)
   refine BA Ae ZZ K16 [] fun w16 K17=>?_
   refine BB (g:=gB0) (off:=0) (cap:=c9_0) (sz:=1) (k:=i0) (len:=(Aw ds p1).length) (some 29) hlt0 Tryz.underlying56 ?_
   refine Dm 3 gB0 (0 + i0 * 1) (.int .i64 ((e0:Int))) (some 30) (by simpa using (K17.H.cellsF (T:=3) (n:=1) (f:=Eb) (c:=c9_0) (l:=(Aw ds p1)) (fun _=>rfl) (K17.ix 2) (K17.at 2 rfl) he0) 0 _ rfl) ?_
   obtain ⟨gB1,fB1,rfl,hB1g,hB1a⟩:=h_ds.all (Nat.lt_of_le_of_lt (Nat.zero_le _) (EK _ (List.mem_of_getElem? he0)))
   have hd1:ds[e0]?=some (ds.getD e0 default):=getD_some default (EK _ (List.mem_of_getElem? he0))
   obtain ⟨aE1_0,cE1_0,aE1_1,cE1_1,hr1_,hE1_0,hE1_1⟩:=hB1a e0 _ hd1
   refine BA Ae iC K17 [(0,1)] fun w17 K18=>?_
   refine BB (g:=gB1) (off:=fB1) (cap:=p0bc) (sz:=21) (k:=e0) (len:=ds.length) (some 34) (EK _ (List.mem_of_getElem? he0)) Tryz.underlying36 ?_
   refine Bc 34 gB1 (fB1 + e0 * 21) [.int .i64 ((ds.getD e0 default).kind),.string ⟨⟨(ds.getD e0 default).name⟩⟩,.bool ((ds.getD e0 default).tb),.int .i64 ((ds.getD e0 default).tm),.int .i64 ((ds.getD e0 default).th),.int .i64 ((ds.getD e0 default).td),.int .i64 ((ds.getD e0 default).frm),.slice aE1_0 ((ds.getD e0 default).ents.length) cE1_0,.int .i64 ((ds.getD e0 default).body.op),.int .i64 ((ds.getD e0 default).body.num),.int .i64 ((ds.getD e0 default).body.den),.int .i64 ((ds.getD e0 default).body.mu),.int .i64 ((ds.getD e0 default).body.hu),.int .i64 ((ds.getD e0 default).body.du),.string ⟨⟨(ds.getD e0 default).body.nm⟩⟩,.int .i64 ((ds.getD e0 default).body.cnt),.int .i64 ((ds.getD e0 default).body.md),.slice aE1_1 ((ds.getD e0 default).body.ks.length) cE1_1,.int .i64 ((ds.getD e0 default).mode),.int .i64 ((ds.getD e0 default).num),.int .i64 ((ds.getD e0 default).den)] (some 35) (Af hr1_ hB1g K18.B) ?_
   refine AC iB K18 [] fun w18 K19=>?_
   refine Ak K19 (GC (ds.getD e0 default) aE1_0 cE1_0 aE1_1 cE1_1 w18 (hE1_0.below K19.B) (hE1_1.below K19.B)) fun w19 K20=>?_
   refine AC cN K20 [] fun w20 K21=>?_
   refine AK (!(BU (ds.getD e0 default))) (fun c21=>?_) (fun c21=>?_)
   ·refine AC (Ai Tj) K21 [] fun w22 K22=>?_
    refine Ax [(2,.pointer (some ⟨w.heap.size,0,none⟩)),(4,.pointer (some ⟨w.heap.size + 1,0,none⟩)),(5,.int .i64 a0_0),(7,.pointer (some ⟨w7.heap.size,0,none⟩)),(8,.slice (some ⟨gB0,0,none⟩) ((Aw ds p1).length) c9_0),(25,.slice (some ⟨gB0,0,none⟩) ((Aw ds p1).length) c9_0),(26,.int .i64 (((Aw ds p1).length:Int))),(27,.int .i64 (IntKind.i64.wrap ((i0:Int) + 1)))] fun E23=>?_
    have K23:Wk w w22 [⟨w.heap.size,0,[.string ⟨⟨p0a⟩⟩,.slice (some ⟨gB1,fB1,none⟩) ds.length p0bc],38,true⟩,⟨w.heap.size + 1,0,[.slice none 0 0,.map none],108,true⟩,⟨w7.heap.size,0,[.slice a0_1A a0_1.length a0_1c,.map (some w6.heap.size)],108,true⟩] [(AZ.th H3 w6.heap.size (a0_2.map IV)),(Fk a0_2),(BE (some ⟨gB0,0,none⟩) c9_0 (Aw ds p1)),(BE a0_1A a0_1c a0_1)] []:=K22.pk [0,1,2] [0,1,2,3]
    rw [Bf i0 (by omega)]
    refine hagain0 _ _ ⟨i0 + 1,a0_0,a0_1,a0_2,a0_1A,a0_1c,E23,hlt0,rfl,by rw [hv0,c21] <;> first | rfl | (simp only [cond_true,cond_false,List.length_map,List.map_append,List.map_cons,List.map_nil,id]; done) | (simp only [cond_true,cond_false,List.length_map,List.map_append,List.map_cons,List.map_nil,id]; rfl),by ((try simp only [maxLen,List.length_map,List.length_append,List.length_cons,List.length_nil,List.length_singleton]) <;> omega),by (first | ((try simp only [maxLen,List.length_append,List.length_cons,List.length_nil,List.length_singleton]) <;> omega) | (refine Nat.le_trans (QL _ _ _) ?_; ((try simp only [maxLen,List.length_append,List.length_cons,List.length_nil,List.length_singleton]) <;> omega))),K23⟩ ?_
    show (Aw ds p1).length - AQ (.int .i64 ((i0 + 1:Nat):Int)) < (Aw ds p1).length - AQ (.int .i64 (i0:Int))
    simp only [AQ]
    omega
   ·refine AC cM K21 [(0,0)] fun w24 K24=>?_
    refine BX (args:=[.agg ⟨[.string ⟨⟨p0a⟩⟩,.slice (some ⟨gB1,fB1,none⟩) ds.length p0bc]⟩,.slice (some ⟨gB0,0,none⟩) ((Aw ds p1).length) c9_0,.int .i64 ((e0:Int))]) (XL p0a (some ⟨gB1,fB1,none⟩) ds p0bc (some ⟨gB0,0,none⟩) (Aw ds p1) c9_0 e0 w24 (h_ds.below K24.B) (by first | assumption | omega | (simp <;> omega)) (K24.H.rowsNat (K24.ix 2) (K24.at 2 rfl)) (by first | assumption | omega | (simp <;> omega)) (EK _ (List.mem_of_getElem? he0)) EK hlim hn) fun en w26 hh=>?_
    obtain ⟨A25_0,c25_0,rfl,b26,Hn⟩:=hh
    refine ⟨_,rfl,?_⟩
    have K25:=K24.join b26 Hn
    refine AC Oh K25 [] fun w27 K26=>?_
    refine AK (!(((Cw ds (Aw ds p1) e0)).2 == 0)) (fun c28=>?_) (fun c28=>?_)
    ·have K27:=K26.addNil 3 1 (fun e r=>r=Eb e)
     refine AC lF K27 [(1,0)] fun w29 K28=>?_
     have hS:(BN p0a ds p1)=([],[],((Cw ds (Aw ds p1) e0)).2):=by rw [hv0,c21,c28] <;> rfl
     exact Aa K28 (1,0) (.tuple #[.agg ⟨[.slice none 0 0,.map none]⟩,.int .i64 (((Cw ds (Aw ds p1) e0)).2)]) (.inr ⟨by rw [hS] <;> rfl,by rw [hS]; simpa using c28,K28.B⟩)
    ·refine CA BK Og [⟨w.heap.size,0,[.string ⟨⟨p0a⟩⟩,.slice (some ⟨gB1,fB1,none⟩) ds.length p0bc],38,true⟩,⟨w.heap.size + 1,0,[.slice none 0 0,.map none],108,true⟩,⟨w7.heap.size,0,[.slice a0_1A a0_1.length a0_1c,.map (some w6.heap.size)],108,true⟩,⟨w27.heap.size,0,[.int .i64 ((e0:Int))],3,true⟩] K26 [(2,0)] fun w30 K29=>?_
     refine CF K29.H (K29.ix 3) (K29.at 3 rfl) e0 [.int .i64 ((e0:Int))] rfl (w27.heap.size) (K29.ent 3 (by kernel_rfl)) (Ck Og) (by kernel_rfl) (.tmp 50) (.tmp 52) 56 (by kernel_rfl) (by kernel_rfl) (by kernel_rfl) (by decide) (by kernel_rfl) (by kernel_rfl) rfl rfl (by ((try simp only [maxLen,List.length_map,List.length_append,List.length_cons,List.length_nil,List.length_singleton]) <;> omega)) fun A31 c31 w31 Hn b31=>?_
     have K30:=K29.put 3 (by simp) b31 Hn
     refine CA Mg cL [⟨w.heap.size,0,[.string ⟨⟨p0a⟩⟩,.slice (some ⟨gB1,fB1,none⟩) ds.length p0bc],38,true⟩,⟨w.heap.size + 1,0,[.slice none 0 0,.map none],108,true⟩,⟨w7.heap.size,0,[.slice A31 ((a0_1++[e0]).length) c31,.map (some w6.heap.size)],108,true⟩,⟨w27.heap.size,0,[.int .i64 ((e0:Int))],3,true⟩] K30 [(2,0),(2,1)] fun w32 K31=>?_
     refine OC H3 K31.H (K31.ix 0) (K31.at 0 rfl) e0 (A25_0,(((Cw ds (Aw ds p1) e0)).1).length,c25_0) (by show _≤_; have:=EK _ (List.mem_of_getElem? he0); omega) (K31.H.rowSpot (K31.ix 4) (K31.at 4 rfl)) (Ck cL) (by kernel_rfl) (t:=106) (x:=.tmp 56) (y:=.tmp 57) (z:=.tmp 58) (by kernel_rfl) rfl (by kernel_rfl) (by kernel_rfl) (by kernel_rfl) (by ((try simp only [maxLen,List.length_map,List.length_append,List.length_cons,List.length_nil,List.length_singleton]) <;> omega)) fun w33 Hn b33=>?_
     have K32:=K31.put 0 (by simp) b33 Hn
     have K33:=K32.take 1 4 XV a0_2 (((e0,((Cw ds (Aw ds p1) e0)).1,A25_0,c25_0) :: a0_2:List Jj)) (e0,((Cw ds (Aw ds p1) e0)).1,A25_0,c25_0) rfl rfl (by decide) (by intro z; simp)
     refine AC (Ai Tj) K33 [] fun w34 K34=>?_
     refine Ax [(2,.pointer (some ⟨w.heap.size,0,none⟩)),(4,.pointer (some ⟨w.heap.size + 1,0,none⟩)),(5,.int .i64 a0_0),(7,.pointer (some ⟨w7.heap.size,0,none⟩)),(8,.slice (some ⟨gB0,0,none⟩) ((Aw ds p1).length) c9_0),(25,.slice (some ⟨gB0,0,none⟩) ((Aw ds p1).length) c9_0),(26,.int .i64 (((Aw ds p1).length:Int))),(27,.int .i64 (IntKind.i64.wrap ((i0:Int) + 1)))] fun E35=>?_
     have K35:Wk w w34 [⟨w.heap.size,0,[.string ⟨⟨p0a⟩⟩,.slice (some ⟨gB1,fB1,none⟩) ds.length p0bc],38,true⟩,⟨w.heap.size + 1,0,[.slice none 0 0,.map none],108,true⟩,⟨w7.heap.size,0,[.slice A31 ((a0_1++[e0]).length) c31,.map (some w6.heap.size)],108,true⟩] [(AZ.th H3 w6.heap.size (((e0,((Cw ds (Aw ds p1) e0)).1,A25_0,c25_0) :: a0_2:List Jj).map IV)),(Fk ((e0,((Cw ds (Aw ds p1) e0)).1,A25_0,c25_0) :: a0_2)),(BE (some ⟨gB0,0,none⟩) c9_0 (Aw ds p1)),(BE A31 c31 (a0_1++[e0]))] []:=K34.pk [0,1,2] [0,1,2,3]
     rw [Bf i0 (by omega)]
     refine hagain0 _ _ ⟨i0 + 1,a0_0,(a0_1++[e0]),((e0,((Cw ds (Aw ds p1) e0)).1,A25_0,c25_0) :: a0_2),A31,c31,E35,hlt0,rfl,by rw [hv0,c21,c28] <;> first | rfl | (simp only [cond_true,cond_false,List.length_map,List.map_append,List.map_cons,List.map_nil,id]; done) | (simp only [cond_true,cond_false,List.length_map,List.map_append,List.map_cons,List.map_nil,id]; rfl),by ((try simp only [maxLen,List.length_map,List.length_append,List.length_cons,List.length_nil,List.length_singleton]) <;> omega),by (first | ((try simp only [maxLen,List.length_append,List.length_cons,List.length_nil,List.length_singleton]) <;> omega) | (refine Nat.le_trans (QL _ _ _) ?_; ((try simp only [maxLen,List.length_append,List.length_cons,List.length_nil,List.length_singleton]) <;> omega))),K35⟩ ?_
     show (Aw ds p1).length - AQ (.int .i64 ((i0 + 1:Nat):Int)) < (Aw ds p1).length - AQ (.int .i64 (i0:Int))
     simp only [AQ]
     omega
  ·have hie0:i0=(Aw ds p1).length:=by have:=of_decide_eq_false c15; omega
   rw [hie0,List.drop_length,LW] at hv0
   refine BF lE K16 [(2,0),(1,0)] fun w36 K36=>?_
   have hS:(BN p0a ds p1)=(a0_1,(a0_2.map Gg),0):=by rw [hv0] <;> rfl
   exact Aa K36 (1,0) (.tuple #[.agg ⟨[.slice a0_1A a0_1.length a0_1c,.map (some w6.heap.size)]⟩,.int .i64 0]) (.inl ⟨a0_1A,a0_1c,w6.heap.size,a0_2,by rw [hS] <;> rfl,by rw [hS],K36.B,by rw [hS],by rw [hS]; exact K36.own0 [3,0,1] rfl (by decide)⟩)
end
end Go.Proofs.YtmcpjkcggfmcmaaGreatDoor
namespace Go.Proofs.YtmcpjkcggfmcmaaGreatDoor
noncomputable section
open Go.RowKit
set_option maxRecDepth 100000
set_option maxHeartbeats 1000000
attribute [local irreducible] BD Bb AF AG AL A4 Ai AO BO CV Di CC Bp At Fr
def GF (i:Nat) (ml:List (Nat×Bool)):Bool:=!((BV ml i).getD false)
noncomputable def Nc:Code:=Tryz.f96.body.getD .skip
def TZ:List Item:=AB (As (O4 149) 90 ([.code Nc])) ([.code Nc])
def cE:List Item:=AB (As D5 90 (AF (TZ))) (AF (TZ))
def lC:List Item:=AB 60 (AF cE)
theorem Re (i:Nat) (b:Nat) (bl:Nat) (ml:List (Nat×Bool)) (w:World) (hlt_b:b < w.heap.size) (hrow_b:w.rangeAt b 0 [.map (some bl)]) (hm_ml:AZ.at Fs bl ml w) (hi:i≤4294967296):Calls Tryz.prog 96 ([.int .i64 ((i:Int)),.pointer (some ⟨b,0,none⟩)]:List Value).toArray w fun e w'=>e=.returned (.bool (GF i ml))∧Below w.heap.size w w':=by
 refine Ab (fn:=Tryz.f96) (c:=Nc) (n:=8) ?_
 have hxg:=hlt_b
 have hr99_:=hrow_b
 have K1:=Wk.start w
 refine BA (O4 149) TZ K1 [] fun w1 K2=>?_
 refine Dm 149 b 0 (.map (some bl)) (some 4) (by simpa using Af hrow_b hlt_b K2.B 0 _ rfl) ?_
 refine BA D5 cE K2 [] fun w2 K3=>?_
 refine F5 (Fb Fs (t:=149) (x:=.tmp 4) (y:=.tmp 5) (by kernel_rfl) rfl (b:=bl) (m:=ml) (by kernel_rfl) i (by kernel_rfl) hi (AZ.below hm_ml K3.B)) ?_
 refine AC lC K3 [] fun w3 K4=>?_
 exact AM K4 (0,0) (.bool (!((BV ml i).getD false))) (by unfold GF; rfl)
end
end Go.Proofs.YtmcpjkcggfmcmaaGreatDoor
namespace Go.Proofs.YtmcpjkcggfmcmaaGreatDoor
noncomputable section
open Go.RowKit
set_option maxRecDepth 100000
set_option maxHeartbeats 1000000
attribute [local irreducible] BD Bb AF AG AL A4 Ai AO BO CV Di CC Bp At Fr
def Cc (F:Nat→Bool):List (Nat)→Nat→Int→Int
 | [],i0,a0_0=>-1
 | e0 :: tl,i0,a0_0=>cond (F e0) ((i0:Int)) (Cc F tl (i0 + 1) a0_0)
theorem Lb {F:Nat→Bool} {i0:Nat} {a0_0:Int}:Cc F [] i0 a0_0=(-1):=by rw [Cc]
theorem Kq {F:Nat→Bool} {a0_0:Int} {es:List (Nat)} (i0:Nat) (e0:Nat) (hi:es[i0]?=some e0):Cc F (es.drop i0) i0 a0_0=(cond (F e0) ((i0:Int)) (Cc F (es.drop (i0 + 1)) (i0 + 1) a0_0)):=by
 have hl:i0 < es.length:=(List.getElem?_eq_some_iff.1 hi).1
 have he:es[i0]=e0:=(List.getElem?_eq_some_iff.1 hi).2
 rw [← List.getElem_cons_drop hl,Cc] <;> (try rw [he])
def CT (F:Nat→Bool) (ds:List (Nat)):Int:=Cc F ds 0 0
noncomputable def SK:Code:=Tryz.f93.body.getD .skip
def Sj:List Item:=AB 60 ([.code SK])
def Oc:List Item:=AB 60 (A4 Sj)
def bL:List Item:=AB (As Ae 90 (AG Oc)) (AG Oc)
def bK:List Item:=AB 60 (AF (AF bL))
def bJ:List Item:=AB 60 (AF bK)
def kP:List Item:=AB 60 (AG bJ)
def kO:List Item:=AB 60 (AL Oc)
theorem KB (F:Nat→Bool) (p0A:Option Addr) (ds:List (Nat)) (p0c:Nat) (g:FuncId) (cap:List Value) (w:World) (h_ds:rowsNat w p0A ds) (hl_ds:ds.length≤4294967296) (hg:DO Tryz.prog g=true) (hF:∀ u,Below w.heap.size w u→∀ (e:Nat),e∈ds→Calls Tryz.prog g (.int .i64 (e:Int) :: cap).toArray u fun en w'=>en=.returned (.bool (F e))∧Below u.heap.size u w'):Calls Tryz.prog 93 ([.slice p0A ds.length p0c,.func (.func g) #[] ⟨cap⟩]:List Value).toArray w fun e w'=>e=.returned (.int .i64 (CT F ds))∧Below w.heap.size w w':=by
 refine Ab (fn:=Tryz.f93) (c:=SK) (n:=19) ?_
 have K1:=Wk.start w
 refine AC Sj K1 [] fun w1 K2=>?_
 have K3:Wk w w1 [] [] []:=K2.pk [] []
 have hv0:(CT F ds)=Cc F ds 0 0:=by unfold CT; rfl
 refine Ax [(0,.slice p0A ds.length p0c),(1,.func (.func g) #[] ⟨cap⟩),(4,.int .i64 0),(7,.int .i64 ((ds.length:Int))),(8,.int .i64 (((0:Nat):Int)))] fun E2=>?_
 refine Bj (by kernel_rfl) (fun E wx0=>∃ (i0:Nat) (a0_0:Int) (E0:Nat→Value),i0≤ds.length∧E=CX E0 [(0,.slice p0A ds.length p0c),(1,.func (.func g) #[] ⟨cap⟩),(4,.int .i64 a0_0),(7,.int .i64 ((ds.length:Int))),(8,.int .i64 ((i0:Int)))]∧(CT F ds)=Cc F (List.drop i0 ds) i0 a0_0∧Wk w wx0 [] [] []) (fun E _=>ds.length - AQ (E 8)) ⟨0,0,E2,Nat.zero_le _,rfl,hv0,K3⟩ ?_
 clear hv0
 rintro E wx0 ⟨i0,a0_0,E0,hi0,rfl,hv0,K4⟩ hagain0
 refine AC Oc K4 [] fun w4 K5=>?_
 refine AK (decide ((i0:Int) < (ds.length:Int))) (fun c5=>?_) (fun c5=>?_)
 ·have hlt0:i0 < ds.length:=by have:=of_decide_eq_true c5; omega
  obtain ⟨e0,he0⟩:∃ e,ds[i0]?=some e:=⟨_,List.getElem?_eq_getElem hlt0⟩
  rw [Kq i0 e0 he0] at hv0
  obtain ⟨gB0,fB0,rfl,hB0g,hB0a⟩:=h_ds.all (by omega)
  have hr0_:=hB0a i0 _ he0
  refine BA Ae bL K5 [] fun w6 K6=>?_
  refine BB (g:=gB0) (off:=fB0) (cap:=p0c) (sz:=1) (k:=i0) (len:=ds.length) (some 14) hlt0 Tryz.underlying56 ?_
  refine Dm 3 gB0 (fB0 + i0 * 1) (.int .i64 ((e0:Int))) (some 15) (by simpa using Af hr0_ hB0g K6.B 0 _ rfl) ?_
  refine AC bK K6 [] fun w7 K7=>?_
  refine KQ g (.int .i64 ((e0:Int)) :: cap) (hg:=hg) (hF w7 K7.B _ (List.mem_of_getElem? he0)) fun en w8 hh=>?_
  obtain ⟨rfl,b8⟩:=hh
  refine ⟨_,rfl,?_⟩
  have K8:=K7.below b8
  refine AC bJ K8 [] fun w9 K9=>?_
  refine AK (F e0) (fun c10=>?_) (fun c10=>?_)
  ·refine AC kP K9 [] fun w11 K10=>?_
   exact AM K10 (0,0) (.int .i64 ((i0:Int))) (by rw [hv0,c10] <;> rfl)
  ·refine AC (Ai Sj) K9 [] fun w12 K11=>?_
   refine Ax [(0,.slice (some ⟨gB0,fB0,none⟩) ds.length p0c),(1,.func (.func g) #[] ⟨cap⟩),(4,.int .i64 a0_0),(7,.int .i64 ((ds.length:Int))),(8,.int .i64 (IntKind.i64.wrap ((i0:Int) + 1)))] fun E13=>?_
   have K12:Wk w w12 [] [] []:=K11.pk [] []
   rw [Bf i0 (by omega)]
   refine hagain0 _ _ ⟨i0 + 1,a0_0,E13,hlt0,rfl,by rw [hv0,c10] <;> rfl,K12⟩ ?_
   show ds.length - AQ (.int .i64 ((i0 + 1:Nat):Int)) < ds.length - AQ (.int .i64 (i0:Int))
   simp only [AQ]
   omega
 ·have hie0:i0=ds.length:=by have:=of_decide_eq_false c5; omega
  rw [hie0,List.drop_length,Lb] at hv0
  refine AC kO K5 [] fun w14 K13=>?_
  exact AM K13 (0,0) (.int .i64 (-1)) (by rw [hv0] <;> rfl)
def Ew (F:Nat→Bool) (ds:List (Nat)):Bool:=decide (0≤CT F ds)
noncomputable def Q3:Code:=Tryz.f95.body.getD .skip
def V0:List Item:=AB 60 ([.code Q3])
def fX:List Item:=AB 60 (AF V0)
theorem Mx (F:Nat→Bool) (p0A:Option Addr) (ds:List (Nat)) (p0c:Nat) (g:FuncId) (cap:List Value) (w:World) (h_ds:rowsNat w p0A ds) (hl_ds:ds.length≤4294967296) (hg:DO Tryz.prog g=true) (hF:∀ u,Below w.heap.size w u→∀ (e:Nat),e∈ds→Calls Tryz.prog g (.int .i64 (e:Int) :: cap).toArray u fun en w'=>en=.returned (.bool (F e))∧Below u.heap.size u w'):Calls Tryz.prog 95 ([.slice p0A ds.length p0c,.func (.func g) #[] ⟨cap⟩]:List Value).toArray w fun e w'=>e=.returned (.bool (Ew F ds))∧Below w.heap.size w w':=by
 refine Ab (fn:=Tryz.f95) (c:=Q3) (n:=9) ?_
 have K1:=Wk.start w
 refine AC V0 K1 [] fun w1 K2=>?_
 refine Ak K2 (args:=[.slice p0A ds.length p0c,.func (.func g) #[] ⟨cap⟩]) (KB F _ ds _ g cap w1 (h_ds.below K2.B) hl_ds hg (fun u2 b2=>hF u2 (K2.B.trans (b2.mono K2.B.size)))) fun w2 K3=>?_
 refine AC fX K3 [] fun w3 K4=>?_
 exact AM K4 (0,0) (.bool (decide (0≤CT F ds))) (by unfold Ew; rfl)
end
end Go.Proofs.YtmcpjkcggfmcmaaGreatDoor
namespace Go.Proofs.YtmcpjkcggfmcmaaGreatDoor
open Go.RowKit
set_option maxRecDepth 100000
set_option maxHeartbeats 600000
def Dl (ml:List (Nat×Bool)) (ns:List (Nat×List Nat)) (i:Nat):Bool:=cond (!((BV ml i).getD false)) (!(Ew (fun j=>GF j ml) ((BV ns i).getD []))) false
noncomputable def Kd:Code:=Tryz.f94.body.getD .skip
noncomputable def cF:List Item:=Ac 1 ([.code Kd])
theorem Rf (i b bl:Nat) (ml:List (Nat×Bool)) (bg:Nat) (nA:Option Addr) (nn nc bn:Nat) (xs:List Jj) (w:World) (hlt_b:b < w.heap.size) (hrow_b:w.rangeAt b 0 [.map (some bl)]) (hm:AZ.at Fs bl ml w) (hlt_g:bg < w.heap.size) (hrow_g:w.rangeAt bg 0 [.slice nA nn nc,.map (some bn)])
  (hn:AZ.at H3 bn (xs.map IV) w) (hf:(Fk xs).P w) (hi:i≤4294967296) (hk:∀ j∈(BV (xs.map Gg) i).getD [],j≤4294967296) (hl:((BV (xs.map Gg) i).getD []).length≤4294967296) :
  Calls Tryz.prog 94 ([.int .i64 (i:Int),.pointer (some ⟨b,0,none⟩),.pointer (some ⟨bg,0,none⟩)]:List Value).toArray w fun e w'=>e=.returned (.bool (Dl ml (xs.map Gg) i))∧Below w.heap.size w w':=by
 refine Ff (args:=[.int .i64 (i:Int),.pointer (some ⟨b,0,none⟩),.pointer (some ⟨bg,0,none⟩)]) (fn:=Tryz.f94) (c:=Kd) (n:=18) ?_
 obtain ⟨A,c,hv,hr⟩:=ez hf i
 generalize hls:(BV (xs.map Gg) i).getD []=l at hv hr hk hl
 refine Bi (Hi 1 90 ([.code Kd])) ([.code Kd]) w.heap.size [] [] cF [(0,.int .i64 (i:Int)),(1,.pointer (some ⟨b,0,none⟩)),(2,.pointer (some ⟨bg,0,none⟩))] w.heap.size [] (Bm w) fun w1 E1 hL1 hK1=>?_
 have B:Below w.heap.size w w1:=CH hK1
 have G:∀ e∈([⟨b,0,[.map (some bl)],149,false⟩,⟨bg,0,[.slice nA nn nc,.map (some bn)],108,false⟩]:List BM),e.good w1:=fun e he=>by
  simp only [List.mem_cons,List.not_mem_nil,or_false] at he
  rcases he with rfl | rfl
  ·exact ⟨Nat.lt_of_lt_of_le hlt_b B.size,Af hrow_b hlt_b B⟩
  ·exact ⟨Nat.lt_of_lt_of_le hlt_g B.size,Af hrow_g hlt_g B⟩
 refine GJ ((Cs cF).getD #[]) ⟨[⟨b,0,[.map (some bl)],149,false⟩,⟨bg,0,[.slice nA nn nc,.map (some bn)],108,false⟩],[(0,0,0),(6,1,1)],[⟨2,[(5,.map (some bl)),(6,.int .i64 (i:Int))],.bool ((BV ml i).getD false),true⟩,⟨8,[(11,.map (some bn)),(12,.int .i64 (i:Int))],.slice A l.length c,(!((BV ml i).getD false)) && true⟩,⟨10,[(13,.slice A l.length c),(14,.func (.func 96) #[] ⟨[.pointer (some ⟨b,0,none⟩)]⟩)],.bool (Ew (fun j=>GF j ml) l),(!((BV ml i).getD false)) && true⟩]⟩
  [(4,.bool (cond (!((BV ml i).getD false)) (!(Ew (fun j=>GF j ml) l)) false))] (by kernel_rfl) (by kernel_rfl) (by kernel_rfl) G (fun sp hsp=>?_) (fun X=>by kernel_rfl) (by kernel_rfl) fun w2 E2 b2=>?_
 ·simp only [List.mem_cons,List.not_mem_nil,or_false] at hsp
  rcases hsp with rfl | rfl | rfl
  ·exact Av fun _ E u bu=>Fb Fs (t:=149) (x:=.tmp 5) (y:=.tmp 6) (by kernel_rfl) rfl (b:=bl) (m:=ml) (by kernel_rfl) i (by kernel_rfl) hi (AZ.below hm (B.trans (bu.mono B.size)))
  ·exact Av fun _ E u bu=>(Fb H3 (t:=106) (x:=.tmp 11) (y:=.tmp 12) (by kernel_rfl) rfl (b:=bn) (m:=xs.map IV) (by kernel_rfl) i (by kernel_rfl) hi (AZ.below hn (B.trans (bu.mono B.size)))).trans (by
    show Result.ok (Next.value (H3.ev ((BV (xs.map IV) i).getD (none,0,0)))) u=_
    rw [hv]
    rfl)
  ·exact AR 95 [.tmp 13,.tmp 14] [.slice A l.length c,.func (.func 96) #[] ⟨[.pointer (some ⟨b,0,none⟩)]⟩] (fun _=>by kernel_rfl) fun hc u hu=>AP hu (Mx (fun j=>GF j ml) A l c 96 [.pointer (some ⟨b,0,none⟩)] u (Dx.below hr (B.trans (hu.mono B.size))) hl (by kernel_rfl) (fun u2 u2b j hj=>by
    have Bu:Below w.heap.size w u2:=(B.trans (hu.mono B.size)).trans (u2b.mono (B.trans (hu.mono B.size)).size)
    exact Re j b bl ml u2 (Nat.lt_of_lt_of_le hlt_b Bu.size) (Af hrow_b hlt_b Bu) (AZ.below hm Bu) (hk j hj)))
 ·replace B:=B.trans (b2.mono B.size)
  exact D6 (fn:=Tryz.f94) 60 (.bool (cond (!((BV ml i).getD false)) (!(Ew (fun j=>GF j ml) l)) false)) fun wz Bz=>⟨by unfold Dl; rw [hls],B.trans (Bz.mono B.size)⟩
end Go.Proofs.YtmcpjkcggfmcmaaGreatDoor

/-
  Part 23 of a proof: contracts of functions.
-/
import Derived.Test.YtmcpjkcggfmcmaaGreatDoorL22
import Derived.Test.YtmcpjkcggfmcmaaGreatDoorL04
import Derived.Sort.OwnSortedInts
import Derived.Lib.RowBridge
set_option linter.all false
namespace Go.Proofs.YtmcpjkcggfmcmaaGreatDoor
noncomputable section
open Go.RowKit
set_option maxRecDepth 100000
set_option maxHeartbeats 1000000
attribute [local irreducible] BD Bb AF AG AL A4 Ai AO BO CV Di CC Bp At Fr
mutual
def KX:Ex→List Ex
 | .mk op a b c d e nm cnt md ks=>cond (cond (op == 3) true (op == 4)) [.mk op a b c d e nm cnt md ks] []++FY ks
def FY:List Ex→List Ex
 | []=>[]
 | e :: es=>KX e++FY es
end
mutual
def nE:Ex→Nat
 | .mk _ _ _ _ _ _ _ _ _ ks=>1 + FA ks
def FA:List Ex→Nat
 | []=>0
 | e :: es=>nE e + FA es
end
mutual
theorem QU:∀ e:Ex,(KX e).length≤nE e
 | .mk op a b c d e nm cnt md ks=>by
  rw [KX,nE,List.length_append]
  have h:=Nv ks
  cases cond (op == 3) true (op == 4) <;> simp only [cond_true,cond_false,List.length_cons,List.length_nil] <;> omega
theorem Nv:∀ es:List Ex,(FY es).length≤FA es
 | []=>Nat.le_refl _
 | e :: es=>by
  rw [FY,FA,List.length_append]
  have h1:=QU e
  have h2:=Nv es
  omega
end
theorem aU (x:Ex):KX x=cond (cond (x.op == 3) true (x.op == 4)) [x] []++FY x.ks:=by
 cases x with
 | mk=>rw [KX]; rfl
theorem Ma (x:Ex):nE x=1 + FA x.ks:=by
 cases x with
 | mk=>rw [nE]; rfl
theorem Mn {x e:Ex} {i:Nat} (h:x.ks[i]?=some e):e.height < x.height:=by
 cases x with
 | mk a1 a2 a3 a4 a5 a6 a7 a8 a9 ks=>
  have:=Gy (show ks[i]?=some e from h)
  rw [Ex.height]
  omega
theorem Ho {α:Type} {l:List α} {i:Nat} {e:α} (h:l[i]?=some e):l.drop i=e :: l.drop (i + 1):=by
 have hl:i < l.length:=(List.getElem?_eq_some_iff.1 h).1
 rw [← List.getElem_cons_drop hl,(List.getElem?_eq_some_iff.1 h).2]
theorem Qw {x:Ex} (h:DT x):x.ks.length≤4294967296:=by
 cases x with
 | mk=>exact h.2.1
def BL (l:List Ex) (x:Ex):List Ex:=l++KX x
theorem JC (l:List Ex) (x:Ex):(BL l x).length≤l.length + nE x:=by
 have:=QU x
 unfold BL
 rw [List.length_append]
 omega
def D8:List (Ex)→List Ex→List Ex
 | [],a1_0=>a1_0
 | e1 :: tl,a1_0=>D8 tl (BL a1_0 e1)
theorem QV {a1_0:List Ex}:D8 [] a1_0=(a1_0):=by rw [D8]
theorem OJ {a1_0:List Ex} {es:List (Ex)} (i:Nat) (e1:Ex) (hi:es[i]?=some e1):D8 (es.drop i) a1_0=(D8 (es.drop (i + 1)) (BL a1_0 e1)):=by
 have hl:i < es.length:=(List.getElem?_eq_some_iff.1 hi).1
 have he:es[i]=e1:=(List.getElem?_eq_some_iff.1 hi).2
 rw [← List.getElem_cons_drop hl,D8] <;> (try rw [he])
def D9:List (Ex)→List Ex→List Ex
 | [],a0_0=>a0_0
 | e0 :: tl,a0_0=>D9 tl (BL a0_0 e0)
theorem QW {a0_0:List Ex}:D9 [] a0_0=(a0_0):=by rw [D9]
theorem OK {a0_0:List Ex} {es:List (Ex)} (i:Nat) (e0:Ex) (hi:es[i]?=some e0):D9 (es.drop i) a0_0=(D9 (es.drop (i + 1)) (BL a0_0 e0)):=by
 have hl:i < es.length:=(List.getElem?_eq_some_iff.1 hi).1
 have he:es[i]=e0:=(List.getElem?_eq_some_iff.1 hi).2
 rw [← List.getElem_cons_drop hl,D9] <;> (try rw [he])
def F8 (l:List Ex) (x:Ex):List Ex:=cond (cond (x.op == 3) (true) (x.op == 4)) (D9 x.ks (l++[x])) (D8 x.ks l)
noncomputable def X5:Code:=Tryz.f127.body.getD .skip
def hY:List Item:=Ac 1 ([.code X5])
def TV:List Item:=AB 60 (AO hY)
def ZU:List Item:=AB (As BK 90 (AG TV)) (AG TV)
def ZT:List Item:=AB 60 (AF ZU)
def TU:List Item:=AB 60 (A4 ZT)
def hU:List Item:=AB (As Ae 90 (AG TU)) (AG TU)
def n5:List Item:=AB 60 (AF (AF hU))
def n4:List Item:=AB 60 (AL TU)
def ZS:List Item:=AB 60 (AL TV)
def TT:List Item:=AB 60 (A4 ZS)
def cD:List Item:=AB (As Ae 90 (AG TT)) (AG TT)
def lB:List Item:=AB 60 (AF (AF cD))
def lA:List Item:=AB 60 (AL TT)
theorem XE (L:List Th) (p0A:Option Addr) (l:List Ex) (p0c:Nat) (x:Ex) (p1A0:Option Addr) (p1c0:Nat) (w we:World) (h_x0:rowsEx w p1A0 x.ks) (hlim:DT x) (hih:∀ (L:List Th) (p0A:Option Addr) (l:List Ex) (p0c:Nat) (x':Ex) (p1A0:Option Addr) (p1c0:Nat) (w we:World),rowsEx w p1A0 x'.ks→x'∈x.ks→l.length + nE x'≤100000000→Below w.heap.size w we→AY w.heap.size we ([ER w p0A p0c l]++L)→Calls Tryz.prog 127 ([.slice p0A l.length p0c,.agg ⟨Bo x' p1A0 p1c0⟩]:List Value).toArray we fun e w'=>∃ (rA0:Option Addr) (rc0:Nat),e=.returned (.slice rA0 (BL l x').length rc0)∧Below w.heap.size w w'∧AY w.heap.size w' ([ER w rA0 rc0 (BL l x')]++L)) (hb:l.length + nE x≤100000000) (B:Below w.heap.size w we) (H:AY w.heap.size we ([(ER w p0A p0c l)]++L)):Calls Tryz.prog 127 ([.slice p0A l.length p0c,.agg ⟨[.int .i64 x.op,.int .i64 x.num,.int .i64 x.den,.int .i64 x.mu,.int .i64 x.hu,.int .i64 x.du,.string ⟨⟨x.nm⟩⟩,.int .i64 x.cnt,.int .i64 x.md,.slice p1A0 x.ks.length p1c0]⟩]:List Value).toArray we fun e w'=>∃ (rA0:Option Addr) (rc0:Nat),e=.returned (.slice rA0 ((F8 l x).length) rc0)∧Below w.heap.size w w'∧AY w.heap.size w' ([ER w rA0 rc0 (F8 l x)]++L):=by
 refine Ab (fn:=Tryz.f127) (c:=X5) (n:=31) ?_
 have K1:Wk w we [] [(ER w p0A p0c l)] L:=⟨B,H⟩
 clear B H
 have hlk:=Qw hlim
 refine Bw 1 hY [⟨we.heap.size,0,(Bo x p1A0 p1c0),32,true⟩] K1 [] fun w1 K2=>?_
 refine Aj K2 [(1,0,0),(5,0,0)] [] K2.G (fun sp hsp=>by cases hsp) fun w2 E2 K3=>?_
 refine AC TV K3 [] fun w3 K4=>?_
 refine AK (cond (x.op == 3) (true) (x.op == 4)) (fun c4=>?_) (fun c4=>?_)
 ·refine CA BK ZU [⟨we.heap.size,0,(Bo x p1A0 p1c0),32,true⟩,⟨w3.heap.size,0,(Bo x p1A0 p1c0),32,true⟩] K4 [(0,0)] fun w5 K5=>?_
  refine CF K5.H (K5.ix 0) (K5.at 0 rfl) x [.int .i64 x.op,.int .i64 x.num,.int .i64 x.den,.int .i64 x.mu,.int .i64 x.hu,.int .i64 x.du,.string ⟨⟨x.nm⟩⟩,.int .i64 x.cnt,.int .i64 x.md,.slice p1A0 x.ks.length p1c0] (Iy h_x0) (w3.heap.size) (K5.ent 1 (by kernel_rfl)) (Ck ZU) (by kernel_rfl) (.tmp 15) (.tmp 17) 30 (by kernel_rfl) (by kernel_rfl) (by kernel_rfl) (by decide) (by kernel_rfl) (by kernel_rfl) rfl rfl (by ((try simp only [maxLen,List.length_append,List.length_cons,List.length_nil,List.length_singleton]) <;> omega)) fun A6 c6 w6 Hn b6=>?_
  have K6:=K5.put 0 (by simp) b6 Hn
  refine AC ZT K6 [(0,9)] fun w7 K7=>?_
  have K8:Wk w w7 [] [(ER w A6 c6 (l++[x]))] L:=K7.pk [] [0]
  have hv0:(F8 l x)=D9 x.ks (l++[x]):=by unfold F8; rw [c4] <;> rfl
  refine Ax [(0,.slice A6 ((l++[x]).length) c6),(4,.slice none 0 0),(20,.slice p1A0 x.ks.length p1c0),(21,.int .i64 ((x.ks.length:Int))),(22,.int .i64 (((0:Nat):Int)))] fun E8=>?_
  refine Bj (by kernel_rfl) (fun E wx0=>∃ (i0:Nat) (a0_0:List Ex) (a0_0A:Option Addr) (a0_0c:Nat) (E0:Nat→Value),i0≤x.ks.length∧E=CX E0 [(0,.slice a0_0A a0_0.length a0_0c),(4,.slice none 0 0),(20,.slice p1A0 x.ks.length p1c0),(21,.int .i64 ((x.ks.length:Int))),(22,.int .i64 ((i0:Int)))]∧(F8 l x)=D9 (List.drop i0 x.ks) a0_0∧a0_0.length + FA (List.drop i0 x.ks)≤100000000∧Wk w wx0 [] [(ER w a0_0A a0_0c a0_0)] L) (fun E _=>x.ks.length - AQ (E 22)) ⟨0,(l++[x]),A6,c6,E8,Nat.zero_le _,rfl,hv0,by (rw [Ma] at hb; simp only [List.drop_zero,List.length_append,List.length_singleton]; omega),K8⟩ ?_
  clear hv0
  rintro E wx0 ⟨i0,a0_0,a0_0A,a0_0c,E0,hi0,rfl,hv0,hI0,K9⟩ hagain0
  refine AC TU K9 [] fun w10 K10=>?_
  refine AK (decide ((i0:Int) < (x.ks.length:Int))) (fun c11=>?_) (fun c11=>?_)
  ·have hlt0:i0 < x.ks.length:=by have:=of_decide_eq_true c11; omega
   obtain ⟨e0,he0⟩:∃ e,x.ks[i0]?=some e:=⟨_,List.getElem?_eq_getElem hlt0⟩
   rw [OK i0 e0 he0] at hv0
   obtain ⟨gB0,fB0,rfl,hB0g,hB0a⟩:=h_x0.all0 (by omega)
   obtain ⟨aE0_0,cE0_0,hr0_,hE0_0⟩:=hB0a i0 _ he0
   refine BA Ae hU K10 [] fun w12 K11=>?_
   refine BB (g:=gB0) (off:=fB0) (cap:=p1c0) (sz:=10) (k:=i0) (len:=x.ks.length) (some 24) hlt0 Tryz.underlying30 ?_
   refine Bc 32 gB0 (fB0 + i0 * 10) [.int .i64 e0.op,.int .i64 e0.num,.int .i64 e0.den,.int .i64 e0.mu,.int .i64 e0.hu,.int .i64 e0.du,.string ⟨⟨e0.nm⟩⟩,.int .i64 e0.cnt,.int .i64 e0.md,.slice aE0_0 e0.ks.length cE0_0] (some 25) (Af hr0_ hB0g K11.B) ?_
   refine Bv n5 [⟨w12.heap.size,0,(Bo e0 aE0_0 cE0_0),32,true⟩] K11 [(0,0),(0,0)] fun w13 K12=>?_
   have Kf:=(K12.pickL (L':=[(ER w a0_0A a0_0c a0_0)]++[]) [0] rfl (by decide)).front
   refine BX (args:=[.slice a0_0A a0_0.length a0_0c,.agg ⟨[.int .i64 e0.op,.int .i64 e0.num,.int .i64 e0.den,.int .i64 e0.mu,.int .i64 e0.hu,.int .i64 e0.du,.string ⟨⟨e0.nm⟩⟩,.int .i64 e0.cnt,.int .i64 e0.md,.slice aE0_0 e0.ks.length cE0_0]⟩]) (hih _ a0_0A a0_0 a0_0c e0 aE0_0 cE0_0 w w13 hE0_0 (List.mem_of_getElem? he0) (by rw [Ho he0] at hI0; simp only [FA] at hI0; omega) K12.B Kf) fun en w15 hh=>?_
   obtain ⟨A14_0,c14_0,rfl,b15,Hn⟩:=hh
   refine ⟨_,rfl,?_⟩
   have K13:=Wk.unfront b15 Hn
   refine AC (Ai ZT) K13 [] fun w16 K14=>?_
   refine Ax [(0,.slice A14_0 ((BL a0_0 e0).length) c14_0),(4,.slice none 0 0),(20,.slice (some ⟨gB0,fB0,none⟩) x.ks.length p1c0),(21,.int .i64 ((x.ks.length:Int))),(22,.int .i64 (IntKind.i64.wrap ((i0:Int) + 1)))] fun E17=>?_
   have K15:Wk w w16 [] [(ER w A14_0 c14_0 (BL a0_0 e0))] L:=K14.pk [] [0]
   rw [Bf i0 (by omega)]
   refine hagain0 _ _ ⟨i0 + 1,(BL a0_0 e0),A14_0,c14_0,E17,hlt0,rfl,by rw [hv0] <;> rfl,by (rw [Ho he0] at hI0; simp only [FA] at hI0; have:=JC a0_0 e0; omega),K15⟩ ?_
   show x.ks.length - AQ (.int .i64 ((i0 + 1:Nat):Int)) < x.ks.length - AQ (.int .i64 (i0:Int))
   simp only [AQ]
   omega
  ·have hie0:i0=x.ks.length:=by have:=of_decide_eq_false c11; omega
   rw [hie0,List.drop_length,QW] at hv0
   refine AC n4 K10 [] fun w18 K16=>?_
   have hS:(F8 l x)=a0_0:=by rw [hv0] <;> rfl
   exact Aa K16 (0,0) (.slice a0_0A a0_0.length a0_0c) ⟨a0_0A,a0_0c,by rw [hS] <;> rfl,K16.B,by rw [hS]; exact K16.own [0] rfl (by decide)⟩
 ·refine AC ZS K4 [(0,9)] fun w19 K17=>?_
  have K18:Wk w w19 [] [(ER w p0A p0c l)] L:=K17.pk [] [0]
  have hv1:(F8 l x)=D8 x.ks l:=by unfold F8; rw [c4] <;> rfl
  refine Ax [(0,.slice p0A l.length p0c),(4,.slice none 0 0),(20,.slice p1A0 x.ks.length p1c0),(21,.int .i64 ((x.ks.length:Int))),(22,.int .i64 (((0:Nat):Int)))] fun E20=>?_
  refine Bj (by kernel_rfl) (fun E wx1=>∃ (i1:Nat) (a1_0:List Ex) (a1_0A:Option Addr) (a1_0c:Nat) (E0:Nat→Value),i1≤x.ks.length∧E=CX E0 [(0,.slice a1_0A a1_0.length a1_0c),(4,.slice none 0 0),(20,.slice p1A0 x.ks.length p1c0),(21,.int .i64 ((x.ks.length:Int))),(22,.int .i64 ((i1:Int)))]∧(F8 l x)=D8 (List.drop i1 x.ks) a1_0∧a1_0.length + FA (List.drop i1 x.ks)≤100000000∧Wk w wx1 [] [(ER w a1_0A a1_0c a1_0)] L) (fun E _=>x.ks.length - AQ (E 22)) ⟨0,l,p0A,p0c,E20,Nat.zero_le _,rfl,hv1,by (rw [Ma] at hb; simp only [List.drop_zero,List.length_append,List.length_singleton]; omega),K18⟩ ?_
  clear hv1
  rintro E wx1 ⟨i1,a1_0,a1_0A,a1_0c,E0,hi1,rfl,hv1,hI1,K19⟩ hagain1
  refine AC TT K19 [] fun w22 K20=>?_
  refine AK (decide ((i1:Int) < (x.ks.length:Int))) (fun c23=>?_) (fun c23=>?_)
  ·have hlt1:i1 < x.ks.length:=by have:=of_decide_eq_true c23; omega
   obtain ⟨e1,he1⟩:∃ e,x.ks[i1]?=some e:=⟨_,List.getElem?_eq_getElem hlt1⟩
   rw [OJ i1 e1 he1] at hv1
   obtain ⟨gB0,fB0,rfl,hB0g,hB0a⟩:=h_x0.all0 (by omega)
   obtain ⟨aE0_0,cE0_0,hr0_,hE0_0⟩:=hB0a i1 _ he1
   refine BA Ae cD K20 [] fun w24 K21=>?_
   refine BB (g:=gB0) (off:=fB0) (cap:=p1c0) (sz:=10) (k:=i1) (len:=x.ks.length) (some 24) hlt1 Tryz.underlying30 ?_
   refine Bc 32 gB0 (fB0 + i1 * 10) [.int .i64 e1.op,.int .i64 e1.num,.int .i64 e1.den,.int .i64 e1.mu,.int .i64 e1.hu,.int .i64 e1.du,.string ⟨⟨e1.nm⟩⟩,.int .i64 e1.cnt,.int .i64 e1.md,.slice aE0_0 e1.ks.length cE0_0] (some 25) (Af hr0_ hB0g K21.B) ?_
   refine Bv lB [⟨w24.heap.size,0,(Bo e1 aE0_0 cE0_0),32,true⟩] K21 [(0,0),(0,0)] fun w25 K22=>?_
   have Kf:=(K22.pickL (L':=[(ER w a1_0A a1_0c a1_0)]++[]) [0] rfl (by decide)).front
   refine BX (args:=[.slice a1_0A a1_0.length a1_0c,.agg ⟨[.int .i64 e1.op,.int .i64 e1.num,.int .i64 e1.den,.int .i64 e1.mu,.int .i64 e1.hu,.int .i64 e1.du,.string ⟨⟨e1.nm⟩⟩,.int .i64 e1.cnt,.int .i64 e1.md,.slice aE0_0 e1.ks.length cE0_0]⟩]) (hih _ a1_0A a1_0 a1_0c e1 aE0_0 cE0_0 w w25 hE0_0 (List.mem_of_getElem? he1) (by rw [Ho he1] at hI1; simp only [FA] at hI1; omega) K22.B Kf) fun en w27 hh=>?_
   obtain ⟨A26_0,c26_0,rfl,b27,Hn⟩:=hh
   refine ⟨_,rfl,?_⟩
   have K23:=Wk.unfront b27 Hn
   refine AC (Ai ZS) K23 [] fun w28 K24=>?_
   refine Ax [(0,.slice A26_0 ((BL a1_0 e1).length) c26_0),(4,.slice none 0 0),(20,.slice (some ⟨gB0,fB0,none⟩) x.ks.length p1c0),(21,.int .i64 ((x.ks.length:Int))),(22,.int .i64 (IntKind.i64.wrap ((i1:Int) + 1)))] fun E29=>?_
   have K25:Wk w w28 [] [(ER w A26_0 c26_0 (BL a1_0 e1))] L:=K24.pk [] [0]
   rw [Bf i1 (by omega)]
   refine hagain1 _ _ ⟨i1 + 1,(BL a1_0 e1),A26_0,c26_0,E29,hlt1,rfl,by rw [hv1] <;> rfl,by (rw [Ho he1] at hI1; simp only [FA] at hI1; have:=JC a1_0 e1; omega),K25⟩ ?_
   show x.ks.length - AQ (.int .i64 ((i1 + 1:Nat):Int)) < x.ks.length - AQ (.int .i64 (i1:Int))
   simp only [AQ]
   omega
  ·have hie1:i1=x.ks.length:=by have:=of_decide_eq_false c23; omega
   rw [hie1,List.drop_length,QV] at hv1
   refine AC lA K20 [] fun w30 K26=>?_
   have hS:(F8 l x)=a1_0:=by rw [hv1] <;> rfl
   exact Aa K26 (0,0) (.slice a1_0A a1_0.length a1_0c) ⟨a1_0A,a1_0c,by rw [hS] <;> rfl,K26.B,by rw [hS]; exact K26.own [0] rfl (by decide)⟩
def bG (n:Nat):Prop:=∀ (L:List Th) (p0A:Option Addr) (l:List Ex) (p0c:Nat) (x:Ex) (p1A0:Option Addr) (p1c0:Nat) (w we:World),rowsEx w p1A0 x.ks→x.height≤n→DT x→l.length + nE x≤100000000→Below w.heap.size w we→AY w.heap.size we ([ER w p0A p0c l]++L)→Calls Tryz.prog 127 ([.slice p0A l.length p0c,.agg ⟨Bo x p1A0 p1c0⟩]:List Value).toArray we fun e w'=>∃ (rA0:Option Addr) (rc0:Nat),e=.returned (.slice rA0 (BL l x).length rc0)∧Below w.heap.size w w'∧AY w.heap.size w' ([ER w rA0 rc0 (BL l x)]++L)
theorem Nu {x:Ex}:∀ (ks:List Ex) (a:List Ex),D9 ks a=a++FY ks
 | [],a=>by rw [D9,FY,List.append_nil]
 | e :: es,a=>by rw [D9,FY,Nu (x:=x) es,BL,List.append_assoc]
theorem MU {x:Ex}:∀ (ks:List Ex) (a:List Ex),D8 ks a=a++FY ks
 | [],a=>by rw [D8,FY,List.append_nil]
 | e :: es,a=>by rw [D8,FY,MU (x:=x) es,BL,List.append_assoc]
theorem aV (l:List Ex) (x:Ex):F8 l x=BL l x:=by
 unfold F8
 rw [Nu (x:=x),MU (x:=x),BL,aU]
 cases cond (x.op == 3) true (x.op == 4) <;> simp
theorem QT:∀ (n:Nat),bG n
 | 0=>fun L p0A l p0c x p1A0 p1c0 w we h_x0 hht=>by
  cases x with
  | mk=>rw [Ex.height] at hht; omega
 | n + 1=>fun L p0A l p0c x p1A0 p1c0 w we h_x0 hht hlim hb B H=>by
  have:=XE L p0A l p0c x p1A0 p1c0 w we h_x0 hlim (fun L p0A l p0c x' p1A0 p1c0 w we h_x0 hm hb B H=>QT n L p0A l p0c x' p1A0 p1c0 w we h_x0 ?_ ?_ hb B H) hb B H
  ·rwa [aV] at this
  ·obtain ⟨i,hi⟩:=List.mem_iff_getElem?.1 hm
   have:=Mn hi
   omega
  ·obtain ⟨i,hi⟩:=List.mem_iff_getElem?.1 hm
   cases x with
   | mk=>exact Hg hlim.2.2 hi
end
end Go.Proofs.YtmcpjkcggfmcmaaGreatDoor
namespace Go.Proofs.YtmcpjkcggfmcmaaGreatDoor
end Go.Proofs.YtmcpjkcggfmcmaaGreatDoor
namespace Go.Proofs.YtmcpjkcggfmcmaaGreatDoor
noncomputable section
open Go.RowKit
set_option maxRecDepth 100000
set_option maxHeartbeats 1000000
attribute [local irreducible] BD Bb AF AG AL A4 Ai AO BO CV Di CC Bp At Fr
theorem Vn {f:FuncId} {args:Array Value} {w:World} {v:Value} (h:Calls Tryz.prog f args w fun e w'=>e=.returned v∧w'=w):Calls Tryz.prog f args w fun e w'=>e=.returned v∧Below w.heap.size w w':=
 h.mono fun _ _ hq=>⟨hq.1,M7 hq.2.symm⟩
def RN:Int:=0
noncomputable def RE:Code:=Tryz.f159.body.getD .skip
def aS:List Item:=(CE (fun _=>false) 400 [false] ([.code RE])).2
def pE:List Item:=(CE (fun _=>false) 400 [] (AF aS)).2
theorem RM (w:World):Calls Tryz.prog 159 ([.int .u64 0]:List Value).toArray w fun e w'=>e=.returned (.int .i64 (RN))∧Below w.heap.size w w':=by
 refine Ab (fn:=Tryz.f159) (c:=RE) (n:=8) ?_
 have K1:=Wk.start w
 refine Bh (CE (fun _=>false) 400 [false] ([.code RE])).1 [] aS K1 fun w1 K2=>?_
 refine Ak K2 (Vn (Tryz.bits_Len64 0 w1 (by decide) (by decide))) fun w2 K3=>?_
 refine Bh (CE (fun _=>false) 400 [] (AF aS)).1 [] pE K3 fun w3 K4=>?_
 exact AM K4 (0,0) (.int .i64 0) (by unfold RN; rfl)
def XR:Unit:=()
noncomputable def Q9:Code:=Tryz.f176.body.getD .skip
def oS:List Item:=(CE (fun _=>false) 400 [false] ([.code Q9])).2
theorem VX (w:World):Calls Tryz.prog 176 ([.slice none 0 0,.int .i64 0,.int .i64 0]:List Value).toArray w fun e w'=>e=.returned (.tuple #[])∧Below w.heap.size w w':=by
 refine Ab (fn:=Tryz.f176) (c:=Q9) (n:=49) ?_
 have K1:=Wk.start w
 refine Bh (CE (fun _=>false) 400 [false] ([.code Q9])).1 [] oS K1 fun w1 K2=>?_
 have hS:(XR)=():=by unfold XR; rfl
 exact Aa K2 (0,0) (.tuple #[]) ⟨rfl,K2.B⟩
def XJ:Unit:=()
noncomputable def Q6:Code:=Tryz.f158.body.getD .skip
def ZV:List Item:=(CE (fun _=>false) 400 [true] ([.code Q6])).2
def n6:List Item:=(CE (fun _=>false) 400 [] (AF ZV)).2
theorem VQ (w:World):Calls Tryz.prog 158 ([.slice none 0 0,.int .i64 0,.int .i64 0,.int .i64 0]:List Value).toArray w fun e w'=>e=.returned (.tuple #[])∧Below w.heap.size w w':=by
 refine Ab (fn:=Tryz.f158) (c:=Q6) (n:=134) ?_
 have K1:=Wk.start w
 refine Bh (CE (fun _=>false) 400 [true] ([.code Q6])).1 [] ZV K1 fun w1 K2=>?_
 refine Ak K2 (VX w1) fun w2 K3=>?_
 refine Bh (CE (fun _=>false) 400 [] (AF ZV)).1 [] n6 K3 fun w3 K4=>?_
 have hS:(XJ)=():=by unfold XJ; rfl
 exact Aa K4 (0,0) (.tuple #[]) ⟨rfl,K4.B⟩
def R2:Unit:=()
noncomputable def Q4:Code:=Tryz.f129.body.getD .skip
def ZQ:List Item:=(CE (fun _=>false) 400 [] ([.code Q4])).2
def ZP:List Item:=(CE (fun _=>false) 400 [] (AF ZQ)).2
def nz:List Item:=(CE (fun _=>false) 400 [] (AF ZP)).2
theorem Ra (w:World):Calls Tryz.prog 129 ([.slice none 0 0]:List Value).toArray w fun e w'=>e=.returned (.tuple #[])∧Below w.heap.size w w':=by
 refine Ab (fn:=Tryz.f129) (c:=Q4) (n:=11) ?_
 have K1:=Wk.start w
 refine Bh (CE (fun _=>false) 400 [] ([.code Q4])).1 [] ZQ K1 fun w1 K2=>?_
 refine Ak K2 (RM w1) fun w2 K3=>?_
 refine Bh (CE (fun _=>false) 400 [] (AF ZQ)).1 [] ZP K3 fun w3 K4=>?_
 refine Ak K4 (VQ w3) fun w4 K5=>?_
 refine Bh (CE (fun _=>false) 400 [] (AF ZP)).1 [] nz K5 fun w5 K6=>?_
 have hS:(R2)=():=by unfold R2; rfl
 exact Aa K6 (0,0) (.tuple #[]) ⟨rfl,K6.B⟩
set_option maxHeartbeats 400000
def Cq (l:List Nat):List Int:=l.map Int.ofNat
def Eo (l:List Nat):List Nat:=((Cq l).mergeSort fun x y=>decide (x≤y)).map Int.toNat
def Du (l:List Nat):List Nat:=(Lib.compact (Cq l)).map Int.toNat
theorem N2 {zs:List Int} (h:∀ z∈zs,0≤z):Cq (zs.map Int.toNat)=zs:=by
 unfold Cq
 rw [List.map_map]
 refine (List.map_congr_left fun z hz=>?_).trans (List.map_id _)
 have:=h z hz
 simp only [Function.comp_apply,id_eq]
 exact Int.toNat_of_nonneg this
theorem KA {l:List Nat}:∀ z∈Cq l,0≤z:=fun z hz=>by
 obtain ⟨n,_,rfl⟩:=List.mem_map.1 hz
 exact Int.natCast_nonneg n
theorem W8:Eo []=[]:=by unfold Eo Cq; simp
theorem IM (l:List Nat):(Eo l).length=l.length:=by
 unfold Eo Cq
 rw [List.length_map,List.length_mergeSort,List.length_map]
theorem VJ (l:List Nat):Cq (Eo l)=(Cq l).mergeSort fun x y=>decide (x≤y):=N2 fun z hz=>KA z (List.mem_mergeSort.1 hz)
theorem W9 {l:List Nat} {n:Nat}:n∈Eo l↔n∈l:=by
 unfold Eo Cq
 constructor
 ·intro h
  obtain ⟨z,hz,rfl⟩:=List.mem_map.1 h
  obtain ⟨m,hm,rfl⟩:=List.mem_map.1 (List.mem_mergeSort.1 hz)
  exact hm
 ·intro h
  exact List.mem_map.2 ⟨Int.ofNat n,List.mem_mergeSort.2 (List.mem_map.2 ⟨n,h,rfl⟩),rfl⟩
theorem LJ {zs:List Int} {z:Int} (h:z∈Lib.compact zs):z∈zs:=by
 unfold Lib.compact Lib.compactUpTo at h
 obtain ⟨i,hi,rfl⟩:=List.mem_map.1 h
 have hl:i < zs.length:=List.mem_range.1 (List.mem_filter.1 hi).1
 rw [getElem!_pos _ i (by simpa using hl)]
 simp
theorem OV (l:List Nat):Cq (Du l)=Lib.compact (Cq l):=N2 fun z hz=>KA z (LJ hz)
theorem Q0 {l:List Nat} {n:Nat} (h:n∈Du l):n∈l:=by
 obtain ⟨z,hz,rfl⟩:=List.mem_map.1 h
 obtain ⟨m,hm,rfl⟩:=List.mem_map.1 (LJ hz)
 exact hm
theorem KJ (l:List Nat):(Du l).length≤l.length:=by
 unfold Du
 rw [List.length_map]
 exact Nat.le_trans (Lib.compact_length_le _) (by unfold Cq; rw [List.length_map]; exact Nat.le_refl _)
theorem Ia (l:List Nat):(l.map Eb).flatten=(Cq l).map (Value.int .i64):=by
 induction l with
 | nil=>rfl
 | cons n l ih=>rw [List.map_cons,List.flatten_cons,ih]; rfl
section
variable {b:Nat} {w we:World} {L:List Th} {g c:Nat} {l:List Nat}
theorem Hy (H:AY b we ([BE (some ⟨g,0,none⟩) c l]++L)):∃ cur,we.heap[g]?=some (.cells cur 3 (0,0))∧l.length≤c∧c≤maxLen∧cur.size=c * 1∧cur.toList.take l.length=(Cq l).map (Value.int .i64):=by
 obtain ⟨rs,hr,ho⟩:(BE (some ⟨g,0,none⟩) c l).P we:=H.all 0 _ rfl
 rcases ho.2 with ⟨h1,_⟩ | ⟨g',cap,cur,h1,_,hg,hc,hm,hs,ht⟩
 ·cases h1
 ·cases h1
  rw [JB hr,Ia,Nat.mul_one] at ht
  exact ⟨cur,hg,hc,hm,hs,ht⟩
theorem MZ (H:AY b we ([BE (some ⟨g,0,none⟩) c l]++L)) {n:Nat} {os:Array Obj} {ts:List Int} (hl:ts.length=l.length) (l':List Nat) (hp:ts.take l'.length=Cq l') (hle:l'.length≤l.length) :
  Below b we (Go.Sort.grow (Go.Sort.putRow (Value.int .i64) (Go.Sort.ahead we n) g 0 ts.toArray) os)∧AY b (Go.Sort.grow (Go.Sort.putRow (Value.int .i64) (Go.Sort.ahead we n) g 0 ts.toArray) os) ([BE (some ⟨g,0,none⟩) c l']++L):=by
 obtain ⟨cur,hb,h1,h2,h3,h4⟩:=Hy H
 have hg:=grownBy_sortedI (w:=we) (g:=g) (n:=n) (os:=os) ts.toArray
 have hlo:=H.lo 0 _ rfl g rfl
 refine ⟨⟨hg.os,hg.tape,hg.output,hg.size,fun k hk=>hg.block k (Nat.lt_of_lt_of_le hk H.base) fun he=>by have:=Option.some.inj he; omega⟩,?_⟩
 refine H.set 0 (s:=BE (some ⟨g,0,none⟩) c l) rfl hg.size ⟨l'.map Eb,?_,?_,?_⟩ (fun k hk=>⟨?_,.inl hk⟩) (fun k hk hf=>hg.block k hk fun he=>hf (by obtain rfl:=Option.some.inj he; rfl))
 ·have:∀ q:List Nat,DG (fun e r=>r=Eb e) q (q.map Eb):=fun q=>by
   induction q with
   | nil=>trivial
   | cons a q ih=>exact ⟨rfl,ih⟩
  exact this l'
 ·rw [Ia]; unfold Cq; simp
 ·refine .inr ⟨g,c,_,rfl,Nat.zero_le _,heap_sortedI _ hb,Nat.le_trans hle h1,h2,by simp [Go.Sort.putCells,h3],?_⟩
  rw [Nat.mul_one,Ia,← hp,List.map_take,← take_putCellsI cur ts (by omega),List.take_take,Nat.min_eq_left (by omega)]
 ·obtain rfl:g=k:=by have:=Option.some.inj hk; injection this
  exact Nat.lt_of_lt_of_le hlo.2 hg.size
theorem aT (L:List Th) (p0A:Option Addr) (l:List Nat) (p0c:Nat) (w we:World) (hlen:l.length≤4294967296) (B:Below w.heap.size w we) (H:AY w.heap.size we ([BE p0A p0c l]++L)):Calls Tryz.prog 129 ([.slice p0A l.length p0c]:List Value).toArray we fun e w'=>e=.returned (.tuple #[])∧Below w.heap.size w w'∧AY w.heap.size w' ([BE p0A p0c (Eo l)]++L):=by
 obtain ⟨rs,hr,ho⟩:(BE p0A p0c l).P we:=H.all 0 _ rfl
 rcases ho.2 with ⟨h1,h0⟩ | ⟨g,cap,cur,h1,_⟩
 ·obtain rfl:l=[]:=List.eq_nil_of_length_eq_zero h0
  obtain ⟨rfl,rfl⟩:p0A=none∧p0c=0:=by injection h1 with e1 e2 e3; exact ⟨e1,e3⟩
  refine (Ra we).mono fun e w' hh=>?_
  obtain ⟨rfl,b⟩:=hh
  exact ⟨rfl,B.trans (b.mono B.size),by rw [W8]; exact H.below b⟩
 ·obtain ⟨rfl,rfl⟩:p0A=some ⟨g,0,none⟩∧p0c=cap:=by injection h1 with e1 e2 e3; exact ⟨e1,e3⟩
  obtain ⟨cur,hb,h1,h2,h3,h4⟩:=Hy H
  have hH:=holds_of_blockI (ss:=Cq l) hb (by unfold Cq at *; rw [List.length_map]; exact h4)
  have:=Tryz.slices_Sort_int g 0 p0c (Cq l) we hH (Cy hb) (by unfold Cq; rw [List.length_map]; omega)
  rw [show (Cq l).length=l.length by unfold Cq; rw [List.length_map]] at this
  refine this.mono fun e w' hh=>?_
  obtain ⟨rfl,n,os,rfl⟩:=hh
  have hq:=MZ H (n:=n) (os:=os) (ts:=(Cq l).mergeSort fun x y=>decide (x≤y)) (by unfold Cq; rw [List.length_mergeSort,List.length_map]) (Eo l) (by rw [← VJ]; exact List.take_of_length_le (by unfold Cq; rw [List.length_map]; exact Nat.le_refl _)) (by rw [IM]; exact Nat.le_refl _)
  exact ⟨rfl,B.trans hq.1,hq.2⟩
theorem Rt (L:List Th) (p0A:Option Addr) (l:List Nat) (p0c:Nat) (w we:World) {m:Nat} (hlen:l.length≤4294967296) (hm:l.length=m) (B:Below w.heap.size w we) (H:AY w.heap.size we ([BE p0A p0c l]++L)):Calls Tryz.prog 130 ([.slice p0A m p0c]:List Value).toArray we fun e w'=>∃ (rA0:Option Addr) (rc0:Nat),e=.returned (.slice rA0 (Du l).length rc0)∧Below w.heap.size w w'∧AY w.heap.size w' ([BE rA0 rc0 (Du l)]++L):=by
 subst hm
 obtain ⟨rs,hr,ho⟩:(BE p0A p0c l).P we:=H.all 0 _ rfl
 rcases ho.2 with ⟨h1,h0⟩ | ⟨g,cap,cur,h1,_⟩
 ·obtain rfl:l=[]:=List.eq_nil_of_length_eq_zero h0
  obtain ⟨rfl,rfl⟩:p0A=none∧p0c=0:=by injection h1 with e1 e2 e3; exact ⟨e1,e3⟩
  refine (Tryz.slices_Compact_int_empty none 0 we).mono fun e w' hh=>?_
  obtain ⟨rfl,rfl⟩:=hh
  exact ⟨none,0,rfl,B,H⟩
 ·obtain ⟨rfl,rfl⟩:p0A=some ⟨g,0,none⟩∧p0c=cap:=by injection h1 with e1 e2 e3; exact ⟨e1,e3⟩
  obtain ⟨cur,hb,h1,h2,h3,h4⟩:=Hy H
  have hil:(Cq l).length=l.length:=by unfold Cq; rw [List.length_map]
  have hH:=holds_of_blockI (ss:=Cq l) hb (by rw [hil]; exact h4)
  have:=Tryz.slices_Compact_int g 0 p0c (Cq l) we hH (by omega) (by omega)
  rw [hil] at this
  refine this.mono fun e w' hh=>?_
  obtain ⟨rfl,q,rfl⟩:=hh
  have hcl:=Lib.compact_length_le (Cq l)
  have hcn:(Du l).length=(Lib.compact (Cq l)).length:=by unfold Du; rw [List.length_map]
  have hq:=MZ H (n:=q) (os:=#[]) (ts:=Lib.compact (Cq l)++List.replicate (l.length - (Lib.compact (Cq l)).length) 0) (by rw [List.length_append,List.length_replicate]; omega) (Du l) (by rw [OV,hcn,List.take_left]) (KJ l)
  rw [Go.Sort.grow_empty] at hq
  exact ⟨some ⟨g,0,none⟩,p0c,by rw [hcn],B.trans hq.1,hq.2⟩
end
end
end Go.Proofs.YtmcpjkcggfmcmaaGreatDoor

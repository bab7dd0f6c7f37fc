/-
  Part 24 of a proof: contracts of functions.
-/
import Derived.Test.YtmcpjkcggfmcmaaGreatDoorL23
set_option linter.all false
namespace Go.Proofs.YtmcpjkcggfmcmaaGreatDoor
noncomputable section
open Go.RowKit
set_option maxRecDepth 100000
set_option maxHeartbeats 1000000
attribute [local irreducible] BD Bb AF AG AL A4 Ai AO BO CV Di CC Bp At Fr
theorem Ds {α:Type} [Inhabited α] {l:List α} {i:Nat} (h:i < l.length):l.getD i default∈l:=List.mem_of_getElem? (getD_some default h)
theorem MV (x:Ex):(BL [] x).length≤nE x:=by simpa using JC [] x
theorem Jd {ds:List Df} {x:Ex} {P:Nat→Prop}:∀ (act:List Nat) (a:Int) (b:Bool),(∀ i∈act,P i)→(!(Cz ds x act a b).2)=false→P (Cz ds x act a b).1
 | [],a,b,_,h=>by rw [Cz] at h; cases h
 | e :: es,a,b,hp,h=>by
  rw [Cz] at h ⊢
  revert h
  cases (cond (cond (cond (x.op == 3) (BU (ds.getD e default)) (false)) (true) (cond (x.op == 4) ((ds.getD e default).kind == 2) (false))) (decide ((ds.getD e default).name=x.nm)) (false)) <;> intro h
  ·exact Jd es a b (fun i hi=>hp i (by simp [hi])) h
  ·exact hp e (by simp)
theorem Jc {ds:List Df} {x:Ex} {P:Nat→Prop}:∀ (act:List Nat) (a:Int) (b:Bool),(∀ i∈act,P i)→(!(C9 ds x act a b).2)=false→P (C9 ds x act a b).1
 | [],a,b,_,h=>by rw [C9] at h; cases h
 | e :: es,a,b,hp,h=>by
  rw [C9] at h ⊢
  revert h
  cases (cond (cond (cond (x.op == 3) (BU (ds.getD e default)) (false)) (true) (cond (x.op == 4) ((ds.getD e default).kind == 2) (false))) (decide ((ds.getD e default).name=x.nm)) (false)) <;> intro h
  ·exact Jc es a b (fun i hi=>hp i (by simp [hi])) h
  ·exact hp e (by simp)
theorem Je {ds:List Df} {x:Ex} {act:List Nat} (hin:∀ i∈act,i < ds.length):∀ (es:List Df) (i:Nat) (a:Int) (b:Bool),i + es.length=ds.length→(!(DA ds act x es i a b).2)=false→(DA ds act x es i a b).1 < ds.length
 | [],i,a,b,_,h=>by rw [DA] at h ⊢; exact Jd (P:=fun i=>i < ds.length) act a b hin h
 | e :: es,i,a,b,hl,h=>by
  rw [List.length_cons] at hl
  rw [DA] at h ⊢
  revert h
  cases (cond (e.kind == 1) (decide (e.name=x.nm)) (false)) <;> intro h
  ·exact Je hin es (i + 1) a b (by omega) h
  ·show i < ds.length
   omega
theorem JP {ds:List Df} {x:Ex} {act:List Nat} (hin:∀ i∈act,i < ds.length) (h:(!(Ao ds act x).2)=false):(Ao ds act x).1 < ds.length:=by
 unfold Ao at h ⊢
 revert h
 cases x.op == 3 <;> intro h
 ·exact Jc (P:=fun i=>i < ds.length) act 0 false hin h
 ·exact Je hin ds 0 0 false (Nat.zero_add _) h
def DM (ds:List (Df)) (act:List (Nat)):List (Ex)→Int→List Nat→List Nat×Int
 | [],a0_0,a0_1=>((Du (Eo a0_1)),0)
 | e0 :: tl,a0_0,a0_1=>cond (!(((Ao ds act e0)).2)) (([],7)) (cond (BU ((ds.getD ((Ao ds act e0)).1 default))) (DM ds act tl a0_0 (a0_1++[((Ao ds act e0)).1])) (DM ds act tl a0_0 a0_1))
theorem OO {ds:List (Df)} {act:List (Nat)} {a0_0:Int} {a0_1:List Nat}:DM ds act [] a0_0 a0_1=(((Du (Eo a0_1)),0)):=by rw [DM]
theorem NR {ds:List (Df)} {act:List (Nat)} {a0_0:Int} {a0_1:List Nat} {es:List (Ex)} (i:Nat) (e0:Ex) (hi:es[i]?=some e0):DM ds act (es.drop i) a0_0 a0_1=(cond (!(((Ao ds act e0)).2)) (([],7)) (cond (BU ((ds.getD ((Ao ds act e0)).1 default))) (DM ds act (es.drop (i + 1)) a0_0 (a0_1++[((Ao ds act e0)).1])) (DM ds act (es.drop (i + 1)) a0_0 a0_1))):=by
 have hl:i < es.length:=(List.getElem?_eq_some_iff.1 hi).1
 have he:es[i]=e0:=(List.getElem?_eq_some_iff.1 hi).2
 rw [← List.getElem_cons_drop hl,DM] <;> (try rw [he])
def Cw (ds:List (Df)) (act:List (Nat)) (i:Nat):List Nat×Int:=DM ds act ((BL [] ((ds.getD i default).body))) 0 ([])
noncomputable def RB:Code:=Tryz.f92.body.getD .skip
def Zw:List Item:=AB (As Ae 90 ([.code RB])) ([.code RB])
def jC:List Item:=AB (As (O4 32) 90 (AF Zw)) (AF Zw)
def jB:List Item:=AB 60 (AF (jC))
def UP:List Item:=AB 60 (AF jB)
def UO:List Item:=AB 60 (A4 UP)
def jA:List Item:=AB (As Ae 90 (AG UO)) (AG UO)
def i9:List Item:=AB 60 (AF (AF jA))
def UN:List Item:=AB 60 (AF i9)
def oX:List Item:=AB 60 (AG UN)
def i8:List Item:=AB (As Ae 90 (AL UN)) (AL UN)
def dG:List Item:=AB 60 (AF (AF i8))
def UQ:List Item:=AB 60 (AF dG)
def dF:List Item:=AB (As BK 90 (AG UQ)) (AG UQ)
def dE:List Item:=AB 60 (AL UO)
def dD:List Item:=AB 60 (AF dE)
def ln:List Item:=AB 60 (AF dD)
theorem XL (p0a:List UInt8) (p0bA:Option Addr) (ds:List (Df)) (p0bc:Nat) (p1A:Option Addr) (act:List (Nat)) (p1c:Nat) (i:Nat) (w:World) (h_ds:rowsDf w p0bA ds) (hl_ds:ds.length≤4294967296) (h_act:rowsNat w p1A act) (hl_act:act.length≤4294967296) (hi_i:i < ds.length) (hin:∀ i∈act,i < ds.length) (hlim:∀ d∈ds,DT d.body) (hn:∀ d∈ds,nE d.body≤1000000):Calls Tryz.prog 92 ([.agg ⟨[.string ⟨⟨p0a⟩⟩,.slice p0bA ds.length p0bc]⟩,.slice p1A act.length p1c,.int .i64 ((i:Int))]:List Value).toArray w fun e w'=>∃ (rA0:Option Addr) (rc0:Nat),e=.returned (.tuple #[.slice rA0 ((((Cw ds act i)).1).length) rc0,.int .i64 (((Cw ds act i)).2)])∧Below w.heap.size w w'∧AY w.heap.size w' [BE rA0 rc0 (((Cw ds act i)).1)]:=by
 refine Ab (fn:=Tryz.f92) (c:=RB) (n:=49) ?_
 have K1:=Wk.start w
 obtain ⟨gB0,fB0,rfl,hB0g,hB0a⟩:=h_ds.all (by omega)
 have hd0:ds[i]?=some (ds.getD i default):=getD_some default hi_i
 obtain ⟨aE0_0,cE0_0,aE0_1,cE0_1,hr0_,hE0_0,hE0_1⟩:=hB0a i _ hd0
 refine CA Ae Zw [⟨w.heap.size,0,[.string ⟨⟨p0a⟩⟩,.slice (some ⟨gB0,fB0,none⟩) ds.length p0bc],38,true⟩] K1 [(0,1)] fun w1 K2=>?_
 refine BB (g:=gB0) (off:=fB0) (cap:=p0bc) (sz:=21) (k:=i) (len:=ds.length) (some 16) hi_i Tryz.underlying36 ?_
 refine BA (O4 32) jC K2 [] fun w2 K3=>?_
 refine Bc 32 gB0 (fB0 + i * 21 + 8) [.int .i64 ((ds.getD i default).body.op),.int .i64 ((ds.getD i default).body.num),.int .i64 ((ds.getD i default).body.den),.int .i64 ((ds.getD i default).body.mu),.int .i64 ((ds.getD i default).body.hu),.int .i64 ((ds.getD i default).body.du),.string ⟨⟨(ds.getD i default).body.nm⟩⟩,.int .i64 ((ds.getD i default).body.cnt),.int .i64 ((ds.getD i default).body.md),.slice aE0_1 ((ds.getD i default).body.ks.length) cE0_1] (some 18) (JD (Af hr0_ hB0g K3.B) 8 _ rfl) ?_
 refine AC jB K3 [] fun w3 K4=>?_
 have K5:=K4.addNil 32 10 (De CG w)
 have Kf:=(K5.pickL (L':=[(ER w none 0 ([]))]++[]) [0] rfl (by decide)).front
 refine BX (args:=[.slice none 0 0,.agg ⟨[.int .i64 ((ds.getD i default).body.op),.int .i64 ((ds.getD i default).body.num),.int .i64 ((ds.getD i default).body.den),.int .i64 ((ds.getD i default).body.mu),.int .i64 ((ds.getD i default).body.hu),.int .i64 ((ds.getD i default).body.du),.string ⟨⟨(ds.getD i default).body.nm⟩⟩,.int .i64 ((ds.getD i default).body.cnt),.int .i64 ((ds.getD i default).body.md),.slice aE0_1 ((ds.getD i default).body.ks.length) cE0_1]⟩]) (QT _ _ none [] 0 ((ds.getD i default).body) aE0_1 cE0_1 w w3 hE0_1 (Nat.le_refl _) (hlim _ (Ds hi_i)) (by have:=hn _ (Ds hi_i); simp only [List.length_nil]; omega) K5.B Kf) fun en w5 hh=>?_
 obtain ⟨A4_0,c4_0,rfl,b5,Hn⟩:=hh
 refine ⟨_,rfl,?_⟩
 have K6:=Wk.unfront b5 Hn
 have hlr:=MV ((ds.getD i default).body)
 have hnr:=hn _ (Ds hi_i)
 refine AC UP K6 [] fun w6 K7=>?_
 have K8:Wk w w6 [⟨w.heap.size,0,[.string ⟨⟨p0a⟩⟩,.slice (some ⟨gB0,fB0,none⟩) ds.length p0bc],38,true⟩] [(ER w A4_0 c4_0 ((BL [] ((ds.getD i default).body))))] []:=K7.pk [0] [0]
 have K9:=K8.addNil 3 1 (fun e r=>r=Eb e)
 have hv0:(Cw ds act i)=DM ds act ((BL [] ((ds.getD i default).body))) 0 ([]):=by unfold Cw; rfl
 refine Ax [(1,.slice p1A act.length p1c),(3,.pointer (some ⟨w.heap.size,0,none⟩)),(6,.slice none 0 0),(7,.int .i64 0),(8,.slice none 0 0),(19,.slice A4_0 (((BL [] ((ds.getD i default).body))).length) c4_0),(20,.int .i64 ((((BL [] ((ds.getD i default).body))).length:Int))),(21,.int .i64 (((0:Nat):Int)))] fun E7=>?_
 refine Bj (by kernel_rfl) (fun E wx0=>∃ (i0:Nat) (a0_0:Int) (a0_1:List Nat) (a0_1A:Option Addr) (a0_1c:Nat) (E0:Nat→Value),i0≤((BL [] ((ds.getD i default).body))).length∧E=CX E0 [(1,.slice p1A act.length p1c),(3,.pointer (some ⟨w.heap.size,0,none⟩)),(6,.slice none 0 0),(7,.int .i64 a0_0),(8,.slice a0_1A a0_1.length a0_1c),(19,.slice A4_0 (((BL [] ((ds.getD i default).body))).length) c4_0),(20,.int .i64 ((((BL [] ((ds.getD i default).body))).length:Int))),(21,.int .i64 ((i0:Int)))]∧(Cw ds act i)=DM ds act (List.drop i0 ((BL [] ((ds.getD i default).body)))) a0_0 a0_1∧a0_1.length≤1 * i0 + 0∧Wk w wx0 [⟨w.heap.size,0,[.string ⟨⟨p0a⟩⟩,.slice (some ⟨gB0,fB0,none⟩) ds.length p0bc],38,true⟩] [(ER w A4_0 c4_0 ((BL [] ((ds.getD i default).body)))),(BE a0_1A a0_1c a0_1)] []) (fun E _=>((BL [] ((ds.getD i default).body))).length - AQ (E 21)) ⟨0,0,([]),none,0,E7,Nat.zero_le _,rfl,hv0,by simp,K9⟩ ?_
 clear hv0
 rintro E wx0 ⟨i0,a0_0,a0_1,a0_1A,a0_1c,E0,hi0,rfl,hv0,hb0_0,K10⟩ hagain0
 refine AC UO K10 [] fun w9 K11=>?_
 refine AK (decide ((i0:Int) < (((BL [] ((ds.getD i default).body))).length:Int))) (fun c10=>?_) (fun c10=>?_)
 ·have hlt0:i0 < (BL [] ((ds.getD i default).body)).length:=by have:=of_decide_eq_true c10; omega
  obtain ⟨e0,he0⟩:∃ e,((BL [] ((ds.getD i default).body)))[i0]?=some e:=⟨_,List.getElem?_eq_getElem hlt0⟩
  rw [NR i0 e0 he0] at hv0
  obtain ⟨gB1,rfl,hB1g⟩:=K11.H.rowAt (K11.ix 0) (K11.at 0 rfl) (by omega)
  refine BA Ae jA K11 [] fun w11 K12=>?_
  refine BB (g:=gB1) (off:=0) (cap:=c4_0) (sz:=10) (k:=i0) (len:=((BL [] ((ds.getD i default).body))).length) (some 23) hlt0 Tryz.underlying30 ?_
  obtain ⟨r9,hr9,hc9⟩:=K12.H.cells (fun _ _ h=>SG h) (K12.ix 0) (K12.at 0 rfl) he0
  obtain ⟨aE1_0,cE1_0,rfl,hE1_0⟩:=Xc hr9
  refine Bc 32 gB1 (0 + i0 * 10) [.int .i64 e0.op,.int .i64 e0.num,.int .i64 e0.den,.int .i64 e0.mu,.int .i64 e0.hu,.int .i64 e0.du,.string ⟨⟨e0.nm⟩⟩,.int .i64 e0.cnt,.int .i64 e0.md,.slice aE1_0 e0.ks.length cE1_0] (some 24) hc9 ?_
  refine Bv i9 [⟨w.heap.size,0,[.string ⟨⟨p0a⟩⟩,.slice (some ⟨gB0,fB0,none⟩) ds.length p0bc],38,true⟩,⟨w11.heap.size,0,(Bo e0 aE1_0 cE1_0),32,true⟩] K12 [(1,0),(0,0),(1,0)] fun w13 K13=>?_
  refine BX (Rg p0a (some ⟨gB0,fB0,none⟩) ds p0bc p1A act p1c e0 aE1_0 cE1_0 w13 (h_ds.below K13.B) (by first | assumption | omega | (simp <;> omega)) (h_act.below K13.B) (by first | assumption | omega | (simp <;> omega)) (hE1_0.below K13.B) hin) fun en w15 hh=>?_
  obtain ⟨rfl,b15⟩:=hh
  refine ⟨_,rfl,?_⟩
  have K14:=K13.below b15
  refine AC UN K14 [] fun w16 K15=>?_
  refine AK (!(((Ao ds act e0)).2)) (fun c17=>?_) (fun c17=>?_)
  ·have K16:=K15.addNil 3 1 (fun e r=>r=Eb e)
   refine AC oX K16 [] fun w18 K17=>?_
   have hS:(Cw ds act i)=([],7):=by rw [hv0,c17] <;> rfl
   exact Aa K17 (0,0) (.tuple #[.slice none 0 0,.int .i64 7]) ⟨none,0,by rw [hS] <;> rfl,K17.B,by rw [hS]; exact K17.own0 [2] rfl (by decide)⟩
  ·have hd2:ds[((Ao ds act e0)).1]?=some (ds.getD ((Ao ds act e0)).1 default):=getD_some default (JP hin (by assumption))
   obtain ⟨aE2_0,cE2_0,aE2_1,cE2_1,hr2_,hE2_0,hE2_1⟩:=hB0a ((Ao ds act e0)).1 _ hd2
   refine BA Ae i8 K15 [(0,1)] fun w19 K18=>?_
   refine BB (g:=gB0) (off:=fB0) (cap:=p0bc) (sz:=21) (k:=(((Ao ds act e0)).1)) (len:=ds.length) (some 37) (JP hin (by assumption)) Tryz.underlying36 ?_
   refine Bc 34 gB0 (fB0 + ((Ao ds act e0)).1 * 21) [.int .i64 ((ds.getD ((Ao ds act e0)).1 default).kind),.string ⟨⟨(ds.getD ((Ao ds act e0)).1 default).name⟩⟩,.bool ((ds.getD ((Ao ds act e0)).1 default).tb),.int .i64 ((ds.getD ((Ao ds act e0)).1 default).tm),.int .i64 ((ds.getD ((Ao ds act e0)).1 default).th),.int .i64 ((ds.getD ((Ao ds act e0)).1 default).td),.int .i64 ((ds.getD ((Ao ds act e0)).1 default).frm),.slice aE2_0 ((ds.getD ((Ao ds act e0)).1 default).ents.length) cE2_0,.int .i64 ((ds.getD ((Ao ds act e0)).1 default).body.op),.int .i64 ((ds.getD ((Ao ds act e0)).1 default).body.num),.int .i64 ((ds.getD ((Ao ds act e0)).1 default).body.den),.int .i64 ((ds.getD ((Ao ds act e0)).1 default).body.mu),.int .i64 ((ds.getD ((Ao ds act e0)).1 default).body.hu),.int .i64 ((ds.getD ((Ao ds act e0)).1 default).body.du),.string ⟨⟨(ds.getD ((Ao ds act e0)).1 default).body.nm⟩⟩,.int .i64 ((ds.getD ((Ao ds act e0)).1 default).body.cnt),.int .i64 ((ds.getD ((Ao ds act e0)).1 default).body.md),.slice aE2_1 ((ds.getD ((Ao ds act e0)).1 default).body.ks.length) cE2_1,.int .i64 ((ds.getD ((Ao ds act e0)).1 default).mode),.int .i64 ((ds.getD ((Ao ds act e0)).1 default).num),.int .i64 ((ds.getD ((Ao ds act e0)).1 default).den)] (some 38) (Af hr2_ hB0g K18.B) ?_
   refine AC dG K18 [] fun w20 K19=>?_
   refine Ak K19 (GC ((ds.getD ((Ao ds act e0)).1 default)) aE2_0 cE2_0 aE2_1 cE2_1 w20 (hE2_0.below K19.B) (hE2_1.below K19.B)) fun w21 K20=>?_
   refine AC UQ K20 [] fun w22 K21=>?_
   refine AK (BU ((ds.getD ((Ao ds act e0)).1 default))) (fun c23=>?_) (fun c23=>?_)
   ·refine CA BK dF [⟨w.heap.size,0,[.string ⟨⟨p0a⟩⟩,.slice (some ⟨gB0,fB0,none⟩) ds.length p0bc],38,true⟩,⟨w11.heap.size,0,(Bo e0 aE1_0 cE1_0),32,true⟩,⟨w22.heap.size,0,[.int .i64 ((((Ao ds act e0)).1:Int))],3,true⟩] K21 [] fun w24 K22=>?_
    refine CF K22.H (K22.ix 1) (K22.at 1 rfl) (((Ao ds act e0)).1) [.int .i64 ((((Ao ds act e0)).1:Int))] rfl (w22.heap.size) (K22.ent 2 (by kernel_rfl)) (Ck dF) (by kernel_rfl) (.tmp 40) (.tmp 42) 56 (by kernel_rfl) (by kernel_rfl) (by kernel_rfl) (by decide) (by kernel_rfl) (by kernel_rfl) rfl rfl (by ((try simp only [maxLen,List.length_append,List.length_cons,List.length_nil,List.length_singleton]) <;> omega)) fun A25 c25 w25 Hn b25=>?_
    have K23:=K22.put 1 (by simp) b25 Hn
    refine AC (Ai UP) K23 [] fun w26 K24=>?_
    refine Ax [(1,.slice p1A act.length p1c),(3,.pointer (some ⟨w.heap.size,0,none⟩)),(6,.slice none 0 0),(7,.int .i64 a0_0),(8,.slice A25 ((a0_1++[((Ao ds act e0)).1]).length) c25),(19,.slice (some ⟨gB1,0,none⟩) (((BL [] ((ds.getD i default).body))).length) c4_0),(20,.int .i64 ((((BL [] ((ds.getD i default).body))).length:Int))),(21,.int .i64 (IntKind.i64.wrap ((i0:Int) + 1)))] fun E27=>?_
    have K25:Wk w w26 [⟨w.heap.size,0,[.string ⟨⟨p0a⟩⟩,.slice (some ⟨gB0,fB0,none⟩) ds.length p0bc],38,true⟩] [(ER w (some ⟨gB1,0,none⟩) c4_0 ((BL [] ((ds.getD i default).body)))),(BE A25 c25 (a0_1++[((Ao ds act e0)).1]))] []:=K24.pk [0] [0,1]
    rw [Bf i0 (by omega)]
    refine hagain0 _ _ ⟨i0 + 1,a0_0,(a0_1++[((Ao ds act e0)).1]),A25,c25,E27,hlt0,rfl,by rw [hv0,c17,c23] <;> rfl,by ((try simp only [maxLen,List.length_append,List.length_cons,List.length_nil,List.length_singleton]) <;> omega),K25⟩ ?_
    show ((BL [] ((ds.getD i default).body))).length - AQ (.int .i64 ((i0 + 1:Nat):Int)) < ((BL [] ((ds.getD i default).body))).length - AQ (.int .i64 (i0:Int))
    simp only [AQ]
    omega
   ·refine AC (Ai UP) K21 [] fun w28 K26=>?_
    refine Ax [(1,.slice p1A act.length p1c),(3,.pointer (some ⟨w.heap.size,0,none⟩)),(6,.slice none 0 0),(7,.int .i64 a0_0),(8,.slice a0_1A a0_1.length a0_1c),(19,.slice (some ⟨gB1,0,none⟩) (((BL [] ((ds.getD i default).body))).length) c4_0),(20,.int .i64 ((((BL [] ((ds.getD i default).body))).length:Int))),(21,.int .i64 (IntKind.i64.wrap ((i0:Int) + 1)))] fun E29=>?_
    have K27:Wk w w28 [⟨w.heap.size,0,[.string ⟨⟨p0a⟩⟩,.slice (some ⟨gB0,fB0,none⟩) ds.length p0bc],38,true⟩] [(ER w (some ⟨gB1,0,none⟩) c4_0 ((BL [] ((ds.getD i default).body)))),(BE a0_1A a0_1c a0_1)] []:=K26.pk [0] [0,1]
    rw [Bf i0 (by omega)]
    refine hagain0 _ _ ⟨i0 + 1,a0_0,a0_1,a0_1A,a0_1c,E29,hlt0,rfl,by rw [hv0,c17,c23] <;> rfl,by ((try simp only [maxLen,List.length_append,List.length_cons,List.length_nil,List.length_singleton]) <;> omega),K27⟩ ?_
    show ((BL [] ((ds.getD i default).body))).length - AQ (.int .i64 ((i0 + 1:Nat):Int)) < ((BL [] ((ds.getD i default).body))).length - AQ (.int .i64 (i0:Int))
    simp only [AQ]
    omega
 ·have hie0:i0=(BL [] ((ds.getD i default).body)).length:=by have:=of_decide_eq_false c10; omega
  rw [hie0,List.drop_length,OO] at hv0
  refine AC dE K11 [] fun w30 K28=>?_
  have Kf:=(K28.pickL (L':=[(BE a0_1A a0_1c a0_1)]++[(ER w A4_0 c4_0 ((BL [] ((ds.getD i default).body))))]) [1,0] rfl (by decide)).front
  refine BX (args:=[.slice a0_1A a0_1.length a0_1c]) (aT _ a0_1A a0_1 a0_1c w w30 (by omega) K28.B Kf) fun en w31 hh=>?_
  obtain ⟨rfl,b31,Hn⟩:=hh
  refine ⟨_,rfl,?_⟩
  have K29:=Wk.unfront b31 Hn
  refine AC dD K29 [] fun w32 K30=>?_
  have Kf:=(K30.pickL (L':=[(BE a0_1A a0_1c (Eo a0_1))]++[(ER w A4_0 c4_0 ((BL [] ((ds.getD i default).body))))]) [0,1] rfl (by decide)).front
  refine BX (args:=[.slice a0_1A a0_1.length a0_1c]) (Rt _ a0_1A (Eo a0_1) a0_1c w w32 (by simp only [IM]; omega) (IM _) K30.B Kf) fun en w34 hh=>?_
  obtain ⟨A33_0,c33_0,rfl,b34,Hn⟩:=hh
  refine ⟨_,rfl,?_⟩
  have K31:=Wk.unfront b34 Hn
  refine AC ln K31 [] fun w35 K32=>?_
  have hS:(Cw ds act i)=((Du (Eo a0_1)),0):=by rw [hv0] <;> rfl
  exact Aa K32 (0,0) (.tuple #[.slice A33_0 (((Du (Eo a0_1))).length) c33_0,.int .i64 0]) ⟨A33_0,c33_0,by rw [hS] <;> rfl,K32.B,by rw [hS]; exact K32.own0 [0] rfl (by decide)⟩
end
end Go.Proofs.YtmcpjkcggfmcmaaGreatDoor

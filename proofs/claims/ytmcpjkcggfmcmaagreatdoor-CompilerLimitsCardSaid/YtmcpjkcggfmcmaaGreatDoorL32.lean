/-
  Part 32 of a proof: contracts of functions.
-/
import Derived.Test.YtmcpjkcggfmcmaaGreatDoorL31
set_option linter.all false
namespace Go.Proofs.YtmcpjkcggfmcmaaGreatDoor
noncomputable section
open Go.RowKit
set_option maxRecDepth 100000
set_option maxHeartbeats 1000000
attribute [local irreducible] BD Bb AF AG AL A4 Ai AO BO CV Di CC Bp At Fr
def Bk:List (Df)→List Df→List Df→List Df→List Df×List Df×List Df
 | [],a0_0,a0_1,a0_2=>(a0_0,a0_1,a0_2)
 | e0 :: tl,a0_0,a0_1,a0_2=>cond (e0.kind == 1) (Bk tl (a0_0++[e0]) a0_1 a0_2) (cond (e0.kind == 3) (Bk tl (a0_0++[e0]) a0_1 a0_2) (cond (e0.kind == 4) (Bk tl (a0_0++[e0]) a0_1 a0_2) (cond (e0.kind == 2) (Bk tl a0_0 (a0_1++[e0]) a0_2) (cond (e0.kind == 5) (Bk tl a0_0 a0_1 (a0_2++[e0])) (Bk tl a0_0 a0_1 a0_2)))))
theorem NV {a0_0:List Df} {a0_1:List Df} {a0_2:List Df}:Bk [] a0_0 a0_1 a0_2=((a0_0,a0_1,a0_2)):=by rw [Bk]
theorem Mu {a0_0:List Df} {a0_1:List Df} {a0_2:List Df} {es:List (Df)} (i:Nat) (e0:Df) (hi:es[i]?=some e0):Bk (es.drop i) a0_0 a0_1 a0_2=(cond (e0.kind == 1) (Bk (es.drop (i + 1)) (a0_0++[e0]) a0_1 a0_2) (cond (e0.kind == 3) (Bk (es.drop (i + 1)) (a0_0++[e0]) a0_1 a0_2) (cond (e0.kind == 4) (Bk (es.drop (i + 1)) (a0_0++[e0]) a0_1 a0_2) (cond (e0.kind == 2) (Bk (es.drop (i + 1)) a0_0 (a0_1++[e0]) a0_2) (cond (e0.kind == 5) (Bk (es.drop (i + 1)) a0_0 a0_1 (a0_2++[e0])) (Bk (es.drop (i + 1)) a0_0 a0_1 a0_2)))))):=by
 have hl:i < es.length:=(List.getElem?_eq_some_iff.1 hi).1
 have he:es[i]=e0:=(List.getElem?_eq_some_iff.1 hi).2
 rw [← List.getElem_cons_drop hl,Bk] <;> (try rw [he])
def AW (ds:List (Df)):List Df×List Df×List Df:=Bk ds ([]) ([]) ([])
noncomputable def YK:Code:=Tryz.f44.body.getD .skip
def Jt:List Item:=AB 60 ([.code YK])
def UK:List Item:=AB 60 (A4 Jt)
def iw:List Item:=AB (As Ae 90 (AG UK)) (AG UK)
def Zv:List Item:=AB 60 (AF (AF iw))
def Zu:List Item:=AB 60 (AG Zv)
def iv:List Item:=AB (As BK 90 (AG Zu)) (AG Zu)
def Zt:List Item:=AB 60 (AL Zv)
def Zs:List Item:=AB 60 (AG Zt)
def iu:List Item:=AB (As BK 90 (AG Zs)) (AG Zs)
def UI:List Item:=AB 60 (AL Zt)
def dC:List Item:=AB (As BK 90 (AG UI)) (AG UI)
def Ol:List Item:=AB 60 (AL UI)
def dB:List Item:=AB (As BK 90 (AG Ol)) (AG Ol)
def UJ:List Item:=AB 60 (AL Ol)
def dA:List Item:=AB (As BK 90 (AG UJ)) (AG UJ)
def lm:List Item:=AB 60 (AL UK)
theorem Vj (L:List Th) (p0a:List UInt8) (p0bA:Option Addr) (ds:List (Df)) (p0bc:Nat) (w we:World) (h_ds:rowsDf w p0bA ds) (hl_ds:ds.length≤4294967296) (B:Below w.heap.size w we) (H:AY w.heap.size we ([]++L)):Calls Tryz.prog 44 ([.agg ⟨[.string ⟨⟨p0a⟩⟩,.slice p0bA ds.length p0bc]⟩]:List Value).toArray we fun e w'=>∃ (rA0:Option Addr) (rc0:Nat) (rA1:Option Addr) (rc1:Nat) (rA2:Option Addr) (rc2:Nat),e=.returned (.tuple #[.slice rA0 ((((AW ds)).1).length) rc0,.slice rA1 ((((AW ds)).2.1).length) rc1,.slice rA2 ((((AW ds)).2.2).length) rc2])∧Below w.heap.size w w'∧AY w.heap.size w' ([CY w rA0 rc0 (((AW ds)).1),CY w rA1 rc1 (((AW ds)).2.1),CY w rA2 rc2 (((AW ds)).2.2)]++L):=by
 refine Ab (fn:=Tryz.f44) (c:=YK) (n:=40) ?_
 have K1:Wk w we [] [] L:=⟨B,H⟩
 clear B H
 refine BF Jt K1 [(0,1)] fun w1 K2=>?_
 have K3:Wk w w1 [] [] L:=K2.pk [] []
 have K4:=K3.addNil 34 21 (FN CG w)
 have K5:=K4.addNil 34 21 (FN CG w)
 have K6:=K5.addNil 34 21 (FN CG w)
 have hv0:(AW ds)=Bk ds ([]) ([]) ([]):=by unfold AW; rfl
 refine Ax [(2,.slice none 0 0),(3,.slice none 0 0),(4,.slice none 0 0),(8,.slice p0bA ds.length p0bc),(9,.int .i64 ((ds.length:Int))),(10,.int .i64 (((0:Nat):Int)))] fun E2=>?_
 refine Bj (by kernel_rfl) (fun E wx0=>∃ (i0:Nat) (a0_0:List Df) (a0_1:List Df) (a0_2:List Df) (a0_0A:Option Addr) (a0_0c:Nat) (a0_1A:Option Addr) (a0_1c:Nat) (a0_2A:Option Addr) (a0_2c:Nat) (E0:Nat→Value),i0≤ds.length∧E=CX E0 [(2,.slice a0_0A a0_0.length a0_0c),(3,.slice a0_1A a0_1.length a0_1c),(4,.slice a0_2A a0_2.length a0_2c),(8,.slice p0bA ds.length p0bc),(9,.int .i64 ((ds.length:Int))),(10,.int .i64 ((i0:Int)))]∧(AW ds)=Bk (List.drop i0 ds) a0_0 a0_1 a0_2∧a0_0.length≤1 * i0 + 0∧a0_1.length≤1 * i0 + 0∧a0_2.length≤1 * i0 + 0∧Wk w wx0 [] [(CY w a0_0A a0_0c a0_0),(CY w a0_1A a0_1c a0_1),(CY w a0_2A a0_2c a0_2)] L) (fun E _=>ds.length - AQ (E 10)) ⟨0,([]),([]),([]),none,0,none,0,none,0,E2,Nat.zero_le _,rfl,hv0,by simp,by simp,by simp,K6⟩ ?_
 clear hv0
 rintro E wx0 ⟨i0,a0_0,a0_1,a0_2,a0_0A,a0_0c,a0_1A,a0_1c,a0_2A,a0_2c,E0,hi0,rfl,hv0,hb0_0,hb0_1,hb0_2,K7⟩ hagain0
 refine AC UK K7 [] fun w4 K8=>?_
 refine AK (decide ((i0:Int) < (ds.length:Int))) (fun c5=>?_) (fun c5=>?_)
 ·have hlt0:i0 < ds.length:=by have:=of_decide_eq_true c5; omega
  obtain ⟨e0,he0⟩:∃ e,ds[i0]?=some e:=⟨_,List.getElem?_eq_getElem hlt0⟩
  rw [Mu i0 e0 he0] at hv0
  obtain ⟨gB0,fB0,rfl,hB0g,hB0a⟩:=h_ds.all (by omega)
  obtain ⟨aE0_0,cE0_0,aE0_1,cE0_1,hr0_,hE0_0,hE0_1⟩:=hB0a i0 _ he0
  refine BA Ae iw K8 [] fun w6 K9=>?_
  refine BB (g:=gB0) (off:=fB0) (cap:=p0bc) (sz:=21) (k:=i0) (len:=ds.length) (some 12) hlt0 Tryz.underlying36 ?_
  refine Bc 34 gB0 (fB0 + i0 * 21) [.int .i64 e0.kind,.string ⟨⟨e0.name⟩⟩,.bool (e0.tb),.int .i64 e0.tm,.int .i64 e0.th,.int .i64 e0.td,.int .i64 e0.frm,.slice aE0_0 e0.ents.length cE0_0,.int .i64 e0.body.op,.int .i64 e0.body.num,.int .i64 e0.body.den,.int .i64 e0.body.mu,.int .i64 e0.body.hu,.int .i64 e0.body.du,.string ⟨⟨e0.body.nm⟩⟩,.int .i64 e0.body.cnt,.int .i64 e0.body.md,.slice aE0_1 e0.body.ks.length cE0_1,.int .i64 e0.mode,.int .i64 e0.num,.int .i64 e0.den] (some 13) (Af hr0_ hB0g K9.B) ?_
  refine BF Zv K9 [(0,0),(0,0)] fun w7 K10=>?_
  refine AK (e0.kind == 1) (fun c8=>?_) (fun c8=>?_)
  ·refine AC Zu K10 [] fun w9 K11=>?_
   refine AK (e0.kind == 1) (fun _=>?_) (fun h=>nomatch h.symm.trans c8)
   refine CA BK iv [⟨w6.heap.size,0,(Be e0 aE0_0 cE0_0 aE0_1 cE0_1),34,true⟩,⟨w9.heap.size,0,(Be e0 aE0_0 cE0_0 aE0_1 cE0_1),34,true⟩] K11 [(0,0)] fun w11 K12=>?_
   refine CF K12.H (K12.ix 0) (K12.at 0 rfl) e0 [.int .i64 e0.kind,.string ⟨⟨e0.name⟩⟩,.bool (e0.tb),.int .i64 e0.tm,.int .i64 e0.th,.int .i64 e0.td,.int .i64 e0.frm,.slice aE0_0 e0.ents.length cE0_0,.int .i64 e0.body.op,.int .i64 e0.body.num,.int .i64 e0.body.den,.int .i64 e0.body.mu,.int .i64 e0.body.hu,.int .i64 e0.body.du,.string ⟨⟨e0.body.nm⟩⟩,.int .i64 e0.body.cnt,.int .i64 e0.body.md,.slice aE0_1 e0.body.ks.length cE0_1,.int .i64 e0.mode,.int .i64 e0.num,.int .i64 e0.den] (F4 hE0_0 hE0_1) (w9.heap.size) (K12.ent 1 (by kernel_rfl)) (Ck iv) (by kernel_rfl) (.tmp 20) (.tmp 22) 36 (by kernel_rfl) (by kernel_rfl) (by kernel_rfl) (by decide) (by kernel_rfl) (by kernel_rfl) rfl rfl (by ((try simp only [maxLen,List.length_append,List.length_cons,List.length_nil,List.length_singleton]) <;> omega)) fun A12 c12 w12 Hn b12=>?_
   have K13:=K12.put 0 (by simp) b12 Hn
   refine AC (Ai Jt) K13 [] fun w13 K14=>?_
   refine Ax [(2,.slice A12 ((a0_0++[e0]).length) c12),(3,.slice a0_1A a0_1.length a0_1c),(4,.slice a0_2A a0_2.length a0_2c),(8,.slice (some ⟨gB0,fB0,none⟩) ds.length p0bc),(9,.int .i64 ((ds.length:Int))),(10,.int .i64 (IntKind.i64.wrap ((i0:Int) + 1)))] fun E14=>?_
   have K15:Wk w w13 [] [(CY w A12 c12 (a0_0++[e0])),(CY w a0_1A a0_1c a0_1),(CY w a0_2A a0_2c a0_2)] L:=K14.pk [] [0,1,2]
   rw [Bf i0 (by omega)]
   refine hagain0 _ _ ⟨i0 + 1,(a0_0++[e0]),a0_1,a0_2,A12,c12,a0_1A,a0_1c,a0_2A,a0_2c,E14,hlt0,rfl,by rw [hv0,c8] <;> rfl,by ((try simp only [maxLen,List.length_append,List.length_cons,List.length_nil,List.length_singleton]) <;> omega),by ((try simp only [maxLen,List.length_append,List.length_cons,List.length_nil,List.length_singleton]) <;> omega),by ((try simp only [maxLen,List.length_append,List.length_cons,List.length_nil,List.length_singleton]) <;> omega),K15⟩ ?_
   show ds.length - AQ (.int .i64 ((i0 + 1:Nat):Int)) < ds.length - AQ (.int .i64 (i0:Int))
   simp only [AQ]
   omega
  ·refine AC Zt K10 [] fun w15 K16=>?_
   refine AK (e0.kind == 3) (fun c16=>?_) (fun c16=>?_)
   ·refine AC Zs K16 [] fun w17 K17=>?_
    refine AK (e0.kind == 3) (fun _=>?_) (fun h=>nomatch h.symm.trans c16)
    refine CA BK iu [⟨w6.heap.size,0,(Be e0 aE0_0 cE0_0 aE0_1 cE0_1),34,true⟩,⟨w17.heap.size,0,(Be e0 aE0_0 cE0_0 aE0_1 cE0_1),34,true⟩] K17 [(0,0)] fun w19 K18=>?_
    refine CF K18.H (K18.ix 0) (K18.at 0 rfl) e0 [.int .i64 e0.kind,.string ⟨⟨e0.name⟩⟩,.bool (e0.tb),.int .i64 e0.tm,.int .i64 e0.th,.int .i64 e0.td,.int .i64 e0.frm,.slice aE0_0 e0.ents.length cE0_0,.int .i64 e0.body.op,.int .i64 e0.body.num,.int .i64 e0.body.den,.int .i64 e0.body.mu,.int .i64 e0.body.hu,.int .i64 e0.body.du,.string ⟨⟨e0.body.nm⟩⟩,.int .i64 e0.body.cnt,.int .i64 e0.body.md,.slice aE0_1 e0.body.ks.length cE0_1,.int .i64 e0.mode,.int .i64 e0.num,.int .i64 e0.den] (F4 hE0_0 hE0_1) (w17.heap.size) (K18.ent 1 (by kernel_rfl)) (Ck iu) (by kernel_rfl) (.tmp 20) (.tmp 22) 36 (by kernel_rfl) (by kernel_rfl) (by kernel_rfl) (by decide) (by kernel_rfl) (by kernel_rfl) rfl rfl (by ((try simp only [maxLen,List.length_append,List.length_cons,List.length_nil,List.length_singleton]) <;> omega)) fun A20 c20 w20 Hn b20=>?_
    have K19:=K18.put 0 (by simp) b20 Hn
    refine AC (Ai Jt) K19 [] fun w21 K20=>?_
    refine Ax [(2,.slice A20 ((a0_0++[e0]).length) c20),(3,.slice a0_1A a0_1.length a0_1c),(4,.slice a0_2A a0_2.length a0_2c),(8,.slice (some ⟨gB0,fB0,none⟩) ds.length p0bc),(9,.int .i64 ((ds.length:Int))),(10,.int .i64 (IntKind.i64.wrap ((i0:Int) + 1)))] fun E22=>?_
    have K21:Wk w w21 [] [(CY w A20 c20 (a0_0++[e0])),(CY w a0_1A a0_1c a0_1),(CY w a0_2A a0_2c a0_2)] L:=K20.pk [] [0,1,2]
    rw [Bf i0 (by omega)]
    refine hagain0 _ _ ⟨i0 + 1,(a0_0++[e0]),a0_1,a0_2,A20,c20,a0_1A,a0_1c,a0_2A,a0_2c,E22,hlt0,rfl,by rw [hv0,c8,c16] <;> rfl,by ((try simp only [maxLen,List.length_append,List.length_cons,List.length_nil,List.length_singleton]) <;> omega),by ((try simp only [maxLen,List.length_append,List.length_cons,List.length_nil,List.length_singleton]) <;> omega),by ((try simp only [maxLen,List.length_append,List.length_cons,List.length_nil,List.length_singleton]) <;> omega),K21⟩ ?_
    show ds.length - AQ (.int .i64 ((i0 + 1:Nat):Int)) < ds.length - AQ (.int .i64 (i0:Int))
    simp only [AQ]
    omega
   ·refine AC UI K16 [] fun w23 K22=>?_
    refine AK (e0.kind == 4) (fun c24=>?_) (fun c24=>?_)
    ·refine CA BK dC [⟨w6.heap.size,0,(Be e0 aE0_0 cE0_0 aE0_1 cE0_1),34,true⟩,⟨w23.heap.size,0,(Be e0 aE0_0 cE0_0 aE0_1 cE0_1),34,true⟩] K22 [(0,0)] fun w25 K23=>?_
     refine CF K23.H (K23.ix 0) (K23.at 0 rfl) e0 [.int .i64 e0.kind,.string ⟨⟨e0.name⟩⟩,.bool (e0.tb),.int .i64 e0.tm,.int .i64 e0.th,.int .i64 e0.td,.int .i64 e0.frm,.slice aE0_0 e0.ents.length cE0_0,.int .i64 e0.body.op,.int .i64 e0.body.num,.int .i64 e0.body.den,.int .i64 e0.body.mu,.int .i64 e0.body.hu,.int .i64 e0.body.du,.string ⟨⟨e0.body.nm⟩⟩,.int .i64 e0.body.cnt,.int .i64 e0.body.md,.slice aE0_1 e0.body.ks.length cE0_1,.int .i64 e0.mode,.int .i64 e0.num,.int .i64 e0.den] (F4 hE0_0 hE0_1) (w23.heap.size) (K23.ent 1 (by kernel_rfl)) (Ck dC) (by kernel_rfl) (.tmp 20) (.tmp 22) 36 (by kernel_rfl) (by kernel_rfl) (by kernel_rfl) (by decide) (by kernel_rfl) (by kernel_rfl) rfl rfl (by ((try simp only [maxLen,List.length_append,List.length_cons,List.length_nil,List.length_singleton]) <;> omega)) fun A26 c26 w26 Hn b26=>?_
     have K24:=K23.put 0 (by simp) b26 Hn
     refine AC (Ai Jt) K24 [] fun w27 K25=>?_
     refine Ax [(2,.slice A26 ((a0_0++[e0]).length) c26),(3,.slice a0_1A a0_1.length a0_1c),(4,.slice a0_2A a0_2.length a0_2c),(8,.slice (some ⟨gB0,fB0,none⟩) ds.length p0bc),(9,.int .i64 ((ds.length:Int))),(10,.int .i64 (IntKind.i64.wrap ((i0:Int) + 1)))] fun E28=>?_
     have K26:Wk w w27 [] [(CY w A26 c26 (a0_0++[e0])),(CY w a0_1A a0_1c a0_1),(CY w a0_2A a0_2c a0_2)] L:=K25.pk [] [0,1,2]
     rw [Bf i0 (by omega)]
     refine hagain0 _ _ ⟨i0 + 1,(a0_0++[e0]),a0_1,a0_2,A26,c26,a0_1A,a0_1c,a0_2A,a0_2c,E28,hlt0,rfl,by rw [hv0,c8,c16,c24] <;> rfl,by ((try simp only [maxLen,List.length_append,List.length_cons,List.length_nil,List.length_singleton]) <;> omega),by ((try simp only [maxLen,List.length_append,List.length_cons,List.length_nil,List.length_singleton]) <;> omega),by ((try simp only [maxLen,List.length_append,List.length_cons,List.length_nil,List.length_singleton]) <;> omega),K26⟩ ?_
     show ds.length - AQ (.int .i64 ((i0 + 1:Nat):Int)) < ds.length - AQ (.int .i64 (i0:Int))
     simp only [AQ]
     omega
    ·refine AC Ol K22 [] fun w29 K27=>?_
     refine AK (e0.kind == 2) (fun c30=>?_) (fun c30=>?_)
     ·refine CA BK dB [⟨w6.heap.size,0,(Be e0 aE0_0 cE0_0 aE0_1 cE0_1),34,true⟩,⟨w29.heap.size,0,(Be e0 aE0_0 cE0_0 aE0_1 cE0_1),34,true⟩] K27 [(0,0)] fun w31 K28=>?_
      refine CF K28.H (K28.ix 1) (K28.at 1 rfl) e0 [.int .i64 e0.kind,.string ⟨⟨e0.name⟩⟩,.bool (e0.tb),.int .i64 e0.tm,.int .i64 e0.th,.int .i64 e0.td,.int .i64 e0.frm,.slice aE0_0 e0.ents.length cE0_0,.int .i64 e0.body.op,.int .i64 e0.body.num,.int .i64 e0.body.den,.int .i64 e0.body.mu,.int .i64 e0.body.hu,.int .i64 e0.body.du,.string ⟨⟨e0.body.nm⟩⟩,.int .i64 e0.body.cnt,.int .i64 e0.body.md,.slice aE0_1 e0.body.ks.length cE0_1,.int .i64 e0.mode,.int .i64 e0.num,.int .i64 e0.den] (F4 hE0_0 hE0_1) (w29.heap.size) (K28.ent 1 (by kernel_rfl)) (Ck dB) (by kernel_rfl) (.tmp 26) (.tmp 28) 36 (by kernel_rfl) (by kernel_rfl) (by kernel_rfl) (by decide) (by kernel_rfl) (by kernel_rfl) rfl rfl (by ((try simp only [maxLen,List.length_append,List.length_cons,List.length_nil,List.length_singleton]) <;> omega)) fun A32 c32 w32 Hn b32=>?_
      have K29:=K28.put 1 (by simp) b32 Hn
      refine AC (Ai Jt) K29 [] fun w33 K30=>?_
      refine Ax [(2,.slice a0_0A a0_0.length a0_0c),(3,.slice A32 ((a0_1++[e0]).length) c32),(4,.slice a0_2A a0_2.length a0_2c),(8,.slice (some ⟨gB0,fB0,none⟩) ds.length p0bc),(9,.int .i64 ((ds.length:Int))),(10,.int .i64 (IntKind.i64.wrap ((i0:Int) + 1)))] fun E34=>?_
      have K31:Wk w w33 [] [(CY w a0_0A a0_0c a0_0),(CY w A32 c32 (a0_1++[e0])),(CY w a0_2A a0_2c a0_2)] L:=K30.pk [] [0,1,2]
      rw [Bf i0 (by omega)]
      refine hagain0 _ _ ⟨i0 + 1,a0_0,(a0_1++[e0]),a0_2,a0_0A,a0_0c,A32,c32,a0_2A,a0_2c,E34,hlt0,rfl,by rw [hv0,c8,c16,c24,c30] <;> rfl,by ((try simp only [maxLen,List.length_append,List.length_cons,List.length_nil,List.length_singleton]) <;> omega),by ((try simp only [maxLen,List.length_append,List.length_cons,List.length_nil,List.length_singleton]) <;> omega),by ((try simp only [maxLen,List.length_append,List.length_cons,List.length_nil,List.length_singleton]) <;> omega),K31⟩ ?_
      show ds.length - AQ (.int .i64 ((i0 + 1:Nat):Int)) < ds.length - AQ (.int .i64 (i0:Int))
      simp only [AQ]
      omega
     ·refine AC UJ K27 [] fun w35 K32=>?_
      refine AK (e0.kind == 5) (fun c36=>?_) (fun c36=>?_)
      ·refine CA BK dA [⟨w6.heap.size,0,(Be e0 aE0_0 cE0_0 aE0_1 cE0_1),34,true⟩,⟨w35.heap.size,0,(Be e0 aE0_0 cE0_0 aE0_1 cE0_1),34,true⟩] K32 [(0,0)] fun w37 K33=>?_
       refine CF K33.H (K33.ix 2) (K33.at 2 rfl) e0 [.int .i64 e0.kind,.string ⟨⟨e0.name⟩⟩,.bool (e0.tb),.int .i64 e0.tm,.int .i64 e0.th,.int .i64 e0.td,.int .i64 e0.frm,.slice aE0_0 e0.ents.length cE0_0,.int .i64 e0.body.op,.int .i64 e0.body.num,.int .i64 e0.body.den,.int .i64 e0.body.mu,.int .i64 e0.body.hu,.int .i64 e0.body.du,.string ⟨⟨e0.body.nm⟩⟩,.int .i64 e0.body.cnt,.int .i64 e0.body.md,.slice aE0_1 e0.body.ks.length cE0_1,.int .i64 e0.mode,.int .i64 e0.num,.int .i64 e0.den] (F4 hE0_0 hE0_1) (w35.heap.size) (K33.ent 1 (by kernel_rfl)) (Ck dA) (by kernel_rfl) (.tmp 32) (.tmp 34) 36 (by kernel_rfl) (by kernel_rfl) (by kernel_rfl) (by decide) (by kernel_rfl) (by kernel_rfl) rfl rfl (by ((try simp only [maxLen,List.length_append,List.length_cons,List.length_nil,List.length_singleton]) <;> omega)) fun A38 c38 w38 Hn b38=>?_
       have K34:=K33.put 2 (by simp) b38 Hn
       refine AC (Ai Jt) K34 [] fun w39 K35=>?_
       refine Ax [(2,.slice a0_0A a0_0.length a0_0c),(3,.slice a0_1A a0_1.length a0_1c),(4,.slice A38 ((a0_2++[e0]).length) c38),(8,.slice (some ⟨gB0,fB0,none⟩) ds.length p0bc),(9,.int .i64 ((ds.length:Int))),(10,.int .i64 (IntKind.i64.wrap ((i0:Int) + 1)))] fun E40=>?_
       have K36:Wk w w39 [] [(CY w a0_0A a0_0c a0_0),(CY w a0_1A a0_1c a0_1),(CY w A38 c38 (a0_2++[e0]))] L:=K35.pk [] [0,1,2]
       rw [Bf i0 (by omega)]
       refine hagain0 _ _ ⟨i0 + 1,a0_0,a0_1,(a0_2++[e0]),a0_0A,a0_0c,a0_1A,a0_1c,A38,c38,E40,hlt0,rfl,by rw [hv0,c8,c16,c24,c30,c36] <;> rfl,by ((try simp only [maxLen,List.length_append,List.length_cons,List.length_nil,List.length_singleton]) <;> omega),by ((try simp only [maxLen,List.length_append,List.length_cons,List.length_nil,List.length_singleton]) <;> omega),by ((try simp only [maxLen,List.length_append,List.length_cons,List.length_nil,List.length_singleton]) <;> omega),K36⟩ ?_
       show ds.length - AQ (.int .i64 ((i0 + 1:Nat):Int)) < ds.length - AQ (.int .i64 (i0:Int))
       simp only [AQ]
       omega
      ·refine AC (Ai Jt) K32 [] fun w41 K37=>?_
       refine Ax [(2,.slice a0_0A a0_0.length a0_0c),(3,.slice a0_1A a0_1.length a0_1c),(4,.slice a0_2A a0_2.length a0_2c),(8,.slice (some ⟨gB0,fB0,none⟩) ds.length p0bc),(9,.int .i64 ((ds.length:Int))),(10,.int .i64 (IntKind.i64.wrap ((i0:Int) + 1)))] fun E42=>?_
       have K38:Wk w w41 [] [(CY w a0_0A a0_0c a0_0),(CY w a0_1A a0_1c a0_1),(CY w a0_2A a0_2c a0_2)] L:=K37.pk [] [0,1,2]
       rw [Bf i0 (by omega)]
       refine hagain0 _ _ ⟨i0 + 1,a0_0,a0_1,a0_2,a0_0A,a0_0c,a0_1A,a0_1c,a0_2A,a0_2c,E42,hlt0,rfl,by rw [hv0,c8,c16,c24,c30,c36] <;> rfl,by ((try simp only [maxLen,List.length_append,List.length_cons,List.length_nil,List.length_singleton]) <;> omega),by ((try simp only [maxLen,List.length_append,List.length_cons,List.length_nil,List.length_singleton]) <;> omega),by ((try simp only [maxLen,List.length_append,List.length_cons,List.length_nil,List.length_singleton]) <;> omega),K38⟩ ?_
       show ds.length - AQ (.int .i64 ((i0 + 1:Nat):Int)) < ds.length - AQ (.int .i64 (i0:Int))
       simp only [AQ]
       omega
 ·have hie0:i0=ds.length:=by have:=of_decide_eq_false c5; omega
  rw [hie0,List.drop_length,NV] at hv0
  refine AC lm K8 [] fun w43 K39=>?_
  have hS:(AW ds)=(a0_0,a0_1,a0_2):=by rw [hv0] <;> rfl
  exact Aa K39 (0,0) (.tuple #[.slice a0_0A a0_0.length a0_0c,.slice a0_1A a0_1.length a0_1c,.slice a0_2A a0_2.length a0_2c]) ⟨a0_0A,a0_0c,a0_1A,a0_1c,a0_2A,a0_2c,by rw [hS] <;> rfl,K39.B,by rw [hS]; exact K39.own [0,1,2] rfl (by decide)⟩
end
end Go.Proofs.YtmcpjkcggfmcmaaGreatDoor
namespace Go.Proofs.YtmcpjkcggfmcmaaGreatDoor
open Go.RowKit
set_option maxRecDepth 100000
set_option maxHeartbeats 600000
theorem au {P:Program} {o:Oper} {ρ:Operand→Value} {w:World} {t e:TypeId} {x h:Operand} {g off len cap i:Nat} (hop:o.op=.slice t x none (some h) none) (hu:P.underlying t=some (.slice e)) (hs:MP P e≠none) (hx:ρ x=.slice (some ⟨g,off,none⟩) len cap) (hh:ρ h=.int .i64 (i:Nat)) (hi:i≤cap):(execOp ρ o).run P w=.ok (.value (.slice (some ⟨g,off,none⟩) i cap)) w:=by
 obtain ⟨sz,hsz⟩:=Option.ne_none_iff_exists'.1 hs
 have h1:¬ (cap:Int) < (i:Int):=by omega
 have hadd:(⟨g,off,none⟩:Addr).add 0=⟨g,off,none⟩:=rfl
 simp [execOp,hop,hx,hh,Instr.sliceAt,Instr.slice,run_underlying hu,LO hsz,Instr.sliceBounds,Instr.sliceBound,asIntOf,hi,h1,hadd]
theorem Hf {w:World} {e:BM} (h:e.good w):w.rangeAt e.id e.off e.cells:=fun _ _ hv=>EX h hv rfl rfl rfl
theorem N6 {w:World}:∀ {ds:List Df} {rs:List (List Value)} (i:Nat),EI CG w ds rs→EI CG w (ds.take i) (rs.take i)
 | ds,rs,0,_=>by rw [List.take_zero,List.take_zero]; unfold EI; rfl
 | [],rs,i + 1,h=>by unfold EI at h; subst h; rw [List.take_nil,List.take_nil]; unfold EI; rfl
 | d :: ds,rs,i + 1,h=>by
  unfold EI at h
  obtain ⟨c,cs,rfl,h1,h2⟩:=h
  rw [List.take_succ_cons,List.take_succ_cons]
  unfold EI
  exact ⟨c,_,rfl,h1,N6 i h2⟩
theorem VM {w:World} {n:Nat} {A:Option Addr} {rs:List (List Value)} (h:CU CG w n A rs) (i:Nat):CU CG w n A (rs.take i):=by
 rcases h with h | ⟨g,off,rfl,h2,hg,hc⟩
 ·subst h; rw [List.take_nil]; exact .inl rfl
 ·refine .inr ⟨g,off,rfl,h2,hg,fun j r hj=>hc j r ?_⟩
  rw [List.getElem?_take] at hj
  split at hj
  ·exact hj
  ·cases hj
theorem rowsDf.take {w:World} {A:Option Addr} {ds:List Df} (h:rowsDf w A ds) (i:Nat):rowsDf w A (ds.take i):=
 let ⟨_,h1,h2⟩:=h
 ⟨_,N6 i h1,VM h2 i⟩
end Go.Proofs.YtmcpjkcggfmcmaaGreatDoor

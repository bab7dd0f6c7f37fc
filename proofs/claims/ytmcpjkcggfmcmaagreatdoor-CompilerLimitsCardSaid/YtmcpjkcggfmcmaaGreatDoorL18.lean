/-
  Part 18 of a proof: contracts of functions.
-/
import Derived.Test.YtmcpjkcggfmcmaaGreatDoorL17
set_option linter.all false
namespace Go.Proofs.YtmcpjkcggfmcmaaGreatDoor
noncomputable section
open Go.RowKit
set_option maxRecDepth 100000
set_option maxHeartbeats 1000000
attribute [local irreducible] BD Bb AF AG AL A4 Ai AO BO CV Di CC Bp At Fr
def DL (ds:List (Df)) (p1:Int) (i:Nat):List (Df)→Nat→Bool→Bool
 | [],i0,a0_0=>false
 | e0 :: tl,i0,a0_0=>cond (cond (cond (!(e0.kind == (ds.getD i default).kind)) (true) (!(decide (e0.name=(ds.getD i default).name)))) (true) (decide (p1 < e0.frm))) (DL ds p1 i tl (i0 + 1) a0_0) (cond (cond (decide ((ds.getD i default).frm < e0.frm)) (true) (cond (e0.frm == (ds.getD i default).frm) (decide ((i0:Int) < (i:Int))) (false))) (true) (DL ds p1 i tl (i0 + 1) a0_0))
theorem LP {ds:List (Df)} {p1:Int} {i:Nat} {i0:Nat} {a0_0:Bool}:DL ds p1 i [] i0 a0_0=(false):=by rw [DL]
theorem Kn {ds:List (Df)} {p1:Int} {i:Nat} {a0_0:Bool} {es:List (Df)} (i0:Nat) (e0:Df) (hi:es[i0]?=some e0):DL ds p1 i (es.drop i0) i0 a0_0=(cond (cond (cond (!(e0.kind == (ds.getD i default).kind)) (true) (!(decide (e0.name=(ds.getD i default).name)))) (true) (decide (p1 < e0.frm))) (DL ds p1 i (es.drop (i0 + 1)) (i0 + 1) a0_0) (cond (cond (decide ((ds.getD i default).frm < e0.frm)) (true) (cond (e0.frm == (ds.getD i default).frm) (decide ((i0:Int) < (i:Int))) (false))) (true) (DL ds p1 i (es.drop (i0 + 1)) (i0 + 1) a0_0))):=by
 have hl:i0 < es.length:=(List.getElem?_eq_some_iff.1 hi).1
 have he:es[i0]=e0:=(List.getElem?_eq_some_iff.1 hi).2
 rw [← List.getElem_cons_drop hl,DL] <;> (try rw [he])
def EM (ds:List (Df)) (p1:Int) (i:Nat):Bool:=DL ds p1 i ds 0 false
noncomputable def RA:Code:=Tryz.f126.body.getD .skip
def i7:List Item:=AB (As Ae 90 ([.code RA])) ([.code RA])
def UM:List Item:=AB 60 (AF (AF i7))
def UL:List Item:=AB 60 (A4 UM)
def i6:List Item:=AB (As Ae 90 (AG UL)) (AG UL)
def i5:List Item:=Ac 5 (AF (AF i6))
def i4:List Item:=AB 60 (AO i5)
def iz:List Item:=Ac 6 (AL i4)
def iy:List Item:=AB 60 (AO iz)
def oW:List Item:=AB 60 (AG iy)
def oV:List Item:=AB 60 (AL UL)
theorem QK (p0a:List UInt8) (p0bA:Option Addr) (ds:List (Df)) (p0bc:Nat) (p1:Int) (i:Nat) (w:World) (h_ds:rowsDf w p0bA ds) (hl_ds:ds.length≤4294967296) (hi_i:i < ds.length):Calls Tryz.prog 126 ([.agg ⟨[.string ⟨⟨p0a⟩⟩,.slice p0bA ds.length p0bc]⟩,.int .i64 p1,.int .i64 ((i:Int))]:List Value).toArray w fun e w'=>e=.returned (.bool (EM ds p1 i))∧Below w.heap.size w w':=by
 refine Ab (fn:=Tryz.f126) (c:=RA) (n:=59) ?_
 have K1:=Wk.start w
 obtain ⟨gB0,fB0,rfl,hB0g,hB0a⟩:=h_ds.all (by omega)
 have hd0:ds[i]?=some (ds.getD i default):=getD_some default hi_i
 obtain ⟨aE0_0,cE0_0,aE0_1,cE0_1,hr0_,hE0_0,hE0_1⟩:=hB0a i _ hd0
 refine SZ Ae i7 K1 [(0,1)] fun w1 K2=>?_
 refine BB (g:=gB0) (off:=fB0) (cap:=p0bc) (sz:=21) (k:=i) (len:=ds.length) (some 13) hi_i Tryz.underlying36 ?_
 refine Bc 34 gB0 (fB0 + i * 21) [.int .i64 ((ds.getD i default).kind),.string ⟨⟨(ds.getD i default).name⟩⟩,.bool ((ds.getD i default).tb),.int .i64 ((ds.getD i default).tm),.int .i64 ((ds.getD i default).th),.int .i64 ((ds.getD i default).td),.int .i64 ((ds.getD i default).frm),.slice aE0_0 ((ds.getD i default).ents.length) cE0_0,.int .i64 ((ds.getD i default).body.op),.int .i64 ((ds.getD i default).body.num),.int .i64 ((ds.getD i default).body.den),.int .i64 ((ds.getD i default).body.mu),.int .i64 ((ds.getD i default).body.hu),.int .i64 ((ds.getD i default).body.du),.string ⟨⟨(ds.getD i default).body.nm⟩⟩,.int .i64 ((ds.getD i default).body.cnt),.int .i64 ((ds.getD i default).body.md),.slice aE0_1 ((ds.getD i default).body.ks.length) cE0_1,.int .i64 ((ds.getD i default).mode),.int .i64 ((ds.getD i default).num),.int .i64 ((ds.getD i default).den)] (some 14) (Af hr0_ hB0g K2.B) ?_
 refine BF UM K2 [(1,0),(0,1)] fun w2 K3=>?_
 have K4:Wk w w2 [⟨w1.heap.size,0,(Be (ds.getD i default) aE0_0 cE0_0 aE0_1 cE0_1),34,true⟩] [] []:=K3.pk [1] []
 have hv0:(EM ds p1 i)=DL ds p1 i ds 0 false:=by unfold EM; rfl
 refine Ax [(1,.int .i64 p1),(2,.int .i64 ((i:Int))),(6,.bool false),(7,.pointer (some ⟨w1.heap.size,0,none⟩)),(16,.slice (some ⟨gB0,fB0,none⟩) ds.length p0bc),(17,.int .i64 ((ds.length:Int))),(18,.int .i64 (((0:Nat):Int)))] fun E3=>?_
 refine Bj (by kernel_rfl) (fun E wx0=>∃ (i0:Nat) (a0_0:Bool) (E0:Nat→Value),i0≤ds.length∧E=CX E0 [(1,.int .i64 p1),(2,.int .i64 ((i:Int))),(6,.bool a0_0),(7,.pointer (some ⟨w1.heap.size,0,none⟩)),(16,.slice (some ⟨gB0,fB0,none⟩) ds.length p0bc),(17,.int .i64 ((ds.length:Int))),(18,.int .i64 ((i0:Int)))]∧(EM ds p1 i)=DL ds p1 i (List.drop i0 ds) i0 a0_0∧Wk w wx0 [⟨w1.heap.size,0,(Be (ds.getD i default) aE0_0 cE0_0 aE0_1 cE0_1),34,true⟩] [] []) (fun E _=>ds.length - AQ (E 18)) ⟨0,false,E3,Nat.zero_le _,rfl,hv0,K4⟩ ?_
 clear hv0
 rintro E wx0 ⟨i0,a0_0,E0,hi0,rfl,hv0,K5⟩ hagain0
 refine AC UL K5 [] fun w5 K6=>?_
 refine AK (decide ((i0:Int) < (ds.length:Int))) (fun c6=>?_) (fun c6=>?_)
 ·have hlt0:i0 < ds.length:=by have:=of_decide_eq_true c6; omega
  obtain ⟨e0,he0⟩:∃ e,ds[i0]?=some e:=⟨_,List.getElem?_eq_getElem hlt0⟩
  rw [Kn i0 e0 he0] at hv0
  obtain ⟨aE1_0,cE1_0,aE1_1,cE1_1,hr1_,hE1_0,hE1_1⟩:=hB0a i0 _ he0
  refine BA Ae i6 K6 [] fun w7 K7=>?_
  refine BB (g:=gB0) (off:=fB0) (cap:=p0bc) (sz:=21) (k:=i0) (len:=ds.length) (some 21) hlt0 Tryz.underlying36 ?_
  refine Bc 34 gB0 (fB0 + i0 * 21) [.int .i64 e0.kind,.string ⟨⟨e0.name⟩⟩,.bool (e0.tb),.int .i64 e0.tm,.int .i64 e0.th,.int .i64 e0.td,.int .i64 e0.frm,.slice aE1_0 e0.ents.length cE1_0,.int .i64 e0.body.op,.int .i64 e0.body.num,.int .i64 e0.body.den,.int .i64 e0.body.mu,.int .i64 e0.body.hu,.int .i64 e0.body.du,.string ⟨⟨e0.body.nm⟩⟩,.int .i64 e0.body.cnt,.int .i64 e0.body.md,.slice aE1_1 e0.body.ks.length cE1_1,.int .i64 e0.mode,.int .i64 e0.num,.int .i64 e0.den] (some 22) (Af hr1_ hB0g K7.B) ?_
  refine Bw 5 i5 [⟨w1.heap.size,0,(Be (ds.getD i default) aE0_0 cE0_0 aE0_1 cE0_1),34,true⟩,⟨w7.heap.size,0,(Be e0 aE1_0 cE1_0 aE1_1 cE1_1),34,true⟩] K7 [(1,0)] fun w8 K8=>?_
  refine Aj K8 [(1,1,0),(3,0,0),(7,1,1),(9,0,1),(14,1,6)] [⟨10,[(30,.string ⟨⟨e0.name⟩⟩),(32,.string ⟨⟨(ds.getD i default).name⟩⟩)],.bool (!(decide (e0.name=(ds.getD i default).name))),(!(!(e0.kind == (ds.getD i default).kind))) && (true)⟩] K8.G (fun sp hsp=>?_) fun w9 E9 K9=>?_
  ·rw [List.mem_singleton.1 hsp]
   exact Av fun _ E u _=>KI (T:=9) (T':=9) (x:=.tmp 30) (y:=.tmp 32) (by kernel_rfl) (by kernel_rfl) (by kernel_rfl)
  refine AC i4 K9 [] fun w10 K10=>?_
  refine AK (cond (cond (!(e0.kind == (ds.getD i default).kind)) (true) (!(decide (e0.name=(ds.getD i default).name)))) (true) (decide (p1 < e0.frm))) (fun c11=>?_) (fun c11=>?_)
  ·refine AC (Ai UM) K10 [] fun w12 K11=>?_
   refine Ax [(1,.int .i64 p1),(2,.int .i64 ((i:Int))),(6,.bool a0_0),(7,.pointer (some ⟨w1.heap.size,0,none⟩)),(16,.slice (some ⟨gB0,fB0,none⟩) ds.length p0bc),(17,.int .i64 ((ds.length:Int))),(18,.int .i64 (IntKind.i64.wrap ((i0:Int) + 1)))] fun E13=>?_
   have K12:Wk w w12 [⟨w1.heap.size,0,(Be (ds.getD i default) aE0_0 cE0_0 aE0_1 cE0_1),34,true⟩] [] []:=K11.pk [0] []
   rw [Bf i0 (by omega)]
   refine hagain0 _ _ ⟨i0 + 1,a0_0,E13,hlt0,rfl,by rw [hv0,c11] <;> rfl,K12⟩ ?_
   show ds.length - AQ (.int .i64 ((i0 + 1:Nat):Int)) < ds.length - AQ (.int .i64 (i0:Int))
   simp only [AQ]
   omega
  ·refine Ag 6 iz K10 [] fun w14 K13=>?_
   refine Aj K13 [(1,1,6),(3,0,6),(7,1,6),(9,0,6)] [] K13.G (fun sp hsp=>by cases hsp) fun w15 E15 K14=>?_
   refine AC iy K14 [] fun w16 K15=>?_
   refine AK (cond (decide ((ds.getD i default).frm < e0.frm)) (true) (cond (e0.frm == (ds.getD i default).frm) (decide ((i0:Int) < (i:Int))) (false))) (fun c17=>?_) (fun c17=>?_)
   ·refine AC oW K15 [] fun w18 K16=>?_
    exact AM K16 (0,0) (.bool true) (by rw [hv0,c11,c17] <;> rfl)
   ·refine AC (Ai UM) K15 [] fun w19 K17=>?_
    refine Ax [(1,.int .i64 p1),(2,.int .i64 ((i:Int))),(6,.bool a0_0),(7,.pointer (some ⟨w1.heap.size,0,none⟩)),(16,.slice (some ⟨gB0,fB0,none⟩) ds.length p0bc),(17,.int .i64 ((ds.length:Int))),(18,.int .i64 (IntKind.i64.wrap ((i0:Int) + 1)))] fun E20=>?_
    have K18:Wk w w19 [⟨w1.heap.size,0,(Be (ds.getD i default) aE0_0 cE0_0 aE0_1 cE0_1),34,true⟩] [] []:=K17.pk [0] []
    rw [Bf i0 (by omega)]
    refine hagain0 _ _ ⟨i0 + 1,a0_0,E20,hlt0,rfl,by rw [hv0,c11,c17] <;> rfl,K18⟩ ?_
    show ds.length - AQ (.int .i64 ((i0 + 1:Nat):Int)) < ds.length - AQ (.int .i64 (i0:Int))
    simp only [AQ]
    omega
 ·have hie0:i0=ds.length:=by have:=of_decide_eq_false c6; omega
  rw [hie0,List.drop_length,LP] at hv0
  refine AC oV K6 [] fun w21 K19=>?_
  exact AM K19 (0,0) (.bool false) (by rw [hv0] <;> rfl)
end
end Go.Proofs.YtmcpjkcggfmcmaaGreatDoor
namespace Go.Proofs.YtmcpjkcggfmcmaaGreatDoor
noncomputable section
open Go.RowKit
set_option maxRecDepth 100000
set_option maxHeartbeats 1000000
attribute [local irreducible] BD Bb AF AG AL A4 Ai AO BO CV Di CC Bp At Fr
theorem rowsDf.agr {w:World} {A:Option Addr} {c:Nat} {nm:List UInt8} {ds:List Df} (h:rowsDf w A ds):RU w nm ds [.string ⟨⟨nm⟩⟩,.slice A ds.length c]:=
 let ⟨rs,h1,h2⟩:=h
 ⟨A,c,rs,rfl,h1,h2⟩
def Dt (p0a:List UInt8) (ds:List (Df)) (p1:Int):Int:=cond (!(EO p0a ds)) (1) (cond (cond (decide (p1 < 0)) (true) (decide (84005 < p1))) (2) (0))
noncomputable def YM:Code:=Tryz.f89.body.getD .skip
def jH:List Item:=AB 60 ([.code YM])
def Z9:List Item:=AB 60 (AF jH)
def oc:List Item:=AB 60 (AG Z9)
def jG:List Item:=Ac 3 (AL Z9)
def Z5:List Item:=AB 60 (AO jG)
def oa:List Item:=AB 60 (AG Z5)
def oZ:List Item:=AB 60 (AL Z5)
theorem Mv (p0a:List UInt8) (p0bA:Option Addr) (ds:List (Df)) (p0bc:Nat) (p1:Int) (w:World) (h_ds:rowsDf w p0bA ds) (hl_ds:ds.length≤4294967296) (hs:p0a.length≤4294967296) (ht:∀ d∈ds,GB d):Calls Tryz.prog 89 ([.agg ⟨[.string ⟨⟨p0a⟩⟩,.slice p0bA ds.length p0bc]⟩,.int .i64 p1]:List Value).toArray w fun e w'=>e=.returned (.int .i64 (Dt p0a ds p1))∧Below w.heap.size w w':=by
 refine Ab (fn:=Tryz.f89) (c:=YM) (n:=14) ?_
 have K1:=Wk.start w
 refine Bv jH [⟨w.heap.size,0,[.string ⟨⟨p0a⟩⟩,.slice p0bA ds.length p0bc],38,true⟩] K1 [(0,0)] fun w1 K2=>?_
 refine Ak K2 (args:=[.agg ⟨[.string ⟨⟨p0a⟩⟩,.slice p0bA ds.length p0bc]⟩]) (I4 p0a ds _ w1 hs hl_ds ht (h_ds.below K2.B).agr) fun w2 K3=>?_
 refine AC Z9 K3 [] fun w3 K4=>?_
 refine AK (!(EO p0a ds)) (fun c4=>?_) (fun c4=>?_)
 ·refine AC oc K4 [] fun w5 K5=>?_
  exact AM K5 (0,0) (.int .i64 1) (by unfold Dt; rw [c4] <;> rfl)
 ·refine Ag 3 jG K4 [] fun w6 K6=>?_
  refine Aj K6 [] [] K6.G (fun sp hsp=>by cases hsp) fun w7 E7 K7=>?_
  refine AC Z5 K7 [] fun w8 K8=>?_
  refine AK (cond (decide (p1 < 0)) (true) (decide (84005 < p1))) (fun c9=>?_) (fun c9=>?_)
  ·refine AC oa K8 [] fun w10 K9=>?_
   exact AM K9 (0,0) (.int .i64 2) (by unfold Dt; rw [c4,c9] <;> rfl)
  ·refine AC oZ K8 [] fun w11 K10=>?_
   exact AM K10 (0,0) (.int .i64 0) (by unfold Dt; rw [c4,c9] <;> rfl)
end
end Go.Proofs.YtmcpjkcggfmcmaaGreatDoor
namespace Go.Proofs.YtmcpjkcggfmcmaaGreatDoor
noncomputable section
open Go.RowKit
set_option maxRecDepth 100000
set_option maxHeartbeats 1000000
attribute [local irreducible] BD Bb AF AG AL A4 Ai AO BO CV Di CC Bp At Fr
def DF (d:Df) (ns:List (Df)) (ss:List (Df)) (ps:List (Df)):Int:=cond (!((BP d.body ns ss ps).2.2.2.2 == 0)) ((BP d.body ns ss ps).2.2.2.2) (Fh ((BP d.body ns ss ps).1) ((BP d.body ns ss ps).2.1) ((BP d.body ns ss ps).2.2.1) ((BP d.body ns ss ps).2.2.2.1) ((Ad d.kind d.tb d.tm d.th d.td).1) ((Ad d.kind d.tb d.tm d.th d.td).2.1) ((Ad d.kind d.tb d.tm d.th d.td).2.2.1) ((Ad d.kind d.tb d.tm d.th d.td).2.2.2))
noncomputable def YE:Code:=Tryz.f49.body.getD .skip
def ic:List Item:=AB 60 ([.code YE])
def Zr:List Item:=AB 60 (AF ic)
def oO:List Item:=AB 60 (AG Zr)
def ib:List Item:=Ac 4 (AL Zr)
def oN:List Item:=AB 60 (AO ib)
theorem OY (d:Df) (p0A0:Option Addr) (p0c0:Nat) (p0A1:Option Addr) (p0c1:Nat) (p1A:Option Addr) (ns:List (Df)) (p1c:Nat) (p2A:Option Addr) (ss:List (Df)) (p2c:Nat) (p3A:Option Addr) (ps:List (Df)) (p3c:Nat) (w:World) (h_d0:C1 w p0A0 d.ents) (h_d1:rowsEx w p0A1 d.body.ks) (h_ns:rowsDf w p1A ns) (hl_ns:ns.length≤4294967296) (h_ss:rowsDf w p2A ss) (hl_ss:ss.length≤4294967296) (h_ps:rowsDf w p3A ps) (hl_ps:ps.length≤4294967296) (ht:DT d.body):Calls Tryz.prog 49 ([.agg ⟨[.int .i64 d.kind,.string ⟨⟨d.name⟩⟩,.bool (d.tb),.int .i64 d.tm,.int .i64 d.th,.int .i64 d.td,.int .i64 d.frm,.slice p0A0 d.ents.length p0c0,.int .i64 d.body.op,.int .i64 d.body.num,.int .i64 d.body.den,.int .i64 d.body.mu,.int .i64 d.body.hu,.int .i64 d.body.du,.string ⟨⟨d.body.nm⟩⟩,.int .i64 d.body.cnt,.int .i64 d.body.md,.slice p0A1 d.body.ks.length p0c1,.int .i64 d.mode,.int .i64 d.num,.int .i64 d.den]⟩,.slice p1A ns.length p1c,.slice p2A ss.length p2c,.slice p3A ps.length p3c]:List Value).toArray w fun e w'=>e=.returned (.int .i64 (DF d ns ss ps))∧Below w.heap.size w w':=by
 refine Ab (fn:=Tryz.f49) (c:=YE) (n:=27) ?_
 have K1:=Wk.start w
 refine BF ic K1 [(0,8)] fun w1 K2=>?_
 refine Ak K2 (PC d.body p0A1 p0c1 p1A ns p1c p2A ss p2c p3A ps p3c w1 (h_d1.below K2.B) (h_ns.below K2.B) (by first | assumption | omega | (simp <;> omega)) (h_ss.below K2.B) (by first | assumption | omega | (simp <;> omega)) (h_ps.below K2.B) (by first | assumption | omega | (simp <;> omega)) ht) fun w2 K3=>?_
 refine Bv Zr [⟨w.heap.size,0,(Be d p0A0 p0c0 p0A1 p0c1),34,true⟩,⟨w2.heap.size,0,[.bool ((BP d.body ns ss ps).1),.int .i64 ((BP d.body ns ss ps).2.1),.int .i64 ((BP d.body ns ss ps).2.2.1),.int .i64 ((BP d.body ns ss ps).2.2.2.1)],26,true⟩] K3 [(1,0)] fun w3 K4=>?_
 refine AK (!((BP d.body ns ss ps).2.2.2.2 == 0)) (fun c4=>?_) (fun c4=>?_)
 ·refine AC oO K4 [] fun w5 K5=>?_
  exact AM K5 (0,0) (.int .i64 ((BP d.body ns ss ps).2.2.2.2)) (by unfold DF; rw [c4] <;> rfl)
 ·refine Ag 4 ib K4 [] fun w6 K6=>?_
  refine Aj K6 [(0,1,0),(1,0,0)] [⟨2,[(24,.agg ⟨[.int .i64 d.kind,.string ⟨⟨d.name⟩⟩,.bool (d.tb),.int .i64 d.tm,.int .i64 d.th,.int .i64 d.td,.int .i64 d.frm,.slice p0A0 d.ents.length p0c0,.int .i64 d.body.op,.int .i64 d.body.num,.int .i64 d.body.den,.int .i64 d.body.mu,.int .i64 d.body.hu,.int .i64 d.body.du,.string ⟨⟨d.body.nm⟩⟩,.int .i64 d.body.cnt,.int .i64 d.body.md,.slice p0A1 d.body.ks.length p0c1,.int .i64 d.mode,.int .i64 d.num,.int .i64 d.den]⟩)],Dg (Ad d.kind d.tb d.tm d.th d.td),true⟩,⟨3,[(23,.agg ⟨[.bool ((BP d.body ns ss ps).1),.int .i64 ((BP d.body ns ss ps).2.1),.int .i64 ((BP d.body ns ss ps).2.2.1),.int .i64 ((BP d.body ns ss ps).2.2.2.1)]⟩),(25,Dg (Ad d.kind d.tb d.tm d.th d.td))],.int .i64 (Fh ((BP d.body ns ss ps).1) ((BP d.body ns ss ps).2.1) ((BP d.body ns ss ps).2.2.1) ((BP d.body ns ss ps).2.2.2.1) ((Ad d.kind d.tb d.tm d.th d.td).1) ((Ad d.kind d.tb d.tm d.th d.td).2.1) ((Ad d.kind d.tb d.tm d.th d.td).2.2.1) ((Ad d.kind d.tb d.tm d.th d.td).2.2.2)),true⟩] K6.G (fun sp hsp=>?_) fun w7 E7 K7=>?_
  ·simp only [List.mem_cons,List.not_mem_nil,or_false] at hsp
   rcases hsp with rfl | rfl
   ·exact AR 85 [.tmp 24] [.agg ⟨[.int .i64 d.kind,.string ⟨⟨d.name⟩⟩,.bool (d.tb),.int .i64 d.tm,.int .i64 d.th,.int .i64 d.td,.int .i64 d.frm,.slice p0A0 d.ents.length p0c0,.int .i64 d.body.op,.int .i64 d.body.num,.int .i64 d.body.den,.int .i64 d.body.mu,.int .i64 d.body.hu,.int .i64 d.body.du,.string ⟨⟨d.body.nm⟩⟩,.int .i64 d.body.cnt,.int .i64 d.body.md,.slice p0A1 d.body.ks.length p0c1,.int .i64 d.mode,.int .i64 d.num,.int .i64 d.den]⟩] (fun _=>by kernel_rfl) fun hc u hu=>AP hu (Gz d.kind d.name d.tb d.tm d.th d.td d.frm p0A0 d.ents.length p0c0 d.body.op d.body.num d.body.den d.body.mu d.body.hu d.body.du d.body.nm d.body.cnt d.body.md p0A1 d.body.ks.length p0c1 d.mode d.num d.den u)
   ·exact AR 87 [.tmp 23,.tmp 25] [.agg ⟨[.bool ((BP d.body ns ss ps).1),.int .i64 ((BP d.body ns ss ps).2.1),.int .i64 ((BP d.body ns ss ps).2.2.1),.int .i64 ((BP d.body ns ss ps).2.2.2.1)]⟩,Dg (Ad d.kind d.tb d.tm d.th d.td)] (fun _=>by kernel_rfl) fun hc u hu=>AP hu (OG ((BP d.body ns ss ps).1) ((BP d.body ns ss ps).2.1) ((BP d.body ns ss ps).2.2.1) ((BP d.body ns ss ps).2.2.2.1) ((Ad d.kind d.tb d.tm d.th d.td).1) ((Ad d.kind d.tb d.tm d.th d.td).2.1) ((Ad d.kind d.tb d.tm d.th d.td).2.2.1) ((Ad d.kind d.tb d.tm d.th d.td).2.2.2) u)
  refine AC oN K7 [] fun w8 K8=>?_
  exact AM K8 (0,0) (.int .i64 (Fh ((BP d.body ns ss ps).1) ((BP d.body ns ss ps).2.1) ((BP d.body ns ss ps).2.2.1) ((BP d.body ns ss ps).2.2.2.1) ((Ad d.kind d.tb d.tm d.th d.td).1) ((Ad d.kind d.tb d.tm d.th d.td).2.1) ((Ad d.kind d.tb d.tm d.th d.td).2.2.1) ((Ad d.kind d.tb d.tm d.th d.td).2.2.2))) (by unfold DF; rw [c4] <;> rfl)
end
end Go.Proofs.YtmcpjkcggfmcmaaGreatDoor
namespace Go.Proofs.YtmcpjkcggfmcmaaGreatDoor
noncomputable section
open Go.RowKit
set_option maxRecDepth 100000
set_option maxHeartbeats 1000000
attribute [local irreducible] BD Bb AF AG AL A4 Ai AO BO CV Di CC Bp At Fr
def Co (F:Df→Bool):List (Df)→Nat→Int→Int
 | [],i0,a0_0=>-1
 | e0 :: tl,i0,a0_0=>cond (F e0) ((i0:Int)) (Co F tl (i0 + 1) a0_0)
theorem Ml {F:Df→Bool} {i0:Nat} {a0_0:Int}:Co F [] i0 a0_0=(-1):=by rw [Co]
theorem Lc {F:Df→Bool} {a0_0:Int} {es:List (Df)} (i0:Nat) (e0:Df) (hi:es[i0]?=some e0):Co F (es.drop i0) i0 a0_0=(cond (F e0) ((i0:Int)) (Co F (es.drop (i0 + 1)) (i0 + 1) a0_0)):=by
 have hl:i0 < es.length:=(List.getElem?_eq_some_iff.1 hi).1
 have he:es[i0]=e0:=(List.getElem?_eq_some_iff.1 hi).2
 rw [← List.getElem_cons_drop hl,Co] <;> (try rw [he])
def AH (F:Df→Bool) (ds:List (Df)):Int:=Co F ds 0 0
noncomputable def Xi:Code:=Tryz.f84.body.getD .skip
def Yu:List Item:=AB 60 ([.code Xi])
def Sk:List Item:=AB 60 (A4 Yu)
def fa:List Item:=AB (As Ae 90 (AG Sk)) (AG Sk)
def fZ:List Item:=AB 60 (AF (AF fa))
def fY:List Item:=AB 60 (AF fZ)
def m8:List Item:=AB 60 (AG fY)
def m7:List Item:=AB 60 (AL Sk)
theorem LF (F:Df→Bool) (p0A:Option Addr) (ds:List (Df)) (p0c:Nat) (g:FuncId) (cap:List Value) (w:World) (h_ds:rowsDf w p0A ds) (hl_ds:ds.length≤4294967296) (hg:DO Tryz.prog g=true) (hF:∀ u,Below w.heap.size w u→∀ (e:Df) (A1:Option Addr) (c1:Nat) (A2:Option Addr) (c2:Nat),C1 u A1 e.ents→rowsEx u A2 e.body.ks→Calls Tryz.prog g (.agg ⟨Be e A1 c1 A2 c2⟩ :: cap).toArray u fun en w'=>en=.returned (.bool (F e))∧Below u.heap.size u w'):Calls Tryz.prog 84 ([.slice p0A ds.length p0c,.func (.func g) #[] ⟨cap⟩]:List Value).toArray w fun e w'=>e=.returned (.int .i64 (AH F ds))∧Below w.heap.size w w':=by
 refine Ab (fn:=Tryz.f84) (c:=Xi) (n:=19) ?_
 have K1:=Wk.start w
 refine AC Yu K1 [] fun w1 K2=>?_
 have K3:Wk w w1 [] [] []:=K2.pk [] []
 have hv0:(AH F ds)=Co F ds 0 0:=by unfold AH; rfl
 refine Ax [(0,.slice p0A ds.length p0c),(1,.func (.func g) #[] ⟨cap⟩),(4,.int .i64 0),(7,.int .i64 ((ds.length:Int))),(8,.int .i64 (((0:Nat):Int)))] fun E2=>?_
 refine Bj (by kernel_rfl) (fun E wx0=>∃ (i0:Nat) (a0_0:Int) (E0:Nat→Value),i0≤ds.length∧E=CX E0 [(0,.slice p0A ds.length p0c),(1,.func (.func g) #[] ⟨cap⟩),(4,.int .i64 a0_0),(7,.int .i64 ((ds.length:Int))),(8,.int .i64 ((i0:Int)))]∧(AH F ds)=Co F (List.drop i0 ds) i0 a0_0∧Wk w wx0 [] [] []) (fun E _=>ds.length - AQ (E 8)) ⟨0,0,E2,Nat.zero_le _,rfl,hv0,K3⟩ ?_
 clear hv0
 rintro E wx0 ⟨i0,a0_0,E0,hi0,rfl,hv0,K4⟩ hagain0
 refine AC Sk K4 [] fun w4 K5=>?_
 refine AK (decide ((i0:Int) < (ds.length:Int))) (fun c5=>?_) (fun c5=>?_)
 ·have hlt0:i0 < ds.length:=by have:=of_decide_eq_true c5; omega
  obtain ⟨e0,he0⟩:∃ e,ds[i0]?=some e:=⟨_,List.getElem?_eq_getElem hlt0⟩
  rw [Lc i0 e0 he0] at hv0
  obtain ⟨gB0,fB0,rfl,hB0g,hB0a⟩:=h_ds.all (by omega)
  obtain ⟨aE0_0,cE0_0,aE0_1,cE0_1,hr0_,hE0_0,hE0_1⟩:=hB0a i0 _ he0
  refine BA Ae fa K5 [] fun w6 K6=>?_
  refine BB (g:=gB0) (off:=fB0) (cap:=p0c) (sz:=21) (k:=i0) (len:=ds.length) (some 14) hlt0 Tryz.underlying36 ?_
  refine Bc 34 gB0 (fB0 + i0 * 21) [.int .i64 e0.kind,.string ⟨⟨e0.name⟩⟩,.bool (e0.tb),.int .i64 e0.tm,.int .i64 e0.th,.int .i64 e0.td,.int .i64 e0.frm,.slice aE0_0 e0.ents.length cE0_0,.int .i64 e0.body.op,.int .i64 e0.body.num,.int .i64 e0.body.den,.int .i64 e0.body.mu,.int .i64 e0.body.hu,.int .i64 e0.body.du,.string ⟨⟨e0.body.nm⟩⟩,.int .i64 e0.body.cnt,.int .i64 e0.body.md,.slice aE0_1 e0.body.ks.length cE0_1,.int .i64 e0.mode,.int .i64 e0.num,.int .i64 e0.den] (some 15) (Af hr0_ hB0g K6.B) ?_
  refine AC fZ K6 [] fun w7 K7=>?_
  refine KQ g (.agg ⟨[.int .i64 e0.kind,.string ⟨⟨e0.name⟩⟩,.bool (e0.tb),.int .i64 e0.tm,.int .i64 e0.th,.int .i64 e0.td,.int .i64 e0.frm,.slice aE0_0 e0.ents.length cE0_0,.int .i64 e0.body.op,.int .i64 e0.body.num,.int .i64 e0.body.den,.int .i64 e0.body.mu,.int .i64 e0.body.hu,.int .i64 e0.body.du,.string ⟨⟨e0.body.nm⟩⟩,.int .i64 e0.body.cnt,.int .i64 e0.body.md,.slice aE0_1 e0.body.ks.length cE0_1,.int .i64 e0.mode,.int .i64 e0.num,.int .i64 e0.den]⟩ :: cap) (hg:=hg) (hF w7 K7.B _ _ _ _ _ (hE0_0.below K7.B) (hE0_1.below K7.B)) fun en w8 hh=>?_
  obtain ⟨rfl,b8⟩:=hh
  refine ⟨_,rfl,?_⟩
  have K8:=K7.below b8
  refine AC fY K8 [] fun w9 K9=>?_
  refine AK (F e0) (fun c10=>?_) (fun c10=>?_)
  ·refine AC m8 K9 [] fun w11 K10=>?_
   exact AM K10 (0,0) (.int .i64 ((i0:Int))) (by rw [hv0,c10] <;> rfl)
  ·refine AC (Ai Yu) K9 [] fun w12 K11=>?_
   refine Ax [(0,.slice (some ⟨gB0,fB0,none⟩) ds.length p0c),(1,.func (.func g) #[] ⟨cap⟩),(4,.int .i64 a0_0),(7,.int .i64 ((ds.length:Int))),(8,.int .i64 (IntKind.i64.wrap ((i0:Int) + 1)))] fun E13=>?_
   have K12:Wk w w12 [] [] []:=K11.pk [] []
   rw [Bf i0 (by omega)]
   refine hagain0 _ _ ⟨i0 + 1,a0_0,E13,hlt0,rfl,by rw [hv0,c10] <;> rfl,K12⟩ ?_
   show ds.length - AQ (.int .i64 ((i0 + 1:Nat):Int)) < ds.length - AQ (.int .i64 (i0:Int))
   simp only [AQ]
   omega
 ·have hie0:i0=ds.length:=by have:=of_decide_eq_false c5; omega
  rw [hie0,List.drop_length,Ml] at hv0
  refine AC m7 K5 [] fun w14 K13=>?_
  exact AM K13 (0,0) (.int .i64 (-1)) (by rw [hv0] <;> rfl)
def FR (F:Df→Bool) (ds:List (Df)):Bool:=decide (0≤AH F ds)
noncomputable def SL:Code:=Tryz.f45.body.getD .skip
def bM:List Item:=AB 60 ([.code SL])
def kQ:List Item:=AB 60 (AF bM)
theorem NX (F:Df→Bool) (p0A:Option Addr) (ds:List (Df)) (p0c:Nat) (g:FuncId) (cap:List Value) (w:World) (h_ds:rowsDf w p0A ds) (hl_ds:ds.length≤4294967296) (hg:DO Tryz.prog g=true) (hF:∀ u,Below w.heap.size w u→∀ (e:Df) (A1:Option Addr) (c1:Nat) (A2:Option Addr) (c2:Nat),C1 u A1 e.ents→rowsEx u A2 e.body.ks→Calls Tryz.prog g (.agg ⟨Be e A1 c1 A2 c2⟩ :: cap).toArray u fun en w'=>en=.returned (.bool (F e))∧Below u.heap.size u w'):Calls Tryz.prog 45 ([.slice p0A ds.length p0c,.func (.func g) #[] ⟨cap⟩]:List Value).toArray w fun e w'=>e=.returned (.bool (FR F ds))∧Below w.heap.size w w':=by
 refine Ab (fn:=Tryz.f45) (c:=SL) (n:=9) ?_
 have K1:=Wk.start w
 refine AC bM K1 [] fun w1 K2=>?_
 refine Ak K2 (args:=[.slice p0A ds.length p0c,.func (.func g) #[] ⟨cap⟩]) (LF F _ ds _ g cap w1 (h_ds.below K2.B) hl_ds hg (fun u2 b2=>hF u2 (K2.B.trans (b2.mono K2.B.size)))) fun w2 K3=>?_
 refine AC kQ K3 [] fun w3 K4=>?_
 exact AM K4 (0,0) (.bool (decide (0≤AH F ds))) (by unfold FR; rfl)
end
end Go.Proofs.YtmcpjkcggfmcmaaGreatDoor
namespace Go.Proofs.YtmcpjkcggfmcmaaGreatDoor
noncomputable section
open Go.RowKit
set_option maxRecDepth 100000
set_option maxHeartbeats 1000000
attribute [local irreducible] BD Bb AF AG AL A4 Ai AO BO CV Di CC Bp At Fr
def eQ (T:TypeId) (x:Nat):Op→Bool
 | .load t (.tmp y)=>t == T && y == x
 | _=>false
def Gq (x:Df) (d:Df):Bool:=Gp x d
noncomputable def Q8:Code:=Tryz.f46.body.getD .skip
def iU:List Item:=AB (As (eQ 34 1) 90 ([.code Q8])) ([.code Q8])
def iT:List Item:=AB 60 (AF (iU))
def oG:List Item:=AB 60 (AF iT)
theorem Rv (x:Df) (p0A0:Option Addr) (p0c0:Nat) (p0A1:Option Addr) (p0c1:Nat) (b:Nat) (d:Df) (bA0:Option Addr) (bc0:Nat) (bA1:Option Addr) (bc1:Nat) (w:World) (h_x0:C1 w p0A0 x.ents) (h_x1:rowsEx w p0A1 x.body.ks) (hlt_b:b < w.heap.size) (hrow_b:w.rangeAt b 0 [.int .i64 d.kind,.string ⟨⟨d.name⟩⟩,.bool (d.tb),.int .i64 d.tm,.int .i64 d.th,.int .i64 d.td,.int .i64 d.frm,.slice bA0 d.ents.length bc0,.int .i64 d.body.op,.int .i64 d.body.num,.int .i64 d.body.den,.int .i64 d.body.mu,.int .i64 d.body.hu,.int .i64 d.body.du,.string ⟨⟨d.body.nm⟩⟩,.int .i64 d.body.cnt,.int .i64 d.body.md,.slice bA1 d.body.ks.length bc1,.int .i64 d.mode,.int .i64 d.num,.int .i64 d.den]) (h_d0:C1 w bA0 d.ents) (h_d1:rowsEx w bA1 d.body.ks):Calls Tryz.prog 46 ([.agg ⟨[.int .i64 x.kind,.string ⟨⟨x.name⟩⟩,.bool (x.tb),.int .i64 x.tm,.int .i64 x.th,.int .i64 x.td,.int .i64 x.frm,.slice p0A0 x.ents.length p0c0,.int .i64 x.body.op,.int .i64 x.body.num,.int .i64 x.body.den,.int .i64 x.body.mu,.int .i64 x.body.hu,.int .i64 x.body.du,.string ⟨⟨x.body.nm⟩⟩,.int .i64 x.body.cnt,.int .i64 x.body.md,.slice p0A1 x.body.ks.length p0c1,.int .i64 x.mode,.int .i64 x.num,.int .i64 x.den]⟩,.pointer (some ⟨b,0,none⟩)]:List Value).toArray w fun e w'=>e=.returned (.bool (Gq x d))∧Below w.heap.size w w':=by
 refine Ab (fn:=Tryz.f46) (c:=Q8) (n:=7) ?_
 have hxg:=hlt_b
 have hr99_:=hrow_b
 have K1:=Wk.start w
 refine SZ (eQ 34 1) iU K1 [(0,0)] fun w1 K2=>?_
 refine Bc 34 b 0 [.int .i64 d.kind,.string ⟨⟨d.name⟩⟩,.bool (d.tb),.int .i64 d.tm,.int .i64 d.th,.int .i64 d.td,.int .i64 d.frm,.slice bA0 d.ents.length bc0,.int .i64 d.body.op,.int .i64 d.body.num,.int .i64 d.body.den,.int .i64 d.body.mu,.int .i64 d.body.hu,.int .i64 d.body.du,.string ⟨⟨d.body.nm⟩⟩,.int .i64 d.body.cnt,.int .i64 d.body.md,.slice bA1 d.body.ks.length bc1,.int .i64 d.mode,.int .i64 d.num,.int .i64 d.den] (some 5) (Af hrow_b hlt_b K2.B) ?_
 refine AC iT K2 [] fun w2 K3=>?_
 refine Ak K3 (Ru x p0A0 p0c0 p0A1 p0c1 d bA0 bc0 bA1 bc1 w2 (h_x0.below K3.B) (h_x1.below K3.B) (h_d0.below K3.B) (h_d1.below K3.B)) fun w3 K4=>?_
 refine AC oG K4 [] fun w4 K5=>?_
 exact AM K5 (0,0) (.bool (Gp x d)) (by unfold Gq; rfl)
def AD (x:Df) (d:Df):Bool:=decide (x.name=d.name)
noncomputable def YB:Code:=Tryz.f86.body.getD .skip
def iS:List Item:=Ac 1 ([.code YB])
def oF:List Item:=AB 60 (AO iS)
theorem M6 (x:Df) (p0A0:Option Addr) (p0c0:Nat) (p0A1:Option Addr) (p0c1:Nat) (b:Nat) (d:Df) (bA0:Option Addr) (bc0:Nat) (bA1:Option Addr) (bc1:Nat) (w:World) (h_x0:C1 w p0A0 x.ents) (h_x1:rowsEx w p0A1 x.body.ks) (hlt_b:b < w.heap.size) (hrow_b:w.rangeAt b 0 [.int .i64 d.kind,.string ⟨⟨d.name⟩⟩,.bool (d.tb),.int .i64 d.tm,.int .i64 d.th,.int .i64 d.td,.int .i64 d.frm,.slice bA0 d.ents.length bc0,.int .i64 d.body.op,.int .i64 d.body.num,.int .i64 d.body.den,.int .i64 d.body.mu,.int .i64 d.body.hu,.int .i64 d.body.du,.string ⟨⟨d.body.nm⟩⟩,.int .i64 d.body.cnt,.int .i64 d.body.md,.slice bA1 d.body.ks.length bc1,.int .i64 d.mode,.int .i64 d.num,.int .i64 d.den]) (h_d0:C1 w bA0 d.ents) (h_d1:rowsEx w bA1 d.body.ks):Calls Tryz.prog 86 ([.agg ⟨[.int .i64 x.kind,.string ⟨⟨x.name⟩⟩,.bool (x.tb),.int .i64 x.tm,.int .i64 x.th,.int .i64 x.td,.int .i64 x.frm,.slice p0A0 x.ents.length p0c0,.int .i64 x.body.op,.int .i64 x.body.num,.int .i64 x.body.den,.int .i64 x.body.mu,.int .i64 x.body.hu,.int .i64 x.body.du,.string ⟨⟨x.body.nm⟩⟩,.int .i64 x.body.cnt,.int .i64 x.body.md,.slice p0A1 x.body.ks.length p0c1,.int .i64 x.mode,.int .i64 x.num,.int .i64 x.den]⟩,.pointer (some ⟨b,0,none⟩)]:List Value).toArray w fun e w'=>e=.returned (.bool (AD x d))∧Below w.heap.size w w':=by
 refine Ab (fn:=Tryz.f86) (c:=YB) (n:=9) ?_
 have hxg:=hlt_b
 have hr99_:=hrow_b
 have K1:=Wk.start w
 refine Bw 1 iS [⟨w.heap.size,0,(Be x p0A0 p0c0 p0A1 p0c1),34,true⟩] K1 [] fun w1 K2=>?_
 refine Aj K2 [(1,0,1),(3,1,1)] [⟨4,[(5,.string ⟨⟨x.name⟩⟩),(7,.string ⟨⟨d.name⟩⟩)],.bool (decide (x.name=d.name)),true⟩] (Fq (x:=⟨b,0 + 0 * 0,[.int .i64 d.kind,.string ⟨⟨d.name⟩⟩,.bool (d.tb),.int .i64 d.tm,.int .i64 d.th,.int .i64 d.td,.int .i64 d.frm,.slice bA0 d.ents.length bc0,.int .i64 d.body.op,.int .i64 d.body.num,.int .i64 d.body.den,.int .i64 d.body.mu,.int .i64 d.body.hu,.int .i64 d.body.du,.string ⟨⟨d.body.nm⟩⟩,.int .i64 d.body.cnt,.int .i64 d.body.md,.slice bA1 d.body.ks.length bc1,.int .i64 d.mode,.int .i64 d.num,.int .i64 d.den],34,false⟩) K2.G ⟨Nat.lt_of_lt_of_le hxg K2.B.size,Af hr99_ hxg K2.B⟩) (fun sp hsp=>?_) fun w2 E2 K3=>?_
 ·rw [List.mem_singleton.1 hsp]
  exact Av fun _ E u _=>GH (T:=9) (T':=9) (x:=.tmp 5) (y:=.tmp 7)
 refine AC oF K3 [] fun w3 K4=>?_
 exact AM K4 (0,0) (.bool (decide (x.name=d.name))) (by unfold AD; rfl)
end
end Go.Proofs.YtmcpjkcggfmcmaaGreatDoor

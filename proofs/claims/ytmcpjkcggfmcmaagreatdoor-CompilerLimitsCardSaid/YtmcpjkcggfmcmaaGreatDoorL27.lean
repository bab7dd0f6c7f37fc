/-
  Part 27 of a proof: contracts of functions.
-/
import Derived.Test.YtmcpjkcggfmcmaaGreatDoorL26
set_option linter.all false
namespace Go.Proofs.YtmcpjkcggfmcmaaGreatDoor
noncomputable section
open Go.RowKit
set_option maxRecDepth 100000
set_option maxHeartbeats 1000000
attribute [local irreducible] BD Bb AF AG AL A4 Ai AO BO CV Di CC Bp At Fr
theorem HU {ds:List Df} {p1:Int}:∀ (es:List Df) (i:Nat) (a:List Nat),(∀ x∈a,x < i)→∀ x∈Cn ds p1 es i a,x < i + es.length
 | [],i,a,h=>fun x hx=>by rw [Cn] at hx; exact h x hx
 | e :: es,i,a,h=>fun x hx=>by
  rw [Cn] at hx
  rw [List.length_cons]
  revert hx
  cases (cond (cond (e.kind == 1) (true) (e.kind == 5)) (true) (cond (decide (e.frm≤p1)) (!(EM ds p1 i)) (false))) <;> intro hx
  ·have:=HU es (i + 1) a (fun x hx=>Nat.lt_succ_of_lt (h x hx)) x hx
   omega
  ·have:=HU es (i + 1) (a++[i]) (fun x hx=>by
    rcases List.mem_append.1 hx with hx | hx
    ·exact Nat.lt_succ_of_lt (h x hx)
    ·rw [List.mem_singleton.1 hx]; exact Nat.lt_succ_self i) x hx
   omega
theorem HQ {ds:List Df} {p1:Int}:∀ (es:List Df) (i:Nat) (a:List Nat),(Cn ds p1 es i a).length≤a.length + es.length
 | [],i,a=>by rw [Cn]; exact Nat.le_refl _
 | e :: es,i,a=>by
  rw [Cn,List.length_cons]
  cases (cond (cond (e.kind == 1) (true) (e.kind == 5)) (true) (cond (decide (e.frm≤p1)) (!(EM ds p1 i)) (false)))
  ·have:=HQ (ds:=ds) (p1:=p1) es (i + 1) a
   exact Nat.le_trans this (by omega)
  ·have:=HQ (ds:=ds) (p1:=p1) es (i + 1) (a++[i])
   rw [List.length_append,List.length_singleton] at this
   exact Nat.le_trans this (by omega)
theorem EK {ds:List Df} {p1:Int}:∀ x∈Aw ds p1,x < ds.length:=fun x hx=>by
 have:=HU ds 0 [] (fun x hx=>by cases hx) x hx
 omega
theorem Ih {ds:List Df} {p1:Int}:(Aw ds p1).length≤ds.length:=by
 have:=HQ (ds:=ds) (p1:=p1) ds 0 []
 simpa [Aw] using this
theorem FH {n:List UInt8} {ds:List Df} {p1:Int}:∀ x∈BG n ds p1,x < ds.length:=fun x hx=>by
 unfold BG at hx
 revert hx
 cases !(Dt n ds p1 == 0) <;> intro hx
 ·exact EK x hx
 ·cases hx
theorem Rz {n:List UInt8} {ds:List Df} {p1:Int}:(BG n ds p1).length≤ds.length:=by
 unfold BG
 cases !(Dt n ds p1 == 0)
 ·exact Ih
 ·exact Nat.zero_le _
def Bn (ds:List (Df)):List (Nat)→List (List UInt8)→List (List (Int×Int×Int))→List (List UInt8)→List (List UInt8×Int)→List (List UInt8×Int)→List (List UInt8×Int)→List (List UInt8)×List (List (Int×Int×Int))×List (List UInt8)×List (List UInt8×Int)×List (List UInt8×Int)×List (List UInt8×Int)×List (List UInt8×Int)
 | [],a0_0,a0_1,a0_2,a0_3,a0_4,a0_5=>(a0_0,a0_1,a0_2,a0_3,a0_4,a0_5,[])
 | e0 :: tl,a0_0,a0_1,a0_2,a0_3,a0_4,a0_5=>cond ((ds.getD e0 default).kind == 1) (Bn ds tl (a0_0++[(ds.getD e0 default).name]) a0_1 a0_2 (CN a0_3 ((ds.getD e0 default).name) (a0_0.length:Int)) a0_4 a0_5) (cond ((ds.getD e0 default).kind == 2) (Bn ds tl a0_0 (a0_1++[(id (ds.getD e0 default).ents)]) a0_2 a0_3 (CN a0_4 ((ds.getD e0 default).name) (a0_1.length:Int)) a0_5) (cond ((ds.getD e0 default).kind == 5) (Bn ds tl a0_0 a0_1 (a0_2++[(ds.getD e0 default).name]) a0_3 a0_4 (CN a0_5 ((ds.getD e0 default).name) (a0_2.length:Int))) (Bn ds tl a0_0 a0_1 a0_2 a0_3 a0_4 a0_5)))
theorem Ko {ds:List (Df)} {a0_0:List (List UInt8)} {a0_1:List (List (Int×Int×Int))} {a0_2:List (List UInt8)} {a0_3:List (List UInt8×Int)} {a0_4:List (List UInt8×Int)} {a0_5:List (List UInt8×Int)}:Bn ds [] a0_0 a0_1 a0_2 a0_3 a0_4 a0_5=((a0_0,a0_1,a0_2,a0_3,a0_4,a0_5,[])):=by rw [Bn]
theorem J2 {ds:List (Df)} {a0_0:List (List UInt8)} {a0_1:List (List (Int×Int×Int))} {a0_2:List (List UInt8)} {a0_3:List (List UInt8×Int)} {a0_4:List (List UInt8×Int)} {a0_5:List (List UInt8×Int)} {es:List (Nat)} (i:Nat) (e0:Nat) (hi:es[i]?=some e0):Bn ds (es.drop i) a0_0 a0_1 a0_2 a0_3 a0_4 a0_5=(cond ((ds.getD e0 default).kind == 1) (Bn ds (es.drop (i + 1)) (a0_0++[(ds.getD e0 default).name]) a0_1 a0_2 (CN a0_3 ((ds.getD e0 default).name) (a0_0.length:Int)) a0_4 a0_5) (cond ((ds.getD e0 default).kind == 2) (Bn ds (es.drop (i + 1)) a0_0 (a0_1++[(id (ds.getD e0 default).ents)]) a0_2 a0_3 (CN a0_4 ((ds.getD e0 default).name) (a0_1.length:Int)) a0_5) (cond ((ds.getD e0 default).kind == 5) (Bn ds (es.drop (i + 1)) a0_0 a0_1 (a0_2++[(ds.getD e0 default).name]) a0_3 a0_4 (CN a0_5 ((ds.getD e0 default).name) (a0_2.length:Int))) (Bn ds (es.drop (i + 1)) a0_0 a0_1 a0_2 a0_3 a0_4 a0_5)))):=by
 have hl:i < es.length:=(List.getElem?_eq_some_iff.1 hi).1
 have he:es[i]=e0:=(List.getElem?_eq_some_iff.1 hi).2
 rw [← List.getElem_cons_drop hl,Bn] <;> (try rw [he])
def AA (p0a:List UInt8) (ds:List (Df)) (p1:Int):List (List UInt8)×List (List (Int×Int×Int))×List (List UInt8)×List (List UInt8×Int)×List (List UInt8×Int)×List (List UInt8×Int)×List (List UInt8×Int):=Bn ds (BG p0a ds p1) ([]) ([]) ([]) ([]) ([]) ([])
noncomputable def Q7:Code:=Tryz.f20.body.getD .skip
def Tg:List Item:=AB (As GA 90 ([.code Q7])) ([.code Q7])
def Tf:List Item:=AB (As GA 90 (AF Tg)) (AF Tg)
def Tb:List Item:=AB (As GA 90 (AF Tf)) (AF Tf)
def ZY:List Item:=AB (As GA 90 (AF Tb)) (AF Tb)
def iA:List Item:=AB 60 (AF ZY)
def NI:List Item:=AB 60 (AF iA)
def Ta:List Item:=AB 60 (A4 NI)
def ZX:List Item:=AB (As Ae 90 (AG Ta)) (AG Ta)
def hZ:List Item:=AB (As Ae 90 (AF (AF ZX))) (AF (AF ZX))
def ZW:List Item:=AB 60 (AF (AF hZ))
def Te:List Item:=AB 60 (AG ZW)
def cK:List Item:=AB (As BK 90 (AF Te)) (AF Te)
def Td:List Item:=AB 60 (AL ZW)
def cJ:List Item:=AB 60 (AG Td)
def cI:List Item:=Ac 12 (AF cJ)
def Fm:Array Oper:=(Cs cI).getD #[]
def fO:Wr:=[(62,2),(64,4),(65,5),(66,6)]
def cH:List Item:=AB 60 (AL Td)
def Tc:List Item:=AB 60 (AG cH)
def cG:List Item:=AB (As BK 90 (AF Tc)) (AF Tc)
def lD:List Item:=AB 60 (AL Ta)
theorem OM (p0a:List UInt8) (p0bA:Option Addr) (ds:List (Df)) (p0bc:Nat) (p1:Int) (w:World) (h_ds:rowsDf w p0bA ds) (hl_ds:ds.length≤4294967296) (hs:p0a.length≤4294967296) (ht:∀ d∈ds,GB d) (hle:∀ d∈ds,d.ents.length≤4294967296):Calls Tryz.prog 20 ([.agg ⟨[.string ⟨⟨p0a⟩⟩,.slice p0bA ds.length p0bc]⟩,.int .i64 p1]:List Value).toArray w fun e w'=>∃ (rA0:Option Addr) (rc0:Nat) (rA1:Option Addr) (rc1:Nat) (rx1:List OH) (rA2:Option Addr) (rc2:Nat) (rb4:Nat) (rb5:Nat) (rb6:Nat) (rb7:Nat),e=.returned (.agg ⟨[.slice rA0 ((((AA p0a ds p1)).1).length) rc0,.slice rA1 rx1.length rc1,.slice rA2 ((((AA p0a ds p1)).2.2.1).length) rc2,.slice none 0 0,.map (some rb4),.map (some rb5),.map (some rb6),.map (some rb7)]⟩)∧rx1.map Prod.fst=((AA p0a ds p1)).2.1∧Below w.heap.size w w'∧AY w.heap.size w' [Bg rA0 rc0 (((AA p0a ds p1)).1),D1 rA1 rc1 rx1,DS rx1,Bg rA2 rc2 (((AA p0a ds p1)).2.2.1),AZ.th BC rb4 (((AA p0a ds p1)).2.2.2.1),AZ.th BC rb5 (((AA p0a ds p1)).2.2.2.2.1),AZ.th BC rb6 (((AA p0a ds p1)).2.2.2.2.2.1),AZ.th BC rb7 (((AA p0a ds p1)).2.2.2.2.2.2)]:=by
 refine Ab (fn:=Tryz.f20) (c:=Q7) (n:=92) ?_
 have K1:=Wk.start w
 refine CA GA Tg [⟨w.heap.size,0,[.string ⟨⟨p0a⟩⟩,.slice p0bA ds.length p0bc],38,true⟩,⟨w.heap.size + 1,0,[.slice none 0 0,.slice none 0 0,.slice none 0 0,.slice none 0 0,.map none,.map none,.map none,.map none],75,true⟩] K1 [] fun w1 K2=>?_
 refine Gt BC K2.H (Ck Tg) (by kernel_rfl) (t:=73) (by kernel_rfl) fun w2 Z2 Hn b2=>?_
 have K3:=K2.add b2 Hn
 refine BA GA Tf K3 [] fun w3 K4=>?_
 refine Gt BC K4.H (Ck Tf) (by kernel_rfl) (t:=73) (by kernel_rfl) fun w4 Z4 Hn b4=>?_
 have K5:=K4.add b4 Hn
 refine BA GA Tb K5 [] fun w5 K6=>?_
 refine Gt BC K6.H (Ck Tb) (by kernel_rfl) (t:=73) (by kernel_rfl) fun w6 Z6 Hn b6=>?_
 have K7:=K6.add b6 Hn
 refine BA GA ZY K7 [] fun w7 K8=>?_
 refine Gt BC K8.H (Ck ZY) (by kernel_rfl) (t:=73) (by kernel_rfl) fun w8 Z8 Hn b8=>?_
 have K9:=K8.add b8 Hn
 refine Bv iA [⟨w.heap.size,0,[.string ⟨⟨p0a⟩⟩,.slice p0bA ds.length p0bc],38,true⟩,⟨w.heap.size + 1,0,[.slice none 0 0,.slice none 0 0,.slice none 0 0,.slice none 0 0,.map none,.map none,.map none,.map none],75,true⟩,⟨w8.heap.size,0,[.slice none 0 0,.slice none 0 0,.slice none 0 0,.slice none 0 0,.map (some w1.heap.size),.map (some w3.heap.size),.map (some w5.heap.size),.map (some w7.heap.size)],75,true⟩] K9 [(2,0),(0,0)] fun w9 K10=>?_
 refine BX (Vt p0a p0bA ds p0bc p1 w9 (h_ds.below K10.B) (by first | assumption | omega | (simp <;> omega)) hs ht) fun en w11 hh=>?_
 obtain ⟨A10_0,c10_0,rfl,b11,Hn⟩:=hh
 refine ⟨_,rfl,?_⟩
 have K11:=K10.join b11 Hn
 have hla:=Rz (n:=p0a) (ds:=ds) (p1:=p1)
 refine AC NI K11 [] fun w12 K12=>?_
 have K13:Wk w w12 [⟨w.heap.size,0,[.string ⟨⟨p0a⟩⟩,.slice p0bA ds.length p0bc],38,true⟩,⟨w.heap.size + 1,0,[.slice none 0 0,.slice none 0 0,.slice none 0 0,.slice none 0 0,.map none,.map none,.map none,.map none],75,true⟩,⟨w8.heap.size,0,[.slice none 0 0,.slice none 0 0,.slice none 0 0,.slice none 0 0,.map (some w1.heap.size),.map (some w3.heap.size),.map (some w5.heap.size),.map (some w7.heap.size)],75,true⟩] [(AZ.th BC w1.heap.size ([])),(AZ.th BC w3.heap.size ([])),(AZ.th BC w5.heap.size ([])),(AZ.th BC w7.heap.size ([])),(BE A10_0 c10_0 (BG p0a ds p1))] []:=K12.pk [0,1,2] [0,1,2,3,4]
 have K14:=K13.addNil 9 1 (fun e r=>r=Fw e)
 have K15:=K14.addNil 27 1 (fun e r=>r=Np e)
 have K16:=K15.addFam K0
 have K17:=K16.addNil 9 1 (fun e r=>r=Fw e)
 have hv0:(AA p0a ds p1)=Bn ds (BG p0a ds p1) ([]) ([]) ([]) ([]) ([]) ([]):=by unfold AA; rfl
 refine Ax [(2,.pointer (some ⟨w.heap.size,0,none⟩)),(4,.pointer (some ⟨w.heap.size + 1,0,none⟩)),(5,.pointer (some ⟨w8.heap.size,0,none⟩)),(16,.slice A10_0 ((BG p0a ds p1).length) c10_0),(17,.int .i64 (((BG p0a ds p1).length:Int))),(18,.int .i64 (((0:Nat):Int)))] fun E13=>?_
 refine Bj (by kernel_rfl) (fun E wx0=>∃ (i0:Nat) (a0_0:List (List UInt8)) (a0_1:List OH) (a0_2:List (List UInt8)) (a0_3:List (List UInt8×Int)) (a0_4:List (List UInt8×Int)) (a0_5:List (List UInt8×Int)) (a0_0A:Option Addr) (a0_0c:Nat) (a0_1A:Option Addr) (a0_1c:Nat) (a0_2A:Option Addr) (a0_2c:Nat) (E0:Nat→Value),i0≤(BG p0a ds p1).length∧E=CX E0 [(2,.pointer (some ⟨w.heap.size,0,none⟩)),(4,.pointer (some ⟨w.heap.size + 1,0,none⟩)),(5,.pointer (some ⟨w8.heap.size,0,none⟩)),(16,.slice A10_0 ((BG p0a ds p1).length) c10_0),(17,.int .i64 (((BG p0a ds p1).length:Int))),(18,.int .i64 ((i0:Int)))]∧(AA p0a ds p1)=Bn ds (List.drop i0 (BG p0a ds p1)) a0_0 (a0_1.map Prod.fst) a0_2 a0_3 a0_4 a0_5∧a0_0.length≤1 * i0 + 0∧a0_1.length≤1 * i0 + 0∧a0_2.length≤1 * i0 + 0∧a0_3.length≤1 * i0 + 0∧a0_4.length≤1 * i0 + 0∧a0_5.length≤1 * i0 + 0∧Wk w wx0 [⟨w.heap.size,0,[.string ⟨⟨p0a⟩⟩,.slice p0bA ds.length p0bc],38,true⟩,⟨w.heap.size + 1,0,[.slice none 0 0,.slice none 0 0,.slice none 0 0,.slice none 0 0,.map none,.map none,.map none,.map none],75,true⟩,⟨w8.heap.size,0,[.slice a0_0A a0_0.length a0_0c,.slice a0_1A a0_1.length a0_1c,.slice a0_2A a0_2.length a0_2c,.slice none 0 0,.map (some w1.heap.size),.map (some w3.heap.size),.map (some w5.heap.size),.map (some w7.heap.size)],75,true⟩] [(AZ.th BC w1.heap.size a0_3),(AZ.th BC w3.heap.size a0_4),(AZ.th BC w5.heap.size a0_5),(AZ.th BC w7.heap.size ([])),(BE A10_0 c10_0 (BG p0a ds p1)),(Bg a0_0A a0_0c a0_0),(D1 a0_1A a0_1c a0_1),(DS a0_1),(Bg a0_2A a0_2c a0_2)] []) (fun E _=>(BG p0a ds p1).length - AQ (E 18)) ⟨0,([]),([]),([]),([]),([]),([]),none,0,none,0,none,0,E13,Nat.zero_le _,rfl,hv0,by simp,by simp,by simp,by simp,by simp,by simp,K17⟩ ?_
 clear hv0
 rintro E wx0 ⟨i0,a0_0,a0_1,a0_2,a0_3,a0_4,a0_5,a0_0A,a0_0c,a0_1A,a0_1c,a0_2A,a0_2c,E0,hi0,rfl,hv0,hb0_0,hb0_1,hb0_2,hb0_3,hb0_4,hb0_5,K18⟩ hagain0
 refine AC Ta K18 [] fun w15 K19=>?_
 refine AK (decide ((i0:Int) < ((BG p0a ds p1).length:Int))) (fun c16=>?_) (fun c16=>?_)
 ·have hlt0:i0 < (BG p0a ds p1).length:=by have:=of_decide_eq_true c16; omega
  obtain ⟨e0,he0⟩:∃ e,(BG p0a ds p1)[i0]?=some e:=⟨_,List.getElem?_eq_getElem hlt0⟩
  rw [J2 i0 e0 he0] at hv0
  obtain ⟨gB0,rfl,hB0g⟩:=K19.H.rowAt (K19.ix 4) (K19.at 4 rfl) (by omega)
  refine BA Ae ZX K19 [] fun w17 K20=>?_
  refine BB (g:=gB0) (off:=0) (cap:=c10_0) (sz:=1) (k:=i0) (len:=(BG p0a ds p1).length) (some 20) hlt0 Tryz.underlying56 ?_
  refine Dm 3 gB0 (0 + i0 * 1) (.int .i64 ((e0:Int))) (some 21) (by simpa using (K20.H.cellsF (T:=3) (n:=1) (f:=Eb) (c:=c10_0) (l:=(BG p0a ds p1)) (fun _=>rfl) (K20.ix 4) (K20.at 4 rfl) he0) 0 _ rfl) ?_
  obtain ⟨gB1,fB1,rfl,hB1g,hB1a⟩:=h_ds.all (Nat.lt_of_le_of_lt (Nat.zero_le _) (FH _ (List.mem_of_getElem? he0)))
  have hd1:ds[e0]?=some (ds.getD e0 default):=getD_some default (FH _ (List.mem_of_getElem? he0))
  obtain ⟨aE1_0,cE1_0,aE1_1,cE1_1,hr1_,hE1_0,hE1_1⟩:=hB1a e0 _ hd1
  refine BA Ae hZ K20 [(0,1)] fun w18 K21=>?_
  refine BB (g:=gB1) (off:=fB1) (cap:=p0bc) (sz:=21) (k:=e0) (len:=ds.length) (some 25) (FH _ (List.mem_of_getElem? he0)) Tryz.underlying36 ?_
  refine Bc 34 gB1 (fB1 + e0 * 21) [.int .i64 ((ds.getD e0 default).kind),.string ⟨⟨(ds.getD e0 default).name⟩⟩,.bool ((ds.getD e0 default).tb),.int .i64 ((ds.getD e0 default).tm),.int .i64 ((ds.getD e0 default).th),.int .i64 ((ds.getD e0 default).td),.int .i64 ((ds.getD e0 default).frm),.slice aE1_0 ((ds.getD e0 default).ents.length) cE1_0,.int .i64 ((ds.getD e0 default).body.op),.int .i64 ((ds.getD e0 default).body.num),.int .i64 ((ds.getD e0 default).body.den),.int .i64 ((ds.getD e0 default).body.mu),.int .i64 ((ds.getD e0 default).body.hu),.int .i64 ((ds.getD e0 default).body.du),.string ⟨⟨(ds.getD e0 default).body.nm⟩⟩,.int .i64 ((ds.getD e0 default).body.cnt),.int .i64 ((ds.getD e0 default).body.md),.slice aE1_1 ((ds.getD e0 default).body.ks.length) cE1_1,.int .i64 ((ds.getD e0 default).mode),.int .i64 ((ds.getD e0 default).num),.int .i64 ((ds.getD e0 default).den)] (some 26) (Af hr1_ hB1g K21.B) ?_
  refine Bv ZW [⟨w.heap.size,0,[.string ⟨⟨p0a⟩⟩,.slice (some ⟨gB1,fB1,none⟩) ds.length p0bc],38,true⟩,⟨w.heap.size + 1,0,[.slice none 0 0,.slice none 0 0,.slice none 0 0,.slice none 0 0,.map none,.map none,.map none,.map none],75,true⟩,⟨w8.heap.size,0,[.slice a0_0A a0_0.length a0_0c,.slice a0_1A a0_1.length a0_1c,.slice a0_2A a0_2.length a0_2c,.slice none 0 0,.map (some w1.heap.size),.map (some w3.heap.size),.map (some w5.heap.size),.map (some w7.heap.size)],75,true⟩,⟨w18.heap.size,0,(Be (ds.getD e0 default) aE1_0 cE1_0 aE1_1 cE1_1),34,true⟩] K21 [(3,0),(3,0)] fun w19 K22=>?_
  refine AK ((ds.getD e0 default).kind == 1) (fun c20=>?_) (fun c20=>?_)
  ·refine AC Te K22 [(2,4),(3,1),(2,0)] fun w21 K23=>?_
   have Kf:=(K23.pickL (L':=[(AZ.th BC w1.heap.size a0_3)]++[(AZ.th BC w3.heap.size a0_4),(AZ.th BC w5.heap.size a0_5),(AZ.th BC w7.heap.size ([])),(BE (some ⟨gB0,0,none⟩) c10_0 (BG p0a ds p1)),(Bg a0_0A a0_0c a0_0),(D1 a0_1A a0_1c a0_1),(DS a0_1),(Bg a0_2A a0_2c a0_2)]) [0,1,2,3,4,5,6,7,8] rfl (by decide)).front
   refine BX (args:=[.map (some w1.heap.size),.string ⟨⟨(ds.getD e0 default).name⟩⟩,.int .i64 ((a0_0.length:Int))]) (GR _ w1.heap.size a0_3 ((ds.getD e0 default).name) (a0_0.length:Int) w w21 (ht _ (Ds (FH _ (List.mem_of_getElem? he0)))).2 (by constructor <;> omega) (by ((try simp only [maxLen,List.length_append,List.length_cons,List.length_nil,List.length_singleton]) <;> omega)) K23.B Kf) fun en w23 hh=>?_
   obtain ⟨rfl,b23,Hn⟩:=hh
   refine ⟨_,rfl,?_⟩
   have K24:=Wk.unfront b23 Hn
   refine CA BK cK [⟨w.heap.size,0,[.string ⟨⟨p0a⟩⟩,.slice (some ⟨gB1,fB1,none⟩) ds.length p0bc],38,true⟩,⟨w.heap.size + 1,0,[.slice none 0 0,.slice none 0 0,.slice none 0 0,.slice none 0 0,.map none,.map none,.map none,.map none],75,true⟩,⟨w8.heap.size,0,[.slice a0_0A a0_0.length a0_0c,.slice a0_1A a0_1.length a0_1c,.slice a0_2A a0_2.length a0_2c,.slice none 0 0,.map (some w1.heap.size),.map (some w3.heap.size),.map (some w5.heap.size),.map (some w7.heap.size)],75,true⟩,⟨w18.heap.size,0,(Be (ds.getD e0 default) aE1_0 cE1_0 aE1_1 cE1_1),34,true⟩,⟨w23.heap.size,0,[.string ⟨⟨(ds.getD e0 default).name⟩⟩],9,true⟩] K24 [(2,0),(3,1)] fun w24 K25=>?_
   refine CF K25.H (K25.ix 5) (K25.at 5 rfl) ((ds.getD e0 default).name) [.string ⟨⟨(ds.getD e0 default).name⟩⟩] rfl (w23.heap.size) (K25.ent 4 (by kernel_rfl)) (Ck cK) (by kernel_rfl) (.tmp 42) (.tmp 45) 39 (by kernel_rfl) (by kernel_rfl) (by kernel_rfl) (by decide) (by kernel_rfl) (by kernel_rfl) rfl rfl (by ((try simp only [maxLen,List.length_append,List.length_cons,List.length_nil,List.length_singleton]) <;> omega)) fun A25 c25 w25 Hn b25=>?_
   have K26:=K25.put 5 (by simp) b25 Hn
   refine BF (Ai NI) K26 [(2,0)] fun w26 K27=>?_
   refine Ax [(2,.pointer (some ⟨w.heap.size,0,none⟩)),(4,.pointer (some ⟨w.heap.size + 1,0,none⟩)),(5,.pointer (some ⟨w8.heap.size,0,none⟩)),(16,.slice (some ⟨gB0,0,none⟩) ((BG p0a ds p1).length) c10_0),(17,.int .i64 (((BG p0a ds p1).length:Int))),(18,.int .i64 (IntKind.i64.wrap ((i0:Int) + 1)))] fun E27=>?_
   have K28:Wk w w26 [⟨w.heap.size,0,[.string ⟨⟨p0a⟩⟩,.slice (some ⟨gB1,fB1,none⟩) ds.length p0bc],38,true⟩,⟨w.heap.size + 1,0,[.slice none 0 0,.slice none 0 0,.slice none 0 0,.slice none 0 0,.map none,.map none,.map none,.map none],75,true⟩,⟨w8.heap.size,0,[.slice A25 ((a0_0++[(ds.getD e0 default).name]).length) c25,.slice a0_1A a0_1.length a0_1c,.slice a0_2A a0_2.length a0_2c,.slice none 0 0,.map (some w1.heap.size),.map (some w3.heap.size),.map (some w5.heap.size),.map (some w7.heap.size)],75,true⟩] [(AZ.th BC w1.heap.size (CN a0_3 ((ds.getD e0 default).name) (a0_0.length:Int))),(AZ.th BC w3.heap.size a0_4),(AZ.th BC w5.heap.size a0_5),(AZ.th BC w7.heap.size ([])),(BE (some ⟨gB0,0,none⟩) c10_0 (BG p0a ds p1)),(Bg A25 c25 (a0_0++[(ds.getD e0 default).name])),(D1 a0_1A a0_1c a0_1),(DS a0_1),(Bg a0_2A a0_2c a0_2)] []:=K27.pk [0,1,2] [0,1,2,3,4,5,6,7,8]
   rw [Bf i0 (by omega)]
   refine hagain0 _ _ ⟨i0 + 1,(a0_0++[(ds.getD e0 default).name]),a0_1,a0_2,(CN a0_3 ((ds.getD e0 default).name) (a0_0.length:Int)),a0_4,a0_5,A25,c25,a0_1A,a0_1c,a0_2A,a0_2c,E27,hlt0,rfl,by rw [hv0,c20] <;> first | rfl | (simp only [cond_true,cond_false,List.length_map,List.map_append,List.map_cons,List.map_nil,id]; done) | (simp only [cond_true,cond_false,List.length_map,List.map_append,List.map_cons,List.map_nil,id]; rfl),by ((try simp only [maxLen,List.length_append,List.length_cons,List.length_nil,List.length_singleton]) <;> omega),by ((try simp only [maxLen,List.length_append,List.length_cons,List.length_nil,List.length_singleton]) <;> omega),by ((try simp only [maxLen,List.length_append,List.length_cons,List.length_nil,List.length_singleton]) <;> omega),by (first | ((try simp only [maxLen,List.length_append,List.length_cons,List.length_nil,List.length_singleton]) <;> omega) | (refine Nat.le_trans (QL _ _ _) ?_; ((try simp only [maxLen,List.length_append,List.length_cons,List.length_nil,List.length_singleton]) <;> omega))),by (first | ((try simp only [maxLen,List.length_append,List.length_cons,List.length_nil,List.length_singleton]) <;> omega) | (refine Nat.le_trans (QL _ _ _) ?_; ((try simp only [maxLen,List.length_append,List.length_cons,List.length_nil,List.length_singleton]) <;> omega))),by (first | ((try simp only [maxLen,List.length_append,List.length_cons,List.length_nil,List.length_singleton]) <;> omega) | (refine Nat.le_trans (QL _ _ _) ?_; ((try simp only [maxLen,List.length_append,List.length_cons,List.length_nil,List.length_singleton]) <;> omega))),K28⟩ ?_
   show (BG p0a ds p1).length - AQ (.int .i64 ((i0 + 1:Nat):Int)) < (BG p0a ds p1).length - AQ (.int .i64 (i0:Int))
   simp only [AQ]
   omega
  ·refine AC Td K22 [] fun w28 K29=>?_
   refine AK ((ds.getD e0 default).kind == 2) (fun c29=>?_) (fun c29=>?_)
   ·refine AC cJ K29 [(2,5),(3,1),(2,1)] fun w30 K30=>?_
    have Kf:=(K30.pickL (L':=[(AZ.th BC w3.heap.size a0_4)]++[(AZ.th BC w1.heap.size a0_3),(AZ.th BC w5.heap.size a0_5),(AZ.th BC w7.heap.size ([])),(BE (some ⟨gB0,0,none⟩) c10_0 (BG p0a ds p1)),(Bg a0_0A a0_0c a0_0),(D1 a0_1A a0_1c a0_1),(DS a0_1),(Bg a0_2A a0_2c a0_2)]) [1,0,2,3,4,5,6,7,8] rfl (by decide)).front
    refine BX (args:=[.map (some w3.heap.size),.string ⟨⟨(ds.getD e0 default).name⟩⟩,.int .i64 ((a0_1.length:Int))]) (GR _ w3.heap.size a0_4 ((ds.getD e0 default).name) (a0_1.length:Int) w w30 (ht _ (Ds (FH _ (List.mem_of_getElem? he0)))).2 (by constructor <;> omega) (by ((try simp only [maxLen,List.length_append,List.length_cons,List.length_nil,List.length_singleton]) <;> omega)) K30.B Kf) fun en w32 hh=>?_
    obtain ⟨rfl,b32,Hn⟩:=hh
    refine ⟨_,rfl,?_⟩
    have K31:=Wk.unfront b32 Hn
    refine Ag 12 cI K31 [] fun w33 K32=>?_
    refine DY Fm 11 ?_
    refine Ct (i:=0) (v:=.pointer (some ⟨w8.heap.size,0,none⟩)) (Fm.getD 0 default) (fun _ _ _ h=>nomatch h.1) ?_
    refine Ct (i:=1) (v:=.pointer (some ⟨w8.heap.size,1,none⟩)) (Fm.getD 1 default) (fun _ _ _ h=>nomatch h.1) ?_
    refine Ct (i:=3) (v:=.pointer (some ⟨w18.heap.size,7,none⟩)) (Fm.getD 3 default) (fun _ _ _ h=>nomatch h.1) ?_
    refine Ce (md:=.any) (fuel:=4) (L:=[Ar 2 [] (.slice a0_1A a0_1.length a0_1c),Ar 4 [] (.slice aE1_0 ((ds.getD e0 default).ents.length) cE1_0),⟨5,[4],[5],fun vs u=>∃ (A34_0:Option Addr) (c34_0:Nat),vs=[.slice A34_0 (((id (ds.getD e0 default).ents)).length) c34_0]∧AY w33.heap.size u [IJ A34_0 c34_0 ((id (ds.getD e0 default).ents))]⟩,⟨6,[4,5],[5,6],fun vs u=>∃ (A34_0:Option Addr) (c34_0 gb6:Nat),vs=[.slice A34_0 (((id (ds.getD e0 default).ents)).length) c34_0,.slice (some ⟨gb6,0,none⟩) 1 1]∧AY w33.heap.size u [Th.ent ⟨gb6,0,[.slice A34_0 (((id (ds.getD e0 default).ents)).length) c34_0],27,true⟩,IJ A34_0 c34_0 ((id (ds.getD e0 default).ents))]⟩]) (W:=fO) (C:=fun u=>Below w33.heap.size w33 u) (Ext:=CQ) (Below.refl _ _).drew CQ.refl (fun _ _ _=>CQ.trans) ⟨?_,?_,?_,?_,trivial⟩ rfl ?_
    ·refine ⟨fun _ _ _ _ _ h=>h,fun vals u hu hb=>?_⟩
     exact AN.knownE [] trivial (AN.reads ⟨0,_,(2,1),[]⟩ (Au K32.G hu) (.slice a0_1A a0_1.length a0_1c) ⟨hu,.refl _,rfl⟩)
    ·refine ⟨fun _ _ _ _ _ h=>h,fun vals u hu hb=>?_⟩
     exact AN.knownE [] trivial (AN.reads ⟨0,_,(3,7),[]⟩ (Au K32.G hu) (.slice aE1_0 ((ds.getD e0 default).ents.length) cE1_0) ⟨hu,.refl _,rfl⟩)
    ·refine ⟨fun vs u u2 _ he ⟨A34_0,c34_0,h1,h2⟩=>⟨A34_0,c34_0,h1,h2.below he⟩,fun vals u hu hb=>?_⟩
     obtain ⟨h4,_⟩:=hb
     refine AN.knownE [(64,4,.slice aE1_0 ((ds.getD e0 default).ents.length) cE1_0)] ⟨(List.cons.inj h4).1,trivial⟩ (AN.call (f:=53) [.tmp 64] (args:=[.slice aE1_0 ((ds.getD e0 default).ents.length) cE1_0]) (ats:=#[27]) rfl (Ci _ _) ((Yc aE1_0 (ds.getD e0 default).ents cE1_0 u (hE1_0.below (K32.B.trans (hu.mono K32.B.size))) (hle _ (Ds (FH _ (List.mem_of_getElem? he0))))).mono fun en u2 hh=>?_))
     obtain ⟨A34_0,c34_0,rfl,bb,Hn⟩:=hh
     exact ⟨_,rfl,hu.trans (bb.mono hu.size),bb,A34_0,c34_0,rfl,Hn.mono hu.size⟩
    ·refine ⟨fun vs u u2 _ he ⟨A34_0,c34_0,gb6,h1,h2⟩=>⟨A34_0,c34_0,gb6,h1,h2.below he⟩,fun vals u hu hb=>?_⟩
     obtain ⟨h4,h5,_⟩:=hb
     obtain ⟨A34_0,c34_0,hv5,hO5⟩:=h5
     refine AN.knownE [(65,5,.slice A34_0 (((id (ds.getD e0 default).ents)).length) c34_0)] ⟨(List.cons.inj hv5).1,trivial⟩ (AN.runsK ⟨u.heap.size,[],(0,0),[]⟩ ⟨u.heap.size + 1,[⟨u.heap.size,0,[.slice A34_0 (((id (ds.getD e0 default).ents)).length) c34_0],27,true⟩],(0,0),[]⟩ (.value (.slice (some ⟨u.heap.size,0,none⟩) 1 1)) (.slice (some ⟨u.heap.size,0,none⟩) 1 1) (.inl rfl) (Bm u) rfl fun u2 hL hK=>?_)
     have Bq:Below u.heap.size u u2:=hK.below (Nat.le_refl _) (fun k hk=>by cases hk)
     have Hq:=AY.run (M:=[]) (M':=[⟨u.heap.size,0,[.slice A34_0 (((id (ds.getD e0 default).ents)).length) c34_0],27,true⟩]) (L:=[IJ A34_0 c34_0 ((id (ds.getD e0 default).ents))]) hO5 hL hK rfl
     exact ⟨hu.trans (Bq.mono hu.size),Bq,A34_0,c34_0,u.heap.size,by show [vals 5,_]=_; rw [(List.cons.inj hv5).1]; rfl,Hq⟩
    intro vals w35 b35 _ hall
    replace b35:Below w33.heap.size w33 w35:=b35
    obtain ⟨x2,x4,x5,x6,_⟩:=hall
    obtain ⟨A34_0,c34_0,gb6,hvs,Hn⟩:=x6
    replace Hn:AY w33.heap.size w35 [Th.ent ⟨gb6,0,[.slice A34_0 (((id (ds.getD e0 default).ents)).length) c34_0],27,true⟩,(IJ A34_0 c34_0 ((id (ds.getD e0 default).ents)))]:=Hn
    have K33:=K32.joinE b35 Hn
    have e6:vals 6=.slice (some ⟨gb6,0,none⟩) 1 1:=(List.cons.inj (List.cons.inj hvs).2).1
    refine C0 [(2,.pointer (some ⟨w.heap.size,0,none⟩)),(4,.pointer (some ⟨w.heap.size + 1,0,none⟩)),(5,.pointer (some ⟨w8.heap.size,0,none⟩)),(16,.slice (some ⟨gB0,0,none⟩) ((BG p0a ds p1).length) c10_0),(17,.int .i64 (((BG p0a ds p1).length:Int))),(18,.int .i64 ((i0:Int))),(62,vals 2),(66,vals 6)] fun E35=>?_
    rw [show vals 2=.slice a0_1A a0_1.length a0_1c from (List.cons.inj x2).1]
    rw [e6]
    obtain ⟨A36,c36,w36,hx36,Hn,b36⟩:=aW (E:=CX E35 [(2,.pointer (some ⟨w.heap.size,0,none⟩)),(4,.pointer (some ⟨w.heap.size + 1,0,none⟩)),(5,.pointer (some ⟨w8.heap.size,0,none⟩)),(16,.slice (some ⟨gB0,0,none⟩) ((BG p0a ds p1).length) c10_0),(17,.int .i64 (((BG p0a ds p1).length:Int))),(18,.int .i64 ((i0:Int))),(62,.slice a0_1A a0_1.length a0_1c),(66,.slice (some ⟨gb6,0,none⟩) 1 1)]) (k:=92) K33.H (K33.ix 6) (K33.at 6 rfl) (((id (ds.getD e0 default).ents),A34_0,c34_0)) [.slice A34_0 (((id (ds.getD e0 default).ents)).length) c34_0] rfl (gb6) (K33.ent 4 (by kernel_rfl)) (Fm.getD 7 default) (.tmp 62) (.tmp 66) 40 (by kernel_rfl) (by kernel_rfl) (by kernel_rfl) (by decide) (by kernel_rfl) (by kernel_rfl) rfl rfl (by ((try simp only [maxLen,List.length_append,List.length_cons,List.length_nil,List.length_singleton]) <;> omega))
    refine fI (i:=7) (Fm.getD 7 default) (by kernel_rfl) (by kernel_rfl) (by kernel_rfl) hx36 ?_
    have K34:=K33.put 6 (by simp) b36 Hn
    have K35:=K34.take 7 9 K0 a0_1 (a0_1++[((id (ds.getD e0 default).ents),A34_0,c34_0)]) (((id (ds.getD e0 default).ents),A34_0,c34_0)) rfl rfl (by decide) (by intro z; simp [or_comm])
    refine DW (i:=8) K35 (Fm.getD 8 default) (0,0) (.pointer (some ⟨w8.heap.size,0,none⟩)) fun w37 K36=>?_
    refine DW (i:=9) K36 (Fm.getD 9 default) (0,0) (.pointer (some ⟨w8.heap.size,1,none⟩)) fun w38 K37=>?_
    refine DW (i:=10) K37 (Fm.getD 10 default) (2,1) (undef) fun w39 K38=>?_
    refine DV ⟨rfl,At.mid ?_⟩
    refine AC (Ai NI) K38 [] fun w40 K39=>?_
    refine Ax [(2,.pointer (some ⟨w.heap.size,0,none⟩)),(4,.pointer (some ⟨w.heap.size + 1,0,none⟩)),(5,.pointer (some ⟨w8.heap.size,0,none⟩)),(16,.slice (some ⟨gB0,0,none⟩) ((BG p0a ds p1).length) c10_0),(17,.int .i64 (((BG p0a ds p1).length:Int))),(18,.int .i64 (IntKind.i64.wrap ((i0:Int) + 1)))] fun E41=>?_
    have K40:Wk w w40 [⟨w.heap.size,0,[.string ⟨⟨p0a⟩⟩,.slice (some ⟨gB1,fB1,none⟩) ds.length p0bc],38,true⟩,⟨w.heap.size + 1,0,[.slice none 0 0,.slice none 0 0,.slice none 0 0,.slice none 0 0,.map none,.map none,.map none,.map none],75,true⟩,⟨w8.heap.size,0,[.slice a0_0A a0_0.length a0_0c,.slice A36 ((a0_1++[((id (ds.getD e0 default).ents),A34_0,c34_0)]).length) c36,.slice a0_2A a0_2.length a0_2c,.slice none 0 0,.map (some w1.heap.size),.map (some w3.heap.size),.map (some w5.heap.size),.map (some w7.heap.size)],75,true⟩] [(AZ.th BC w1.heap.size a0_3),(AZ.th BC w3.heap.size (CN a0_4 ((ds.getD e0 default).name) (a0_1.length:Int))),(AZ.th BC w5.heap.size a0_5),(AZ.th BC w7.heap.size ([])),(BE (some ⟨gB0,0,none⟩) c10_0 (BG p0a ds p1)),(Bg a0_0A a0_0c a0_0),(D1 A36 c36 (a0_1++[((id (ds.getD e0 default).ents),A34_0,c34_0)])),(DS (a0_1++[((id (ds.getD e0 default).ents),A34_0,c34_0)])),(Bg a0_2A a0_2c a0_2)] []:=K39.pk [0,1,2] [1,0,2,3,4,5,6,7,8]
    rw [Bf i0 (by omega)]
    refine hagain0 _ _ ⟨i0 + 1,a0_0,(a0_1++[((id (ds.getD e0 default).ents),A34_0,c34_0)]),a0_2,a0_3,(CN a0_4 ((ds.getD e0 default).name) (a0_1.length:Int)),a0_5,a0_0A,a0_0c,A36,c36,a0_2A,a0_2c,E41,hlt0,rfl,by rw [hv0,c20,c29] <;> first | rfl | (simp only [cond_true,cond_false,List.length_map,List.map_append,List.map_cons,List.map_nil,id]; done) | (simp only [cond_true,cond_false,List.length_map,List.map_append,List.map_cons,List.map_nil,id]; rfl),by ((try simp only [maxLen,List.length_append,List.length_cons,List.length_nil,List.length_singleton]) <;> omega),by ((try simp only [maxLen,List.length_append,List.length_cons,List.length_nil,List.length_singleton]) <;> omega),by ((try simp only [maxLen,List.length_append,List.length_cons,List.length_nil,List.length_singleton]) <;> omega),by (first | ((try simp only [maxLen,List.length_append,List.length_cons,List.length_nil,List.length_singleton]) <;> omega) | (refine Nat.le_trans (QL _ _ _) ?_; ((try simp only [maxLen,List.length_append,List.length_cons,List.length_nil,List.length_singleton]) <;> omega))),by (first | ((try simp only [maxLen,List.length_append,List.length_cons,List.length_nil,List.length_singleton]) <;> omega) | (refine Nat.le_trans (QL _ _ _) ?_; ((try simp only [maxLen,List.length_append,List.length_cons,List.length_nil,List.length_singleton]) <;> omega))),by (first | ((try simp only [maxLen,List.length_append,List.length_cons,List.length_nil,List.length_singleton]) <;> omega) | (refine Nat.le_trans (QL _ _ _) ?_; ((try simp only [maxLen,List.length_append,List.length_cons,List.length_nil,List.length_singleton]) <;> omega))),K40⟩ ?_
    show (BG p0a ds p1).length - AQ (.int .i64 ((i0 + 1:Nat):Int)) < (BG p0a ds p1).length - AQ (.int .i64 (i0:Int))
    simp only [AQ]
    omega
   ·refine AC cH K29 [] fun w42 K41=>?_
    refine AK ((ds.getD e0 default).kind == 5) (fun c43=>?_) (fun c43=>?_)
    ·refine AC Tc K41 [(2,6),(3,1),(2,2)] fun w44 K42=>?_
     have Kf:=(K42.pickL (L':=[(AZ.th BC w5.heap.size a0_5)]++[(AZ.th BC w1.heap.size a0_3),(AZ.th BC w3.heap.size a0_4),(AZ.th BC w7.heap.size ([])),(BE (some ⟨gB0,0,none⟩) c10_0 (BG p0a ds p1)),(Bg a0_0A a0_0c a0_0),(D1 a0_1A a0_1c a0_1),(DS a0_1),(Bg a0_2A a0_2c a0_2)]) [2,0,1,3,4,5,6,7,8] rfl (by decide)).front
     refine BX (args:=[.map (some w5.heap.size),.string ⟨⟨(ds.getD e0 default).name⟩⟩,.int .i64 ((a0_2.length:Int))]) (GR _ w5.heap.size a0_5 ((ds.getD e0 default).name) (a0_2.length:Int) w w44 (ht _ (Ds (FH _ (List.mem_of_getElem? he0)))).2 (by constructor <;> omega) (by ((try simp only [maxLen,List.length_append,List.length_cons,List.length_nil,List.length_singleton]) <;> omega)) K42.B Kf) fun en w46 hh=>?_
     obtain ⟨rfl,b46,Hn⟩:=hh
     refine ⟨_,rfl,?_⟩
     have K43:=Wk.unfront b46 Hn
     refine CA BK cG [⟨w.heap.size,0,[.string ⟨⟨p0a⟩⟩,.slice (some ⟨gB1,fB1,none⟩) ds.length p0bc],38,true⟩,⟨w.heap.size + 1,0,[.slice none 0 0,.slice none 0 0,.slice none 0 0,.slice none 0 0,.map none,.map none,.map none,.map none],75,true⟩,⟨w8.heap.size,0,[.slice a0_0A a0_0.length a0_0c,.slice a0_1A a0_1.length a0_1c,.slice a0_2A a0_2.length a0_2c,.slice none 0 0,.map (some w1.heap.size),.map (some w3.heap.size),.map (some w5.heap.size),.map (some w7.heap.size)],75,true⟩,⟨w18.heap.size,0,(Be (ds.getD e0 default) aE1_0 cE1_0 aE1_1 cE1_1),34,true⟩,⟨w46.heap.size,0,[.string ⟨⟨(ds.getD e0 default).name⟩⟩],9,true⟩] K43 [(2,2),(3,1)] fun w47 K44=>?_
     refine CF K44.H (K44.ix 8) (K44.at 8 rfl) ((ds.getD e0 default).name) [.string ⟨⟨(ds.getD e0 default).name⟩⟩] rfl (w46.heap.size) (K44.ent 4 (by kernel_rfl)) (Ck cG) (by kernel_rfl) (.tmp 83) (.tmp 86) 39 (by kernel_rfl) (by kernel_rfl) (by kernel_rfl) (by decide) (by kernel_rfl) (by kernel_rfl) rfl rfl (by ((try simp only [maxLen,List.length_append,List.length_cons,List.length_nil,List.length_singleton]) <;> omega)) fun A48 c48 w48 Hn b48=>?_
     have K45:=K44.put 8 (by simp) b48 Hn
     refine BF (Ai NI) K45 [(2,2)] fun w49 K46=>?_
     refine Ax [(2,.pointer (some ⟨w.heap.size,0,none⟩)),(4,.pointer (some ⟨w.heap.size + 1,0,none⟩)),(5,.pointer (some ⟨w8.heap.size,0,none⟩)),(16,.slice (some ⟨gB0,0,none⟩) ((BG p0a ds p1).length) c10_0),(17,.int .i64 (((BG p0a ds p1).length:Int))),(18,.int .i64 (IntKind.i64.wrap ((i0:Int) + 1)))] fun E50=>?_
     have K47:Wk w w49 [⟨w.heap.size,0,[.string ⟨⟨p0a⟩⟩,.slice (some ⟨gB1,fB1,none⟩) ds.length p0bc],38,true⟩,⟨w.heap.size + 1,0,[.slice none 0 0,.slice none 0 0,.slice none 0 0,.slice none 0 0,.map none,.map none,.map none,.map none],75,true⟩,⟨w8.heap.size,0,[.slice a0_0A a0_0.length a0_0c,.slice a0_1A a0_1.length a0_1c,.slice A48 ((a0_2++[(ds.getD e0 default).name]).length) c48,.slice none 0 0,.map (some w1.heap.size),.map (some w3.heap.size),.map (some w5.heap.size),.map (some w7.heap.size)],75,true⟩] [(AZ.th BC w1.heap.size a0_3),(AZ.th BC w3.heap.size a0_4),(AZ.th BC w5.heap.size (CN a0_5 ((ds.getD e0 default).name) (a0_2.length:Int))),(AZ.th BC w7.heap.size ([])),(BE (some ⟨gB0,0,none⟩) c10_0 (BG p0a ds p1)),(Bg a0_0A a0_0c a0_0),(D1 a0_1A a0_1c a0_1),(DS a0_1),(Bg A48 c48 (a0_2++[(ds.getD e0 default).name]))] []:=K46.pk [0,1,2] [1,2,0,3,4,5,6,7,8]
     rw [Bf i0 (by omega)]
     refine hagain0 _ _ ⟨i0 + 1,a0_0,a0_1,(a0_2++[(ds.getD e0 default).name]),a0_3,a0_4,(CN a0_5 ((ds.getD e0 default).name) (a0_2.length:Int)),a0_0A,a0_0c,a0_1A,a0_1c,A48,c48,E50,hlt0,rfl,by rw [hv0,c20,c29,c43] <;> first | rfl | (simp only [cond_true,cond_false,List.length_map,List.map_append,List.map_cons,List.map_nil,id]; done) | (simp only [cond_true,cond_false,List.length_map,List.map_append,List.map_cons,List.map_nil,id]; rfl),by ((try simp only [maxLen,List.length_append,List.length_cons,List.length_nil,List.length_singleton]) <;> omega),by ((try simp only [maxLen,List.length_append,List.length_cons,List.length_nil,List.length_singleton]) <;> omega),by ((try simp only [maxLen,List.length_append,List.length_cons,List.length_nil,List.length_singleton]) <;> omega),by (first | ((try simp only [maxLen,List.length_append,List.length_cons,List.length_nil,List.length_singleton]) <;> omega) | (refine Nat.le_trans (QL _ _ _) ?_; ((try simp only [maxLen,List.length_append,List.length_cons,List.length_nil,List.length_singleton]) <;> omega))),by (first | ((try simp only [maxLen,List.length_append,List.length_cons,List.length_nil,List.length_singleton]) <;> omega) | (refine Nat.le_trans (QL _ _ _) ?_; ((try simp only [maxLen,List.length_append,List.length_cons,List.length_nil,List.length_singleton]) <;> omega))),by (first | ((try simp only [maxLen,List.length_append,List.length_cons,List.length_nil,List.length_singleton]) <;> omega) | (refine Nat.le_trans (QL _ _ _) ?_; ((try simp only [maxLen,List.length_append,List.length_cons,List.length_nil,List.length_singleton]) <;> omega))),K47⟩ ?_
     show (BG p0a ds p1).length - AQ (.int .i64 ((i0 + 1:Nat):Int)) < (BG p0a ds p1).length - AQ (.int .i64 (i0:Int))
     simp only [AQ]
     omega
    ·refine AC (Ai NI) K41 [] fun w51 K48=>?_
     refine Ax [(2,.pointer (some ⟨w.heap.size,0,none⟩)),(4,.pointer (some ⟨w.heap.size + 1,0,none⟩)),(5,.pointer (some ⟨w8.heap.size,0,none⟩)),(16,.slice (some ⟨gB0,0,none⟩) ((BG p0a ds p1).length) c10_0),(17,.int .i64 (((BG p0a ds p1).length:Int))),(18,.int .i64 (IntKind.i64.wrap ((i0:Int) + 1)))] fun E52=>?_
     have K49:Wk w w51 [⟨w.heap.size,0,[.string ⟨⟨p0a⟩⟩,.slice (some ⟨gB1,fB1,none⟩) ds.length p0bc],38,true⟩,⟨w.heap.size + 1,0,[.slice none 0 0,.slice none 0 0,.slice none 0 0,.slice none 0 0,.map none,.map none,.map none,.map none],75,true⟩,⟨w8.heap.size,0,[.slice a0_0A a0_0.length a0_0c,.slice a0_1A a0_1.length a0_1c,.slice a0_2A a0_2.length a0_2c,.slice none 0 0,.map (some w1.heap.size),.map (some w3.heap.size),.map (some w5.heap.size),.map (some w7.heap.size)],75,true⟩] [(AZ.th BC w1.heap.size a0_3),(AZ.th BC w3.heap.size a0_4),(AZ.th BC w5.heap.size a0_5),(AZ.th BC w7.heap.size ([])),(BE (some ⟨gB0,0,none⟩) c10_0 (BG p0a ds p1)),(Bg a0_0A a0_0c a0_0),(D1 a0_1A a0_1c a0_1),(DS a0_1),(Bg a0_2A a0_2c a0_2)] []:=K48.pk [0,1,2] [0,1,2,3,4,5,6,7,8]
     rw [Bf i0 (by omega)]
     refine hagain0 _ _ ⟨i0 + 1,a0_0,a0_1,a0_2,a0_3,a0_4,a0_5,a0_0A,a0_0c,a0_1A,a0_1c,a0_2A,a0_2c,E52,hlt0,rfl,by rw [hv0,c20,c29,c43] <;> first | rfl | (simp only [cond_true,cond_false,List.length_map,List.map_append,List.map_cons,List.map_nil,id]; done) | (simp only [cond_true,cond_false,List.length_map,List.map_append,List.map_cons,List.map_nil,id]; rfl),by ((try simp only [maxLen,List.length_append,List.length_cons,List.length_nil,List.length_singleton]) <;> omega),by ((try simp only [maxLen,List.length_append,List.length_cons,List.length_nil,List.length_singleton]) <;> omega),by ((try simp only [maxLen,List.length_append,List.length_cons,List.length_nil,List.length_singleton]) <;> omega),by (first | ((try simp only [maxLen,List.length_append,List.length_cons,List.length_nil,List.length_singleton]) <;> omega) | (refine Nat.le_trans (QL _ _ _) ?_; ((try simp only [maxLen,List.length_append,List.length_cons,List.length_nil,List.length_singleton]) <;> omega))),by (first | ((try simp only [maxLen,List.length_append,List.length_cons,List.length_nil,List.length_singleton]) <;> omega) | (refine Nat.le_trans (QL _ _ _) ?_; ((try simp only [maxLen,List.length_append,List.length_cons,List.length_nil,List.length_singleton]) <;> omega))),by (first | ((try simp only [maxLen,List.length_append,List.length_cons,List.length_nil,List.length_singleton]) <;> omega) | (refine Nat.le_trans (QL _ _ _) ?_; ((try simp only [maxLen,List.length_append,List.length_cons,List.length_nil,List.length_singleton]) <;> omega))),K49⟩ ?_
     show (BG p0a ds p1).length - AQ (.int .i64 ((i0 + 1:Nat):Int)) < (BG p0a ds p1).length - AQ (.int .i64 (i0:Int))
     simp only [AQ]
     omega
 ·have hie0:i0=(BG p0a ds p1).length:=by have:=of_decide_eq_false c16; omega
  rw [hie0,List.drop_length,Ko] at hv0
  refine BF lD K19 [(2,0),(1,0)] fun w53 K50=>?_
  have hS:(AA p0a ds p1)=(a0_0,(a0_1.map Prod.fst),a0_2,a0_3,a0_4,a0_5,[]):=by rw [hv0] <;> rfl
  exact Aa K50 (1,0) (.agg ⟨[.slice a0_0A a0_0.length a0_0c,.slice a0_1A a0_1.length a0_1c,.slice a0_2A a0_2.length a0_2c,.slice none 0 0,.map (some w1.heap.size),.map (some w3.heap.size),.map (some w5.heap.size),.map (some w7.heap.size)]⟩) ⟨a0_0A,a0_0c,a0_1A,a0_1c,a0_1,a0_2A,a0_2c,w1.heap.size,w3.heap.size,w5.heap.size,w7.heap.size,by rw [hS] <;> rfl,by rw [hS] <;> first | assumption | (simp; done) | (simp; assumption),K50.B,by rw [hS]; exact K50.own0 [5,6,7,8,0,1,2,3] rfl (by decide)⟩
end
end Go.Proofs.YtmcpjkcggfmcmaaGreatDoor

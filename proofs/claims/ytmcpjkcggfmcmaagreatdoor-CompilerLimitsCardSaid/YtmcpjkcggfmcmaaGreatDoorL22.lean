/-
  Part 22 of a proof: contracts of functions.
-/
import Derived.Test.YtmcpjkcggfmcmaaGreatDoorL21
set_option linter.all false
namespace Go.Proofs.YtmcpjkcggfmcmaaGreatDoor
noncomputable section
open Go.RowKit
set_option maxRecDepth 100000
set_option maxHeartbeats 1000000
attribute [local irreducible] BD Bb AF AG AL A4 Ai AO BO CV Di CC Bp At Fr
def C9 (ds:List (Df)) (x:Ex):List (Nat)→Int→Bool→Nat×Bool
 | [],a2_0,a2_1=>(0,false)
 | e2 :: tl,a2_0,a2_1=>cond (cond (cond (cond (x.op == 3) (BU (ds.getD e2 default)) (false)) (true) (cond (x.op == 4) ((ds.getD e2 default).kind == 2) (false))) (decide ((ds.getD e2 default).name=x.nm)) (false)) ((e2,true)) (C9 ds x tl a2_0 a2_1)
theorem Mb {ds:List (Df)} {x:Ex} {a2_0:Int} {a2_1:Bool}:C9 ds x [] a2_0 a2_1=((0,false)):=by rw [C9]
theorem LY {ds:List (Df)} {x:Ex} {a2_0:Int} {a2_1:Bool} {es:List (Nat)} (i:Nat) (e2:Nat) (hi:es[i]?=some e2):C9 ds x (es.drop i) a2_0 a2_1=(cond (cond (cond (cond (x.op == 3) (BU (ds.getD e2 default)) (false)) (true) (cond (x.op == 4) ((ds.getD e2 default).kind == 2) (false))) (decide ((ds.getD e2 default).name=x.nm)) (false)) ((e2,true)) (C9 ds x (es.drop (i + 1)) a2_0 a2_1)):=by
 have hl:i < es.length:=(List.getElem?_eq_some_iff.1 hi).1
 have he:es[i]=e2:=(List.getElem?_eq_some_iff.1 hi).2
 rw [← List.getElem_cons_drop hl,C9] <;> (try rw [he])
def Cz (ds:List (Df)) (x:Ex):List (Nat)→Int→Bool→Nat×Bool
 | [],a1_0,a1_1=>(0,false)
 | e1 :: tl,a1_0,a1_1=>cond (cond (cond (cond (x.op == 3) (BU (ds.getD e1 default)) (false)) (true) (cond (x.op == 4) ((ds.getD e1 default).kind == 2) (false))) (decide ((ds.getD e1 default).name=x.nm)) (false)) ((e1,true)) (Cz ds x tl a1_0 a1_1)
theorem Mc {ds:List (Df)} {x:Ex} {a1_0:Int} {a1_1:Bool}:Cz ds x [] a1_0 a1_1=((0,false)):=by rw [Cz]
theorem LZ {ds:List (Df)} {x:Ex} {a1_0:Int} {a1_1:Bool} {es:List (Nat)} (i:Nat) (e1:Nat) (hi:es[i]?=some e1):Cz ds x (es.drop i) a1_0 a1_1=(cond (cond (cond (cond (x.op == 3) (BU (ds.getD e1 default)) (false)) (true) (cond (x.op == 4) ((ds.getD e1 default).kind == 2) (false))) (decide ((ds.getD e1 default).name=x.nm)) (false)) ((e1,true)) (Cz ds x (es.drop (i + 1)) a1_0 a1_1)):=by
 have hl:i < es.length:=(List.getElem?_eq_some_iff.1 hi).1
 have he:es[i]=e1:=(List.getElem?_eq_some_iff.1 hi).2
 rw [← List.getElem_cons_drop hl,Cz] <;> (try rw [he])
def DA (ds:List (Df)) (act:List (Nat)) (x:Ex):List (Df)→Nat→Int→Bool→Nat×Bool
 | [],i0,a0_0,a0_1=>Cz ds x act a0_0 a0_1
 | e0 :: tl,i0,a0_0,a0_1=>cond (cond (e0.kind == 1) (decide (e0.name=x.nm)) (false)) ((i0,true)) (DA ds act x tl (i0 + 1) a0_0 a0_1)
theorem Md {ds:List (Df)} {act:List (Nat)} {x:Ex} {i0:Nat} {a0_0:Int} {a0_1:Bool}:DA ds act x [] i0 a0_0 a0_1=(Cz ds x act a0_0 a0_1):=by rw [DA]
theorem La {ds:List (Df)} {act:List (Nat)} {x:Ex} {a0_0:Int} {a0_1:Bool} {es:List (Df)} (i0:Nat) (e0:Df) (hi:es[i0]?=some e0):DA ds act x (es.drop i0) i0 a0_0 a0_1=(cond (cond (e0.kind == 1) (decide (e0.name=x.nm)) (false)) ((i0,true)) (DA ds act x (es.drop (i0 + 1)) (i0 + 1) a0_0 a0_1)):=by
 have hl:i0 < es.length:=(List.getElem?_eq_some_iff.1 hi).1
 have he:es[i0]=e0:=(List.getElem?_eq_some_iff.1 hi).2
 rw [← List.getElem_cons_drop hl,DA] <;> (try rw [he])
def Ao (ds:List (Df)) (act:List (Nat)) (x:Ex):Nat×Bool:=cond (x.op == 3) (DA ds act x ds 0 0 false) (C9 ds x act 0 false)
noncomputable def YL:Code:=Tryz.f128.body.getD .skip
def Z0:List Item:=AB 60 ([.code YL])
def Zz:List Item:=AB 60 (AG Z0)
def US:List Item:=AB 60 (A4 Zz)
def jF:List Item:=AB (As Ae 90 (AG US)) (AG US)
def jE:List Item:=Ac 5 (AF (AF jF))
def jD:List Item:=AB 60 (AO jE)
def oY:List Item:=AB 60 (AG jD)
def Zy:List Item:=AB 60 (AL US)
def UR:List Item:=AB 60 (A4 Zy)
def Zx:List Item:=AB (As Ae 90 (AG UR)) (AG UR)
def dO:List Item:=AB (As Ae 90 (AF (AF Zx))) (AF (AF Zx))
def dN:List Item:=Ac 12 (AF (AF dO))
def dM:List Item:=Ac 13 (AO dN)
def dL:List Item:=AB 60 (AO dM)
def ls:List Item:=AB 60 (AG dL)
def lr:List Item:=AB 60 (AL UR)
def UU:List Item:=AB 60 (AL Z0)
def Om:List Item:=AB 60 (A4 UU)
def UT:List Item:=AB (As Ae 90 (AG Om)) (AG Om)
def dK:List Item:=AB (As Ae 90 (AF (AF UT))) (AF (AF UT))
def dJ:List Item:=Ac 12 (AF (AF dK))
def dI:List Item:=Ac 13 (AO dJ)
def dH:List Item:=AB 60 (AO dI)
def lq:List Item:=AB 60 (AG dH)
def lp:List Item:=AB 60 (AL Om)
theorem Rg (p0a:List UInt8) (p0bA:Option Addr) (ds:List (Df)) (p0bc:Nat) (p1A:Option Addr) (act:List (Nat)) (p1c:Nat) (x:Ex) (p2A0:Option Addr) (p2c0:Nat) (w:World) (h_ds:rowsDf w p0bA ds) (hl_ds:ds.length≤4294967296) (h_act:rowsNat w p1A act) (hl_act:act.length≤4294967296) (h_x0:rowsEx w p2A0 x.ks) (hin:∀ i∈act,i < ds.length):Calls Tryz.prog 128 ([.agg ⟨[.string ⟨⟨p0a⟩⟩,.slice p0bA ds.length p0bc]⟩,.slice p1A act.length p1c,.agg ⟨[.int .i64 x.op,.int .i64 x.num,.int .i64 x.den,.int .i64 x.mu,.int .i64 x.hu,.int .i64 x.du,.string ⟨⟨x.nm⟩⟩,.int .i64 x.cnt,.int .i64 x.md,.slice p2A0 x.ks.length p2c0]⟩]:List Value).toArray w fun e w'=>e=.returned (.tuple #[.int .i64 ((((Ao ds act x)).1:Int)),.bool (((Ao ds act x)).2)])∧Below w.heap.size w w':=by
 refine Ab (fn:=Tryz.f128) (c:=YL) (n:=75) ?_
 have K1:=Wk.start w
 refine BF Z0 K1 [(1,0)] fun w1 K2=>?_
 refine AK (x.op == 3) (fun c2=>?_) (fun c2=>?_)
 ·refine AC Zz K2 [(0,1)] fun w3 K3=>?_
  have K4:Wk w w3 [⟨w.heap.size,0,[.string ⟨⟨p0a⟩⟩,.slice p0bA ds.length p0bc],38,true⟩,⟨w.heap.size + 1,0,(Bo x p2A0 p2c0),32,true⟩] [] []:=K3.pk [0,1] []
  have hv0:(Ao ds act x)=DA ds act x ds 0 0 false:=by unfold Ao; rw [c2] <;> rfl
  refine Ax [(1,.slice p1A act.length p1c),(3,.pointer (some ⟨w.heap.size,0,none⟩)),(5,.pointer (some ⟨w.heap.size + 1,0,none⟩)),(6,.int .i64 0),(7,.bool false),(18,.slice p0bA ds.length p0bc),(19,.int .i64 ((ds.length:Int))),(20,.int .i64 (((0:Nat):Int)))] fun E4=>?_
  refine Bj (by kernel_rfl) (fun E wx0=>∃ (i0:Nat) (a0_0:Int) (a0_1:Bool) (E0:Nat→Value),i0≤ds.length∧E=CX E0 [(1,.slice p1A act.length p1c),(3,.pointer (some ⟨w.heap.size,0,none⟩)),(5,.pointer (some ⟨w.heap.size + 1,0,none⟩)),(6,.int .i64 a0_0),(7,.bool a0_1),(18,.slice p0bA ds.length p0bc),(19,.int .i64 ((ds.length:Int))),(20,.int .i64 ((i0:Int)))]∧(Ao ds act x)=DA ds act x (List.drop i0 ds) i0 a0_0 a0_1∧Wk w wx0 [⟨w.heap.size,0,[.string ⟨⟨p0a⟩⟩,.slice p0bA ds.length p0bc],38,true⟩,⟨w.heap.size + 1,0,(Bo x p2A0 p2c0),32,true⟩] [] []) (fun E _=>ds.length - AQ (E 20)) ⟨0,0,false,E4,Nat.zero_le _,rfl,hv0,K4⟩ ?_
  clear hv0
  rintro E wx0 ⟨i0,a0_0,a0_1,E0,hi0,rfl,hv0,K5⟩ hagain0
  refine AC US K5 [] fun w6 K6=>?_
  refine AK (decide ((i0:Int) < (ds.length:Int))) (fun c7=>?_) (fun c7=>?_)
  ·have hlt0:i0 < ds.length:=by have:=of_decide_eq_true c7; omega
   obtain ⟨e0,he0⟩:∃ e,ds[i0]?=some e:=⟨_,List.getElem?_eq_getElem hlt0⟩
   rw [La i0 e0 he0] at hv0
   obtain ⟨gB0,fB0,rfl,hB0g,hB0a⟩:=h_ds.all (by omega)
   obtain ⟨aE0_0,cE0_0,aE0_1,cE0_1,hr0_,hE0_0,hE0_1⟩:=hB0a i0 _ he0
   refine BA Ae jF K6 [] fun w8 K7=>?_
   refine BB (g:=gB0) (off:=fB0) (cap:=p0bc) (sz:=21) (k:=i0) (len:=ds.length) (some 23) hlt0 Tryz.underlying36 ?_
   refine Bc 34 gB0 (fB0 + i0 * 21) [.int .i64 e0.kind,.string ⟨⟨e0.name⟩⟩,.bool (e0.tb),.int .i64 e0.tm,.int .i64 e0.th,.int .i64 e0.td,.int .i64 e0.frm,.slice aE0_0 e0.ents.length cE0_0,.int .i64 e0.body.op,.int .i64 e0.body.num,.int .i64 e0.body.den,.int .i64 e0.body.mu,.int .i64 e0.body.hu,.int .i64 e0.body.du,.string ⟨⟨e0.body.nm⟩⟩,.int .i64 e0.body.cnt,.int .i64 e0.body.md,.slice aE0_1 e0.body.ks.length cE0_1,.int .i64 e0.mode,.int .i64 e0.num,.int .i64 e0.den] (some 24) (Af hr0_ hB0g K7.B) ?_
   refine Bw 5 jE [⟨w.heap.size,0,[.string ⟨⟨p0a⟩⟩,.slice (some ⟨gB0,fB0,none⟩) ds.length p0bc],38,true⟩,⟨w.heap.size + 1,0,(Bo x p2A0 p2c0),32,true⟩,⟨w8.heap.size,0,(Be e0 aE0_0 cE0_0 aE0_1 cE0_1),34,true⟩] K7 [(2,0)] fun w9 K8=>?_
   refine Aj K8 [(1,2,0),(5,2,1),(7,1,6)] [⟨8,[(30,.string ⟨⟨e0.name⟩⟩),(32,.string ⟨⟨x.nm⟩⟩)],.bool (decide (e0.name=x.nm)),((e0.kind == 1)) && (true)⟩] K8.G (fun sp hsp=>?_) fun w10 E10 K9=>?_
   ·rw [List.mem_singleton.1 hsp]
    exact Av fun _ E u _=>GH (T:=9) (T':=9) (x:=.tmp 30) (y:=.tmp 32)
   refine AC jD K9 [] fun w11 K10=>?_
   refine AK (cond (e0.kind == 1) (decide (e0.name=x.nm)) (false)) (fun c12=>?_) (fun c12=>?_)
   ·refine AC oY K10 [] fun w13 K11=>?_
    have hS:(Ao ds act x)=(i0,true):=by rw [hv0,c12] <;> rfl
    exact Aa K11 (0,0) (.tuple #[.int .i64 ((i0:Int)),.bool true]) ⟨by rw [hS] <;> rfl,K11.B⟩
   ·refine AC (Ai Zz) K10 [] fun w14 K12=>?_
    refine Ax [(1,.slice p1A act.length p1c),(3,.pointer (some ⟨w.heap.size,0,none⟩)),(5,.pointer (some ⟨w.heap.size + 1,0,none⟩)),(6,.int .i64 a0_0),(7,.bool a0_1),(18,.slice (some ⟨gB0,fB0,none⟩) ds.length p0bc),(19,.int .i64 ((ds.length:Int))),(20,.int .i64 (IntKind.i64.wrap ((i0:Int) + 1)))] fun E15=>?_
    have K13:Wk w w14 [⟨w.heap.size,0,[.string ⟨⟨p0a⟩⟩,.slice (some ⟨gB0,fB0,none⟩) ds.length p0bc],38,true⟩,⟨w.heap.size + 1,0,(Bo x p2A0 p2c0),32,true⟩] [] []:=K12.pk [0,1] []
    rw [Bf i0 (by omega)]
    refine hagain0 _ _ ⟨i0 + 1,a0_0,a0_1,E15,hlt0,rfl,by rw [hv0,c12] <;> rfl,K13⟩ ?_
    show ds.length - AQ (.int .i64 ((i0 + 1:Nat):Int)) < ds.length - AQ (.int .i64 (i0:Int))
    simp only [AQ]
    omega
  ·have hie0:i0=ds.length:=by have:=of_decide_eq_false c7; omega
   rw [hie0,List.drop_length,Md] at hv0
   refine AC Zy K6 [] fun w16 K14=>?_
   have K15:Wk w w16 [⟨w.heap.size,0,[.string ⟨⟨p0a⟩⟩,.slice p0bA ds.length p0bc],38,true⟩,⟨w.heap.size + 1,0,(Bo x p2A0 p2c0),32,true⟩] [] []:=K14.pk [0,1] []
   have hv1:(Ao ds act x)=Cz ds x act a0_0 a0_1:=by rw [hv0] <;> rfl
   refine Ax [(3,.pointer (some ⟨w.heap.size,0,none⟩)),(5,.pointer (some ⟨w.heap.size + 1,0,none⟩)),(6,.int .i64 a0_0),(7,.bool a0_1),(37,.slice p1A act.length p1c),(38,.int .i64 ((act.length:Int))),(39,.int .i64 (((0:Nat):Int)))] fun E17=>?_
   refine Bj (by kernel_rfl) (fun E wx1=>∃ (i1:Nat) (a1_0:Int) (a1_1:Bool) (E0:Nat→Value),i1≤act.length∧E=CX E0 [(3,.pointer (some ⟨w.heap.size,0,none⟩)),(5,.pointer (some ⟨w.heap.size + 1,0,none⟩)),(6,.int .i64 a1_0),(7,.bool a1_1),(37,.slice p1A act.length p1c),(38,.int .i64 ((act.length:Int))),(39,.int .i64 ((i1:Int)))]∧(Ao ds act x)=Cz ds x (List.drop i1 act) a1_0 a1_1∧Wk w wx1 [⟨w.heap.size,0,[.string ⟨⟨p0a⟩⟩,.slice p0bA ds.length p0bc],38,true⟩,⟨w.heap.size + 1,0,(Bo x p2A0 p2c0),32,true⟩] [] []) (fun E _=>act.length - AQ (E 39)) ⟨0,a0_0,a0_1,E17,Nat.zero_le _,rfl,hv1,K15⟩ ?_
   clear hv1
   rintro E wx1 ⟨i1,a1_0,a1_1,E0,hi1,rfl,hv1,K16⟩ hagain1
   refine AC UR K16 [] fun w19 K17=>?_
   refine AK (decide ((i1:Int) < (act.length:Int))) (fun c20=>?_) (fun c20=>?_)
   ·have hlt1:i1 < act.length:=by have:=of_decide_eq_true c20; omega
    obtain ⟨e1,he1⟩:∃ e,act[i1]?=some e:=⟨_,List.getElem?_eq_getElem hlt1⟩
    rw [LZ i1 e1 he1] at hv1
    obtain ⟨gB0,fB0,rfl,hB0g,hB0a⟩:=h_act.all (by omega)
    have hr0_:=hB0a i1 _ he1
    refine BA Ae Zx K17 [] fun w21 K18=>?_
    refine BB (g:=gB0) (off:=fB0) (cap:=p1c) (sz:=1) (k:=i1) (len:=act.length) (some 41) hlt1 Tryz.underlying56 ?_
    refine Dm 3 gB0 (fB0 + i1 * 1) (.int .i64 ((e1:Int))) (some 42) (by simpa using Af hr0_ hB0g K18.B 0 _ rfl) ?_
    obtain ⟨gB1,fB1,rfl,hB1g,hB1a⟩:=h_ds.all (Nat.lt_of_le_of_lt (Nat.zero_le _) (hin _ (List.mem_of_getElem? he1)))
    have hd1:ds[e1]?=some (ds.getD e1 default):=getD_some default (hin _ (List.mem_of_getElem? he1))
    obtain ⟨aE1_0,cE1_0,aE1_1,cE1_1,hr1_,hE1_0,hE1_1⟩:=hB1a e1 _ hd1
    refine BA Ae dO K18 [(0,1)] fun w22 K19=>?_
    refine BB (g:=gB1) (off:=fB1) (cap:=p0bc) (sz:=21) (k:=e1) (len:=ds.length) (some 46) (hin _ (List.mem_of_getElem? he1)) Tryz.underlying36 ?_
    refine Bc 34 gB1 (fB1 + e1 * 21) [.int .i64 ((ds.getD e1 default).kind),.string ⟨⟨(ds.getD e1 default).name⟩⟩,.bool ((ds.getD e1 default).tb),.int .i64 ((ds.getD e1 default).tm),.int .i64 ((ds.getD e1 default).th),.int .i64 ((ds.getD e1 default).td),.int .i64 ((ds.getD e1 default).frm),.slice aE1_0 ((ds.getD e1 default).ents.length) cE1_0,.int .i64 ((ds.getD e1 default).body.op),.int .i64 ((ds.getD e1 default).body.num),.int .i64 ((ds.getD e1 default).body.den),.int .i64 ((ds.getD e1 default).body.mu),.int .i64 ((ds.getD e1 default).body.hu),.int .i64 ((ds.getD e1 default).body.du),.string ⟨⟨(ds.getD e1 default).body.nm⟩⟩,.int .i64 ((ds.getD e1 default).body.cnt),.int .i64 ((ds.getD e1 default).body.md),.slice aE1_1 ((ds.getD e1 default).body.ks.length) cE1_1,.int .i64 ((ds.getD e1 default).mode),.int .i64 ((ds.getD e1 default).num),.int .i64 ((ds.getD e1 default).den)] (some 47) (Af hr1_ hB1g K19.B) ?_
    refine Bw 12 dN [⟨w.heap.size,0,[.string ⟨⟨p0a⟩⟩,.slice (some ⟨gB1,fB1,none⟩) ds.length p0bc],38,true⟩,⟨w.heap.size + 1,0,(Bo x p2A0 p2c0),32,true⟩,⟨w22.heap.size,0,(Be (ds.getD e1 default) aE1_0 cE1_0 aE1_1 cE1_1),34,true⟩] K19 [(2,0)] fun w23 K20=>?_
    refine Aj K20 [(1,1,0),(4,2,0),(9,1,0),(13,2,0)] [⟨5,[(52,.agg ⟨[.int .i64 ((ds.getD e1 default).kind),.string ⟨⟨(ds.getD e1 default).name⟩⟩,.bool ((ds.getD e1 default).tb),.int .i64 ((ds.getD e1 default).tm),.int .i64 ((ds.getD e1 default).th),.int .i64 ((ds.getD e1 default).td),.int .i64 ((ds.getD e1 default).frm),.slice aE1_0 ((ds.getD e1 default).ents.length) cE1_0,.int .i64 ((ds.getD e1 default).body.op),.int .i64 ((ds.getD e1 default).body.num),.int .i64 ((ds.getD e1 default).body.den),.int .i64 ((ds.getD e1 default).body.mu),.int .i64 ((ds.getD e1 default).body.hu),.int .i64 ((ds.getD e1 default).body.du),.string ⟨⟨(ds.getD e1 default).body.nm⟩⟩,.int .i64 ((ds.getD e1 default).body.cnt),.int .i64 ((ds.getD e1 default).body.md),.slice aE1_1 ((ds.getD e1 default).body.ks.length) cE1_1,.int .i64 ((ds.getD e1 default).mode),.int .i64 ((ds.getD e1 default).num),.int .i64 ((ds.getD e1 default).den)]⟩)],.bool (BU (ds.getD e1 default)),((x.op == 3)) && (true)⟩] K20.G (fun sp hsp=>?_) fun w24 E24 K21=>?_
    ·rw [List.mem_singleton.1 hsp]
     exact AR 91 [.tmp 52] [.agg ⟨[.int .i64 ((ds.getD e1 default).kind),.string ⟨⟨(ds.getD e1 default).name⟩⟩,.bool ((ds.getD e1 default).tb),.int .i64 ((ds.getD e1 default).tm),.int .i64 ((ds.getD e1 default).th),.int .i64 ((ds.getD e1 default).td),.int .i64 ((ds.getD e1 default).frm),.slice aE1_0 ((ds.getD e1 default).ents.length) cE1_0,.int .i64 ((ds.getD e1 default).body.op),.int .i64 ((ds.getD e1 default).body.num),.int .i64 ((ds.getD e1 default).body.den),.int .i64 ((ds.getD e1 default).body.mu),.int .i64 ((ds.getD e1 default).body.hu),.int .i64 ((ds.getD e1 default).body.du),.string ⟨⟨(ds.getD e1 default).body.nm⟩⟩,.int .i64 ((ds.getD e1 default).body.cnt),.int .i64 ((ds.getD e1 default).body.md),.slice aE1_1 ((ds.getD e1 default).body.ks.length) cE1_1,.int .i64 ((ds.getD e1 default).mode),.int .i64 ((ds.getD e1 default).num),.int .i64 ((ds.getD e1 default).den)]⟩] (fun _=>by kernel_rfl) fun hc u hu=>AP hu (GC (ds.getD e1 default) aE1_0 cE1_0 aE1_1 cE1_1 u (hE1_0.below (K20.B.trans (hu.mono K20.B.size))) (hE1_1.below (K20.B.trans (hu.mono K20.B.size))))
    refine Ag 13 dM K21 [] fun w25 K22=>?_
    refine Aj K22 [(3,2,1),(5,1,6)] [⟨6,[(68,.string ⟨⟨(ds.getD e1 default).name⟩⟩),(70,.string ⟨⟨x.nm⟩⟩)],.bool (decide ((ds.getD e1 default).name=x.nm)),((cond (cond (x.op == 3) (BU (ds.getD e1 default)) (false)) (true) (cond (x.op == 4) ((ds.getD e1 default).kind == 2) (false)))) && (true)⟩] K22.G (fun sp hsp=>?_) fun w26 E26 K23=>?_
    ·rw [List.mem_singleton.1 hsp]
     exact Av fun _ E u _=>GH (T:=9) (T':=9) (x:=.tmp 68) (y:=.tmp 70)
    refine AC dL K23 [] fun w27 K24=>?_
    refine AK (cond (cond (cond (x.op == 3) (BU (ds.getD e1 default)) (false)) (true) (cond (x.op == 4) ((ds.getD e1 default).kind == 2) (false))) (decide ((ds.getD e1 default).name=x.nm)) (false)) (fun c28=>?_) (fun c28=>?_)
    ·refine AC ls K24 [] fun w29 K25=>?_
     have hS:(Ao ds act x)=(e1,true):=by rw [hv1,c28] <;> rfl
     exact Aa K25 (0,0) (.tuple #[.int .i64 ((e1:Int)),.bool true]) ⟨by rw [hS] <;> rfl,K25.B⟩
    ·refine AC (Ai Zy) K24 [] fun w30 K26=>?_
     refine Ax [(3,.pointer (some ⟨w.heap.size,0,none⟩)),(5,.pointer (some ⟨w.heap.size + 1,0,none⟩)),(6,.int .i64 a1_0),(7,.bool a1_1),(37,.slice (some ⟨gB0,fB0,none⟩) act.length p1c),(38,.int .i64 ((act.length:Int))),(39,.int .i64 (IntKind.i64.wrap ((i1:Int) + 1)))] fun E31=>?_
     have K27:Wk w w30 [⟨w.heap.size,0,[.string ⟨⟨p0a⟩⟩,.slice (some ⟨gB1,fB1,none⟩) ds.length p0bc],38,true⟩,⟨w.heap.size + 1,0,(Bo x p2A0 p2c0),32,true⟩] [] []:=K26.pk [0,1] []
     rw [Bf i1 (by omega)]
     refine hagain1 _ _ ⟨i1 + 1,a1_0,a1_1,E31,hlt1,rfl,by rw [hv1,c28] <;> rfl,K27⟩ ?_
     show act.length - AQ (.int .i64 ((i1 + 1:Nat):Int)) < act.length - AQ (.int .i64 (i1:Int))
     simp only [AQ]
     omega
   ·have hie1:i1=act.length:=by have:=of_decide_eq_false c20; omega
    rw [hie1,List.drop_length,Mc] at hv1
    refine AC lr K17 [] fun w32 K28=>?_
    have hS:(Ao ds act x)=(0,false):=by rw [hv1] <;> rfl
    exact Aa K28 (0,0) (.tuple #[.int .i64 0,.bool false]) ⟨by rw [hS] <;> rfl,K28.B⟩
 ·refine AC UU K2 [] fun w33 K29=>?_
  have K30:Wk w w33 [⟨w.heap.size,0,[.string ⟨⟨p0a⟩⟩,.slice p0bA ds.length p0bc],38,true⟩,⟨w.heap.size + 1,0,(Bo x p2A0 p2c0),32,true⟩] [] []:=K29.pk [0,1] []
  have hv2:(Ao ds act x)=C9 ds x act 0 false:=by unfold Ao; rw [c2] <;> rfl
  refine Ax [(3,.pointer (some ⟨w.heap.size,0,none⟩)),(5,.pointer (some ⟨w.heap.size + 1,0,none⟩)),(6,.int .i64 0),(7,.bool false),(37,.slice p1A act.length p1c),(38,.int .i64 ((act.length:Int))),(39,.int .i64 (((0:Nat):Int)))] fun E34=>?_
  refine Bj (by kernel_rfl) (fun E wx2=>∃ (i2:Nat) (a2_0:Int) (a2_1:Bool) (E0:Nat→Value),i2≤act.length∧E=CX E0 [(3,.pointer (some ⟨w.heap.size,0,none⟩)),(5,.pointer (some ⟨w.heap.size + 1,0,none⟩)),(6,.int .i64 a2_0),(7,.bool a2_1),(37,.slice p1A act.length p1c),(38,.int .i64 ((act.length:Int))),(39,.int .i64 ((i2:Int)))]∧(Ao ds act x)=C9 ds x (List.drop i2 act) a2_0 a2_1∧Wk w wx2 [⟨w.heap.size,0,[.string ⟨⟨p0a⟩⟩,.slice p0bA ds.length p0bc],38,true⟩,⟨w.heap.size + 1,0,(Bo x p2A0 p2c0),32,true⟩] [] []) (fun E _=>act.length - AQ (E 39)) ⟨0,0,false,E34,Nat.zero_le _,rfl,hv2,K30⟩ ?_
  clear hv2
  rintro E wx2 ⟨i2,a2_0,a2_1,E0,hi2,rfl,hv2,K31⟩ hagain2
  refine AC Om K31 [] fun w36 K32=>?_
  refine AK (decide ((i2:Int) < (act.length:Int))) (fun c37=>?_) (fun c37=>?_)
  ·have hlt2:i2 < act.length:=by have:=of_decide_eq_true c37; omega
   obtain ⟨e2,he2⟩:∃ e,act[i2]?=some e:=⟨_,List.getElem?_eq_getElem hlt2⟩
   rw [LY i2 e2 he2] at hv2
   obtain ⟨gB0,fB0,rfl,hB0g,hB0a⟩:=h_act.all (by omega)
   have hr0_:=hB0a i2 _ he2
   refine BA Ae UT K32 [] fun w38 K33=>?_
   refine BB (g:=gB0) (off:=fB0) (cap:=p1c) (sz:=1) (k:=i2) (len:=act.length) (some 41) hlt2 Tryz.underlying56 ?_
   refine Dm 3 gB0 (fB0 + i2 * 1) (.int .i64 ((e2:Int))) (some 42) (by simpa using Af hr0_ hB0g K33.B 0 _ rfl) ?_
   obtain ⟨gB1,fB1,rfl,hB1g,hB1a⟩:=h_ds.all (Nat.lt_of_le_of_lt (Nat.zero_le _) (hin _ (List.mem_of_getElem? he2)))
   have hd1:ds[e2]?=some (ds.getD e2 default):=getD_some default (hin _ (List.mem_of_getElem? he2))
   obtain ⟨aE1_0,cE1_0,aE1_1,cE1_1,hr1_,hE1_0,hE1_1⟩:=hB1a e2 _ hd1
   refine BA Ae dK K33 [(0,1)] fun w39 K34=>?_
   refine BB (g:=gB1) (off:=fB1) (cap:=p0bc) (sz:=21) (k:=e2) (len:=ds.length) (some 46) (hin _ (List.mem_of_getElem? he2)) Tryz.underlying36 ?_
   refine Bc 34 gB1 (fB1 + e2 * 21) [.int .i64 ((ds.getD e2 default).kind),.string ⟨⟨(ds.getD e2 default).name⟩⟩,.bool ((ds.getD e2 default).tb),.int .i64 ((ds.getD e2 default).tm),.int .i64 ((ds.getD e2 default).th),.int .i64 ((ds.getD e2 default).td),.int .i64 ((ds.getD e2 default).frm),.slice aE1_0 ((ds.getD e2 default).ents.length) cE1_0,.int .i64 ((ds.getD e2 default).body.op),.int .i64 ((ds.getD e2 default).body.num),.int .i64 ((ds.getD e2 default).body.den),.int .i64 ((ds.getD e2 default).body.mu),.int .i64 ((ds.getD e2 default).body.hu),.int .i64 ((ds.getD e2 default).body.du),.string ⟨⟨(ds.getD e2 default).body.nm⟩⟩,.int .i64 ((ds.getD e2 default).body.cnt),.int .i64 ((ds.getD e2 default).body.md),.slice aE1_1 ((ds.getD e2 default).body.ks.length) cE1_1,.int .i64 ((ds.getD e2 default).mode),.int .i64 ((ds.getD e2 default).num),.int .i64 ((ds.getD e2 default).den)] (some 47) (Af hr1_ hB1g K34.B) ?_
   refine Bw 12 dJ [⟨w.heap.size,0,[.string ⟨⟨p0a⟩⟩,.slice (some ⟨gB1,fB1,none⟩) ds.length p0bc],38,true⟩,⟨w.heap.size + 1,0,(Bo x p2A0 p2c0),32,true⟩,⟨w39.heap.size,0,(Be (ds.getD e2 default) aE1_0 cE1_0 aE1_1 cE1_1),34,true⟩] K34 [(2,0)] fun w40 K35=>?_
   refine Aj K35 [(1,1,0),(4,2,0),(9,1,0),(13,2,0)] [⟨5,[(52,.agg ⟨[.int .i64 ((ds.getD e2 default).kind),.string ⟨⟨(ds.getD e2 default).name⟩⟩,.bool ((ds.getD e2 default).tb),.int .i64 ((ds.getD e2 default).tm),.int .i64 ((ds.getD e2 default).th),.int .i64 ((ds.getD e2 default).td),.int .i64 ((ds.getD e2 default).frm),.slice aE1_0 ((ds.getD e2 default).ents.length) cE1_0,.int .i64 ((ds.getD e2 default).body.op),.int .i64 ((ds.getD e2 default).body.num),.int .i64 ((ds.getD e2 default).body.den),.int .i64 ((ds.getD e2 default).body.mu),.int .i64 ((ds.getD e2 default).body.hu),.int .i64 ((ds.getD e2 default).body.du),.string ⟨⟨(ds.getD e2 default).body.nm⟩⟩,.int .i64 ((ds.getD e2 default).body.cnt),.int .i64 ((ds.getD e2 default).body.md),.slice aE1_1 ((ds.getD e2 default).body.ks.length) cE1_1,.int .i64 ((ds.getD e2 default).mode),.int .i64 ((ds.getD e2 default).num),.int .i64 ((ds.getD e2 default).den)]⟩)],.bool (BU (ds.getD e2 default)),((x.op == 3)) && (true)⟩] K35.G (fun sp hsp=>?_) fun w41 E41 K36=>?_
   ·rw [List.mem_singleton.1 hsp]
    exact AR 91 [.tmp 52] [.agg ⟨[.int .i64 ((ds.getD e2 default).kind),.string ⟨⟨(ds.getD e2 default).name⟩⟩,.bool ((ds.getD e2 default).tb),.int .i64 ((ds.getD e2 default).tm),.int .i64 ((ds.getD e2 default).th),.int .i64 ((ds.getD e2 default).td),.int .i64 ((ds.getD e2 default).frm),.slice aE1_0 ((ds.getD e2 default).ents.length) cE1_0,.int .i64 ((ds.getD e2 default).body.op),.int .i64 ((ds.getD e2 default).body.num),.int .i64 ((ds.getD e2 default).body.den),.int .i64 ((ds.getD e2 default).body.mu),.int .i64 ((ds.getD e2 default).body.hu),.int .i64 ((ds.getD e2 default).body.du),.string ⟨⟨(ds.getD e2 default).body.nm⟩⟩,.int .i64 ((ds.getD e2 default).body.cnt),.int .i64 ((ds.getD e2 default).body.md),.slice aE1_1 ((ds.getD e2 default).body.ks.length) cE1_1,.int .i64 ((ds.getD e2 default).mode),.int .i64 ((ds.getD e2 default).num),.int .i64 ((ds.getD e2 default).den)]⟩] (fun _=>by kernel_rfl) fun hc u hu=>AP hu (GC (ds.getD e2 default) aE1_0 cE1_0 aE1_1 cE1_1 u (hE1_0.below (K35.B.trans (hu.mono K35.B.size))) (hE1_1.below (K35.B.trans (hu.mono K35.B.size))))
   refine Ag 13 dI K36 [] fun w42 K37=>?_
   refine Aj K37 [(3,2,1),(5,1,6)] [⟨6,[(68,.string ⟨⟨(ds.getD e2 default).name⟩⟩),(70,.string ⟨⟨x.nm⟩⟩)],.bool (decide ((ds.getD e2 default).name=x.nm)),((cond (cond (x.op == 3) (BU (ds.getD e2 default)) (false)) (true) (cond (x.op == 4) ((ds.getD e2 default).kind == 2) (false)))) && (true)⟩] K37.G (fun sp hsp=>?_) fun w43 E43 K38=>?_
   ·rw [List.mem_singleton.1 hsp]
    exact Av fun _ E u _=>GH (T:=9) (T':=9) (x:=.tmp 68) (y:=.tmp 70)
   refine AC dH K38 [] fun w44 K39=>?_
   refine AK (cond (cond (cond (x.op == 3) (BU (ds.getD e2 default)) (false)) (true) (cond (x.op == 4) ((ds.getD e2 default).kind == 2) (false))) (decide ((ds.getD e2 default).name=x.nm)) (false)) (fun c45=>?_) (fun c45=>?_)
   ·refine AC lq K39 [] fun w46 K40=>?_
    have hS:(Ao ds act x)=(e2,true):=by rw [hv2,c45] <;> rfl
    exact Aa K40 (0,0) (.tuple #[.int .i64 ((e2:Int)),.bool true]) ⟨by rw [hS] <;> rfl,K40.B⟩
   ·refine AC (Ai UU) K39 [] fun w47 K41=>?_
    refine Ax [(3,.pointer (some ⟨w.heap.size,0,none⟩)),(5,.pointer (some ⟨w.heap.size + 1,0,none⟩)),(6,.int .i64 a2_0),(7,.bool a2_1),(37,.slice (some ⟨gB0,fB0,none⟩) act.length p1c),(38,.int .i64 ((act.length:Int))),(39,.int .i64 (IntKind.i64.wrap ((i2:Int) + 1)))] fun E48=>?_
    have K42:Wk w w47 [⟨w.heap.size,0,[.string ⟨⟨p0a⟩⟩,.slice (some ⟨gB1,fB1,none⟩) ds.length p0bc],38,true⟩,⟨w.heap.size + 1,0,(Bo x p2A0 p2c0),32,true⟩] [] []:=K41.pk [0,1] []
    rw [Bf i2 (by omega)]
    refine hagain2 _ _ ⟨i2 + 1,a2_0,a2_1,E48,hlt2,rfl,by rw [hv2,c45] <;> rfl,K42⟩ ?_
    show act.length - AQ (.int .i64 ((i2 + 1:Nat):Int)) < act.length - AQ (.int .i64 (i2:Int))
    simp only [AQ]
    omega
  ·have hie2:i2=act.length:=by have:=of_decide_eq_false c37; omega
   rw [hie2,List.drop_length,Mb] at hv2
   refine AC lp K32 [] fun w49 K43=>?_
   have hS:(Ao ds act x)=(0,false):=by rw [hv2] <;> rfl
   exact Aa K43 (0,0) (.tuple #[.int .i64 0,.bool false]) ⟨by rw [hS] <;> rfl,K43.B⟩
def BG (p0a:List UInt8) (ds:List (Df)) (p1:Int):List Nat:=cond (!(Dt p0a ds p1 == 0)) ([]) ((Aw ds p1))
noncomputable def YP:Code:=Tryz.f52.body.getD .skip
def jN:List Item:=AB 60 ([.code YP])
def aB:List Item:=AB 60 (AF jN)
def oj:List Item:=AB 60 (AG aB)
def jM:List Item:=AB 60 (AL aB)
def oi:List Item:=AB 60 (AF jM)
theorem Vt (p0a:List UInt8) (p0bA:Option Addr) (ds:List (Df)) (p0bc:Nat) (p1:Int) (w:World) (h_ds:rowsDf w p0bA ds) (hl_ds:ds.length≤4294967296) (hs:p0a.length≤4294967296) (ht:∀ d∈ds,GB d):Calls Tryz.prog 52 ([.agg ⟨[.string ⟨⟨p0a⟩⟩,.slice p0bA ds.length p0bc]⟩,.int .i64 p1]:List Value).toArray w fun e w'=>∃ (rA0:Option Addr) (rc0:Nat),e=.returned (.slice rA0 ((BG p0a ds p1).length) rc0)∧Below w.heap.size w w'∧AY w.heap.size w' [BE rA0 rc0 (BG p0a ds p1)]:=by
 refine Ab (fn:=Tryz.f52) (c:=YP) (n:=12) ?_
 have K1:=Wk.start w
 refine Bv jN [⟨w.heap.size,0,[.string ⟨⟨p0a⟩⟩,.slice p0bA ds.length p0bc],38,true⟩] K1 [(0,0)] fun w1 K2=>?_
 refine Ak K2 (args:=[.agg ⟨[.string ⟨⟨p0a⟩⟩,.slice p0bA ds.length p0bc]⟩,.int .i64 p1]) (Mv p0a _ ds _ p1 w1 (h_ds.below K2.B) hl_ds hs ht) fun w2 K3=>?_
 refine AC aB K3 [] fun w3 K4=>?_
 refine AK (!(Dt p0a ds p1 == 0)) (fun c4=>?_) (fun c4=>?_)
 ·have K5:=K4.addNil 3 1 (fun e r=>r=Eb e)
  refine AC oj K5 [] fun w5 K6=>?_
  have hS:(BG p0a ds p1)=[]:=by unfold BG; rw [c4] <;> rfl
  exact Aa K6 (0,0) (.slice none 0 0) ⟨none,0,by rw [hS] <;> rfl,K6.B,by rw [hS]; exact K6.own0 [0] rfl (by decide)⟩
 ·refine AC jM K4 [(0,0)] fun w6 K7=>?_
  refine BX (NB p0a p0bA ds p0bc p1 w6 (h_ds.below K7.B) (by first | assumption | omega | (simp <;> omega))) fun en w8 hh=>?_
  obtain ⟨A7_0,c7_0,rfl,b8,Hn⟩:=hh
  refine ⟨_,rfl,?_⟩
  have K8:=K7.join b8 Hn
  refine AC oi K8 [] fun w9 K9=>?_
  have hS:(BG p0a ds p1)=(Aw ds p1):=by unfold BG; rw [c4] <;> rfl
  exact Aa K9 (0,0) (.slice A7_0 ((Aw ds p1).length) c7_0) ⟨A7_0,c7_0,by rw [hS] <;> rfl,K9.B,by rw [hS]; exact K9.own0 [0] rfl (by decide)⟩
end
end Go.Proofs.YtmcpjkcggfmcmaaGreatDoor

/-
  Part 28 of a proof: contracts of functions.
-/
import Derived.Test.YtmcpjkcggfmcmaaGreatDoorD27
set_option linter.all false
namespace Go.Proofs.YtmcpjkcggfmcmaaGreatDoor
noncomputable section
open Go.RowKit
set_option maxRecDepth 100000
set_option maxHeartbeats 1000000
attribute [local irreducible] BO CB AE AG AL Ay Aj AP Bc Cq Eb CT CO At Fr
theorem Ji {ds:List Df} {p1:Int}:∀ (es:List Df) (i:Nat) (a:List Nat),(∀ x∈a,x < i)→∀ x∈CQ ds p1 es i a,x < i + es.length
 | [],i,a,h=>fun x b=>by rw [CQ] at b; exact h x b
 | e :: es,i,a,h=>fun x b=>by
  rw [CQ] at b
  rw [List.length_cons]
  revert b
  cases (cond (cond (e.kind == 1) (true) (e.kind == 5)) (true) (cond (decide (e.frm≤p1)) (!(Ek ds p1 i)) (false))) <;> intro b
  ·have:=Ji es (i + 1) a (fun x b=>Nat.lt_succ_of_lt (h x b)) x b
   omega
  ·have:=Ji es (i + 1) (a++[i]) (fun x b=>by
    rcases List.mem_append.1 b with b | b
    ·exact Nat.lt_succ_of_lt (h x b)
    ·rw [List.mem_singleton.1 b]; exact Nat.lt_succ_self i) x b
   omega
theorem Jh {ds:List Df} {p1:Int}:∀ (es:List Df) (i:Nat) (a:List Nat),(CQ ds p1 es i a).length≤a.length + es.length
 | [],i,a=>by rw [CQ]; exact Nat.le_refl _
 | e :: es,i,a=>by
  rw [CQ,List.length_cons]
  cases (cond (cond (e.kind == 1) (true) (e.kind == 5)) (true) (cond (decide (e.frm≤p1)) (!(Ek ds p1 i)) (false)))
  ·have:=Jh (ds:=ds) (p1:=p1) es (i + 1) a
   exact Nat.le_trans this (by omega)
  ·have:=Jh (ds:=ds) (p1:=p1) es (i + 1) (a++[i])
   rw [List.length_append,List.length_singleton] at this
   exact Nat.le_trans this (by omega)
theorem FZ {ds:List Df} {p1:Int}:∀ x∈BC ds p1,x < ds.length:=fun x a=>by
 have:=Ji ds 0 [] (fun x a=>by cases a) x a
 omega
theorem Ks {ds:List Df} {p1:Int}:(BC ds p1).length≤ds.length:=by
 have:=Jh (ds:=ds) (p1:=p1) ds 0 []
 simpa [BC] using this
theorem GA {n:List UInt8} {ds:List Df} {p1:Int}:∀ x∈BK n ds p1,x < ds.length:=fun x a=>by
 unfold BK at a
 revert a
 cases !(EF n ds p1 == 0) <;> intro a
 ·exact FZ x a
 ·cases a
theorem N3 {n:List UInt8} {ds:List Df} {p1:Int}:(BK n ds p1).length≤ds.length:=by
 unfold BK
 cases !(EF n ds p1 == 0)
 ·exact Ks
 ·exact Nat.zero_le _
def Be (ds:List (Df)):List (Nat)→List (List UInt8)→List (List (Int×Int×Int))→List (List UInt8)→List (List UInt8×Int)→List (List UInt8×Int)→List (List UInt8×Int)→List (List UInt8)×List (List (Int×Int×Int))×List (List UInt8)×List (List UInt8×Int)×List (List UInt8×Int)×List (List UInt8×Int)×List (List UInt8×Int)
 | [],a0_0,a0_1,a0_2,a0_3,a0_4,a0_5=>(a0_0,a0_1,a0_2,a0_3,a0_4,a0_5,[])
 | e0 :: tl,a0_0,a0_1,a0_2,a0_3,a0_4,a0_5=>cond ((ds.getD e0 default).kind == 1) (Be ds tl (a0_0++[(ds.getD e0 default).name]) a0_1 a0_2 (CP a0_3 ((ds.getD e0 default).name) (a0_0.length:Int)) a0_4 a0_5) (cond ((ds.getD e0 default).kind == 2) (Be ds tl a0_0 (a0_1++[(id (ds.getD e0 default).ents)]) a0_2 a0_3 (CP a0_4 ((ds.getD e0 default).name) (a0_1.length:Int)) a0_5) (cond ((ds.getD e0 default).kind == 5) (Be ds tl a0_0 a0_1 (a0_2++[(ds.getD e0 default).name]) a0_3 a0_4 (CP a0_5 ((ds.getD e0 default).name) (a0_2.length:Int))) (Be ds tl a0_0 a0_1 a0_2 a0_3 a0_4 a0_5)))
theorem NT {ds:List (Df)} {f:List (List UInt8)} {e:List (List (Int×Int×Int))} {d:List (List UInt8)} {c:List (List UInt8×Int)} {b:List (List UInt8×Int)} {a:List (List UInt8×Int)}:Be ds [] f e d c b a=((f,e,d,c,b,a,[])):=by rw [Be]
theorem Mj {ds:List (Df)} {c:List (List UInt8)} {b:List (List (Int×Int×Int))} {a:List (List UInt8)} {f:List (List UInt8×Int)} {e:List (List UInt8×Int)} {d:List (List UInt8×Int)} {es:List (Nat)} (i g:Nat) (hi:es[i]?=some g):Be ds (es.drop i) c b a f e d=(cond ((ds.getD g default).kind == 1) (Be ds (es.drop (i + 1)) (c++[(ds.getD g default).name]) b a (CP f ((ds.getD g default).name) (c.length:Int)) e d) (cond ((ds.getD g default).kind == 2) (Be ds (es.drop (i + 1)) c (b++[(id (ds.getD g default).ents)]) a f (CP e ((ds.getD g default).name) (b.length:Int)) d) (cond ((ds.getD g default).kind == 5) (Be ds (es.drop (i + 1)) c b (a++[(ds.getD g default).name]) f e (CP d ((ds.getD g default).name) (a.length:Int))) (Be ds (es.drop (i + 1)) c b a f e d)))):=by
 have hl:i < es.length:=(List.getElem?_eq_some_iff.1 hi).1
 have he:es[i]=g:=(List.getElem?_eq_some_iff.1 hi).2
 rw [← List.getElem_cons_drop hl,Be] <;> (try rw [he])
def AA (p0a:List UInt8) (ds:List (Df)) (p1:Int):List (List UInt8)×List (List (Int×Int×Int))×List (List UInt8)×List (List UInt8×Int)×List (List UInt8×Int)×List (List UInt8×Int)×List (List UInt8×Int):=Be ds (BK p0a ds p1) ([]) ([]) ([]) ([]) ([]) ([])
noncomputable def Uk:Code:=Tryz.f20.body.getD .skip
def XO:=AB (BA II 90 ([.code Uk])) ([.code Uk])
def XM:=AB (BA II 90 (AE XO)) (AE XO)
def XI:=AB (BA II 90 (AE XM)) (AE XM)
def fM:=AB (BA II 90 (AE XI)) (AE XI)
def ov:=AB 60 (AE fM)
def QP:=AB 60 (AE ov)
def XH:=AB 60 (Ay QP)
def fL:=AB (BA Ai 90 (AG XH)) (AG XH)
def ou:=AB (BA Ai 90 (AE (AE fL))) (AE (AE fL))
def fK:=AB 60 (AE (AE ou))
def XL:=AB 60 (AG fK)
def jw:=AB (BA Bb 90 (AE XL)) (AE XL)
def XK:=AB 60 (AL fK)
def jv:=AB 60 (AG XK)
def ju:=Ad 12 (AE jv)
def Hj:Array Oper:=(C6 ju).getD #[]
def m9:Wr:=[(62,2),(64,4),(65,5),(66,6)]
def jt:=AB 60 (AL XK)
def XJ:=AB 60 (AG jt)
def jr:=AB (BA Bb 90 (AE XJ)) (AE XJ)
def sS:=AB 60 (AL XH)
theorem Rd (a:List UInt8) (w0:Option Addr) (ds:List (Df)) (k0:Nat) (p1:Int) (w:World) (y1:rowsDf w w0 ds) (s4:ds.length≤4294967296) (hs:a.length≤4294967296) (ht:∀ d∈ds,IJ d) (r4:∀ d∈ds,d.ents.length≤4294967296):Calls Tryz.prog 20 ([.agg ⟨[.string ⟨⟨a⟩⟩,.slice w0 ds.length k0]⟩,D p1]:List Value).toArray w fun e w'=>∃ (f3:Option Addr) (y2:Nat) (e3:Option Addr) (v2:Nat) (t1:List RQ) (d3:Option Addr) (t2 c3 b3 a3 z2:Nat),e=.returned (.agg ⟨[.slice f3 ((((AA a ds p1)).1).length) y2,.slice e3 t1.length v2,.slice d3 ((((AA a ds p1)).2.2.1).length) t2,.slice none 0 0,.map (some c3),.map (some b3),.map (some a3),.map (some z2)]⟩)∧t1.map Prod.fst=((AA a ds p1)).2.1∧Below w.heap.size w w'∧AU w.heap.size w' [Bo f3 y2 (((AA a ds p1)).1),EZ e3 v2 t1,DY t1,Bo d3 t2 (((AA a ds p1)).2.2.1),AY.th BL c3 (((AA a ds p1)).2.2.2.1),AY.th BL b3 (((AA a ds p1)).2.2.2.2.1),AY.th BL a3 (((AA a ds p1)).2.2.2.2.2.1),AY.th BL z2 (((AA a ds p1)).2.2.2.2.2.2)]:=by
 refine Af (fn:=Tryz.f20) (c:=Uk) (n:=92) ?_
 have K1:=Wk.start w
 refine Cb II XO [⟨w.heap.size,0,[.string ⟨⟨a⟩⟩,.slice w0 ds.length k0],38,true⟩,⟨w.heap.size + 1,0,[.slice none 0 0,.slice none 0 0,.slice none 0 0,.slice none 0 0,.map none,.map none,.map none,.map none],75,true⟩] K1 [] fun w1 K2=>?_
 refine JE BL K2.H (DM XO) (by kernel_rfl) (t:=73) (by kernel_rfl) fun w2 Z2 Hn b2=>?_
 have K3:=K2.add b2 Hn
 refine BG II XM K3 [] fun w3 K4=>?_
 refine JE BL K4.H (DM XM) (by kernel_rfl) (t:=73) (by kernel_rfl) fun w4 Z4 Hn b4=>?_
 have K5:=K4.add b4 Hn
 refine BG II XI K5 [] fun w5 K6=>?_
 refine JE BL K6.H (DM XI) (by kernel_rfl) (t:=73) (by kernel_rfl) fun w6 Z6 Hn b6=>?_
 have K7:=K6.add b6 Hn
 refine BG II fM K7 [] fun w7 K8=>?_
 refine JE BL K8.H (DM fM) (by kernel_rfl) (t:=73) (by kernel_rfl) fun w8 Z8 Hn b8=>?_
 have K9:=K8.add b8 Hn
 let z9:List BI:=[⟨w.heap.size,0,[.string ⟨⟨a⟩⟩,.slice w0 ds.length k0],38,true⟩,⟨w.heap.size + 1,0,[.slice none 0 0,.slice none 0 0,.slice none 0 0,.slice none 0 0,.map none,.map none,.map none,.map none],75,true⟩,⟨w8.heap.size,0,[.slice none 0 0,.slice none 0 0,.slice none 0 0,.slice none 0 0,.map (some w1.heap.size),.map (some w3.heap.size),.map (some w5.heap.size),.map (some w7.heap.size)],75,true⟩]
 refine C8 ov z9 K9 [(2,0),(0,0)] fun w9 z3=>?_
 refine CJ (Zc a w0 ds k0 p1 w9 (y1.below z3.B) (by first | assumption | omega | (simp <;> omega)) hs ht) fun en e9 hh=>?_
 obtain ⟨f1,c0,rfl,q5,Hn⟩:=hh
 refine ⟨_,rfl,?_⟩
 have k7:=z3.join q5 Hn
 have f9:=N3 (n:=a) (ds:=ds) (p1:=p1)
 refine AC QP k7 [] fun m4 h7=>?_
 have f7:Wk w m4 z9 [(AY.th BL w1.heap.size ([])),(AY.th BL w3.heap.size ([])),(AY.th BL w5.heap.size ([])),(AY.th BL w7.heap.size ([])),(BP f1 c0 (BK a ds p1))] []:=h7.pk [0,1,2] [0,1,2,3,4]
 have e7:=f7.addNil 9 1 (fun e r=>r=Hx e)
 have c7:=e7.addNil 27 1 (fun e r=>r=Qv e)
 have b7:=c7.addFam Ng
 have a7:=b7.addNil 9 1 (fun e r=>r=Hx e)
 have x0:(AA a ds p1)=Be ds (BK a ds p1) ([]) ([]) ([]) ([]) ([]) ([]):=by unfold AA; rfl
 refine BB [(2,.pointer (some ⟨w.heap.size,0,none⟩)),(4,.pointer (some ⟨w.heap.size + 1,0,none⟩)),(5,.pointer (some ⟨w8.heap.size,0,none⟩)),(16,.slice f1 ((BK a ds p1).length) c0),(17,D (((BK a ds p1).length:Int))),(18,D (((0:Nat):Int)))] fun y7=>?_
 refine Bi (by kernel_rfl) (fun E p2=>∃ (i0:Nat) (s:List (List UInt8)) (b:List RQ) (q:List (List UInt8)) (h0:List (List UInt8×Int)) (f0:List (List UInt8×Int)) (d0:List (List UInt8×Int)) (b0:Option Addr) (a0:Nat) (p:Option Addr) (o:Nat) (y:Option Addr) (x:Nat) (E0:Nat→Value),i0≤(BK a ds p1).length∧E=Aw E0 [(2,.pointer (some ⟨w.heap.size,0,none⟩)),(4,.pointer (some ⟨w.heap.size + 1,0,none⟩)),(5,.pointer (some ⟨w8.heap.size,0,none⟩)),(16,.slice f1 ((BK a ds p1).length) c0),(17,D (((BK a ds p1).length:Int))),(18,D ((i0:Int)))]∧(AA a ds p1)=Be ds (List.drop i0 (BK a ds p1)) s (b.map Prod.fst) q h0 f0 d0∧s.length≤1 * i0 + 0∧b.length≤1 * i0 + 0∧q.length≤1 * i0 + 0∧h0.length≤1 * i0 + 0∧f0.length≤1 * i0 + 0∧d0.length≤1 * i0 + 0∧Wk w p2 [⟨w.heap.size,0,[.string ⟨⟨a⟩⟩,.slice w0 ds.length k0],38,true⟩,⟨w.heap.size + 1,0,[.slice none 0 0,.slice none 0 0,.slice none 0 0,.slice none 0 0,.map none,.map none,.map none,.map none],75,true⟩,⟨w8.heap.size,0,[.slice b0 s.length a0,.slice p b.length o,.slice y q.length x,.slice none 0 0,.map (some w1.heap.size),.map (some w3.heap.size),.map (some w5.heap.size),.map (some w7.heap.size)],75,true⟩] [(AY.th BL w1.heap.size h0),(AY.th BL w3.heap.size f0),(AY.th BL w5.heap.size d0),(AY.th BL w7.heap.size ([])),(BP f1 c0 (BK a ds p1)),(Bo b0 a0 s),(EZ p o b),(DY b),(Bo y x q)] []) (fun E _=>(BK a ds p1).length - AQ (E 18)) ⟨0,([]),([]),([]),([]),([]),([]),none,0,none,0,none,0,y7,Nat.zero_le _,rfl,x0,by simp,by simp,by simp,by simp,by simp,by simp,a7⟩ ?_
 clear x0
 rintro E p2 ⟨i0,s,b,q,h0,f0,d0,b0,a0,p,o,y,x,E0,h9,rfl,x0,b5,a5,z4,y4,v4,u4,z6⟩ v0
 refine AC XH z6 [] fun c9 r1=>?_
 refine AM (decide ((i0:Int) < ((BK a ds p1).length:Int))) (fun f2=>?_) (fun f2=>?_)
 ·have y0:i0 < (BK a ds p1).length:=by have:=of_decide_eq_true f2; omega
  obtain ⟨e0,z0⟩:∃ e,(BK a ds p1)[i0]?=some e:=⟨_,List.getElem?_eq_getElem y0⟩
  rw [Mj i0 e0 z0] at x0
  obtain ⟨r0,rfl,z7⟩:=r1.H.rowAt (r1.ix 4) (r1.at 4 rfl) (by omega)
  refine BG Ai fL r1 [] fun b9 x1=>?_
  refine BH (g:=r0) (off:=0) (cap:=c0) (sz:=1) (k:=i0) (len:=(BK a ds p1).length) (some 20) y0 Tryz.underlying56 ?_
  refine EA 3 r0 (0 + i0 * 1) (D ((e0:Int))) (some 21) (by simpa using (x1.H.cellsF (T:=3) (n:=1) (f:=Fs) (c:=c0) (l:=(BK a ds p1)) (fun _=>rfl) (x1.ix 4) (x1.at 4 rfl) z0) 0 _ rfl) ?_
  obtain ⟨b1,c1,rfl,m3,q3⟩:=y1.all (Nat.lt_of_le_of_lt (Nat.zero_le _) (GA _ (List.mem_of_getElem? z0)))
  have t4:ds[e0]?=some (ds.getD e0 default):=getD_some default (GA _ (List.mem_of_getElem? z0))
  obtain ⟨q0,p0,e1,d1,i3,z1,d5⟩:=q3 e0 _ t4
  refine BG Ai ou x1 [(0,1)] fun s1 y3=>?_
  refine BH (g:=b1) (off:=c1) (cap:=k0) (sz:=21) (k:=e0) (len:=ds.length) (some 25) (GA _ (List.mem_of_getElem? z0)) Tryz.underlying36 ?_
  let z12:=(ds.getD e0 default).ents.length
  refine CC 34 b1 (c1 + e0 * 21) [D ((ds.getD e0 default).kind),.string ⟨⟨(ds.getD e0 default).name⟩⟩,.bool ((ds.getD e0 default).tb),D ((ds.getD e0 default).tm),D ((ds.getD e0 default).th),D ((ds.getD e0 default).td),D ((ds.getD e0 default).frm),.slice q0 z12 p0,D ((ds.getD e0 default).body.op),D ((ds.getD e0 default).body.num),D ((ds.getD e0 default).body.den),D ((ds.getD e0 default).body.mu),D ((ds.getD e0 default).body.hu),D ((ds.getD e0 default).body.du),.string ⟨⟨(ds.getD e0 default).body.nm⟩⟩,D ((ds.getD e0 default).body.cnt),D ((ds.getD e0 default).body.md),.slice e1 ((ds.getD e0 default).body.ks.length) d1,D ((ds.getD e0 default).mode),D ((ds.getD e0 default).num),D ((ds.getD e0 default).den)] (some 26) (Ac i3 m3 y3.B) ?_
  let z10:List Value:=[.string ⟨⟨a⟩⟩,.slice (some ⟨b1,c1,none⟩) ds.length k0]
  let z13:=Ce (ds.getD e0 default) q0 p0 e1 d1
  refine C8 fK [⟨w.heap.size,0,z10,38,true⟩,⟨w.heap.size + 1,0,[.slice none 0 0,.slice none 0 0,.slice none 0 0,.slice none 0 0,.map none,.map none,.map none,.map none],75,true⟩,⟨w8.heap.size,0,[.slice b0 s.length a0,.slice p b.length o,.slice y q.length x,.slice none 0 0,.map (some w1.heap.size),.map (some w3.heap.size),.map (some w5.heap.size),.map (some w7.heap.size)],75,true⟩,⟨s1.heap.size,0,z13,34,true⟩] y3 [(3,0),(3,0)] fun a9 x3=>?_
  refine AM ((ds.getD e0 default).kind == 1) (fun i1=>?_) (fun i1=>?_)
  ·refine AC XL x3 [(2,4),(3,1),(2,0)] fun k4 v3=>?_
   have Kf:=(v3.pickL (L':=[(AY.th BL w1.heap.size h0)]++[(AY.th BL w3.heap.size f0),(AY.th BL w5.heap.size d0),(AY.th BL w7.heap.size ([])),(BP (some ⟨r0,0,none⟩) c0 (BK a ds p1)),(Bo b0 a0 s),(EZ p o b),(DY b),(Bo y x q)]) [0,1,2,3,4,5,6,7,8] rfl (by decide)).front
   refine CJ (args:=[.map (some w1.heap.size),.string ⟨⟨(ds.getD e0 default).name⟩⟩,D ((s.length:Int))]) (Id _ w1.heap.size h0 ((ds.getD e0 default).name) (s.length:Int) w k4 (ht _ (Ee (GA _ (List.mem_of_getElem? z0)))).2 (by constructor <;> omega) (by ((try simp only [maxLen,List.length_append,List.length_cons,List.length_nil,List.length_singleton]) <;> omega)) v3.B Kf) fun en s2 hh=>?_
   obtain ⟨rfl,m5,Hn⟩:=hh
   refine ⟨_,rfl,?_⟩
   have y6:=Wk.unfront m5 Hn
   refine Cb Bb jw [⟨w.heap.size,0,z10,38,true⟩,⟨w.heap.size + 1,0,[.slice none 0 0,.slice none 0 0,.slice none 0 0,.slice none 0 0,.map none,.map none,.map none,.map none],75,true⟩,⟨w8.heap.size,0,[.slice b0 s.length a0,.slice p b.length o,.slice y q.length x,.slice none 0 0,.map (some w1.heap.size),.map (some w3.heap.size),.map (some w5.heap.size),.map (some w7.heap.size)],75,true⟩,⟨s1.heap.size,0,z13,34,true⟩,⟨s2.heap.size,0,[.string ⟨⟨(ds.getD e0 default).name⟩⟩],9,true⟩] y6 [(2,0),(3,1)] fun z8 q1=>?_
   refine Ch q1.H (q1.ix 5) (q1.at 5 rfl) ((ds.getD e0 default).name) [.string ⟨⟨(ds.getD e0 default).name⟩⟩] rfl (s2.heap.size) (q1.ent 4 (by kernel_rfl)) (DM jw) (by kernel_rfl) (.tmp 42) (.tmp 45) 39 (by kernel_rfl) (by kernel_rfl) (by kernel_rfl) (by decide) (by kernel_rfl) (by kernel_rfl) rfl rfl (by ((try simp only [maxLen,List.length_append,List.length_cons,List.length_nil,List.length_singleton]) <;> omega)) fun m2 e2 y8 Hn k5=>?_
   have u6:=q1.put 5 (by simp) k5 Hn
   refine BQ (Aj QP) u6 [(2,0)] fun i4 r6=>?_
   refine BB [(2,.pointer (some ⟨w.heap.size,0,none⟩)),(4,.pointer (some ⟨w.heap.size + 1,0,none⟩)),(5,.pointer (some ⟨w8.heap.size,0,none⟩)),(16,.slice (some ⟨r0,0,none⟩) ((BK a ds p1).length) c0),(17,D (((BK a ds p1).length:Int))),(18,D (IntKind.i64.wrap ((i0:Int) + 1)))] fun x7=>?_
   have q6:Wk w i4 [⟨w.heap.size,0,z10,38,true⟩,⟨w.heap.size + 1,0,[.slice none 0 0,.slice none 0 0,.slice none 0 0,.slice none 0 0,.map none,.map none,.map none,.map none],75,true⟩,⟨w8.heap.size,0,[.slice m2 ((s++[(ds.getD e0 default).name]).length) e2,.slice p b.length o,.slice y q.length x,.slice none 0 0,.map (some w1.heap.size),.map (some w3.heap.size),.map (some w5.heap.size),.map (some w7.heap.size)],75,true⟩] [(AY.th BL w1.heap.size (CP h0 ((ds.getD e0 default).name) (s.length:Int))),(AY.th BL w3.heap.size f0),(AY.th BL w5.heap.size d0),(AY.th BL w7.heap.size ([])),(BP (some ⟨r0,0,none⟩) c0 (BK a ds p1)),(Bo m2 e2 (s++[(ds.getD e0 default).name])),(EZ p o b),(DY b),(Bo y x q)] []:=r6.pk [0,1,2] [0,1,2,3,4,5,6,7,8]
   rw [Bs i0 (by omega)]
   refine v0 _ _ ⟨i0 + 1,(s++[(ds.getD e0 default).name]),b,q,(CP h0 ((ds.getD e0 default).name) (s.length:Int)),f0,d0,m2,e2,p,o,y,x,x7,y0,rfl,by rw [x0,i1] <;> first | rfl | (simp only [cond_true,cond_false,List.length_map,List.map_append,List.map_cons,List.map_nil,id]; done) | (simp only [cond_true,cond_false,List.length_map,List.map_append,List.map_cons,List.map_nil,id]; rfl),by ((try simp only [maxLen,List.length_append,List.length_cons,List.length_nil,List.length_singleton]) <;> omega),by ((try simp only [maxLen,List.length_append,List.length_cons,List.length_nil,List.length_singleton]) <;> omega),by ((try simp only [maxLen,List.length_append,List.length_cons,List.length_nil,List.length_singleton]) <;> omega),by (first | ((try simp only [maxLen,List.length_append,List.length_cons,List.length_nil,List.length_singleton]) <;> omega) | (refine Nat.le_trans (Tt _ _ _) ?_; ((try simp only [maxLen,List.length_append,List.length_cons,List.length_nil,List.length_singleton]) <;> omega))),by (first | ((try simp only [maxLen,List.length_append,List.length_cons,List.length_nil,List.length_singleton]) <;> omega) | (refine Nat.le_trans (Tt _ _ _) ?_; ((try simp only [maxLen,List.length_append,List.length_cons,List.length_nil,List.length_singleton]) <;> omega))),by (first | ((try simp only [maxLen,List.length_append,List.length_cons,List.length_nil,List.length_singleton]) <;> omega) | (refine Nat.le_trans (Tt _ _ _) ?_; ((try simp only [maxLen,List.length_append,List.length_cons,List.length_nil,List.length_singleton]) <;> omega))),q6⟩ ?_
   show (BK a ds p1).length - AQ (D ((i0 + 1:Nat):Int)) < (BK a ds p1).length - AQ (D (i0:Int))
   simp only [AQ]
   omega
  ·refine AC XK x3 [] fun x8 u3=>?_
   refine AM ((ds.getD e0 default).kind == 2) (fun v1=>?_) (fun v1=>?_)
   ·refine AC jv u3 [(2,5),(3,1),(2,1)] fun g4 t3=>?_
    have Kf:=(t3.pickL (L':=[(AY.th BL w3.heap.size f0)]++[(AY.th BL w1.heap.size h0),(AY.th BL w5.heap.size d0),(AY.th BL w7.heap.size ([])),(BP (some ⟨r0,0,none⟩) c0 (BK a ds p1)),(Bo b0 a0 s),(EZ p o b),(DY b),(Bo y x q)]) [1,0,2,3,4,5,6,7,8] rfl (by decide)).front
    refine CJ (args:=[.map (some w3.heap.size),.string ⟨⟨(ds.getD e0 default).name⟩⟩,D ((b.length:Int))]) (Id _ w3.heap.size f0 ((ds.getD e0 default).name) (b.length:Int) w g4 (ht _ (Ee (GA _ (List.mem_of_getElem? z0)))).2 (by constructor <;> omega) (by ((try simp only [maxLen,List.length_append,List.length_cons,List.length_nil,List.length_singleton]) <;> omega)) t3.B Kf) fun en u8 hh=>?_
    obtain ⟨rfl,i5,Hn⟩:=hh
    refine ⟨_,rfl,?_⟩
    have m6:=Wk.unfront i5 Hn
    refine Al 12 ju m6 [] fun g1 n1=>?_
    refine C4 Hj 11 ?_
    refine C5 (i:=0) (v:=.pointer (some ⟨w8.heap.size,0,none⟩)) (Hj.getD 0 default) (fun _ _ _ h=>nomatch h.1) ?_
    refine C5 (i:=1) (v:=.pointer (some ⟨w8.heap.size,1,none⟩)) (Hj.getD 1 default) (fun _ _ _ h=>nomatch h.1) ?_
    refine C5 (i:=3) (v:=.pointer (some ⟨s1.heap.size,7,none⟩)) (Hj.getD 3 default) (fun _ _ _ h=>nomatch h.1) ?_
    let z11:=((id (ds.getD e0 default).ents)).length
    refine CG (md:=.any) (fuel:=4) (L:=[AN 2 [] (.slice p b.length o),AN 4 [] (.slice q0 z12 p0),⟨5,[4],[5],fun vs u=>∃ (m:Option Addr) (j:Nat),vs=[.slice m z11 j]∧AU g1.heap.size u [KR m j ((id (ds.getD e0 default).ents))]⟩,⟨6,[4,5],[5,6],fun vs u=>∃ (m:Option Addr) (j a1:Nat),vs=[.slice m z11 j,.slice (some ⟨a1,0,none⟩) 1 1]∧AU g1.heap.size u [Th.ent ⟨a1,0,[.slice m z11 j],27,true⟩,KR m j ((id (ds.getD e0 default).ents))]⟩]) (W:=m9) (C:=fun u=>Below g1.heap.size g1 u) (Ext:=Ck) (Below.refl _ _).drew Ck.refl (fun _ _ _=>Ck.trans) ⟨?_,?_,?_,?_,trivial⟩ rfl ?_
    ·refine ⟨fun _ _ _ _ _ h=>h,fun t0 u hu hb=>?_⟩
     exact AH.knownE [] (by kernel_rfl) trivial (AH.reads ⟨0,_,(2,1),[]⟩ (Az n1.G hu) (.slice p b.length o) ⟨hu,.refl _,rfl⟩)
    ·refine ⟨fun _ _ _ _ _ h=>h,fun t0 u hu hb=>?_⟩
     exact AH.knownE [] (by kernel_rfl) trivial (AH.reads ⟨0,_,(3,7),[]⟩ (Az n1.G hu) (.slice q0 z12 p0) ⟨hu,.refl _,rfl⟩)
    ·refine ⟨fun vs u u2 _ he ⟨m,j,h1,h2⟩=>⟨m,j,h1,h2.below he⟩,fun t0 u hu hb=>?_⟩
     obtain ⟨h4,_⟩:=hb
     refine AH.knownE [(64,4,.slice q0 z12 p0)] (by kernel_rfl) ⟨(List.cons.inj h4).1,trivial⟩ (AH.call (f:=53) [.tmp 64] (args:=[.slice q0 z12 p0]) (ats:=#[27]) rfl (by kernel_rfl) (BW _ _) ((dq q0 (ds.getD e0 default).ents p0 u (z1.below (n1.B.trans (hu.mono n1.B.size))) (r4 _ (Ee (GA _ (List.mem_of_getElem? z0))))).mono fun en u2 hh=>?_))
     obtain ⟨m,j,rfl,bb,Hn⟩:=hh
     exact ⟨_,rfl,hu.trans (bb.mono hu.size),bb,m,j,rfl,Hn.mono hu.size⟩
    ·refine ⟨fun vs u u2 _ he ⟨m,j,a1,h1,h2⟩=>⟨m,j,a1,h1,h2.below he⟩,fun t0 u hu hb=>?_⟩
     obtain ⟨h4,h5,_⟩:=hb
     obtain ⟨m,j,h3,c5⟩:=h5
     refine AH.knownE [(65,5,.slice m z11 j)] (by kernel_rfl) ⟨(List.cons.inj h3).1,trivial⟩ (AH.runsK ⟨u.heap.size,[],(0,0),[]⟩ ⟨u.heap.size + 1,[⟨u.heap.size,0,[.slice m z11 j],27,true⟩],(0,0),[]⟩ (.value (.slice (some ⟨u.heap.size,0,none⟩) 1 1)) (.slice (some ⟨u.heap.size,0,none⟩) 1 1) (.inl rfl) (Br u) rfl fun u2 hL hK=>?_)
     have Bq:Below u.heap.size u u2:=hK.below (Nat.le_refl _) (fun k hk=>by cases hk)
     have Hq:=AU.run (M:=[]) (M':=[⟨u.heap.size,0,[.slice m z11 j],27,true⟩]) (L:=[KR m j ((id (ds.getD e0 default).ents))]) c5 hL hK rfl
     exact ⟨hu.trans (Bq.mono hu.size),Bq,m,j,u.heap.size,by show [t0 5,_]=_; rw [(List.cons.inj h3).1]; rfl,Hq⟩
    intro t0 r2 g2 _ l3
    replace g2:Below g1.heap.size g1 r2:=g2
    obtain ⟨x2,x4,x5,x6,_⟩:=l3
    obtain ⟨m,j,a1,q4,Hn⟩:=x6
    replace Hn:AU g1.heap.size r2 [Th.ent ⟨a1,0,[.slice m z11 j],27,true⟩,(KR m j ((id (ds.getD e0 default).ents)))]:=Hn
    have m1:=n1.joinE g2 Hn
    have e6:t0 6=.slice (some ⟨a1,0,none⟩) 1 1:=(List.cons.inj (List.cons.inj q4).2).1
    refine DN [(2,.pointer (some ⟨w.heap.size,0,none⟩)),(4,.pointer (some ⟨w.heap.size + 1,0,none⟩)),(5,.pointer (some ⟨w8.heap.size,0,none⟩)),(16,.slice (some ⟨r0,0,none⟩) ((BK a ds p1).length) c0),(17,D (((BK a ds p1).length:Int))),(18,D ((i0:Int))),(62,t0 2),(66,t0 6)] fun u7=>?_
    rw [show t0 2=.slice p b.length o from (List.cons.inj x2).1]
    rw [e6]
    obtain ⟨l2,d2,r8,g3,Hn,g5⟩:=gf (E:=Aw u7 [(2,.pointer (some ⟨w.heap.size,0,none⟩)),(4,.pointer (some ⟨w.heap.size + 1,0,none⟩)),(5,.pointer (some ⟨w8.heap.size,0,none⟩)),(16,.slice (some ⟨r0,0,none⟩) ((BK a ds p1).length) c0),(17,D (((BK a ds p1).length:Int))),(18,D ((i0:Int))),(62,.slice p b.length o),(66,.slice (some ⟨a1,0,none⟩) 1 1)]) (k:=92) m1.H (m1.ix 6) (m1.at 6 rfl) (((id (ds.getD e0 default).ents),m,j)) [.slice m z11 j] rfl (a1) (m1.ent 4 (by kernel_rfl)) (Hj.getD 7 default) (.tmp 62) (.tmp 66) 40 (by kernel_rfl) (by kernel_rfl) (by kernel_rfl) (by decide) (by kernel_rfl) (by kernel_rfl) rfl rfl (by ((try simp only [maxLen,List.length_append,List.length_cons,List.length_nil,List.length_singleton]) <;> omega))
    refine mx (i:=7) (Hj.getD 7 default) (by kernel_rfl) (by kernel_rfl) (by kernel_rfl) g3 ?_
    have k6:=m1.put 6 (by simp) g5 Hn
    have h6:=k6.take 7 9 Ng b (b++[((id (ds.getD e0 default).ents),m,j)]) (((id (ds.getD e0 default).ents),m,j)) rfl rfl (by decide) (by intro z; simp [or_comm])
    refine EB (i:=8) h6 (Hj.getD 8 default) (0,0) (.pointer (some ⟨w8.heap.size,0,none⟩)) fun q8 g6=>?_
    refine EB (i:=9) g6 (Hj.getD 9 default) (0,0) (.pointer (some ⟨w8.heap.size,1,none⟩)) fun k8 f6=>?_
    refine EB (i:=10) f6 (Hj.getD 10 default) (2,1) (undef) fun h8 c6=>?_
    refine Cy ⟨rfl,At.mid ?_⟩
    refine AC (Aj QP) c6 [] fun f4 a6=>?_
    refine BB [(2,.pointer (some ⟨w.heap.size,0,none⟩)),(4,.pointer (some ⟨w.heap.size + 1,0,none⟩)),(5,.pointer (some ⟨w8.heap.size,0,none⟩)),(16,.slice (some ⟨r0,0,none⟩) ((BK a ds p1).length) c0),(17,D (((BK a ds p1).length:Int))),(18,D (IntKind.i64.wrap ((i0:Int) + 1)))] fun s7=>?_
    have z5:Wk w f4 [⟨w.heap.size,0,z10,38,true⟩,⟨w.heap.size + 1,0,[.slice none 0 0,.slice none 0 0,.slice none 0 0,.slice none 0 0,.map none,.map none,.map none,.map none],75,true⟩,⟨w8.heap.size,0,[.slice b0 s.length a0,.slice l2 ((b++[((id (ds.getD e0 default).ents),m,j)]).length) d2,.slice y q.length x,.slice none 0 0,.map (some w1.heap.size),.map (some w3.heap.size),.map (some w5.heap.size),.map (some w7.heap.size)],75,true⟩] [(AY.th BL w1.heap.size h0),(AY.th BL w3.heap.size (CP f0 ((ds.getD e0 default).name) (b.length:Int))),(AY.th BL w5.heap.size d0),(AY.th BL w7.heap.size ([])),(BP (some ⟨r0,0,none⟩) c0 (BK a ds p1)),(Bo b0 a0 s),(EZ l2 d2 (b++[((id (ds.getD e0 default).ents),m,j)])),(DY (b++[((id (ds.getD e0 default).ents),m,j)])),(Bo y x q)] []:=a6.pk [0,1,2] [1,0,2,3,4,5,6,7,8]
    rw [Bs i0 (by omega)]
    refine v0 _ _ ⟨i0 + 1,s,(b++[((id (ds.getD e0 default).ents),m,j)]),q,h0,(CP f0 ((ds.getD e0 default).name) (b.length:Int)),d0,b0,a0,l2,d2,y,x,s7,y0,rfl,by rw [x0,i1,v1] <;> first | rfl | (simp only [cond_true,cond_false,List.length_map,List.map_append,List.map_cons,List.map_nil,id]; done) | (simp only [cond_true,cond_false,List.length_map,List.map_append,List.map_cons,List.map_nil,id]; rfl),by ((try simp only [maxLen,List.length_append,List.length_cons,List.length_nil,List.length_singleton]) <;> omega),by ((try simp only [maxLen,List.length_append,List.length_cons,List.length_nil,List.length_singleton]) <;> omega),by ((try simp only [maxLen,List.length_append,List.length_cons,List.length_nil,List.length_singleton]) <;> omega),by (first | ((try simp only [maxLen,List.length_append,List.length_cons,List.length_nil,List.length_singleton]) <;> omega) | (refine Nat.le_trans (Tt _ _ _) ?_; ((try simp only [maxLen,List.length_append,List.length_cons,List.length_nil,List.length_singleton]) <;> omega))),by (first | ((try simp only [maxLen,List.length_append,List.length_cons,List.length_nil,List.length_singleton]) <;> omega) | (refine Nat.le_trans (Tt _ _ _) ?_; ((try simp only [maxLen,List.length_append,List.length_cons,List.length_nil,List.length_singleton]) <;> omega))),by (first | ((try simp only [maxLen,List.length_append,List.length_cons,List.length_nil,List.length_singleton]) <;> omega) | (refine Nat.le_trans (Tt _ _ _) ?_; ((try simp only [maxLen,List.length_append,List.length_cons,List.length_nil,List.length_singleton]) <;> omega))),z5⟩ ?_
    show (BK a ds p1).length - AQ (D ((i0 + 1:Nat):Int)) < (BK a ds p1).length - AQ (D (i0:Int))
    simp only [AQ]
    omega
   ·refine AC jt u3 [] fun f8 s3=>?_
    refine AM ((ds.getD e0 default).kind == 5) (fun c2=>?_) (fun c2=>?_)
    ·refine AC XJ s3 [(2,6),(3,1),(2,2)] fun e4 r3=>?_
     have Kf:=(r3.pickL (L':=[(AY.th BL w5.heap.size d0)]++[(AY.th BL w1.heap.size h0),(AY.th BL w3.heap.size f0),(AY.th BL w7.heap.size ([])),(BP (some ⟨r0,0,none⟩) c0 (BK a ds p1)),(Bo b0 a0 s),(EZ p o b),(DY b),(Bo y x q)]) [2,0,1,3,4,5,6,7,8] rfl (by decide)).front
     refine CJ (args:=[.map (some w5.heap.size),.string ⟨⟨(ds.getD e0 default).name⟩⟩,D ((q.length:Int))]) (Id _ w5.heap.size d0 ((ds.getD e0 default).name) (q.length:Int) w e4 (ht _ (Ee (GA _ (List.mem_of_getElem? z0)))).2 (by constructor <;> omega) (by ((try simp only [maxLen,List.length_append,List.length_cons,List.length_nil,List.length_singleton]) <;> omega)) r3.B Kf) fun en q2 hh=>?_
     obtain ⟨rfl,f5,Hn⟩:=hh
     refine ⟨_,rfl,?_⟩
     have y5:=Wk.unfront f5 Hn
     refine Cb Bb jr [⟨w.heap.size,0,z10,38,true⟩,⟨w.heap.size + 1,0,[.slice none 0 0,.slice none 0 0,.slice none 0 0,.slice none 0 0,.map none,.map none,.map none,.map none],75,true⟩,⟨w8.heap.size,0,[.slice b0 s.length a0,.slice p b.length o,.slice y q.length x,.slice none 0 0,.map (some w1.heap.size),.map (some w3.heap.size),.map (some w5.heap.size),.map (some w7.heap.size)],75,true⟩,⟨s1.heap.size,0,z13,34,true⟩,⟨q2.heap.size,0,[.string ⟨⟨(ds.getD e0 default).name⟩⟩],9,true⟩] y5 [(2,2),(3,1)] fun e8 k1=>?_
     refine Ch k1.H (k1.ix 8) (k1.at 8 rfl) ((ds.getD e0 default).name) [.string ⟨⟨(ds.getD e0 default).name⟩⟩] rfl (q2.heap.size) (k1.ent 4 (by kernel_rfl)) (DM jr) (by kernel_rfl) (.tmp 83) (.tmp 86) 39 (by kernel_rfl) (by kernel_rfl) (by kernel_rfl) (by decide) (by kernel_rfl) (by kernel_rfl) rfl rfl (by ((try simp only [maxLen,List.length_append,List.length_cons,List.length_nil,List.length_singleton]) <;> omega)) fun k2 a2 c8 Hn e5=>?_
     have v5:=k1.put 8 (by simp) e5 Hn
     refine BQ (Aj QP) v5 [(2,2)] fun c4 u5=>?_
     refine BB [(2,.pointer (some ⟨w.heap.size,0,none⟩)),(4,.pointer (some ⟨w.heap.size + 1,0,none⟩)),(5,.pointer (some ⟨w8.heap.size,0,none⟩)),(16,.slice (some ⟨r0,0,none⟩) ((BK a ds p1).length) c0),(17,D (((BK a ds p1).length:Int))),(18,D (IntKind.i64.wrap ((i0:Int) + 1)))] fun r7=>?_
     have t5:Wk w c4 [⟨w.heap.size,0,z10,38,true⟩,⟨w.heap.size + 1,0,[.slice none 0 0,.slice none 0 0,.slice none 0 0,.slice none 0 0,.map none,.map none,.map none,.map none],75,true⟩,⟨w8.heap.size,0,[.slice b0 s.length a0,.slice p b.length o,.slice k2 ((q++[(ds.getD e0 default).name]).length) a2,.slice none 0 0,.map (some w1.heap.size),.map (some w3.heap.size),.map (some w5.heap.size),.map (some w7.heap.size)],75,true⟩] [(AY.th BL w1.heap.size h0),(AY.th BL w3.heap.size f0),(AY.th BL w5.heap.size (CP d0 ((ds.getD e0 default).name) (q.length:Int))),(AY.th BL w7.heap.size ([])),(BP (some ⟨r0,0,none⟩) c0 (BK a ds p1)),(Bo b0 a0 s),(EZ p o b),(DY b),(Bo k2 a2 (q++[(ds.getD e0 default).name]))] []:=u5.pk [0,1,2] [1,2,0,3,4,5,6,7,8]
     rw [Bs i0 (by omega)]
     refine v0 _ _ ⟨i0 + 1,s,b,(q++[(ds.getD e0 default).name]),h0,f0,(CP d0 ((ds.getD e0 default).name) (q.length:Int)),b0,a0,p,o,k2,a2,r7,y0,rfl,by rw [x0,i1,v1,c2] <;> first | rfl | (simp only [cond_true,cond_false,List.length_map,List.map_append,List.map_cons,List.map_nil,id]; done) | (simp only [cond_true,cond_false,List.length_map,List.map_append,List.map_cons,List.map_nil,id]; rfl),by ((try simp only [maxLen,List.length_append,List.length_cons,List.length_nil,List.length_singleton]) <;> omega),by ((try simp only [maxLen,List.length_append,List.length_cons,List.length_nil,List.length_singleton]) <;> omega),by ((try simp only [maxLen,List.length_append,List.length_cons,List.length_nil,List.length_singleton]) <;> omega),by (first | ((try simp only [maxLen,List.length_append,List.length_cons,List.length_nil,List.length_singleton]) <;> omega) | (refine Nat.le_trans (Tt _ _ _) ?_; ((try simp only [maxLen,List.length_append,List.length_cons,List.length_nil,List.length_singleton]) <;> omega))),by (first | ((try simp only [maxLen,List.length_append,List.length_cons,List.length_nil,List.length_singleton]) <;> omega) | (refine Nat.le_trans (Tt _ _ _) ?_; ((try simp only [maxLen,List.length_append,List.length_cons,List.length_nil,List.length_singleton]) <;> omega))),by (first | ((try simp only [maxLen,List.length_append,List.length_cons,List.length_nil,List.length_singleton]) <;> omega) | (refine Nat.le_trans (Tt _ _ _) ?_; ((try simp only [maxLen,List.length_append,List.length_cons,List.length_nil,List.length_singleton]) <;> omega))),t5⟩ ?_
     show (BK a ds p1).length - AQ (D ((i0 + 1:Nat):Int)) < (BK a ds p1).length - AQ (D (i0:Int))
     simp only [AQ]
     omega
    ·refine AC (Aj QP) s3 [] fun a4 s5=>?_
     refine BB [(2,.pointer (some ⟨w.heap.size,0,none⟩)),(4,.pointer (some ⟨w.heap.size + 1,0,none⟩)),(5,.pointer (some ⟨w8.heap.size,0,none⟩)),(16,.slice (some ⟨r0,0,none⟩) ((BK a ds p1).length) c0),(17,D (((BK a ds p1).length:Int))),(18,D (IntKind.i64.wrap ((i0:Int) + 1)))] fun q7=>?_
     have r5:Wk w a4 [⟨w.heap.size,0,z10,38,true⟩,⟨w.heap.size + 1,0,[.slice none 0 0,.slice none 0 0,.slice none 0 0,.slice none 0 0,.map none,.map none,.map none,.map none],75,true⟩,⟨w8.heap.size,0,[.slice b0 s.length a0,.slice p b.length o,.slice y q.length x,.slice none 0 0,.map (some w1.heap.size),.map (some w3.heap.size),.map (some w5.heap.size),.map (some w7.heap.size)],75,true⟩] [(AY.th BL w1.heap.size h0),(AY.th BL w3.heap.size f0),(AY.th BL w5.heap.size d0),(AY.th BL w7.heap.size ([])),(BP (some ⟨r0,0,none⟩) c0 (BK a ds p1)),(Bo b0 a0 s),(EZ p o b),(DY b),(Bo y x q)] []:=s5.pk [0,1,2] [0,1,2,3,4,5,6,7,8]
     rw [Bs i0 (by omega)]
     refine v0 _ _ ⟨i0 + 1,s,b,q,h0,f0,d0,b0,a0,p,o,y,x,q7,y0,rfl,by rw [x0,i1,v1,c2] <;> first | rfl | (simp only [cond_true,cond_false,List.length_map,List.map_append,List.map_cons,List.map_nil,id]; done) | (simp only [cond_true,cond_false,List.length_map,List.map_append,List.map_cons,List.map_nil,id]; rfl),by ((try simp only [maxLen,List.length_append,List.length_cons,List.length_nil,List.length_singleton]) <;> omega),by ((try simp only [maxLen,List.length_append,List.length_cons,List.length_nil,List.length_singleton]) <;> omega),by ((try simp only [maxLen,List.length_append,List.length_cons,List.length_nil,List.length_singleton]) <;> omega),by (first | ((try simp only [maxLen,List.length_append,List.length_cons,List.length_nil,List.length_singleton]) <;> omega) | (refine Nat.le_trans (Tt _ _ _) ?_; ((try simp only [maxLen,List.length_append,List.length_cons,List.length_nil,List.length_singleton]) <;> omega))),by (first | ((try simp only [maxLen,List.length_append,List.length_cons,List.length_nil,List.length_singleton]) <;> omega) | (refine Nat.le_trans (Tt _ _ _) ?_; ((try simp only [maxLen,List.length_append,List.length_cons,List.length_nil,List.length_singleton]) <;> omega))),by (first | ((try simp only [maxLen,List.length_append,List.length_cons,List.length_nil,List.length_singleton]) <;> omega) | (refine Nat.le_trans (Tt _ _ _) ?_; ((try simp only [maxLen,List.length_append,List.length_cons,List.length_nil,List.length_singleton]) <;> omega))),r5⟩ ?_
     show (BK a ds p1).length - AQ (D ((i0 + 1:Nat):Int)) < (BK a ds p1).length - AQ (D (i0:Int))
     simp only [AQ]
     omega
 ·have k3:i0=(BK a ds p1).length:=by have:=of_decide_eq_false f2; omega
  rw [k3,List.drop_length,NT] at x0
  refine BQ sS r1 [(2,0),(1,0)] fun a8 i2=>?_
  have hS:(AA a ds p1)=(s,(b.map Prod.fst),q,h0,f0,d0,[]):=by rw [x0] <;> rfl
  exact Ab i2 (1,0) (.agg ⟨[.slice b0 s.length a0,.slice p b.length o,.slice y q.length x,.slice none 0 0,.map (some w1.heap.size),.map (some w3.heap.size),.map (some w5.heap.size),.map (some w7.heap.size)]⟩) ⟨b0,a0,p,o,b,y,x,w1.heap.size,w3.heap.size,w5.heap.size,w7.heap.size,by rw [hS] <;> rfl,by rw [hS] <;> first | assumption | (simp; done) | (simp; assumption),i2.B,by rw [hS]; exact i2.own0 [5,6,7,8,0,1,2,3] rfl (by decide)⟩
end
end Go.Proofs.YtmcpjkcggfmcmaaGreatDoor

/-
  Part 38 of a proof: contracts of functions.
-/
import Derived.Test.YtkjbdagicjbjjaaGreatTf30
import Derived.Test.YtkjbdagicjbjjaaGreatTf15
import Derived.Test.YtkjbdagicjbjjaaGreatTf00
import Derived.Deep.QuietTactic
import Derived.BigQuiet
import Derived.IntWalk
set_option linter.all false
namespace Go.Proofs.YtkjbdagicjbjjaaGreat
noncomputable section
open Go.RowKit
set_option maxRecDepth 100000
set_option maxHeartbeats 1000000
abbrev Ty:=Bool×Int×Int×Int
def Bf:Ty:=(false,0,0,0)
def C1:Ty:=(false,1,0,0)
def ED:Ty:=(false,0,1,0)
def CJ:Ty:=(false,1,-1,0)
def DX:Ty:=(true,0,0,0)
def JJ:List Ty:=[Bf,C1,ED,CJ,DX]
def RH:List Ty:=[Bf,C1,ED,CJ]
def Gp (a b:Ty):Bool:=a.1 == b.1 && (a.2.1 == b.2.1 && (a.2.2.1 == b.2.2.1 && a.2.2.2 == b.2.2.2))
def Ho:List (Int×Int):=[(1,1),(2,1),(0,1),(5,2),(1,4),(76,5),(40,1),(1,100),(3,1),(100,1)]
def Qe:List (Int×Int):=[(1,1),(1,100),(1,4)]
def Pp (t:Ty) (n:Int):List (List UInt8):=cond (Gp t DX) ([102] :: cond (decide (3 < n)) [[114,51]] []) (cond (Gp t C1) (cond (decide (2 < n)) [[114,50]] []++cond (decide (4 < n)) [[97]] []) (cond (Gp t ED) [[104]] (cond (Gp t CJ) (cond (decide (1 < n)) [[114,49]] []) ([103] :: cond (decide (4 < n)) [[114,52]] []))))
def tj (op:Int) (t t1 t2:Ty):Prop:=
 ((op=9∨op=10∨op=11)∧t=DX∧t1=t2∧t1∈RH)∨((op=11∨op=12∨op=13)∧t=DX∧t1=DX∧t2=DX)∨
 ((op=5∨op=6∨op=14∨op=15)∧t.1=false∧t1=t∧t2=t)∨((op=7∨op=8)∧t.1=false∧t1=t∧t2=Bf)∨
 (op=7∧t=C1∧t1=ED∧t2=CJ)∨(op=8∧t=CJ∧t1=C1∧t2=ED)∨(op=8∧t=Bf∧t1=t2∧t1∈RH)∨(op=8∧t=ED∧t1=C1∧t2=CJ)
inductive DK (n:Int):Nat→Ty→Ex→Prop
 | tru (h:Nat) (c:Int) (hc:c=0∨c=1):DK n (h + 1) DX (.mk 2 0 0 0 0 0 [] c 0 [])
 | name (h:Nat) (t:Ty) (nm:List UInt8) (hm:nm∈Pp t n):DK n (h + 1) t (.mk 3 0 0 0 0 0 nm 0 0 [])
 | past (h:Nat) (t:Ty) (nm:List UInt8) (op c:Int) (ht:(t=C1∧nm=[103,114,111,115,115])∨(t=ED∧nm=[116,105,109,101])) (hop:op=20∨op=21) (h1:1≤c) (h3:c≤3):DK n (h + 1) t (.mk op 0 0 0 0 0 nm c 0 [])
 | num (h:Nat) (t:Ty) (q:Int×Int) (ht:t.1=false) (h5:t∈JJ) (hq:q∈Ho):DK n (h + 1) t (.mk 1 q.1 q.2 t.2.1 t.2.2.1 t.2.2.2 [] 0 0 [])
 | not (h:Nat) (x:Ex) (hx:DK n h DX x):DK n (h + 1) DX (.mk 17 0 0 0 0 0 [] 0 0 [x])
 | neg (h:Nat) (t:Ty) (x:Ex) (ht:t.1=false) (hx:DK n h t x):DK n (h + 1) t (.mk 16 0 0 0 0 0 [] 0 0 [x])
 | round (h:Nat) (t:Ty) (x:Ex) (q:Int×Int) (m:Int) (ht:t.1=false) (hq:q∈Qe) (m0:0≤m) (m6:m≤6) (hx:DK n h t x):DK n (h + 1) t (.mk 19 q.1 q.2 t.2.1 t.2.2.1 t.2.2.2 [] 0 m [x])
 | scale (h:Nat) (t:Ty) (nm:List UInt8) (x:Ex) (ht:(t=CJ∧nm=[119])∨(t=Bf∧nm=[115])) (hx:DK n h Bf x):DK n (h + 1) t (.mk 4 0 0 0 0 0 nm 0 0 [x])
 | two (h:Nat) (op:Int) (t t1 t2:Ty) (x y:Ex) (ht:tj op t t1 t2) (hx:DK n h t1 x) (hy:DK n h t2 y):DK n (h + 1) t (.mk op 0 0 0 0 0 [] 0 0 [x,y])
 | ite (h:Nat) (t:Ty) (x y z:Ex) (hx:DK n h DX x) (hy:DK n h t y) (hz:DK n h t z):DK n (h + 1) t (.mk 18 0 0 0 0 0 [] 0 0 [x,y,z])
def KI (b:Nat) (ns:List Int) (n:Int) (h:Nat) (t:Ty) (w:World) (e:Ending) (w':World):Prop:=∃ x A c,e=.returned (.agg ⟨AW x A c⟩)∧DK n h t x∧Cz (fun g=>w.heap.size≤g) w' x (AW x A c)∧BW b ns w'∧CE b w w'
def Eo (lo hi:Nat) (xs:List (Ex×List Value)):Th where
 F k:=lo≤k∧k < hi
 P u:=hi≤u.heap.size∧∀ p∈xs,Cz (fun g=>lo≤g∧g < hi) u p.1 p.2
 fr u u' h hs hk:=⟨Nat.le_trans h.1 hs,fun p hp=>Cz.keep hs (fun g hg hl=>⟨hg,hk g hg hl⟩) _ _ (h.2 p hp)⟩
theorem Wk.freshT {w0 w u:World} {M:List Az} {L T:List Th} (K:Wk w0 w M L T) (b:Wk w0 u M L T) (z:Th) (l:z.P u) (c:∀ k,z.F k→w.heap.size≤k∧k < u.heap.size):Wk w0 u M (L++[z]) T:=by
 have d:w0.heap.size≤w.heap.size:=K.B.size
 refine b.add (Below.refl _ _) ⟨b.H.base,fun i t hi=>?_,fun i t hi k e=>?_,fun i j s t hi a f k hs ht=>?_⟩
 ·rcases D8 hi with hi | ⟨_,hi⟩
  ·exact b.H.all i t hi
  ·cases hq:i - (List.map Th.ent M++(L++T)).length with
   | zero=>
    rw [hq] at hi
    obtain rfl:=Option.some.inj hi
    exact l
   | succ q=>rw [hq] at hi; simp at hi
 ·rcases D8 hi with hi | ⟨_,hi⟩
  ·exact b.H.lo i t hi k e
  ·cases hq:i - (List.map Th.ent M++(L++T)).length with
   | zero=>
    rw [hq] at hi
    obtain rfl:=Option.some.inj hi
    exact ⟨Nat.le_trans d (c k e).1,(c k e).2⟩
   | succ q=>rw [hq] at hi; simp at hi
 ·rcases D8 hi with hi | ⟨h,hi⟩
  ·rcases D8 a with a | ⟨_,a⟩
   ·exact b.H.apart i j s t hi a f k hs ht
   ·cases hq:j - (List.map Th.ent M++(L++T)).length with
    | zero=>
     rw [hq] at a
     obtain rfl:=Option.some.inj a
     have:=(K.H.lo i s hi k hs).2
     have:=(c k ht).1
     omega
    | succ q=>rw [hq] at a; simp at a
  ·rcases D8 a with a | ⟨g,a⟩
   ·cases hq:i - (List.map Th.ent M++(L++T)).length with
    | zero=>
     rw [hq] at hi
     obtain rfl:=Option.some.inj hi
     have:=(K.H.lo j t a k ht).2
     have:=(c k hs).1
     omega
    | succ q=>rw [hq] at hi; simp at hi
   ·have m:i - (List.map Th.ent M++(L++T)).length=0:=by
     cases hq:i - (List.map Th.ent M++(L++T)).length with
     | zero=>rfl
     | succ q=>rw [hq] at hi; simp at hi
    have h2:j - (List.map Th.ent M++(L++T)).length=0:=by
     cases hq:j - (List.map Th.ent M++(L++T)).length with
     | zero=>rfl
     | succ q=>rw [hq] at a; simp at a
    omega
theorem Wk.trees {w0 w u:World} {M:List Az} {L T:List Th} (K:Wk w0 w M L T) (c:Wk w0 u M L T) (hs:w.heap.size≤u.heap.size) (xs:List (Ex×List Value)) (h:∀ p∈xs,Cz (fun g=>w.heap.size≤g) u p.1 p.2):Wk w0 u M (L++[Eo w.heap.size u.heap.size xs]) T:=
 K.freshT c (Eo w.heap.size u.heap.size xs) ⟨Nat.le_refl _,fun p a=>Cz.keep (Nat.le_refl _) (fun g hg hl=>⟨⟨hg,hl⟩,rfl⟩) _ _ (h p a)⟩ fun _ b=>b
def Bv (lo:Nat) (n:Int) (h:Nat) (t:Ty) (v:Value) (u:World):Prop:=∃ x A c,v=.agg ⟨AW x A c⟩∧DK n h t x∧Cz (fun g=>lo≤g) u x (AW x A c)
theorem Bv.but {b lo:Nat} {n:Int} {h:Nat} {t:Ty} (hb:b < lo):∀ v u a,CE b u a→Bv lo n h t v u→Bv lo n h t v a:=fun v u a he ⟨x,A,c,e,h2,d⟩=>⟨x,A,c,e,h2,Cz.keep he.size (fun g hg hl=>⟨hg,he.block g hl (by omega)⟩) _ _ d⟩
def JD (n:Nat) (v:Value) (_:World):Prop:=∃ k:Nat,k < n∧v=AI (k:Int)
def KP (xs:List Int) (v:Value) (_:World):Prop:=∃ x∈xs,v=AI x
def FF (b:Nat) (cs:List Value) (T:TypeId) (k:Nat) (v:Value) (u:World):Prop:=∃ g,v=.slice (IN g) k k∧g≠b∧Az.good u ⟨g,0,cs,T,true⟩
theorem FF.but {b:Nat} {d:List Value} {T:TypeId} {k:Nat}:∀ v u a,CE b u a→FF b d T k v u→FF b d T k v a:=fun v u a he ⟨g,e,h2,c⟩=>⟨g,e,h2,F6 c he.size (he.block g c.1 h2)⟩
theorem OQ {w:World} {e:Az} (h:e.good w):w.rangeAt e.id e.off e.cells:=fun _ _ hv=>EH h hv rfl rfl rfl
theorem NS {S:Nat→Prop} {w:World} {e:Ex} {A:Option Addr} {c:Nat} {ks:List (List Value)} (a:Eu S w e.ks ks) (h2:DI S w 10 A ks):Cz S w e (AW e A c):=by
 cases e with
 | mk a1 a2 a3 a4 a5 a6 a7 a8 a9 kids=>
  unfold Cz
  exact ⟨A,c,ks,rfl,a,h2⟩
theorem RM {S:Nat→Prop} {w:World} {g:Nat} {T:TypeId} {ks:List (List Value)} (b:S g) (hn:∀ r∈ks,r.length=10) (h:Az.good w ⟨g,0,ks.flatten,T,true⟩):DI S w 10 (IN g) ks:=by
 rcases C8 hn h with a | ⟨c,off,a,_,h2⟩
 ·exact .inl a
 ·obtain ⟨rfl,rfl⟩:g=c∧0=off:=by simpa using a
  exact .inr ⟨g,0,rfl,b,h2⟩
attribute [local irreducible] A8 BL AC AD AF Ao AY AL Aq Bb Cn BR Dx Cm BK At Fr
noncomputable def X1:Code:=Tryz.f22.body.getD .skip
def zo:=AA 60 [.code X1]
theorem Gn (w:World):Calls Tryz.prog 22 ([]:List Value).toArray w fun e w'=>e=.returned (.agg ⟨Av Bf⟩)∧Below w.heap.size w w':=by
 refine AR (args:=[]) (fn:=Tryz.f22) (c:=X1) (n:=2) ?_
 refine Af zo [⟨w.heap.size,0,Av Bf,56,true⟩] (Wk.start w) [(0,0)] fun b a=>?_
 exact AJ a (0,0) (.agg ⟨Av Bf⟩) ⟨rfl,a.B⟩
noncomputable def X0:Code:=Tryz.f19.body.getD .skip
def zn:=AA 60 [.code X0]
theorem GC (w:World):Calls Tryz.prog 19 ([]:List Value).toArray w fun e w'=>e=.returned (.agg ⟨Av C1⟩)∧Below w.heap.size w w':=by
 refine AR (args:=[]) (fn:=Tryz.f19) (c:=X0) (n:=3) ?_
 refine Af zn [⟨w.heap.size,0,Av C1,56,true⟩] (Wk.start w) [(0,0)] fun b a=>?_
 exact AJ a (0,0) (.agg ⟨Av C1⟩) ⟨rfl,a.B⟩
noncomputable def Xz:Code:=Tryz.f17.body.getD .skip
def zm:=AA 60 [.code Xz]
theorem Hw (w:World):Calls Tryz.prog 17 ([]:List Value).toArray w fun e w'=>e=.returned (.agg ⟨Av ED⟩)∧Below w.heap.size w w':=by
 refine AR (args:=[]) (fn:=Tryz.f17) (c:=Xz) (n:=3) ?_
 refine Af zm [⟨w.heap.size,0,Av ED,56,true⟩] (Wk.start w) [(0,0)] fun b a=>?_
 exact AJ a (0,0) (.agg ⟨Av ED⟩) ⟨rfl,a.B⟩
noncomputable def Xy:Code:=Tryz.f21.body.getD .skip
def zl:=AA 60 [.code Xy]
theorem GB (w:World):Calls Tryz.prog 21 ([]:List Value).toArray w fun e w'=>e=.returned (.agg ⟨Av CJ⟩)∧Below w.heap.size w w':=by
 refine AR (args:=[]) (fn:=Tryz.f21) (c:=Xy) (n:=3) ?_
 refine Af zl [⟨w.heap.size,0,Av CJ,56,true⟩] (Wk.start w) [(0,0)] fun b a=>?_
 exact AJ a (0,0) (.agg ⟨Av CJ⟩) ⟨rfl,a.B⟩
noncomputable def Xx:Code:=Tryz.f18.body.getD .skip
def zk:=AA 60 [.code Xx]
theorem KJ (w:World):Calls Tryz.prog 18 ([]:List Value).toArray w fun e w'=>e=.returned (.agg ⟨Av DX⟩)∧Below w.heap.size w w':=by
 refine AR (args:=[]) (fn:=Tryz.f18) (c:=Xx) (n:=2) ?_
 refine Af zk [⟨w.heap.size,0,Av DX,56,true⟩] (Wk.start w) [(0,0)] fun b a=>?_
 exact AJ a (0,0) (.agg ⟨Av DX⟩) ⟨rfl,a.B⟩
noncomputable def YN:Code:=Tryz.f33.body.getD .skip
def Zz:=AA 60 [.code YN]
def po:=AA (Ak (Aa) 90 (AC Zz)) (AC Zz)
def AAj:=AA 60 (AC (AC po))
theorem In (b:Nat) (ns:List Int) (g:Nat) (xs:List Int) (c:Nat) (w:World) (r:BW b ns w) (hg:g≠b) (hx:0 < xs.length) (hm:xs.length≤1000) (hr:Az.good w ⟨g,0,xs.map (Value.int .i64),3,true⟩) :
  Calls Tryz.prog 33 ([BY b,.slice (IN g) xs.length c]:List Value).toArray w fun e w'=>∃ x∈xs,e=.returned (AI x)∧BW b ns w'∧CE b w w':=by
 refine AR (args:=[BY b,.slice (IN g) xs.length c]) (fn:=Tryz.f33) (c:=YN) (n:=12) ?_
 obtain ⟨w0,f,o⟩:=Wk.tape r
 have i:=o.B
 refine AB Zz o [] fun p m=>?_
 refine BE m f 0 rfl (args:=[BY b,AI (xs.length:Int)]) (BM b ns xs.length p (m.tapeOk f 0 rfl) (by omega) (by omega)) BQ.ok fun e v q s=>?_
 obtain ⟨k,y,rfl,_,_⟩:=q
 refine ⟨_,rfl,?_⟩
 have d:k < xs.length:=by omega
 obtain ⟨x,a⟩:∃ x,xs[k]?=some x:=⟨_,List.getElem?_eq_getElem d⟩
 refine Ae Aa po s [] fun u l=>?_
 have hb:=(l.out f i).2
 have h:=F6 hr hb.size (hb.block g hr.1 hg)
 refine Au (g:=g) (off:=0) (cap:=c) (sz:=1) (k:=k) (len:=xs.length) (some 10) d Tryz.underlying22 ?_
 have hc:=OQ h k (AI x) (by rw [List.getElem?_map,a]; rfl)
 refine Dh 3 g (0 + k * 1) (AI x) (some 11) (by simpa using hc) ?_
 refine AB AAj l [] fun t j=>?_
 exact AJ j (0,0) (AI x) ⟨x,List.mem_of_getElem? a,rfl,j.out f i⟩
noncomputable def YX:Code:=Tryz.f34.body.getD .skip
def aX:=AA 60 [.code YX]
def qV:=AA (Ak (Aa) 90 (AC aX)) (AC aX)
def AA4:=AA 60 (AC (AC qV))
theorem yv (b:Nat) (ns:List Int) (w:World) (hT:BW b ns w):Calls Tryz.prog 34 ([.pointer (some ⟨b,0,none⟩)]:List Value).toArray w fun e w'=>∃ q∈Ho,e=.returned (.agg ⟨[AI q.1,AI q.2]⟩)∧BW b ns w'∧CE b w w':=by
 refine AR (args:=[.pointer (some ⟨b,0,none⟩)]) (fn:=Tryz.f34) (c:=YX) (n:=18) ?_
 obtain ⟨w0,h0,K0⟩:=Wk.tape hT
 have hw:=K0.B
 refine Af aX [⟨w.heap.size,0,[AI 0,AI 0],41,true⟩,⟨w.heap.size + 1,0,[AI 1,AI 1,AI 2,AI 1,AI 0,AI 1,AI 5,AI 2,AI 1,AI 4,AI 76,AI 5,AI 40,AI 1,AI 1,AI 100,AI 3,AI 1,AI 100,AI 1],41,true⟩] K0 [] fun w1 K1=>?_
 refine BE K1 h0 0 rfl (args:=[.pointer (some ⟨b,0,none⟩),AI 10]) (BM b ns 10 w1 (K1.tapeOk h0 0 rfl) (by omega) (by omega)) BQ.ok fun e w2 hq K2=>?_
 obtain ⟨k,hk,rfl,_,_⟩:=hq
 refine ⟨_,rfl,?_⟩
 have hkl:k < Ho.length:=by show k < 10; omega
 obtain ⟨q,hqk⟩:∃ x,Ho[k]?=some x:=⟨_,List.getElem?_eq_getElem hkl⟩
 refine Ae Aa qV K2 [] fun w3 K3=>?_
 refine Au (g:=w.heap.size + 1) (off:=0) (cap:=10) (sz:=2) (k:=k) (len:=10) (some 16) hkl Tryz.underlying67 ?_
 obtain ⟨g,off,h1,_,h3⟩:=CU.all (show CU 2 (fun q:Int×Int=>[AI q.1,AI q.2]) w3 (some ⟨w.heap.size + 1,0,none⟩) Ho from C8 (fun r hr=>by obtain ⟨e,_,rfl⟩:=List.mem_map.1 hr; rfl) (K3.ent 1 rfl)) (by decide)
 obtain ⟨rfl,rfl⟩:w.heap.size + 1=g∧0=off:=by simpa using h1
 refine BI 41 (w.heap.size + 1) (0 + k * 2) [AI q.1,AI q.2] (some 17) (h3 k q hqk) ?_
 refine Af AA4 [⟨w.heap.size,0,[AI q.1,AI q.2],41,true⟩,⟨w.heap.size + 1,0,[AI 1,AI 1,AI 2,AI 1,AI 0,AI 1,AI 5,AI 2,AI 1,AI 4,AI 76,AI 5,AI 40,AI 1,AI 1,AI 100,AI 3,AI 1,AI 100,AI 1],41,true⟩] K3 [(0,0)] fun w4 K4=>?_
 exact AJ K4 (0,0) (.agg ⟨[AI q.1,AI q.2]⟩) ⟨q,List.mem_of_getElem? hqk,rfl,K4.out h0 hw⟩
noncomputable def Xt:Code:=Tryz.f32.body.getD .skip
def ze:=AA 60 [.code Xt]
theorem Jf (op:Int) (x y:Ex) (A B:Option Addr) (c d:Nat) (w:World):Calls Tryz.prog 32 ([AI op,.agg ⟨AW x A c⟩,.agg ⟨AW y B d⟩]:List Value).toArray w fun e w'=>∃ g,e=.returned (.agg ⟨AW (.mk op 0 0 0 0 0 [] 0 0 [x,y]) (IN g) 2⟩)∧Below w.heap.size w w'∧Ac w.heap.size w' [Th.ent ⟨g,0,[AW x A c,AW y B d].flatten,53,true⟩]:=by
 refine AR (args:=[AI op,.agg ⟨AW x A c⟩,.agg ⟨AW y B d⟩]) (fn:=Tryz.f32) (c:=Xt) (n:=12) ?_
 refine Af ze [⟨w.heap.size,0,AW x A c,53,true⟩,⟨w.heap.size + 1,0,AW y B d,53,true⟩,⟨w.heap.size + 2,0,AW (.mk op 0 0 0 0 0 [] 0 0 [x,y]) (some ⟨w.heap.size + 3,0,none⟩) 2,53,true⟩,⟨w.heap.size + 3,0,[AW x A c,AW y B d].flatten,53,true⟩] (Wk.start w) [(0,0),(1,0),(2,0)] fun b a=>?_
 exact AJ a (2,0) (.agg ⟨AW (.mk op 0 0 0 0 0 [] 0 0 [x,y]) (some ⟨w.heap.size + 3,0,none⟩) 2⟩) ⟨_,rfl,a.B,a.H.pick [3] rfl (by decide)⟩
end
end Go.Proofs.YtkjbdagicjbjjaaGreat
namespace Go.Proofs.YtkjbdagicjbjjaaGreat
open Go.RowKit
set_option maxHeartbeats 1000000 in
theorem Ly (a b:Nat) (w:World) (ha:a≤4000000000000000000) (hb:b≤4000000000000000000) :
  Calls Tryz.prog 94 #[.int .u64 a,.int .u64 b] w fun e w'=>e=.returned (.int .u64 (Nat.gcd a b))∧∃ n,w'=w.drewN n:=by
 generalize hG:Nat.gcd a b=G
 have HG:=Lib.hid hG
 clear hG
 go_enter Tryz.func94,Tryz.ntmps94
 go_wp2_with fail
 go_loopw [0,1] (fun p q wr=>∃ x y n:Nat,x≤4000000000000000000∧y≤4000000000000000000∧p=.int .u64 x∧q=.int .u64 y∧Hid (Nat.gcd x y=G)∧wr=w.drewN n) (fun _ q _=>(intOf q).toNat)
 case atStart=>exact ⟨a,b,0,ha,hb,rfl,rfl,HG,rfl⟩
 case round=>
  obtain ⟨x,y,n,hx,hy,rfl,rfl,HX,rfl⟩:=hrel
  by_cases hy0:y=0
  ·subst hy0
   go_wp2_with fail
   go_ret
   exact ⟨EQ (by rw [← HX.out]; simp),n,rfl⟩
  ·have g1:((y:Int) != 0)=true:=by simp; omega
   have g2:((y:Int) == 0)=false:=by simp; omega
   have hyp:1≤y:=by omega
   have hm:=Nat.mod_lt x hyp
   have HN:Hid (Nat.gcd y (x % y)=G):=by
    show _=_
    rw [← HX.out,Nat.gcd_comm x y,Nat.gcd_rec y x,Nat.gcd_comm]
   clear hy0
   go_wp2_with fail
   go_quiet (fail)
   go_wp2_with fail
   go_roundw
   case rel=>exact ⟨y,x % y,_,by omega,by omega,rfl,by go_num,HN,World.drewN_drewN _ _ _⟩
   case measure=>simp [intOf]; omega
def J0 (neg:Bool) (n d:Nat):Int×Int×Int:=
 match Tk.newR n d with
 | none=>(0,0,4)
 | some (a,b)=>(if neg=true then -(a:Int) else a,b,0)
def Pi (x:Int×Int×Int):Ending:=.returned (.tuple #[.agg #[AI x.1,AI x.2.1],AI x.2.2])
theorem LJ (n:Int) (w:World) (b:-4000000000000000000≤n) (a:n≤4000000000000000000) :
  Calls Tryz.prog 95 #[AI n] w fun e w'=>e=.returned (.int .u64 (n.natAbs:Nat))∧w=w':=by
 by_cases hn:n < 0
 ·go_enter Tryz.func95,Tryz.ntmps95
  go_wp2_with fail
  go_ret
  refine ⟨EQ ?_,rfl⟩
  simp only [IntKind.wrap_u64]
  omega
 ·go_enter Tryz.func95,Tryz.ntmps95
  go_wp2_with fail
  go_ret
  exact ⟨EQ (by first | omega | (simp only [IntKind.wrap_u64]; omega)),rfl⟩
theorem OS {neg:Bool} {n d G a b:Nat} (h:Hid (Nat.gcd n d=G)) (g:n / G=a) (h2:d / G=b) (e:a≤1000000000000) (c:b≤1000000):J0 neg n d=(if neg=true then -(a:Int) else a,(b:Int),0):=by
 have f:=h.out
 unfold J0 Tk.newR
 rw [f,g,h2,if_neg (by omega)]
theorem Vw {neg:Bool} {n d G b a:Nat} (g:Hid (Nat.gcd n d=G)) (f:n / G=b) (h2:d / G=a) (c:1000000000000 < b∨1000000 < a):J0 neg n d=(0,0,4):=by
 have e:=g.out
 unfold J0 Tk.newR
 rw [e,f,h2,if_pos c]
set_option maxHeartbeats 1000000 in
theorem tW (neg:Bool) (n d:Nat) (w:World) (hn:n≤4000000000000000000) (hd0:1≤d) (hd:d≤4000000000000000000) :
  Calls Tryz.prog 98 #[.bool neg,.int .u64 n,.int .u64 d] w fun e w'=>e=Pi (J0 neg n d)∧Below w.heap.size w w':=by
 have hg0:1≤Nat.gcd n d:=Nat.gcd_pos_of_pos_right _ hd0
 generalize hG:Nat.gcd n d=G at *
 have HG:=Lib.hid hG
 clear hG
 obtain ⟨q1,h1⟩:∃ q,n / G=q:=⟨_,rfl⟩
 obtain ⟨q2,h2⟩:∃ q,d / G=q:=⟨_,rfl⟩
 have b1:q1≤4000000000000000000:=by rw [← h1]; exact Nat.le_trans (Nat.div_le_self _ _) hn
 have b2:q2≤4000000000000000000:=by rw [← h2]; exact Nat.le_trans (Nat.div_le_self _ _) hd
 have e1:IntKind.u64.wrap ((n:Int) / (G:Int))=(q1:Int):=by
  rw [← Int.natCast_ediv,h1]; exact IntWalk.u64_in _ (by omega)
 have e2:IntKind.u64.wrap ((d:Int) / (G:Int))=(q2:Int):=by
  rw [← Int.natCast_ediv,h2]; exact IntWalk.u64_in _ (by omega)
 by_cases hA:1000000000000 < q1∨1000000 < q2
 ·have HF:Hid (J0 neg n d=(0,0,4)):=Vw HG h1 h2 hA
  have HE1:=Lib.hid e1
  have HE2:=Lib.hid e2
  have HA:1000000000000 < q1∨(¬ 1000000000000 < q1∧1000000 < q2):=by omega
  clear h1 h2 e1 e2 hA
  rcases HA with hA | ⟨hA1,hA2⟩
  ·go_enter Tryz.func98,Tryz.ntmps98
   go_wp2_with fail
   refine (Ly _ _ _ hn hd).mono ?_
   rintro e w' ⟨rfl,nq,rfl⟩
   rw [HG.out]
   have e1:=HE1.out
   have e2:=HE2.out
   go_wp2_with fail
   go_quiet (fail)
   clear e1 e2
   go_wp2_with fail
   refine bodyPost_ret (v:=.tuple #[.agg #[AI 0,AI 0],AI 4]) (by simp [results,Tryz.results98,go_sem]) rfl ⟨by rw [HF.out]; rfl,?_⟩
   exact ((Fi ((Below.refl _ _).alloc (Nat.le_refl _) _) _).setCell (by simp) _).setCell (by simp) _
  ·go_enter Tryz.func98,Tryz.ntmps98
   go_wp2_with fail
   refine (Ly _ _ _ hn hd).mono ?_
   rintro e w' ⟨rfl,nq,rfl⟩
   rw [HG.out]
   have e1:=HE1.out
   have e2:=HE2.out
   go_wp2_with fail
   go_quiet (fail)
   clear e1 e2
   go_wp2_with fail
   refine bodyPost_ret (v:=.tuple #[.agg #[AI 0,AI 0],AI 4]) (by simp [results,Tryz.results98,go_sem]) rfl ⟨by rw [HF.out]; rfl,?_⟩
   exact ((Fi ((Below.refl _ _).alloc (Nat.le_refl _) _) _).setCell (by simp) _).setCell (by simp) _
 ·have HF:Hid (J0 neg n d=(if neg=true then -(q1:Int) else q1,(q2:Int),0)):=OS HG h1 h2 (by omega) (by omega)
  have HE1:=Lib.hid e1
  have HE2:=Lib.hid e2
  have hA1:q1≤1000000000000:=by omega
  have hA2:q2≤1000000:=by omega
  clear h1 h2 e1 e2 hA
  cases neg
  ·go_enter Tryz.func98,Tryz.ntmps98
   go_wp2_with fail
   refine (Ly _ _ _ hn hd).mono ?_
   rintro e w' ⟨rfl,nq,rfl⟩
   rw [HG.out]
   have e1:=HE1.out
   have e2:=HE2.out
   go_wp2_with fail
   go_quiet (fail)
   clear e1 e2
   go_wp2_with fail
   refine bodyPost_ret (v:=.tuple #[.agg #[AI q1,AI q2],AI 0]) (by simp [results,Tryz.results98,go_sem]) rfl ⟨by rw [HF.out]; rfl,?_⟩
   exact ((Fi ((Below.refl _ _).alloc (Nat.le_refl _) _) _).setCell (by simp) _).setCell (by simp) _
  ·go_enter Tryz.func98,Tryz.ntmps98
   go_wp2_with fail
   refine (Ly _ _ _ hn hd).mono ?_
   rintro e w' ⟨rfl,nq,rfl⟩
   rw [HG.out]
   have e1:=HE1.out
   have e2:=HE2.out
   go_wp2_with fail
   go_quiet (fail)
   clear e1 e2
   go_wp2_with fail
   refine bodyPost_ret (v:=.tuple #[.agg #[AI (-(q1:Int)),AI q2],AI 0]) (by simp [results,Tryz.results98,go_sem]) rfl ⟨by rw [HF.out]; rfl,?_⟩
   exact ((Fi ((Below.refl _ _).alloc (Nat.le_refl _) _) _).setCell (by simp) _).setCell (by simp) _
def Jp (n d:Int):Int×Int×Int:=if d=0 then (0,0,5) else J0 (!(decide (n < 0) == decide (d < 0))) n.natAbs d.natAbs
set_option maxHeartbeats 1000000 in
theorem ADm (n d:Int) (w:World) (hn0:-4000000000000000000≤n) (hn:n≤4000000000000000000) (hd0:-4000000000000000000≤d) (hd:d≤4000000000000000000) :
  Calls Tryz.prog 66 #[AI n,AI d] w fun e w'=>e=Pi (Jp n d)∧Below w.heap.size w w':=by
 by_cases h0:d=0
 ·subst h0
  go_enter Tryz.func66,Tryz.ntmps66
  go_wp2_with fail
  refine bodyPost_ret (v:=.tuple #[.agg #[AI 0,AI 0],AI 5]) (by simp [results,Tryz.results66,go_sem]) rfl ⟨rfl,?_⟩
  exact (Below.refl _ _).alloc (Nat.le_refl _) _
 ·have HR:Hid (Jp n d=J0 (!(decide (n < 0) == decide (d < 0))) n.natAbs d.natAbs):=by show _=_; unfold Jp; rw [if_neg h0]
  have g0:(d == 0)=false:=by simpa using h0
  have hd1:1≤d.natAbs:=by omega
  clear h0
  go_enter Tryz.func66,Tryz.ntmps66
  go_wp2_with fail
  refine (LJ n _ hn0 hn).mono ?_
  rintro e w' ⟨rfl,rfl⟩
  go_wp2_with fail
  refine (LJ d _ hd0 hd).mono ?_
  rintro e w' ⟨rfl,rfl⟩
  go_wp2_with fail
  refine (tW _ _ _ _ (by omega) (by omega) (by omega)).mono ?_
  rintro e w' ⟨rfl,hb⟩
  generalize hx:J0 _ _ _=x
  obtain ⟨x1,x2,x3⟩:=x
  have HY:Hid (Jp n d=(x1,x2,x3)):=by
   show _=_
   rw [HR.out,← hx]
  clear hx HR
  simp only [Pi]
  have hc0:w'.cell? ⟨w.heap.size,0,none⟩=some (AI 0):=by rw [hb.cell (by simp)]; simp
  have hc1:w'.cell? ⟨w.heap.size,1,none⟩=some (AI 0):=by rw [hb.cell (by simp)]; simp
  have hf0:w'.frozen? ⟨w.heap.size,0,none⟩=false:=by rw [hb.frozen (by simp)]; simp
  have hf1:w'.frozen? ⟨w.heap.size,1,none⟩=false:=by rw [hb.frozen (by simp)]; simp
  go_wp2_with fail
  refine bodyPost_ret (v:=.tuple #[.agg #[AI x1,AI x2],AI x3]) (by simp [results,Tryz.results66,go_sem,hc0,hc1]) rfl ⟨by rw [HY.out]; rfl,?_⟩
  exact ((((Below.refl _ _).alloc (Nat.le_refl _) _).trans (hb.mono (by simp))).setCell (by simp) _).setCell (by simp) _
end Go.Proofs.YtkjbdagicjbjjaaGreat
namespace Go.Proofs.YtkjbdagicjbjjaaGreat
open Go.RowKit
set_option maxHeartbeats 1000000 in
theorem QD (a b:Nat) (w:World) (ha:a≤4000000000000000000) (hb:b≤4000000000000000000) :
  Calls Tryz.prog 100 #[.int .u64 a,.int .u64 b] w fun e w'=>e=.returned (.int .u64 (Nat.gcd a b))∧∃ n,w'=w.drewN n:=by
 generalize hG:Nat.gcd a b=G
 have HG:=Lib.hid hG
 clear hG
 go_enter Tryz.func100,Tryz.ntmps100
 go_wp2_with fail
 go_loopw [0,1] (fun p q wr=>∃ x y n:Nat,x≤4000000000000000000∧y≤4000000000000000000∧p=.int .u64 x∧q=.int .u64 y∧Hid (Nat.gcd x y=G)∧wr=w.drewN n) (fun _ q _=>(intOf q).toNat)
 case atStart=>exact ⟨a,b,0,ha,hb,rfl,rfl,HG,rfl⟩
 case round=>
  obtain ⟨x,y,n,hx,hy,rfl,rfl,HX,rfl⟩:=hrel
  by_cases hy0:y=0
  ·subst hy0
   go_wp2_with fail
   go_ret
   exact ⟨EQ (by rw [← HX.out]; simp),n,rfl⟩
  ·have g1:((y:Int) != 0)=true:=by simp; omega
   have g2:((y:Int) == 0)=false:=by simp; omega
   have hyp:1≤y:=by omega
   have hm:=Nat.mod_lt x hyp
   have HN:Hid (Nat.gcd y (x % y)=G):=by
    show _=_
    rw [← HX.out,Nat.gcd_comm x y,Nat.gcd_rec y x,Nat.gcd_comm]
   clear hy0
   go_wp2_with fail
   go_quiet (fail)
   go_wp2_with fail
   go_roundw
   case rel=>exact ⟨y,x % y,_,by omega,by omega,rfl,by go_num,HN,World.drewN_drewN _ _ _⟩
   case measure=>simp [intOf]; omega
theorem Lc (n:Int) (w:World) (b:-4000000000000000000≤n) (a:n≤4000000000000000000) :
  Calls Tryz.prog 99 #[AI n] w fun e w'=>e=.returned (.int .u64 (n.natAbs:Nat))∧w=w':=by
 by_cases hn:n < 0
 ·go_enter Tryz.func99,Tryz.ntmps99
  go_wp2_with fail
  go_ret
  refine ⟨EQ ?_,rfl⟩
  first | omega | (simp only [IntKind.wrap_u64]; omega)
 ·go_enter Tryz.func99,Tryz.ntmps99
  go_wp2_with fail
  go_ret
  exact ⟨EQ (by first | omega | (simp only [IntKind.wrap_u64]; omega)),rfl⟩
set_option maxHeartbeats 2000000 in
theorem dV (n d:Int) (w:World) (hn0:-4000000000000000000≤n) (hn:n≤4000000000000000000) (hd0:-4000000000000000000≤d) (hd:d≤4000000000000000000) :
  Calls Tryz.prog 67 #[AI n,AI d] w fun e w'=>e=Pi (Jp n d)∧Below w.heap.size w w':=by
 by_cases h0:d=0
 ·subst h0
  go_enter Tryz.func67,Tryz.ntmps67
  go_wp2_with fail
  refine bodyPost_ret (v:=.tuple #[.agg #[AI 0,AI 0],AI 5]) (by simp [results,Tryz.results67,go_sem]) rfl ⟨rfl,?_⟩
  exact (Below.refl _ _).alloc (Nat.le_refl _) _
 ·have HR:Hid (Jp n d=J0 (!(decide (n < 0) == decide (d < 0))) n.natAbs d.natAbs):=by show _=_; unfold Jp; rw [if_neg h0]
  have g0:(d == 0)=false:=by simpa using h0
  have hd1:1≤d.natAbs:=by omega
  have bn:n.natAbs≤4000000000000000000:=by omega
  have bd:d.natAbs≤4000000000000000000:=by omega
  clear h0
  have hg0:1≤Nat.gcd n.natAbs d.natAbs:=Nat.gcd_pos_of_pos_right _ hd1
  generalize hG:Nat.gcd n.natAbs d.natAbs=G at *
  have HG:=Lib.hid hG
  clear hG
  obtain ⟨q1,h1⟩:∃ q,n.natAbs / G=q:=⟨_,rfl⟩
  obtain ⟨q2,h2⟩:∃ q,d.natAbs / G=q:=⟨_,rfl⟩
  have b1:q1≤4000000000000000000:=by rw [← h1]; exact Nat.le_trans (Nat.div_le_self _ _) bn
  have b2:q2≤4000000000000000000:=by rw [← h2]; exact Nat.le_trans (Nat.div_le_self _ _) bd
  have HE1:Hid (IntKind.u64.wrap ((n.natAbs:Int) / (G:Int))=(q1:Int)):=by
   show _=_
   rw [← Int.natCast_ediv,h1]; exact IntWalk.u64_in _ (by omega)
  have HE2:Hid (IntKind.u64.wrap ((d.natAbs:Int) / (G:Int))=(q2:Int)):=by
   show _=_
   rw [← Int.natCast_ediv,h2]; exact IntWalk.u64_in _ (by omega)
  by_cases hA:1000000000000 < q1∨1000000 < q2
  ·have HF:Hid (Jp n d=(0,0,4)):=by show _=_; rw [HR.out]; exact Vw HG h1 h2 hA
   have HA:1000000000000 < q1∨(¬ 1000000000000 < q1∧1000000 < q2):=by omega
   clear h1 h2 hA
   rcases HA with hA | ⟨hA1,hA2⟩
   all_goals
    go_enter Tryz.func67,Tryz.ntmps67
    go_wp2_with fail
    refine (Lc n _ hn0 hn).mono ?_
    rintro e w' ⟨rfl,rfl⟩
    go_wp2_with fail
    refine (Lc d _ hd0 hd).mono ?_
    rintro e w' ⟨rfl,rfl⟩
    go_wp2_with fail
    refine (QD _ _ _ (by omega) (by omega)).mono ?_
    rintro e w' ⟨rfl,nq,rfl⟩
    rw [HG.out]
    have e1:=HE1.out
    have e2:=HE2.out
    go_wp2_with fail
    go_quiet (fail)
    clear e1 e2
    go_wp2_with fail
    refine bodyPost_ret (v:=.tuple #[.agg #[AI 0,AI 0],AI 4]) (by simp [results,Tryz.results67,go_sem]) rfl ⟨by rw [HF.out]; rfl,?_⟩
    exact ((Fi ((Below.refl _ _).alloc (Nat.le_refl _) _) _).setCell (by simp) _).setCell (by simp) _
  ·have hA1:q1≤1000000000000:=by omega
   have hA2:q2≤1000000:=by omega
   have HF:Hid (Jp n d=(if (!(decide (n < 0) == decide (d < 0)))=true then -(q1:Int) else q1,(q2:Int),0)):=by show _=_; rw [HR.out]; exact OS HG h1 h2 (by omega) (by omega)
   clear h1 h2 hA
   go_enter Tryz.func67,Tryz.ntmps67
   go_wp2_with fail
   refine (Lc n _ hn0 hn).mono ?_
   rintro e w' ⟨rfl,rfl⟩
   go_wp2_with fail
   refine (Lc d _ hd0 hd).mono ?_
   rintro e w' ⟨rfl,rfl⟩
   go_wp2_with fail
   refine (QD _ _ _ (by omega) (by omega)).mono ?_
   rintro e w' ⟨rfl,nq,rfl⟩
   rw [HG.out]
   have e1:=HE1.out
   have e2:=HE2.out
   go_wp2_with fail
   go_quiet (fail)
   clear e1 e2
   go_wp2_with fail
   ·have hs:(!decide (n < 0) == decide (d < 0))=true:=by assumption
    refine bodyPost_ret (v:=.tuple #[.agg #[AI (-(q1:Int)),AI q2],AI 0]) (by simp [results,Tryz.results67,go_sem]) rfl ⟨by rw [HF.out,if_pos hs]; rfl,?_⟩
    repeat (first | exact (Below.refl _ _).alloc (Nat.le_refl _) _ | exact Fi ((Below.refl _ _).alloc (Nat.le_refl _) _) _ | refine Below.setCell ?_ (by simp) _ | refine Below.alloc ?_ (by simp) _ | refine Fi ?_ _)
   ·have hs:¬ (!decide (n < 0) == decide (d < 0))=true:=by rw [Bool.not_eq_true]; assumption
    refine bodyPost_ret (v:=.tuple #[.agg #[AI (q1:Int),AI q2],AI 0]) (by simp [results,Tryz.results67,go_sem]) rfl ⟨by rw [HF.out,if_neg hs]; rfl,?_⟩
    repeat (first | exact (Below.refl _ _).alloc (Nat.le_refl _) _ | exact Fi ((Below.refl _ _).alloc (Nat.le_refl _) _) _ | refine Below.setCell ?_ (by simp) _ | refine Below.alloc ?_ (by simp) _ | refine Fi ?_ _)
end Go.Proofs.YtkjbdagicjbjjaaGreat
namespace Go.Proofs.YtkjbdagicjbjjaaGreat
noncomputable section
open Go.RowKit
set_option maxRecDepth 100000
set_option maxHeartbeats 1000000
theorem tO (n d:Int) (f:-1000000000000≤n) (h2:n≤1000000000000) (e:1≤d) (c:d≤1000000) :
  ∃ p q:Int,Jp n d=(p,q,0)∧-1000000000000≤p∧p≤1000000000000∧0≤q∧q≤1000000:=by
 have b:n.natAbs / Nat.gcd n.natAbs d.natAbs≤1000000000000:=Nat.le_trans (Nat.div_le_self _ _) (by omega)
 have a:d.natAbs / Nat.gcd n.natAbs d.natAbs≤1000000:=Nat.le_trans (Nat.div_le_self _ _) (by omega)
 refine ⟨_,_,by unfold Jp; rw [if_neg (by omega)]; exact OS (Lib.hid rfl) rfl rfl b a,?_,?_,?_,?_⟩
 ·generalize n.natAbs / Nat.gcd n.natAbs d.natAbs=x at *
  split <;> omega
 ·generalize n.natAbs / Nat.gcd n.natAbs d.natAbs=x at *
  split <;> omega
 ·exact Int.natCast_nonneg _
 ·exact Int.ofNat_le.2 a
def Yl (b:Nat) (ns:List Int) (w:World) (e:Ending) (w':World):Prop:=
 ∃ n d:Int,(-1000000000000≤n∧n≤1000000000000∧0≤d∧d≤1000000)∧e=.returned (.agg #[AI n,AI d])∧BW b ns w'∧CE b w w'
def FR (b:Nat) (ns:List Int) (w:World) (e:Ending) (w':World):Prop:=
 ∃ n d:Int,e=.returned (.agg #[AI n,AI d])∧BW b ns w'∧CE b w w'
attribute [local irreducible] A8 BL AC AD AF Ao AY AL Aq Bb Cn BR Dx Cm BK At Fr
noncomputable def WJ:Code:=Tryz.f41.body.getD .skip
def fw:=AA 60 [.code WJ]
def fv:=AA 60 (AC fw)
def ft:=AA 60 (AC fv)
def Tm:=AA 60 (AC ft)
def fm:=AA 60 (AD Tm)
def fl:=AA 60 (AC fm)
def LG:=AA 60 (AC fl)
def Tl:=AA 60 (AF Tm)
def ut:=AA 60 (AD Tl)
def fj:=AA 60 (AF Tl)
def XR:=AA 60 (AD fj)
def tK:=AA 60 (AC XR)
def XQ:=AA 60 (AC LG)
def tJ:=AA 60 (AF XQ)
theorem Wk.newB {w0 u w:World} {M:List Az} {X T:List Th} {b:Nat} {ns:List Int} (K:Wk w0 u M (BH w0 b ns :: X) T) (f:w0.heap.size=b) (_:Below w0.heap.size w0 w) (j:Nat) {e:Az} (c:M[j]?=some e):e.id≠b:=fun h=>by
 have d:(M.map Th.ent++((BH w0 b ns :: X)++T))[j]?=some (Th.ent e):=by
  have a:=(List.getElem?_eq_some_iff.1 c).1
  rw [List.getElem?_append_left (by rw [List.length_map]; exact a),List.getElem?_map,c]
  rfl
 have a:=(List.getElem?_eq_some_iff.1 c).1
 exact K.H.apart j (K.ix 0) _ _ d (K.at 0 rfl) (by unfold Wk.ix; omega) e.id rfl h
theorem jk (b:Nat) (ns:List Int) (w:World) (hT:BW b ns w):Calls Tryz.prog 41 ([BY b]:List Value).toArray w (Yl b ns w):=by
 refine AR (args:=[BY b]) (fn:=Tryz.f41) (c:=WJ) (n:=47) ?_
 obtain ⟨w0,f,K0⟩:=Wk.tape hT
 have hw:=K0.B
 refine Af fw [⟨w.heap.size,0,[AI 0,AI 0],41,true⟩] K0 [] fun w1 K1=>?_
 refine BE K1 f 0 rfl (args:=[BY b,AI 41]) (BM b ns 41 _ (K1.tapeOk f 0 rfl) (by omega) (by omega)) BQ.ok fun e w2 g K2=>?_
 obtain ⟨k1,q0,rfl,_,_⟩:=g
 refine ⟨_,rfl,?_⟩
 refine AB fv K2 [] fun w3 K3=>?_
 refine BE K3 f 0 rfl (args:=[BY b,AI 12]) (BM b ns 12 _ (K3.tapeOk f 0 rfl) (by omega) (by omega)) BQ.ok fun e w4 g K4=>?_
 obtain ⟨k3,p0,rfl,_,_⟩:=g
 refine ⟨_,rfl,?_⟩
 refine AB ft K4 [] fun w5 K5=>?_
 refine BE K5 f 0 rfl (args:=[BY b,AI 8]) (BM b ns 8 _ (K5.tapeOk f 0 rfl) (by omega) (by omega)) BQ.ok fun e w6 g K6=>?_
 obtain ⟨k5,n0,rfl,_,_⟩:=g
 refine ⟨_,rfl,?_⟩
 have fin:∀ (n d:Int) (E:Nat→Value) (M:List Az) (u:World),-1000000000000≤n→n≤1000000000000→1≤d→d≤1000000→Wk w0 u (⟨w.heap.size,0,[AI 0,AI 0],41,true⟩ :: M) [BH w0 b ns,Bj b w] []→At Tryz.prog 41 (Yl b ns w) LG (Fr 47 (BC E [(2,BY (w.heap.size)),(3,AI (n)),(36,AI (n)),(37,AI (d))])) u:=fun n d E M u a1 a2 a3 a4 Ku=>by
  obtain ⟨p,q,b0,hb⟩:=tO n d a1 a2 a3 a4
  have hc:=dV n d u (by omega) (by omega) (by omega) (by omega)
  rw [b0] at hc
  refine AQ (Ku.pk [0] [0,1] (M':=[⟨w.heap.size,0,[AI 0,AI 0],41,true⟩]) (L':=[BH w0 b ns,Bj b w])) (args:=[AI n,AI d]) (v:=.tuple #[.agg #[AI p,AI q],AI 0]) hc fun s K7=>?_
  refine Af XQ [⟨w.heap.size,0,[AI 0,AI 0],41,true⟩,⟨s.heap.size,0,[AI p,AI q],41,true⟩] K7 [(1,0)] fun w8 r=>?_
  refine AG false (fun h=>absurd h Bool.false_ne_true) (fun _=>?_)
  refine Af tJ [⟨w.heap.size,0,[AI p,AI q],41,true⟩,⟨s.heap.size,0,[AI p,AI q],41,true⟩] r [(1,0),(0,0)] fun t m=>?_
  exact AJ m (0,0) (.agg ⟨[AI p,AI q]⟩) ⟨p,q,hb,rfl,m.out f hw⟩
 refine AB Tm K6 [] fun s K7=>?_
 refine AG ((k5:Int) == 5) (fun _=>?_) (fun _=>?_)
 ·refine Af fm [⟨w.heap.size,0,[AI 0,AI 0],41,true⟩,⟨s.heap.size,0,[AI (1000000000000),AI (-1000000000000),AI (999999999999),AI (999999)],3,true⟩] K7 [] fun w8 r=>?_
  refine BE r f 0 rfl (args:=[BY b,.slice (IN s.heap.size) 4 4]) (In b ns s.heap.size [1000000000000,-1000000000000,999999999999,999999] 4 _ (r.tapeOk f 0 rfl) (r.newB f hw 1 rfl) (by decide) (by decide) (r.ent 1 rfl)) (fun _ _ ⟨_,_,_,z,h2⟩=>⟨z,h2⟩) fun e t g m=>?_
  obtain ⟨n,hn,rfl,_,_⟩:=g
  refine ⟨_,rfl,?_⟩
  refine Af fl [⟨w.heap.size,0,[AI 0,AI 0],41,true⟩,⟨s.heap.size,0,[AI (1000000000000),AI (-1000000000000),AI (999999999999),AI (999999)],3,true⟩,⟨t.heap.size,0,[AI (1),AI (1000000),AI (7),AI (100)],3,true⟩] m [] fun o a=>?_
  refine BE a f 0 rfl (args:=[BY b,.slice (IN t.heap.size) 4 4]) (In b ns t.heap.size [1,1000000,7,100] 4 _ (a.tapeOk f 0 rfl) (a.newB f hw 2 rfl) (by decide) (by decide) (a.ent 2 rfl)) (fun _ _ ⟨_,_,_,z,h2⟩=>⟨z,h2⟩) fun e i g l=>?_
  obtain ⟨d,hd,rfl,_,_⟩:=g
  refine ⟨_,rfl,?_⟩
  refine AB LG l [] fun x j=>?_
  refine AU [(2,BY (w.heap.size)),(3,AI (n)),(36,AI (n)),(37,AI (d))] fun g0=>?_
  have y:-1000000000000≤n∧n≤1000000000000:=by simp at hn; omega
  have k:1≤d∧d≤1000000:=by simp at hd; omega
  exact fin n d g0 _ x y.1 y.2 k.1 k.2 j
 refine AB Tl K7 [] fun w8 r=>?_
 refine AG ((k5:Int) == 6) (fun _=>?_) (fun _=>?_)
 ·refine AB ut r [] fun t m=>?_
  refine BE m f 0 rfl (args:=[BY b,AI 200001]) (BM b ns 200001 _ (m.tapeOk f 0 rfl) (by omega) (by omega)) BQ.ok fun e o g a=>?_
  obtain ⟨k9,m0,rfl,_,_⟩:=g
  refine ⟨_,rfl,?_⟩
  refine AB LG a [] fun i l=>?_
  refine AU [(2,BY (w.heap.size)),(3,AI (IntKind.i64.wrap ((k9:Int) - 100000))),(36,AI (IntKind.i64.wrap ((k9:Int) - 100000))),(37,AI (100))] fun i0=>?_
  exact fin _ 100 i0 [] i (by rw [IntWalk.i64_in _ (by omega)]; omega) (by rw [IntWalk.i64_in _ (by omega)]; omega) (by decide) (by decide) l
 refine AB fj r [] fun t m=>?_
 refine AG ((k5:Int) == 7) (fun _=>?_) (fun _=>?_)
 ·refine AB XR m [] fun o a=>?_
  refine BE a f 0 rfl (args:=[BY b,AI 1000]) (BM b ns 1000 _ (a.tapeOk f 0 rfl) (by omega) (by omega)) BQ.ok fun e i g l=>?_
  obtain ⟨ka,l0,rfl,_,_⟩:=g
  refine ⟨_,rfl,?_⟩
  refine Af tK [⟨w.heap.size,0,[AI 0,AI 0],41,true⟩,⟨i.heap.size,0,[AI (1000000),AI (999983),AI (65536),AI (1000)],3,true⟩] l [] fun x j=>?_
  refine BE j f 0 rfl (args:=[BY b,.slice (IN i.heap.size) 4 4]) (In b ns i.heap.size [1000000,999983,65536,1000] 4 _ (j.tapeOk f 0 rfl) (j.newB f hw 1 rfl) (by decide) (by decide) (j.ent 1 rfl)) (fun _ _ ⟨_,_,_,z,h2⟩=>⟨z,h2⟩) fun e k0 g d0=>?_
  obtain ⟨d,hd,rfl,_,_⟩:=g
  refine ⟨_,rfl,?_⟩
  refine AB LG d0 [] fun a0 c0=>?_
  refine AU [(2,BY (w.heap.size)),(3,AI ((ka:Int))),(36,AI ((ka:Int))),(37,AI (d))] fun e0=>?_
  have k:1≤d∧d≤1000000:=by simp at hd; omega
  exact fin _ d e0 _ a0 (by omega) (by omega) k.1 k.2 c0
 ·refine AB LG m [] fun o a=>?_
  refine AU [(2,BY (w.heap.size)),(3,AI (IntKind.i64.wrap ((k1:Int) - 20))),(36,AI (IntKind.i64.wrap ((k1:Int) - 20))),(37,AI (IntKind.i64.wrap (1 + (k3:Int))))] fun j0=>?_
  exact fin _ _ j0 [] o (by rw [IntWalk.i64_in _ (by omega)]; omega) (by rw [IntWalk.i64_in _ (by omega)]; omega) (by rw [IntWalk.i64_in _ (by omega)]; omega) (by rw [IntWalk.i64_in _ (by omega)]; omega) a
noncomputable def WI:Code:=Tryz.f27.body.getD .skip
def fh:=AA 60 [.code WI]
def fg:=AA 60 (AC fh)
def Tj:=AA 60 (AC fg)
def ur:=AA 60 (AD Tj)
def Ti:=AA 60 (AF Tj)
def fe:=AA 60 (AD Ti)
def uq:=AA 60 (AC fe)
def uo:=AA 60 (AF Ti)
theorem Mn (b:Nat) (ns:List Int) (w:World) (u:BW b ns w):Calls Tryz.prog 27 ([BY b]:List Value).toArray w (FR b ns w):=by
 refine AR (args:=[BY b]) (fn:=Tryz.f27) (c:=WI) (n:=25) ?_
 obtain ⟨w0,a,t⟩:=Wk.tape u
 have j:=t.B
 refine Af fh [⟨w.heap.size,0,[AI 0,AI 0],41,true⟩] t [] fun w1 s=>?_
 refine BE s a 0 rfl (args:=[BY b]) (jk b ns _ (s.tapeOk a 0 rfl)) (fun _ _ ⟨_,_,_,_,m,h2⟩=>⟨m,h2⟩) fun e g h z=>?_
 obtain ⟨n,d,_,rfl,_,_⟩:=h
 refine ⟨_,rfl,?_⟩
 refine Af fg [⟨w.heap.size,0,[AI 0,AI 0],41,true⟩,⟨g.heap.size,0,[AI n,AI d],41,true⟩] z [(1,0)] fun w3 r=>?_
 refine BE r a 0 rfl (args:=[BY b,AI 10]) (BM b ns 10 _ (r.tapeOk a 0 rfl) (by omega) (by omega)) BQ.ok fun e w4 h y=>?_
 obtain ⟨k,hk,rfl,_,_⟩:=h
 refine ⟨_,rfl,?_⟩
 refine AB Tj y [] fun w5 q=>?_
 refine AG ((k:Int) == 8) (fun _=>?_) (fun _=>?_)
 ·refine Af ur [⟨w.heap.size,0,[AI (IntKind.i64.wrap (2 * n)),AI (IntKind.i64.wrap (2 * d))],41,true⟩,⟨g.heap.size,0,[AI (IntKind.i64.wrap (2 * n)),AI (IntKind.i64.wrap (2 * d))],41,true⟩] q [(1,0),(1,1),(1,0),(1,1),(1,0),(0,0)] fun o f=>?_
  exact AJ f (0,0) (.agg ⟨[AI (IntKind.i64.wrap (2 * n)),AI (IntKind.i64.wrap (2 * d))]⟩) ⟨_,_,rfl,f.out a j⟩
 refine AB Ti q [] fun i p=>?_
 refine AG ((k:Int) == 9) (fun _=>?_) (fun _=>?_)
 ·refine Af fe [⟨w.heap.size,0,[AI 0,AI 0],41,true⟩,⟨g.heap.size,0,[AI n,AI d],41,true⟩,⟨i.heap.size,0,[AI (0),AI (-1),AI (1000001)],3,true⟩] p [] fun w7 l=>?_
  refine BE l a 0 rfl (args:=[BY b,.slice (IN i.heap.size) 3 3]) (In b ns i.heap.size [0,-1,1000001] 3 _ (l.tapeOk a 0 rfl) (l.newB a j 2 rfl) (by decide) (by decide) (l.ent 2 rfl)) (fun _ _ ⟨_,_,_,m,h2⟩=>⟨m,h2⟩) fun e w8 h v=>?_
  obtain ⟨x,hx,rfl,_,_⟩:=h
  refine ⟨_,rfl,?_⟩
  refine Af uq [⟨w.heap.size,0,[AI (n),AI (x)],41,true⟩,⟨g.heap.size,0,[AI (n),AI (x)],41,true⟩,⟨i.heap.size,0,[AI (0),AI (-1),AI (1000001)],3,true⟩] v [(1,1),(1,0),(0,0)] fun o f=>?_
  exact AJ f (0,0) (.agg ⟨[AI (n),AI (x)]⟩) ⟨_,_,rfl,f.out a j⟩
 ·refine Af uo [⟨w.heap.size,0,[AI (n),AI (d)],41,true⟩,⟨g.heap.size,0,[AI (n),AI (d)],41,true⟩] p [(1,0),(0,0)] fun o f=>?_
  exact AJ f (0,0) (.agg ⟨[AI (n),AI (d)]⟩) ⟨_,_,rfl,f.out a j⟩
end
end Go.Proofs.YtkjbdagicjbjjaaGreat

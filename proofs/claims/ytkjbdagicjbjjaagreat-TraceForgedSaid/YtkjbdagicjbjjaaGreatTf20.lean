/-
  Part 20 of a proof: contracts of functions.
-/
import Derived.Test.YtkjbdagicjbjjaaGreatTf19
import Derived.DeepKeys4
set_option linter.all false
namespace Go.Proofs.YtkjbdagicjbjjaaGreat
noncomputable section
open Go.RowKit
set_option maxRecDepth 100000
set_option maxHeartbeats 1000000
attribute [local irreducible] A8 BL AC AD AF Ao AY AL Aq Bb Cn BR BK At Fr
theorem CU.take {α:Type} {n:Nat} {f:α→List Value} {w:World} {A:Option Addr} {es:List α} (h:CU n f w A es) (i:Nat):CU n f w A (es.take i):=by
 unfold CU
 rw [List.map_take]
 exact Pb h i
theorem Rg {P:Program} {o:Oper} {ρ:Operand→Value} {w:World} {t e:TypeId} {x h:Operand} {a:Option Addr} {len cap i:Nat} (hop:o.op=.slice t x none (some h) none) (hu:P.underlying t=some (.slice e)) (hs:JO P e≠none) (hx:ρ x=.slice a len cap) (f:ρ h=AI (i:Nat)) (hi:i≤cap) (ha:∀ b,a=some b→b.spot=none):(execOp ρ o).run P w=.ok (.value (.slice a i cap)) w:=by
 obtain ⟨sz,c⟩:=Option.ne_none_iff_exists'.1 hs
 have j:¬ (cap:Int) < (i:Int):=by omega
 cases a with
 | none=>simp [execOp,hop,hx,f,Instr.sliceAt,Instr.slice,run_underlying hu,Gs c,Instr.sliceBounds,Instr.sliceBound,asIntOf,hi,j]
 | some b=>
  obtain ⟨g,off,s⟩:=b
  obtain rfl:s=none:=ha _ rfl
  have d:(⟨g,off,none⟩:Addr).add 0=⟨g,off,none⟩:=rfl
  simp [execOp,hop,hx,f,Instr.sliceAt,Instr.slice,run_underlying hu,Gs c,Instr.sliceBounds,Instr.sliceBound,asIntOf,hi,j,d]
theorem P7 {nm:List UInt8} {M:Nat}:∀ {l:List Dn},(∀ e∈l,e.2.length≤M)→(DY nm l).1.length≤M
 | [],_=>Nat.zero_le _
 | e :: tl,h=>by
  rw [DY]
  cases decide (e.1=nm)
  ·exact P7 (l:=tl) fun x hx=>h x (by simp [hx])
  ·exact h e (by simp)
def Hu (l:List Dn) (nm:List UInt8) (n:Int):Int×Int×Int:=cond (cond (decide (n < 1)) true (decide (120 < n))) (0,0,2) (cond (!(DY nm l).2) (0,0,16) (Pt ((DY nm l).1.take n.toNat)))
noncomputable def Xs:Code:=Tryz.f115.body.getD .skip
def oX:=Ai 1 [.code Xs]
def Y7:=AA 60 (AL oX)
def zd:=AA 60 (AD Y7)
def oW:=AA 60 (AF Y7)
def SI:=AA 60 (AC oW)
def zc:=AA 60 (AD SI)
def oV:=AA (Ak I2 90 (AF SI)) (AF SI)
def oU:=AA 60 (AC oV)
def zb:=AA 60 (AC oU)
theorem WV (A:Option Addr) (c:Nat) (l:List Dn) (nm:List UInt8) (n:Int) (w:World) (h:EE w A l) (hl:l.length≤4294967296) (hM:∀ e∈l,e.2.length≤4294967296):Calls Tryz.prog 115 ([.slice A l.length c,By nm,AI n]:List Value).toArray w fun e w'=>e=.returned (DB (Hu l nm n))∧Below w.heap.size w w':=by
 refine AR (args:=[.slice A l.length c,By nm,AI n]) (fn:=Tryz.f115) (c:=Xs) (n:=35) ?_
 have K1:=Wk.start w
 refine Bp 1 oX [⟨w.heap.size,0,[AI 0,AI 0],41,true⟩] K1 [] fun w1 K2=>?_
 refine Ap K2 [] [] K2.G (fun sp m=>by cases m) fun w2 E2 K3=>?_
 unfold Hu
 refine AB Y7 K3 [] fun w3 z=>?_
 refine AG (cond (decide (n < 1)) true (decide (120 < n))) (fun d=>?_) (fun d=>?_)
 ·refine AB zd z [(0,0)] fun u f=>?_
  exact AJ f (0,0) (.tuple #[.agg ⟨[AI 0,AI 0]⟩,AI 2]) ⟨by rw [d]; rfl,f.B⟩
 have hn:1≤n∧n≤120:=by
  cases hd:decide (n < 1) with
  | true=>rw [hd] at d; cases d
  | false=>
   rw [hd] at d
   have h1:=of_decide_eq_false hd
   have h2:¬ 120 < n:=of_decide_eq_false d
   omega
 rw [d]
 refine AB oW z [] fun u f=>?_
 refine A7 (P8 A c l nm w u h hl f.B) fun en w5 hh=>?_
 obtain ⟨s,j,rfl,hok,hx,b5⟩:=hh
 have o:=P7 (nm:=nm) hM
 generalize DY nm l=r at *
 obtain ⟨b,ok⟩:=r
 refine ⟨_,rfl,?_⟩
 have K6:=f.below b5
 refine AB SI K6 [] fun w6 y=>?_
 refine AG (!ok) (fun p=>?_) (fun p=>?_)
 ·refine AB zc y [(0,0)] fun w7 k=>?_
  refine AJ k (0,0) (.tuple #[.agg ⟨[AI 0,AI 0]⟩,AI 16]) ⟨?_,k.B⟩
  show _=Ending.returned (DB (cond false _ (cond (!ok) _ _)))
  rw [p]; rfl
 refine Ae I2 oV y [] fun w7 k=>?_
 refine AU [(6,BY (w.heap.size)),(26,.slice s b.length j),(30,AI (if (b.length:Int) < n then (b.length:Int) else n))] fun E8=>?_
 have hm:(if (b.length:Int) < n then (b.length:Int) else n)=((b.take n.toNat).length:Int):=by
  rw [List.length_take]
  split <;> omega
 have b0:(b.take n.toNat).length≤b.length:=by rw [List.length_take]; omega
 have h0:b.length≤j:=hok.1
 have c0:b.length≤4294967296:=o
 rw [hm]
 refine C4 (Rg (t:=67) (x:=.tmp 26) (h:=.tmp 30) (a:=s) (len:=b.length) (cap:=j) (i:=(b.take n.toNat).length) (by kernel_rfl) Tryz.underlying67 (by decide) (by kernel_rfl) (by kernel_rfl) (by omega) hok.2) ?_
 refine AB oU k [] fun w8 v=>?_
 refine AQ v (j2 s j (b.take n.toNat) w8 (CU.below (CU.take hx _) v.B) (by omega) (by omega)) fun w9 q=>?_
 refine Aj zb q [(0,0)] fun a0 g=>?_
 refine AJ g (0,0) (DB (Pt (b.take n.toNat))) ⟨?_,g.B⟩
 show _=Ending.returned (DB (cond false _ (cond (!ok) _ _)))
 rw [p]; rfl
def Lq (l:List Dn) (nm:List UInt8) (n:Int):Int×Int×Int:=cond (cond (decide (n < 1)) true (decide (120 < n))) (0,0,2) (cond (cond (!(DY nm l).2) true (decide (((DY nm l).1.length:Int) < n))) (0,0,16) (cond (!(Ad ((DY nm l).1.getD (n.toNat - 1) default).1 ((DY nm l).1.getD (n.toNat - 1) default).2)) (0,0,1) (((DY nm l).1.getD (n.toNat - 1) default).1,((DY nm l).1.getD (n.toNat - 1) default).2,0)))
noncomputable def Xr:Code:=Tryz.f116.body.getD .skip
def oT:=Ai 1 [.code Xr]
def Y6:=AA 60 (AL oT)
def zZ:=AA 60 (AD Y6)
def oS:=AA 60 (AF Y6)
def oR:=Ai 4 (AC oS)
def SH:=AA 60 (AL oR)
def zY:=AA 60 (AD SH)
def oQ:=AA (Ak Aa 90 (AF SH)) (AF SH)
def oP:=AA 60 (AC (AC oQ))
def SG:=AA 60 (AC oP)
def uI:=AA 60 (AD SG)
def ep:=AA (Ak Aa 90 (AF SG)) (AF SG)
def uH:=AA 60 (AC (AC ep))
theorem j3 (A:Option Addr) (c:Nat) (l:List Dn) (nm:List UInt8) (n:Int) (w:World) (h:EE w A l) (hl:l.length≤4294967296):Calls Tryz.prog 116 ([.slice A l.length c,By nm,AI n]:List Value).toArray w fun e w'=>e=.returned (DB (Lq l nm n))∧Below w.heap.size w w':=by
 refine AR (args:=[.slice A l.length c,By nm,AI n]) (fn:=Tryz.f116) (c:=Xr) (n:=45) ?_
 have K1:=Wk.start w
 refine Bp 1 oT [⟨w.heap.size,0,[AI 0,AI 0],41,true⟩] K1 [] fun w1 K2=>?_
 refine Ap K2 [] [] K2.G (fun sp i=>by cases i) fun w2 E2 K3=>?_
 unfold Lq
 refine AB Y6 K3 [] fun w3 K4=>?_
 refine AG (cond (decide (n < 1)) true (decide (120 < n))) (fun m=>?_) (fun m=>?_)
 ·refine AB zZ K4 [(0,0)] fun w4 q=>?_
  exact AJ q (0,0) (.tuple #[.agg ⟨[AI 0,AI 0]⟩,AI 2]) ⟨by rw [m]; rfl,q.B⟩
 have hn:1≤n∧n≤120:=by
  cases hd:decide (n < 1) with
  | true=>rw [hd] at m; cases m
  | false=>
   rw [hd] at m
   have h1:=of_decide_eq_false hd
   have h2:¬ 120 < n:=of_decide_eq_false m
   omega
 rw [m]
 refine AB oS K4 [] fun w4 q=>?_
 refine A7 (P8 A c l nm w w4 h hl q.B) fun en w5 hh=>?_
 obtain ⟨A',p,rfl,hok,hx,b5⟩:=hh
 generalize DY nm l=r at *
 obtain ⟨a,ok⟩:=r
 refine ⟨_,rfl,?_⟩
 have K6:=q.below b5
 refine Am 4 oR K6 [] fun w6 K7=>?_
 refine Ap K7 [] [] K7.G (fun sp i=>by cases i) fun w7 E7 K8=>?_
 refine AB SH K8 [] fun w8 K9=>?_
 refine AG (cond (!ok) true (decide ((a.length:Int) < n))) (fun o=>?_) (fun o=>?_)
 ·refine AB zY K9 [(0,0)] fun w9 d=>?_
  refine AJ d (0,0) (.tuple #[.agg ⟨[AI 0,AI 0]⟩,AI 16]) ⟨?_,d.B⟩
  show _=Ending.returned (DB (cond false _ (cond (cond (!ok) true (decide ((a.length:Int) < n))) _ _)))
  rw [o]; rfl
 have j:n.toNat - 1 < a.length:=by
  cases ok with
  | false=>cases o
  | true=>
   have h2:¬ (a.length:Int) < n:=of_decide_eq_false o
   omega
 obtain ⟨v,hv⟩:∃ v,a[n.toNat - 1]?=some v:=⟨_,List.getElem?_eq_getElem j⟩
 have a0:a.getD (n.toNat - 1) default=v:=by rw [List.getD_eq_getElem?_getD,hv]; rfl
 have hS:∀ (x y:Int×Int×Int),cond false x (cond (cond (!((a,ok):List (Int×Int)×Bool).2) true (decide ((((a,ok):List (Int×Int)×Bool).1.length:Int) < n))) y (cond (!(Ad (((a,ok):List (Int×Int)×Bool).1.getD (n.toNat - 1) default).1 (((a,ok):List (Int×Int)×Bool).1.getD (n.toNat - 1) default).2)) (0,0,1) ((((a,ok):List (Int×Int)×Bool).1.getD (n.toNat - 1) default).1,(((a,ok):List (Int×Int)×Bool).1.getD (n.toNat - 1) default).2,0)))=cond (!(Ad v.1 v.2)) (0,0,1) (v.1,v.2,0):=fun x y=>by
  show cond (cond (!ok) true (decide ((a.length:Int) < n))) y (cond (!(Ad (a.getD (n.toNat - 1) default).1 (a.getD (n.toNat - 1) default).2)) (0,0,1) ((a.getD (n.toNat - 1) default).1,(a.getD (n.toNat - 1) default).2,0))=_
  rw [o,a0]; rfl
 rw [hS]
 obtain ⟨g,f,rfl,hg,ha⟩:=hx.all (by show 0 < a.length; omega)
 have hr:=ha _ v hv
 have he:IntKind.i64.wrap (n - 1)=((n.toNat - 1:Nat):Int):=by rw [IntWalk.i64_in _ (by omega)]; omega
 refine Ae Aa oQ K9 [] fun w9 d=>?_
 refine AU [(2,AI n),(6,BY (w.heap.size)),(8,.slice (some ⟨g,f,none⟩) a.length p),(32,.slice (some ⟨g,f,none⟩) a.length p),(34,AI (IntKind.i64.wrap (n - 1)))] fun i0=>?_
 rw [he]
 refine Au (g:=g) (off:=f) (cap:=p) (sz:=2) (k:=n.toNat - 1) (len:=a.length) (some 35) j Tryz.underlying67 ?_
 refine BI 41 g (f + (n.toNat - 1) * 2) (BP v) (some 36) (Ab hr hg d.B) ?_
 refine AB oP d [] fun z c0=>?_
 refine AQ c0 (args:=[.agg ⟨[AI v.1,AI v.2]⟩]) (Bh v.1 v.2 z) fun g0 b0=>?_
 refine AB SG b0 [] fun e0 t=>?_
 refine AG (!(Ad v.1 v.2)) (fun c3=>?_) (fun c3=>?_)
 ·refine AB uI t [(0,0)] fun u b=>?_
  exact AJ b (0,0) (.tuple #[.agg ⟨[AI 0,AI 0]⟩,AI 1]) ⟨by rw [c3]; rfl,b.B⟩
 rw [c3]
 refine Ae Aa ep t [] fun u b=>?_
 refine AU [(6,BY (w.heap.size)),(40,.slice (some ⟨g,f,none⟩) a.length p),(42,AI (IntKind.i64.wrap (n - 1)))] fun h0=>?_
 rw [he]
 refine Au (g:=g) (off:=f) (cap:=p) (sz:=2) (k:=n.toNat - 1) (len:=a.length) (some 43) j Tryz.underlying67 ?_
 refine BI 41 g (f + (n.toNat - 1) * 2) (BP v) (some 44) (Ab hr hg b.B) ?_
 refine Aj uH b [(0,0)] fun d0 s=>?_
 exact AJ s (0,0) (.tuple #[.agg ⟨BP v⟩,AI 0]) ⟨rfl,s.B⟩
end
end Go.Proofs.YtkjbdagicjbjjaaGreat
namespace Go.Proofs.YtkjbdagicjbjjaaGreat
noncomputable section
open Go.RowKit
set_option maxRecDepth 100000
set_option maxHeartbeats 1000000
attribute [local irreducible] A8 BL AC AD AF Ao AY AL Aq Bb Cn BR BK At Fr
abbrev Ha:=Int×Int×Int
def OZ (e:Ha):Bool:=cond (cond (!(Ad e.2.1 e.2.2)) true (decide (e.1 < -1000000000000))) true (decide (1000000000000 < e.1))
def Ip (all:List Ha) (kn kd:Int):List Ha→Nat→Int→Int
 | [],_,b=>b
 | e :: tl,i,b=>Ip all kn kd tl (i + 1) (cond (cond (decide (ET e.1 1 kn kd≤0)) (cond (decide (b < 0)) true (decide ((all.getD b.toNat default).1 < e.1))) false) (i:Int) b)
theorem dh {all l:List Ha} {a c b:Int} (i:Nat) (e:Ha) (hi:l[i]?=some e):Ip all a c (l.drop i) i b=Ip all a c (l.drop (i + 1)) (i + 1) (cond (cond (decide (ET e.1 1 a c≤0)) (cond (decide (b < 0)) true (decide ((all.getD b.toNat default).1 < e.1))) false) (i:Int) b):=by
 have hl:i < l.length:=(List.getElem?_eq_some_iff.1 hi).1
 have he:l[i]=e:=(List.getElem?_eq_some_iff.1 hi).2
 rw [← List.getElem_cons_drop hl,Ip,he]
def Sn (es:List Ha) (b:Int):Int×Int×Int:=cond (decide (b < 0)) (0,0,16) ((es.getD b.toNat default).2.1,(es.getD b.toNat default).2.2,0)
def EK (es:List Ha) (kn kd:Int):Int×Int×Int:=cond (decide (64 < (es.length:Int))) (0,0,3) (cond (!(Ad kn kd)) (0,0,1) (cond (es.any OZ) (0,0,1) (Sn es (Ip es kn kd es 0 (-1)))))
noncomputable def Xo:Code:=Tryz.f101.body.getD .skip
def Y4:=AA 60 [.code Xo]
def zU:=AA 60 (AD Y4)
def oL:=AA 60 (AF Y4)
def Y3:=AA 60 (AC oL)
def zT:=AA 60 (AD Y3)
def Y2:=AA 60 (AF Y3)
def SE:=AA 60 (Ao Y2)
def oK:=AA (Ak Aa 90 (AD SE)) (AD SE)
def oJ:=Ai 8 (AC (AC oK))
def oI:=AA 60 (AL oJ)
def uG:=AA 60 (AD oI)
def Ot:=AA 60 (AF SE)
def Oq:=AA 60 (Ao Ot)
def em:=AA (Ak Aa 90 (AD Oq)) (AD Oq)
def TB:=Ai 15 (AC (AC em))
def uF:=AA 60 (AL TB)
def Oo:=AA 60 (AF Oq)
def uE:=AA 60 (AD Oo)
def TA:=AA (Ak Aa 90 (AF Oo)) (AF Oo)
def el:=AA (Ak (Fw 41) 90 (AC TA)) (AC TA)
def uD:=AA 60 (AC el)
theorem Nm (A:Option Addr) (c:Nat) (es:List Ha) (a d:Int) (w:World) (h:Cb w A es) (hl:es.length≤4294967296):Calls Tryz.prog 101 ([.slice A es.length c,.agg ⟨[AI a,AI d]⟩]:List Value).toArray w fun e w'=>e=.returned (DB (EK es a d))∧Below w.heap.size w w':=by
 refine AR (args:=[.slice A es.length c,.agg ⟨[AI a,AI d]⟩]) (fn:=Tryz.f101) (c:=Xo) (n:=78) ?_
 have K1:=Wk.start w
 refine Af Y4 [⟨w.heap.size,0,[AI a,AI d],41,true⟩,⟨w.heap.size + 1,0,[AI 0,AI 0],41,true⟩] K1 [] fun w1 K2=>?_
 unfold EK
 refine AG (decide (64 < (es.length:Int))) (fun c1=>?_) (fun c1=>?_)
 ·refine AB zU K2 [(1,0)] fun w2 K3=>?_
  exact AJ K3 (1,0) (.tuple #[.agg ⟨[AI 0,AI 0]⟩,AI 3]) ⟨by rw [c1]; rfl,K3.B⟩
 rw [c1]
 refine AB oL K2 [(0,0)] fun w2 K3=>?_
 refine AQ K3 (args:=[.agg ⟨[AI a,AI d]⟩]) (Bh a d w2) fun w3 K4=>?_
 refine AB Y3 K4 [] fun w4 K5=>?_
 refine AG (!(Ad a d)) (fun c2=>?_) (fun c2=>?_)
 ·refine AB zT K5 [(1,0)] fun w5 o=>?_
  exact AJ o (1,0) (.tuple #[.agg ⟨[AI 0,AI 0]⟩,AI 1]) ⟨by rw [c2]; rfl,o.B⟩
 rw [c2]
 refine AB Y2 K5 [] fun w5 o=>?_
 refine AU [(0,.slice A es.length c),(3,BY (w.heap.size)),(4,BY (w.heap.size + 1)),(19,.slice A es.length c),(20,AI (es.length:Int)),(21,AI ((0:Nat):Int))] fun E6=>?_
 refine Bd (by kernel_rfl) (fun E wx=>∃ (i:Nat) (E0:Nat→Value),i≤es.length∧E=BC E0 [(0,.slice A es.length c),(3,BY (w.heap.size)),(4,BY (w.heap.size + 1)),(19,.slice A es.length c),(20,AI (es.length:Int)),(21,AI (i:Int))]∧(∀ (k:Nat) (e:Ha),k < i→es[k]?=some e→OZ e=false)∧Wk w wx [⟨w.heap.size,0,[AI a,AI d],41,true⟩,⟨w.heap.size + 1,0,[AI 0,AI 0],41,true⟩] [] []) (fun E _=>es.length - AK (E 21)) ⟨0,E6,Nat.zero_le _,rfl,fun k e hk=>absurd hk (Nat.not_lt_zero _),o⟩ ?_
 clear K2 K3 K4 K5 o
 rintro E wx ⟨i,E0,hi,rfl,hv,K3⟩ j
 refine AB SE K3 [] fun w4 K4=>?_
 refine AG (decide ((i:Int) < (es.length:Int))) (fun c5=>?_) (fun c5=>?_)
 ·have l:i < es.length:=by have:=of_decide_eq_true c5; omega
  obtain ⟨e,he⟩:∃ e,es[i]?=some e:=⟨_,List.getElem?_eq_getElem l⟩
  obtain ⟨g,f,rfl,hg,ha⟩:=h.all (by omega)
  have hr:=ha i _ he
  refine Ae Aa oK K4 [] fun w6 o=>?_
  refine Au (g:=g) (off:=f) (cap:=c) (sz:=3) (k:=i) (len:=es.length) (some 23) l Tryz.underlying57 ?_
  refine BI 101 g (f + i * 3) (Hm e) (some 24) (Ab hr hg o.B) ?_
  refine Bp 8 oJ [⟨w.heap.size,0,[AI a,AI d],41,true⟩,⟨w.heap.size + 1,0,[AI 0,AI 0],41,true⟩,⟨w6.heap.size,0,Hm e,101,true⟩] o [(2,0)] fun w7 q=>?_
  refine Ap q [(1,2,1),(6,2,0),(11,2,0)] [⟨2,[(26,.agg ⟨[AI e.2.1,AI e.2.2]⟩)],.bool (Ad e.2.1 e.2.2),true⟩] q.G (fun sp p=>?_) fun w8 E8 z=>?_
  ·rw [List.mem_singleton.1 p]
   exact AV 63 [.tmp 26] [.agg ⟨[AI e.2.1,AI e.2.2]⟩] (fun _=>by kernel_rfl) fun hc u hu=>AN hu (Bh e.2.1 e.2.2 u)
  refine AB oI z [] fun w9 K9=>?_
  refine AG (cond (cond (!(Ad e.2.1 e.2.2)) true (decide (e.1 < -1000000000000))) true (decide (1000000000000 < e.1))) (fun s=>?_) (fun s=>?_)
  ·refine AB uG K9 [(1,0)] fun a0 m=>?_
   have d0:es.any OZ=true:=List.any_eq_true.2 ⟨e,List.mem_of_getElem? he,s⟩
   exact AJ m (1,0) (.tuple #[.agg ⟨[AI 0,AI 0]⟩,AI 1]) ⟨by rw [d0]; rfl,m.B⟩
  ·refine AB (AY Y2) K9 [] fun a0 m=>?_
   refine AU [(0,.slice (some ⟨g,f,none⟩) es.length c),(3,BY (w.heap.size)),(4,BY (w.heap.size + 1)),(19,.slice (some ⟨g,f,none⟩) es.length c),(20,AI (es.length:Int)),(21,AI (IntKind.i64.wrap ((i:Int) + 1)))] fun y=>?_
   rw [Bc i (by omega)]
   refine j _ _ ⟨i + 1,y,l,rfl,fun k x hk hx=>?_,m.pk [0,1] []⟩ ?_
   ·by_cases hki:k=i
    ·subst hki
     obtain rfl:=Option.some.inj (he.symm.trans hx)
     exact s
    ·exact hv k x (by omega) hx
   ·show es.length - AK (AI ((i + 1:Nat):Int)) < es.length - AK (AI (i:Int))
    simp only [AK]
    omega
 have c0:i=es.length:=by have:=of_decide_eq_false c5; omega
 have d0:es.any OZ=false:=by
  rw [List.any_eq_false]
  intro e he
  obtain ⟨k,hk⟩:=List.mem_iff_getElem?.1 he
  rw [hv k e (by have:=(List.getElem?_eq_some_iff.1 hk).1; omega) hk]
  decide
 rw [d0]
 clear j hv c1 c2
 refine AB Ot K4 [] fun w5 K5=>?_
 refine AU [(0,.slice A es.length c),(3,BY (w.heap.size)),(4,BY (w.heap.size + 1)),(8,AI (-1)),(41,.slice A es.length c),(42,AI (es.length:Int)),(43,AI ((0:Nat):Int))] fun E5=>?_
 refine Bd (by kernel_rfl) (fun E wx=>∃ (i:Nat) (b:Int) (E0:Nat→Value),i≤es.length∧E=BC E0 [(0,.slice A es.length c),(3,BY (w.heap.size)),(4,BY (w.heap.size + 1)),(8,AI b),(41,.slice A es.length c),(42,AI (es.length:Int)),(43,AI (i:Int))]∧(b=-1∨∃ k:Nat,k < i∧b=(k:Int))∧Ip es a d es 0 (-1)=Ip es a d (es.drop i) i b∧Wk w wx [⟨w.heap.size,0,[AI a,AI d],41,true⟩,⟨w.heap.size + 1,0,[AI 0,AI 0],41,true⟩] [] []) (fun E _=>es.length - AK (E 43)) ⟨0,-1,E5,Nat.zero_le _,rfl,.inl rfl,rfl,K5⟩ ?_
 clear K3 K4 K5 c0 hi c5
 rintro E wx ⟨i,b,E0,hi,rfl,hb,hv,K3⟩ j
 refine AB Oq K3 [] fun w4 K4=>?_
 refine AG (decide ((i:Int) < (es.length:Int))) (fun c5=>?_) (fun c5=>?_)
 ·have l:i < es.length:=by have:=of_decide_eq_true c5; omega
  obtain ⟨e,he⟩:∃ e,es[i]?=some e:=⟨_,List.getElem?_eq_getElem l⟩
  rw [dh i e he] at hv
  obtain ⟨g,f,rfl,hg,ha⟩:=h.all (by omega)
  have hr:=ha i _ he
  refine Ae Aa em K4 [] fun w6 o=>?_
  refine Au (g:=g) (off:=f) (cap:=c) (sz:=3) (k:=i) (len:=es.length) (some 46) l Tryz.underlying57 ?_
  refine BI 101 g (f + i * 3) (Hm e) (some 47) (Ab hr hg o.B) ?_
  refine Bp 15 TB [⟨w.heap.size,0,[AI a,AI d],41,true⟩,⟨w.heap.size + 1,0,[AI 0,AI 0],41,true⟩,⟨w6.heap.size,0,Hm e,101,true⟩] o [(2,0)] fun w7 q=>?_
  have fin:∀ (t:Bool) (E8:Nat→Value) (w8:World),Wk w w8 [⟨w.heap.size,0,[AI a,AI d],41,true⟩,⟨w.heap.size + 1,0,[AI 0,AI 0],41,true⟩,⟨w6.heap.size,0,Hm e,101,true⟩] [] []→cond (decide (ET e.1 1 a d≤0)) (cond (decide (b < 0)) true (decide ((es.getD b.toNat default).1 < e.1))) false=t→At Tryz.prog 101 (fun e w'=>e=.returned (DB (cond false (0,0,3) (cond false (0,0,1) (cond false (0,0,1) (Sn es (Ip es a d es 0 (-1)))))))∧Below w.heap.size w w') (AL TB) (Fr 78 (BC E8 [(0,.slice (some ⟨g,f,none⟩) es.length c),(3,BY (w.heap.size)),(4,BY (w.heap.size + 1)),(8,AI b),(9,AI (i:Int)),(41,.slice (some ⟨g,f,none⟩) es.length c),(42,AI (es.length:Int)),(43,AI (i:Int)),(67,.bool t)])) w8:=by
   intro t E8 w8 z ht
   rw [ht] at hv
   refine AB uF z [] fun w9 K9=>?_
   refine AG t (fun s=>?_) (fun s=>?_) <;> rw [s] at hv
   ·refine AB (AY Ot) K9 [] fun a0 m=>?_
    refine AU [(0,.slice (some ⟨g,f,none⟩) es.length c),(3,BY (w.heap.size)),(4,BY (w.heap.size + 1)),(8,AI (i:Int)),(41,.slice (some ⟨g,f,none⟩) es.length c),(42,AI (es.length:Int)),(43,AI (IntKind.i64.wrap ((i:Int) + 1)))] fun y=>?_
    rw [Bc i (by omega)]
    refine j _ _ ⟨i + 1,(i:Int),y,l,rfl,.inr ⟨i,Nat.lt_succ_self _,rfl⟩,hv,m.pk [0,1] []⟩ ?_
    show es.length - AK (AI ((i + 1:Nat):Int)) < es.length - AK (AI (i:Int))
    simp only [AK]
    omega
   ·refine AB (AY Ot) K9 [] fun a0 m=>?_
    refine AU [(0,.slice (some ⟨g,f,none⟩) es.length c),(3,BY (w.heap.size)),(4,BY (w.heap.size + 1)),(8,AI b),(41,.slice (some ⟨g,f,none⟩) es.length c),(42,AI (es.length:Int)),(43,AI (IntKind.i64.wrap ((i:Int) + 1)))] fun y=>?_
    rw [Bc i (by omega)]
    refine j _ _ ⟨i + 1,b,y,l,rfl,by rcases hb with hb | ⟨k,hk,hb⟩; exact .inl hb; exact .inr ⟨k,by omega,hb⟩,hv,m.pk [0,1] []⟩ ?_
    show es.length - AK (AI ((i + 1:Nat):Int)) < es.length - AK (AI (i:Int))
    simp only [AK]
    omega
  rcases hb with rfl | ⟨k,hk,rfl⟩
  ·refine Ap q [(1,2,0),(3,0,0),(11,2,0),(16,2,0)] [⟨2,[(49,AI e.1)],.agg ⟨[AI e.1,AI 1]⟩,true⟩,⟨4,[(50,.agg ⟨[AI e.1,AI 1]⟩),(51,.agg ⟨[AI a,AI d]⟩)],AI (ET e.1 1 a d),true⟩,⟨14,[(60,.slice (some ⟨g,f,none⟩) es.length c),(61,AI (-1))],BY (w6.heap.size),(!(decide ((-1:Int) < 0))) && ((decide (ET e.1 1 a d≤0)) && true)⟩] q.G (fun sp p=>?_) fun w8 E8 z=>?_
   ·simp only [List.mem_cons,List.not_mem_nil,or_false] at p
    rcases p with rfl | rfl | rfl
    ·exact AV 119 [.tmp 49] [AI e.1] (fun _=>by kernel_rfl) fun hc u hu=>AN hu (Km e.1 u)
    ·exact AV 93 [.tmp 50,.tmp 51] [.agg ⟨[AI e.1,AI 1]⟩,.agg ⟨[AI a,AI d]⟩] (fun _=>by kernel_rfl) fun hc u hu=>AN hu (Hq e.1 1 a d u)
    ·exact BG fun hc E u _=>by cases hc
   refine AU [(0,.slice (some ⟨g,f,none⟩) es.length c),(3,BY (w.heap.size)),(4,BY (w.heap.size + 1)),(8,AI (-1)),(9,AI (i:Int)),(41,.slice (some ⟨g,f,none⟩) es.length c),(42,AI (es.length:Int)),(43,AI (i:Int)),(67,.bool (cond (decide (ET e.1 1 a d≤0)) (cond (decide ((-1:Int) < 0)) true (decide (e.1 < e.1))) false))] fun E9=>?_
   exact fin _ E9 w8 z rfl
  ·obtain ⟨r,v⟩:∃ e,es[k]?=some e:=⟨_,List.getElem?_eq_getElem (by omega)⟩
   have b0:es.getD k default=r:=by rw [List.getD_eq_getElem?_getD,v]; rfl
   refine Ap q (mem:=[⟨w.heap.size,0,[AI a,AI d],41,true⟩,⟨w.heap.size + 1,0,[AI 0,AI 0],41,true⟩,⟨w6.heap.size,0,Hm e,101,true⟩,⟨g,f + k * 3,Hm r,101,false⟩]) [(1,2,0),(3,0,0),(11,2,0),(16,3,0)] [⟨2,[(49,AI e.1)],.agg ⟨[AI e.1,AI 1]⟩,true⟩,⟨4,[(50,.agg ⟨[AI e.1,AI 1]⟩),(51,.agg ⟨[AI a,AI d]⟩)],AI (ET e.1 1 a d),true⟩,⟨14,[(60,.slice (some ⟨g,f,none⟩) es.length c),(61,AI (k:Int))],.pointer (some ⟨g,f + k * 3,none⟩),(!(decide ((k:Int) < 0))) && ((decide (ET e.1 1 a d≤0)) && true)⟩] (fun x hx=>?_) (fun sp p=>?_) fun w8 E8 z=>?_
   ·simp only [List.mem_cons,List.not_mem_nil,or_false] at hx
    rcases hx with rfl | rfl | rfl | rfl
    ·exact q.ent 0 rfl
    ·exact q.ent 1 rfl
    ·exact q.ent 2 rfl
    ·exact ⟨Nat.lt_of_lt_of_le hg q.B.size,Ab (ha k r v) hg q.B⟩
   ·simp only [List.mem_cons,List.not_mem_nil,or_false] at p
    rcases p with rfl | rfl | rfl
    ·exact AV 119 [.tmp 49] [AI e.1] (fun _=>by kernel_rfl) fun hc u hu=>AN hu (Km e.1 u)
    ·exact AV 93 [.tmp 50,.tmp 51] [.agg ⟨[AI e.1,AI 1]⟩,.agg ⟨[AI a,AI d]⟩] (fun _=>by kernel_rfl) fun hc u hu=>AN hu (Hq e.1 1 a d u)
    ·exact BG fun _ E u _=>BZ (sz:=3) (cap:=c) (len:=es.length) (k:=k) 57 (.tmp 60) (.tmp 61) (by omega) Tryz.underlying57
   refine AU [(0,.slice (some ⟨g,f,none⟩) es.length c),(3,BY (w.heap.size)),(4,BY (w.heap.size + 1)),(8,AI (k:Int)),(9,AI (i:Int)),(41,.slice (some ⟨g,f,none⟩) es.length c),(42,AI (es.length:Int)),(43,AI (i:Int)),(67,.bool (cond (decide (ET e.1 1 a d≤0)) (cond (decide ((k:Int) < 0)) true (decide (r.1 < e.1))) false))] fun E9=>?_
   refine fin _ E9 w8 z ?_
   rw [Int.toNat_natCast,b0]
 have c0:i=es.length:=by have:=of_decide_eq_false c5; omega
 rw [c0,List.drop_length,Ip] at hv
 rw [hv]
 refine AB Oo K4 [] fun w5 K5=>?_
 refine AG (decide (b < 0)) (fun c6=>?_) (fun c6=>?_)
 ·refine AB uE K5 [(1,0)] fun w6 o=>?_
  refine AJ o (1,0) (.tuple #[.agg ⟨[AI 0,AI 0]⟩,AI 16]) ⟨?_,o.B⟩
  unfold Sn
  rw [c6]
  rfl
 ·rcases hb with rfl | ⟨k,hk,rfl⟩
  ·cases c6
  obtain ⟨r,v⟩:∃ e,es[k]?=some e:=⟨_,List.getElem?_eq_getElem (by omega)⟩
  have b0:es.getD k default=r:=by rw [List.getD_eq_getElem?_getD,v]; rfl
  obtain ⟨g,f,rfl,hg,ha⟩:=h.all (by omega)
  refine Ae Aa TA K5 [] fun w6 o=>?_
  refine Au (g:=g) (off:=f) (cap:=c) (sz:=3) (k:=k) (len:=es.length) (some 75) (by omega) Tryz.underlying57 ?_
  refine Ae (Fw 41) el o [] fun w7 q=>?_
  refine BI 41 g (f + k * 3 + 1) [AI r.2.1,AI r.2.2] (some 77) (Pj (Ab (ha k r v) hg q.B) 1 [AI r.2.1,AI r.2.2] rfl) ?_
  refine Aj uD q [(1,0)] fun w8 z=>?_
  refine AJ z (1,0) (.tuple #[.agg ⟨[AI r.2.1,AI r.2.2]⟩,AI 0]) ⟨?_,z.B⟩
  unfold Sn
  rw [c6,Int.toNat_natCast,b0]
  rfl
end
end Go.Proofs.YtkjbdagicjbjjaaGreat
namespace Go.Proofs.YtkjbdagicjbjjaaGreat
noncomputable section
open Go.RowKit
set_option maxRecDepth 100000
set_option maxHeartbeats 1000000
abbrev BD:=Int×List UInt8×Int×Int×Int
abbrev Dl (a:BD):List Value:=[AI a.1,By (a.2.1),AI a.2.2.1,AI a.2.2.2.1,AI a.2.2.2.2]
def Nk (a:BD):List Lit:=[.int .i64 a.1,.string a.2.1,.int .i64 a.2.2.1,.int .i64 a.2.2.2.1,.int .i64 a.2.2.2.2]
def EG (x:Int):Prop:=-9223372036854775808≤x∧x≤9223372036854775807
def HP (a:BD):Prop:=EG a.1∧a.2.1.length≤4294967296∧EG a.2.2.1∧EG a.2.2.2.1∧EG a.2.2.2.2
theorem nR:laidOutB Tryz.prog=true:=by kernel_rfl
theorem RQ:WideMaps.KeyLaw Tryz.prog 117:=deep_law_laid nR (m:=3) (by omega) (of_decide_eq_true (by kernel_rfl)) (by kernel_rfl) (by kernel_rfl)
theorem jp (a:BD) (ha:HP a):keyOf Tryz.prog 117 (.agg ⟨Dl a⟩)=some (.string (keyBytes (Nk a))):=by
 obtain ⟨e,h2,d,c,b⟩:=ha
 have i:=Gk e.1 e.2
 have h:=Gk d.1 d.2
 have g:=Gk c.1 c.2
 have f:=Gk b.1 b.2
 have j:Tryz.prog.keyType 117=true:=by kernel_rfl
 have hf:(Value.agg ⟨Dl a⟩).formed Tryz.prog 117=true:=by kernel_rfl
 have p:Tryz.prog.cellsOf 117=5:=by kernel_rfl
 have o:Tryz.prog.cellsOf 41=2:=by kernel_rfl
 have n:Tryz.prog.cellsOf 3=1:=by kernel_rfl
 have l:Tryz.prog.cellsOf 9=1:=by kernel_rfl
 have hb:Nat.ble 2 Tryz.prog.types.size=true:=by kernel_rfl
 have k:=Nat.le_of_ble_eq_true hb
 obtain ⟨m,hm⟩:∃ m,Tryz.prog.types.size + 1=m + 3:=⟨Tryz.prog.types.size - 2,by omega⟩
 have hl:Tryz.prog.keyLits (m + 3) 117 (Dl a)=some (Nk a):=by
  simp [Program.keyLits,Tryz.underlying117,Tryz.underlying41,Tryz.underlying3,Tryz.underlying9,p,o,n,l,i,h,g,f,Dl,Nk]
  rw [if_pos (show ({ data:={ toList:=a.2.1 } }:ByteArray).size≤maxLen from by show a.2.1.length≤maxLen; unfold maxLen; omega),if_pos (by decide)]
  rfl
 unfold keyOf
 rw [Tryz.underlying117]
 simp only [j,hf,Bool.and_self,if_true,hm]
 show Option.map _ (Tryz.prog.keyLits (m + 3) 117 (Dl a))=_
 rw [hl]
 rfl
theorem sX (a:BD) (ha:HP a):∀ l∈Nk a,l.keyWf:=by
 obtain ⟨e,h2,d,c,b⟩:=ha
 intro l hl
 simp only [Nk,List.mem_cons,List.not_mem_nil,or_false] at hl
 rcases hl with rfl | rfl | rfl | rfl | rfl
 ·exact Gk e.1 e.2
 ·show a.2.1.length≤maxLen
  unfold maxLen
  omega
 ·exact Gk d.1 d.2
 ·exact Gk c.1 c.2
 ·exact Gk b.1 b.2
def m9:Value→Option (DataW Unit×List MemPlace)
 | .agg ⟨[.int .i64 x,.int .i64 y]⟩=>some (.agg [.lit (.int .i64 x),.lit (.int .i64 y)],[])
 | _=>none
def CP:BT BD (Int×Int) where
 k:=117
 e:=41
 t:=83
 kv a:=.agg ⟨Dl a⟩
 kl a:=.string (keyBytes (Nk a))
 ka a:=HP a
 ev v:=.agg ⟨BP v⟩
 ea _:=True
 z:=(0,0)
 R:=m9
 code v:=.agg [.lit (.int .i64 v.1),.lit (.int .i64 v.2)]
 K:=Maps.Keyed.of_law RQ
 ht:=Tryz.underlying83
 key a ha:=jp a ha
 isKey _:=trivial
 inj a b ha hb h:=by
  injection h with h
  have:=keyBytes_inj (l:=Nk a) (l':=Nk b) ⟨rfl,trivial,rfl,rfl,rfl,trivial⟩ (sX a ha) (sX b hb) h
  simp only [Nk,List.cons.injEq,Lit.int.injEq,Lit.string.injEq,true_and,and_true] at this
  exact Prod.ext this.1 (Prod.ext this.2.1 (Prod.ext this.2.2.1 (Prod.ext this.2.2.2.1 this.2.2.2.2)))
 hz w:=Tryz.zeroValue41 w
 za:=trivial
 hR _ _:=rfl
 hinv x v ps h:=by
  unfold m9 at h
  split at h
  ·simp only [Option.some.injEq,Prod.mk.injEq,DataW.agg.injEq,List.cons.injEq,DataW.lit.injEq,Lit.int.injEq,true_and,and_true] at h
   rw [h.1.1,h.1.2]
  ·cases h
def Vk:BT BD Bool where
 k:=117
 e:=4
 t:=115
 kv a:=.agg ⟨Dl a⟩
 kl a:=.string (keyBytes (Nk a))
 ka a:=HP a
 ev b:=.bool b
 ea _:=True
 z:=false
 R v:=match v with | .bool x=>some (.lit (.bool x),[]) | _=>none
 code b:=.lit (.bool b)
 K:=Maps.Keyed.of_law RQ
 ht:=Tryz.underlying115
 key a ha:=jp a ha
 isKey _:=trivial
 inj:=CP.inj
 hz w:=Tryz.zeroValue4 w
 za:=trivial
 hR _ _:=rfl
 hinv:=D0.hinv
def Eb:BT (List UInt8) (Int×Int) where
 k:=9
 e:=41
 t:=79
 kv s:=.string ⟨⟨s⟩⟩
 kl s:=.string s
 ka s:=s.length≤4294967296
 ev v:=.agg ⟨BP v⟩
 ea _:=True
 z:=(0,0)
 R:=m9
 code v:=.agg [.lit (.int .i64 v.1),.lit (.int .i64 v.2)]
 K:=Maps.string_keyed Tryz.underlying9
 ht:=Tryz.underlying79
 key:=FB.key
 isKey _:=trivial
 inj:=FB.inj
 hz w:=Tryz.zeroValue41 w
 za:=trivial
 hR _ _:=rfl
 hinv:=CP.hinv
def F2:BT (List UInt8) Bool where
 k:=9
 e:=4
 t:=68
 kv s:=By s
 kl s:=.string s
 ka s:=s.length≤4294967296
 ev b:=.bool b
 ea _:=True
 z:=false
 R v:=match v with | .bool x=>some (.lit (.bool x),[]) | _=>none
 code b:=.lit (.bool b)
 K:=Maps.string_keyed Tryz.underlying9
 ht:=Tryz.underlying68
 key:=FB.key
 isKey _:=trivial
 inj:=FB.inj
 hz w:=Tryz.zeroValue4 w
 za:=trivial
 hR _ _:=rfl
 hinv:=D0.hinv
def EM:BT (List UInt8) lW where
 k:=9
 e:=57
 t:=70
 kv s:=By s
 kl s:=.string s
 ka s:=s.length≤4294967296
 ev v:=.slice v.1 v.2.1 v.2.2
 ea v:=∀ a,v.1=some a→a.spot=none
 z:=(none,0,0)
 R:=yX
 code:=IW.code
 K:=Maps.string_keyed Tryz.underlying9
 ht:=Tryz.underlying70
 key:=FB.key
 isKey _:=trivial
 inj:=FB.inj
 hz w:=Tryz.zeroValue57 w
 za a h:=by cases h
 hR:=IW.hR
 hinv:=IW.hinv
end
end Go.Proofs.YtkjbdagicjbjjaaGreat
namespace Go.Proofs.YtkjbdagicjbjjaaGreat
noncomputable section
open Go.RowKit
set_option maxRecDepth 100000
set_option maxHeartbeats 1000000
attribute [local irreducible] A8 BL AC AD AF Ao AY AL Aq Bb Cn BR BK At Fr
def Vb (p0a:Int) (p0b:List UInt8) (p0c:Int) (p0da:Int) (p0db:Int):Int×List UInt8×Int×Int×Int:=(p0a,p0b,p0c,p0da,p0db)
def jo (r:Int×List UInt8×Int×Int×Int):Value:=.agg ⟨[AI (r.1),By (r.2.1),AI (r.2.2.1),AI (r.2.2.2.1),AI (r.2.2.2.2)]⟩
noncomputable def Xu:Code:=Tryz.f42.body.getD .skip
def zf:=AA 60 ([.code Xu])
theorem Wn (g:Int) (f:List UInt8) (d b a i h:Int) (w:World):Calls Tryz.prog 42 ([.agg ⟨[AI g,By f,AI d,AI b,AI a,AI i,AI h]⟩]:List Value).toArray w fun e w'=>e=.returned (jo (Vb g f d b a))∧Below w.heap.size w w':=by
 refine AR (fn:=Tryz.f42) (c:=Xu) (n:=12) ?_
 have k:=Wk.start w
 refine Aj zf k [(0,0),(0,1),(0,2),(0,3),(1,0)] fun l j=>?_
 exact AP j (1,0) (.agg ⟨[AI g,By f,AI d,AI b,AI a]⟩) (by unfold Vb; rfl)
def CR (x:Ex) (p1a:Int) (p1b:Int) (p2a:Int) (p2b:Int):Int×Int×Int:=cond (x.op == 5) (Ez p1a p1b p2a p2b) (cond (x.op == 6) (N2 p1a p1b p2a p2b) (cond (x.op == 7) (OI p1a p1b p2a p2b) (cond (x.op == 8) (Kx p1a p1b p2a p2b) (cond (x.op == 16) (OH p1a p1b) (cond (x.op == 9) (((DE (decide (ET p1a p1b p2a p2b < 0))).1,(DE (decide (ET p1a p1b p2a p2b < 0))).2,0)) (cond (x.op == 10) (((DE (decide (ET p1a p1b p2a p2b≤0))).1,(DE (decide (ET p1a p1b p2a p2b≤0))).2,0)) (cond (x.op == 11) (((DE (ET p1a p1b p2a p2b == 0)).1,(DE (ET p1a p1b p2a p2b == 0)).2,0)) (cond (x.op == 14) (cond (decide (ET p2a p2b p1a p1b < 0)) ((p2a,p2b,0)) ((p1a,p1b,0))) (cond (x.op == 15) (cond (decide (0 < ET p2a p2b p1a p1b)) ((p2a,p2b,0)) ((p1a,p1b,0))) (cond (x.op == 17) (((DE (p1a == 0)).1,(DE (p1a == 0)).2,0)) (cond (x.op == 19) (IE p1a p1b x.num x.den x.md) ((0,0,1)))))))))))))
def jw (r:Int×Int×Int):Value:=.tuple #[.agg ⟨[AI (r.1),AI (r.2.1)]⟩,AI (r.2.2)]
noncomputable def Xv:Code:=Tryz.f62.body.getD .skip
def ZB:=AA 60 ([.code Xv])
def oa:=AA 60 (AD ZB)
def zi:=AA 60 (AC oa)
def ZA:=AA 60 (AF ZB)
def oZ:=AA 60 (AD ZA)
def zh:=AA 60 (AC oZ)
def Y9:=AA 60 (AF ZA)
def oY:=AA 60 (AD Y9)
def zg:=AA 60 (AC oY)
def Y8:=AA 60 (AF Y9)
def fE:=AA 60 (AD Y8)
def uU:=AA 60 (AC fE)
def TL:=AA 60 (AF Y8)
def fD:=AA 60 (AD TL)
def uT:=AA 60 (AC fD)
def TK:=AA 60 (AF TL)
def fC:=AA 60 (AD TK)
def e9:=AA 60 (AC fC)
def uS:=AA 60 (AC e9)
def TJ:=AA 60 (AF TK)
def e8:=AA 60 (AD TJ)
def e7:=AA 60 (AC e8)
def uR:=AA 60 (AC e7)
def TI:=AA 60 (AF TJ)
def e6:=AA 60 (AD TI)
def ez:=AA 60 (AC e6)
def uQ:=AA 60 (AC ez)
def TH:=AA 60 (AF TI)
def ew:=AA 60 (AD TH)
def TG:=AA 60 (AC ew)
def uP:=AA 60 (AD TG)
def uO:=AA 60 (AF TG)
def TF:=AA 60 (AF TH)
def eu:=AA 60 (AD TF)
def TE:=AA 60 (AC eu)
def uN:=AA 60 (AD TE)
def uM:=AA 60 (AF TE)
def TD:=AA 60 (AF TF)
def et:=AA 60 (AD TD)
def uL:=AA 60 (AC et)
def TC:=AA 60 (AF TD)
def eq:=AA 60 (AD TC)
def uK:=AA 60 (AC eq)
def uJ:=AA 60 (AF TC)
theorem Wt (x:Ex) (s:Option Addr) (y:Nat) (a b f d:Int) (w:World) (v2:rowsEx w s x.ks):Calls Tryz.prog 62 ([.agg ⟨[AI x.op,AI x.num,AI x.den,AI x.mu,AI x.hu,AI x.du,By (x.nm),AI x.cnt,AI x.md,.slice s x.ks.length y]⟩,.agg ⟨[AI a,AI b]⟩,.agg ⟨[AI f,AI d]⟩]:List Value).toArray w fun e w'=>e=.returned (jw (CR x a b f d))∧Below w.heap.size w w':=by
 refine AR (fn:=Tryz.f62) (c:=Xv) (n:=98) ?_
 have K1:=Wk.start w
 refine Aj ZB K1 [(0,0)] fun w1 K2=>?_
 refine AG (x.op == 5) (fun o=>?_) (fun o=>?_)
 ·refine AB oa K2 [(1,0),(2,0)] fun w3 K3=>?_
  refine AQ K3 (Wb a b f d w3) fun w4 K4=>?_
  refine Aj zi K4 [(3,0)] fun w5 K5=>?_
  exact AP K5 (3,0) (.tuple #[.agg ⟨[AI ((Ez a b f d).1),AI ((Ez a b f d).2.1)]⟩,AI ((Ez a b f d).2.2)]) (by unfold CR; rw [o] <;> rfl)
 ·refine AB ZA K2 [] fun w6 K6=>?_
  refine AG (x.op == 6) (fun p=>?_) (fun p=>?_)
  ·refine AB oZ K6 [(1,0),(2,0)] fun w8 K7=>?_
   refine AQ K7 (mz a b f d w8) fun w9 K8=>?_
   refine Aj zh K8 [(3,0)] fun b5 K9=>?_
   exact AP K9 (3,0) (.tuple #[.agg ⟨[AI ((N2 a b f d).1),AI ((N2 a b f d).2.1)]⟩,AI ((N2 a b f d).2.2)]) (by unfold CR; rw [o,p] <;> rfl)
  ·refine AB Y9 K6 [] fun a5 l0=>?_
   refine AG (x.op == 7) (fun g=>?_) (fun g=>?_)
   ·refine AB oY l0 [(1,0),(2,0)] fun b1 u2=>?_
    refine AQ u2 (nJ a b f d b1) fun z4 t2=>?_
    refine Aj zg t2 [(3,0)] fun x4 s2=>?_
    exact AP s2 (3,0) (.tuple #[.agg ⟨[AI ((OI a b f d).1),AI ((OI a b f d).2.1)]⟩,AI ((OI a b f d).2.2)]) (by unfold CR; rw [o,p,g] <;> rfl)
   ·refine AB Y8 l0 [] fun v4 k0=>?_
    refine AG (x.op == 8) (fun h=>?_) (fun h=>?_)
    ·refine AB fE k0 [(1,0),(2,0)] fun a1 r2=>?_
     refine AQ r2 (V7 a b f d a1) fun t4 q2=>?_
     refine Aj uU q2 [(3,0)] fun q4 p2=>?_
     exact AP p2 (3,0) (.tuple #[.agg ⟨[AI ((Kx a b f d).1),AI ((Kx a b f d).2.1)]⟩,AI ((Kx a b f d).2.2)]) (by unfold CR; rw [o,p,g,h] <;> rfl)
    ·refine AB TL k0 [] fun p4 j0=>?_
     refine AG (x.op == 16) (fun i=>?_) (fun i=>?_)
     ·refine AB fD j0 [(1,0)] fun z0 o2=>?_
      refine AQ o2 (nG a b z0) fun k4 n2=>?_
      refine Aj uT n2 [(3,0)] fun h4 m2=>?_
      exact AP m2 (3,0) (.tuple #[.agg ⟨[AI ((OH a b).1),AI ((OH a b).2.1)]⟩,AI ((OH a b).2.2)]) (by unfold CR; rw [o,p,g,h,i] <;> rfl)
     ·refine AB TK j0 [] fun g4 i0=>?_
      refine AG (x.op == 9) (fun j=>?_) (fun j=>?_)
      ·refine AB fC i0 [(1,0),(2,0)] fun x0 l2=>?_
       refine AQ l2 (Hq a b f d x0) fun f4 k2=>?_
       refine AB e9 k2 [] fun w0 i2=>?_
       refine AQ i2 (Gq (decide (ET a b f d < 0)) w0) fun e4 h2=>?_
       refine Aj uS h2 [(3,0)] fun c4 g2=>?_
       exact AP g2 (3,0) (.tuple #[LD (DE (decide (ET a b f d < 0))),AI 0]) (by unfold CR; rw [o,p,g,h,i,j] <;> rfl)
      ·refine AB TJ i0 [] fun b4 h0=>?_
       refine AG (x.op == 10) (fun k=>?_) (fun k=>?_)
       ·refine AB e8 h0 [(1,0),(2,0)] fun v0 e2=>?_
        refine AQ e2 (Hq a b f d v0) fun a4 d2=>?_
        refine AB e7 d2 [] fun t0 b2=>?_
        refine AQ b2 (Gq (decide (ET a b f d≤0)) t0) fun z3 a2=>?_
        refine Aj uR a2 [(3,0)] fun x3 z1=>?_
        exact AP z1 (3,0) (.tuple #[LD (DE (decide (ET a b f d≤0))),AI 0]) (by unfold CR; rw [o,p,g,h,i,j,k] <;> rfl)
       ·refine AB TI h0 [] fun v3 g0=>?_
        refine AG (x.op == 11) (fun l=>?_) (fun l=>?_)
        ·refine AB e6 g0 [(1,0),(2,0)] fun s0 x1=>?_
         refine AQ x1 (Hq a b f d s0) fun t3 v1=>?_
         refine AB ez v1 [] fun r0 u1=>?_
         refine AQ u1 (Gq (ET a b f d == 0) r0) fun r3 t1=>?_
         refine Aj uQ t1 [(3,0)] fun q3 s1=>?_
         exact AP s1 (3,0) (.tuple #[LD (DE (ET a b f d == 0)),AI 0]) (by unfold CR; rw [o,p,g,h,i,j,k,l] <;> rfl)
        ·refine AB TH g0 [] fun p3 e0=>?_
         refine AG (x.op == 14) (fun m=>?_) (fun m=>?_)
         ·refine AB ew e0 [(2,0),(1,0)] fun q0 r1=>?_
          refine AQ r1 (Hq f d a b q0) fun o3 q1=>?_
          refine AB TG q1 [] fun n3 d0=>?_
          refine AG (decide (ET f d a b < 0)) (fun v=>?_) (fun v=>?_)
          ·refine Aj uP d0 [(2,0),(3,0)] fun m3 p1=>?_
           exact AP p1 (3,0) (.tuple #[.agg ⟨[AI f,AI d]⟩,AI 0]) (by unfold CR; rw [o,p,g,h,i,j,k,l,m,v] <;> rfl)
          ·refine Aj uO d0 [(1,0),(3,0)] fun l3 o1=>?_
           exact AP o1 (3,0) (.tuple #[.agg ⟨[AI a,AI b]⟩,AI 0]) (by unfold CR; rw [o,p,g,h,i,j,k,l,m,v] <;> rfl)
         ·refine AB TF e0 [] fun k3 c0=>?_
          refine AG (x.op == 15) (fun q=>?_) (fun q=>?_)
          ·refine AB eu c0 [(2,0),(1,0)] fun p0 n1=>?_
           refine AQ n1 (Hq f d a b p0) fun i3 m1=>?_
           refine AB TE m1 [] fun h3 b0=>?_
           refine AG (decide (0 < ET f d a b)) (fun u=>?_) (fun u=>?_)
           ·refine Aj uN b0 [(2,0),(3,0)] fun g3 l1=>?_
            exact AP l1 (3,0) (.tuple #[.agg ⟨[AI f,AI d]⟩,AI 0]) (by unfold CR; rw [o,p,g,h,i,j,k,l,m,q,u] <;> rfl)
           ·refine Aj uM b0 [(1,0),(3,0)] fun f3 k1=>?_
            exact AP k1 (3,0) (.tuple #[.agg ⟨[AI a,AI b]⟩,AI 0]) (by unfold CR; rw [o,p,g,h,i,j,k,l,m,q,u] <;> rfl)
          ·refine AB TD c0 [] fun e3 a0=>?_
           refine AG (x.op == 17) (fun r=>?_) (fun r=>?_)
           ·refine AB et a0 [(1,0)] fun n0 i1=>?_
            refine AQ i1 (Gq (a == 0) n0) fun c3 h1=>?_
            refine Aj uL h1 [(3,0)] fun b3 g1=>?_
            exact AP g1 (3,0) (.tuple #[LD (DE (a == 0)),AI 0]) (by unfold CR; rw [o,p,g,h,i,j,k,l,m,q,r] <;> rfl)
           ·refine AB TC a0 [] fun a3 z=>?_
            refine AG (x.op == 19) (fun t=>?_) (fun t=>?_)
            ·refine AB eq z [(1,0),(0,1),(0,8)] fun m0 f1=>?_
             refine AQ f1 (Pf a b x.num x.den x.md m0) fun z2 e1=>?_
             refine Aj uK e1 [(3,0)] fun x2 d1=>?_
             exact AP d1 (3,0) (.tuple #[.agg ⟨[AI ((IE a b x.num x.den x.md).1),AI ((IE a b x.num x.den x.md).2.1)]⟩,AI ((IE a b x.num x.den x.md).2.2)]) (by unfold CR; rw [o,p,g,h,i,j,k,l,m,q,r,t] <;> rfl)
            ·refine AB uJ z [(3,0)] fun w2 c1=>?_
             exact AP c1 (3,0) (.tuple #[.agg ⟨[AI 0,AI 0]⟩,AI 1]) (by unfold CR; rw [o,p,g,h,i,j,k,l,m,q,r,t] <;> rfl)
end
end Go.Proofs.YtkjbdagicjbjjaaGreat

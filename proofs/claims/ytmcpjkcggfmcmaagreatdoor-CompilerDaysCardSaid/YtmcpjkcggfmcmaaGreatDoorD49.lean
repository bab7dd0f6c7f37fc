/-
  Part 49 of a proof: contracts of functions.
-/
import Derived.Test.YtmcpjkcggfmcmaaGreatDoorD48
set_option linter.all false
namespace Go.Proofs.YtmcpjkcggfmcmaaGreatDoor
noncomputable section
open Go.RowKit
set_option maxRecDepth 100000
set_option maxHeartbeats 1000000
attribute [local irreducible] BO CB AE AG AL Ay Aj AP Bc Cq Eb CT CO At Fr
def FM (p0:Int) (p1a:Int) (p1b:Int):List Int:=cond (p1a == 16) ([p1b]) (cond (p1a == 17) ([IntKind.i64.wrap (p0 + 1),p1b]) ([IntKind.i64.wrap (p0 + 1)]))
noncomputable def V2:Code:=Tryz.f61.body.getD .skip
def YE:=AB 60 ([.code V2])
def kt:=AB 60 (AG YE)
def tP:=AB 60 (kt)
def YD:=AB 60 (AL YE)
def kr:=AB 60 (AG YD)
def tO:=AB 60 (kr)
def kq:=AB 60 (AL YD)
def tN:=AB 60 (kq)
theorem VD (h b a f d j i:Int) (w:World):Calls Tryz.prog 61 ([D h,.agg ⟨[D b,D a,D f,D d,D j,D i]⟩]:List Value).toArray w fun e w'=>∃ (p:Option Addr) (o:Nat),e=.returned (.slice p ((FM h b a).length) o)∧Below w.heap.size w w'∧AU w.heap.size w' [Hf p o (FM h b a)]:=by
 refine Af (fn:=Tryz.f61) (c:=V2) (n:=22) ?_
 have K1:=Wk.start w
 refine BQ YE K1 [(0,0)] fun q K2=>?_
 refine AM (b == 16) (fun s=>?_) (fun s=>?_)
 ·refine C8 kt [⟨w.heap.size,0,[D b,D a,D f,D d,D j,D i],53,true⟩,⟨q.heap.size,0,[D a],3,true⟩] K2 [(0,1)] fun w3 K3=>?_
  have K4:=K3.entRows 1 (g:=q.heap.size) (U:=3) (n:=1) (fun e r=>r=Je e) [a] [[D a]] (by repeat (first | exact trivial | refine ⟨rfl,?_⟩)) rfl rfl (by simp) (by kernel_rfl)
  refine AC tP K4 [] fun w4 v=>?_
  have l:(FM h b a)=([a]):=by unfold FM; rw [s] <;> rfl
  exact Ab v (0,0) (.slice (some ⟨q.heap.size,0,none⟩) 1 1) ⟨(some ⟨q.heap.size,0,none⟩),1,by rw [l] <;> rfl,v.B,by rw [l]; exact v.own0 [0] rfl (by decide)⟩
 ·refine AC YD K2 [] fun k z=>?_
  refine AM (b == 17) (fun t=>?_) (fun t=>?_)
  ·refine C8 kr [⟨w.heap.size,0,[D b,D a,D f,D d,D j,D i],53,true⟩,⟨k.heap.size,0,[D (IntKind.i64.wrap (h + 1)),D a],3,true⟩] z [(0,1)] fun w7 K7=>?_
   have K8:=K7.entRows 1 (g:=k.heap.size) (U:=3) (n:=1) (fun e r=>r=Je e) [IntKind.i64.wrap (h + 1),a] [[D (IntKind.i64.wrap (h + 1))],[D a]] (by repeat (first | exact trivial | refine ⟨rfl,?_⟩)) rfl rfl (by simp) (by kernel_rfl)
   refine AC tO K8 [] fun w8 u=>?_
   have l:(FM h b a)=([IntKind.i64.wrap (h + 1),a]):=by unfold FM; rw [s,t] <;> rfl
   exact Ab u (0,0) (.slice (some ⟨k.heap.size,0,none⟩) 2 2) ⟨(some ⟨k.heap.size,0,none⟩),2,by rw [l] <;> rfl,u.B,by rw [l]; exact u.own0 [0] rfl (by decide)⟩
  ·refine C8 kq [⟨w.heap.size,0,[D b,D a,D f,D d,D j,D i],53,true⟩,⟨k.heap.size,0,[D (IntKind.i64.wrap (h + 1))],3,true⟩] z [] fun w9 y=>?_
   have x:=y.entRows 1 (g:=k.heap.size) (U:=3) (n:=1) (fun e r=>r=Je e) [IntKind.i64.wrap (h + 1)] [[D (IntKind.i64.wrap (h + 1))]] (by repeat (first | exact trivial | refine ⟨rfl,?_⟩)) rfl rfl (by simp) (by kernel_rfl)
   refine AC tN x [] fun a0 m=>?_
   have l:(FM h b a)=([IntKind.i64.wrap (h + 1)]):=by unfold FM; rw [s,t] <;> rfl
   exact Ab m (0,0) (.slice (some ⟨k.heap.size,0,none⟩) 1 1) ⟨(some ⟨k.heap.size,0,none⟩),1,by rw [l] <;> rfl,m.B,by rw [l]; exact m.own0 [0] rfl (by decide)⟩
def Pj (cs:List AK):Prop:=∀ (i:Nat) (x:AK),cs[i]?=some x→x.1=16∨x.1=17→(i:Int) < x.2.1∧x.2.1≤(cs.length:Int)
def CD (i:Nat) (x:AK):List Nat:=(FM (i:Int) x.1 x.2.1).map Int.toNat
theorem SZ (i:Nat) (x:AK):(CD i x).length≤2:=by
 unfold CD FM
 rw [List.length_map]
 cases x.1 == 16 <;> cases x.1 == 17 <;> simp
theorem Nd {cs:List AK} (h:Pj cs) (hl:cs.length≤4294967296) {i:Nat} {x:AK} (hi:cs[i]?=some x):∀ t∈FM (i:Int) x.1 x.2.1,0≤t∧t < (cs.length:Int) + 1:=fun t ht=>by
 have b:i < cs.length:=(List.getElem?_eq_some_iff.1 hi).1
 have a:=h i x hi
 unfold FM at ht
 rw [IntWalk.i64_in ((i:Int) + 1) (by omega)] at ht
 cases h16:(x.1 == 16) <;> rw [h16] at ht
 ·cases h17:(x.1 == 17) <;> rw [h17] at ht
  ·simp only [cond_false,List.mem_singleton] at ht
   omega
  ·have:=a (.inr (by simpa using h17))
   simp only [cond_false,cond_true,List.mem_cons,List.not_mem_nil,or_false] at ht
   omega
 ·have:=a (.inl (by simpa using h16))
  simp only [cond_true,List.mem_singleton] at ht
  omega
theorem JH {cs:List AK} (h:Pj cs) (hl:cs.length≤4294967296) {i:Nat} {x:AK} (hi:cs[i]?=some x):∀ t∈CD i x,t < cs.length + 1:=fun t ht=>by
 obtain ⟨z,hz,rfl⟩:=List.mem_map.1 ht
 have:=Nd h hl hi z hz
 omega
theorem Sa {cs:List AK} (h:Pj cs) (hl:cs.length≤4294967296) {i:Nat} {x:AK} (hi:cs[i]?=some x) (w:World):Calls Tryz.prog 61 ([D (i:Int),.agg ⟨Nt x⟩]:List Value).toArray w fun e w'=>∃ (A:Option Addr) (c:Nat),e=.returned (.slice A (CD i x).length c)∧Below w.heap.size w w'∧AU w.heap.size w' [BP A c (CD i x)]:=by
 refine (VD (i:Int) x.1 x.2.1 x.2.2.1 x.2.2.2.1 x.2.2.2.2.1 x.2.2.2.2.2 w).mono fun e w' a=>?_
 obtain ⟨A,c,rfl,B,H⟩:=a
 refine ⟨A,c,by unfold CD; rw [List.length_map],B,H.natRow (CD i x) ?_ 0 rfl⟩
 unfold CD
 rw [List.map_map]
 refine (List.map_id _).symm.trans (List.map_congr_left fun t ht=>?_)
 have:=(Nd h hl hi t ht).1
 show t=((t.toNat:Nat):Int)
 omega
def EH (a1_0:List Int) (e1:AK) (i1:Nat) (k2:(List Int)→Bool):List (Nat)→List Int→Bool
 | [],a2_0=>k2 a2_0
 | e2 :: tl,a2_0=>cond (cond (!((a2_0.getD e2 default) == -1)) (!((a2_0.getD e2 default) == IntKind.i64.wrap ((IntKind.i64.wrap ((a1_0.getD i1 default) - ((BZ e1.1).1))) + ((BZ e1.1).2)))) (false)) (false) (EH a1_0 e1 i1 k2 tl ((a2_0.set e2 (IntKind.i64.wrap ((IntKind.i64.wrap ((a1_0.getD i1 default) - ((BZ e1.1).1))) + ((BZ e1.1).2))))))
theorem OX {b:List Int} {e:AK} {d:Nat} {c:(List Int)→Bool} {a:List Int}:EH b e d c [] a=(c a):=by rw [EH]
theorem NZ {b:List Int} {c:AK} {e:Nat} {f:(List Int)→Bool} {a:List Int} {es:List (Nat)} (i d:Nat) (hi:es[i]?=some d):EH b c e f (es.drop i) a=(cond (cond (!((a.getD d default) == -1)) (!((a.getD d default) == IntKind.i64.wrap ((IntKind.i64.wrap ((b.getD e default) - ((BZ c.1).1))) + ((BZ c.1).2)))) (false)) (false) (EH b c e f (es.drop (i + 1)) ((a.set d (IntKind.i64.wrap ((IntKind.i64.wrap ((b.getD e default) - ((BZ c.1).1))) + ((BZ c.1).2))))))):=by
 have hl:i < es.length:=(List.getElem?_eq_some_iff.1 hi).1
 have he:es[i]=d:=(List.getElem?_eq_some_iff.1 hi).2
 rw [← List.getElem_cons_drop hl,EH] <;> (try rw [he])
def Dd (cs:List (AK)):List (AK)→Nat→List Int→Bool
 | [],i1,a1_0=>(a1_0.getD cs.length default) == 1
 | e1 :: tl,i1,a1_0=>cond (cond ((a1_0.getD i1 default) == -1) (true) (decide ((a1_0.getD i1 default) < (BZ e1.1).1))) (false) (cond (decide (64 < IntKind.i64.wrap ((IntKind.i64.wrap ((a1_0.getD i1 default) - ((BZ e1.1).1))) + ((BZ e1.1).2)))) (false) (EH a1_0 e1 i1 (fun (a2_0:List Int)=>Dd cs tl (i1 + 1) a2_0) (CD i1 e1) a1_0))
theorem OY {cs:List (AK)} {b:Nat} {a:List Int}:Dd cs [] b a=((a.getD cs.length default) == 1):=by rw [Dd]
theorem Na {cs:List (AK)} {a:List Int} {es:List (AK)} (b:Nat) (c:AK) (hi:es[b]?=some c):Dd cs (es.drop b) b a=(cond (cond ((a.getD b default) == -1) (true) (decide ((a.getD b default) < (BZ c.1).1))) (false) (cond (decide (64 < IntKind.i64.wrap ((IntKind.i64.wrap ((a.getD b default) - ((BZ c.1).1))) + ((BZ c.1).2)))) (false) (EH a c b (fun (d:List Int)=>Dd cs (es.drop (b + 1)) (b + 1) d) (CD b c) a))):=by
 have hl:b < es.length:=(List.getElem?_eq_some_iff.1 hi).1
 have he:es[b]=c:=(List.getElem?_eq_some_iff.1 hi).2
 rw [← List.getElem_cons_drop hl,Dd] <;> (try rw [he])
def Ef (cs:List (AK)):List (Int)→Nat→List Int→Bool
 | [],i0,a0_0=>Dd cs cs 0 (a0_0.set 0 0)
 | e0 :: tl,i0,a0_0=>Ef cs tl (i0 + 1) ((a0_0.set i0 (-1)))
theorem OZ {cs:List (AK)} {b:Nat} {a:List Int}:Ef cs [] b a=(Dd cs cs 0 (a.set 0 0)):=by rw [Ef]
theorem Nb {cs:List (AK)} {b:List Int} {es:List (Int)} (a:Nat) (c:Int) (hi:es[a]?=some c):Ef cs (es.drop a) a b=(Ef cs (es.drop (a + 1)) (a + 1) ((b.set a (-1)))):=by
 have hl:a < es.length:=(List.getElem?_eq_some_iff.1 hi).1
 have he:es[a]=c:=(List.getElem?_eq_some_iff.1 hi).2
 rw [← List.getElem_cons_drop hl,Ef] <;> (try rw [he])
def DV (cs:List (AK)):Bool:=Ef cs ((List.replicate ((cs.length + 1:Nat)) ((0:Int)))) 0 ((List.replicate ((cs.length + 1:Nat)) ((0:Int))))
noncomputable def Qk:Code:=Tryz.f27.body.getD .skip
def YH:=AB (BA lv 90 ([.code Qk])) ([.code Qk])
def YG:=AB 60 (AE YH)
def Oy:=AB 60 (Ay YG)
def tQ:=AB (BA Ai 90 (AG Oy)) (AG Oy)
def ky:=AB (BA Ai 90 (AL Oy)) (AL Oy)
def YF:=AB 60 (AE (AE ky))
def Ow:=AB 60 (Ay YF)
def kx:=AB (BA Ai 90 (AG Ow)) (AG Ow)
def kw:=AB 60 (AE (AE kx))
def ku:=Ad 12 (AE kw)
def Oz:=AB 60 (AP ku)
def qL:=AB 60 (AG Oz)
def ac:=AB (BA Ai 90 (AL Oz)) (AL Oz)
def TA:=AB 60 (AE (AE ac))
def qK:=AB 60 (AG TA)
def aZ:=AB 60 (AL TA)
def S9:=AB 60 (AE aZ)
def S8:=AB 60 (Ay S9)
def aY:=AB (BA Ai 90 (AG S8)) (AG S8)
def aX:=Ad 20 (AE (AE aY))
def Ox:=AB 60 (AP aX)
def qJ:=AB 60 (AG Ox)
def qI:=AB (BA Ai 90 (AL Ox)) (AL Ox)
def aW:=AB (BA Ai 90 (AL Ow)) (AL Ow)
def qH:=AB 60 (AE (AE aW))
theorem U3 (z:Option Addr) (cs:List (AK)) (o:Nat) (w:World) (p2:FB 6 Nt w z cs) (v:cs.length≤4294967296) (hj:Pj cs):Calls Tryz.prog 27 ([.slice z cs.length o]:List Value).toArray w fun e w'=>e=.returned (.bool ((DV cs)))∧Below w.heap.size w w':=by
 refine Af (fn:=Tryz.f27) (c:=Qk) (n:=96) ?_
 have K1:=Wk.start w
 refine BG lv YH K1 [] fun w1 K2=>?_
 refine BB [(0,.slice z cs.length o),(2,.bool false),(14,D (IntKind.i64.wrap ((cs.length:Int) + 1)))] fun E2=>?_
 rw [Bs cs.length (by omega)]
 refine ij (fun e r=>r=Je e) (0:Int) (Je (0:Int)) rfl (T:=3) (bytes:=8) (by kernel_rfl) rfl K2.H (DM YH) (by kernel_rfl) (t:=56) (x:=.tmp 14) (y:=.tmp 14) (by kernel_rfl) (by kernel_rfl) ((cs.length + 1:Nat)) (by kernel_rfl) (by kernel_rfl) (by omega) (by decide) fun d w3 Z3 Hn b3=>?_
 have K3:=K2.add b3 Hn
 let z8:=List.replicate ((cs.length + 1:Nat)) ((0:Int))
 have c2:z8.length=((cs.length + 1:Nat)):=List.length_replicate
 have a5:(z8).length=((cs.length + 1:Nat)):=c2
 refine AC YG K3 [] fun w4 K4=>?_
 let z6:=((cs.length + 1:Nat))
 have K5:Wk w w4 [] [(Hf (some ⟨d,0,none⟩) z6 (z8))] []:=K4.pk [] [0]
 have p0:(DV cs)=Ef cs (z8) 0 (z8):=by unfold DV; rfl
 let z9:=(((cs.length + 1:Nat)):Int)
 refine BB [(0,.slice z cs.length o),(2,.bool false),(3,.slice (some ⟨d,0,none⟩) z6 z6),(17,D (z9)),(18,D (((0:Nat):Int)))] fun E5=>?_
 refine Bi (by kernel_rfl) (fun E z1=>∃ (q:Nat) (m:List Int) (E0:Nat→Value),q≤(z8).length∧E=Aw E0 [(0,.slice z cs.length o),(2,.bool false),(3,.slice (some ⟨d,0,none⟩) z6 z6),(17,D (z9)),(18,D ((q:Int)))]∧(DV cs)=Ef cs (List.drop q (z8)) q m∧m.length=((cs.length + 1:Nat))∧Wk w z1 [] [(Hf (some ⟨d,0,none⟩) z6 m)] []) (fun E _=>(z8).length - AQ (E 18)) ⟨0,(z8),E5,Nat.zero_le _,rfl,p0,c2,K5⟩ ?_
 clear p0
 rintro E z1 ⟨q,m,E0,k6,rfl,p0,z0,K6⟩ c1
 refine AC Oy K6 [] fun w7 K7=>?_
 refine AM (decide ((q:Int) < z9)) (fun c8=>?_) (fun c8=>?_)
 ·have r0:q < z8.length:=by have:=of_decide_eq_true c8; omega
  obtain ⟨e0,l3⟩:∃ e,(z8)[q]?=some e:=⟨_,List.getElem?_eq_getElem r0⟩
  rw [Nb q e0 l3] at p0
  have x0:m[q]?=some (m.getD q default):=getD_some default (by have:=r0; omega)
  refine BG Ai tQ K7 [] fun w9 K8=>?_
  refine BH (g:=d) (off:=0) (cap:=((cs.length + 1:Nat))) (sz:=1) (k:=q) (len:=((cs.length + 1:Nat))) (some 23) (by have:=r0; omega) Tryz.underlying56 ?_
  refine F9 K8.H (K8.ix 0) (K8.at 0 rfl) q (m.getD q default) x0 0 (by decide) (D (-1)) (fun r h=>by rw [h]; rfl) (fun _ _ h=>by rw [h]; rfl) 3 none (by kernel_rfl) (by kernel_rfl) rfl rfl (fun e6 Hn s3 r6=>?_) (e':=-1)
  have f2:(m.set q (-1)).length=((cs.length + 1:Nat)):=by rw [List.length_set]; exact z0
  have K9:=K8.put 0 (by simp) s3 Hn
  refine AC (Aj YG) K9 [] fun k3 t4=>?_
  refine BB [(0,.slice z cs.length o),(2,.bool false),(3,.slice (some ⟨d,0,none⟩) z6 z6),(17,D (z9)),(18,D (IntKind.i64.wrap ((q:Int) + 1)))] fun z4=>?_
  have s4:Wk w k3 [] [(Hf (some ⟨d,0,none⟩) z6 ((m.set q (-1))))] []:=t4.pk [] [0]
  rw [Bs q (by omega)]
  refine c1 _ _ ⟨q + 1,((m.set q (-1))),z4,r0,rfl,by rw [p0] <;> rfl,f2,s4⟩ ?_
  show (z8).length - AQ (D ((q + 1:Nat):Int)) < (z8).length - AQ (D (q:Int))
  simp only [AQ]
  omega
 ·have k2:q=z8.length:=by have:=of_decide_eq_false c8; omega
  rw [k2,List.drop_length,OZ] at p0
  have x0:m[0]?=some (m.getD 0 default):=getD_some default (by omega)
  refine BG Ai ky K7 [] fun c6 p1=>?_
  refine BH (g:=d) (off:=0) (cap:=((cs.length + 1:Nat))) (sz:=1) (k:=0) (len:=((cs.length + 1:Nat))) (some 26) (by omega) Tryz.underlying56 ?_
  refine F9 p1.H (p1.ix 0) (p1.at 0 rfl) 0 (m.getD 0 default) x0 0 (by decide) (D 0) (fun r h=>by rw [h]; rfl) (fun _ _ h=>by rw [h]; rfl) 3 none (by kernel_rfl) (by kernel_rfl) rfl rfl (fun b6 Hn r3 q6=>?_) (e':=0)
  have d2:(m.set 0 0).length=((cs.length + 1:Nat)):=by rw [List.length_set]; exact z0
  have r4:=p1.put 0 (by simp) r3 Hn
  refine AC YF r4 [] fun i3 q4=>?_
  have m4:Wk w i3 [] [(Hf (some ⟨d,0,none⟩) z6 (m.set 0 0))] []:=q4.pk [] [0]
  have d0:(DV cs)=Dd cs cs 0 (m.set 0 0):=by rw [p0] <;> rfl
  refine BB [(0,.slice z cs.length o),(2,.bool false),(3,.slice (some ⟨d,0,none⟩) z6 z6),(27,.slice z cs.length o),(28,D ((cs.length:Int))),(29,D (((0:Nat):Int)))] fun y4=>?_
  refine Bi (by kernel_rfl) (fun E y1=>∃ (b:Nat) (a:List Int) (E0:Nat→Value),b≤cs.length∧E=Aw E0 [(0,.slice z cs.length o),(2,.bool false),(3,.slice (some ⟨d,0,none⟩) z6 z6),(27,.slice z cs.length o),(28,D ((cs.length:Int))),(29,D ((b:Int)))]∧(DV cs)=Dd cs (List.drop b cs) b a∧a.length=((cs.length + 1:Nat))∧Wk w y1 [] [(Hf (some ⟨d,0,none⟩) z6 a)] []) (fun E _=>cs.length - AQ (E 29)) ⟨0,(m.set 0 0),y4,Nat.zero_le _,rfl,d0,d2,m4⟩ ?_
  clear d0
  rintro E y1 ⟨b,a,E0,h6,rfl,d0,q1,k4⟩ b1
  refine AC Ow k4 [] fun a6 a3=>?_
  refine AM (decide ((b:Int) < (cs.length:Int))) (fun v1=>?_) (fun v1=>?_)
  ·have s:b < cs.length:=by have:=of_decide_eq_true v1; omega
   obtain ⟨j,q0⟩:∃ e,cs[b]?=some e:=⟨_,List.getElem?_eq_getElem s⟩
   rw [Na b j q0] at d0
   obtain ⟨a0,b0,rfl,q2,r2⟩:=p2.all (by omega)
   have a2:=r2 b _ q0
   refine BG Ai kx a3 [] fun h3 z2=>?_
   refine BH (g:=a0) (off:=b0) (cap:=o) (sz:=6) (k:=b) (len:=cs.length) (some 32) s Tryz.underlying47 ?_
   refine CC 53 a0 (b0 + b * 6) [D j.1,D j.2.1,D j.2.2.1,D j.2.2.2.1,D j.2.2.2.2.1,D j.2.2.2.2.2] (some 33) (Ac a2 q2 z2.B) ?_
   refine C8 kw [⟨h3.heap.size,0,[D j.1,D j.2.1,D j.2.2.1,D j.2.2.2.1,D j.2.2.2.2.1,D j.2.2.2.2.2],53,true⟩] z2 [(0,0),(0,0)] fun g3 i4=>?_
   refine Ap i4 (ZO j.1 g3) fun z5 h4=>?_
   refine Al 12 ku h4 [] fun y5 k0=>?_
   have m2:a[b]?=some (a.getD b default):=getD_some default (by have:=s; omega)
   refine Ao k0 [(3,1,0),(9,1,0)] [⟨2,[(40,.slice (some ⟨d,0,none⟩) z6 z6),(41,D ((b:Int)))],.pointer (some ⟨d,0 + b * 1,none⟩),true⟩,⟨8,[(46,.slice (some ⟨d,0,none⟩) z6 z6),(47,D ((b:Int)))],.pointer (some ⟨d,0 + b * 1,none⟩),(!((a.getD b default) == -1)) && (true)⟩] (C1 (x:=⟨d,0 + b * 1,[D ((a.getD b default))],3,false⟩) k0.G ⟨k0.H.rowLt (k0.ix 0) (k0.at 0 rfl),k0.H.cellsF (T:=3) (n:=1) (f:=Je) (c:=z6) (l:=a) (fun _=>rfl) (k0.ix 0) (k0.at 0 rfl) m2⟩) (fun sp v0=>?_) fun x5 w6 g4=>?_
   ·simp only [List.mem_cons,List.not_mem_nil,or_false] at v0
    rcases v0 with rfl | rfl
    ·exact An fun _ E u _=>Bd (sz:=1) (cap:=((cs.length + 1:Nat))) (len:=((cs.length + 1:Nat))) 56 (.tmp 40) (.tmp 41) (by kernel_rfl) (by kernel_rfl) (by have:=s; omega) Tryz.underlying56
    ·exact An fun _ E u _=>Bd (sz:=1) (cap:=((cs.length + 1:Nat))) (len:=((cs.length + 1:Nat))) 56 (.tmp 46) (.tmp 47) (by kernel_rfl) (by kernel_rfl) (by have:=s; omega) Tryz.underlying56
   refine AC Oz g4 [] fun w5 y2=>?_
   refine AM (cond ((a.getD b default) == -1) (true) (decide ((a.getD b default) < (BZ j.1).1))) (fun g1=>?_) (fun g1=>?_)
   ·refine AC qL y2 [] fun v5 x2=>?_
    have hS:(DV cs)=false:=by rw [d0,g1] <;> rfl
    exact Ab x2 (0,0) (.bool false) ⟨by rw [hS] <;> rfl,x2.B⟩
   ·refine BG Ai ac y2 [] fun u5 n1=>?_
    refine BH (g:=d) (off:=0) (cap:=((cs.length + 1:Nat))) (sz:=1) (k:=b) (len:=((cs.length + 1:Nat))) (some 55) (by have:=s; omega) Tryz.underlying56 ?_
    refine EA 3 d (0 + b * 1) (D ((a.getD b default))) (some 56) (by simpa using (n1.H.cellsF (T:=3) (n:=1) (f:=Je) (c:=z6) (l:=a) (fun _=>rfl) (n1.ix 0) (n1.at 0 rfl) m2) 0 _ rfl) ?_
    refine AC TA n1 [] fun t5 w2=>?_
    let z7:=(IntKind.i64.wrap ((a.getD b default) - ((BZ j.1).1))) + ((BZ j.1).2)
    refine AM (decide (64 < IntKind.i64.wrap z7)) (fun t1=>?_) (fun t1=>?_)
    ·refine AC qK w2 [] fun s5 v2=>?_
     have hS:(DV cs)=false:=by rw [d0,g1,t1] <;> rfl
     exact Ab v2 (0,0) (.bool false) ⟨by rw [hS] <;> rfl,v2.B⟩
    ·refine AC aZ w2 [(0,0)] fun f3 f4=>?_
     refine CJ (Sa hj v q0 f3) fun en r5 hh=>?_
     obtain ⟨f0,p,rfl,q3,Hn⟩:=hh
     refine ⟨_,rfl,?_⟩
     have e4:=f4.join q3 Hn
     have f6:(CD b j).length≤2:=SZ _ _
     refine AC S9 e4 [] fun e3 c4=>?_
     have b4:Wk w e3 [] [(Hf (some ⟨d,0,none⟩) z6 a),(BP f0 p (CD b j))] []:=c4.pk [] [0,1]
     have c0:(DV cs)=EH a j b (fun (i:List Int)=>Dd cs (List.drop (b + 1) cs) (b + 1) i) (CD b j) a:=by rw [d0,g1,t1] <;> rfl
     refine BB [(0,.slice (some ⟨a0,b0,none⟩) cs.length o),(2,.bool false),(3,.slice (some ⟨d,0,none⟩) z6 z6),(9,D (IntKind.i64.wrap z7)),(27,.slice (some ⟨a0,b0,none⟩) cs.length o),(28,D ((cs.length:Int))),(29,D ((b:Int))),(65,.slice f0 ((CD b j).length) p),(66,D (((CD b j).length:Int))),(67,D (((0:Nat):Int)))] fun x4=>?_
     refine Bi (by kernel_rfl) (fun E x1=>∃ (i2:Nat) (i:List Int) (E0:Nat→Value),i2≤(CD b j).length∧E=Aw E0 [(0,.slice (some ⟨a0,b0,none⟩) cs.length o),(2,.bool false),(3,.slice (some ⟨d,0,none⟩) z6 z6),(9,D (IntKind.i64.wrap z7)),(27,.slice (some ⟨a0,b0,none⟩) cs.length o),(28,D ((cs.length:Int))),(29,D ((b:Int))),(65,.slice f0 ((CD b j).length) p),(66,D (((CD b j).length:Int))),(67,D ((i2:Int)))]∧(DV cs)=EH a j b (fun (i:List Int)=>Dd cs (List.drop (b + 1) cs) (b + 1) i) (List.drop i2 (CD b j)) i∧i.length=((cs.length + 1:Nat))∧Wk w x1 [] [(Hf (some ⟨d,0,none⟩) z6 i),(BP f0 p (CD b j))] []) (fun E _=>(CD b j).length - AQ (E 67)) ⟨0,a,x4,Nat.zero_le _,rfl,c0,q1,b4⟩ ?_
     clear c0
     rintro E x1 ⟨i2,i,E0,g6,rfl,c0,y0,a4⟩ a1
     refine AC S8 a4 [] fun q5 d1=>?_
     refine AM (decide ((i2:Int) < ((CD b j).length:Int))) (fun s1=>?_) (fun s1=>?_)
     ·have w0:i2 < (CD b j).length:=by have:=of_decide_eq_true s1; omega
      obtain ⟨e2,t0⟩:∃ e,(CD b j)[i2]?=some e:=⟨_,List.getElem?_eq_getElem w0⟩
      rw [NZ i2 e2 t0] at c0
      obtain ⟨f1,rfl,b5⟩:=d1.H.rowAt (d1.ix 1) (d1.at 1 rfl) (by omega)
      refine BG Ai aY d1 [] fun m5 m1=>?_
      refine BH (g:=f1) (off:=0) (cap:=p) (sz:=1) (k:=i2) (len:=(CD b j).length) (some 69) w0 Tryz.underlying56 ?_
      refine EA 3 f1 (0 + i2 * 1) (D ((e2:Int))) (some 70) (by simpa using (m1.H.cellsF (T:=3) (n:=1) (f:=Fs) (c:=p) (l:=(CD b j)) (fun _=>rfl) (m1.ix 1) (m1.at 1 rfl) t0) 0 _ rfl) ?_
      refine Al 20 aX m1 [] fun k5 h0=>?_
      let z11:=List.mem_of_getElem? t0
      have l2:i[e2]?=some (i.getD e2 default):=getD_some default (by have:=((JH hj v q0) _ z11); omega)
      refine Ao h0 [(3,0,0),(9,0,0)] [⟨2,[(71,.slice (some ⟨d,0,none⟩) z6 z6),(72,D ((e2:Int)))],.pointer (some ⟨d,0 + e2 * 1,none⟩),true⟩,⟨8,[(77,.slice (some ⟨d,0,none⟩) z6 z6),(78,D ((e2:Int)))],.pointer (some ⟨d,0 + e2 * 1,none⟩),((!((i.getD e2 default) == -1))) && (true)⟩] (C1 (x:=⟨d,0 + e2 * 1,[D ((i.getD e2 default))],3,false⟩) h0.G ⟨h0.H.rowLt (h0.ix 0) (h0.at 0 rfl),h0.H.cellsF (T:=3) (n:=1) (f:=Je) (c:=z6) (l:=i) (fun _=>rfl) (h0.ix 0) (h0.at 0 rfl) l2⟩) (fun sp v0=>?_) fun i5 u6 z3=>?_
      ·simp only [List.mem_cons,List.not_mem_nil,or_false] at v0
       rcases v0 with rfl | rfl
       ·exact An fun _ E u _=>Bd (sz:=1) (cap:=((cs.length + 1:Nat))) (len:=((cs.length + 1:Nat))) 56 (.tmp 71) (.tmp 72) (by kernel_rfl) (by kernel_rfl) (by have:=((JH hj v q0) _ z11); omega) Tryz.underlying56
       ·exact An fun _ E u _=>Bd (sz:=1) (cap:=((cs.length + 1:Nat))) (len:=((cs.length + 1:Nat))) 56 (.tmp 77) (.tmp 78) (by kernel_rfl) (by kernel_rfl) (by have:=((JH hj v q0) _ z11); omega) Tryz.underlying56
      refine AC Ox z3 [] fun h5 u2=>?_
      refine AM (cond (!((i.getD e2 default) == -1)) (!((i.getD e2 default) == IntKind.i64.wrap z7)) (false)) (fun r1=>?_) (fun r1=>?_)
      ·refine AC qJ u2 [] fun g5 t2=>?_
       have hS:(DV cs)=false:=by rw [c0,r1] <;> rfl
       exact Ab t2 (0,0) (.bool false) ⟨by rw [hS] <;> rfl,t2.B⟩
      ·refine BG Ai qI u2 [] fun f5 k1=>?_
       refine BH (g:=d) (off:=0) (cap:=((cs.length + 1:Nat))) (sz:=1) (k:=e2) (len:=((cs.length + 1:Nat))) (some 87) (by have:=((JH hj v q0) _ z11); omega) Tryz.underlying56 ?_
       refine F9 k1.H (k1.ix 0) (k1.at 0 rfl) e2 (i.getD e2 default) l2 0 (by decide) (D (IntKind.i64.wrap z7)) (fun r h=>by rw [h]; rfl) (fun _ _ h=>by rw [h]; rfl) 3 none (by kernel_rfl) (by kernel_rfl) rfl rfl (fun e5 Hn m3 m6=>?_) (e':=IntKind.i64.wrap z7)
       let z12:=i.set e2 (IntKind.i64.wrap z7)
       have b2:z12.length=((cs.length + 1:Nat)):=by rw [List.length_set]; exact y0
       have y3:=k1.put 0 (by simp) m3 Hn
       refine AC (Aj S9) y3 [] fun d3 x3=>?_
       refine BB [(0,.slice (some ⟨a0,b0,none⟩) cs.length o),(2,.bool false),(3,.slice (some ⟨d,0,none⟩) z6 z6),(9,D (IntKind.i64.wrap z7)),(27,.slice (some ⟨a0,b0,none⟩) cs.length o),(28,D ((cs.length:Int))),(29,D ((b:Int))),(65,.slice (some ⟨f1,0,none⟩) ((CD b j).length) p),(66,D (((CD b j).length:Int))),(67,D (IntKind.i64.wrap ((i2:Int) + 1)))] fun v4=>?_
       have v3:Wk w d3 [] [(Hf (some ⟨d,0,none⟩) z6 (z12)),(BP (some ⟨f1,0,none⟩) p (CD b j))] []:=x3.pk [] [0,1]
       rw [Bs i2 (by omega)]
       refine a1 _ _ ⟨i2 + 1,(z12),v4,w0,rfl,by rw [c0,r1] <;> rfl,b2,v3⟩ ?_
       show (CD b j).length - AQ (D ((i2 + 1:Nat):Int)) < (CD b j).length - AQ (D (i2:Int))
       simp only [AQ]
       omega
     ·have g2:i2=(CD b j).length:=by have:=of_decide_eq_false s1; omega
      rw [g2,List.drop_length,OX] at c0
      try dsimp only at c0
      refine AC (Aj YF) d1 [] fun c3 u3=>?_
      refine BB [(0,.slice (some ⟨a0,b0,none⟩) cs.length o),(2,.bool false),(3,.slice (some ⟨d,0,none⟩) z6 z6),(27,.slice (some ⟨a0,b0,none⟩) cs.length o),(28,D ((cs.length:Int))),(29,D (IntKind.i64.wrap ((b:Int) + 1)))] fun u4=>?_
      have t3:Wk w c3 [] [(Hf (some ⟨d,0,none⟩) z6 i)] []:=u3.pk [] [0]
      rw [Bs b (by omega)]
      refine b1 _ _ ⟨b + 1,i,u4,s,rfl,by rw [c0] <;> rfl,y0,t3⟩ ?_
      show cs.length - AQ (D ((b + 1:Nat):Int)) < cs.length - AQ (D (b:Int))
      simp only [AQ]
      omega
  ·have h2:b=cs.length:=by have:=of_decide_eq_false v1; omega
   rw [h2,List.drop_length,OY] at d0
   let z10:=a.getD cs.length default
   have x0:a[cs.length]?=some z10:=getD_some default (by omega)
   refine BG Ai aW a3 [] fun d5 h1=>?_
   refine BH (g:=d) (off:=0) (cap:=((cs.length + 1:Nat))) (sz:=1) (k:=cs.length) (len:=((cs.length + 1:Nat))) (some 93) (by omega) Tryz.underlying56 ?_
   refine EA 3 d (0 + cs.length * 1) (D (z10)) (some 94) (by simpa using (h1.H.cellsF (T:=3) (n:=1) (f:=Je) (c:=z6) (l:=a) (fun _=>rfl) (h1.ix 0) (h1.at 0 rfl) x0) 0 _ rfl) ?_
   refine AC qH h1 [] fun c5 s2=>?_
   have hS:(DV cs)=(z10 == 1):=by rw [d0] <;> rfl
   exact Ab s2 (0,0) (.bool (z10 == 1)) ⟨by rw [hS] <;> rfl,s2.B⟩
end
end Go.Proofs.YtmcpjkcggfmcmaaGreatDoor

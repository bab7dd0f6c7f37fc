/-
  Part 11 of a proof: contracts of functions.
-/
import Derived.Test.YtkjbdagicjbjjaaGreatTf10
import Derived.Test.YtkjbdagicjbjjaaGreatTf04
set_option linter.all false
namespace Go.Proofs.YtkjbdagicjbjjaaGreat
noncomputable section
open Go.RowKit
set_option maxRecDepth 100000
set_option maxHeartbeats 1000000
attribute [local irreducible] A8 BL AC AD AF Ao AY AL Aq Bb Cn BR BK At Fr
theorem RY {w w':World} (h:w'=w):Below w.heap.size w w':=h ▸ Below.refl _ _
theorem HU {x y X Y:Int} (hx:-X≤x) (b:x≤X) (c:0≤y) (a:y≤Y) (d:0≤X):-(X * Y)≤x * y∧x * y≤X * Y:=by
 have f:=Int.mul_le_mul_of_nonneg_right b c
 have h2:=Int.mul_le_mul_of_nonneg_left a d
 have e:=Int.mul_le_mul_of_nonneg_right hx c
 rw [Int.neg_mul] at e
 omega
theorem DU {n d:Int} (h:Ad n d=true):1≤d∧d≤1000000∧-1000000000000≤n∧n≤1000000000000:=by
 have:=of_decide_eq_true h
 omega
def GF (neg:Bool) (n1 d1 n2 d2:Nat):Int×Int×Int:=cond (decide ((n1 / Nat.gcd n1 d2) * (n2 / Nat.gcd n2 d1) < 18446744073709551616) && decide ((d1 / Nat.gcd n2 d1) * (d2 / Nat.gcd n1 d2) < 18446744073709551616)) (Mp neg ((n1 / Nat.gcd n1 d2) * (n2 / Nat.gcd n2 d1)) ((d1 / Nat.gcd n2 d1) * (d2 / Nat.gcd n1 d2))) (0,0,4)
noncomputable def YC:Code:=Tryz.f117.body.getD .skip
def pL:=AA 60 [.code YC]
def pK:=AA 60 (AC pL)
def pJ:=Ai 2 (AC pK)
def pI:=Ai 3 (AL pJ)
def pH:=Ai 4 (AL pI)
def Zd:=AA 60 (AL pH)
def AAL:=AA 60 (AD Zd)
def pG:=AA 60 (AF Zd)
def AAK:=AA 60 (AC pG)
theorem Mb (neg:Bool) (f b d a:Nat) (w:World) (h1:f≤18446744073709551615) (h2:b≤18446744073709551615) (h3:d≤18446744073709551615) (h4:a≤18446744073709551615) (p1:0 < b) (p2:0 < a):Calls Tryz.prog 117 ([.bool neg,.int .u64 (f:Int),.int .u64 (b:Int),.int .u64 (d:Int),.int .u64 (a:Int)]:List Value).toArray w fun e w'=>e=.returned (DB (GF neg f b d a))∧Below w.heap.size w w':=by
 refine AR (args:=[.bool neg,.int .u64 (f:Int),.int .u64 (b:Int),.int .u64 (d:Int),.int .u64 (a:Int)]) (fn:=Tryz.f117) (c:=YC) (n:=57) ?_
 have K1:=Wk.start w
 refine Af pL [⟨w.heap.size,0,[AI 0,AI 0],41,true⟩] K1 [] fun w1 K2=>?_
 refine A7 (NQ f a w1 h1 h4) fun en w2 l=>?_
 obtain ⟨rfl,k,rfl⟩:=l
 refine ⟨_,rfl,?_⟩
 have K3:=K2.below (Fi (Below.refl _ _) k)
 refine AB pK K3 [] fun w3 K4=>?_
 refine A7 (NQ d b w3 h3 h2) fun en w4 l=>?_
 obtain ⟨rfl,k2,rfl⟩:=l
 refine ⟨_,rfl,?_⟩
 have K5:=K4.below (Fi (Below.refl _ _) k2)
 unfold GF
 have hg:0 < Nat.gcd f a:=Nat.gcd_pos_of_pos_right _ p2
 have l:0 < Nat.gcd d b:=Nat.gcd_pos_of_pos_right _ p1
 have r:0 < b / Nat.gcd d b:=Nat.div_pos (Nat.le_of_dvd p1 (Nat.gcd_dvd_right _ _)) l
 have q:0 < a / Nat.gcd f a:=Nat.div_pos (Nat.le_of_dvd p2 (Nat.gcd_dvd_right _ _)) hg
 generalize Nat.gcd f a=g at hg q ⊢
 generalize Nat.gcd d b=h at l r ⊢
 have b1:=Nat.div_le_self f g
 have b2:=Nat.div_le_self d h
 have b3:=Nat.div_le_self b h
 have b4:=Nat.div_le_self a g
 refine Am 2 pJ K5 [] fun w5 K6=>?_
 refine Ap K6 [] [⟨2,[(25,.int .u64 (f:Int)),(26,.int .u64 (g:Int))],.int .u64 ((f / g:Nat):Int),true⟩,⟨5,[(28,.int .u64 (d:Int)),(29,.int .u64 (h:Int))],.int .u64 ((d / h:Nat):Int),true⟩,⟨6,[(27,.int .u64 ((f / g:Nat):Int)),(30,.int .u64 ((d / h:Nat):Int))],.tuple #[.int .u64 (((f / g) * (d / h) / 18446744073709551616:Nat):Int),.int .u64 (((f / g) * (d / h) % 18446744073709551616:Nat):Int)],true⟩] K6.G (fun sp i=>?_) fun w6 E6 K7=>?_
 ·simp only [List.mem_cons,List.not_mem_nil,or_false] at i
  rcases i with rfl | rfl | rfl
  ·exact BG fun _ E u _=>Hz (T:=164) (T':=164) (x:=.tmp 25) (y:=.tmp 26) (by kernel_rfl) (by kernel_rfl) (by kernel_rfl) hg h1
  ·exact BG fun _ E u _=>Hz (T:=164) (T':=164) (x:=.tmp 28) (y:=.tmp 29) (by kernel_rfl) (by kernel_rfl) (by kernel_rfl) l h3
  ·exact AV 146 [.tmp 27,.tmp 30] [.int .u64 ((f / g:Nat):Int),.int .u64 ((d / h:Nat):Int)] (fun _=>by kernel_rfl) fun hc u hu=>AN hu ((Tryz.bits_Mul64 (f / g) (d / h) (by omega) (by omega) u).mono fun e w' s=>⟨s.1,RY s.2⟩)
 refine Am 3 pI K7 [] fun w7 K8=>?_
 refine Ap K8 [] [⟨2,[(35,.int .u64 (b:Int)),(36,.int .u64 (h:Int))],.int .u64 ((b / h:Nat):Int),true⟩,⟨5,[(38,.int .u64 (a:Int)),(39,.int .u64 (g:Int))],.int .u64 ((a / g:Nat):Int),true⟩,⟨6,[(37,.int .u64 ((b / h:Nat):Int)),(40,.int .u64 ((a / g:Nat):Int))],.tuple #[.int .u64 (((b / h) * (a / g) / 18446744073709551616:Nat):Int),.int .u64 (((b / h) * (a / g) % 18446744073709551616:Nat):Int)],true⟩] K8.G (fun sp i=>?_) fun w8 E8 K9=>?_
 ·simp only [List.mem_cons,List.not_mem_nil,or_false] at i
  rcases i with rfl | rfl | rfl
  ·exact BG fun _ E u _=>Hz (T:=164) (T':=164) (x:=.tmp 35) (y:=.tmp 36) (by kernel_rfl) (by kernel_rfl) (by kernel_rfl) l h2
  ·exact BG fun _ E u _=>Hz (T:=164) (T':=164) (x:=.tmp 38) (y:=.tmp 39) (by kernel_rfl) (by kernel_rfl) (by kernel_rfl) hg h4
  ·exact AV 146 [.tmp 37,.tmp 40] [.int .u64 ((b / h:Nat):Int),.int .u64 ((a / g:Nat):Int)] (fun _=>by kernel_rfl) fun hc u hu=>AN hu ((Tryz.bits_Mul64 (b / h) (a / g) (by omega) (by omega) u).mono fun e w' s=>⟨s.1,RY s.2⟩)
 have hD:0 < (b / h) * (a / g):=Nat.mul_pos r q
 generalize (f / g) * (d / h)=N at *
 generalize (b / h) * (a / g)=D at *
 refine Am 4 pH K9 [] fun w9 z=>?_
 refine Ap z [] [] z.G (fun sp i=>by cases i) fun g0 h0 b0=>?_
 refine AB Zd b0 [] fun e0 v=>?_
 refine AG (cond (((N / 18446744073709551616:Nat):Int) != 0) true (((D / 18446744073709551616:Nat):Int) != 0)) (fun o=>?_) (fun o=>?_)
 ·have hc:(decide (N < 18446744073709551616) && decide (D < 18446744073709551616))=false:=by
   rw [Bool.and_eq_false_iff,decide_eq_false_iff_not,decide_eq_false_iff_not]
   by_cases m:N < 18446744073709551616
   ·rw [Nat.div_eq_of_lt m] at o
    have c2:((D / 18446744073709551616:Nat):Int)≠0:=by simpa using o
    omega
   ·exact .inl m
  refine AB AAL v [(0,0)] fun p j=>?_
  exact AJ j (0,0) (.tuple #[.agg ⟨[AI 0,AI 0]⟩,AI 4]) ⟨by rw [hc]; rfl,j.B⟩
 ·have m:N < 18446744073709551616∧D < 18446744073709551616:=by
   cases e1:(((N / 18446744073709551616:Nat):Int) != 0) with
   | true=>rw [e1] at o; cases o
   | false=>
    rw [e1] at o
    have e2:((N / 18446744073709551616:Nat):Int)=0:=by simpa using e1
    have c2:((D / 18446744073709551616:Nat):Int)=0:=by simpa using o
    omega
  have hc:(decide (N < 18446744073709551616) && decide (D < 18446744073709551616))=true:=by rw [decide_eq_true m.1,decide_eq_true m.2]; rfl
  refine AB pG v [] fun p j=>?_
  refine AQ j (Vx neg (N % 18446744073709551616) (D % 18446744073709551616) p (by omega) (by omega) (by omega)) fun d0 a0=>?_
  refine Aj AAK a0 [(0,0)] fun c0 t=>?_
  exact AJ t (0,0) (DB (Mp neg (N % 18446744073709551616) (D % 18446744073709551616))) ⟨by rw [hc,Nat.mod_eq_of_lt m.1,Nat.mod_eq_of_lt m.2]; rfl,t.B⟩
def Ez (a b c d:Int):Int×Int×Int:=cond (cond (!(Ad a b)) true (!(Ad c d))) (0,0,1) (Lk (a * d + c * b) (b * d))
noncomputable def YK:Code:=Tryz.f88.body.getD .skip
def pd:=Ai 1 [.code YK]
def Zp:=AA 60 (AL pd)
def AAf:=AA 60 (AD Zp)
def pZ:=AA 60 (AF Zp)
def AAe:=AA 60 (AC pZ)
theorem Wb (a b c d:Int) (w:World):Calls Tryz.prog 88 ([.agg ⟨[AI a,AI b]⟩,.agg ⟨[AI c,AI d]⟩]:List Value).toArray w fun e w'=>e=.returned (DB (Ez a b c d))∧Below w.heap.size w w':=by
 refine AR (args:=[.agg ⟨[AI a,AI b]⟩,.agg ⟨[AI c,AI d]⟩]) (fn:=Tryz.f88) (c:=YK) (n:=34) ?_
 have K1:=Wk.start w
 refine Bp 1 pd [⟨w.heap.size,0,[AI a,AI b],41,true⟩,⟨w.heap.size + 1,0,[AI c,AI d],41,true⟩,⟨w.heap.size + 2,0,[AI 0,AI 0],41,true⟩] K1 [] fun w1 o=>?_
 refine Ap o [(0,0,0),(4,1,0)] [⟨1,[(6,.agg ⟨[AI a,AI b]⟩)],.bool (Ad a b),true⟩,⟨5,[(10,.agg ⟨[AI c,AI d]⟩)],.bool (Ad c d),(!(!(Ad a b))) && true⟩] o.G (fun sp f=>?_) fun w2 E2 z=>?_
 ·rcases List.mem_cons.1 f with rfl | f
  ·exact AV 63 [.tmp 6] [.agg ⟨[AI a,AI b]⟩] (fun _=>by kernel_rfl) fun hc u hu=>AN hu (Bh a b u)
  ·obtain rfl:=List.mem_singleton.1 f
   exact AV 63 [.tmp 10] [.agg ⟨[AI c,AI d]⟩] (fun _=>by kernel_rfl) fun hc u hu=>AN hu (Bh c d u)
 unfold Ez
 refine AB Zp z [] fun w3 m=>?_
 refine AG (cond (!(Ad a b)) true (!(Ad c d))) (fun g=>?_) (fun g=>?_)
 ·refine AB AAf m [(2,0)] fun i h=>?_
  exact AJ h (2,0) (.tuple #[.agg ⟨[AI 0,AI 0]⟩,AI 1]) ⟨by rw [g]; rfl,h.B⟩
 ·have hv:Ad a b=true∧Ad c d=true:=by
   cases h1:Ad a b <;> cases h2:Ad c d <;> rw [h1,h2] at g <;> first | exact ⟨rfl,rfl⟩ | cases g
  obtain ⟨a1,k,a3,a4⟩:=DU hv.1
  obtain ⟨c2,j,t,s⟩:=DU hv.2
  refine AB pZ m [(0,0),(1,1),(1,0),(0,1),(0,1),(1,1)] fun i h=>?_
  have m1:=HU (x:=a) (y:=d) (X:=1000000000000) (Y:=1000000) a3 a4 (by omega) j (by decide)
  have m2:=HU (x:=c) (y:=b) (X:=1000000000000) (Y:=1000000) t s (by omega) k (by decide)
  have m3:=HU (x:=b) (y:=d) (X:=1000000) (Y:=1000000) (by omega) k (by omega) j (by decide)
  have r:IntKind.i64.wrap (IntKind.i64.wrap (a * d) + IntKind.i64.wrap (c * b))=a * d + c * b:=by rw [IntWalk.i64_in (a * d) (by omega),IntWalk.i64_in (c * b) (by omega),IntWalk.i64_in _ (by omega)]
  have q:IntKind.i64.wrap (b * d)=b * d:=IntWalk.i64_in _ (by omega)
  have p:=OE (a * d + c * b) (b * d) i (by omega) (by omega) (by omega) (by omega)
  refine AQ h (args:=[AI (IntKind.i64.wrap (IntKind.i64.wrap (a * d) + IntKind.i64.wrap (c * b))),AI (IntKind.i64.wrap (b * d))]) (by rw [r,q]; exact p) fun w5 v=>?_
  refine Aj AAe v [(2,0)] fun w6 l=>?_
  exact AJ l (2,0) (DB (Lk (a * d + c * b) (b * d))) ⟨by rw [g]; rfl,l.B⟩
def N2 (a b c d:Int):Int×Int×Int:=cond (cond (!(Ad a b)) true (!(Ad c d))) (0,0,1) (Lk (a * d - c * b) (b * d))
noncomputable def YA:Code:=Tryz.f89.body.getD .skip
def pD:=Ai 1 [.code YA]
def Zb:=AA 60 (AL pD)
def AAH:=AA 60 (AD Zb)
def pC:=AA 60 (AF Zb)
def AAG:=AA 60 (AC pC)
theorem mz (a b c d:Int) (w:World):Calls Tryz.prog 89 ([.agg ⟨[AI a,AI b]⟩,.agg ⟨[AI c,AI d]⟩]:List Value).toArray w fun e w'=>e=.returned (DB (N2 a b c d))∧Below w.heap.size w w':=by
 refine AR (args:=[.agg ⟨[AI a,AI b]⟩,.agg ⟨[AI c,AI d]⟩]) (fn:=Tryz.f89) (c:=YA) (n:=34) ?_
 have K1:=Wk.start w
 refine Bp 1 pD [⟨w.heap.size,0,[AI a,AI b],41,true⟩,⟨w.heap.size + 1,0,[AI c,AI d],41,true⟩,⟨w.heap.size + 2,0,[AI 0,AI 0],41,true⟩] K1 [] fun w1 o=>?_
 refine Ap o [(0,0,0),(4,1,0)] [⟨1,[(6,.agg ⟨[AI a,AI b]⟩)],.bool (Ad a b),true⟩,⟨5,[(10,.agg ⟨[AI c,AI d]⟩)],.bool (Ad c d),(!(!(Ad a b))) && true⟩] o.G (fun sp f=>?_) fun w2 E2 z=>?_
 ·rcases List.mem_cons.1 f with rfl | f
  ·exact AV 63 [.tmp 6] [.agg ⟨[AI a,AI b]⟩] (fun _=>by kernel_rfl) fun hc u hu=>AN hu (Bh a b u)
  ·obtain rfl:=List.mem_singleton.1 f
   exact AV 63 [.tmp 10] [.agg ⟨[AI c,AI d]⟩] (fun _=>by kernel_rfl) fun hc u hu=>AN hu (Bh c d u)
 unfold N2
 refine AB Zb z [] fun w3 m=>?_
 refine AG (cond (!(Ad a b)) true (!(Ad c d))) (fun g=>?_) (fun g=>?_)
 ·refine AB AAH m [(2,0)] fun i h=>?_
  exact AJ h (2,0) (.tuple #[.agg ⟨[AI 0,AI 0]⟩,AI 1]) ⟨by rw [g]; rfl,h.B⟩
 ·have hv:Ad a b=true∧Ad c d=true:=by
   cases h1:Ad a b <;> cases h2:Ad c d <;> rw [h1,h2] at g <;> first | exact ⟨rfl,rfl⟩ | cases g
  obtain ⟨a1,k,a3,a4⟩:=DU hv.1
  obtain ⟨c2,j,t,s⟩:=DU hv.2
  refine AB pC m [(0,0),(1,1),(1,0),(0,1),(0,1),(1,1)] fun i h=>?_
  have m1:=HU (x:=a) (y:=d) (X:=1000000000000) (Y:=1000000) a3 a4 (by omega) j (by decide)
  have m2:=HU (x:=c) (y:=b) (X:=1000000000000) (Y:=1000000) t s (by omega) k (by decide)
  have m3:=HU (x:=b) (y:=d) (X:=1000000) (Y:=1000000) (by omega) k (by omega) j (by decide)
  have r:IntKind.i64.wrap (IntKind.i64.wrap (a * d) - IntKind.i64.wrap (c * b))=a * d - c * b:=by rw [IntWalk.i64_in (a * d) (by omega),IntWalk.i64_in (c * b) (by omega),IntWalk.i64_in _ (by omega)]
  have q:IntKind.i64.wrap (b * d)=b * d:=IntWalk.i64_in _ (by omega)
  have p:=OE (a * d - c * b) (b * d) i (by omega) (by omega) (by omega) (by omega)
  refine AQ h (args:=[AI (IntKind.i64.wrap (IntKind.i64.wrap (a * d) - IntKind.i64.wrap (c * b))),AI (IntKind.i64.wrap (b * d))]) (by rw [r,q]; exact p) fun w5 v=>?_
  refine Aj AAG v [(2,0)] fun w6 l=>?_
  exact AJ l (2,0) (DB (Lk (a * d - c * b) (b * d))) ⟨by rw [g]; rfl,l.B⟩
def OI (a b c d:Int):Int×Int×Int:=cond (cond (!(Ad a b)) true (!(Ad c d))) (0,0,1) (GF (decide (a < 0) != decide (c < 0)) a.natAbs b.natAbs c.natAbs d.natAbs)
noncomputable def X7:Code:=Tryz.f90.body.getD .skip
def o6:=Ai 1 [.code X7]
def ZU:=AA 60 (AL o6)
def z6:=AA 60 (AD ZU)
def o5:=Ai 4 (AF ZU)
def zz:=AA 60 (AL o5)
theorem nJ (a b c d:Int) (w:World):Calls Tryz.prog 90 ([.agg ⟨[AI a,AI b]⟩,.agg ⟨[AI c,AI d]⟩]:List Value).toArray w fun e w'=>e=.returned (DB (OI a b c d))∧Below w.heap.size w w':=by
 refine AR (args:=[.agg ⟨[AI a,AI b]⟩,.agg ⟨[AI c,AI d]⟩]) (fn:=Tryz.f90) (c:=X7) (n:=39) ?_
 have s:=Wk.start w
 refine Bp 1 o6 [⟨w.heap.size,0,[AI a,AI b],41,true⟩,⟨w.heap.size + 1,0,[AI c,AI d],41,true⟩,⟨w.heap.size + 2,0,[AI 0,AI 0],41,true⟩] s [] fun j o=>?_
 refine Ap o [(0,0,0),(4,1,0)] [⟨1,[(7,.agg ⟨[AI a,AI b]⟩)],.bool (Ad a b),true⟩,⟨5,[(11,.agg ⟨[AI c,AI d]⟩)],.bool (Ad c d),(!(!(Ad a b))) && true⟩] o.G (fun p f=>?_) fun i E2 r=>?_
 ·rcases List.mem_cons.1 f with rfl | f
  ·exact AV 63 [.tmp 7] [.agg ⟨[AI a,AI b]⟩] (fun _=>by kernel_rfl) fun hc u hu=>AN hu (Bh a b u)
  ·obtain rfl:=List.mem_singleton.1 f
   exact AV 63 [.tmp 11] [.agg ⟨[AI c,AI d]⟩] (fun _=>by kernel_rfl) fun hc u hu=>AN hu (Bh c d u)
 unfold OI
 refine AB ZU r [] fun w3 m=>?_
 refine AG (cond (!(Ad a b)) true (!(Ad c d))) (fun g=>?_) (fun g=>?_)
 ·refine AB z6 m [(2,0)] fun z l=>?_
  exact AJ l (2,0) (.tuple #[.agg ⟨[AI 0,AI 0]⟩,AI 1]) ⟨by rw [g]; rfl,l.B⟩
 ·have hv:Ad a b=true∧Ad c d=true:=by
   cases h1:Ad a b <;> cases h2:Ad c d <;> rw [h1,h2] at g <;> first | exact ⟨rfl,rfl⟩ | cases g
  obtain ⟨a1,a2,a3,a4⟩:=DU hv.1
  obtain ⟨c2,c3,c4,c5⟩:=DU hv.2
  have j:IntKind.u64.wrap b=(b.natAbs:Int):=by rw [IntKind.wrap_u64]; omega
  have i:IntKind.u64.wrap d=(d.natAbs:Int):=by rw [IntKind.wrap_u64]; omega
  refine Am 4 o5 m [(0,0),(1,0)] fun y k=>?_
  refine Fk k [0,1,2,3,4,5,6,7,8,9,10,11,12,13,14,15] [(2,0,0),(5,0,1),(8,1,0),(11,1,1)] [⟨3,[(25,AI a)],.int .u64 (a.natAbs:Int),true⟩,⟨9,[(31,AI c)],.int .u64 (c.natAbs:Int),true⟩,⟨13,[(23,.bool (decide (a < 0) != decide (c < 0))),(26,.int .u64 (a.natAbs:Int)),(29,.int .u64 (IntKind.u64.wrap b)),(32,.int .u64 (c.natAbs:Int)),(35,.int .u64 (IntKind.u64.wrap d))],DB (GF (decide (a < 0) != decide (c < 0)) a.natAbs b.natAbs c.natAbs d.natAbs),true⟩] [(16,2,0),(17,0,0)] k.G (fun p f=>?_) fun t x q=>?_
  ·simp only [List.mem_cons,List.not_mem_nil,or_false] at f
   rcases f with rfl | rfl | rfl
   ·exact AV 95 [.tmp 25] [AI a] (fun _=>by kernel_rfl) fun hc u hu=>AN hu (Ig a u (by omega) (by omega))
   ·exact AV 95 [.tmp 31] [AI c] (fun _=>by kernel_rfl) fun hc u hu=>AN hu (Ig c u (by omega) (by omega))
   ·exact AV 117 [.tmp 23,.tmp 26,.tmp 29,.tmp 32,.tmp 35] [.bool (decide (a < 0) != decide (c < 0)),.int .u64 (a.natAbs:Int),.int .u64 (IntKind.u64.wrap b),.int .u64 (c.natAbs:Int),.int .u64 (IntKind.u64.wrap d)] (fun _=>by kernel_rfl) fun hc u hu=>AN hu (by rw [j,i]; exact Mb (decide (a < 0) != decide (c < 0)) a.natAbs b.natAbs c.natAbs d.natAbs u (by omega) (by omega) (by omega) (by omega) (by omega) (by omega))
  refine AB zz q [] fun v h=>?_
  exact AJ h (2,0) (DB (GF (decide (a < 0) != decide (c < 0)) a.natAbs b.natAbs c.natAbs d.natAbs)) ⟨by rw [g]; rfl,h.B⟩
def Kx (a b c d:Int):Int×Int×Int:=cond (cond (!(Ad a b)) true (!(Ad c d))) (0,0,1) (cond (c == 0) (0,0,5) (GF (decide (a < 0) != decide (c < 0)) a.natAbs b.natAbs d.natAbs c.natAbs))
noncomputable def YI:Code:=Tryz.f91.body.getD .skip
def pW:=Ai 1 [.code YI]
def Zl:=AA 60 (AL pW)
def AAZ:=AA 60 (AD Zl)
def Zk:=AA 60 (AF Zl)
def AAY:=AA 60 (AD Zk)
def pV:=Ai 6 (AF Zk)
def AAX:=AA 60 (AL pV)
theorem V7 (a b c d:Int) (w:World):Calls Tryz.prog 91 ([.agg ⟨[AI a,AI b]⟩,.agg ⟨[AI c,AI d]⟩]:List Value).toArray w fun e w'=>e=.returned (DB (Kx a b c d))∧Below w.heap.size w w':=by
 refine AR (args:=[.agg ⟨[AI a,AI b]⟩,.agg ⟨[AI c,AI d]⟩]) (fn:=Tryz.f91) (c:=YI) (n:=43) ?_
 have x:=Wk.start w
 refine Bp 1 pW [⟨w.heap.size,0,[AI a,AI b],41,true⟩,⟨w.heap.size + 1,0,[AI c,AI d],41,true⟩,⟨w.heap.size + 2,0,[AI 0,AI 0],41,true⟩] x [] fun l q=>?_
 refine Ap q [(0,0,0),(4,1,0)] [⟨1,[(7,.agg ⟨[AI a,AI b]⟩)],.bool (Ad a b),true⟩,⟨5,[(11,.agg ⟨[AI c,AI d]⟩)],.bool (Ad c d),(!(!(Ad a b))) && true⟩] q.G (fun s f=>?_) fun k E2 v=>?_
 ·rcases List.mem_cons.1 f with rfl | f
  ·exact AV 63 [.tmp 7] [.agg ⟨[AI a,AI b]⟩] (fun _=>by kernel_rfl) fun hc u hu=>AN hu (Bh a b u)
  ·obtain rfl:=List.mem_singleton.1 f
   exact AV 63 [.tmp 11] [.agg ⟨[AI c,AI d]⟩] (fun _=>by kernel_rfl) fun hc u hu=>AN hu (Bh c d u)
 unfold Kx
 refine AB Zl v [] fun w3 p=>?_
 refine AG (cond (!(Ad a b)) true (!(Ad c d))) (fun g=>?_) (fun g=>?_)
 ·refine AB AAZ p [(2,0)] fun r h=>?_
  exact AJ h (2,0) (.tuple #[.agg ⟨[AI 0,AI 0]⟩,AI 1]) ⟨by rw [g]; rfl,h.B⟩
 ·have hv:Ad a b=true∧Ad c d=true:=by
   cases h1:Ad a b <;> cases h2:Ad c d <;> rw [h1,h2] at g <;> first | exact ⟨rfl,rfl⟩ | cases g
  obtain ⟨a1,a2,a3,a4⟩:=DU hv.1
  obtain ⟨c2,c3,c4,c5⟩:=DU hv.2
  refine AB Zk p [(1,0)] fun r h=>?_
  refine AG (c == 0) (fun j=>?_) (fun j=>?_)
  ·refine AB AAY h [(2,0)] fun w5 o=>?_
   exact AJ o (2,0) (.tuple #[.agg ⟨[AI 0,AI 0]⟩,AI 5]) ⟨by rw [g,j]; rfl,o.B⟩
  ·have hz:c≠0:=by simpa using j
   have l:IntKind.u64.wrap b=(b.natAbs:Int):=by rw [IntKind.wrap_u64]; omega
   have k:IntKind.u64.wrap d=(d.natAbs:Int):=by rw [IntKind.wrap_u64]; omega
   refine Am 6 pV h [(0,0),(1,0)] fun w6 m=>?_
   refine Fk m [0,1,2,3,4,5,6,7,8,9,10,11,12,13,14,15] [(2,0,0),(5,0,1),(8,1,1),(11,1,0)] [⟨3,[(29,AI a)],.int .u64 (a.natAbs:Int),true⟩,⟨12,[(38,AI c)],.int .u64 (c.natAbs:Int),true⟩,⟨13,[(27,.bool (decide (a < 0) != decide (c < 0))),(30,.int .u64 (a.natAbs:Int)),(33,.int .u64 (IntKind.u64.wrap b)),(36,.int .u64 (IntKind.u64.wrap d)),(39,.int .u64 (c.natAbs:Int))],DB (GF (decide (a < 0) != decide (c < 0)) a.natAbs b.natAbs d.natAbs c.natAbs),true⟩] [(16,2,0),(17,0,0)] m.G (fun s f=>?_) fun y w7 t=>?_
   ·simp only [List.mem_cons,List.not_mem_nil,or_false] at f
    rcases f with rfl | rfl | rfl
    ·exact AV 95 [.tmp 29] [AI a] (fun _=>by kernel_rfl) fun hc u hu=>AN hu (Ig a u (by omega) (by omega))
    ·exact AV 95 [.tmp 38] [AI c] (fun _=>by kernel_rfl) fun hc u hu=>AN hu (Ig c u (by omega) (by omega))
    ·exact AV 117 [.tmp 27,.tmp 30,.tmp 33,.tmp 36,.tmp 39] [.bool (decide (a < 0) != decide (c < 0)),.int .u64 (a.natAbs:Int),.int .u64 (IntKind.u64.wrap b),.int .u64 (IntKind.u64.wrap d),.int .u64 (c.natAbs:Int)] (fun _=>by kernel_rfl) fun hc u hu=>AN hu (by rw [l,k]; exact Mb (decide (a < 0) != decide (c < 0)) a.natAbs b.natAbs d.natAbs c.natAbs u (by omega) (by omega) (by omega) (by omega) (by omega) (by omega))
   refine AB AAX t [] fun z i=>?_
   exact AJ i (2,0) (DB (GF (decide (a < 0) != decide (c < 0)) a.natAbs b.natAbs d.natAbs c.natAbs)) ⟨by rw [g,j]; rfl,i.B⟩
def ET (a b c d:Int):Int:=cond (cond (!(Ad a b)) true (!(Ad c d))) 0 (cond (decide (a * d < c * b)) (-1) (cond (decide (c * b < a * d)) 1 0))
noncomputable def YJ:Code:=Tryz.f93.body.getD .skip
def pY:=Ai 1 [.code YJ]
def Zo:=AA 60 (AL pY)
def AAd:=AA 60 (AD Zo)
def pX:=Ai 3 (AF Zo)
def Zn:=AA 60 (AL pX)
def AAc:=AA 60 (AD Zn)
def Zm:=AA 60 (AF Zn)
def AAb:=AA 60 (AD Zm)
def AAa:=AA 60 (AF Zm)
theorem Hq (a b c d:Int) (w:World):Calls Tryz.prog 93 ([.agg ⟨[AI a,AI b]⟩,.agg ⟨[AI c,AI d]⟩]:List Value).toArray w fun e w'=>e=.returned (AI (ET a b c d))∧Below w.heap.size w w':=by
 refine AR (args:=[.agg ⟨[AI a,AI b]⟩,.agg ⟨[AI c,AI d]⟩]) (fn:=Tryz.f93) (c:=YJ) (n:=33) ?_
 have K1:=Wk.start w
 refine Bp 1 pY [⟨w.heap.size,0,[AI a,AI b],41,true⟩,⟨w.heap.size + 1,0,[AI c,AI d],41,true⟩] K1 [] fun w1 r=>?_
 refine Ap r [(0,0,0),(4,1,0)] [⟨1,[(7,.agg ⟨[AI a,AI b]⟩)],.bool (Ad a b),true⟩,⟨5,[(11,.agg ⟨[AI c,AI d]⟩)],.bool (Ad c d),(!(!(Ad a b))) && true⟩] r.G (fun z f=>?_) fun w2 E2 K3=>?_
 ·rcases List.mem_cons.1 f with rfl | f
  ·exact AV 63 [.tmp 7] [.agg ⟨[AI a,AI b]⟩] (fun _=>by kernel_rfl) fun hc u hu=>AN hu (Bh a b u)
  ·obtain rfl:=List.mem_singleton.1 f
   exact AV 63 [.tmp 11] [.agg ⟨[AI c,AI d]⟩] (fun _=>by kernel_rfl) fun hc u hu=>AN hu (Bh c d u)
 unfold ET
 refine AB Zo K3 [] fun w3 q=>?_
 refine AG (cond (!(Ad a b)) true (!(Ad c d))) (fun g=>?_) (fun g=>?_)
 ·refine AB AAd q [] fun v k=>?_
  exact AJ k (0,0) (AI 0) ⟨by rw [g]; rfl,k.B⟩
 ·have hv:Ad a b=true∧Ad c d=true:=by
   cases h1:Ad a b <;> cases h2:Ad c d <;> rw [h1,h2] at g <;> first | exact ⟨rfl,rfl⟩ | cases g
  obtain ⟨a1,a2,a3,a4⟩:=DU hv.1
  obtain ⟨c2,c3,c4,c5⟩:=DU hv.2
  have m1:=HU (x:=a) (y:=d) (X:=1000000000000) (Y:=1000000) a3 a4 (by omega) c3 (by decide)
  have m2:=HU (x:=c) (y:=b) (X:=1000000000000) (Y:=1000000) c4 c5 (by omega) a2 (by decide)
  have o:IntKind.i64.wrap (a * d)=a * d:=IntWalk.i64_in _ (by omega)
  have m:IntKind.i64.wrap (c * b)=c * b:=IntWalk.i64_in _ (by omega)
  refine Am 3 pX q [] fun v k=>?_
  refine Ap k [(1,0,0),(3,1,1),(6,1,0),(8,0,1)] [] k.G (fun z f=>by cases f) fun w5 E5 K6=>?_
  refine AB Zn K6 [] fun w6 p=>?_
  refine AG (decide (IntKind.i64.wrap (a * d) < IntKind.i64.wrap (c * b))) (fun h=>?_) (fun h=>?_) <;> rw [o,m] at h
  ·refine AB AAc p [] fun t j=>?_
   exact AJ j (0,0) (AI (-1)) ⟨by rw [g,h]; rfl,j.B⟩
  ·refine AB Zm p [] fun t j=>?_
   refine AG (decide (IntKind.i64.wrap (c * b) < IntKind.i64.wrap (a * d))) (fun l=>?_) (fun l=>?_) <;> rw [o,m] at l
   ·refine AB AAb j [] fun s i=>?_
    exact AJ i (0,0) (AI 1) ⟨by rw [g,h,l]; rfl,i.B⟩
   ·refine AB AAa j [] fun s i=>?_
    exact AJ i (0,0) (AI 0) ⟨by rw [g,h,l]; rfl,i.B⟩
def OH (a b:Int):Int×Int×Int:=cond (!(Ad a b)) (0,0,1) (-a,b,0)
noncomputable def YE:Code:=Tryz.f92.body.getD .skip
def pQ:=AA 60 [.code YE]
def Zg:=AA 60 (AC pQ)
def AAQ:=AA 60 (AD Zg)
def AAP:=AA 60 (AF Zg)
theorem nG (a b:Int) (w:World):Calls Tryz.prog 92 ([.agg ⟨[AI a,AI b]⟩]:List Value).toArray w fun e w'=>e=.returned (DB (OH a b))∧Below w.heap.size w w':=by
 refine AR (args:=[.agg ⟨[AI a,AI b]⟩]) (fn:=Tryz.f92) (c:=YE) (n:=14) ?_
 have m:=Wk.start w
 refine Af pQ [⟨w.heap.size,0,[AI a,AI b],41,true⟩,⟨w.heap.size + 1,0,[AI 0,AI 0],41,true⟩] m [(0,0)] fun j l=>?_
 refine AQ l (args:=[.agg ⟨[AI a,AI b]⟩]) (Bh a b j) fun p k=>?_
 refine AB Zg k [] fun o h=>?_
 unfold OH
 refine AG (!(Ad a b)) (fun g=>?_) (fun g=>?_)
 ·refine AB AAQ h [(1,0)] fun i f=>?_
  exact AJ f (1,0) (.tuple #[.agg ⟨[AI 0,AI 0]⟩,AI 1]) ⟨by rw [g]; rfl,f.B⟩
 ·obtain ⟨r,q,a3,a4⟩:=DU (n:=a) (d:=b) (by simpa using g)
  refine Aj AAP h [(0,0),(0,1),(1,0)] fun i f=>?_
  refine AJ f (1,0) (.tuple #[.agg ⟨[AI (IntKind.i64.wrap (0 - a)),AI b]⟩,AI 0]) ⟨?_,f.B⟩
  rw [IntWalk.i64_in (0 - a) (by omega),Int.zero_sub,g]
  rfl
end
end Go.Proofs.YtkjbdagicjbjjaaGreat
namespace Go.Proofs.YtkjbdagicjbjjaaGreat
noncomputable section
open Go.RowKit
set_option maxRecDepth 100000
set_option maxHeartbeats 1000000
attribute [local irreducible] A8 BL AC AD AF Ao AY AL Aq Bb Cn BR BK At Fr
def Jl (p0:Int):Bool:=cond (decide (0≤p0)) (decide (p0≤6)) (false)
noncomputable def YG:Code:=Tryz.f64.body.getD .skip
def pR:=Ai 1 ([.code YG])
def AAT:=AA 60 (AL pR)
theorem Wm (a:Int) (w:World):Calls Tryz.prog 64 ([AI a]:List Value).toArray w fun e w'=>e=.returned (.bool (Jl a))∧Below w.heap.size w w':=by
 refine AR (fn:=Tryz.f64) (c:=YG) (n:=9) ?_
 have h:=Wk.start w
 refine Am 1 pR h [] fun k d=>?_
 refine Ap d [] [] d.G (fun l b=>by cases b) fun j m g=>?_
 refine AB AAT g [] fun i f=>?_
 exact AP f (0,0) (.bool (cond (decide (0≤a)) (decide (a≤6)) (false))) (by unfold Jl; rfl)
def FJ (p0:Int) (p1:Int) (p2:Bool) (p3:Int):Bool:=cond (p3 == 0) (!(p2)) (cond (p3 == 1) (p2) (cond (p3 == 2) (false) (cond (p3 == 3) (true) (cond (!(p1 == 0)) (decide (0 < p1)) (cond (p3 == 4) (p2) (cond (p3 == 5) (!(p2)) (!(Int.tmod p0 2 == 0))))))))
noncomputable def X9:Code:=Tryz.f96.body.getD .skip
def Za:=AA 60 ([.code X9])
def AAF:=AA 60 (AD Za)
def ZZ:=AA 60 (AF Za)
def AAE:=AA 60 (AD ZZ)
def ZY:=AA 60 (AF ZZ)
def AAD:=AA 60 (AD ZY)
def ZX:=AA 60 (AF ZY)
def AAC:=AA 60 (AD ZX)
def ZW:=AA 60 (AF ZX)
def AAB:=AA 60 (AD ZW)
def TU:=AA 60 (AF ZW)
def ue:=AA 60 (AD TU)
def TT:=AA 60 (AF TU)
def ud:=AA 60 (AD TT)
def fO:=Ai 17 (AF TT)
def ub:=AA 60 (AL fO)
theorem Yr (l p1:Int) (k:Bool) (g:Int) (w:World):Calls Tryz.prog 96 ([AI l,AI p1,.bool k,AI g]:List Value).toArray w fun e w'=>e=.returned (.bool (FJ l p1 k g))∧Below w.heap.size w w':=by
 refine AR (fn:=Tryz.f96) (c:=X9) (n:=36) ?_
 have K1:=Wk.start w
 refine AB Za K1 [] fun w1 K2=>?_
 refine AG (g == 0) (fun d=>?_) (fun d=>?_)
 ·refine AB AAF K2 [] fun w3 K3=>?_
  exact AP K3 (0,0) (.bool (!(k))) (by unfold FJ; rw [d] <;> rfl)
 ·refine AB ZZ K2 [] fun w4 K4=>?_
  refine AG (g == 1) (fun h=>?_) (fun h=>?_)
  ·refine AB AAE K4 [] fun w6 K5=>?_
   exact AP K5 (0,0) (.bool k) (by unfold FJ; rw [d,h] <;> rfl)
  ·refine AB ZY K4 [] fun w7 K6=>?_
   refine AG (g == 2) (fun i=>?_) (fun i=>?_)
   ·refine AB AAD K6 [] fun w9 K7=>?_
    exact AP K7 (0,0) (.bool false) (by unfold FJ; rw [d,h,i] <;> rfl)
   ·refine AB ZX K6 [] fun m0 K8=>?_
    refine AG (g == 3) (fun a=>?_) (fun a=>?_)
    ·refine AB AAC K8 [] fun l0 K9=>?_
     exact AP K9 (0,0) (.bool true) (by unfold FJ; rw [d,h,i,a] <;> rfl)
    ·refine AB ZW K8 [] fun k0 q=>?_
     refine AG (!(p1 == 0)) (fun b=>?_) (fun b=>?_)
     ·refine AB AAB q [] fun j0 a0=>?_
      exact AP a0 (0,0) (.bool (decide (0 < p1))) (by unfold FJ; rw [d,h,i,a,b] <;> rfl)
     ·refine AB TU q [] fun i0 p=>?_
      refine AG (g == 4) (fun f=>?_) (fun f=>?_)
      ·refine AB ue p [] fun h0 z=>?_
       exact AP z (0,0) (.bool k) (by unfold FJ; rw [d,h,i,a,b,f] <;> rfl)
      ·refine AB TT p [] fun g0 o=>?_
       refine AG (g == 5) (fun j=>?_) (fun j=>?_)
       ·refine AB ud o [] fun e0 v=>?_
        exact AP v (0,0) (.bool (!(k))) (by unfold FJ; rw [d,h,i,a,b,f,j] <;> rfl)
       ·refine Am 17 fO o [] fun d0 m=>?_
        refine Ap m [] [⟨1,[(33,AI l)],AI (Int.tmod l 2),true⟩] m.G (fun sp r=>?_) fun c0 n0 t=>?_
        ·rw [List.mem_singleton.1 r]
         exact BG fun hc E u _=>L6 (T:=3) (T':=3) (x:=.tmp 33) (y:=.const (AI 2)) (by kernel_rfl) (by kernel_rfl) (by kernel_rfl) (by omega)
        refine AB ub t [] fun b0 s=>?_
        exact AP s (0,0) (.bool (!(Int.tmod l 2 == 0))) (by unfold FJ; rw [d,h,i,a,b,f,j] <;> rfl)
def H2 (p0:Int):Bool:=!(p0 == p0)
noncomputable def WG:Code:=Tryz.f118.body.getD .skip
def uf:=AA 60 ([.code WG])
theorem QH (a:Int) (w:World):Calls Tryz.prog 118 ([AI a]:List Value).toArray w fun e w'=>e=.returned (.bool (H2 a))∧Below w.heap.size w w':=by
 refine AR (fn:=Tryz.f118) (c:=WG) (n:=6) ?_
 have d:=Wk.start w
 refine AB uf d [] fun f b=>?_
 exact AP b (0,0) (.bool (!(a == a))) (by unfold H2; rfl)
def EU (p0:Int) (p1:Int):Int:=cond (H2 p0) (cond (H2 p1) (0) (-1)) (cond (H2 p1) (1) (cond (decide (p0 < p1)) (-1) (cond (decide (p1 < p0)) (1) (0))))
noncomputable def WH:Code:=Tryz.f97.body.getD .skip
def fQ:=AA 60 ([.code WH])
def fP:=AA 60 (AC fQ)
def TY:=AA 60 (AC fP)
def TX:=AA 60 (AD TY)
def uj:=AA 60 (AD TX)
def ui:=AA 60 (AF TX)
def TW:=AA 60 (AF TY)
def uh:=AA 60 (AD TW)
def TV:=AA 60 (AF TW)
def ug:=AA 60 (AD TV)
def Qb:=AA 60 (AF TV)
def tI:=AA 60 (AD Qb)
def tH:=AA 60 (AF Qb)
theorem eG (g p1:Int) (w:World):Calls Tryz.prog 97 ([AI g,AI p1]:List Value).toArray w fun e w'=>e=.returned (AI (EU g p1))∧Below w.heap.size w w':=by
 refine AR (fn:=Tryz.f97) (c:=WH) (n:=20) ?_
 have K1:=Wk.start w
 refine AB fQ K1 [] fun w1 K2=>?_
 refine AQ K2 (QH g w1) fun w2 K3=>?_
 refine AB fP K3 [] fun s K4=>?_
 refine AQ K4 (QH p1 s) fun w4 K5=>?_
 refine AB TY K5 [] fun w5 r=>?_
 refine AG (H2 g) (fun d=>?_) (fun d=>?_)
 ·refine AB TX r [] fun w7 q=>?_
  refine AG (H2 p1) (fun k=>?_) (fun k=>?_)
  ·refine AB uj q [] fun w9 K8=>?_
   exact AP K8 (0,0) (AI 0) (by unfold EU; rw [d,k] <;> rfl)
  ·refine AB ui q [] fun b0 K9=>?_
   exact AP K9 (0,0) (AI (-1)) (by unfold EU; rw [d,k] <;> rfl)
 ·refine AB TW r [] fun a0 j=>?_
  refine AG (H2 p1) (fun a=>?_) (fun a=>?_)
  ·refine AB uh j [] fun z p=>?_
   exact AP p (0,0) (AI 1) (by unfold EU; rw [d,a] <;> rfl)
  ·refine AB TV j [] fun y i=>?_
   refine AG (decide (g < p1)) (fun b=>?_) (fun b=>?_)
   ·refine AB ug i [] fun x o=>?_
    exact AP o (0,0) (AI (-1)) (by unfold EU; rw [d,a,b] <;> rfl)
   ·refine AB Qb i [] fun v h=>?_
    refine AG (decide (p1 < g)) (fun f=>?_) (fun f=>?_)
    ·refine AB tI h [] fun u m=>?_
     exact AP m (0,0) (AI 1) (by unfold EU; rw [d,a,b,f] <;> rfl)
    ·refine AB tH h [] fun t l=>?_
     exact AP l (0,0) (AI 0) (by unfold EU; rw [d,a,b,f] <;> rfl)
section
variable {P:Program} {o:Oper} {ρ:Operand→Value} {w:World}
theorem kG {T T':TypeId} {x y:Operand} {a b:Int} (hop:o.op=.binOp .quo T x y T') (hx:ρ x=AI a) (c:ρ y=AI b) (hb:b≠0):(execOp ρ o).run P w=.ok (.value (AI (IntKind.i64.wrap (a.tdiv b)))) w:=by
 unfold execOp
 simp [hop,hx,c,binOp,Op.intDiv,hb,eqGuard]
end
def Im (n d:Int):Int×Int:=cond (decide (n.tmod d < 0)) (n.tdiv d - 1,n.tmod d + d) (n.tdiv d,n.tmod d)
def Lh (n d m:Int):Int:=cond (cond (!((Im n d).2 == 0)) (FJ (Im n d).1 (EU (Im n d).2 (d - (Im n d).2)) (decide (0 < n)) m) false) ((Im n d).1 + 1) (Im n d).1
theorem tE {n d:Int} (hd:1≤d) (b:-2000000000000000000≤n) (a:n≤2000000000000000000):-2000000000000000000≤n.tdiv d∧n.tdiv d≤2000000000000000000:=by
 have h2:(n.tdiv d).natAbs≤n.natAbs:=Int.natAbs_tdiv_le_natAbs n d
 omega
theorem tC {n d:Int} (hd:1≤d):-d < n.tmod d∧n.tmod d < d:=⟨by have:=Int.lt_tmod_of_pos n (b:=d) (by omega); omega,Int.tmod_lt_of_pos n (by omega)⟩
noncomputable def YB:Code:=Tryz.f65.body.getD .skip
def pF:=Ai 1 [.code YB]
def pE:=AA 60 (AL pF)
def SO:=Ai 4 (AD pE)
def Zc:=AA 60 (AL SO)
def AAJ:=AA 60 (AD Zc)
def AAI:=AA 60 (AF Zc)
theorem VY {R:Ending→World→Prop} (n d m q r:Int) (E:Nat→Value) (w0 w:World) (K:Wk w0 w [] [] []) (v:1≤d) (h2:d≤2000000000000000000) (t:-3000000000000000000≤q) (s:q≤3000000000000000000) (p:0≤r) (o:r < d) (hR:∀ w',Below w0.heap.size w0 w'→R (.returned (AI (cond (cond (!(r == 0)) (FJ q (EU r (d - r)) (decide (0 < n)) m) false) (q + 1) q))) w') :
  At Tryz.prog 65 R SO (Fr 39 (BC E [(0,AI n),(1,AI d),(2,AI m),(7,AI q),(8,AI r)])) w:=by
 have h:IntKind.i64.wrap (d - r)=d - r:=IntWalk.i64_in _ (by omega)
 have g:IntKind.i64.wrap (q + 1)=q + 1:=IntWalk.i64_in _ (by omega)
 refine Ap K [] [⟨8,[(26,AI r),(29,AI (IntKind.i64.wrap (d - r)))],AI (EU r (d - r)),(!(r == 0)) && true⟩,⟨12,[(25,AI q),(30,AI (EU r (d - r))),(32,.bool (decide (0 < n))),(33,AI m)],.bool (FJ q (EU r (d - r)) (decide (0 < n)) m),(!(r == 0)) && true⟩] K.G (fun l a=>?_) fun k x i=>?_
 ·simp only [List.mem_cons,List.not_mem_nil,or_false] at a
  rcases a with rfl | rfl
  ·exact AV 97 [.tmp 26,.tmp 29] [AI r,AI (IntKind.i64.wrap (d - r))] (fun _=>by kernel_rfl) fun hc u hu=>AN hu (by rw [h]; exact eG r (d - r) u)
  ·exact AV 96 [.tmp 25,.tmp 30,.tmp 32,.tmp 33] [AI q,AI (EU r (d - r)),.bool (decide (0 < n)),AI m] (fun _=>by kernel_rfl) fun hc u hu=>AN hu (Yr q (EU r (d - r)) (decide (0 < n)) m u)
 refine AB Zc i [] fun j e=>?_
 refine AG (cond (!(r == 0)) (FJ q (EU r (d - r)) (decide (0 < n)) m) false) (fun c=>?_) (fun c=>?_) <;> rw [c] at hR
 ·refine AB AAJ e [] fun f b=>?_
  refine AJ b (0,0) (AI (IntKind.i64.wrap (q + 1))) ?_
  rw [g]
  exact hR _ b.B
 ·refine AB AAI e [] fun f b=>?_
  exact AJ b (0,0) (AI q) (hR _ b.B)
theorem jm (n d m:Int) (w:World) (r:-2000000000000000000≤n) (q:n≤2000000000000000000) (h2:1≤d) (k:d≤2000000000000000000):Calls Tryz.prog 65 ([AI n,AI d,AI m]:List Value).toArray w fun e w'=>e=.returned (AI (Lh n d m))∧Below w.heap.size w w':=by
 refine AR (args:=[AI n,AI d,AI m]) (fn:=Tryz.f65) (c:=YB) (n:=39) ?_
 have t:=Wk.start w
 obtain ⟨b1,b2⟩:=tE (n:=n) h2 r q
 obtain ⟨b3,b4⟩:=tC (n:=n) h2
 have l:IntKind.i64.wrap (n.tdiv d)=n.tdiv d:=IntWalk.i64_in _ (by omega)
 refine Am 1 pF t [] fun w1 p=>?_
 refine Ap p [] [⟨2,[(9,AI n),(10,AI d)],AI (IntKind.i64.wrap (n.tdiv d)),true⟩,⟨5,[(12,AI n),(13,AI d)],AI (n.tmod d),true⟩] p.G (fun sp a=>?_) fun z E2 s=>?_
 ·rcases List.mem_cons.1 a with rfl | a
  ·exact BG fun _ E u _=>kG (T:=3) (T':=3) (x:=.tmp 9) (y:=.tmp 10) (by kernel_rfl) (by kernel_rfl) (by kernel_rfl) (by omega)
  ·obtain rfl:=List.mem_singleton.1 a
   exact BG fun _ E u _=>L6 (T:=3) (T':=3) (x:=.tmp 12) (y:=.tmp 13) (by kernel_rfl) (by kernel_rfl) (by kernel_rfl) (by omega)
 refine AB pE s [] fun v o=>?_
 refine AG (decide (n.tmod d < 0)) (fun f=>?_) (fun f=>?_)
 ·have hn:n.tmod d < 0:=of_decide_eq_true f
  have h:Im n d=(n.tdiv d - 1,n.tmod d + d):=by unfold Im; rw [f]; rfl
  refine Am 4 SO o [] fun g i=>?_
  refine AU [(0,AI n),(1,AI d),(2,AI m),(7,AI (IntKind.i64.wrap (IntKind.i64.wrap (n.tdiv d) - 1))),(8,AI (IntKind.i64.wrap (n.tmod d + d)))] fun j=>?_
  rw [l,IntWalk.i64_in (n.tdiv d - 1) (by omega),IntWalk.i64_in (n.tmod d + d) (by omega)]
  refine VY n d m (n.tdiv d - 1) (n.tmod d + d) j w g i h2 k (by omega) (by omega) (by omega) (by omega) fun w' b=>⟨?_,b⟩
  unfold Lh
  rw [h]
 ·have hn:¬ n.tmod d < 0:=of_decide_eq_false f
  have h:Im n d=(n.tdiv d,n.tmod d):=by unfold Im; rw [f]; rfl
  refine Am 4 SO o [] fun g i=>?_
  refine AU [(0,AI n),(1,AI d),(2,AI m),(7,AI (IntKind.i64.wrap (n.tdiv d))),(8,AI (n.tmod d))] fun j=>?_
  rw [l]
  refine VY n d m (n.tdiv d) (n.tmod d) j w g i h2 k (by omega) (by omega) (by omega) (by omega) fun w' b=>⟨?_,b⟩
  unfold Lh
  rw [h]
theorem sy (x:Int):-9223372036854775808≤IntKind.i64.wrap x∧IntKind.i64.wrap x≤9223372036854775807:=by
 rw [IntKind.wrap_i64]; omega
def IE (a b c d m:Int):Int×Int×Int:=cond (cond (!(Ad a b)) true (!(Ad c d))) (0,0,1) (cond (cond (decide (c≤0)) true (!(Jl m))) (0,0,2) (Lk (IntKind.i64.wrap (Lh (a * d) (b * c) m * c)) d))
noncomputable def YD:Code:=Tryz.f40.body.getD .skip
def pP:=Ai 1 [.code YD]
def Zf:=AA 60 (AL pP)
def AAO:=AA 60 (AD Zf)
def pO:=Ai 3 (AF Zf)
def Ze:=AA 60 (AL pO)
def AAN:=AA 60 (AD Ze)
def pN:=AA 60 (AF Ze)
def pM:=AA 60 (AC pN)
def AAM:=AA 60 (AC pM)
theorem Pf (a b c d m:Int) (w:World):Calls Tryz.prog 40 ([.agg ⟨[AI a,AI b]⟩,.agg ⟨[AI c,AI d]⟩,AI m]:List Value).toArray w fun e w'=>e=.returned (DB (IE a b c d m))∧Below w.heap.size w w':=by
 refine AR (args:=[.agg ⟨[AI a,AI b]⟩,.agg ⟨[AI c,AI d]⟩,AI m]) (fn:=Tryz.f40) (c:=YD) (n:=48) ?_
 have K1:=Wk.start w
 refine Bp 1 pP [⟨w.heap.size,0,[AI a,AI b],41,true⟩,⟨w.heap.size + 1,0,[AI c,AI d],41,true⟩,⟨w.heap.size + 2,0,[AI 0,AI 0],41,true⟩] K1 [] fun w1 v=>?_
 refine Ap v [(0,0,0),(4,1,0)] [⟨1,[(9,.agg ⟨[AI a,AI b]⟩)],.bool (Ad a b),true⟩,⟨5,[(13,.agg ⟨[AI c,AI d]⟩)],.bool (Ad c d),(!(!(Ad a b))) && true⟩] v.G (fun sp f=>?_) fun w2 E2 K3=>?_
 ·rcases List.mem_cons.1 f with rfl | f
  ·exact AV 63 [.tmp 9] [.agg ⟨[AI a,AI b]⟩] (fun _=>by kernel_rfl) fun hc u hu=>AN hu (Bh a b u)
  ·obtain rfl:=List.mem_singleton.1 f
   exact AV 63 [.tmp 13] [.agg ⟨[AI c,AI d]⟩] (fun _=>by kernel_rfl) fun hc u hu=>AN hu (Bh c d u)
 unfold IE
 refine AB Zf K3 [] fun w3 t=>?_
 refine AG (cond (!(Ad a b)) true (!(Ad c d))) (fun g=>?_) (fun g=>?_)
 ·refine AB AAO t [(2,0)] fun w4 i=>?_
  exact AJ i (2,0) (.tuple #[.agg ⟨[AI 0,AI 0]⟩,AI 1]) ⟨by rw [g]; rfl,i.B⟩
 ·have hv:Ad a b=true∧Ad c d=true:=by
   cases h1:Ad a b <;> cases h2:Ad c d <;> rw [h1,h2] at g <;> first | exact ⟨rfl,rfl⟩ | cases g
  obtain ⟨a1,a2,a3,a4⟩:=DU hv.1
  obtain ⟨c2,c3,c4,c5⟩:=DU hv.2
  refine Am 3 pO t [] fun w4 i=>?_
  refine Ap i [(1,1,0)] [⟨5,[(22,AI m)],.bool (Jl m),(!(decide (c≤0))) && true⟩] i.G (fun sp f=>?_) fun w5 E5 K6=>?_
  ·obtain rfl:=List.mem_singleton.1 f
   exact AV 64 [.tmp 22] [AI m] (fun _=>by kernel_rfl) fun hc u hu=>AN hu (Wm m u)
  refine AB Ze K6 [] fun w6 s=>?_
  refine AG (cond (decide (c≤0)) true (!(Jl m))) (fun h=>?_) (fun h=>?_)
  ·refine AB AAN s [(2,0)] fun q k=>?_
   exact AJ k (2,0) (.tuple #[.agg ⟨[AI 0,AI 0]⟩,AI 2]) ⟨by rw [g,h]; rfl,k.B⟩
  ·have l:0 < c:=by
    cases hd:decide (c≤0) with
    | true=>rw [hd] at h; cases h
    | false=>have:=of_decide_eq_false hd; omega
   have m1:=HU (x:=a) (y:=d) (X:=1000000000000) (Y:=1000000) a3 a4 (by omega) c3 (by decide)
   have m2:=HU (x:=b) (y:=c) (X:=1000000) (Y:=1000000000000) (by omega) a2 (by omega) c5 (by decide)
   have m3:0 < b * c:=Int.mul_pos (by omega) l
   have e1:IntKind.i64.wrap (a * d)=a * d:=IntWalk.i64_in _ (by omega)
   have e2:IntKind.i64.wrap (b * c)=b * c:=IntWalk.i64_in _ (by omega)
   refine AB pN s [(0,0),(1,1),(0,1),(1,0)] fun q k=>?_
   refine AQ k (args:=[AI (IntKind.i64.wrap (a * d)),AI (IntKind.i64.wrap (b * c)),AI m]) (by rw [e1,e2]; exact jm (a * d) (b * c) m q (by omega) (by omega) (by omega) (by omega)) fun w8 K9=>?_
   refine AB pM K9 [(1,0),(1,1)] fun z p=>?_
   have r:=sy (Lh (a * d) (b * c) m * c)
   refine AQ p (OE (IntKind.i64.wrap (Lh (a * d) (b * c) m * c)) d z r.1 r.2 (by omega) (by omega)) fun b0 o=>?_
   refine Aj AAM o [(2,0)] fun a0 j=>?_
   exact AJ j (2,0) (DB (Lk (IntKind.i64.wrap (Lh (a * d) (b * c) m * c)) d)) ⟨by rw [g,h]; rfl,j.B⟩
end
end Go.Proofs.YtkjbdagicjbjjaaGreat

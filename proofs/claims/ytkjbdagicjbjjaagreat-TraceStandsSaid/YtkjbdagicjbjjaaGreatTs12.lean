/- Contracts of functions, part 12. -/
import Derived.Test.YtkjbdagicjbjjaaGreatTs11
import Derived.Test.YtkjbdagicjbjjaaGreatTs10
import Derived.Test.YtkjbdagicjbjjaaGreatTs05
set_option linter.all false
namespace Go.Proofs.YtkjbdagicjbjjaaGreat
noncomputable section
open Go.RowKit
set_option maxRecDepth 100000
set_option maxHeartbeats 1000000
def TZ (g:Nat) (o:Oper):Oper:={ o with guard:=match o.guard with
 | some (j,true)=>cond (Nat.beq j g) none o.guard
 | x=>x }
def KK (ops:Array Oper) (g:Nat):Array Oper:=ops.map (TZ g)
def iO (ops:Array Oper) (g t:Nat):Bool:=(match ops[g]? with
 | some o=>o.dst == some t
 | none=>false) && (List.range ops.size).all fun j=>Nat.beq j g || !((ops.getD j default).dst == some t)
section
variable {P:Program} {ops:Array Oper} {Q:Exit→Act→World→Prop} {md:Region.Mode}
theorem PJ (g k:Nat):(KK ops g)[k]?=(ops[k]?).map (TZ g):=by
 unfold KK
 rw [Array.getElem?_map]
theorem ML (g:Nat) (a:Array Bool):Region.ready md (KK ops g) a=Region.ready md ops a:=by
 unfold Region.ready
 rw [show (KK ops g).size=ops.size by unfold KK; rw [Array.size_map]]
 refine List.filter_congr fun i _=>?_
 rw [PJ]
 cases ops[i]? <;> rfl
theorem oJ {I:Act→Prop} {o:Oper} {a:Act} {K:Act→World→Prop} {r:Result Next} (b:∀ v (d:List Deferred),I ({ a with defers:=d }.put o.dst v)) (h:o.upon P a K Q r):o.upon P a (fun a w=>I a∧K a w) Q r:=by
 cases r with
 | ok n w'=>
  cases n <;> simp only [Oper.upon] at h ⊢ <;> first
   | exact ⟨b _ a.defers,h⟩
   | exact ⟨b _ _,h⟩
   | exact Calls.mono h (fun e c he=>by cases e <;> first | exact ⟨b _ a.defers,he⟩ | exact he)
   | exact Rows.mono h (fun _ _ he=>⟨b _ a.defers,he⟩)
   | exact h
 | halt x w'=>cases x <;> simp only [Oper.upon] at h ⊢ <;> exact h
theorem P3 {g t:Nat} (hok:iO ops g t=true):∀ (fuel:Nat) (c:Array Bool) (a:Act) (w:World),c.getD g true=true→a.tmps[t]?=some (.bool true)→wpAny P md (KK ops g) Q fuel c a w→wpAny P md ops Q fuel c a w:=by
 unfold iO at hok
 rw [Bool.and_eq_true] at hok
 obtain ⟨hg,s⟩:=hok
 cases ho:ops[g]? with
 | none=>rw [ho] at hg; cases hg
 | some og=>
 rw [ho] at hg
 have z:og.dst=some t:=eq_of_beq hg
 have q:∀ j o,ops[j]?=some o→j≠g→o.dst≠some t:=fun j o u l=>by
  have y:=(Array.getElem?_eq_some_iff.1 u).1
  have f:=List.all_eq_true.1 s j (List.mem_range.2 y)
  rw [Array.getD_eq_getD_getElem?,u,Bool.or_eq_true] at f
  rcases f with f | f
  ·exact absurd (Nat.eq_of_beq_eq_true f) l
  intro e
  rw [Option.getD_some,e] at f
  simp at f
 have hy:∀ a:Act,yielded (KK ops g) a.tmps=yielded ops a.tmps:=fun a=>by
  funext j
  unfold yielded
  rw [PJ]
  cases ops[j]? <;> rfl
 have hw:∀ (o:Oper) (a:Act),a.tmps[t]?=some (.bool true)→Region.wanted (TZ g o) (yielded ops a.tmps)=Region.wanted o (yielded ops a.tmps):=fun o a ha=>by
  have x:yielded ops a.tmps g=some true:=by
   unfold yielded
   rw [ho]
   show (match ((some og:Option Oper).bind (·.dst)).bind (a.tmps[·]?) with
    | some (.bool b)=>some b
    | _=>none)=some true
   rw [Option.bind_some,z,Option.bind_some,ha]
  unfold Region.wanted TZ
  cases hgd:o.guard with
  | none=>rfl
  | some p=>
   obtain ⟨j,b⟩:=p
   cases b with
   | false=>rfl
   | true=>
    simp only
    cases u:Nat.beq j g
    ·rfl
    rw [Nat.eq_of_beq_eq_true u,x]
    rfl
 have m:∀ (a:Act) (o:Oper) (v:Value) (d:List Deferred),o.dst≠some t→a.tmps[t]?=some (.bool true)→({ a with defers:=d }.put o.dst v:Act).tmps[t]?=some (.bool true):=fun a o v d l ha=>by
  unfold Act.put
  cases hd:o.dst with
  | none=>exact ha
  | some k=>
   have hk:k≠t:=fun e=>l (by rw [hd,e])
   simp only [Array.getElem?_setIfInBounds,if_neg hk]
   exact ha
 intro fuel
 induction fuel with
 | zero=>intro c a w _ _ h; exact ⟨by rw [← ML g]; exact h.1,h.2⟩
 | succ fuel ih=>
  intro c a w hl ha h
  refine ⟨fun hr=>h.1 (by rw [ML]; exact hr),fun i hi=>?_⟩
  have f:=h.2 i (by rw [ML]; exact hi)
  have r:i≠g:=fun e=>by
   obtain ⟨h0,_⟩:=mem_ready.1 hi
   rw [e,hl] at h0
   cases h0
  have n:(c.setIfInBounds i true).getD g true=true:=by
   rw [Array.getD_eq_getD_getElem?,Array.getElem?_setIfInBounds,if_neg r,← Array.getD_eq_getD_getElem?]
   exact hl
  unfold wpOp at f ⊢
  rw [hy,PJ] at f
  cases hoi:ops[i]? with
  | none=>
   rw [hoi] at f
   exact ih _ a w n ha f
  | some o=>
   rw [hoi] at f
   simp only [Option.map_some] at f ⊢
   rw [hw o a ha] at f
   have l:=q i o hoi r
   split
   ·rename_i hwt
    rw [if_pos hwt] at f
    refine f.imp (fun h2=>?_) (fun h2=>h2)
    have h3:o.wp P a w (wpAny P md (KK ops g) Q fuel (c.setIfInBounds i true)) Q:=h2
    have h4:=oJ (I:=fun a'=>a'.tmps[t]?=some (.bool true)) (fun v d=>m a o v d l ha) h3
    exact Oper.wp_mono (fun a' w' ⟨k1,k2⟩=>ih _ a' w' n k1 k2) h4
   rename_i hwt
   rw [if_neg hwt] at f
   exact ih _ _ w n (m a o undef a.defers l ha) f
end
attribute [local irreducible] BD BP AC AD AF Ar AZ AM Aw Bk C6 BV BO At Fr
theorem S1 {w w':World} (h:w'=w):Below (ε w) w w':=h ▸ Below.refl _ _
theorem IA {x y X Y:Int} (hx:-X≤x) (b:x≤X) (c:0≤y) (a:y≤Y) (d:0≤X):-(X * Y)≤x * y∧x * y≤X * Y:=by
 have f:=Int.mul_le_mul_of_nonneg_right b c
 have h2:=Int.mul_le_mul_of_nonneg_left a d
 have e:=Int.mul_le_mul_of_nonneg_right hx c
 rw [Int.neg_mul] at e
 omega
theorem C1 {n d:Int} (h:AV n d=true):1≤d∧d≤1000000∧-1000000000000≤n∧n≤1000000000000:=by
 have:=of_decide_eq_true h
 omega
def Fk (neg:Bool) (n1 d1 n2 d2:Nat):Int×Int×Int:=cond (decide ((n1 / Nat.gcd n1 d2) * (n2 / Nat.gcd n2 d1) < 18446744073709551616) && decide ((d1 / Nat.gcd n2 d1) * (d2 / Nat.gcd n1 d2) < 18446744073709551616)) (Li neg ((n1 / Nat.gcd n1 d2) * (n2 / Nat.gcd n2 d1)) ((d1 / Nat.gcd n2 d1) * (d2 / Nat.gcd n1 d2))) (0,0,4)
noncomputable def Zs:Code:=Tryz.f117.body.getD .skip
def r4:=ν [.code Zs]
def rz:=Ω r4
def ry:=Al 2 (AC rz)
def rv:=Al 3 (AM ry)
def ru:=Al 4 (AM rv)
def bX:=AI ru
def ACr:=Ξ bX
def rt:=Ψ bX
def ACq:=Ω rt
theorem Na (neg:Bool) (f b d a:Nat) (w:World) (h1:f≤18446744073709551615) (h2:b≤18446744073709551615) (h3:d≤18446744073709551615) (h4:a≤18446744073709551615) (p1:0 < b) (p2:0 < a):Calls Tryz.prog 117 ([ξ neg,.int .u64 (f:Int),.int .u64 (b:Int),.int .u64 (d:Int),.int .u64 (a:Int)]:List Value).toArray w fun e w'=>e=.returned (DT (Fk neg f b d a))∧Below (ε w) w w':=by
 refine AS (fn:=Tryz.f117) (c:=Zs) (n:=57) ?_
 have K1:=Wk.start w
 refine Ah r4 [ι (ε w) [δ 0,δ 0] 41] K1 [] fun w1 K2=>?_
 refine BA (OY f a w1 h1 h4) fun en w2 l=>?_
 obtain ⟨rfl,k,rfl⟩:=l
 refine ⟨_,rfl,?_⟩
 have K3:=K2.below (GB (Below.refl _ _) k)
 refine AB rz K3 [] fun w3 K4=>?_
 refine BA (OY d b w3 h3 h2) fun en w4 l=>?_
 obtain ⟨rfl,k2,rfl⟩:=l
 refine ⟨_,rfl,?_⟩
 have K5:=K4.below (GB (Below.refl _ _) k2)
 unfold Fk
 have hg:0 < Nat.gcd f a:=Nat.gcd_pos_of_pos_right _ p2
 have l:0 < Nat.gcd d b:=Nat.gcd_pos_of_pos_right _ p1
 have r:0 < b / Nat.gcd d b:=Nat.div_pos (Nat.le_of_dvd p1 (Nat.gcd_dvd_right _ _)) l
 have q:0 < a / Nat.gcd f a:=Nat.div_pos (Nat.le_of_dvd p2 (Nat.gcd_dvd_right _ _)) hg
 generalize Nat.gcd f a=g at hg q ⊢
 generalize Nat.gcd d b=h at l r ⊢
 have b1:=Nat.div_le_self f g
 have b2:=Nat.div_le_self d h
 have b3:=Nat.div_le_self b h
 have b4:=Nat.div_le_self a g
 refine As 2 ry K5 [] fun w5 K6=>?_
 refine Av K6 [] [⟨2,[(25,.int .u64 (f:Int)),(26,.int .u64 (g:Int))],.int .u64 ((f / g:Nat):Int),true⟩,⟨5,[(28,.int .u64 (d:Int)),(29,.int .u64 (h:Int))],.int .u64 ((d / h:Nat):Int),true⟩,⟨6,[(27,.int .u64 ((f / g:Nat):Int)),(30,.int .u64 ((d / h:Nat):Int))],.tuple #[.int .u64 (((f / g) * (d / h) / 18446744073709551616:Nat):Int),.int .u64 (((f / g) * (d / h) % 18446744073709551616:Nat):Int)],true⟩] K6.G (fun sp i=>?_) fun w6 E6 K7=>?_
 ·simp only [List.mem_cons,List.not_mem_nil,or_false] at i
  rcases i with rfl | rfl | rfl
  ·exact BQ fun _ E u _=>Ie (T:=164) (T':=164) (x:=.tmp 25) (y:=.tmp 26) (by kernel_rfl) (by kernel_rfl) (by kernel_rfl) hg h1
  ·exact BQ fun _ E u _=>Ie (T:=164) (T':=164) (x:=.tmp 28) (y:=.tmp 29) (by kernel_rfl) (by kernel_rfl) (by kernel_rfl) l h3
  exact AY 146 [.tmp 27,.tmp 30] _ (fun _=>by kernel_rfl) fun hc u hu=>AQ hu ((Tryz.bits_Mul64 (f / g) (d / h) (by omega) (by omega) u).mono fun e w' s=>⟨s.1,S1 s.2⟩)
 refine As 3 rv K7 [] fun w7 K8=>?_
 refine Av K8 [] [⟨2,[(35,.int .u64 (b:Int)),(36,.int .u64 (h:Int))],.int .u64 ((b / h:Nat):Int),true⟩,⟨5,[(38,.int .u64 (a:Int)),(39,.int .u64 (g:Int))],.int .u64 ((a / g:Nat):Int),true⟩,⟨6,[(37,.int .u64 ((b / h:Nat):Int)),(40,.int .u64 ((a / g:Nat):Int))],.tuple #[.int .u64 (((b / h) * (a / g) / 18446744073709551616:Nat):Int),.int .u64 (((b / h) * (a / g) % 18446744073709551616:Nat):Int)],true⟩] K8.G (fun sp i=>?_) fun w8 E8 K9=>?_
 ·simp only [List.mem_cons,List.not_mem_nil,or_false] at i
  rcases i with rfl | rfl | rfl
  ·exact BQ fun _ E u _=>Ie (T:=164) (T':=164) (x:=.tmp 35) (y:=.tmp 36) (by kernel_rfl) (by kernel_rfl) (by kernel_rfl) l h2
  ·exact BQ fun _ E u _=>Ie (T:=164) (T':=164) (x:=.tmp 38) (y:=.tmp 39) (by kernel_rfl) (by kernel_rfl) (by kernel_rfl) hg h4
  exact AY 146 [.tmp 37,.tmp 40] _ (fun _=>by kernel_rfl) fun hc u hu=>AQ hu ((Tryz.bits_Mul64 (b / h) (a / g) (by omega) (by omega) u).mono fun e w' s=>⟨s.1,S1 s.2⟩)
 have hD:0 < (b / h) * (a / g):=Nat.mul_pos r q
 generalize (f / g) * (d / h)=N at *
 generalize (b / h) * (a / g)=D at *
 refine As 4 ru K9 [] fun w9 z=>?_
 refine Av z [] [] z.G (fun sp i=>by cases i) fun g0 h0 b0=>?_
 refine AB bX b0 [] fun e0 v=>?_
 refine AG (cond (((N / 18446744073709551616:Nat):Int) != 0) true (((D / 18446744073709551616:Nat):Int) != 0)) (fun o=>?_) (fun o=>?_)
 ·have hc:(decide (N < 18446744073709551616) && decide (D < 18446744073709551616))=false:=by
   rw [Bool.and_eq_false_iff,decide_eq_false_iff_not,decide_eq_false_iff_not]
   by_cases m:N < 18446744073709551616
   ·rw [Nat.div_eq_of_lt m] at o
    have c2:((D / 18446744073709551616:Nat):Int)≠0:=by simpa using o
    omega
   exact .inl m
  refine AB ACr v [(0,0)] fun p j=>?_
  exact AK j (0,0) (.tuple #[ψ [δ 0,δ 0],δ 4]) ⟨by rw [hc]; rfl,j.B⟩
 have m:N < 18446744073709551616∧D < 18446744073709551616:=by
  cases e1:(((N / 18446744073709551616:Nat):Int) != 0) with
  | true=>rw [e1] at o; cases o
  | false=>
   rw [e1] at o
   have e2:((N / 18446744073709551616:Nat):Int)=0:=by simpa using e1
   have c2:((D / 18446744073709551616:Nat):Int)=0:=by simpa using o
   omega
 have hc:(decide (N < 18446744073709551616) && decide (D < 18446744073709551616))=true:=by rw [decide_eq_true m.1,decide_eq_true m.2]; rfl
 refine AB rt v [] fun p j=>?_
 refine AP j (XV neg (N % 18446744073709551616) (D % 18446744073709551616) p (by omega) (by omega) (by omega)) fun d0 a0=>?_
 refine Am ACq a0 [(0,0)] fun c0 t=>?_
 exact AK t (0,0) (DT (Li neg (N % 18446744073709551616) (D % 18446744073709551616))) ⟨by rw [hc,Nat.mod_eq_of_lt m.1,Nat.mod_eq_of_lt m.2]; rfl,t.B⟩
def FF (a b c d:Int):Int×Int×Int:=cond (cond (!(AV a b)) true (!(AV c d))) (0,0,1) (KZ (a * d + c * b) (b * d))
noncomputable def Z0:Code:=Tryz.f88.body.getD .skip
def sM:=Al 1 [.code Z0]
def cB:=AI sM
def ADB:=Ξ cB
def sL:=Ψ cB
def ADA:=Ω sL
theorem YE (a b c d:Int) (w:World):Calls Tryz.prog 88 ([ψ [δ a,δ b],ψ [δ c,δ d]]:List Value).toArray w fun e w'=>e=.returned (DT (FF a b c d))∧Below (ε w) w w':=by
 refine AS (fn:=Tryz.f88) (c:=Z0) (n:=34) ?_
 have K1:=Wk.start w
 refine CC 1 sM [ι (ε w) [δ a,δ b] 41,ι (ε w + 1) [δ c,δ d] 41,ι (ε w + 2) [δ 0,δ 0] 41] K1 [] fun w1 o=>?_
 refine Av o [(0,0,0),(4,1,0)] [⟨1,[(6,ψ [δ a,δ b])],ξ (AV a b),true⟩,⟨5,[(10,ψ [δ c,δ d])],ξ (AV c d),(!(!(AV a b))) && true⟩] o.G (fun sp f=>?_) fun w2 E2 z=>?_
 ·rcases List.mem_cons.1 f with rfl | f
  ·exact AY 63 [.tmp 6] _ (fun _=>by kernel_rfl) fun hc u hu=>AQ hu (Bt a b u)
  obtain rfl:=List.mem_singleton.1 f
  exact AY 63 [.tmp 10] _ (fun _=>by kernel_rfl) fun hc u hu=>AQ hu (Bt c d u)
 unfold FF
 refine AB cB z [] fun w3 m=>?_
 refine AG (cond (!(AV a b)) true (!(AV c d))) (fun g=>?_) (fun g=>?_)
 ·refine AB ADB m [(2,0)] fun i h=>?_
  exact AK h (2,0) (.tuple #[ψ [δ 0,δ 0],δ 1]) ⟨by rw [g]; rfl,h.B⟩
 have hv:AV a b=true∧AV c d=true:=by
  cases h1:AV a b <;> cases h2:AV c d <;> rw [h1,h2] at g <;> first | exact ⟨rfl,rfl⟩ | cases g
 obtain ⟨a1,k,a3,a4⟩:=C1 hv.1
 obtain ⟨c2,j,t,s⟩:=C1 hv.2
 refine AB sL m [(0,0),(1,1),(1,0),(0,1),(0,1),(1,1)] fun i h=>?_
 have m1:=IA (x:=a) (y:=d) (X:=1000000000000) (Y:=1000000) a3 a4 (by omega) j (by decide)
 have m2:=IA (x:=c) (y:=b) (X:=1000000000000) (Y:=1000000) t s (by omega) k (by decide)
 have m3:=IA (x:=b) (y:=d) (X:=1000000) (Y:=1000000) (by omega) k (by omega) j (by decide)
 have r:IntKind.i64.wrap (IntKind.i64.wrap (a * d) + IntKind.i64.wrap (c * b))=a * d + c * b:=by rw [IntWalk.i64_in (a * d) (by omega),IntWalk.i64_in (c * b) (by omega),IntWalk.i64_in _ (by omega)]
 have q:IntKind.i64.wrap (b * d)=b * d:=IntWalk.i64_in _ (by omega)
 have p:=Pa (a * d + c * b) (b * d) i (by omega) (by omega) (by omega) (by omega)
 refine AP h (args:=[δ (IntKind.i64.wrap (IntKind.i64.wrap (a * d) + IntKind.i64.wrap (c * b))),δ (IntKind.i64.wrap (b * d))]) (by rw [r,q]; exact p) fun w5 v=>?_
 refine Am ADA v [(2,0)] fun w6 l=>?_
 exact AK l (2,0) (DT (KZ (a * d + c * b) (b * d))) ⟨by rw [g]; rfl,l.B⟩
def PK (a b c d:Int):Int×Int×Int:=cond (cond (!(AV a b)) true (!(AV c d))) (0,0,1) (KZ (a * d - c * b) (b * d))
noncomputable def Zq:Code:=Tryz.f89.body.getD .skip
def ro:=Al 1 [.code Zq]
def bV:=AI ro
def ACn:=Ξ bV
def rl:=Ψ bV
def ACm:=Ω rl
theorem pe (a b c d:Int) (w:World):Calls Tryz.prog 89 ([ψ [δ a,δ b],ψ [δ c,δ d]]:List Value).toArray w fun e w'=>e=.returned (DT (PK a b c d))∧Below (ε w) w w':=by
 refine AS (fn:=Tryz.f89) (c:=Zq) (n:=34) ?_
 have K1:=Wk.start w
 refine CC 1 ro [ι (ε w) [δ a,δ b] 41,ι (ε w + 1) [δ c,δ d] 41,ι (ε w + 2) [δ 0,δ 0] 41] K1 [] fun w1 o=>?_
 refine Av o [(0,0,0),(4,1,0)] [⟨1,[(6,ψ [δ a,δ b])],ξ (AV a b),true⟩,⟨5,[(10,ψ [δ c,δ d])],ξ (AV c d),(!(!(AV a b))) && true⟩] o.G (fun sp f=>?_) fun w2 E2 z=>?_
 ·rcases List.mem_cons.1 f with rfl | f
  ·exact AY 63 [.tmp 6] _ (fun _=>by kernel_rfl) fun hc u hu=>AQ hu (Bt a b u)
  obtain rfl:=List.mem_singleton.1 f
  exact AY 63 [.tmp 10] _ (fun _=>by kernel_rfl) fun hc u hu=>AQ hu (Bt c d u)
 unfold PK
 refine AB bV z [] fun w3 m=>?_
 refine AG (cond (!(AV a b)) true (!(AV c d))) (fun g=>?_) (fun g=>?_)
 ·refine AB ACn m [(2,0)] fun i h=>?_
  exact AK h (2,0) (.tuple #[ψ [δ 0,δ 0],δ 1]) ⟨by rw [g]; rfl,h.B⟩
 have hv:AV a b=true∧AV c d=true:=by
  cases h1:AV a b <;> cases h2:AV c d <;> rw [h1,h2] at g <;> first | exact ⟨rfl,rfl⟩ | cases g
 obtain ⟨a1,k,a3,a4⟩:=C1 hv.1
 obtain ⟨c2,j,t,s⟩:=C1 hv.2
 refine AB rl m [(0,0),(1,1),(1,0),(0,1),(0,1),(1,1)] fun i h=>?_
 have m1:=IA (x:=a) (y:=d) (X:=1000000000000) (Y:=1000000) a3 a4 (by omega) j (by decide)
 have m2:=IA (x:=c) (y:=b) (X:=1000000000000) (Y:=1000000) t s (by omega) k (by decide)
 have m3:=IA (x:=b) (y:=d) (X:=1000000) (Y:=1000000) (by omega) k (by omega) j (by decide)
 have r:IntKind.i64.wrap (IntKind.i64.wrap (a * d) - IntKind.i64.wrap (c * b))=a * d - c * b:=by rw [IntWalk.i64_in (a * d) (by omega),IntWalk.i64_in (c * b) (by omega),IntWalk.i64_in _ (by omega)]
 have q:IntKind.i64.wrap (b * d)=b * d:=IntWalk.i64_in _ (by omega)
 have p:=Pa (a * d - c * b) (b * d) i (by omega) (by omega) (by omega) (by omega)
 refine AP h (args:=[δ (IntKind.i64.wrap (IntKind.i64.wrap (a * d) - IntKind.i64.wrap (c * b))),δ (IntKind.i64.wrap (b * d))]) (by rw [r,q]; exact p) fun w5 v=>?_
 refine Am ACm v [(2,0)] fun w6 l=>?_
 exact AK l (2,0) (DT (KZ (a * d - c * b) (b * d))) ⟨by rw [g]; rfl,l.B⟩
def Pc (a b c d:Int):Int×Int×Int:=cond (cond (!(AV a b)) true (!(AV c d))) (0,0,1) (Fk (decide (a < 0) != decide (c < 0)) a.natAbs b.natAbs c.natAbs d.natAbs)
noncomputable def Zn:Code:=Tryz.f90.body.getD .skip
def rf:=Al 1 [.code Zn]
def bO:=AI rf
def ACe:=Ξ bO
def re:=Al 4 (AF bO)
def ACd:=AI re
theorem py (a b c d:Int) (w:World):Calls Tryz.prog 90 ([ψ [δ a,δ b],ψ [δ c,δ d]]:List Value).toArray w fun e w'=>e=.returned (DT (Pc a b c d))∧Below (ε w) w w':=by
 refine AS (args:=[ψ [δ a,δ b],ψ [δ c,δ d]]) (fn:=Tryz.f90) (c:=Zn) (n:=39) ?_
 have s:=Wk.start w
 refine CC 1 rf [ι (ε w) [δ a,δ b] 41,ι (ε w + 1) [δ c,δ d] 41,ι (ε w + 2) [δ 0,δ 0] 41] s [] fun j o=>?_
 refine Av o [(0,0,0),(4,1,0)] [⟨1,[(7,ψ [δ a,δ b])],ξ (AV a b),true⟩,⟨5,[(11,ψ [δ c,δ d])],ξ (AV c d),(!(!(AV a b))) && true⟩] o.G (fun p f=>?_) fun i E2 r=>?_
 ·rcases List.mem_cons.1 f with rfl | f
  ·exact AY 63 [.tmp 7] [ψ [δ a,δ b]] (fun _=>by kernel_rfl) fun hc u hu=>AQ hu (Bt a b u)
  obtain rfl:=List.mem_singleton.1 f
  exact AY 63 [.tmp 11] [ψ [δ c,δ d]] (fun _=>by kernel_rfl) fun hc u hu=>AQ hu (Bt c d u)
 unfold Pc
 refine AB bO r [] fun w3 m=>?_
 refine AG (cond (!(AV a b)) true (!(AV c d))) (fun g=>?_) (fun g=>?_)
 ·refine AB ACe m [(2,0)] fun z l=>?_
  exact AK l (2,0) (.tuple #[ψ [δ 0,δ 0],δ 1]) ⟨by rw [g]; rfl,l.B⟩
 have hv:AV a b=true∧AV c d=true:=by
  cases h1:AV a b <;> cases h2:AV c d <;> rw [h1,h2] at g <;> first | exact ⟨rfl,rfl⟩ | cases g
 obtain ⟨a1,a2,a3,a4⟩:=C1 hv.1
 obtain ⟨c2,c3,c4,c5⟩:=C1 hv.2
 have j:IntKind.u64.wrap b=(b.natAbs:Int):=by rw [IntKind.wrap_u64]; omega
 have i:IntKind.u64.wrap d=(d.natAbs:Int):=by rw [IntKind.wrap_u64]; omega
 refine As 4 re m [(0,0),(1,0)] fun y k=>?_
 refine GD k [0,1,2,3,4,5,6,7,8,9,10,11,12,13,14,15] [(2,0,0),(5,0,1),(8,1,0),(11,1,1)] [⟨3,[(25,δ a)],.int .u64 (a.natAbs:Int),true⟩,⟨9,[(31,δ c)],.int .u64 (c.natAbs:Int),true⟩,⟨13,[(23,ξ (decide (a < 0) != decide (c < 0))),(26,.int .u64 (a.natAbs:Int)),(29,.int .u64 (IntKind.u64.wrap b)),(32,.int .u64 (c.natAbs:Int)),(35,.int .u64 (IntKind.u64.wrap d))],DT (Fk (decide (a < 0) != decide (c < 0)) a.natAbs b.natAbs c.natAbs d.natAbs),true⟩] [(16,2,0),(17,0,0)] k.G (fun p f=>?_) fun t x q=>?_
 ·simp only [List.mem_cons,List.not_mem_nil,or_false] at f
  rcases f with rfl | rfl | rfl
  ·exact AY 95 [.tmp 25] [δ a] (fun _=>by kernel_rfl) fun hc u hu=>AQ hu (JB a u (by omega) (by omega))
  ·exact AY 95 [.tmp 31] [δ c] (fun _=>by kernel_rfl) fun hc u hu=>AQ hu (JB c u (by omega) (by omega))
  exact AY 117 [.tmp 23,.tmp 26,.tmp 29,.tmp 32,.tmp 35] [ξ (decide (a < 0) != decide (c < 0)),.int .u64 (a.natAbs:Int),.int .u64 (IntKind.u64.wrap b),.int .u64 (c.natAbs:Int),.int .u64 (IntKind.u64.wrap d)] (fun _=>by kernel_rfl) fun hc u hu=>AQ hu (by rw [j,i]; exact Na (decide (a < 0) != decide (c < 0)) a.natAbs b.natAbs c.natAbs d.natAbs u (by omega) (by omega) (by omega) (by omega) (by omega) (by omega))
 refine AB ACd q [] fun v h=>?_
 exact AK h (2,0) (DT (Fk (decide (a < 0) != decide (c < 0)) a.natAbs b.natAbs c.natAbs d.natAbs)) ⟨by rw [g]; rfl,h.B⟩
def Ks (a b c d:Int):Int×Int×Int:=cond (cond (!(AV a b)) true (!(AV c d))) (0,0,1) (cond (c == 0) (0,0,5) (Fk (decide (a < 0) != decide (c < 0)) a.natAbs b.natAbs d.natAbs c.natAbs))
noncomputable def Zy:Code:=Tryz.f91.body.getD .skip
def sI:=Al 1 [.code Zy]
def bo:=AI sI
def AC5:=Ξ bo
def bm:=Ψ bo
def AC4:=Ξ bm
def sH:=Al 6 (AF bm)
def AC3:=AI sH
theorem Xg (a b c d:Int) (w:World):Calls Tryz.prog 91 ([ψ [δ a,δ b],ψ [δ c,δ d]]:List Value).toArray w fun e w'=>e=.returned (DT (Ks a b c d))∧Below (ε w) w w':=by
 refine AS (args:=[ψ [δ a,δ b],ψ [δ c,δ d]]) (fn:=Tryz.f91) (c:=Zy) (n:=43) ?_
 have x:=Wk.start w
 refine CC 1 sI [ι (ε w) [δ a,δ b] 41,ι (ε w + 1) [δ c,δ d] 41,ι (ε w + 2) [δ 0,δ 0] 41] x [] fun l q=>?_
 refine Av q [(0,0,0),(4,1,0)] [⟨1,[(7,ψ [δ a,δ b])],ξ (AV a b),true⟩,⟨5,[(11,ψ [δ c,δ d])],ξ (AV c d),(!(!(AV a b))) && true⟩] q.G (fun s f=>?_) fun k E2 v=>?_
 ·rcases List.mem_cons.1 f with rfl | f
  ·exact AY 63 [.tmp 7] [ψ [δ a,δ b]] (fun _=>by kernel_rfl) fun hc u hu=>AQ hu (Bt a b u)
  obtain rfl:=List.mem_singleton.1 f
  exact AY 63 [.tmp 11] [ψ [δ c,δ d]] (fun _=>by kernel_rfl) fun hc u hu=>AQ hu (Bt c d u)
 unfold Ks
 refine AB bo v [] fun w3 p=>?_
 refine AG (cond (!(AV a b)) true (!(AV c d))) (fun g=>?_) (fun g=>?_)
 ·refine AB AC5 p [(2,0)] fun r h=>?_
  exact AK h (2,0) (.tuple #[ψ [δ 0,δ 0],δ 1]) ⟨by rw [g]; rfl,h.B⟩
 have hv:AV a b=true∧AV c d=true:=by
  cases h1:AV a b <;> cases h2:AV c d <;> rw [h1,h2] at g <;> first | exact ⟨rfl,rfl⟩ | cases g
 obtain ⟨a1,a2,a3,a4⟩:=C1 hv.1
 obtain ⟨c2,c3,c4,c5⟩:=C1 hv.2
 refine AB bm p [(1,0)] fun r h=>?_
 refine AG (c == 0) (fun j=>?_) (fun j=>?_)
 ·refine AB AC4 h [(2,0)] fun w5 o=>?_
  exact AK o (2,0) (.tuple #[ψ [δ 0,δ 0],δ 5]) ⟨by rw [g,j]; rfl,o.B⟩
 have hz:c≠0:=by simpa using j
 have l:IntKind.u64.wrap b=(b.natAbs:Int):=by rw [IntKind.wrap_u64]; omega
 have k:IntKind.u64.wrap d=(d.natAbs:Int):=by rw [IntKind.wrap_u64]; omega
 refine As 6 sH h [(0,0),(1,0)] fun w6 m=>?_
 refine GD m [0,1,2,3,4,5,6,7,8,9,10,11,12,13,14,15] [(2,0,0),(5,0,1),(8,1,1),(11,1,0)] [⟨3,[(29,δ a)],.int .u64 (a.natAbs:Int),true⟩,⟨12,[(38,δ c)],.int .u64 (c.natAbs:Int),true⟩,⟨13,[(27,ξ (decide (a < 0) != decide (c < 0))),(30,.int .u64 (a.natAbs:Int)),(33,.int .u64 (IntKind.u64.wrap b)),(36,.int .u64 (IntKind.u64.wrap d)),(39,.int .u64 (c.natAbs:Int))],DT (Fk (decide (a < 0) != decide (c < 0)) a.natAbs b.natAbs d.natAbs c.natAbs),true⟩] [(16,2,0),(17,0,0)] m.G (fun s f=>?_) fun y w7 t=>?_
 ·simp only [List.mem_cons,List.not_mem_nil,or_false] at f
  rcases f with rfl | rfl | rfl
  ·exact AY 95 [.tmp 29] [δ a] (fun _=>by kernel_rfl) fun hc u hu=>AQ hu (JB a u (by omega) (by omega))
  ·exact AY 95 [.tmp 38] [δ c] (fun _=>by kernel_rfl) fun hc u hu=>AQ hu (JB c u (by omega) (by omega))
  exact AY 117 [.tmp 27,.tmp 30,.tmp 33,.tmp 36,.tmp 39] [ξ (decide (a < 0) != decide (c < 0)),.int .u64 (a.natAbs:Int),.int .u64 (IntKind.u64.wrap b),.int .u64 (IntKind.u64.wrap d),.int .u64 (c.natAbs:Int)] (fun _=>by kernel_rfl) fun hc u hu=>AQ hu (by rw [l,k]; exact Na (decide (a < 0) != decide (c < 0)) a.natAbs b.natAbs d.natAbs c.natAbs u (by omega) (by omega) (by omega) (by omega) (by omega) (by omega))
 refine AB AC3 t [] fun z i=>?_
 exact AK i (2,0) (DT (Fk (decide (a < 0) != decide (c < 0)) a.natAbs b.natAbs d.natAbs c.natAbs)) ⟨by rw [g,j]; rfl,i.B⟩
def EB (a b c d:Int):Int:=cond (cond (!(AV a b)) true (!(AV c d))) 0 (cond (decide (a * d < c * b)) (-1) (cond (decide (c * b < a * d)) 1 0))
noncomputable def Zz:Code:=Tryz.f93.body.getD .skip
def sK:=Al 1 [.code Zz]
def bx:=AI sK
def AC9:=Ξ bx
def sJ:=Al 3 (AF bx)
def bv:=AI sJ
def AC8:=Ξ bv
def bq:=Ψ bv
def AC7:=Ξ bq
def AC6:=Ψ bq
theorem IZ (a b c d:Int) (w:World):Calls Tryz.prog 93 ([ψ [δ a,δ b],ψ [δ c,δ d]]:List Value).toArray w fun e w'=>e=.returned (δ (EB a b c d))∧Below (ε w) w w':=by
 refine AS (fn:=Tryz.f93) (c:=Zz) (n:=33) ?_
 have K1:=Wk.start w
 refine CC 1 sK [ι (ε w) [δ a,δ b] 41,ι (ε w + 1) [δ c,δ d] 41] K1 [] fun w1 r=>?_
 refine Av r [(0,0,0),(4,1,0)] [⟨1,[(7,ψ [δ a,δ b])],ξ (AV a b),true⟩,⟨5,[(11,ψ [δ c,δ d])],ξ (AV c d),(!(!(AV a b))) && true⟩] r.G (fun z f=>?_) fun w2 E2 K3=>?_
 ·rcases List.mem_cons.1 f with rfl | f
  ·exact AY 63 [.tmp 7] _ (fun _=>by kernel_rfl) fun hc u hu=>AQ hu (Bt a b u)
  obtain rfl:=List.mem_singleton.1 f
  exact AY 63 [.tmp 11] _ (fun _=>by kernel_rfl) fun hc u hu=>AQ hu (Bt c d u)
 unfold EB
 refine AB bx K3 [] fun w3 q=>?_
 refine AG (cond (!(AV a b)) true (!(AV c d))) (fun g=>?_) (fun g=>?_)
 ·refine AB AC9 q [] fun v k=>?_
  exact AK k (0,0) (δ 0) ⟨by rw [g]; rfl,k.B⟩
 have hv:AV a b=true∧AV c d=true:=by
  cases h1:AV a b <;> cases h2:AV c d <;> rw [h1,h2] at g <;> first | exact ⟨rfl,rfl⟩ | cases g
 obtain ⟨a1,a2,a3,a4⟩:=C1 hv.1
 obtain ⟨c2,c3,c4,c5⟩:=C1 hv.2
 have m1:=IA (x:=a) (y:=d) (X:=1000000000000) (Y:=1000000) a3 a4 (by omega) c3 (by decide)
 have m2:=IA (x:=c) (y:=b) (X:=1000000000000) (Y:=1000000) c4 c5 (by omega) a2 (by decide)
 have o:IntKind.i64.wrap (a * d)=a * d:=IntWalk.i64_in _ (by omega)
 have m:IntKind.i64.wrap (c * b)=c * b:=IntWalk.i64_in _ (by omega)
 refine As 3 sJ q [] fun v k=>?_
 refine Av k [(1,0,0),(3,1,1),(6,1,0),(8,0,1)] [] k.G (fun z f=>by cases f) fun w5 E5 K6=>?_
 refine AB bv K6 [] fun w6 p=>?_
 refine AG (decide (IntKind.i64.wrap (a * d) < IntKind.i64.wrap (c * b))) (fun h=>?_) (fun h=>?_) <;> rw [o,m] at h
 ·refine AB AC8 p [] fun t j=>?_
  exact AK j (0,0) (δ (-1)) ⟨by rw [g,h]; rfl,j.B⟩
 refine AB bq p [] fun t j=>?_
 refine AG (decide (IntKind.i64.wrap (c * b) < IntKind.i64.wrap (a * d))) (fun l=>?_) (fun l=>?_) <;> rw [o,m] at l
 ·refine AB AC7 j [] fun s i=>?_
  exact AK i (0,0) (δ 1) ⟨by rw [g,h,l]; rfl,i.B⟩
 refine AB AC6 j [] fun s i=>?_
 exact AK i (0,0) (δ 0) ⟨by rw [g,h,l]; rfl,i.B⟩
def Ni (a b:Int):Int×Int×Int:=cond (!(AV a b)) (0,0,1) (-a,b,0)
noncomputable def Zu:Code:=Tryz.f92.body.getD .skip
def sC:=ν [.code Zu]
def bc:=Ω sC
def ACw:=Ξ bc
def ACv:=Ψ bc
theorem pu (a b:Int) (w:World):Calls Tryz.prog 92 ([ψ [δ a,δ b]]:List Value).toArray w fun e w'=>e=.returned (DT (Ni a b))∧Below (ε w) w w':=by
 refine AS (fn:=Tryz.f92) (c:=Zu) (n:=14) ?_
 have m:=Wk.start w
 refine Ah sC [ι (ε w) [δ a,δ b] 41,ι (ε w + 1) [δ 0,δ 0] 41] m [(0,0)] fun j l=>?_
 refine AP l (args:=[ψ [δ a,δ b]]) (Bt a b j) fun p k=>?_
 refine AB bc k [] fun o h=>?_
 unfold Ni
 refine AG (!(AV a b)) (fun g=>?_) (fun g=>?_)
 ·refine AB ACw h [(1,0)] fun i f=>?_
  exact AK f (1,0) (.tuple #[ψ [δ 0,δ 0],δ 1]) ⟨by rw [g]; rfl,f.B⟩
 obtain ⟨r,q,a3,a4⟩:=C1 (n:=a) (d:=b) (by simpa using g)
 refine Am ACv h [(0,0),(0,1),(1,0)] fun i f=>?_
 refine AK f (1,0) (.tuple #[ψ [δ (IntKind.i64.wrap (0 - a)),δ b],δ 0]) ⟨?_,f.B⟩
 rw [IntWalk.i64_in (0 - a) (by omega),Int.zero_sub,g]
 rfl
end
end Go.Proofs.YtkjbdagicjbjjaaGreat

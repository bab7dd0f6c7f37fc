/- Contracts of functions, part 13. -/
import Derived.Test.YtkjbdagicjbjjaaGreatTs12
set_option linter.all false
namespace Go.Proofs.YtkjbdagicjbjjaaGreat
noncomputable section
open Go.RowKit
set_option maxRecDepth 100000
set_option maxHeartbeats 1000000
attribute [local irreducible] BD BP AC AD AF Ar AZ AM Aw Bk C6 BV BO At Fr
def KU (p0:Int):Bool:=cond (decide (0≤p0)) (decide (p0≤6)) (false)
noncomputable def Zw:Code:=Tryz.f64.body.getD .skip
def sD:=Al 1 ([.code Zw])
def ACz:=AI sD
theorem YR (b:Int) (w:World):Calls Tryz.prog 64 ([δ b]:List Value).toArray w fun e w'=>e=.returned (ξ (KU b))∧Below (ε w) w w':=by
 refine AS (fn:=Tryz.f64) (c:=Zw) (n:=9) ?_
 have h:=Wk.start w
 refine As 1 sD h [] fun k d=>?_
 refine Av d [] [] d.G (fun l a=>by cases a) fun j m g=>?_
 refine AB ACz g [] fun i f=>?_
 exact AO f (0,0) _ (by unfold KU; rfl)
def Fe (p0:Int) (p1:Int) (p2:Bool) (p3:Int):Bool:=cond (p3 == 0) (!(p2)) (cond (p3 == 1) (p2) (cond (p3 == 2) (false) (cond (p3 == 3) (true) (cond (!(p1 == 0)) (decide (0 < p1)) (cond (p3 == 4) (p2) (cond (p3 == 5) (!(p2)) (!(Int.tmod p0 2 == 0))))))))
noncomputable def Zp:Code:=Tryz.f96.body.getD .skip
def bU:=ν ([.code Zp])
def ACl:=Ξ bU
def bT:=Ψ bU
def ACk:=Ξ bT
def bS:=Ψ bT
def ACj:=Ξ bS
def bR:=Ψ bS
def ACi:=Ξ bR
def bQ:=Ψ bR
def ACh:=Ξ bQ
def Ux:=Ψ bQ
def xm:=Ξ Ux
def Uw:=Ψ Ux
def xl:=Ξ Uw
def jB:=Al 17 (AF Uw)
def xk:=AI jB
theorem aZ (q p1:Int) (p:Bool) (g:Int) (w:World):Calls Tryz.prog 96 ([δ q,δ p1,ξ p,δ g]:List Value).toArray w fun e w'=>e=.returned (ξ (Fe q p1 p g))∧Below (ε w) w w':=by
 refine AS (fn:=Tryz.f96) (c:=Zp) (n:=36) ?_
 have K1:=Wk.start w
 refine AB bU K1 [] fun w1 K2=>?_
 refine AG (g == 0) (fun d=>?_) (fun d=>?_)
 ·refine AB ACl K2 [] fun w3 K3=>?_
  exact AO K3 (0,0) _ (by unfold Fe; rw [d] <;> rfl)
 refine AB bT K2 [] fun w4 K4=>?_
 refine AG (g == 1) (fun h=>?_) (fun h=>?_)
 ·refine AB ACk K4 [] fun w6 K5=>?_
  exact AO K5 (0,0) (ξ p) (by unfold Fe; rw [d,h] <;> rfl)
 refine AB bS K4 [] fun w7 K6=>?_
 refine AG (g == 2) (fun i=>?_) (fun i=>?_)
 ·refine AB ACj K6 [] fun w9 K7=>?_
  exact AO K7 (0,0) _ (by unfold Fe; rw [d,h,i] <;> rfl)
 refine AB bR K6 [] fun m0 K8=>?_
 refine AG (g == 3) (fun a=>?_) (fun a=>?_)
 ·refine AB ACi K8 [] fun l0 K9=>?_
  exact AO K9 (0,0) _ (by unfold Fe; rw [d,h,i,a] <;> rfl)
 refine AB bQ K8 [] fun k0 o=>?_
 refine AG (!(p1 == 0)) (fun b=>?_) (fun b=>?_)
 ·refine AB ACh o [] fun j0 a0=>?_
  exact AO a0 (0,0) _ (by unfold Fe; rw [d,h,i,a,b] <;> rfl)
 refine AB Ux o [] fun i0 m=>?_
 refine AG (g == 4) (fun f=>?_) (fun f=>?_)
 ·refine AB xm m [] fun h0 z=>?_
  exact AO z (0,0) (ξ p) (by unfold Fe; rw [d,h,i,a,b,f] <;> rfl)
 refine AB Uw m [] fun g0 l=>?_
 refine AG (g == 5) (fun j=>?_) (fun j=>?_)
 ·refine AB xl l [] fun e0 v=>?_
  exact AO v (0,0) _ (by unfold Fe; rw [d,h,i,a,b,f,j] <;> rfl)
 refine As 17 jB l [] fun d0 k=>?_
 refine Av k [] [⟨1,[(33,δ q)],δ (Int.tmod q 2),true⟩] k.G (fun sp r=>?_) fun c0 q0 t=>?_
 ·rw [List.mem_singleton.1 r]
  exact BQ fun hc E u _=>Mw (T:=3) (T':=3) (x:=.tmp 33) (y:=.const (δ 2)) (by kernel_rfl) (by kernel_rfl) (by kernel_rfl) (by omega)
 refine AB xk t [] fun b0 s=>?_
 exact AO s (0,0) _ (by unfold Fe; rw [d,h,i,a,b,f,j] <;> rfl)
def Ih (p0:Int):Bool:=!(p0 == p0)
noncomputable def Xp:Code:=Tryz.f118.body.getD .skip
def xn:=ν ([.code Xp])
theorem Rd (a:Int) (w:World):Calls Tryz.prog 118 ([δ a]:List Value).toArray w fun e w'=>e=.returned (ξ (Ih a))∧Below (ε w) w w':=by
 refine AS (fn:=Tryz.f118) (c:=Xp) (n:=6) ?_
 have d:=Wk.start w
 refine AB xn d [] fun f b=>?_
 exact AO b (0,0) _ (by unfold Ih; rfl)
def Ep (p0:Int) (p1:Int):Int:=cond (Ih p0) (cond (Ih p1) (0) (-1)) (cond (Ih p1) (1) (cond (decide (p0 < p1)) (-1) (cond (decide (p1 < p0)) (1) (0))))
noncomputable def Xq:Code:=Tryz.f97.body.getD .skip
def jD:=ν ([.code Xq])
def jC:=Ω jD
def U1:=Ω jC
def U0:=Ξ U1
def xr:=Ξ U0
def xq:=Ψ U0
def Uz:=Ψ U1
def xp:=Ξ Uz
def Uy:=Ψ Uz
def xo:=Ξ Uy
def Rx:=Ψ Uy
def wA:=Ξ Rx
def vz:=Ψ Rx
theorem gh (g p1:Int) (w:World):Calls Tryz.prog 97 ([δ g,δ p1]:List Value).toArray w fun e w'=>e=.returned (δ (Ep g p1))∧Below (ε w) w w':=by
 refine AS (fn:=Tryz.f97) (c:=Xq) (n:=20) ?_
 have K1:=Wk.start w
 refine AB jD K1 [] fun w1 K2=>?_
 refine AP K2 (Rd g w1) fun w2 K3=>?_
 refine AB jC K3 [] fun s K4=>?_
 refine AP K4 (Rd p1 s) fun w4 K5=>?_
 refine AB U1 K5 [] fun w5 r=>?_
 refine AG (Ih g) (fun d=>?_) (fun d=>?_)
 ·refine AB U0 r [] fun w7 q=>?_
  refine AG (Ih p1) (fun k=>?_) (fun k=>?_)
  ·refine AB xr q [] fun w9 K8=>?_
   exact AO K8 (0,0) _ (by unfold Ep; rw [d,k] <;> rfl)
  refine AB xq q [] fun b0 K9=>?_
  exact AO K9 (0,0) _ (by unfold Ep; rw [d,k] <;> rfl)
 refine AB Uz r [] fun a0 j=>?_
 refine AG (Ih p1) (fun a=>?_) (fun a=>?_)
 ·refine AB xp j [] fun z p=>?_
  exact AO p (0,0) _ (by unfold Ep; rw [d,a] <;> rfl)
 refine AB Uy j [] fun y i=>?_
 refine AG (decide (g < p1)) (fun b=>?_) (fun b=>?_)
 ·refine AB xo i [] fun x o=>?_
  exact AO o (0,0) _ (by unfold Ep; rw [d,a,b] <;> rfl)
 refine AB Rx i [] fun v h=>?_
 refine AG (decide (p1 < g)) (fun f=>?_) (fun f=>?_)
 ·refine AB wA h [] fun u m=>?_
  exact AO m (0,0) _ (by unfold Ep; rw [d,a,b,f] <;> rfl)
 refine AB vz h [] fun t l=>?_
 exact AO l (0,0) _ (by unfold Ep; rw [d,a,b,f] <;> rfl)
section
variable {P:Program} {o:Oper} {ρ:Operand→Value} {w:World}
theorem ma {T T':TypeId} {x y:Operand} {a b:Int} (hop:o.op=.binOp .quo T x y T') (hx:ρ x=δ a) (c:ρ y=δ b) (hb:b≠0):(execOp ρ o).run P w=.ok (.value (δ (IntKind.i64.wrap (a.tdiv b)))) w:=by
 unfold execOp
 simp [hop,hx,c,binOp,Op.intDiv,hb,eqGuard]
end
def JI (n d:Int):Int×Int:=cond (decide (n.tmod d < 0)) (n.tdiv d - 1,n.tmod d + d) (n.tdiv d,n.tmod d)
def MY (n d m:Int):Int:=cond (cond (!((JI n d).2 == 0)) (Fe (JI n d).1 (Ep (JI n d).2 (d - (JI n d).2)) (decide (0 < n)) m) false) ((JI n d).1 + 1) (JI n d).1
theorem vt {n d:Int} (hd:1≤d) (b:-2000000000000000000≤n) (a:n≤2000000000000000000):-2000000000000000000≤n.tdiv d∧n.tdiv d≤2000000000000000000:=by
 have h2:(n.tdiv d).natAbs≤n.natAbs:=Int.natAbs_tdiv_le_natAbs n d
 omega
theorem vr {n d:Int} (hd:1≤d):-d < n.tmod d∧n.tmod d < d:=⟨by have:=Int.lt_tmod_of_pos n (b:=d) (by omega); omega,Int.tmod_lt_of_pos n (by omega)⟩
noncomputable def Zr:Code:=Tryz.f65.body.getD .skip
def rr:=Al 1 [.code Zr]
def rp:=AI rr
def Tp:=Al 4 (AD rp)
def bW:=AI Tp
def ACp:=Ξ bW
def ACo:=Ψ bW
theorem W3 {R:Ending→World→Prop} (n d m q r:Int) (E:Nat→Value) (w0 w:World) (K:Wk w0 w [] [] []) (v:1≤d) (h2:d≤2000000000000000000) (t:-3000000000000000000≤q) (s:q≤3000000000000000000) (p:0≤r) (o:r < d) (hR:∀ w',Below (ε w0) w0 w'→R (.returned (δ (cond (cond (!(r == 0)) (Fe q (Ep r (d - r)) (decide (0 < n)) m) false) (q + 1) q))) w') :
  At Tryz.prog 65 R Tp (Fr 39 (BE E [(0,δ n),(1,δ d),(2,δ m),(7,δ q),(8,δ r)])) w:=by
 have h:IntKind.i64.wrap (d - r)=d - r:=IntWalk.i64_in _ (by omega)
 have g:IntKind.i64.wrap (q + 1)=q + 1:=IntWalk.i64_in _ (by omega)
 refine Av K [] [⟨8,[(26,δ r),(29,δ (IntKind.i64.wrap (d - r)))],δ (Ep r (d - r)),(!(r == 0)) && true⟩,⟨12,[(25,δ q),(30,δ (Ep r (d - r))),(32,ξ (decide (0 < n))),(33,δ m)],ξ (Fe q (Ep r (d - r)) (decide (0 < n)) m),(!(r == 0)) && true⟩] K.G (fun l a=>?_) fun k x i=>?_
 ·simp only [List.mem_cons,List.not_mem_nil,or_false] at a
  rcases a with rfl | rfl
  ·exact AY 97 [.tmp 26,.tmp 29] [δ r,δ (IntKind.i64.wrap (d - r))] (fun _=>by kernel_rfl) fun hc u hu=>AQ hu (by rw [h]; exact gh r (d - r) u)
  exact AY 96 [.tmp 25,.tmp 30,.tmp 32,.tmp 33] [δ q,δ (Ep r (d - r)),ξ (decide (0 < n)),δ m] (fun _=>by kernel_rfl) fun hc u hu=>AQ hu (aZ q (Ep r (d - r)) (decide (0 < n)) m u)
 refine AB bW i [] fun j e=>?_
 refine AG (cond (!(r == 0)) (Fe q (Ep r (d - r)) (decide (0 < n)) m) false) (fun c=>?_) (fun c=>?_) <;> rw [c] at hR
 ·refine AB ACp e [] fun f b=>?_
  refine AK b (0,0) (δ (IntKind.i64.wrap (q + 1))) ?_
  rw [g]
  exact hR _ b.B
 refine AB ACo e [] fun f b=>?_
 exact AK b (0,0) (δ q) (hR _ b.B)
theorem l6 (n d m:Int) (w:World) (r:-2000000000000000000≤n) (q:n≤2000000000000000000) (h2:1≤d) (k:d≤2000000000000000000):Calls Tryz.prog 65 ([δ n,δ d,δ m]:List Value).toArray w fun e w'=>e=.returned (δ (MY n d m))∧Below (ε w) w w':=by
 refine AS (fn:=Tryz.f65) (c:=Zr) (n:=39) ?_
 have t:=Wk.start w
 obtain ⟨b1,b2⟩:=vt (n:=n) h2 r q
 obtain ⟨b3,b4⟩:=vr (n:=n) h2
 have l:IntKind.i64.wrap (n.tdiv d)=n.tdiv d:=IntWalk.i64_in _ (by omega)
 refine As 1 rr t [] fun w1 p=>?_
 refine Av p [] [⟨2,[(9,δ n),(10,δ d)],δ (IntKind.i64.wrap (n.tdiv d)),true⟩,⟨5,[(12,δ n),(13,δ d)],δ (n.tmod d),true⟩] p.G (fun sp a=>?_) fun z E2 s=>?_
 ·rcases List.mem_cons.1 a with rfl | a
  ·exact BQ fun _ E u _=>ma (T:=3) (T':=3) (x:=.tmp 9) (y:=.tmp 10) (by kernel_rfl) (by kernel_rfl) (by kernel_rfl) (by omega)
  obtain rfl:=List.mem_singleton.1 a
  exact BQ fun _ E u _=>Mw (T:=3) (T':=3) (x:=.tmp 12) (y:=.tmp 13) (by kernel_rfl) (by kernel_rfl) (by kernel_rfl) (by omega)
 refine AB rp s [] fun v o=>?_
 refine AG (decide (n.tmod d < 0)) (fun f=>?_) (fun f=>?_)
 ·have hn:n.tmod d < 0:=of_decide_eq_true f
  have h:JI n d=(n.tdiv d - 1,n.tmod d + d):=by unfold JI; rw [f]; rfl
  refine As 4 Tp o [] fun g i=>?_
  refine AU [(0,δ n),(1,δ d),(2,δ m),(7,δ (IntKind.i64.wrap (IntKind.i64.wrap (n.tdiv d) - 1))),(8,δ (IntKind.i64.wrap (n.tmod d + d)))] fun j=>?_
  rw [l,IntWalk.i64_in (n.tdiv d - 1) (by omega),IntWalk.i64_in (n.tmod d + d) (by omega)]
  refine W3 n d m (n.tdiv d - 1) (n.tmod d + d) j w g i h2 k (by omega) (by omega) (by omega) (by omega) fun w' b=>⟨?_,b⟩
  unfold MY
  rw [h]
 have hn:¬ n.tmod d < 0:=of_decide_eq_false f
 have h:JI n d=(n.tdiv d,n.tmod d):=by unfold JI; rw [f]; rfl
 refine As 4 Tp o [] fun g i=>?_
 refine AU [(0,δ n),(1,δ d),(2,δ m),(7,δ (IntKind.i64.wrap (n.tdiv d))),(8,δ (n.tmod d))] fun j=>?_
 rw [l]
 refine W3 n d m (n.tdiv d) (n.tmod d) j w g i h2 k (by omega) (by omega) (by omega) (by omega) fun w' b=>⟨?_,b⟩
 unfold MY
 rw [h]
theorem vc (x:Int):-9223372036854775808≤IntKind.i64.wrap x∧IntKind.i64.wrap x≤9223372036854775807:=by
 rw [IntKind.wrap_i64]; omega
def H8 (a b c d m:Int):Int×Int×Int:=cond (cond (!(AV a b)) true (!(AV c d))) (0,0,1) (cond (cond (decide (c≤0)) true (!(KU m))) (0,0,2) (KZ (IntKind.i64.wrap (MY (a * d) (b * c) m * c)) d))
noncomputable def Zt:Code:=Tryz.f40.body.getD .skip
def r8:=Al 1 [.code Zt]
def bZ:=AI r8
def ACu:=Ξ bZ
def r7:=Al 3 (AF bZ)
def bY:=AI r7
def ACt:=Ξ bY
def r6:=Ψ bY
def r5:=Ω r6
def ACs:=Ω r5
theorem Qy (a b c d m:Int) (w:World):Calls Tryz.prog 40 ([ψ [δ a,δ b],ψ [δ c,δ d],δ m]:List Value).toArray w fun e w'=>e=.returned (DT (H8 a b c d m))∧Below (ε w) w w':=by
 refine AS (fn:=Tryz.f40) (c:=Zt) (n:=48) ?_
 have K1:=Wk.start w
 refine CC 1 r8 [ι (ε w) [δ a,δ b] 41,ι (ε w + 1) [δ c,δ d] 41,ι (ε w + 2) [δ 0,δ 0] 41] K1 [] fun w1 v=>?_
 refine Av v [(0,0,0),(4,1,0)] [⟨1,[(9,ψ [δ a,δ b])],ξ (AV a b),true⟩,⟨5,[(13,ψ [δ c,δ d])],ξ (AV c d),(!(!(AV a b))) && true⟩] v.G (fun sp f=>?_) fun w2 E2 K3=>?_
 ·rcases List.mem_cons.1 f with rfl | f
  ·exact AY 63 [.tmp 9] _ (fun _=>by kernel_rfl) fun hc u hu=>AQ hu (Bt a b u)
  obtain rfl:=List.mem_singleton.1 f
  exact AY 63 [.tmp 13] _ (fun _=>by kernel_rfl) fun hc u hu=>AQ hu (Bt c d u)
 unfold H8
 refine AB bZ K3 [] fun w3 t=>?_
 refine AG (cond (!(AV a b)) true (!(AV c d))) (fun g=>?_) (fun g=>?_)
 ·refine AB ACu t [(2,0)] fun w4 i=>?_
  exact AK i (2,0) (.tuple #[ψ [δ 0,δ 0],δ 1]) ⟨by rw [g]; rfl,i.B⟩
 have hv:AV a b=true∧AV c d=true:=by
  cases h1:AV a b <;> cases h2:AV c d <;> rw [h1,h2] at g <;> first | exact ⟨rfl,rfl⟩ | cases g
 obtain ⟨a1,a2,a3,a4⟩:=C1 hv.1
 obtain ⟨c2,c3,c4,c5⟩:=C1 hv.2
 refine As 3 r7 t [] fun w4 i=>?_
 refine Av i [(1,1,0)] [⟨5,[(22,δ m)],ξ (KU m),(!(decide (c≤0))) && true⟩] i.G (fun sp f=>?_) fun w5 E5 K6=>?_
 ·obtain rfl:=List.mem_singleton.1 f
  exact AY 64 [.tmp 22] _ (fun _=>by kernel_rfl) fun hc u hu=>AQ hu (YR m u)
 refine AB bY K6 [] fun w6 s=>?_
 refine AG (cond (decide (c≤0)) true (!(KU m))) (fun h=>?_) (fun h=>?_)
 ·refine AB ACt s [(2,0)] fun q k=>?_
  exact AK k (2,0) (.tuple #[ψ [δ 0,δ 0],δ 2]) ⟨by rw [g,h]; rfl,k.B⟩
 have l:0 < c:=by
  cases hd:decide (c≤0) with
  | true=>rw [hd] at h; cases h
  | false=>have:=of_decide_eq_false hd; omega
 have m1:=IA (x:=a) (y:=d) (X:=1000000000000) (Y:=1000000) a3 a4 (by omega) c3 (by decide)
 have m2:=IA (x:=b) (y:=c) (X:=1000000) (Y:=1000000000000) (by omega) a2 (by omega) c5 (by decide)
 have m3:0 < b * c:=Int.mul_pos (by omega) l
 have e1:IntKind.i64.wrap (a * d)=a * d:=IntWalk.i64_in _ (by omega)
 have e2:IntKind.i64.wrap (b * c)=b * c:=IntWalk.i64_in _ (by omega)
 refine AB r6 s [(0,0),(1,1),(0,1),(1,0)] fun q k=>?_
 refine AP k (args:=[δ (IntKind.i64.wrap (a * d)),δ (IntKind.i64.wrap (b * c)),δ m]) (by rw [e1,e2]; exact l6 (a * d) (b * c) m q (by omega) (by omega) (by omega) (by omega)) fun w8 K9=>?_
 refine AB r5 K9 [(1,0),(1,1)] fun z p=>?_
 have r:=vc (MY (a * d) (b * c) m * c)
 refine AP p (Pa (IntKind.i64.wrap (MY (a * d) (b * c) m * c)) d z r.1 r.2 (by omega) (by omega)) fun b0 o=>?_
 refine Am ACs o [(2,0)] fun a0 j=>?_
 exact AK j (2,0) (DT (KZ (IntKind.i64.wrap (MY (a * d) (b * c) m * c)) d)) ⟨by rw [g,h]; rfl,j.B⟩
end
end Go.Proofs.YtkjbdagicjbjjaaGreat

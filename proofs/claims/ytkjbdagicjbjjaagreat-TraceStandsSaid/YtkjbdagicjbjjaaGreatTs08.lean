/- Contracts of functions, part 8. -/
import Derived.Test.YtkjbdagicjbjjaaGreatTs07
set_option linter.all false
namespace Go.Proofs.YtkjbdagicjbjjaaGreat
noncomputable section
open Go.RowKit
set_option maxRecDepth 100000
set_option maxHeartbeats 1000000
def JG:List (Int×Int×Int)→Int→Bool
 | [],_=>true
 | e :: es,b=>cond (cond (cond (decide (e.1≤b)) true (decide (1000000 < e.1))) true (!(EN e.2.1 e.2.2))) false (JG es e.1)
def D0 (es:List (Int×Int×Int)):Bool:=cond (cond (decide ((es.length:Int) < 1)) true (decide (64 < (es.length:Int)))) false (JG es (-1))
theorem iN {es:List (Int×Int×Int)} {b:Int} (i:Nat) (e:Int×Int×Int) (hi:es[i]?=some e):JG (es.drop i) b=cond (cond (cond (decide (e.1≤b)) true (decide (1000000 < e.1))) true (!(EN e.2.1 e.2.2))) false (JG (es.drop (i + 1)) e.1):=by
 have hl:i < es.length:=(List.getElem?_eq_some_iff.1 hi).1
 have he:es[i]=e:=(List.getElem?_eq_some_iff.1 hi).2
 rw [← List.getElem_cons_drop hl,JG,he]
noncomputable def Ra:Code:=Tryz.f107.body.getD .skip
def db:=Al 1 [.code Ra]
def oP:=AI db
def dh:=Ψ oP
def WF:=ν (Ar dh)
def dg:=AA (An Ae 90 (AD WF)) (AD WF)
def de:=Al 7 (AC (AC dg))
def y7:=AI de
theorem PI (es:List (Int×Int×Int)) (A:Option Addr) (c:Nat) (w:World) (a:DH CN w 3 A (es.map Kr)):Calls Tryz.prog 107 ([τ A es.length c]:List Value).toArray w fun e w'=>e=.returned (ξ (D0 es))∧Below (ε w) w w':=by
 refine Ia (args:=[τ A es.length c]) (fn:=Tryz.f107) (c:=Ra) (n:=38) ?_
 refine Cn (KA 1 90 [.code Ra]) [.code Ra] (ε w) [] [] db [(0,τ A es.length c)] (ε w) [] (CW w) fun w0 E0 x0 k0=>?_
 have B0:Below (ε w) w w0:=Ce k0
 refine Ib ((FY db).getD #[]) ⟨[],[],[]⟩ [(0,τ A es.length c),(13,ξ (cond (decide ((es.length:Int) < 1)) true (decide (64 < (es.length:Int)))))] (by kernel_rfl) (by kernel_rfl) (by kernel_rfl) (fun e he=>by cases he) (fun sp p=>by cases p) (fun X=>by kernel_rfl) (by kernel_rfl) fun wa Ea ba=>?_
 have Ba:=B0.trans (ba.mono B0.size)
 refine Cn 60 (AM db) (ε wa) [] [] oP [(0,τ A es.length c),(13,ξ (cond (decide ((es.length:Int) < 1)) true (decide (64 < (es.length:Int)))))] (ε wa) [] (CW wa) fun w1 E1 v0 j0=>?_
 have B1:Below (ε w) w w1:=Ba.trans ((Ce j0).mono Ba.size)
 unfold D0
 have l:cond (decide ((es.length:Int) < 1)) true (decide (64 < (es.length:Int)))=false→es.length≤64:=fun t=>by
  by_cases hb:64 < (es.length:Int)
  ·by_cases hc:(es.length:Int) < 1
   ·omega
   rw [decide_eq_true hb,decide_eq_false hc] at t; exact nomatch t
  omega
 generalize cond (decide ((es.length:Int) < 1)) true (decide (64 < (es.length:Int)))=bad at l ⊢
 cases bad with
 | true=>
  refine Du true (fun _=>?_) (fun h=>nomatch h)
  exact FM (fn:=Tryz.f107) 60 (ξ false) fun wz Bz=>⟨rfl,B1.trans (Bz.mono B1.size)⟩
 | false=>
 have l:=l rfl
 rw [show cond false false (JG es (-1))=JG es (-1) from rfl]
 refine Du false (fun h=>nomatch h) fun _=>?_
 refine Cn 60 (AF oP) (ε w1) [] [] dh [(3,δ (-1)),(14,τ A es.length c),(15,δ (es.length:Nat)),(16,δ ((0:Nat):Int))] (ε w1) [] (CW w1) fun w4 E4 t0 i0=>?_
 have B4:Below (ε w) w w4:=B1.trans ((Ce i0).mono B1.size)
 refine Bo (by kernel_rfl) (fun E v=>∃ (i:Nat) (b:Int) (E0:Nat→Value),i≤es.length∧E=BE E0 [(3,δ b),(14,τ A es.length c),(15,δ (es.length:Nat)),(16,δ (i:Nat))]∧JG es (-1)=JG (es.drop i) b∧Below (ε w) w v)
  (fun E _=>es.length - AL (E 16)) ⟨0,-1,E4,Nat.zero_le _,rfl,rfl,B4⟩ ?_
 rintro E v ⟨i,b,E0,hi,rfl,hv,Bx⟩ o
 refine Cn 60 (Ar dh) (ε v) [] [] WF [(3,δ b),(14,τ A es.length c),(15,δ (es.length:Nat)),(16,δ (i:Nat)),(17,ξ (decide ((i:Int) < (es.length:Int))))] (ε v) [] (CW v) fun w5 E5 s0 h0=>?_
 have B5:=Bx.trans ((Ce h0).mono Bx.size)
 refine Du (decide ((i:Int) < (es.length:Int))) (fun r=>?_) (fun r=>?_)
 ·have f:i < es.length:=by have:=of_decide_eq_true r; omega
  obtain ⟨⟨k,n,d⟩,he⟩:∃ e,es[i]?=some e:=⟨_,List.getElem?_eq_getElem f⟩
  rw [iN i _ he] at hv
  have hr:(es.map Kr)[i]?=some [δ k,δ n,δ d]:=by rw [List.getElem?_map,he]; rfl
  rcases a with a | ⟨g,off,rfl,_,hg,s⟩
  ·rw [a] at hr; simp at hr
  have y:=s i _ hr
  refine Cn (An Ae 90 (AD WF)) (AD WF) (ε w5) [] [] dg [(3,δ b),(14,τ (some ⟨g,off,none⟩) es.length c),(15,δ (es.length:Nat)),(16,δ (i:Nat))] (ε w5) [] (CW w5) fun m E6 r0 g0=>?_
  have B6:=B5.trans ((Ce g0).mono B5.size)
  have a0:m.rangeAt g (off + i * 3) [δ k,δ n,δ d]:=fun j u hu=>(World.cell?_of_block (B6.block g hg)).trans (y j u hu)
  refine Ay (g:=g) (off:=off) (cap:=c) (sz:=3) (k:=i) (len:=es.length) (some 18) f Tryz.underlying57 ?_
  refine BN 101 g (off + i * 3) _ (some 19) a0 ?_
  refine Cn (KA 7 90 (AC (AC dg))) (AC (AC dg)) (ε m) [] [(0,0)] de [(3,δ b),(5,ζ (ε m)),(14,τ (some ⟨g,off,none⟩) es.length c),(15,δ (es.length:Nat)),(16,δ (i:Nat))] (ε m + 1) [ι (ε m) [δ k,δ n,δ d] 101] (CW m) fun w7 E7 c0 e0=>?_
  have B7:=B6.trans ((Ce e0).mono B6.size)
  have G7:=c0.sat.good
  refine Ib ((FY de).getD #[]) ⟨[ι (ε m) [δ k,δ n,δ d] 101],[(1,0,0),(6,0,0),(11,0,1)],[⟨12,[(31,ψ [δ n,δ d])],ξ (EN n d),(!(cond (decide (k≤b)) true (decide (1000000 < k)))) && true⟩]⟩ [(5,ζ (ε m)),(14,τ (some ⟨g,off,none⟩) es.length c),(15,δ (es.length:Nat)),(16,δ (i:Nat)),(34,ξ (cond (cond (decide (k≤b)) true (decide (1000000 < k))) true (!(EN n d))))] (by kernel_rfl) (by kernel_rfl) (by kernel_rfl) G7 (fun sp p=>?_) (fun X=>by kernel_rfl) (by kernel_rfl) fun x E8 b8=>?_
  ·rw [List.mem_singleton.1 p]
   exact AY 123 [.tmp 31] _ (fun _=>by kernel_rfl) fun _ u t=>AQ t (Ki n d u)
  have B8:=B7.trans (b8.mono B7.size)
  have G8:=CQ G7 b8
  generalize cond (cond (decide (k≤b)) true (decide (1000000 < k))) true (!(EN n d))=bad at hv ⊢
  refine Cn 60 (AM de) (ε x) [] [] y7 [(5,ζ (ε m)),(14,τ (some ⟨g,off,none⟩) es.length c),(15,δ (es.length:Nat)),(16,δ (i:Nat)),(34,ξ bad)] (ε x) [] (CW x) fun w9 E9 q0 d0=>?_
  have b9:Below (ε x) x w9:=Ce d0
  have B9:=B8.trans (b9.mono B8.size)
  have G9:=CQ G8 b9
  cases bad with
  | true=>
   rw [hv]
   refine Du true (fun _=>?_) (fun h=>nomatch h)
   exact FM (fn:=Tryz.f107) 60 (ξ false) fun wz Bz=>⟨rfl,B9.trans (Bz.mono B9.size)⟩
  | false=>
   refine Du false (fun h=>nomatch h) fun _=>?_
   refine Cn 60 (AF y7) (ε w9) _ [(0,0)] (AZ dh) [(3,δ k),(14,τ (some ⟨g,off,none⟩) es.length c),(15,δ (es.length:Nat)),(16,δ (IntKind.i64.wrap ((i:Int) + 1)))] (ε w9) [ι (ε m) [δ k,δ n,δ d] 101] (OV w9 _ G9 (by simp)) fun p0 l0 m0 z=>?_
   rw [Bl i (by omega)]
   refine o _ _ ⟨i + 1,k,l0,f,rfl,hv,z.below B9.size (fun q t=>by rw [List.mem_singleton.1 t]; exact B6.size) |> B9.trans⟩ ?_
   show es.length - AL (δ ((i + 1:Nat):Int)) < es.length - AL (δ (i:Int))
   simp only [AL]
   omega
 have b0:i=es.length:=by have:=of_decide_eq_false r; omega
 rw [hv,b0,List.drop_length,JG]
 exact FM (fn:=Tryz.f107) 60 (ξ true) fun wz Bz=>⟨rfl,B5.trans (Bz.mono B5.size)⟩
attribute [local irreducible] BD BP AC AD AF Ar AZ AM Aw Bk C6 BO At Fr
theorem Oj (es:List (Int×Int×Int)) (A:Option Addr) (n c:Nat) (w:World) (hn:n=es.length) (a:DH CN w 3 A (es.map Kr)):Calls Tryz.prog 107 ([τ A n c]:List Value).toArray w fun e w'=>e=.returned (ξ (D0 es))∧Below (ε w) w w':=by
 subst hn
 exact PI es A c w a
def DV (x:Ex):Bool:=Fu x 32
noncomputable def mq:Code:=Tryz.f108.body.getD .skip
def y3:=ν ([.code mq])
def AE0:=Ω y3
theorem Ji (x:Ex) (o j i h g f:Int) (m:List UInt8) (l k:Int) (d:Option Addr) (a b:Nat) (w:World) (ht:Dm x) (hx:DE CN w x [δ o,δ j,δ i,δ h,δ g,δ f,η m,δ l,δ k,τ d a b]):Calls Tryz.prog 108 ([ψ [δ o,δ j,δ i,δ h,δ g,δ f,η m,δ l,δ k,τ d a b]]:List Value).toArray w fun e w'=>e=.returned (ξ (DV x))∧Below (ε w) w w':=by
 refine AS (fn:=Tryz.f108) (c:=mq) (n:=5) ?_
 have t:=Wk.start w
 refine Am y3 t [(0,0)] fun q p=>?_
 refine AP p (args:=[ψ [δ o,δ j,δ i,δ h,δ g,δ f,η m,δ l,δ k,τ d a b],δ 32]) (Ys _ x _ 32 q (Nat.le_refl _) ht (hx.below p.B) (by decide) (by decide)) fun v s=>?_
 refine AB AE0 s [] fun u r=>?_
 exact AO r (0,0) _ (by unfold DV; rfl)
def DQ (x:Ex) (es:List (Int×Int×Int)) (p0a:Int) (p0ca:Bool) (p0cba:Int) (p0cbb:Int) (p0cbc:Int) (p0d:Int) (p0en:Nat) (p0fa:Int) (p0fba:Int) (p0fbb:Int) (p0fca:Int) (p0fcb:Int) (p0fcc:Int) (p0fd:List UInt8) (p0fe:Int) (p0ff:Int) (p0fgn:Nat) (p0g:Int) (p0ha:Int) (p0hb:Int):Bool:=cond (p0a == 1) (cond (cond (cond (cond (cond (Dd p0ca p0cba p0cbb p0cbc) (p0d == 0) (false)) ((p0en:Int) == 0) (false)) (G5 p0fa p0fba p0fbb p0fca p0fcb p0fcc p0fd p0fe p0ff p0fgn) (false)) (p0g == 0) (false)) ((p0ha == 0) && (p0hb == 0)) (false)) (cond (p0a == 5) (cond (cond (cond (cond (cond (cond (Dd p0ca p0cba p0cbb p0cbc) (!(p0ca)) (false)) (p0d == 0) (false)) ((p0en:Int) == 0) (false)) (G5 p0fa p0fba p0fbb p0fca p0fcb p0fcc p0fd p0fe p0ff p0fgn) (false)) (p0g == 0) (false)) ((p0ha == 0) && (p0hb == 0)) (false)) (cond (p0a == 2) (cond (cond (cond (cond (cond (cond (Dd p0ca p0cba p0cbb p0cbc) (!(p0ca)) (false)) (GV p0d) (false)) (D0 es) (false)) (G5 p0fa p0fba p0fbb p0fca p0fcb p0fcc p0fd p0fe p0ff p0fgn) (false)) (p0g == 0) (false)) ((p0ha == 0) && (p0hb == 0)) (false)) (cond (p0a == 3) (cond (cond (cond (cond (cond (Dd p0ca p0cba p0cbb p0cbc) (GV p0d) (false)) ((p0en:Int) == 0) (false)) (DV x) (false)) (p0g == 0) (false)) ((p0ha == 0) && (p0hb == 0)) (false)) (cond (p0a == 4) (cond (cond (cond (cond (cond ((p0ca == false) && ((p0cba == 0) && ((p0cbb == 0) && (p0cbc == 0)))) (GV p0d) (false)) ((p0en:Int) == 0) (false)) (DV x) (false)) (Id p0g) (false)) (cond (Hw p0ha p0hb) (Kj p0hb) (false)) (false)) (false)))))
noncomputable def mx:Code:=Tryz.f71.body.getD .skip
def zM:=Al 1 ([.code mx])
def zL:=Al 2 (AM zM)
def zK:=Al 3 (AM zL)
def oW:=AI zK
def zJ:=Ξ oW
def zI:=Al 19 (AC zJ)
def AE5:=AI zI
def oV:=Ψ oW
def zH:=Al 9 (AD oV)
def zG:=Al 19 (AM zH)
def ADt:=AI zG
def dz:=Ψ oV
def uP:=Al 11 (AD dz)
def uO:=Al 12 (AM uP)
def uN:=Al 19 (AM uO)
def ADs:=AI uN
def dy:=Ψ dz
def uM:=Ξ dy
def uL:=Al 15 (AC uM)
def uK:=Al 19 (AM uL)
def ADr:=AI uK
def dx:=Ψ dy
def uJ:=Al 17 (AD dx)
def uI:=Al 18 (AM uJ)
def uH:=Al 19 (AM uI)
def ADq:=AI uH
def ADp:=Ψ dx
theorem NI (x:Ex) (es:List (Int×Int×Int)) (g0:Int) (t0:List UInt8) (q:Bool) (g f d c0:Int) (e0:Option Addr) (d0 h0:Nat) (b0 p o m l j:Int) (a0:List UInt8) (z y:Int) (v:Option Addr) (i t:Nat) (i0 s r:Int) (w:World) (ht:Dm x) (hx:DE CN w x [δ b0,δ p,δ o,δ m,δ l,δ j,η a0,δ z,δ y,τ v i t]) (hn:d0=es.length) (r0:DH CN w 3 e0 (es.map Kr)):Calls Tryz.prog 71 ([ψ [δ g0,η t0,ξ q,δ g,δ f,δ d,δ c0,τ e0 d0 h0,δ b0,δ p,δ o,δ m,δ l,δ j,η a0,δ z,δ y,τ v i t,δ i0,δ s,δ r]]:List Value).toArray w fun e w'=>e=.returned (ξ (DQ x es g0 q g f d c0 d0 b0 p o m l j a0 z y i i0 s r))∧Below (ε w) w w':=by
 refine AS (fn:=Tryz.f71) (c:=mx) (n:=111) ?_
 have K1:=Wk.start w
 refine CC 1 zM [ι (ε w) [δ g0,η t0,ξ q,δ g,δ f,δ d,δ c0,τ e0 d0 h0,δ b0,δ p,δ o,δ m,δ l,δ j,η a0,δ z,δ y,τ v i t,δ i0,δ s,δ r] 59] K1 [] fun w1 K2=>?_
 refine Av K2 [(1,0,2)] [⟨3,[(10,ψ [ξ q,δ g,δ f,δ d]),(11,ψ [ξ false,δ 0,δ 0,δ 0])],ξ ((q == false) && ((g == 0) && ((f == 0) && (d == 0)))),true⟩] K2.G (fun sp h=>?_) fun w2 E2 K3=>?_
 ·rw [List.mem_singleton.1 h]
  exact BQ fun _ E u _=>DD (k:=.eql) (T:=56) (a:=ψ [ξ q,δ g,δ f,δ d]) (b:=ψ [ξ false,δ 0,δ 0,δ 0]) (EL u q g f d false 0 0 0)
 refine As 2 zL K3 [] fun w3 K4=>?_
 refine Av K4 [(1,0,6),(4,0,7),(8,0,8),(11,0,18)] [⟨9,[(21,ψ [δ b0,δ p,δ o,δ m,δ l,δ j,η a0,δ z,δ y,τ v i t])],ξ (G5 b0 p o m l j a0 z y i),true⟩] K4.G (fun sp h=>?_) fun w4 E4 K5=>?_
 ·rw [List.mem_singleton.1 h]
  exact AY 104 [.tmp 21] _ (fun _=>by kernel_rfl) fun hc u hu=>AQ hu (gH b0 p o m l j a0 z y v i t u)
 refine As 3 zK K5 [] fun w5 K6=>?_
 refine Av K6 [(1,0,19)] [⟨3,[(27,ψ [δ s,δ r]),(28,ψ [δ 0,δ 0])],ξ ((s == 0) && (r == 0)),true⟩] K6.G (fun sp h=>?_) fun w6 E6 K7=>?_
 ·rw [List.mem_singleton.1 h]
  exact BQ fun _ E u _=>DD (k:=.eql) (T:=41) (a:=ψ [δ s,δ r]) (b:=ψ [δ 0,δ 0]) (FJ u s r 0 0)
 refine AB oW K7 [(0,0)] fun w7 K8=>?_
 refine AG (g0 == 1) (fun c8=>?_) (fun c8=>?_)
 ·refine AB zJ K8 [(0,2)] fun w9 K9=>?_
  refine AP K9 (IE q g f d w9) fun v3 g2=>?_
  refine As 19 zI g2 [] fun t3 h1=>?_
  refine Av h1 [] [] h1.G (fun sp h=>by cases h) fun r3 n4 e2=>?_
  refine AB AE5 e2 [] fun q3 d2=>?_
  exact AO d2 (0,0) _ (by unfold DQ; rw [c8] <;> rfl)
 refine AB oV K8 [] fun p3 g1=>?_
 refine AG (g0 == 5) (fun j0=>?_) (fun j0=>?_)
 ·refine As 9 zH g1 [] fun o3 f1=>?_
  refine Av f1 [(1,0,2),(6,0,2)] [⟨2,[(40,ψ [ξ q,δ g,δ f,δ d])],ξ (Dd q g f d),true⟩] f1.G (fun sp h=>?_) fun n3 k4 c2=>?_
  ·rw [List.mem_singleton.1 h]
   exact AY 105 [.tmp 40] _ (fun _=>by kernel_rfl) fun hc u hu=>AQ hu (IE q g f d u)
  refine As 19 zG c2 [] fun m3 e1=>?_
  refine Av e1 [] [] e1.G (fun sp h=>by cases h) fun l3 h4 b2=>?_
  refine AB ADt b2 [] fun k3 a2=>?_
  exact AO a2 (0,0) _ (by unfold DQ; rw [c8,j0] <;> rfl)
 refine AB dz g1 [] fun i3 d1=>?_
 refine AG (g0 == 2) (fun k0=>?_) (fun k0=>?_)
 ·refine As 11 uP d1 [] fun h3 c1=>?_
  refine Av c1 [(1,0,2),(6,0,2)] [⟨2,[(51,ψ [ξ q,δ g,δ f,δ d])],ξ (Dd q g f d),true⟩] c1.G (fun sp h=>?_) fun g3 g4 z1=>?_
  ·rw [List.mem_singleton.1 h]
   exact AY 105 [.tmp 51] _ (fun _=>by kernel_rfl) fun hc u hu=>AQ hu (IE q g f d u)
  refine As 12 uO z1 [] fun f3 q0=>?_
  refine Av q0 [(1,0,6),(4,0,7)] [⟨2,[(60,δ c0)],ξ (GV c0),true⟩,⟨5,[(63,τ e0 d0 h0)],ξ (D0 es),true⟩] q0.G (fun sp h=>?_) fun e3 f4 x1=>?_
  ·simp only [List.mem_cons,List.not_mem_nil,or_false] at h
   rcases h with rfl | rfl
   ·exact AY 106 [.tmp 60] _ (fun _=>by kernel_rfl) fun hc u hu=>AQ hu (Nm c0 u)
   exact AY 107 [.tmp 63] [τ e0 d0 h0] (fun _=>by kernel_rfl) fun hc u hu=>AQ hu (Oj es _ _ _ u hn (r0.below (q0.B.trans (hu.mono q0.B.size))))
  refine As 19 uN x1 [] fun c3 b1=>?_
  refine Av b1 [] [] b1.G (fun sp h=>by cases h) fun b3 e4 v1=>?_
  refine AB ADs v1 [] fun a3 u1=>?_
  exact AO u1 (0,0) _ (by unfold DQ; rw [c8,j0,k0] <;> rfl)
 refine AB dy d1 [] fun z2 a1=>?_
 refine AG (g0 == 3) (fun l0=>?_) (fun l0=>?_)
 ·refine AB uM a1 [(0,2)] fun i1 t1=>?_
  refine AP t1 (IE q g f d i1) fun x2 s1=>?_
  refine As 15 uL s1 [] fun v2 p0=>?_
  refine Av p0 [(1,0,6),(4,0,8)] [⟨2,[(71,δ c0)],ξ (GV c0),true⟩,⟨5,[(74,ψ [δ b0,δ p,δ o,δ m,δ l,δ j,η a0,δ z,δ y,τ v i t])],ξ (DV x),true⟩] p0.G (fun sp h=>?_) fun u2 c4 r1=>?_
  ·simp only [List.mem_cons,List.not_mem_nil,or_false] at h
   rcases h with rfl | rfl
   ·exact AY 106 [.tmp 71] _ (fun _=>by kernel_rfl) fun hc u hu=>AQ hu (Nm c0 u)
   exact AY 108 [.tmp 74] _ (fun _=>by kernel_rfl) fun hc u hu=>AQ hu (Ji x b0 p o m l j a0 z y v i t u ht (hx.below (p0.B.trans (hu.mono p0.B.size))))
  refine As 19 uK r1 [] fun t2 z0=>?_
  refine Av z0 [] [] z0.G (fun sp h=>by cases h) fun s2 b4 q1=>?_
  refine AB ADr q1 [] fun r2 p1=>?_
  exact AO p1 (0,0) _ (by unfold DQ; rw [c8,j0,k0,l0] <;> rfl)
 refine AB dx a1 [] fun q2 x0=>?_
 refine AG (g0 == 4) (fun s0=>?_) (fun s0=>?_)
 ·refine As 17 uJ x0 [] fun p2 m0=>?_
  refine Av m0 [(1,0,6),(4,0,8)] [⟨2,[(79,δ c0)],ξ (GV c0),true⟩,⟨5,[(82,ψ [δ b0,δ p,δ o,δ m,δ l,δ j,η a0,δ z,δ y,τ v i t])],ξ (DV x),true⟩] m0.G (fun sp h=>?_) fun o2 a4 o1=>?_
  ·simp only [List.mem_cons,List.not_mem_nil,or_false] at h
   rcases h with rfl | rfl
   ·exact AY 106 [.tmp 79] _ (fun _=>by kernel_rfl) fun hc u hu=>AQ hu (Nm c0 u)
   exact AY 108 [.tmp 82] _ (fun _=>by kernel_rfl) fun hc u hu=>AQ hu (Ji x b0 p o m l j a0 z y v i t u ht (hx.below (m0.B.trans (hu.mono m0.B.size))))
  refine As 18 uI o1 [] fun n2 w0=>?_
  refine Av w0 [(1,0,18),(4,0,19),(8,0,19)] [⟨2,[(85,δ i0)],ξ (Id i0),true⟩,⟨5,[(88,ψ [δ s,δ r])],ξ (Hw s r),true⟩,⟨9,[(92,ψ [δ s,δ r])],ξ (Kj r),((Hw s r)) && (true)⟩] w0.G (fun sp h=>?_) fun m2 z3 n1=>?_
  ·simp only [List.mem_cons,List.not_mem_nil,or_false] at h
   rcases h with rfl | rfl | rfl
   ·exact AY 109 [.tmp 85] _ (fun _=>by kernel_rfl) fun hc u hu=>AQ hu (RJ i0 u)
   ·exact AY 110 [.tmp 88] _ (fun _=>by kernel_rfl) fun hc u hu=>AQ hu (RH s r u)
   exact AY 111 [.tmp 92] _ (fun _=>by kernel_rfl) fun hc u hu=>AQ hu (Yc s r u)
  refine As 19 uH n1 [] fun l2 v0=>?_
  refine Av v0 [] [] v0.G (fun sp h=>by cases h) fun k2 x3 m1=>?_
  refine AB ADq m1 [] fun i2 l1=>?_
  exact AO l1 (0,0) _ (by unfold DQ; rw [c8,j0,k0,l0,s0] <;> rfl)
 refine AB ADp x0 [] fun h2 k1=>?_
 exact AO k1 (0,0) _ (by unfold DQ; rw [c8,j0,k0,l0,s0] <;> rfl)
end
end Go.Proofs.YtkjbdagicjbjjaaGreat
namespace Go.Proofs.YtkjbdagicjbjjaaGreat
noncomputable section
open Go.RowKit
set_option maxRecDepth 100000
def EY (S:Nat→Prop) (w:World):List Df→List (List Value)→Prop
 | [],rs=>rs=[]
 | d :: ds,rs=>∃ c cs,rs=c :: cs∧Ej S w d c∧EY S w ds cs
theorem M0 {S:Nat→Prop} {w:World}:∀ {ds:List Df} {rs:List (List Value)} {i:Nat} {d:Df},EY S w ds rs→ds[i]?=some d→∃ r,rs[i]?=some r∧Ej S w d r
 | [],_,_,_,_,h=>by simp at h
 | x :: ds,rs,i,d,h,hi=>by
  unfold EY at h
  obtain ⟨c,b,rfl,a,h2⟩:=h
  cases i with
  | zero=>simp at hi; subst hi; exact ⟨c,by simp,a⟩
  | succ i=>obtain ⟨r,hr,hx⟩:=M0 (i:=i) h2 (by simpa using hi); exact ⟨r,by simpa using hr,hx⟩
theorem Ej.below {w w':World} {d:Df} {a:List Value} (h:Ej CN w d a) (B:Below (ε w) w w'):Ej CN w' d a:=h.keep B.size fun g _ hg=>⟨trivial,B.block g hg⟩
theorem EY.below {w w':World} (B:Below (ε w) w w'):∀ {ds:List Df} {rs:List (List Value)},EY CN w ds rs→EY CN w' ds rs
 | [],_,h=>by unfold EY at h ⊢; exact h
 | d :: ds,rs,h=>by
  unfold EY at h ⊢
  obtain ⟨c,e,b,a,h2⟩:=h
  exact ⟨c,e,b,a.below B,EY.below B h2⟩
def Fc (d:Df):Prop:=Dm d.body∧d.name.length≤4294967296
def YC (w:World) (nm:List UInt8) (ds:List Df) (cs:List Value):Prop:=∃ A c rs,cs=[η nm,τ A ds.length c]∧EY CN w ds rs∧DH CN w 21 A rs
theorem YC.below {w w':World} {nm:List UInt8} {ds:List Df} {a:List Value} (h:YC w nm ds a) (B:Below (ε w) w w'):YC w' nm ds a:=by
 obtain ⟨A,c,rs,d,h2,b⟩:=h
 exact ⟨A,c,rs,d,h2.below B,b.below B⟩
def Fg (d:Df):Bool:=match d.body with
 | .mk op num den mu hu du nm cnt md kids=>DQ d.body d.ents d.kind d.tb d.tm d.th d.td d.frm d.ents.length op num den mu hu du nm cnt md kids.length d.mode d.num d.den
def C2:List Df→Bool
 | []=>true
 | d :: ds=>cond (cond (!(Tk.isName d.name)) true (!(Fg d))) false (C2 ds)
def EK (nm:List UInt8) (ds:List Df):Bool:=cond (cond (!(Tk.isName nm)) true (decide (128 < (ds.length:Int)))) false (C2 ds)
theorem TG {ds:List Df} (i:Nat) (d:Df) (hi:ds[i]?=some d):C2 (ds.drop i)=cond (cond (!(Tk.isName d.name)) true (!(Fg d))) false (C2 (ds.drop (i + 1))):=by
 have hl:i < ds.length:=(List.getElem?_eq_some_iff.1 hi).1
 have he:ds[i]=d:=(List.getElem?_eq_some_iff.1 hi).2
 rw [← List.getElem_cons_drop hl,C2,he]
theorem YJ (d:Df) (g:List Value) (w:World) (ht:Dm d.body) (h:Ej CN w d g):Calls Tryz.prog 71 ([ψ g]:List Value).toArray w fun e w'=>e=.returned (ξ (Fg d))∧Below (ε w) w w':=by
 obtain ⟨kind,name,tb,tm,th,td,frm,ents,⟨op,num,den,mu,hu,du,nm,cnt,md,kids⟩,mode,a,b⟩:=d
 obtain ⟨A,c,bs,hx,hr,rfl⟩:=h
 have f:=hx
 unfold DE at f
 obtain ⟨j,i,ks,rfl,_,_⟩:=f
 exact NI (.mk op num den mu hu du nm cnt md kids) ents kind name tb tm th td frm A ents.length c op num den mu hu du nm cnt md j kids.length i mode a b w ht hx rfl hr
abbrev mh (k:Int) (nm:List UInt8) (tb:Bool) (tm th td fr:Int) (A:Option Addr) (n c:Nat) (op num den mu hu du:Int) (bn:List UInt8) (cnt md:Int) (A':Option Addr) (n' c':Nat) (mode sn sd:Int):List Value:=
 [δ k,η nm,ξ tb,δ tm,δ th,δ td,δ fr,τ A n c,δ op,δ num,δ den,δ mu,δ hu,δ du,η bn,δ cnt,δ md,τ A' n' c',δ mode,δ sn,δ sd]
theorem Ej.cellsV {w:World} {d:Df} {e:List Value} (h:Ej CN w d e):∃ k tb tm th td fr A n c op num den mu hu du bn cnt md A' n' c' mode sn sd,e=mh k d.name tb tm th td fr A n c op num den mu hu du bn cnt md A' n' c' mode sn sd:=by
 obtain ⟨kind,name,tb,tm,th,td,frm,ents,⟨op,num,den,mu,hu,du,nm,cnt,md,kids⟩,mode,a,b⟩:=d
 obtain ⟨A,c,bs,hx,hr,rfl⟩:=h
 unfold DE at hx
 obtain ⟨g,f,ks,rfl,_,_⟩:=hx
 exact ⟨_,_,_,_,_,_,_,_,_,_,_,_,_,_,_,_,_,_,_,_,_,_,_,_,rfl⟩
noncomputable def Rc:Code:=Tryz.f45.body.getD .skip
def d3:=Al 1 [.code Rc]
def oX:=AI d3
def d6:=Ψ oX
def WH:=ν (Ar d6)
def d5:=AA (An Ae 90 (AD WH)) (AD WH)
def d4:=Al 6 (AC (AC d5))
def zN:=AI d4
theorem P6 (f:List UInt8) (ds:List Df) (cs:List Value) (w:World) (hs:f.length≤4294967296) (hl:ds.length≤4294967296) (ht:∀ d∈ds,Fc d) (hA:YC w f ds cs):Calls Tryz.prog 45 ([ψ cs]:List Value).toArray w fun e w'=>e=.returned (ξ (EK f ds))∧Below (ε w) w w':=by
 obtain ⟨A,c,rs,rfl,g0,a⟩:=hA
 refine Ia (args:=[ψ [η f,τ A ds.length c]]) (fn:=Tryz.f45) (c:=Rc) (n:=32) ?_
 refine Cn (KA 1 90 [.code Rc]) [.code Rc] (ε w) [] [] d3 [(1,ζ (ε w))] (ε w + 1) [ι (ε w) [η f,τ A ds.length c] 27] (CW w) fun w0 E0 j0 s0=>?_
 have B0:Below (ε w) w w0:=Ce s0
 have G0:=j0.sat.good
 refine Ib ((FY d3).getD #[]) ⟨[ι (ε w) [η f,τ A ds.length c] 27],[(1,0,0),(6,0,1)],[⟨2,[(6,η f)],ξ (Tk.isName f),true⟩]⟩ [(1,ζ (ε w)),(14,ξ (cond (!(Tk.isName f)) true (decide (128 < (ds.length:Int)))))] (by kernel_rfl) (by kernel_rfl) (by kernel_rfl) G0 (fun sp o=>?_) (fun X=>by kernel_rfl) (by kernel_rfl) fun z Ea ba=>?_
 ·rw [List.mem_singleton.1 o]
  exact AY 70 [.tmp 6] _ (fun _=>by kernel_rfl) fun _ u x=>AQ x (Fz f u hs)
 have Ba:=B0.trans (ba.mono B0.size)
 have Ga:=CQ G0 ba
 unfold EK
 generalize cond (!(Tk.isName f)) true (decide (128 < (ds.length:Int)))=bad
 refine Cn 60 (AM d3) (ε z) [] [] oX [(1,ζ (ε w)),(14,ξ bad)] (ε z) [] (CW z) fun w1 E1 f1 r0=>?_
 have b1:Below (ε z) z w1:=Ce r0
 have B1:Below (ε w) w w1:=Ba.trans (b1.mono Ba.size)
 have G1:=CQ Ga b1
 cases bad with
 | true=>
  refine Du true (fun _=>?_) (fun h=>nomatch h)
  exact FM (fn:=Tryz.f45) 60 (ξ false) fun wz Bz=>⟨rfl,B1.trans (Bz.mono B1.size)⟩
 | false=>
 rw [show cond false false (C2 ds)=C2 ds from rfl]
 refine Du false (fun h=>nomatch h) fun _=>?_
 refine Cn 60 (AF oX) (ε w1) _ [(0,1)] d6 [(16,τ A ds.length c),(17,δ (ds.length:Nat)),(18,δ ((0:Nat):Int))] (ε w1) [ι (ε w) [η f,τ A ds.length c] 27] (OV w1 _ G1 (by simp)) fun w4 E4 e1 q0=>?_
 have B4:Below (ε w) w w4:=B1.trans (q0.below B1.size (fun k hk=>by rw [List.mem_singleton.1 hk]; exact Nat.le_refl _))
 refine Bo (by kernel_rfl) (fun E y=>∃ (i:Nat) (E0:Nat→Value),i≤ds.length∧E=BE E0 [(16,τ A ds.length c),(17,δ (ds.length:Nat)),(18,δ (i:Nat))]∧C2 ds=C2 (ds.drop i)∧Below (ε w) w y)
  (fun E _=>ds.length - AL (E 18)) ⟨0,E4,Nat.zero_le _,rfl,rfl,B4⟩ ?_
 rintro E y ⟨i,E0,hi,rfl,hv,Bx⟩ p
 refine Cn 60 (Ar d6) (ε y) [] [] WH [(16,τ A ds.length c),(17,δ (ds.length:Nat)),(18,δ (i:Nat)),(19,ξ (decide ((i:Int) < (ds.length:Int))))] (ε y) [] (CW y) fun w5 E5 d1 p0=>?_
 have B5:=Bx.trans ((Ce p0).mono Bx.size)
 refine Du (decide ((i:Int) < (ds.length:Int))) (fun s=>?_) (fun s=>?_)
 ·have m:i < ds.length:=by have:=of_decide_eq_true s; omega
  obtain ⟨d,he⟩:∃ e,ds[i]?=some e:=⟨_,List.getElem?_eq_getElem m⟩
  rw [TG i _ he] at hv
  obtain ⟨r,hr,t⟩:=M0 g0 he
  have c0:=ht d (List.mem_of_getElem? he)
  rcases a with a | ⟨g,off,rfl,_,hg,v⟩
  ·rw [a] at hr; simp at hr
  have a0:=v i _ hr
  refine Cn (An Ae 90 (AD WH)) (AD WH) (ε w5) [] [] d5 [(16,τ (some ⟨g,off,none⟩) ds.length c),(17,δ (ds.length:Nat)),(18,δ (i:Nat))] (ε w5) [] (CW w5) fun q E6 a1 m0=>?_
  have B6:=B5.trans ((Ce m0).mono B5.size)
  have b0:q.rangeAt g (off + i * 21) r:=fun j u hu=>(World.cell?_of_block (B6.block g hg)).trans (a0 j u hu)
  refine Ay (g:=g) (off:=off) (cap:=c) (sz:=21) (k:=i) (len:=ds.length) (some 20) m Tryz.underlying25 ?_
  refine BN 59 g (off + i * 21) r (some 21) (h2:=by rw [t.len]; kernel_rfl) b0 ?_
  obtain ⟨k,tb,tm,th,td,fr,A1,n1,c1,op,num,den,mu,hu,du,bn,cnt,md,A',n',c',mode,sn,sd,h0⟩:=t.cellsV
  have l:d.name.length≤4294967296:=c0.2
  have b:=fun (u:World) (B:Below (ε w) w u)=>YJ d r u c0.1 (t.below B)
  subst h0
  generalize Fg d=vd at hv b
  generalize d.name=dn at hv l b b0 ⊢
  refine Cn (KA 6 90 (AC (AC d5))) (AC (AC d5)) (ε q) [] [(0,0)] d4 [(4,ζ (ε q)),(16,τ (some ⟨g,off,none⟩) ds.length c),(17,δ (ds.length:Nat)),(18,δ (i:Nat))] (ε q + 1) [ι (ε q) (mh k dn tb tm th td fr A1 n1 c1 op num den mu hu du bn cnt md A' n' c' mode sn sd) 59] (CW q) fun w7 E7 i0 l0=>?_
  have B7:=B6.trans ((Ce l0).mono B6.size)
  have G7:=i0.sat.good
  refine Ib ((FY d4).getD #[]) ⟨[ι (ε q) (mh k dn tb tm th td fr A1 n1 c1 op num den mu hu du bn cnt md A' n' c' mode sn sd) 59],[(1,0,1),(5,0,0)],[⟨2,[(23,η dn)],ξ (Tk.isName dn),true⟩,⟨6,[(27,ψ (mh k dn tb tm th td fr A1 n1 c1 op num den mu hu du bn cnt md A' n' c' mode sn sd))],ξ vd,(!(!(Tk.isName dn))) && true⟩]⟩ [(16,τ (some ⟨g,off,none⟩) ds.length c),(17,δ (ds.length:Nat)),(18,δ (i:Nat)),(30,ξ (cond (!(Tk.isName dn)) true (!vd)))] (by kernel_rfl) (by kernel_rfl) (by kernel_rfl) G7 (fun sp o=>?_) (fun X=>by kernel_rfl) (by kernel_rfl) fun w8 E8 b8=>?_
  ·simp only [List.mem_cons,List.not_mem_nil,or_false] at o
   rcases o with rfl | rfl
   ·exact AY 70 [.tmp 23] _ (fun _=>by kernel_rfl) fun _ u x=>AQ x (Fz dn u l)
   exact AY 71 [.tmp 27] _ (fun _=>by kernel_rfl) fun _ u x=>AQ x (b u (B7.trans (x.mono B7.size)))
  have B8:=B7.trans (b8.mono B7.size)
  generalize cond (!(Tk.isName dn)) true (!vd)=bad at hv ⊢
  refine Cn 60 (AM d4) (ε w8) [] [] zN [(16,τ (some ⟨g,off,none⟩) ds.length c),(17,δ (ds.length:Nat)),(18,δ (i:Nat)),(30,ξ bad)] (ε w8) [] (CW w8) fun w9 E9 z0 k0=>?_
  have B9:=B8.trans ((Ce k0).mono B8.size)
  cases bad with
  | true=>
   rw [hv]
   refine Du true (fun _=>?_) (fun h=>nomatch h)
   exact FM (fn:=Tryz.f45) 60 (ξ false) fun wz Bz=>⟨rfl,B9.trans (Bz.mono B9.size)⟩
  | false=>
   refine Du false (fun h=>nomatch h) fun _=>?_
   refine Cn 60 (AF zN) (ε w9) [] [] (AZ d6) [(16,τ (some ⟨g,off,none⟩) ds.length c),(17,δ (ds.length:Nat)),(18,δ (IntKind.i64.wrap ((i:Int) + 1)))] (ε w9) [] (CW w9) fun x0 t0 v0 d0=>?_
   rw [Bl i (by omega)]
   refine p _ _ ⟨i + 1,t0,m,rfl,hv,B9.trans ((Ce d0).mono B9.size)⟩ ?_
   show ds.length - AL (δ ((i + 1:Nat):Int)) < ds.length - AL (δ (i:Int))
   simp only [AL]
   omega
 have e0:i=ds.length:=by have:=of_decide_eq_false s; omega
 rw [hv,e0,List.drop_length,C2]
 exact FM (fn:=Tryz.f45) 60 (ξ true) fun wz Bz=>⟨rfl,B5.trans (Bz.mono B5.size)⟩
end
end Go.Proofs.YtkjbdagicjbjjaaGreat

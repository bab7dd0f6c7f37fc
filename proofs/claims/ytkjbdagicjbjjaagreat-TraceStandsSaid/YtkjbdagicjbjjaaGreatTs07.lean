/- Contracts of functions, part 7. -/
import Derived.Test.YtkjbdagicjbjjaaGreatTs06
import Derived.Test.YtkjbdagicjbjjaaGreatTs04
set_option linter.all false
namespace Go.Proofs.YtkjbdagicjbjjaaGreat
noncomputable section
open Go.RowKit
set_option maxRecDepth 100000
set_option maxHeartbeats 1000000
attribute [local irreducible] BD BP AC AD AF Ar AZ AM Aw Bk C6 BO At Fr
theorem Fz (l:List UInt8) (w:World) (hs:l.length≤4294967296):Calls Tryz.prog 70 ([η l]:List Value).toArray w fun e w'=>e=.returned (ξ (Tk.isName l))∧Below (ε w) w w':=
 (gI l w (by unfold maxLen; omega)).mono fun _ _ ⟨a,h2⟩=>⟨a,Rg h2⟩
def F5 (p0:Int):Bool:=cond (decide (-3≤p0)) (decide (p0≤3)) (false)
noncomputable def mn:Code:=Tryz.f147.body.getD .skip
def xA:=Al 1 ([.code mn])
def AEx:=AI xA
theorem Nl (b:Int) (w:World):Calls Tryz.prog 147 ([δ b]:List Value).toArray w fun e w'=>e=.returned (ξ (F5 b))∧Below (ε w) w w':=by
 refine AS (fn:=Tryz.f147) (c:=mn) (n:=9) ?_
 have h:=Wk.start w
 refine As 1 xA h [] fun k d=>?_
 refine Av d [] [] d.G (fun l a=>by cases a) fun j m g=>?_
 refine AB AEx g [] fun i f=>?_
 exact AO f (0,0) _ (by unfold F5; rfl)
def Id (p0:Int):Bool:=cond (decide (0≤p0)) (decide (p0≤6)) (false)
noncomputable def nQ:Code:=Tryz.f109.body.getD .skip
def AAP:=Al 1 ([.code nQ])
def AFl:=AI AAP
theorem RJ (b:Int) (w:World):Calls Tryz.prog 109 ([δ b]:List Value).toArray w fun e w'=>e=.returned (ξ (Id b))∧Below (ε w) w w':=by
 refine AS (fn:=Tryz.f109) (c:=nQ) (n:=9) ?_
 have h:=Wk.start w
 refine As 1 AAP h [] fun k d=>?_
 refine Av d [] [] d.G (fun l a=>by cases a) fun j m g=>?_
 refine AB AFl g [] fun i f=>?_
 exact AO f (0,0) _ (by unfold Id; rfl)
def GV (p0:Int):Bool:=cond (decide (0≤p0)) (decide (p0≤84005)) (false)
noncomputable def nZ:Code:=Tryz.f106.body.getD .skip
def AAf:=Al 1 ([.code nZ])
def AF1:=AI AAf
theorem Nm (b:Int) (w:World):Calls Tryz.prog 106 ([δ b]:List Value).toArray w fun e w'=>e=.returned (ξ (GV b))∧Below (ε w) w w':=by
 refine AS (fn:=Tryz.f106) (c:=nZ) (n:=9) ?_
 have h:=Wk.start w
 refine As 1 AAf h [] fun k d=>?_
 refine Av d [] [] d.G (fun l a=>by cases a) fun j m g=>?_
 refine AB AF1 g [] fun i f=>?_
 exact AO f (0,0) _ (by unfold GV; rfl)
def Er (p0a:Int) (p0b:Int) (p0c:Int):Bool:=cond (cond (F5 p0a) (F5 p0b) (false)) (F5 p0c) (false)
noncomputable def mt:Code:=Tryz.f122.body.getD .skip
def y4:=Al 1 ([.code mt])
def AE1:=AI y4
theorem Jh (a b d:Int) (w:World):Calls Tryz.prog 122 ([ψ [δ a,δ b,δ d]]:List Value).toArray w fun e w'=>e=.returned (ξ (Er a b d))∧Below (ε w) w w':=by
 refine AS (fn:=Tryz.f122) (c:=mt) (n:=16) ?_
 have j:=Wk.start w
 refine CC 1 y4 [ι (ε w) [δ a,δ b,δ d] 50] j [] fun m g=>?_
 refine Av g [(1,0,0),(5,0,1),(10,0,2)] [⟨2,[(4,δ a)],ξ (F5 a),true⟩,⟨6,[(8,δ b)],ξ (F5 b),((F5 a)) && (true)⟩,⟨11,[(13,δ d)],ξ (F5 d),((cond (F5 a) (F5 b) (false))) && (true)⟩] g.G (fun o f=>?_) fun l p i=>?_
 ·simp only [List.mem_cons,List.not_mem_nil,or_false] at f
  rcases f with rfl | rfl | rfl
  ·exact AY 147 [.tmp 4] _ (fun _=>by kernel_rfl) fun hc u hu=>AQ hu (Nl a u)
  ·exact AY 147 [.tmp 8] _ (fun _=>by kernel_rfl) fun hc u hu=>AQ hu (Nl b u)
  exact AY 147 [.tmp 13] _ (fun _=>by kernel_rfl) fun hc u hu=>AQ hu (Nl d u)
 refine AB AE1 i [] fun k h=>?_
 exact AO h (0,0) _ (by unfold Er; rfl)
def EN (p0a:Int) (p0b:Int):Bool:=cond (cond (AV p0a p0b) (decide (0≤p0a)) (false)) (Int.tmod 1000000 p0b == 0) (false)
noncomputable def nW:Code:=Tryz.f123.body.getD .skip
def AAc:=Al 1 ([.code nW])
def AFx:=AI AAc
theorem Ki (b a:Int) (w:World):Calls Tryz.prog 123 ([ψ [δ b,δ a]]:List Value).toArray w fun e w'=>e=.returned (ξ (EN b a))∧Below (ε w) w w':=by
 refine AS (fn:=Tryz.f123) (c:=nW) (n:=16) ?_
 have i:=Wk.start w
 refine CC 1 AAc [ι (ε w) [δ b,δ a] 41] i [] fun l f=>?_
 refine Av f [(0,0,0),(4,0,0),(9,0,1)] [⟨1,[(3,ψ [δ b,δ a])],ξ (AV b a),true⟩,⟨10,[(12,δ a)],δ (Int.tmod 1000000 a),((cond (AV b a) (decide (0≤b)) (false))) && (true)⟩] f.G (fun m d=>?_) fun k o h=>?_
 ·simp only [List.mem_cons,List.not_mem_nil,or_false] at d
  rcases d with rfl | rfl
  ·exact AY 63 [.tmp 3] _ (fun _=>by kernel_rfl) fun hc u hu=>AQ hu (Bt b a u)
  exact BQ fun hc E u _=>Mw (T:=3) (T':=3) (x:=.const (δ 1000000)) (y:=.tmp 12) (by kernel_rfl) (by kernel_rfl) (by kernel_rfl) (by simp [AV] at hc; omega)
 refine AB AFx h [] fun j g=>?_
 exact AO g (0,0) _ (by unfold EN; rfl)
def Hw (p0a:Int) (p0b:Int):Bool:=cond (EN p0a p0b) (decide (0 < p0a)) (false)
noncomputable def nX:Code:=Tryz.f110.body.getD .skip
def AAd:=Al 1 ([.code nX])
def AFy:=AI AAd
theorem RH (b a:Int) (w:World):Calls Tryz.prog 110 ([ψ [δ b,δ a]]:List Value).toArray w fun e w'=>e=.returned (ξ (Hw b a))∧Below (ε w) w w':=by
 refine AS (fn:=Tryz.f110) (c:=nX) (n:=10) ?_
 have i:=Wk.start w
 refine CC 1 AAd [ι (ε w) [δ b,δ a] 41] i [] fun l f=>?_
 refine Av f [(0,0,0),(4,0,0)] [⟨1,[(3,ψ [δ b,δ a])],ξ (EN b a),true⟩] f.G (fun m d=>?_) fun k o h=>?_
 ·rw [List.mem_singleton.1 d]
  exact AY 123 [.tmp 3] _ (fun _=>by kernel_rfl) fun hc u hu=>AQ hu (Ki b a u)
 refine AB AFy h [] fun j g=>?_
 exact AO g (0,0) _ (by unfold Hw; rfl)
def Kj (p0b:Int):Bool:=cond (decide (0 < p0b)) (Int.tmod 100 p0b == 0) (false)
noncomputable def nY:Code:=Tryz.f111.body.getD .skip
def AAe:=Al 1 ([.code nY])
def AF0:=AI AAe
theorem Yc (b a:Int) (w:World):Calls Tryz.prog 111 ([ψ [δ b,δ a]]:List Value).toArray w fun e w'=>e=.returned (ξ (Kj a))∧Below (ε w) w w':=by
 refine AS (fn:=Tryz.f111) (c:=nY) (n:=12) ?_
 have i:=Wk.start w
 refine CC 1 AAe [ι (ε w) [δ b,δ a] 41] i [] fun l f=>?_
 refine Av f [(1,0,1),(5,0,1)] [⟨6,[(8,δ a)],δ (Int.tmod 100 a),((decide (0 < a))) && (true)⟩] f.G (fun m d=>?_) fun k o h=>?_
 ·rw [List.mem_singleton.1 d]
  exact BQ fun hc E u _=>Mw (T:=3) (T':=3) (x:=.const (δ 100)) (y:=.tmp 8) (by kernel_rfl) (by kernel_rfl) (by kernel_rfl) (by simp at hc; omega)
 refine AB AF0 h [] fun j g=>?_
 exact AO g (0,0) _ (by unfold Kj; rfl)
def Dd (p0a:Bool) (p0ba:Int) (p0bb:Int) (p0bc:Int):Bool:=cond (p0a) ((p0ba == 0) && ((p0bb == 0) && (p0bc == 0))) (Er p0ba p0bb p0bc)
noncomputable def mv:Code:=Tryz.f105.body.getD .skip
def oO:=ν ([.code mv])
def y6:=Al 2 (AD oO)
def AE3:=AI y6
def y5:=Ψ oO
def AE2:=Ω y5
theorem IE (h:Bool) (g f d:Int) (w:World):Calls Tryz.prog 105 ([ψ [ξ h,δ g,δ f,δ d]]:List Value).toArray w fun e w'=>e=.returned (ξ (Dd h g f d))∧Below (ε w) w w':=by
 refine AS (fn:=Tryz.f105) (c:=mv) (n:=12) ?_
 have v:=Wk.start w
 refine Ah oO [ι (ε w) [ξ h,δ g,δ f,δ d] 56] v [(0,0)] fun w1 m=>?_
 refine AG (h) (fun j=>?_) (fun j=>?_)
 ·refine As 2 y6 m [] fun w3 l=>?_
  refine Av l [(1,0,1)] [⟨3,[(6,ψ [δ g,δ f,δ d]),(7,ψ [δ 0,δ 0,δ 0])],ξ ((g == 0) && ((f == 0) && (d == 0))),true⟩] l.G (fun sp i=>?_) fun w4 E4 t=>?_
  ·rw [List.mem_singleton.1 i]
   exact BQ fun _ E u _=>DD (k:=.eql) (T:=50) (a:=ψ [δ g,δ f,δ d]) (b:=ψ [δ 0,δ 0,δ 0]) (I7 u g f d 0 0 0)
  refine AB AE3 t [] fun z s=>?_
  exact AO s (0,0) _ (by unfold Dd; rw [j] <;> rfl)
 refine AB y5 m [(0,1)] fun o r=>?_
 refine AP r (Jh g f d o) fun y q=>?_
 refine AB AE2 q [] fun x p=>?_
 exact AO p (0,0) _ (by unfold Dd; rw [j] <;> rfl)
def DB (p0:Int):Int:=cond (p0 == 1) (0) (cond (p0 == 2) (0) (cond (p0 == 3) (0) (cond (p0 == 20) (0) (cond (p0 == 21) (0) (cond (p0 == 4) (1) (cond (p0 == 16) (1) (cond (p0 == 17) (1) (cond (p0 == 19) (1) (cond (p0 == 5) (2) (cond (p0 == 6) (2) (cond (p0 == 7) (2) (cond (p0 == 8) (2) (cond (p0 == 9) (2) (cond (p0 == 10) (2) (cond (p0 == 11) (2) (cond (p0 == 12) (2) (cond (p0 == 13) (2) (cond (p0 == 14) (2) (cond (p0 == 15) (2) (cond (p0 == 18) (3) (-1)))))))))))))))))))))
noncomputable def nS:Code:=Tryz.f148.body.getD .skip
def pG:=ν ([.code nS])
def AAV:=Ξ pG
def AFq:=Ξ AAV
def pF:=Ψ pG
def AAU:=Ξ pF
def AFp:=Ξ AAU
def pE:=Ψ pF
def AAT:=Ξ pE
def AFo:=Ξ AAT
def pD:=Ψ pE
def uo:=Ξ pD
def AEU:=Ξ uo
def e7:=Ψ pD
def AET:=Ξ e7
def e6:=Ψ e7
def um:=Ξ e6
def AES:=Ξ um
def ez:=Ψ e6
def ul:=Ξ ez
def AER:=Ξ ul
def ew:=Ψ ez
def uk:=Ξ ew
def AEQ:=Ξ uk
def eu:=Ψ ew
def AEP:=Ξ eu
def et:=Ψ eu
def uj:=Ξ et
def AEO:=Ξ uj
def eq:=Ψ et
def ui:=Ξ eq
def AEN:=Ξ ui
def ep:=Ψ eq
def uh:=Ξ ep
def AEM:=Ξ uh
def em:=Ψ ep
def ug:=Ξ em
def AEL:=Ξ ug
def el:=Ψ em
def uf:=Ξ el
def AEK:=Ξ uf
def ej:=Ψ el
def ue:=Ξ ej
def AEJ:=Ξ ue
def ei:=Ψ ej
def ud:=Ξ ei
def AEI:=Ξ ud
def eh:=Ψ ei
def ub:=Ξ eh
def AEH:=Ξ ub
def ef:=Ψ eh
def ua:=Ξ ef
def AEG:=Ξ ua
def ee:=Ψ ef
def uZ:=Ξ ee
def AEF:=Ξ uZ
def ed:=Ψ ee
def AEE:=Ξ ed
def ec:=Ψ ed
def AED:=Ξ ec
def AEC:=Ψ ec
theorem qD (d:Int) (w:World):Calls Tryz.prog 148 ([δ d]:List Value).toArray w fun e w'=>e=.returned (δ (DB d))∧Below (ε w) w w':=by
 refine AS (fn:=Tryz.f148) (c:=nS) (n:=29) ?_
 have K1:=Wk.start w
 refine AB pG K1 [] fun w1 K2=>?_
 refine AG (d == 1) (fun q=>?_) (fun q=>?_)
 ·refine AB AAV K2 [] fun w3 K3=>?_
  refine AG (d == 1) (fun _=>?_) (fun h=>nomatch h.symm.trans q)
  refine AB AFq K3 [] fun w5 K4=>?_
  exact AO K4 (0,0) _ (by unfold DB; rw [q] <;> rfl)
 refine AB pF K2 [] fun w6 K5=>?_
 refine AG (d == 2) (fun r=>?_) (fun r=>?_)
 ·refine AB AAU K5 [] fun w8 K6=>?_
  refine AG (d == 2) (fun _=>?_) (fun h=>nomatch h.symm.trans r)
  refine AB AFp K6 [] fun k5 K7=>?_
  exact AO K7 (0,0) _ (by unfold DB; rw [q,r] <;> rfl)
 refine AB pE K5 [] fun h5 K8=>?_
 refine AG (d == 3) (fun a=>?_) (fun a=>?_)
 ·refine AB AAT K8 [] fun g5 K9=>?_
  refine AG (d == 3) (fun _=>?_) (fun h=>nomatch h.symm.trans a)
  refine AB AFo K9 [] fun e5 m2=>?_
  exact AO m2 (0,0) _ (by unfold DB; rw [q,r,a] <;> rfl)
 refine AB pD K8 [] fun c5 x0=>?_
 refine AG (d == 20) (fun b=>?_) (fun b=>?_)
 ·refine AB uo x0 [] fun b5 l2=>?_
  refine AG (d == 20) (fun _=>?_) (fun h=>nomatch h.symm.trans b)
  refine AB AEU l2 [] fun a5 k2=>?_
  exact AO k2 (0,0) _ (by unfold DB; rw [q,r,a,b] <;> rfl)
 refine AB e7 x0 [] fun z4 w0=>?_
 refine AG (d == 21) (fun g=>?_) (fun g=>?_)
 ·refine AB AET w0 [] fun x4 i2=>?_
  exact AO i2 (0,0) _ (by unfold DB; rw [q,r,a,b,g] <;> rfl)
 refine AB e6 w0 [] fun w4 v0=>?_
 refine AG (d == 4) (fun f=>?_) (fun f=>?_)
 ·refine AB um v0 [] fun v4 h2=>?_
  refine AG (d == 4) (fun _=>?_) (fun h=>nomatch h.symm.trans f)
  refine AB AES h2 [] fun t4 g2=>?_
  exact AO g2 (0,0) _ (by unfold DB; rw [q,r,a,b,g,f] <;> rfl)
 refine AB ez v0 [] fun q4 t0=>?_
 refine AG (d == 16) (fun i=>?_) (fun i=>?_)
 ·refine AB ul t0 [] fun p4 e2=>?_
  refine AG (d == 16) (fun _=>?_) (fun h=>nomatch h.symm.trans i)
  refine AB AER e2 [] fun n4 d2=>?_
  exact AO d2 (0,0) _ (by unfold DB; rw [q,r,a,b,g,f,i] <;> rfl)
 refine AB ew t0 [] fun k4 s0=>?_
 refine AG (d == 17) (fun j=>?_) (fun j=>?_)
 ·refine AB uk s0 [] fun h4 b2=>?_
  refine AG (d == 17) (fun _=>?_) (fun h=>nomatch h.symm.trans j)
  refine AB AEQ b2 [] fun g4 a2=>?_
  exact AO a2 (0,0) _ (by unfold DB; rw [q,r,a,b,g,f,i,j] <;> rfl)
 refine AB eu s0 [] fun f4 r0=>?_
 refine AG (d == 19) (fun l=>?_) (fun l=>?_)
 ·refine AB AEP r0 [] fun e4 z1=>?_
  exact AO z1 (0,0) _ (by unfold DB; rw [q,r,a,b,g,f,i,j,l] <;> rfl)
 refine AB et r0 [] fun c4 q0=>?_
 refine AG (d == 5) (fun k=>?_) (fun k=>?_)
 ·refine AB uj q0 [] fun b4 x1=>?_
  refine AG (d == 5) (fun _=>?_) (fun h=>nomatch h.symm.trans k)
  refine AB AEO x1 [] fun a4 v1=>?_
  exact AO v1 (0,0) _ (by unfold DB; rw [q,r,a,b,g,f,i,j,l,k] <;> rfl)
 refine AB eq q0 [] fun z3 m0=>?_
 refine AG (d == 6) (fun m=>?_) (fun m=>?_)
 ·refine AB ui m0 [] fun x3 u1=>?_
  refine AG (d == 6) (fun _=>?_) (fun h=>nomatch h.symm.trans m)
  refine AB AEN u1 [] fun v3 t1=>?_
  exact AO t1 (0,0) _ (by unfold DB; rw [q,r,a,b,g,f,i,j,l,k,m] <;> rfl)
 refine AB ep m0 [] fun t3 l0=>?_
 refine AG (d == 7) (fun o=>?_) (fun o=>?_)
 ·refine AB uh l0 [] fun r3 s1=>?_
  refine AG (d == 7) (fun _=>?_) (fun h=>nomatch h.symm.trans o)
  refine AB AEM s1 [] fun q3 r1=>?_
  exact AO r1 (0,0) _ (by unfold DB; rw [q,r,a,b,g,f,i,j,l,k,m,o] <;> rfl)
 refine AB em l0 [] fun p3 k0=>?_
 refine AG (d == 8) (fun p=>?_) (fun p=>?_)
 ·refine AB ug k0 [] fun o3 q1=>?_
  refine AG (d == 8) (fun _=>?_) (fun h=>nomatch h.symm.trans p)
  refine AB AEL q1 [] fun n3 p1=>?_
  exact AO p1 (0,0) _ (by unfold DB; rw [q,r,a,b,g,f,i,j,l,k,m,o,p] <;> rfl)
 refine AB el k0 [] fun m3 j0=>?_
 refine AG (d == 9) (fun s=>?_) (fun s=>?_)
 ·refine AB uf j0 [] fun l3 o1=>?_
  refine AG (d == 9) (fun _=>?_) (fun h=>nomatch h.symm.trans s)
  refine AB AEK o1 [] fun k3 n1=>?_
  exact AO n1 (0,0) _ (by unfold DB; rw [q,r,a,b,g,f,i,j,l,k,m,o,p,s] <;> rfl)
 refine AB ej j0 [] fun i3 i0=>?_
 refine AG (d == 10) (fun t=>?_) (fun t=>?_)
 ·refine AB ue i0 [] fun h3 m1=>?_
  refine AG (d == 10) (fun _=>?_) (fun h=>nomatch h.symm.trans t)
  refine AB AEJ m1 [] fun g3 l1=>?_
  exact AO l1 (0,0) _ (by unfold DB; rw [q,r,a,b,g,f,i,j,l,k,m,o,p,s,t] <;> rfl)
 refine AB ei i0 [] fun f3 h0=>?_
 refine AG (d == 11) (fun u=>?_) (fun u=>?_)
 ·refine AB ud h0 [] fun e3 k1=>?_
  refine AG (d == 11) (fun _=>?_) (fun h=>nomatch h.symm.trans u)
  refine AB AEI k1 [] fun c3 i1=>?_
  exact AO i1 (0,0) _ (by unfold DB; rw [q,r,a,b,g,f,i,j,l,k,m,o,p,s,t,u] <;> rfl)
 refine AB eh h0 [] fun b3 g0=>?_
 refine AG (d == 12) (fun v=>?_) (fun v=>?_)
 ·refine AB ub g0 [] fun a3 h1=>?_
  refine AG (d == 12) (fun _=>?_) (fun h=>nomatch h.symm.trans v)
  refine AB AEH h1 [] fun z2 g1=>?_
  exact AO g1 (0,0) _ (by unfold DB; rw [q,r,a,b,g,f,i,j,l,k,m,o,p,s,t,u,v] <;> rfl)
 refine AB ef g0 [] fun x2 e0=>?_
 refine AG (d == 13) (fun x=>?_) (fun x=>?_)
 ·refine AB ua e0 [] fun w2 f1=>?_
  refine AG (d == 13) (fun _=>?_) (fun h=>nomatch h.symm.trans x)
  refine AB AEG f1 [] fun v2 e1=>?_
  exact AO e1 (0,0) _ (by unfold DB; rw [q,r,a,b,g,f,i,j,l,k,m,o,p,s,t,u,v,x] <;> rfl)
 refine AB ee e0 [] fun u2 d0=>?_
 refine AG (d == 14) (fun y=>?_) (fun y=>?_)
 ·refine AB uZ d0 [] fun t2 d1=>?_
  refine AG (d == 14) (fun _=>?_) (fun h=>nomatch h.symm.trans y)
  refine AB AEF d1 [] fun s2 c1=>?_
  exact AO c1 (0,0) _ (by unfold DB; rw [q,r,a,b,g,f,i,j,l,k,m,o,p,s,t,u,v,x,y] <;> rfl)
 refine AB ed d0 [] fun r2 c0=>?_
 refine AG (d == 15) (fun z=>?_) (fun z=>?_)
 ·refine AB AEE c0 [] fun q2 b1=>?_
  exact AO b1 (0,0) _ (by unfold DB; rw [q,r,a,b,g,f,i,j,l,k,m,o,p,s,t,u,v,x,y,z] <;> rfl)
 refine AB ec c0 [] fun p2 b0=>?_
 refine AG (d == 18) (fun a0=>?_) (fun a0=>?_)
 ·refine AB AED b0 [] fun o2 a1=>?_
  exact AO a1 (0,0) _ (by unfold DB; rw [q,r,a,b,g,f,i,j,l,k,m,o,p,s,t,u,v,x,y,z,a0] <;> rfl)
 refine AB AEC b0 [] fun n2 z0=>?_
 exact AO z0 (0,0) _ (by unfold DB; rw [q,r,a,b,g,f,i,j,l,k,m,o,p,s,t,u,v,x,y,z,a0] <;> rfl)
def CO (p0a:Int) (p0ba:Int) (p0bb:Int) (p0ca:Int) (p0cb:Int) (p0cc:Int) (p0d:List UInt8) (p0e:Int) (p0f:Int):Bool:=cond (p0a == 1) (cond (cond (cond (cond (EN p0ba p0bb) (Er p0ca p0cb p0cc) (false)) (decide (p0d=[])) (false)) (p0e == 0) (false)) (p0f == 0) (false)) (cond (p0a == 2) (cond (cond (cond (cond ((p0ba == 0) && (p0bb == 0)) ((p0ca == 0) && ((p0cb == 0) && (p0cc == 0))) (false)) (decide (p0d=[])) (false)) (cond (p0e == 0) (true) (p0e == 1)) (false)) (p0f == 0) (false)) (cond (p0a == 3) (cond (cond (cond (cond ((p0ba == 0) && (p0bb == 0)) ((p0ca == 0) && ((p0cb == 0) && (p0cc == 0))) (false)) (Tk.isName p0d) (false)) (p0e == 0) (false)) (p0f == 0) (false)) (cond (p0a == 4) (cond (cond (cond (cond ((p0ba == 0) && (p0bb == 0)) ((p0ca == 0) && ((p0cb == 0) && (p0cc == 0))) (false)) (Tk.isName p0d) (false)) (p0e == 0) (false)) (p0f == 0) (false)) (cond (p0a == 19) (cond (cond (cond (cond (Hw p0ba p0bb) (Er p0ca p0cb p0cc) (false)) (decide (p0d=[])) (false)) (p0e == 0) (false)) (Id p0f) (false)) (cond (p0a == 20) (cond (cond (cond (cond ((p0ba == 0) && (p0bb == 0)) ((p0ca == 0) && ((p0cb == 0) && (p0cc == 0))) (false)) (Tk.isName p0d) (false)) (cond (decide (1≤p0e)) (decide (p0e≤120)) (false)) (false)) (p0f == 0) (false)) (cond (p0a == 21) (cond (cond (cond (cond ((p0ba == 0) && (p0bb == 0)) ((p0ca == 0) && ((p0cb == 0) && (p0cc == 0))) (false)) (Tk.isName p0d) (false)) (cond (decide (1≤p0e)) (decide (p0e≤120)) (false)) (false)) (p0f == 0) (false)) (cond (cond (cond (cond ((p0ba == 0) && (p0bb == 0)) ((p0ca == 0) && ((p0cb == 0) && (p0cc == 0))) (false)) (decide (p0d=[])) (false)) (p0e == 0) (false)) (p0f == 0) (false))))))))
noncomputable def mw:Code:=Tryz.f149.body.getD .skip
def zE:=Al 1 ([.code mw])
def zD:=Al 2 (AM zE)
def zC:=Al 3 (AM zD)
def oR:=AI zC
def zB:=Al 6 (AD oR)
def zA:=Al 18 (AM zB)
def AE4:=AI zA
def oQ:=Ψ oR
def y9:=Al 8 (AD oQ)
def y8:=Al 18 (AM y9)
def ADo:=AI y8
def dq:=Ψ oQ
def uG:=Ξ dq
def uF:=Ξ uG
def uE:=Al 18 (AC uF)
def ADn:=AI uE
def dp:=Ψ dq
def uD:=Ξ dp
def uC:=Al 18 (AC uD)
def ADm:=AI uC
def dm:=Ψ dp
def uB:=Al 13 (AD dm)
def t8:=Al 18 (AM uB)
def ADl:=AI t8
def dl:=Ψ dm
def t7:=Ξ dl
def tz:=Ξ t7
def tx:=Al 17 (AC tz)
def tw:=Al 18 (AM tx)
def ADk:=AI tw
def dk:=Ψ dl
def tv:=Ξ dk
def tu:=Al 17 (AC tv)
def tt:=Al 18 (AM tu)
def ADj:=AI tt
def tq:=Al 18 (AF dk)
def ADi:=AI tq
theorem P5 (m l j i g f:Int) (o:List UInt8) (d0 s:Int) (c0:Option Addr) (a0 b0:Nat) (w:World) (hs:o.length≤4294967296):Calls Tryz.prog 149 ([ψ [δ m,δ l,δ j,δ i,δ g,δ f,η o,δ d0,δ s,τ c0 a0 b0]]:List Value).toArray w fun e w'=>e=.returned (ξ (CO m l j i g f o d0 s))∧Below (ε w) w w':=by
 refine AS (fn:=Tryz.f149) (c:=mw) (n:=89) ?_
 have K1:=Wk.start w
 refine CC 1 zE [ι (ε w) [δ m,δ l,δ j,δ i,δ g,δ f,η o,δ d0,δ s,τ c0 a0 b0] 53] K1 [] fun w1 K2=>?_
 refine Av K2 [(1,0,1)] [⟨3,[(9,ψ [δ l,δ j]),(10,ψ [δ 0,δ 0])],ξ ((l == 0) && (j == 0)),true⟩] K2.G (fun r d=>?_) fun w2 E2 K3=>?_
 ·rw [List.mem_singleton.1 d]
  exact BQ fun _ E u _=>DD (k:=.eql) (T:=41) (a:=ψ [δ l,δ j]) (b:=ψ [δ 0,δ 0]) (FJ u l j 0 0)
 refine As 2 zD K3 [] fun w3 K4=>?_
 refine Av K4 [(1,0,3)] [⟨3,[(13,ψ [δ i,δ g,δ f]),(14,ψ [δ 0,δ 0,δ 0])],ξ ((i == 0) && ((g == 0) && (f == 0))),true⟩] K4.G (fun r d=>?_) fun w4 E4 K5=>?_
 ·rw [List.mem_singleton.1 d]
  exact BQ fun _ E u _=>DD (k:=.eql) (T:=50) (a:=ψ [δ i,δ g,δ f]) (b:=ψ [δ 0,δ 0,δ 0]) (I7 u i g f 0 0 0)
 refine As 3 zC K5 [] fun w5 K6=>?_
 refine Av K6 [(1,0,6),(4,0,7),(7,0,8)] [⟨2,[(17,η o)],ξ (decide (o=[])),true⟩] K6.G (fun r d=>?_) fun w6 E6 K7=>?_
 ·rw [List.mem_singleton.1 d]
  exact BQ fun _ E u _=>Hl (T:=9) (T':=9) (x:=.tmp 17) (y:=.const (η []))
 refine AB oR K7 [(0,0)] fun w7 K8=>?_
 refine AG (m == 1) (fun c8=>?_) (fun c8=>?_)
 ·refine As 6 zB K8 [] fun w9 K9=>?_
  refine Av K9 [(1,0,1),(4,0,3)] [⟨2,[(30,ψ [δ l,δ j])],ξ (EN l j),true⟩,⟨5,[(33,ψ [δ i,δ g,δ f])],ξ (Er i g f),true⟩] K9.G (fun r d=>?_) fun b5 b6 p2=>?_
  ·simp only [List.mem_cons,List.not_mem_nil,or_false] at d
   rcases d with rfl | rfl
   ·exact AY 123 [.tmp 30] _ (fun _=>by kernel_rfl) fun hc u hu=>AQ hu (Ki l j u)
   exact AY 122 [.tmp 33] _ (fun _=>by kernel_rfl) fun hc u hu=>AQ hu (Jh i g f u)
  refine As 18 zA p2 [] fun a5 b1=>?_
  refine Av b1 [] [] b1.G (fun r d=>by cases d) fun z4 a6 o2=>?_
  refine AB AE4 o2 [] fun x4 n2=>?_
  exact AO n2 (0,0) _ (by unfold CO; rw [c8] <;> rfl)
 refine AB oQ K8 [] fun v4 a1=>?_
 refine AG (m == 2) (fun q=>?_) (fun q=>?_)
 ·refine As 8 y9 a1 [] fun t4 z0=>?_
  refine Av z0 [(1,0,7),(5,0,7)] [] z0.G (fun r d=>by cases d) fun q4 z5 m2=>?_
  refine As 18 y8 m2 [] fun p4 x0=>?_
  refine Av x0 [] [] x0.G (fun r d=>by cases d) fun n4 x5 l2=>?_
  refine AB ADo l2 [] fun k4 k2=>?_
  exact AO k2 (0,0) _ (by unfold CO; rw [c8,q] <;> rfl)
 refine AB dq a1 [] fun h4 w0=>?_
 refine AG (m == 3) (fun p=>?_) (fun p=>?_)
 ·refine AB uG w0 [] fun g4 i2=>?_
  refine AG (m == 3) (fun _=>?_) (fun h=>nomatch h.symm.trans p)
  refine AB uF i2 [(0,6)] fun f1 h2=>?_
  refine AP h2 (Fz o f1 (by assumption)) fun f4 g2=>?_
  refine As 18 uE g2 [] fun e4 v0=>?_
  refine Av v0 [] [] v0.G (fun r d=>by cases d) fun c4 v5 e2=>?_
  refine AB ADn e2 [] fun b4 d2=>?_
  exact AO d2 (0,0) _ (by unfold CO; rw [c8,q,p] <;> rfl)
 refine AB dp w0 [] fun a4 t0=>?_
 refine AG (m == 4) (fun t=>?_) (fun t=>?_)
 ·refine AB uD t0 [(0,6)] fun e1 c2=>?_
  refine AP c2 (Fz o e1 (by assumption)) fun z3 b2=>?_
  refine As 18 uC b2 [] fun x3 s0=>?_
  refine Av s0 [] [] s0.G (fun r d=>by cases d) fun v3 u5 a2=>?_
  refine AB ADm a2 [] fun t3 z1=>?_
  exact AO z1 (0,0) _ (by unfold CO; rw [c8,q,p,t] <;> rfl)
 refine AB dm t0 [] fun r3 r0=>?_
 refine AG (m == 19) (fun z=>?_) (fun z=>?_)
 ·refine As 13 uB r0 [] fun q3 q0=>?_
  refine Av q0 [(1,0,1),(4,0,3),(7,0,8)] [⟨2,[(54,ψ [δ l,δ j])],ξ (Hw l j),true⟩,⟨5,[(57,ψ [δ i,δ g,δ f])],ξ (Er i g f),true⟩,⟨8,[(60,δ s)],ξ (Id s),true⟩] q0.G (fun r d=>?_) fun p3 t5 x1=>?_
  ·simp only [List.mem_cons,List.not_mem_nil,or_false] at d
   rcases d with rfl | rfl | rfl
   ·exact AY 110 [.tmp 54] _ (fun _=>by kernel_rfl) fun hc u hu=>AQ hu (RH l j u)
   ·exact AY 122 [.tmp 57] _ (fun _=>by kernel_rfl) fun hc u hu=>AQ hu (Jh i g f u)
   exact AY 109 [.tmp 60] _ (fun _=>by kernel_rfl) fun hc u hu=>AQ hu (RJ s u)
  refine As 18 t8 x1 [] fun o3 p0=>?_
  refine Av p0 [] [] p0.G (fun r d=>by cases d) fun n3 q5 v1=>?_
  refine AB ADl v1 [] fun m3 u1=>?_
  exact AO u1 (0,0) _ (by unfold CO; rw [c8,q,p,t,z] <;> rfl)
 refine AB dl r0 [] fun l3 m0=>?_
 refine AG (m == 20) (fun v=>?_) (fun v=>?_)
 ·refine AB t7 m0 [] fun k3 t1=>?_
  refine AG (m == 20) (fun _=>?_) (fun h=>nomatch h.symm.trans v)
  refine AB tz t1 [(0,6)] fun d1 s1=>?_
  refine AP s1 (Fz o d1 (by assumption)) fun i3 r1=>?_
  refine As 17 tx r1 [] fun h3 l0=>?_
  refine Av l0 [(1,0,7),(5,0,7)] [] l0.G (fun r d=>by cases d) fun g3 k5 q1=>?_
  refine As 18 tw q1 [] fun f3 k0=>?_
  refine Av k0 [] [] k0.G (fun r d=>by cases d) fun e3 h5 p1=>?_
  refine AB ADk p1 [] fun c3 o1=>?_
  exact AO o1 (0,0) _ (by unfold CO; rw [c8,q,p,t,z,v] <;> rfl)
 refine AB dk m0 [] fun b3 j0=>?_
 refine AG (m == 21) (fun e0=>?_) (fun e0=>?_)
 ·refine AB tv j0 [(0,6)] fun c1 n1=>?_
  refine AP n1 (Fz o c1 (by assumption)) fun a3 m1=>?_
  refine As 17 tu m1 [] fun z2 i0=>?_
  refine Av i0 [(1,0,7),(5,0,7)] [] i0.G (fun r d=>by cases d) fun x2 g5 l1=>?_
  refine As 18 tt l1 [] fun v2 h0=>?_
  refine Av h0 [] [] h0.G (fun r d=>by cases d) fun u2 e5 k1=>?_
  refine AB ADj k1 [] fun t2 i1=>?_
  exact AO i1 (0,0) _ (by unfold CO; rw [c8,q,p,t,z,v,e0] <;> rfl)
 refine As 18 tq j0 [] fun s2 g0=>?_
 refine Av g0 [] [] g0.G (fun r d=>by cases d) fun r2 c5 h1=>?_
 refine AB ADi h1 [] fun q2 g1=>?_
 exact AO g1 (0,0) _ (by unfold CO; rw [c8,q,p,t,z,v,e0] <;> rfl)
def G5 (p0a:Int) (p0ba:Int) (p0bb:Int) (p0ca:Int) (p0cb:Int) (p0cc:Int) (p0d:List UInt8) (p0e:Int) (p0f:Int) (p0gn:Nat):Bool:=cond (cond (cond (cond (cond (cond (p0a == 0) ((p0ba == 0) && (p0bb == 0)) (false)) ((p0ca == 0) && ((p0cb == 0) && (p0cc == 0))) (false)) (decide (p0d=[])) (false)) (p0e == 0) (false)) (p0f == 0) (false)) ((p0gn:Int) == 0) (false)
noncomputable def nV:Code:=Tryz.f104.body.getD .skip
def AAb:=Al 1 ([.code nV])
def AFw:=AI AAb
theorem gH (j f d i h g:Int) (m:List UInt8) (r q:Int) (p:Option Addr) (l o:Nat) (w:World):Calls Tryz.prog 104 ([ψ [δ j,δ f,δ d,δ i,δ h,δ g,η m,δ r,δ q,τ p l o]]:List Value).toArray w fun e w'=>e=.returned (ξ (G5 j f d i h g m r q l))∧Below (ε w) w w':=by
 refine AS (fn:=Tryz.f104) (c:=nV) (n:=39) ?_
 have K1:=Wk.start w
 refine CC 1 AAb [ι (ε w) [δ j,δ f,δ d,δ i,δ h,δ g,η m,δ r,δ q,τ p l o] 53] K1 [] fun w1 t=>?_
 refine Av t [(1,0,0),(5,0,1),(11,0,3),(17,0,6),(22,0,7),(27,0,8),(32,0,9)] [⟨7,[(8,ψ [δ f,δ d]),(9,ψ [δ 0,δ 0])],ξ ((f == 0) && (d == 0)),((j == 0)) && (true)⟩,⟨13,[(14,ψ [δ i,δ h,δ g]),(15,ψ [δ 0,δ 0,δ 0])],ξ ((i == 0) && ((h == 0) && (g == 0))),((cond (j == 0) ((f == 0) && (d == 0)) (false))) && (true)⟩,⟨18,[(20,η m)],ξ (decide (m=[])),((cond (cond (j == 0) ((f == 0) && (d == 0)) (false)) ((i == 0) && ((h == 0) && (g == 0))) (false))) && (true)⟩] t.G (fun sp s=>?_) fun w2 E2 z=>?_
 ·simp only [List.mem_cons,List.not_mem_nil,or_false] at s
  rcases s with rfl | rfl | rfl
  ·exact BQ fun _ E u _=>DD (k:=.eql) (T:=41) (a:=ψ [δ f,δ d]) (b:=ψ [δ 0,δ 0]) (FJ u f d 0 0)
  ·exact BQ fun _ E u _=>DD (k:=.eql) (T:=50) (a:=ψ [δ i,δ h,δ g]) (b:=ψ [δ 0,δ 0,δ 0]) (I7 u i h g 0 0 0)
  exact BQ fun _ E u _=>Hl (T:=9) (T':=9) (x:=.tmp 20) (y:=.const (η []))
 refine AB AFw z [] fun w3 v=>?_
 exact AO v (0,0) _ (by unfold G5; rfl)
end
end Go.Proofs.YtkjbdagicjbjjaaGreat
namespace Go.Proofs.YtkjbdagicjbjjaaGreat
noncomputable section
open Go.RowKit
set_option maxRecDepth 100000
mutual
def Fu:Ex→Int→Bool
 | .mk op num den mu hu du name count mode kids,h=>cond (cond (cond (decide (h < 1)) true (!((kids.length:Int) == DB op))) true (!(CO op num den mu hu du name count mode))) false (GM kids (h - 1))
def GM:List Ex→Int→Bool
 | [],_=>true
 | e :: es,h=>cond (!(Fu e h)) false (GM es h)
end
mutual
def Dm:Ex→Prop
 | .mk _ _ _ _ _ _ name _ _ kids=>name.length≤4294967296∧kids.length≤4294967296∧Is kids
def Is:List Ex→Prop
 | []=>True
 | e :: es=>Dm e∧Is es
end
theorem Mv:∀ {es:List Ex} {i:Nat} {e:Ex},Is es→es[i]?=some e→Dm e
 | [],_,_,_,h=>by simp at h
 | x :: es,0,e,h,hi=>by unfold Is at h; simp at hi; exact hi ▸ h.1
 | x :: es,i + 1,e,h,hi=>by unfold Is at h; exact Mv h.2 (by simpa using hi)
theorem Mu {S:Nat→Prop} {w:World}:∀ {es:List Ex} {ks:List (List Value)} {i:Nat} {e:Ex},FU S w es ks→es[i]?=some e→∃ r,ks[i]?=some r∧DE S w e r
 | [],_,_,_,_,h=>by simp at h
 | x :: es,ks,i,e,h,hi=>by
  unfold FU at h
  obtain ⟨c,b,rfl,a,h2⟩:=h
  cases i with
  | zero=>simp at hi; subst hi; exact ⟨c,by simp,a⟩
  | succ i=>obtain ⟨r,hr,hx⟩:=Mu (i:=i) h2 (by simpa using hi); exact ⟨r,by simpa using hr,hx⟩
theorem JM:∀ {es:List Ex} {i:Nat} {e:Ex},es[i]?=some e→Ex.height e≤Ex.heights es
 | [],_,_,h=>by simp at h
 | x :: es,0,e,h=>by unfold Ex.heights; simp at h; subst h; omega
 | x :: es,i + 1,e,h=>by unfold Ex.heights; have:=JM (es:=es) (i:=i) (e:=e) (by simpa using h); omega
abbrev CN:Nat→Prop:=fun _=>True
theorem DE.below {w w':World} {e:Ex} {a:List Value} (h:DE CN w e a) (B:Below (ε w) w w'):DE CN w' e a:=DE.keep B.size (fun g _ hg=>⟨trivial,B.block g hg⟩) e a h
theorem FU.below {w w':World} {es:List Ex} {ks:List (List Value)} (h:FU CN w es ks) (B:Below (ε w) w w'):FU CN w' es ks:=FU.keep B.size (fun g _ hg=>⟨trivial,B.block g hg⟩) es ks h
theorem DH.below {w w':World} {n:Nat} {A:Option Addr} {rs:List (List Value)} (h:DH CN w n A rs) (B:Below (ε w) w w'):DH CN w' n A rs:=DH.keep h B.size fun g _ hg=>⟨trivial,B.block g hg⟩
abbrev O8 (op num den mu hu du:Int) (nm:List UInt8) (cnt md:Int) (A:Option Addr) (n c:Nat):List Value:=[δ op,δ num,δ den,δ mu,δ hu,δ du,η nm,δ cnt,δ md,τ A n c]
noncomputable def Rb:Code:=Tryz.f124.body.getD .skip
def dw:=Al 1 [.code Rb]
def oU:=AI dw
def dt:=Ψ oU
def WG:=ν (Ar dt)
def oT:=AA (An Ae 90 (AD WG)) (AD WG)
def oS:=ν (AC (AC oT))
def zF:=Ω oS
def SY (n:Nat):Prop:=∀ (e:Ex) (cs:List Value) (h:Int) (w:World),e.height≤n→Dm e→DE CN w e cs→-1000000≤h→h≤1000000→Calls Tryz.prog 124 ([ψ cs,δ h]:List Value).toArray w fun en w'=>en=.returned (ξ (Fu e h))∧Below (ε w) w w'
theorem iI {kids:List Ex} {h:Int}:∀ (i:Nat) (e:Ex),kids[i]?=some e→GM (kids.drop i) h=cond (!(Fu e h)) false (GM (kids.drop (i + 1)) h):=fun i e hi=>by
 have hl:i < kids.length:=(List.getElem?_eq_some_iff.1 hi).1
 have he:kids[i]=e:=(List.getElem?_eq_some_iff.1 hi).2
 rw [← List.getElem_cons_drop hl,GM,he]
theorem oH (n:Nat) (IH:SY n):SY (n + 1):=by
 rintro ⟨op,num,den,mu,hu,du,nm,cnt,md,kids⟩ cs h w hh ht hx h0 h1
 unfold DE at hx
 obtain ⟨A,c,ks,rfl,e0,a⟩:=hx
 unfold Dm at ht
 obtain ⟨hs,hl,ht⟩:=ht
 have x0:Ex.heights kids≤n:=by unfold Ex.height at hh; omega
 clear hh
 rw [show Fu (.mk op num den mu hu du nm cnt md kids) h=cond (cond (cond (decide (h < 1)) true (!((kids.length:Int) == DB op))) true (!(CO op num den mu hu du nm cnt md))) false (GM kids (h - 1)) by rw [Fu]]
 refine Ia (args:=[ψ (O8 op num den mu hu du nm cnt md A kids.length c),δ h]) (fn:=Tryz.f124) (c:=Rb) (n:=36) ?_
 refine Cn (KA 1 90 [.code Rb]) [.code Rb] (ε w) [] [] dw [(1,δ h),(2,ζ (ε w))] (ε w + 1) [ι (ε w) (O8 op num den mu hu du nm cnt md A kids.length c) 53] (CW w) fun w1 E1 i0 r0=>?_
 have B1:Below (ε w) w w1:=Ce r0
 have G1:=i0.sat.good
 refine Ib ((FY dw).getD #[]) ⟨[ι (ε w) (O8 op num den mu hu du nm cnt md A kids.length c) 53],[(4,0,9),(7,0,0),(12,0,0)],[⟨8,[(14,δ op)],δ (DB op),(!(decide (h < 1))) && true⟩,⟨13,[(19,ψ (O8 op num den mu hu du nm cnt md A kids.length c))],ξ (CO op num den mu hu du nm cnt md),(!(cond (decide (h < 1)) true (!((kids.length:Int) == DB op)))) && true⟩]⟩ [(1,δ h),(2,ζ (ε w)),(22,ξ (cond (cond (decide (h < 1)) true (!((kids.length:Int) == DB op))) true (!(CO op num den mu hu du nm cnt md))))] (by kernel_rfl) (by kernel_rfl) (by kernel_rfl) G1 (fun sp y=>?_) (fun X=>by kernel_rfl) (by kernel_rfl) fun x E2 b2=>?_
 ·simp only [List.mem_cons,List.not_mem_nil,or_false] at y
  rcases y with rfl | rfl
  ·exact AY 148 [.tmp 14] _ (fun _=>by kernel_rfl) fun _ u t=>AQ t (qD op u)
  exact AY 149 [.tmp 19] _ (fun _=>by kernel_rfl) fun _ u t=>AQ t (P5 op num den mu hu du nm cnt md A kids.length c u hs)
 have B2:=B1.trans (b2.mono B1.size)
 have G2:=CQ G1 b2
 have b:cond (cond (decide (h < 1)) true (!((kids.length:Int) == DB op))) true (!(CO op num den mu hu du nm cnt md))=false→1≤h:=fun t=>by
  by_cases hb:h < 1
  ·rw [decide_eq_true hb] at t; exact nomatch t
  omega
 generalize cond (cond (decide (h < 1)) true (!((kids.length:Int) == DB op))) true (!(CO op num den mu hu du nm cnt md))=bad at b ⊢
 refine Cn 60 (AM dw) (ε x) [] [] oU [(1,δ h),(2,ζ (ε w)),(22,ξ bad)] (ε x) [] (CW x) fun w3 E3 f1 q0=>?_
 have b3:Below (ε x) x w3:=Ce q0
 have B3:=B2.trans (b3.mono B2.size)
 have G3:=CQ G2 b3
 cases bad with
 | true=>
  refine Du true (fun _=>?_) (fun h=>nomatch h)
  exact FM (fn:=Tryz.f124) 60 (ξ false) fun wz Bz=>⟨rfl,B3.trans (Bz.mono B3.size)⟩
 | false=>
 rw [show cond false false (GM kids (h - 1))=GM kids (h - 1) from rfl]
 have b:=b rfl
 refine Du false (fun h=>nomatch h) fun _=>?_
 refine Cn 60 (AF oU) (ε w3) _ [(0,9)] dt [(1,δ h),(24,τ A kids.length c),(25,δ (kids.length:Nat)),(26,δ ((0:Nat):Int))] (ε w3) [ι (ε w) (O8 op num den mu hu du nm cnt md A kids.length c) 53] (OV w3 _ G3 (by simp)) fun w4 E4 e1 p0=>?_
 have B4:Below (ε w) w w4:=B3.trans (p0.below B3.size (fun k hk=>by rw [List.mem_singleton.1 hk]; exact Nat.le_refl _))
 refine Bo (by kernel_rfl) (fun E v=>∃ (i:Nat) (E0:Nat→Value),i≤kids.length∧E=BE E0 [(1,δ h),(24,τ A kids.length c),(25,δ (kids.length:Nat)),(26,δ (i:Nat))]∧GM kids (h - 1)=GM (kids.drop i) (h - 1)∧Below (ε w) w v)
  (fun E _=>kids.length - AL (E 26)) ⟨0,E4,Nat.zero_le _,rfl,rfl,B4⟩ ?_
 rintro E v ⟨i,E0,hi,rfl,hv,Bx⟩ f
 refine Cn 60 (Ar dt) (ε v) [] [] WG [(1,δ h),(24,τ A kids.length c),(25,δ (kids.length:Nat)),(26,δ (i:Nat)),(27,ξ (decide ((i:Int) < (kids.length:Int))))] (ε v) [] (CW v) fun s E5 d1 m0=>?_
 have B5:=Bx.trans ((Ce m0).mono Bx.size)
 refine Du (decide ((i:Int) < (kids.length:Int))) (fun o=>?_) (fun o=>?_)
 ·have d:i < kids.length:=by have:=of_decide_eq_true o; omega
  obtain ⟨e,he⟩:∃ e,kids[i]?=some e:=⟨_,List.getElem?_eq_getElem d⟩
  rw [iI i e he] at hv
  obtain ⟨r,hr,m⟩:=Mu e0 he
  rcases a with a | ⟨g,off,rfl,_,hg,p⟩
  ·rw [a] at hr; simp at hr
  have l:=p i r hr
  have b0:r.length=10:=by
   obtain ⟨_,_,_,_,_,_,_,_,_,_,_,_,rfl⟩:=m.cells
   rfl
  have w0:s.rangeAt g (off + i * 10) r:=fun j u hu=>(World.cell?_of_block (B5.block g hg)).trans (l j u hu)
  refine Cn (An Ae 90 (AD WG)) (AD WG) (ε s) [] [] oT [(1,δ h),(24,τ (some ⟨g,off,none⟩) kids.length c),(25,δ (kids.length:Nat)),(26,δ (i:Nat))] (ε s) [] (CW s) fun q E6 c1 l0=>?_
  have b6:Below (ε s) s q:=Ce l0
  have B6:=B5.trans (b6.mono B5.size)
  have d0:q.rangeAt g (off + i * 10) r:=fun j u hu=>(World.cell?_of_block (B6.block g hg)).trans (l j u hu)
  refine Ay (g:=g) (off:=off) (cap:=c) (sz:=10) (k:=i) (len:=kids.length) (some 28) d Tryz.underlying51 ?_
  refine BN 53 g (off + i * 10) r (some 29) (h2:=by rw [b0]; kernel_rfl) d0 ?_
  have c0:IntKind.i64.wrap (h - 1)=h - 1:=IntWalk.i64_in _ (by omega)
  obtain ⟨a0,a1,a2,a3,a4,a5,a6,a7,a8,A9,n9,c9,rfl⟩:=m.cells
  refine Cn 60 (AC (AC oT)) (ε q) [] [(0,0),(0,0)] oS [(1,δ h),(24,τ (some ⟨g,off,none⟩) kids.length c),(25,δ (kids.length:Nat)),(26,δ (i:Nat)),(30,ψ (O8 a0 a1 a2 a3 a4 a5 a6 a7 a8 A9 n9 c9)),(32,δ (IntKind.i64.wrap (h - 1)))] (ε q + 1) [ι (ε q) (O8 a0 a1 a2 a3 a4 a5 a6 a7 a8 A9 n9 c9) 53] (CW q) fun w7 E7 b1 k0=>?_
  have B7:=B6.trans ((Ce k0).mono B6.size)
  rw [c0]
  refine L9 124 [.tmp 30,.tmp 32] (some 33) [ψ (O8 a0 a1 a2 a3 a4 a5 a6 a7 a8 A9 n9 c9),δ (h - 1)] (by kernel_rfl) (by kernel_rfl) (by kernel_rfl) ((IH e _ (h - 1) w7 (by have:=JM he; omega) (Mv ht he) (m.below B7) (by omega) (by omega)).mono fun en w8 hh=>?_)
  obtain ⟨rfl,b8⟩:=hh
  refine ⟨_,rfl,?_⟩
  have B8:=B7.trans (b8.mono B7.size)
  generalize Fu e (h - 1)=be at *
  refine Cn 60 (AC oS) (ε w8) [] [] zF [(1,δ h),(24,τ (some ⟨g,off,none⟩) kids.length c),(25,δ (kids.length:Nat)),(26,δ (i:Nat)),(34,ξ (!be))] (ε w8) [] (CW w8) fun w9 E9 z0 j0=>?_
  have B9:=B8.trans ((Ce j0).mono B8.size)
  cases be with
  | false=>
   rw [hv]
   refine Du true (fun _=>?_) (fun h=>nomatch h)
   exact FM (fn:=Tryz.f124) 60 (ξ false) fun wz Bz=>⟨rfl,B9.trans (Bz.mono B9.size)⟩
  | true=>
   refine Du false (fun h=>nomatch h) fun _=>?_
   refine Cn 60 (AF zF) (ε w9) [] [] (AZ dt) [(1,δ h),(24,τ (some ⟨g,off,none⟩) kids.length c),(25,δ (kids.length:Nat)),(26,δ (IntKind.i64.wrap ((i:Int) + 1)))] (ε w9) [] (CW w9) fun v0 s0 t0 z=>?_
   rw [Bl i (by omega)]
   refine f _ _ ⟨i + 1,s0,d,rfl,hv,B9.trans ((Ce z).mono B9.size)⟩ ?_
   show kids.length - AL (δ ((i + 1:Nat):Int)) < kids.length - AL (δ (i:Int))
   simp only [AL]
   omega
 have g0:i=kids.length:=by have:=of_decide_eq_false o; omega
 rw [hv,g0,List.drop_length,GM]
 exact FM (fn:=Tryz.f124) 60 (ξ true) fun wz Bz=>⟨rfl,B5.trans (Bz.mono B5.size)⟩
theorem Ys:∀ n,SY n
 | 0=>fun e b h w a=>absurd a (by cases e; unfold Ex.height; omega)
 | n + 1=>oH n (Ys n)
end
end Go.Proofs.YtkjbdagicjbjjaaGreat

/-
  Part 6 of a proof: contracts of functions.
-/
import Derived.Test.YtkjbdagicjbjjaaGreatTf05
import Derived.Test.YtkjbdagicjbjjaaGreatTf00
set_option linter.all false
namespace Go.Proofs.YtkjbdagicjbjjaaGreat
noncomputable section
open Go.RowKit
set_option maxRecDepth 100000
set_option maxHeartbeats 1000000
attribute [local irreducible] A8 BL AC AD AF Ao AY AL Aq Bb Cn BK At Fr
theorem FX (l:List UInt8) (w:World) (hs:l.length≤4294967296):Calls Tryz.prog 70 ([By l]:List Value).toArray w fun e w'=>e=.returned (.bool (Tk.isName l))∧Below w.heap.size w w':=
 (dp l w (by unfold maxLen; omega)).mono fun _ _ ⟨a,h2⟩=>⟨a,QK h2⟩
def Fd (p0:Int):Bool:=cond (decide (-3≤p0)) (decide (p0≤3)) (false)
noncomputable def kO:Code:=Tryz.f147.body.getD .skip
def tp:=Ai 1 ([.code kO])
def ACN:=AA 60 (AL tp)
theorem Mh (a:Int) (w:World):Calls Tryz.prog 147 ([AI a]:List Value).toArray w fun e w'=>e=.returned (.bool (Fd a))∧Below w.heap.size w w':=by
 refine AR (fn:=Tryz.f147) (c:=kO) (n:=9) ?_
 have h:=Wk.start w
 refine Am 1 tp h [] fun k d=>?_
 refine Ap d [] [] d.G (fun l b=>by cases b) fun j m g=>?_
 refine AB ACN g [] fun i f=>?_
 exact AP f (0,0) (.bool (cond (decide (-3≤a)) (decide (a≤3)) (false))) (by unfold Fd; rfl)
def Hy (p0:Int):Bool:=cond (decide (0≤p0)) (decide (p0≤6)) (false)
noncomputable def kw:Code:=Tryz.f109.body.getD .skip
def xZ:=Ai 1 ([.code kw])
def ADB:=AA 60 (AL xZ)
theorem Py (a:Int) (w:World):Calls Tryz.prog 109 ([AI a]:List Value).toArray w fun e w'=>e=.returned (.bool (Hy a))∧Below w.heap.size w w':=by
 refine AR (fn:=Tryz.f109) (c:=kw) (n:=9) ?_
 have h:=Wk.start w
 refine Am 1 xZ h [] fun k d=>?_
 refine Ap d [] [] d.G (fun l b=>by cases b) fun j m g=>?_
 refine AB ADB g [] fun i f=>?_
 exact AP f (0,0) (.bool (cond (decide (0≤a)) (decide (a≤6)) (false))) (by unfold Hy; rfl)
def F3 (p0:Int):Bool:=cond (decide (0≤p0)) (decide (p0≤84005)) (false)
noncomputable def lG:Code:=Tryz.f106.body.getD .skip
def xq:=Ai 1 ([.code lG])
def ADR:=AA 60 (AL xq)
theorem Mi (a:Int) (w:World):Calls Tryz.prog 106 ([AI a]:List Value).toArray w fun e w'=>e=.returned (.bool (F3 a))∧Below w.heap.size w w':=by
 refine AR (fn:=Tryz.f106) (c:=lG) (n:=9) ?_
 have h:=Wk.start w
 refine Am 1 xq h [] fun k d=>?_
 refine Ap d [] [] d.G (fun l b=>by cases b) fun j m g=>?_
 refine AB ADR g [] fun i f=>?_
 exact AP f (0,0) (.bool (cond (decide (0≤a)) (decide (a≤84005)) (false))) (by unfold F3; rfl)
def EW (p0a:Int) (p0b:Int) (p0c:Int):Bool:=cond (cond (Fd p0a) (Fd p0b) (false)) (Fd p0c) (false)
noncomputable def kR:Code:=Tryz.f122.body.getD .skip
def vq:=Ai 1 ([.code kR])
def ACR:=AA 60 (AL vq)
theorem JA (a b d:Int) (w:World):Calls Tryz.prog 122 ([.agg ⟨[AI a,AI b,AI d]⟩]:List Value).toArray w fun e w'=>e=.returned (.bool (EW a b d))∧Below w.heap.size w w':=by
 refine AR (fn:=Tryz.f122) (c:=kR) (n:=16) ?_
 have j:=Wk.start w
 refine Bp 1 vq [⟨w.heap.size,0,[AI a,AI b,AI d],50,true⟩] j [] fun m g=>?_
 refine Ap g [(1,0,0),(5,0,1),(10,0,2)] [⟨2,[(4,AI a)],.bool (Fd a),true⟩,⟨6,[(8,AI b)],.bool (Fd b),((Fd a)) && (true)⟩,⟨11,[(13,AI d)],.bool (Fd d),((cond (Fd a) (Fd b) (false))) && (true)⟩] g.G (fun o f=>?_) fun l p i=>?_
 ·simp only [List.mem_cons,List.not_mem_nil,or_false] at f
  rcases f with rfl | rfl | rfl
  ·exact AV 147 [.tmp 4] [AI a] (fun _=>by kernel_rfl) fun hc u hu=>AN hu (Mh a u)
  ·exact AV 147 [.tmp 8] [AI b] (fun _=>by kernel_rfl) fun hc u hu=>AN hu (Mh b u)
  ·exact AV 147 [.tmp 13] [AI d] (fun _=>by kernel_rfl) fun hc u hu=>AN hu (Mh d u)
 refine AB ACR i [] fun k h=>?_
 exact AP h (0,0) (.bool (cond (cond (Fd a) (Fd b) (false)) (Fd d) (false))) (by unfold EW; rfl)
def D6 (p0a:Int) (p0b:Int):Bool:=cond (cond (Ad p0a p0b) (decide (0≤p0a)) (false)) (Int.tmod 1000000 p0b == 0) (false)
noncomputable def lD:Code:=Tryz.f123.body.getD .skip
def xn:=Ai 1 ([.code lD])
def ADN:=AA 60 (AL xn)
theorem Ju (b a:Int) (w:World):Calls Tryz.prog 123 ([.agg ⟨[AI b,AI a]⟩]:List Value).toArray w fun e w'=>e=.returned (.bool (D6 b a))∧Below w.heap.size w w':=by
 refine AR (fn:=Tryz.f123) (c:=lD) (n:=16) ?_
 have i:=Wk.start w
 refine Bp 1 xn [⟨w.heap.size,0,[AI b,AI a],41,true⟩] i [] fun l f=>?_
 refine Ap f [(0,0,0),(4,0,0),(9,0,1)] [⟨1,[(3,.agg ⟨[AI b,AI a]⟩)],.bool (Ad b a),true⟩,⟨10,[(12,AI a)],AI (Int.tmod 1000000 a),((cond (Ad b a) (decide (0≤b)) (false))) && (true)⟩] f.G (fun m d=>?_) fun k o h=>?_
 ·simp only [List.mem_cons,List.not_mem_nil,or_false] at d
  rcases d with rfl | rfl
  ·exact AV 63 [.tmp 3] [.agg ⟨[AI b,AI a]⟩] (fun _=>by kernel_rfl) fun hc u hu=>AN hu (Bh b a u)
  ·exact BG fun hc E u _=>L6 (T:=3) (T':=3) (x:=.const (AI 1000000)) (y:=.tmp 12) (by kernel_rfl) (by kernel_rfl) (by kernel_rfl) (by simp [Ad] at hc; omega)
 refine AB ADN h [] fun j g=>?_
 exact AP g (0,0) (.bool (cond (cond (Ad b a) (decide (0≤b)) (false)) (Int.tmod 1000000 a == 0) (false))) (by unfold D6; rfl)
def HH (p0a:Int) (p0b:Int):Bool:=cond (D6 p0a p0b) (decide (0 < p0a)) (false)
noncomputable def lE:Code:=Tryz.f110.body.getD .skip
def xo:=Ai 1 ([.code lE])
def ADO:=AA 60 (AL xo)
theorem Pw (a b:Int) (w:World):Calls Tryz.prog 110 ([.agg ⟨[AI a,AI b]⟩]:List Value).toArray w fun e w'=>e=.returned (.bool (HH a b))∧Below w.heap.size w w':=by
 refine AR (fn:=Tryz.f110) (c:=lE) (n:=10) ?_
 have i:=Wk.start w
 refine Bp 1 xo [⟨w.heap.size,0,[AI a,AI b],41,true⟩] i [] fun l f=>?_
 refine Ap f [(0,0,0),(4,0,0)] [⟨1,[(3,.agg ⟨[AI a,AI b]⟩)],.bool (D6 a b),true⟩] f.G (fun m d=>?_) fun k o h=>?_
 ·rw [List.mem_singleton.1 d]
  exact AV 123 [.tmp 3] [.agg ⟨[AI a,AI b]⟩] (fun _=>by kernel_rfl) fun hc u hu=>AN hu (Ju a b u)
 refine AB ADO h [] fun j g=>?_
 exact AP g (0,0) (.bool (cond (D6 a b) (decide (0 < a)) (false))) (by unfold HH; rfl)
def Jv (p0b:Int):Bool:=cond (decide (0 < p0b)) (Int.tmod 100 p0b == 0) (false)
noncomputable def lF:Code:=Tryz.f111.body.getD .skip
def xp:=Ai 1 ([.code lF])
def ADQ:=AA 60 (AL xp)
theorem Wx (b a:Int) (w:World):Calls Tryz.prog 111 ([.agg ⟨[AI b,AI a]⟩]:List Value).toArray w fun e w'=>e=.returned (.bool (Jv a))∧Below w.heap.size w w':=by
 refine AR (fn:=Tryz.f111) (c:=lF) (n:=12) ?_
 have i:=Wk.start w
 refine Bp 1 xp [⟨w.heap.size,0,[AI b,AI a],41,true⟩] i [] fun l f=>?_
 refine Ap f [(1,0,1),(5,0,1)] [⟨6,[(8,AI a)],AI (Int.tmod 100 a),((decide (0 < a))) && (true)⟩] f.G (fun m d=>?_) fun k o h=>?_
 ·rw [List.mem_singleton.1 d]
  exact BG fun hc E u _=>L6 (T:=3) (T':=3) (x:=.const (AI 100)) (y:=.tmp 8) (by kernel_rfl) (by kernel_rfl) (by kernel_rfl) (by simp at hc; omega)
 refine AB ADQ h [] fun j g=>?_
 exact AP g (0,0) (.bool (cond (decide (0 < a)) (Int.tmod 100 a == 0) (false))) (by unfold Jv; rfl)
def DM (p0a:Bool) (p0ba:Int) (p0bb:Int) (p0bc:Int):Bool:=cond (p0a) ((p0ba == 0) && ((p0bb == 0) && (p0bc == 0))) (EW p0ba p0bb p0bc)
noncomputable def kS:Code:=Tryz.f105.body.getD .skip
def lk:=AA 60 ([.code kS])
def vt:=Ai 2 (AD lk)
def ACT:=AA 60 (AL vt)
def vr:=AA 60 (AF lk)
def ACS:=AA 60 (AC vr)
theorem Hb (h:Bool) (g f d:Int) (w:World):Calls Tryz.prog 105 ([.agg ⟨[.bool h,AI g,AI f,AI d]⟩]:List Value).toArray w fun e w'=>e=.returned (.bool (DM h g f d))∧Below w.heap.size w w':=by
 refine AR (fn:=Tryz.f105) (c:=kS) (n:=12) ?_
 have v:=Wk.start w
 refine Af lk [⟨w.heap.size,0,[.bool h,AI g,AI f,AI d],56,true⟩] v [(0,0)] fun w1 m=>?_
 refine AG (h) (fun j=>?_) (fun j=>?_)
 ·refine Am 2 vt m [] fun w3 l=>?_
  refine Ap l [(1,0,1)] [⟨3,[(6,.agg ⟨[AI g,AI f,AI d]⟩),(7,.agg ⟨[AI 0,AI 0,AI 0]⟩)],.bool ((g == 0) && ((f == 0) && (d == 0))),true⟩] l.G (fun sp i=>?_) fun w4 E4 t=>?_
  ·rw [List.mem_singleton.1 i]
   exact BG fun _ E u _=>Cy (k:=.eql) (T:=50) (a:=.agg ⟨[AI g,AI f,AI d]⟩) (b:=.agg ⟨[AI 0,AI 0,AI 0]⟩) (Ic u g f d 0 0 0)
  refine AB ACT t [] fun z s=>?_
  exact AP s (0,0) (.bool ((g == 0) && ((f == 0) && (d == 0)))) (by unfold DM; rw [j] <;> rfl)
 ·refine AB vr m [(0,1)] fun o r=>?_
  refine AQ r (JA g f d o) fun y q=>?_
  refine AB ACS q [] fun x p=>?_
  exact AP p (0,0) (.bool (EW g f d)) (by unfold DM; rw [j] <;> rfl)
def C6 (p0:Int):Int:=cond (p0 == 1) (0) (cond (p0 == 2) (0) (cond (p0 == 3) (0) (cond (p0 == 20) (0) (cond (p0 == 21) (0) (cond (p0 == 4) (1) (cond (p0 == 16) (1) (cond (p0 == 17) (1) (cond (p0 == 19) (1) (cond (p0 == 5) (2) (cond (p0 == 6) (2) (cond (p0 == 7) (2) (cond (p0 == 8) (2) (cond (p0 == 9) (2) (cond (p0 == 10) (2) (cond (p0 == 11) (2) (cond (p0 == 12) (2) (cond (p0 == 13) (2) (cond (p0 == 14) (2) (cond (p0 == 15) (2) (cond (p0 == 18) (3) (-1)))))))))))))))))))))
noncomputable def kz:Code:=Tryz.f148.body.getD .skip
def mV:=AA 60 ([.code kz])
def xg:=AA 60 (AD mV)
def ADG:=AA 60 (AD xg)
def mU:=AA 60 (AF mV)
def xf:=AA 60 (AD mU)
def ADF:=AA 60 (AD xf)
def mT:=AA 60 (AF mU)
def xe:=AA 60 (AD mT)
def ADE:=AA 60 (AD xe)
def mS:=AA 60 (AF mT)
def r8:=AA 60 (AD mS)
def ABx:=AA 60 (AD r8)
def ck:=AA 60 (AF mS)
def ABw:=AA 60 (AD ck)
def cg:=AA 60 (AF ck)
def r7:=AA 60 (AD cg)
def ABv:=AA 60 (AD r7)
def cf:=AA 60 (AF cg)
def r6:=AA 60 (AD cf)
def ABu:=AA 60 (AD r6)
def ce:=AA 60 (AF cf)
def r5:=AA 60 (AD ce)
def ABt:=AA 60 (AD r5)
def cd:=AA 60 (AF ce)
def ABs:=AA 60 (AD cd)
def cb:=AA 60 (AF cd)
def r4:=AA 60 (AD cb)
def ABr:=AA 60 (AD r4)
def ca:=AA 60 (AF cb)
def rz:=AA 60 (AD ca)
def ABq:=AA 60 (AD rz)
def cZ:=AA 60 (AF ca)
def ry:=AA 60 (AD cZ)
def ABp:=AA 60 (AD ry)
def cY:=AA 60 (AF cZ)
def rv:=AA 60 (AD cY)
def ABo:=AA 60 (AD rv)
def cX:=AA 60 (AF cY)
def ru:=AA 60 (AD cX)
def ABn:=AA 60 (AD ru)
def cW:=AA 60 (AF cX)
def rt:=AA 60 (AD cW)
def ABm:=AA 60 (AD rt)
def cV:=AA 60 (AF cW)
def rr:=AA 60 (AD cV)
def ABl:=AA 60 (AD rr)
def cU:=AA 60 (AF cV)
def rp:=AA 60 (AD cU)
def ABk:=AA 60 (AD rp)
def cT:=AA 60 (AF cU)
def ro:=AA 60 (AD cT)
def ABj:=AA 60 (AD ro)
def cS:=AA 60 (AF cT)
def rl:=AA 60 (AD cS)
def ABi:=AA 60 (AD rl)
def cR:=AA 60 (AF cS)
def ABh:=AA 60 (AD cR)
def cQ:=AA 60 (AF cR)
def ABg:=AA 60 (AD cQ)
def ABf:=AA 60 (AF cQ)
theorem nS (d:Int) (w:World):Calls Tryz.prog 148 ([AI d]:List Value).toArray w fun e w'=>e=.returned (AI (C6 d))∧Below w.heap.size w w':=by
 refine AR (fn:=Tryz.f148) (c:=kz) (n:=29) ?_
 have K1:=Wk.start w
 refine AB mV K1 [] fun w1 K2=>?_
 refine AG (d == 1) (fun q=>?_) (fun q=>?_)
 ·refine AB xg K2 [] fun w3 K3=>?_
  refine AG (d == 1) (fun _=>?_) (fun h=>nomatch h.symm.trans q)
  refine AB ADG K3 [] fun w5 K4=>?_
  exact AP K4 (0,0) (AI 0) (by unfold C6; rw [q] <;> rfl)
 ·refine AB mU K2 [] fun w6 K5=>?_
  refine AG (d == 2) (fun r=>?_) (fun r=>?_)
  ·refine AB xf K5 [] fun w8 K6=>?_
   refine AG (d == 2) (fun _=>?_) (fun h=>nomatch h.symm.trans r)
   refine AB ADF K6 [] fun k5 K7=>?_
   exact AP K7 (0,0) (AI 0) (by unfold C6; rw [q,r] <;> rfl)
  ·refine AB mT K5 [] fun h5 K8=>?_
   refine AG (d == 3) (fun a=>?_) (fun a=>?_)
   ·refine AB xe K8 [] fun g5 K9=>?_
    refine AG (d == 3) (fun _=>?_) (fun h=>nomatch h.symm.trans a)
    refine AB ADE K9 [] fun e5 l2=>?_
    exact AP l2 (0,0) (AI 0) (by unfold C6; rw [q,r,a] <;> rfl)
   ·refine AB mS K8 [] fun c5 w0=>?_
    refine AG (d == 20) (fun b=>?_) (fun b=>?_)
    ·refine AB r8 w0 [] fun b5 k2=>?_
     refine AG (d == 20) (fun _=>?_) (fun h=>nomatch h.symm.trans b)
     refine AB ABx k2 [] fun a5 i2=>?_
     exact AP i2 (0,0) (AI 0) (by unfold C6; rw [q,r,a,b] <;> rfl)
    ·refine AB ck w0 [] fun z4 v0=>?_
     refine AG (d == 21) (fun g=>?_) (fun g=>?_)
     ·refine AB ABw v0 [] fun x4 h2=>?_
      exact AP h2 (0,0) (AI 0) (by unfold C6; rw [q,r,a,b,g] <;> rfl)
     ·refine AB cg v0 [] fun w4 t0=>?_
      refine AG (d == 4) (fun f=>?_) (fun f=>?_)
      ·refine AB r7 t0 [] fun v4 g2=>?_
       refine AG (d == 4) (fun _=>?_) (fun h=>nomatch h.symm.trans f)
       refine AB ABv g2 [] fun t4 e2=>?_
       exact AP e2 (0,0) (AI 1) (by unfold C6; rw [q,r,a,b,g,f] <;> rfl)
      ·refine AB cf t0 [] fun q4 s0=>?_
       refine AG (d == 16) (fun i=>?_) (fun i=>?_)
       ·refine AB r6 s0 [] fun p4 d2=>?_
        refine AG (d == 16) (fun _=>?_) (fun h=>nomatch h.symm.trans i)
        refine AB ABu d2 [] fun k4 b2=>?_
        exact AP b2 (0,0) (AI 1) (by unfold C6; rw [q,r,a,b,g,f,i] <;> rfl)
       ·refine AB ce s0 [] fun h4 r0=>?_
        refine AG (d == 17) (fun j=>?_) (fun j=>?_)
        ·refine AB r5 r0 [] fun g4 a2=>?_
         refine AG (d == 17) (fun _=>?_) (fun h=>nomatch h.symm.trans j)
         refine AB ABt a2 [] fun f4 z1=>?_
         exact AP z1 (0,0) (AI 1) (by unfold C6; rw [q,r,a,b,g,f,i,j] <;> rfl)
        ·refine AB cd r0 [] fun e4 q0=>?_
         refine AG (d == 19) (fun l=>?_) (fun l=>?_)
         ·refine AB ABs q0 [] fun c4 x1=>?_
          exact AP x1 (0,0) (AI 1) (by unfold C6; rw [q,r,a,b,g,f,i,j,l] <;> rfl)
         ·refine AB cb q0 [] fun b4 n0=>?_
          refine AG (d == 5) (fun k=>?_) (fun k=>?_)
          ·refine AB r4 n0 [] fun a4 v1=>?_
           refine AG (d == 5) (fun _=>?_) (fun h=>nomatch h.symm.trans k)
           refine AB ABr v1 [] fun z3 u1=>?_
           exact AP u1 (0,0) (AI 2) (by unfold C6; rw [q,r,a,b,g,f,i,j,l,k] <;> rfl)
          ·refine AB ca n0 [] fun x3 m0=>?_
           refine AG (d == 6) (fun m=>?_) (fun m=>?_)
           ·refine AB rz m0 [] fun v3 t1=>?_
            refine AG (d == 6) (fun _=>?_) (fun h=>nomatch h.symm.trans m)
            refine AB ABq t1 [] fun t3 s1=>?_
            exact AP s1 (0,0) (AI 2) (by unfold C6; rw [q,r,a,b,g,f,i,j,l,k,m] <;> rfl)
           ·refine AB cZ m0 [] fun r3 l0=>?_
            refine AG (d == 7) (fun o=>?_) (fun o=>?_)
            ·refine AB ry l0 [] fun q3 r1=>?_
             refine AG (d == 7) (fun _=>?_) (fun h=>nomatch h.symm.trans o)
             refine AB ABp r1 [] fun p3 q1=>?_
             exact AP q1 (0,0) (AI 2) (by unfold C6; rw [q,r,a,b,g,f,i,j,l,k,m,o] <;> rfl)
            ·refine AB cY l0 [] fun o3 k0=>?_
             refine AG (d == 8) (fun p=>?_) (fun p=>?_)
             ·refine AB rv k0 [] fun n3 p1=>?_
              refine AG (d == 8) (fun _=>?_) (fun h=>nomatch h.symm.trans p)
              refine AB ABo p1 [] fun m3 o1=>?_
              exact AP o1 (0,0) (AI 2) (by unfold C6; rw [q,r,a,b,g,f,i,j,l,k,m,o,p] <;> rfl)
             ·refine AB cX k0 [] fun l3 j0=>?_
              refine AG (d == 9) (fun s=>?_) (fun s=>?_)
              ·refine AB ru j0 [] fun k3 n1=>?_
               refine AG (d == 9) (fun _=>?_) (fun h=>nomatch h.symm.trans s)
               refine AB ABn n1 [] fun i3 m1=>?_
               exact AP m1 (0,0) (AI 2) (by unfold C6; rw [q,r,a,b,g,f,i,j,l,k,m,o,p,s] <;> rfl)
              ·refine AB cW j0 [] fun h3 i0=>?_
               refine AG (d == 10) (fun t=>?_) (fun t=>?_)
               ·refine AB rt i0 [] fun g3 l1=>?_
                refine AG (d == 10) (fun _=>?_) (fun h=>nomatch h.symm.trans t)
                refine AB ABm l1 [] fun f3 k1=>?_
                exact AP k1 (0,0) (AI 2) (by unfold C6; rw [q,r,a,b,g,f,i,j,l,k,m,o,p,s,t] <;> rfl)
               ·refine AB cV i0 [] fun e3 h0=>?_
                refine AG (d == 11) (fun u=>?_) (fun u=>?_)
                ·refine AB rr h0 [] fun c3 i1=>?_
                 refine AG (d == 11) (fun _=>?_) (fun h=>nomatch h.symm.trans u)
                 refine AB ABl i1 [] fun b3 h1=>?_
                 exact AP h1 (0,0) (AI 2) (by unfold C6; rw [q,r,a,b,g,f,i,j,l,k,m,o,p,s,t,u] <;> rfl)
                ·refine AB cU h0 [] fun a3 g0=>?_
                 refine AG (d == 12) (fun v=>?_) (fun v=>?_)
                 ·refine AB rp g0 [] fun z2 g1=>?_
                  refine AG (d == 12) (fun _=>?_) (fun h=>nomatch h.symm.trans v)
                  refine AB ABk g1 [] fun x2 f1=>?_
                  exact AP f1 (0,0) (AI 2) (by unfold C6; rw [q,r,a,b,g,f,i,j,l,k,m,o,p,s,t,u,v] <;> rfl)
                 ·refine AB cT g0 [] fun w2 e0=>?_
                  refine AG (d == 13) (fun x=>?_) (fun x=>?_)
                  ·refine AB ro e0 [] fun v2 e1=>?_
                   refine AG (d == 13) (fun _=>?_) (fun h=>nomatch h.symm.trans x)
                   refine AB ABj e1 [] fun u2 d1=>?_
                   exact AP d1 (0,0) (AI 2) (by unfold C6; rw [q,r,a,b,g,f,i,j,l,k,m,o,p,s,t,u,v,x] <;> rfl)
                  ·refine AB cS e0 [] fun t2 d0=>?_
                   refine AG (d == 14) (fun y=>?_) (fun y=>?_)
                   ·refine AB rl d0 [] fun s2 c1=>?_
                    refine AG (d == 14) (fun _=>?_) (fun h=>nomatch h.symm.trans y)
                    refine AB ABi c1 [] fun r2 b1=>?_
                    exact AP b1 (0,0) (AI 2) (by unfold C6; rw [q,r,a,b,g,f,i,j,l,k,m,o,p,s,t,u,v,x,y] <;> rfl)
                   ·refine AB cR d0 [] fun q2 c0=>?_
                    refine AG (d == 15) (fun z=>?_) (fun z=>?_)
                    ·refine AB ABh c0 [] fun p2 a1=>?_
                     exact AP a1 (0,0) (AI 2) (by unfold C6; rw [q,r,a,b,g,f,i,j,l,k,m,o,p,s,t,u,v,x,y,z] <;> rfl)
                    ·refine AB cQ c0 [] fun o2 b0=>?_
                     refine AG (d == 18) (fun a0=>?_) (fun a0=>?_)
                     ·refine AB ABg b0 [] fun n2 z0=>?_
                      exact AP z0 (0,0) (AI 3) (by unfold C6; rw [q,r,a,b,g,f,i,j,l,k,m,o,p,s,t,u,v,x,y,z,a0] <;> rfl)
                     ·refine AB ABf b0 [] fun m2 x0=>?_
                      exact AP x0 (0,0) (AI (-1)) (by unfold C6; rw [q,r,a,b,g,f,i,j,l,k,m,o,p,s,t,u,v,x,y,z,a0] <;> rfl)
def Cl (p0a:Int) (p0ba:Int) (p0bb:Int) (p0ca:Int) (p0cb:Int) (p0cc:Int) (p0d:List UInt8) (p0e:Int) (p0f:Int):Bool:=cond (p0a == 1) (cond (cond (cond (cond (D6 p0ba p0bb) (EW p0ca p0cb p0cc) (false)) (decide (p0d=[])) (false)) (p0e == 0) (false)) (p0f == 0) (false)) (cond (p0a == 2) (cond (cond (cond (cond ((p0ba == 0) && (p0bb == 0)) ((p0ca == 0) && ((p0cb == 0) && (p0cc == 0))) (false)) (decide (p0d=[])) (false)) (cond (p0e == 0) (true) (p0e == 1)) (false)) (p0f == 0) (false)) (cond (p0a == 3) (cond (cond (cond (cond ((p0ba == 0) && (p0bb == 0)) ((p0ca == 0) && ((p0cb == 0) && (p0cc == 0))) (false)) (Tk.isName p0d) (false)) (p0e == 0) (false)) (p0f == 0) (false)) (cond (p0a == 4) (cond (cond (cond (cond ((p0ba == 0) && (p0bb == 0)) ((p0ca == 0) && ((p0cb == 0) && (p0cc == 0))) (false)) (Tk.isName p0d) (false)) (p0e == 0) (false)) (p0f == 0) (false)) (cond (p0a == 19) (cond (cond (cond (cond (HH p0ba p0bb) (EW p0ca p0cb p0cc) (false)) (decide (p0d=[])) (false)) (p0e == 0) (false)) (Hy p0f) (false)) (cond (p0a == 20) (cond (cond (cond (cond ((p0ba == 0) && (p0bb == 0)) ((p0ca == 0) && ((p0cb == 0) && (p0cc == 0))) (false)) (Tk.isName p0d) (false)) (cond (decide (1≤p0e)) (decide (p0e≤120)) (false)) (false)) (p0f == 0) (false)) (cond (p0a == 21) (cond (cond (cond (cond ((p0ba == 0) && (p0bb == 0)) ((p0ca == 0) && ((p0cb == 0) && (p0cc == 0))) (false)) (Tk.isName p0d) (false)) (cond (decide (1≤p0e)) (decide (p0e≤120)) (false)) (false)) (p0f == 0) (false)) (cond (cond (cond (cond ((p0ba == 0) && (p0bb == 0)) ((p0ca == 0) && ((p0cb == 0) && (p0cc == 0))) (false)) (decide (p0d=[])) (false)) (p0e == 0) (false)) (p0f == 0) (false))))))))
noncomputable def kT:Code:=Tryz.f149.body.getD .skip
def wC:=Ai 1 ([.code kT])
def wB:=Ai 2 (AL wC)
def wA:=Ai 3 (AL wB)
def ln:=AA 60 (AL wA)
def vz:=Ai 6 (AD ln)
def vy:=Ai 18 (AL vz)
def ACU:=AA 60 (AL vy)
def lm:=AA 60 (AF ln)
def vx:=Ai 8 (AD lm)
def vw:=Ai 18 (AL vx)
def ABH:=AA 60 (AL vw)
def bJ:=AA 60 (AF lm)
def rN:=AA 60 (AD bJ)
def rM:=AA 60 (AD rN)
def rL:=Ai 18 (AC rM)
def ABG:=AA 60 (AL rL)
def bI:=AA 60 (AF bJ)
def rK:=AA 60 (AD bI)
def rJ:=Ai 18 (AC rK)
def ABF:=AA 60 (AL rJ)
def bH:=AA 60 (AF bI)
def rI:=Ai 13 (AD bH)
def rH:=Ai 18 (AL rI)
def ABE:=AA 60 (AL rH)
def bG:=AA 60 (AF bH)
def rE:=AA 60 (AD bG)
def rD:=AA 60 (AD rE)
def rC:=Ai 17 (AC rD)
def qz:=Ai 18 (AL rC)
def ABD:=AA 60 (AL qz)
def bF:=AA 60 (AF bG)
def qy:=AA 60 (AD bF)
def qx:=Ai 17 (AC qy)
def qw:=Ai 18 (AL qx)
def ABC:=AA 60 (AL qw)
def qv:=Ai 18 (AF bF)
def ABB:=AA 60 (AL qv)
theorem Og (q j i g f d:Int) (m:List UInt8) (p o:Int) (d0:Option Addr) (b0 c0:Nat) (w:World) (hs:m.length≤4294967296):Calls Tryz.prog 149 ([.agg ⟨[AI q,AI j,AI i,AI g,AI f,AI d,By m,AI p,AI o,.slice d0 b0 c0]⟩]:List Value).toArray w fun e w'=>e=.returned (.bool (Cl q j i g f d m p o))∧Below w.heap.size w w':=by
 refine AR (fn:=Tryz.f149) (c:=kT) (n:=89) ?_
 have K1:=Wk.start w
 refine Bp 1 wC [⟨w.heap.size,0,[AI q,AI j,AI i,AI g,AI f,AI d,By m,AI p,AI o,.slice d0 b0 c0],53,true⟩] K1 [] fun w1 K2=>?_
 refine Ap K2 [(1,0,1)] [⟨3,[(9,.agg ⟨[AI j,AI i]⟩),(10,.agg ⟨[AI 0,AI 0]⟩)],.bool ((j == 0) && (i == 0)),true⟩] K2.G (fun t l=>?_) fun w2 E2 K3=>?_
 ·rw [List.mem_singleton.1 l]
  exact BG fun _ E u _=>Cy (k:=.eql) (T:=41) (a:=.agg ⟨[AI j,AI i]⟩) (b:=.agg ⟨[AI 0,AI 0]⟩) (Ej u j i 0 0)
 refine Am 2 wB K3 [] fun w3 K4=>?_
 refine Ap K4 [(1,0,3)] [⟨3,[(13,.agg ⟨[AI g,AI f,AI d]⟩),(14,.agg ⟨[AI 0,AI 0,AI 0]⟩)],.bool ((g == 0) && ((f == 0) && (d == 0))),true⟩] K4.G (fun t l=>?_) fun w4 E4 K5=>?_
 ·rw [List.mem_singleton.1 l]
  exact BG fun _ E u _=>Cy (k:=.eql) (T:=50) (a:=.agg ⟨[AI g,AI f,AI d]⟩) (b:=.agg ⟨[AI 0,AI 0,AI 0]⟩) (Ic u g f d 0 0 0)
 refine Am 3 wA K5 [] fun w5 K6=>?_
 refine Ap K6 [(1,0,6),(4,0,7),(7,0,8)] [⟨2,[(17,By m)],.bool (decide (m=[])),true⟩] K6.G (fun t l=>?_) fun w6 E6 K7=>?_
 ·rw [List.mem_singleton.1 l]
  exact BG fun _ E u _=>Gw (T:=9) (T':=9) (x:=.tmp 17) (y:=.const (By []))
 refine AB ln K7 [(0,0)] fun w7 K8=>?_
 refine AG (q == 1) (fun c8=>?_) (fun c8=>?_)
 ·refine Am 6 vz K8 [] fun w9 K9=>?_
  refine Ap K9 [(1,0,1),(4,0,3)] [⟨2,[(30,.agg ⟨[AI j,AI i]⟩)],.bool (D6 j i),true⟩,⟨5,[(33,.agg ⟨[AI g,AI f,AI d]⟩)],.bool (EW g f d),true⟩] K9.G (fun t l=>?_) fun b5 c6 o2=>?_
  ·simp only [List.mem_cons,List.not_mem_nil,or_false] at l
   rcases l with rfl | rfl
   ·exact AV 123 [.tmp 30] [.agg ⟨[AI j,AI i]⟩] (fun _=>by kernel_rfl) fun hc u hu=>AN hu (Ju j i u)
   ·exact AV 122 [.tmp 33] [.agg ⟨[AI g,AI f,AI d]⟩] (fun _=>by kernel_rfl) fun hc u hu=>AN hu (JA g f d u)
  refine Am 18 vy o2 [] fun a5 a1=>?_
  refine Ap a1 [] [] a1.G (fun t l=>by cases l) fun z4 b6 n2=>?_
  refine AB ACU n2 [] fun x4 m2=>?_
  exact AP m2 (0,0) (.bool (cond (cond (cond (cond (D6 j i) (EW g f d) (false)) (decide (m=[])) (false)) (p == 0) (false)) (o == 0) (false))) (by unfold Cl; rw [c8] <;> rfl)
 ·refine AB lm K8 [] fun v4 z0=>?_
  refine AG (q == 2) (fun s=>?_) (fun s=>?_)
  ·refine Am 8 vx z0 [] fun t4 x0=>?_
   refine Ap x0 [(1,0,7),(5,0,7)] [] x0.G (fun t l=>by cases l) fun q4 a6 l2=>?_
   refine Am 18 vw l2 [] fun p4 w0=>?_
   refine Ap w0 [] [] w0.G (fun t l=>by cases l) fun k4 z5 k2=>?_
   refine AB ABH k2 [] fun h4 i2=>?_
   exact AP i2 (0,0) (.bool (cond (cond (cond (cond ((j == 0) && (i == 0)) ((g == 0) && ((f == 0) && (d == 0))) (false)) (decide (m=[])) (false)) (cond (p == 0) (true) (p == 1)) (false)) (o == 0) (false))) (by unfold Cl; rw [c8,s] <;> rfl)
  ·refine AB bJ z0 [] fun g4 v0=>?_
   refine AG (q == 3) (fun r=>?_) (fun r=>?_)
   ·refine AB rN v0 [] fun f4 h2=>?_
    refine AG (q == 3) (fun _=>?_) (fun h=>nomatch h.symm.trans r)
    refine AB rM h2 [(0,6)] fun e1 g2=>?_
    refine AQ g2 (FX m e1 (by assumption)) fun e4 e2=>?_
    refine Am 18 rL e2 [] fun c4 t0=>?_
    refine Ap t0 [] [] t0.G (fun t l=>by cases l) fun b4 x5 d2=>?_
    refine AB ABG d2 [] fun a4 c2=>?_
    exact AP c2 (0,0) (.bool (cond (cond (cond (cond ((j == 0) && (i == 0)) ((g == 0) && ((f == 0) && (d == 0))) (false)) (Tk.isName m) (false)) (p == 0) (false)) (o == 0) (false))) (by unfold Cl; rw [c8,s,r] <;> rfl)
   ·refine AB bI v0 [] fun z3 s0=>?_
    refine AG (q == 4) (fun v=>?_) (fun v=>?_)
    ·refine AB rK s0 [(0,6)] fun d1 b2=>?_
     refine AQ b2 (FX m d1 (by assumption)) fun x3 a2=>?_
     refine Am 18 rJ a2 [] fun v3 r0=>?_
     refine Ap r0 [] [] r0.G (fun t l=>by cases l) fun t3 v5 z1=>?_
     refine AB ABF z1 [] fun r3 x1=>?_
     exact AP x1 (0,0) (.bool (cond (cond (cond (cond ((j == 0) && (i == 0)) ((g == 0) && ((f == 0) && (d == 0))) (false)) (Tk.isName m) (false)) (p == 0) (false)) (o == 0) (false))) (by unfold Cl; rw [c8,s,r,v] <;> rfl)
    ·refine AB bH s0 [] fun q3 q0=>?_
     refine AG (q == 19) (fun a0=>?_) (fun a0=>?_)
     ·refine Am 13 rI q0 [] fun p3 p0=>?_
      refine Ap p0 [(1,0,1),(4,0,3),(7,0,8)] [⟨2,[(54,.agg ⟨[AI j,AI i]⟩)],.bool (HH j i),true⟩,⟨5,[(57,.agg ⟨[AI g,AI f,AI d]⟩)],.bool (EW g f d),true⟩,⟨8,[(60,AI o)],.bool (Hy o),true⟩] p0.G (fun t l=>?_) fun o3 t5 v1=>?_
      ·simp only [List.mem_cons,List.not_mem_nil,or_false] at l
       rcases l with rfl | rfl | rfl
       ·exact AV 110 [.tmp 54] [.agg ⟨[AI j,AI i]⟩] (fun _=>by kernel_rfl) fun hc u hu=>AN hu (Pw j i u)
       ·exact AV 122 [.tmp 57] [.agg ⟨[AI g,AI f,AI d]⟩] (fun _=>by kernel_rfl) fun hc u hu=>AN hu (JA g f d u)
       ·exact AV 109 [.tmp 60] [AI o] (fun _=>by kernel_rfl) fun hc u hu=>AN hu (Py o u)
      refine Am 18 rH v1 [] fun n3 n0=>?_
      refine Ap n0 [] [] n0.G (fun t l=>by cases l) fun m3 q5 u1=>?_
      refine AB ABE u1 [] fun l3 t1=>?_
      exact AP t1 (0,0) (.bool (cond (cond (cond (cond (HH j i) (EW g f d) (false)) (decide (m=[])) (false)) (p == 0) (false)) (Hy o) (false))) (by unfold Cl; rw [c8,s,r,v,a0] <;> rfl)
     ·refine AB bG q0 [] fun k3 m0=>?_
      refine AG (q == 20) (fun z=>?_) (fun z=>?_)
      ·refine AB rE m0 [] fun i3 s1=>?_
       refine AG (q == 20) (fun _=>?_) (fun h=>nomatch h.symm.trans z)
       refine AB rD s1 [(0,6)] fun c1 r1=>?_
       refine AQ r1 (FX m c1 (by assumption)) fun h3 q1=>?_
       refine Am 17 rC q1 [] fun g3 l0=>?_
       refine Ap l0 [(1,0,7),(5,0,7)] [] l0.G (fun t l=>by cases l) fun f3 k5 p1=>?_
       refine Am 18 qz p1 [] fun e3 k0=>?_
       refine Ap k0 [] [] k0.G (fun t l=>by cases l) fun c3 h5 o1=>?_
       refine AB ABD o1 [] fun b3 n1=>?_
       exact AP n1 (0,0) (.bool (cond (cond (cond (cond ((j == 0) && (i == 0)) ((g == 0) && ((f == 0) && (d == 0))) (false)) (Tk.isName m) (false)) (cond (decide (1≤p)) (decide (p≤120)) (false)) (false)) (o == 0) (false))) (by unfold Cl; rw [c8,s,r,v,a0,z] <;> rfl)
      ·refine AB bF m0 [] fun a3 j0=>?_
       refine AG (q == 21) (fun e0=>?_) (fun e0=>?_)
       ·refine AB qy j0 [(0,6)] fun b1 m1=>?_
        refine AQ m1 (FX m b1 (by assumption)) fun z2 l1=>?_
        refine Am 17 qx l1 [] fun x2 i0=>?_
        refine Ap i0 [(1,0,7),(5,0,7)] [] i0.G (fun t l=>by cases l) fun v2 g5 k1=>?_
        refine Am 18 qw k1 [] fun u2 h0=>?_
        refine Ap h0 [] [] h0.G (fun t l=>by cases l) fun t2 e5 i1=>?_
        refine AB ABC i1 [] fun s2 h1=>?_
        exact AP h1 (0,0) (.bool (cond (cond (cond (cond ((j == 0) && (i == 0)) ((g == 0) && ((f == 0) && (d == 0))) (false)) (Tk.isName m) (false)) (cond (decide (1≤p)) (decide (p≤120)) (false)) (false)) (o == 0) (false))) (by unfold Cl; rw [c8,s,r,v,a0,z,e0] <;> rfl)
       ·refine Am 18 qv j0 [] fun r2 g0=>?_
        refine Ap g0 [] [] g0.G (fun t l=>by cases l) fun q2 c5 g1=>?_
        refine AB ABB g1 [] fun p2 f1=>?_
        exact AP f1 (0,0) (.bool (cond (cond (cond (cond ((j == 0) && (i == 0)) ((g == 0) && ((f == 0) && (d == 0))) (false)) (decide (m=[])) (false)) (p == 0) (false)) (o == 0) (false))) (by unfold Cl; rw [c8,s,r,v,a0,z,e0] <;> rfl)
def GX (p0a:Int) (p0ba:Int) (p0bb:Int) (p0ca:Int) (p0cb:Int) (p0cc:Int) (p0d:List UInt8) (p0e:Int) (p0f:Int) (p0gn:Nat):Bool:=cond (cond (cond (cond (cond (cond (p0a == 0) ((p0ba == 0) && (p0bb == 0)) (false)) ((p0ca == 0) && ((p0cb == 0) && (p0cc == 0))) (false)) (decide (p0d=[])) (false)) (p0e == 0) (false)) (p0f == 0) (false)) ((p0gn:Int) == 0) (false)
noncomputable def lC:Code:=Tryz.f104.body.getD .skip
def xm:=Ai 1 ([.code lC])
def ADM:=AA 60 (AL xm)
theorem dm (j f d i h g:Int) (m:List UInt8) (p o:Int) (r:Option Addr) (l q:Nat) (w:World):Calls Tryz.prog 104 ([.agg ⟨[AI j,AI f,AI d,AI i,AI h,AI g,By m,AI p,AI o,.slice r l q]⟩]:List Value).toArray w fun e w'=>e=.returned (.bool (GX j f d i h g m p o l))∧Below w.heap.size w w':=by
 refine AR (fn:=Tryz.f104) (c:=lC) (n:=39) ?_
 have K1:=Wk.start w
 refine Bp 1 xm [⟨w.heap.size,0,[AI j,AI f,AI d,AI i,AI h,AI g,By m,AI p,AI o,.slice r l q],53,true⟩] K1 [] fun w1 t=>?_
 refine Ap t [(1,0,0),(5,0,1),(11,0,3),(17,0,6),(22,0,7),(27,0,8),(32,0,9)] [⟨7,[(8,.agg ⟨[AI f,AI d]⟩),(9,.agg ⟨[AI 0,AI 0]⟩)],.bool ((f == 0) && (d == 0)),((j == 0)) && (true)⟩,⟨13,[(14,.agg ⟨[AI i,AI h,AI g]⟩),(15,.agg ⟨[AI 0,AI 0,AI 0]⟩)],.bool ((i == 0) && ((h == 0) && (g == 0))),((cond (j == 0) ((f == 0) && (d == 0)) (false))) && (true)⟩,⟨18,[(20,By m)],.bool (decide (m=[])),((cond (cond (j == 0) ((f == 0) && (d == 0)) (false)) ((i == 0) && ((h == 0) && (g == 0))) (false))) && (true)⟩] t.G (fun sp s=>?_) fun w2 E2 z=>?_
 ·simp only [List.mem_cons,List.not_mem_nil,or_false] at s
  rcases s with rfl | rfl | rfl
  ·exact BG fun _ E u _=>Cy (k:=.eql) (T:=41) (a:=.agg ⟨[AI f,AI d]⟩) (b:=.agg ⟨[AI 0,AI 0]⟩) (Ej u f d 0 0)
  ·exact BG fun _ E u _=>Cy (k:=.eql) (T:=50) (a:=.agg ⟨[AI i,AI h,AI g]⟩) (b:=.agg ⟨[AI 0,AI 0,AI 0]⟩) (Ic u i h g 0 0 0)
  ·exact BG fun _ E u _=>Gw (T:=9) (T':=9) (x:=.tmp 20) (y:=.const (By []))
 refine AB ADM z [] fun w3 v=>?_
 exact AP v (0,0) (.bool (cond (cond (cond (cond (cond (cond (j == 0) ((f == 0) && (d == 0)) (false)) ((i == 0) && ((h == 0) && (g == 0))) (false)) (decide (m=[])) (false)) (p == 0) (false)) (o == 0) (false)) ((l:Int) == 0) (false))) (by unfold GX; rfl)
end
end Go.Proofs.YtkjbdagicjbjjaaGreat
namespace Go.Proofs.YtkjbdagicjbjjaaGreat
inductive Ex where
 | mk (op num den mu hu du:Int) (name:List UInt8) (count mode:Int) (kids:List Ex):Ex
mutual
def Ex.height:Ex→Nat
 | .mk _ _ _ _ _ _ _ _ _ kids=>Ex.heights kids + 1
def Ex.heights:List Ex→Nat
 | []=>0
 | e :: es=>max (Ex.height e) (Ex.heights es)
end
structure Df where
 kind:Int
 name:List UInt8
 tb:Bool
 tm:Int
 th:Int
 td:Int
 frm:Int
 ents:List (Int×Int×Int)
 body:Ex
 mode:Int
 num:Int
 den:Int
def KA (e:Int×Int×Int):List Value:=[AI e.1,AI e.2.1,AI e.2.2]
def Df.head (d:Df) (A:Option Addr) (c:Nat):List Value:=[AI d.kind,.string ⟨d.name.toArray⟩,.bool d.tb,AI d.tm,AI d.th,AI d.td,AI d.frm,.slice A d.ents.length c]
def Df.tail (d:Df):List Value:=[AI d.mode,AI d.num,AI d.den]
def BO:Ex:=.mk 0 0 0 0 0 0 [] 0 0 []
end Go.Proofs.YtkjbdagicjbjjaaGreat
namespace Go.Proofs.YtkjbdagicjbjjaaGreat
def DI (S:Nat→Prop) (w:World) (n:Nat) (A:Option Addr) (rs:List (List Value)):Prop:=
 rs=[]∨∃ g off,A=some ⟨g,off,none⟩∧S g∧g < w.heap.size∧∀ (i:Nat) r,rs[i]?=some r→∀ (j:Nat) u,r[j]?=some u→w.cell? ⟨g,off + i * n + j,none⟩=some u
mutual
def Cz (S:Nat→Prop) (w:World):Ex→List Value→Prop
 | .mk op num den mu hu du name count mode kids,cs=>∃ A c ks,cs=[AI op,AI num,AI den,AI mu,AI hu,AI du,.string ⟨name.toArray⟩,AI count,AI mode,.slice A kids.length c]∧
   Eu S w kids ks∧DI S w 10 A ks
def Eu (S:Nat→Prop) (w:World):List Ex→List (List Value)→Prop
 | [],ks=>ks=[]
 | e :: es,ks=>∃ c cs,ks=c :: cs∧Cz S w e c∧Eu S w es cs
end
theorem DI.keep {S b:Nat→Prop} {n:Nat} {w w':World} {A:Option Addr} {rs:List (List Value)} (h:DI S w n A rs) (hs:w.heap.size≤w'.heap.size) (hb:∀ g,S g→g < w.heap.size→b g∧w'.heap[g]?=w.heap[g]?):DI b w' n A rs:=by
 rcases h with h | ⟨g,off,rfl,hg,a,hc⟩
 ·exact .inl h
 ·have:=hb g hg a
  refine .inr ⟨g,off,rfl,this.1,by omega,fun i r hi j u c=>?_⟩
  rw [World.cell?_of_block (w:=w) this.2]
  exact hc i r hi j u c
mutual
theorem Cz.keep {S b:Nat→Prop} {w w':World} (hs:w.heap.size≤w'.heap.size) (hb:∀ g,S g→g < w.heap.size→b g∧w'.heap[g]?=w.heap[g]?):∀ (e:Ex) (a:List Value),Cz S w e a→Cz b w' e a
 | .mk op num den mu hu du name count mode kids,a,h=>by
  unfold Cz at h ⊢
  obtain ⟨A,c,ks,f,h2,d⟩:=h
  exact ⟨A,c,ks,f,Eu.keep hs hb kids ks h2,d.keep hs hb⟩
theorem Eu.keep {S b:Nat→Prop} {w w':World} (hs:w.heap.size≤w'.heap.size) (hb:∀ g,S g→g < w.heap.size→b g∧w'.heap[g]?=w.heap[g]?):∀ (es:List Ex) (ks:List (List Value)),Eu S w es ks→Eu b w' es ks
 | [],ks,h=>by unfold Eu at h ⊢; exact h
 | e :: es,ks,h=>by
  unfold Eu at h ⊢
  obtain ⟨c,a,f,h2,d⟩:=h
  exact ⟨c,a,f,Cz.keep hs hb e c h2,Eu.keep hs hb es a d⟩
end
theorem Cz.cells {S:Nat→Prop} {w:World} {x:Ex} {d:List Value} (h:Cz S w x d):∃ (a0 j i a3 a4 a5:Int) (g:List UInt8) (f e:Int) (A:Option Addr) (n c:Nat),d=[AI a0,AI j,AI i,AI a3,AI a4,AI a5,.string ⟨g.toArray⟩,AI f,AI e,.slice A n c]:=by
 obtain ⟨op,num,den,mu,hu,du,name,a,mode,b⟩:=x
 unfold Cz at h
 obtain ⟨A,c,ks,rfl,_⟩:=h
 exact ⟨_,_,_,_,_,_,_,_,_,_,_,_,rfl⟩
def FC (S:Nat→Prop) (w:World) (d:Df) (cs:List Value):Prop:=
 ∃ A c bs,Cz S w d.body bs∧DI S w 3 A (d.ents.map KA)∧cs=d.head A c++bs++d.tail
theorem FC.keep {S b:Nat→Prop} {w w':World} {d:Df} {a:List Value} (h:FC S w d a) (hs:w.heap.size≤w'.heap.size) (hb:∀ g,S g→g < w.heap.size→b g∧w'.heap[g]?=w.heap[g]?):FC b w' d a:=by
 obtain ⟨A,c,i,f,h2,e⟩:=h
 exact ⟨A,c,i,Cz.keep hs hb _ _ f,h2.keep hs hb,e⟩
theorem FC.len {S:Nat→Prop} {w:World} {d:Df} {a:List Value} (h:FC S w d a):a.length=21:=by
 obtain ⟨A,c,e,b,_,rfl⟩:=h
 obtain ⟨_,_,_,_,_,_,_,_,_,_,_,_,rfl⟩:=b.cells
 simp [Df.head,Df.tail]
theorem FC.cells {S:Nat→Prop} {w:World} {d:Df} {a:List Value} (h:FC S w d a):∃ (A:Option Addr) (c:Nat) (a0 l k a3 a4 a5:Int) (j:List UInt8) (i g:Int) (B:Option Addr) (b e:Nat),a=[AI d.kind,.string ⟨d.name.toArray⟩,.bool d.tb,AI d.tm,AI d.th,AI d.td,AI d.frm,.slice A d.ents.length c,AI a0,AI l,AI k,AI a3,AI a4,AI a5,.string ⟨j.toArray⟩,AI i,AI g,.slice B b e,AI d.mode,AI d.num,AI d.den]:=by
 obtain ⟨A,c,m,f,_,rfl⟩:=h
 obtain ⟨_,_,_,_,_,_,_,_,_,_,_,_,rfl⟩:=f.cells
 exact ⟨_,_,_,_,_,_,_,_,_,_,_,_,_,_,rfl⟩
end Go.Proofs.YtkjbdagicjbjjaaGreat

/-
  Part 8 of a proof: contracts of functions.
-/
import Derived.Test.YtmcpjkcggfmcmaaGreatDoorD07
set_option linter.all false
namespace Go.Proofs.YtmcpjkcggfmcmaaGreatDoor
noncomputable section
open Go.RowKit
set_option maxRecDepth 100000
set_option maxHeartbeats 1000000
attribute [local irreducible] BO CB AE AG AL Ay Aj AP Bc Cq Eb CO At Fr
theorem Fw (l:List UInt8) (w:World) (hs:l.length≤4294967296):Calls Tryz.prog 42 ([.string ⟨⟨l⟩⟩]:List Value).toArray w fun e w'=>e=.returned (.bool (Tk.isName l))∧Below w.heap.size w w':=
 (ZB l w (by unfold maxLen; omega)).mono fun _ _ ⟨a,h2⟩=>⟨a,QD h2⟩
def F6 (p0:Int):Bool:=cond (decide (-3≤p0)) (decide (p0≤3)) (false)
noncomputable def cf:Code:=Tryz.f147.body.getD .skip
def nN:=Ad 1 ([.code cf])
def uS:=AB 60 (AP nN)
theorem Mp (a:Int) (w:World):Calls Tryz.prog 147 ([D a]:List Value).toArray w fun e w'=>e=.returned (.bool (F6 a))∧Below w.heap.size w w':=by
 refine Af (fn:=Tryz.f147) (c:=cf) (n:=9) ?_
 have h:=Wk.start w
 refine Al 1 nN h [] fun k d=>?_
 refine Ao d [] [] d.G (fun sp b=>by cases b) fun j l g=>?_
 refine AC uS g [] fun i f=>?_
 exact AO f (0,0) (.bool (cond (decide (-3≤a)) (decide (a≤3)) (false))) (by unfold F6; rfl)
def IW (p0:Int):Bool:=cond (decide (0≤p0)) (decide (p0≤6)) (false)
noncomputable def dK:Code:=Tryz.f81.body.getD .skip
def o1:=Ad 1 ([.code dK])
def vU:=AB 60 (AP o1)
theorem Pb (a:Int) (w:World):Calls Tryz.prog 81 ([D a]:List Value).toArray w fun e w'=>e=.returned (.bool (IW a))∧Below w.heap.size w w':=by
 refine Af (fn:=Tryz.f81) (c:=dK) (n:=9) ?_
 have h:=Wk.start w
 refine Al 1 o1 h [] fun k d=>?_
 refine Ao d [] [] d.G (fun sp b=>by cases b) fun j l g=>?_
 refine AC vU g [] fun i f=>?_
 exact AO f (0,0) (.bool (cond (decide (0≤a)) (decide (a≤6)) (false))) (by unfold IW; rfl)
def HJ (p0:Int):Bool:=cond (decide (0≤p0)) (decide (p0≤84005)) (false)
noncomputable def dV:Code:=Tryz.f78.body.getD .skip
def pd:=Ad 1 ([.code dV])
def vr:=AB 60 (AP pd)
theorem Mq (a:Int) (w:World):Calls Tryz.prog 78 ([D a]:List Value).toArray w fun e w'=>e=.returned (.bool (HJ a))∧Below w.heap.size w w':=by
 refine Af (fn:=Tryz.f78) (c:=dV) (n:=9) ?_
 have h:=Wk.start w
 refine Al 1 pd h [] fun k d=>?_
 refine Ao d [] [] d.G (fun sp b=>by cases b) fun j l g=>?_
 refine AC vr g [] fun i f=>?_
 exact AO f (0,0) (.bool (cond (decide (0≤a)) (decide (a≤84005)) (false))) (by unfold HJ; rfl)
def FA (p0a:Int) (p0b:Int) (p0c:Int):Bool:=cond (cond (F6 p0a) (F6 p0b) (false)) (F6 p0c) (false)
noncomputable def cj:Code:=Tryz.f122.body.getD .skip
def nT:=Ad 1 ([.code cj])
def uX:=AB 60 (AP nT)
theorem Jc (a b d:Int) (w:World):Calls Tryz.prog 122 ([.agg ⟨[D a,D b,D d]⟩]:List Value).toArray w fun e w'=>e=.returned (.bool (FA a b d))∧Below w.heap.size w w':=by
 refine Af (fn:=Tryz.f122) (c:=cj) (n:=16) ?_
 have j:=Wk.start w
 refine CR 1 nT [⟨w.heap.size,0,[D a,D b,D d],24,true⟩] j [] fun m g=>?_
 refine Ao g [(1,0,0),(5,0,1),(10,0,2)] [⟨2,[(4,D a)],.bool (F6 a),true⟩,⟨6,[(8,D b)],.bool (F6 b),((F6 a)) && (true)⟩,⟨11,[(13,D d)],.bool (F6 d),((cond (F6 a) (F6 b) (false))) && (true)⟩] g.G (fun sp f=>?_) fun l o i=>?_
 ·simp only [List.mem_cons,List.not_mem_nil,or_false] at f
  rcases f with rfl | rfl | rfl
  ·exact AX 147 [.tmp 4] [D a] (fun _=>by kernel_rfl) fun hc u hu=>AR hu (Mp a u)
  ·exact AX 147 [.tmp 8] [D b] (fun _=>by kernel_rfl) fun hc u hu=>AR hu (Mp b u)
  ·exact AX 147 [.tmp 13] [D d] (fun _=>by kernel_rfl) fun hc u hu=>AR hu (Mp d u)
 refine AC uX i [] fun k h=>?_
 exact AO h (0,0) (.bool (cond (cond (F6 a) (F6 b) (false)) (F6 d) (false))) (by unfold FA; rfl)
def ET (p0a:Int) (p0b:Int):Bool:=cond (cond (Db p0a p0b) (decide (0≤p0a)) (false)) (Int.tmod 1000000 p0b == 0) (false)
noncomputable def dS:Code:=Tryz.f123.body.getD .skip
def pP:=Ad 1 ([.code dS])
def vn:=AB 60 (AP pP)
theorem KF (b a:Int) (w:World):Calls Tryz.prog 123 ([.agg ⟨[D b,D a]⟩]:List Value).toArray w fun e w'=>e=.returned (.bool (ET b a))∧Below w.heap.size w w':=by
 refine Af (fn:=Tryz.f123) (c:=dS) (n:=16) ?_
 have i:=Wk.start w
 refine CR 1 pP [⟨w.heap.size,0,[D b,D a],29,true⟩] i [] fun l f=>?_
 refine Ao f [(0,0,0),(4,0,0),(9,0,1)] [⟨1,[(3,.agg ⟨[D b,D a]⟩)],.bool (Db b a),true⟩,⟨10,[(12,D a)],D (Int.tmod 1000000 a),((cond (Db b a) (decide (0≤b)) (false))) && (true)⟩] f.G (fun sp d=>?_) fun k m h=>?_
 ·simp only [List.mem_cons,List.not_mem_nil,or_false] at d
  rcases d with rfl | rfl
  ·exact AX 56 [.tmp 3] [.agg ⟨[D b,D a]⟩] (fun _=>by kernel_rfl) fun hc u hu=>AR hu (GN b a u)
  ·exact An fun hc E u _=>OM (T:=3) (T':=3) (x:=.const (D 1000000)) (y:=.tmp 12) (by kernel_rfl) (by kernel_rfl) (by kernel_rfl) (by simp [Db] at hc; omega)
 refine AC vn h [] fun j g=>?_
 exact AO g (0,0) (.bool (cond (cond (Db b a) (decide (0≤b)) (false)) (Int.tmod 1000000 a == 0) (false))) (by unfold ET; rfl)
def Ho (p0a:Int) (p0b:Int):Bool:=cond (ET p0a p0b) (decide (0 < p0a)) (false)
noncomputable def dT:Code:=Tryz.f82.body.getD .skip
def pQ:=Ad 1 ([.code dT])
def vo:=AB 60 (AP pQ)
theorem PY (a b:Int) (w:World):Calls Tryz.prog 82 ([.agg ⟨[D a,D b]⟩]:List Value).toArray w fun e w'=>e=.returned (.bool (Ho a b))∧Below w.heap.size w w':=by
 refine Af (fn:=Tryz.f82) (c:=dT) (n:=10) ?_
 have i:=Wk.start w
 refine CR 1 pQ [⟨w.heap.size,0,[D a,D b],29,true⟩] i [] fun l f=>?_
 refine Ao f [(0,0,0),(4,0,0)] [⟨1,[(3,.agg ⟨[D a,D b]⟩)],.bool (ET a b),true⟩] f.G (fun sp d=>?_) fun k m h=>?_
 ·rw [List.mem_singleton.1 d]
  exact AX 123 [.tmp 3] [.agg ⟨[D a,D b]⟩] (fun _=>by kernel_rfl) fun hc u hu=>AR hu (KF a b u)
 refine AC vo h [] fun j g=>?_
 exact AO g (0,0) (.bool (cond (ET a b) (decide (0 < a)) (false))) (by unfold Ho; rfl)
def KG (p0b:Int):Bool:=cond (decide (0 < p0b)) (Int.tmod 100 p0b == 0) (false)
noncomputable def dU:Code:=Tryz.f83.body.getD .skip
def pX:=Ad 1 ([.code dU])
def vq:=AB 60 (AP pX)
theorem VS (b a:Int) (w:World):Calls Tryz.prog 83 ([.agg ⟨[D b,D a]⟩]:List Value).toArray w fun e w'=>e=.returned (.bool (KG a))∧Below w.heap.size w w':=by
 refine Af (fn:=Tryz.f83) (c:=dU) (n:=12) ?_
 have i:=Wk.start w
 refine CR 1 pX [⟨w.heap.size,0,[D b,D a],29,true⟩] i [] fun l f=>?_
 refine Ao f [(1,0,1),(5,0,1)] [⟨6,[(8,D a)],D (Int.tmod 100 a),((decide (0 < a))) && (true)⟩] f.G (fun sp d=>?_) fun k m h=>?_
 ·rw [List.mem_singleton.1 d]
  exact An fun hc E u _=>OM (T:=3) (T':=3) (x:=.const (D 100)) (y:=.tmp 8) (by kernel_rfl) (by kernel_rfl) (by kernel_rfl) (by simp at hc; omega)
 refine AC vq h [] fun j g=>?_
 exact AO g (0,0) (.bool (cond (decide (0 < a)) (Int.tmod 100 a == 0) (false))) (by unfold KG; rfl)
def D3 (p0a:Bool) (p0ba:Int) (p0bb:Int) (p0bc:Int):Bool:=cond (p0a) ((p0ba == 0) && ((p0bb == 0) && (p0bc == 0))) (FA p0ba p0bb p0bc)
noncomputable def ck:Code:=Tryz.f77.body.getD .skip
def eK:=AB 60 ([.code ck])
def nV:=Ad 2 (AG eK)
def uZ:=AB 60 (AP nV)
def nU:=AB 60 (AL eK)
def uY:=AB 60 (AE nU)
theorem IC (h:Bool) (g f d:Int) (w:World):Calls Tryz.prog 77 ([.agg ⟨[.bool h,D g,D f,D d]⟩]:List Value).toArray w fun e w'=>e=.returned (.bool (D3 h g f d))∧Below w.heap.size w w':=by
 refine Af (fn:=Tryz.f77) (c:=ck) (n:=12) ?_
 have v:=Wk.start w
 refine C8 eK [⟨w.heap.size,0,[.bool h,D g,D f,D d],26,true⟩] v [(0,0)] fun w1 m=>?_
 refine AM (h) (fun j=>?_) (fun j=>?_)
 ·refine Al 2 nV m [] fun w3 l=>?_
  refine Ao l [(1,0,1)] [⟨3,[(6,.agg ⟨[D g,D f,D d]⟩),(7,.agg ⟨[D 0,D 0,D 0]⟩)],.bool ((g == 0) && ((f == 0) && (d == 0))),true⟩] l.G (fun sp i=>?_) fun w4 E4 t=>?_
  ·rw [List.mem_singleton.1 i]
   exact An fun _ E u _=>EP (k:=.eql) (T:=24) (a:=.agg ⟨[D g,D f,D d]⟩) (b:=.agg ⟨[D 0,D 0,D 0]⟩) (I2 u g f d 0 0 0)
  refine AC uZ t [] fun z s=>?_
  exact AO s (0,0) (.bool ((g == 0) && ((f == 0) && (d == 0)))) (by unfold D3; rw [j] <;> rfl)
 ·refine AC nU m [(0,1)] fun o r=>?_
  refine Ap r (Jc g f d o) fun y q=>?_
  refine AC uY q [] fun x p=>?_
  exact AO p (0,0) (.bool (FA g f d)) (by unfold D3; rw [j] <;> rfl)
def Cu (p0:Int):Int:=cond (p0 == 1) (0) (cond (p0 == 2) (0) (cond (p0 == 3) (0) (cond (p0 == 20) (0) (cond (p0 == 21) (0) (cond (p0 == 4) (1) (cond (p0 == 16) (1) (cond (p0 == 17) (1) (cond (p0 == 19) (1) (cond (p0 == 5) (2) (cond (p0 == 6) (2) (cond (p0 == 7) (2) (cond (p0 == 8) (2) (cond (p0 == 9) (2) (cond (p0 == 10) (2) (cond (p0 == 11) (2) (cond (p0 == 12) (2) (cond (p0 == 13) (2) (cond (p0 == 14) (2) (cond (p0 == 15) (2) (cond (p0 == 18) (3) (-1)))))))))))))))))))))
noncomputable def dO:Code:=Tryz.f148.body.getD .skip
def fa:=AB 60 ([.code dO])
def pI:=AB 60 (AG fa)
def vf:=AB 60 (AG pI)
def fZ:=AB 60 (AL fa)
def pH:=AB 60 (AG fZ)
def ve:=AB 60 (AG pH)
def fY:=AB 60 (AL fZ)
def pG:=AB 60 (AG fY)
def vb:=AB 60 (AG pG)
def fX:=AB 60 (AL fY)
def kO:=AB 60 (AG fX)
def tB:=AB 60 (AG kO)
def Xq:=AB 60 (AL fX)
def tA:=AB 60 (AG Xq)
def Xp:=AB 60 (AL Xq)
def kN:=AB 60 (AG Xp)
def s9:=AB 60 (AG kN)
def Xo:=AB 60 (AL Xp)
def kM:=AB 60 (AG Xo)
def s8:=AB 60 (AG kM)
def Xn:=AB 60 (AL Xo)
def kL:=AB 60 (AG Xn)
def s6:=AB 60 (AG kL)
def Xm:=AB 60 (AL Xn)
def s0:=AB 60 (AG Xm)
def Xl:=AB 60 (AL Xm)
def kK:=AB 60 (AG Xl)
def sy:=AB 60 (AG kK)
def Xk:=AB 60 (AL Xl)
def kJ:=AB 60 (AG Xk)
def sx:=AB 60 (AG kJ)
def Xj:=AB 60 (AL Xk)
def kI:=AB 60 (AG Xj)
def sw:=AB 60 (AG kI)
def Xi:=AB 60 (AL Xj)
def kH:=AB 60 (AG Xi)
def sv:=AB 60 (AG kH)
def Xh:=AB 60 (AL Xi)
def kG:=AB 60 (AG Xh)
def su:=AB 60 (AG kG)
def Xg:=AB 60 (AL Xh)
def kF:=AB 60 (AG Xg)
def sr:=AB 60 (AG kF)
def Xf:=AB 60 (AL Xg)
def kE:=AB 60 (AG Xf)
def sq:=AB 60 (AG kE)
def Xe:=AB 60 (AL Xf)
def kD:=AB 60 (AG Xe)
def so:=AB 60 (AG kD)
def Xd:=AB 60 (AL Xe)
def kC:=AB 60 (AG Xd)
def sl:=AB 60 (AG kC)
def Xc:=AB 60 (AL Xd)
def kB:=AB 60 (AG Xc)
def sk:=AB 60 (AG kB)
def Xb:=AB 60 (AL Xc)
def sj:=AB 60 (AG Xb)
def Xa:=AB 60 (AL Xb)
def si:=AB 60 (AG Xa)
def sg:=AB 60 (AL Xa)
theorem iQ (d:Int) (w:World):Calls Tryz.prog 148 ([D d]:List Value).toArray w fun e w'=>e=.returned (D (Cu d))∧Below w.heap.size w w':=by
 refine Af (fn:=Tryz.f148) (c:=dO) (n:=29) ?_
 have K1:=Wk.start w
 refine AC fa K1 [] fun w1 K2=>?_
 refine AM (d == 1) (fun q=>?_) (fun q=>?_)
 ·refine AC pI K2 [] fun w3 K3=>?_
  refine AM (d == 1) (fun _=>?_) (fun h=>nomatch h.symm.trans q)
  refine AC vf K3 [] fun w5 K4=>?_
  exact AO K4 (0,0) (D 0) (by unfold Cu; rw [q] <;> rfl)
 ·refine AC fZ K2 [] fun w6 K5=>?_
  refine AM (d == 2) (fun r=>?_) (fun r=>?_)
  ·refine AC pH K5 [] fun w8 K6=>?_
   refine AM (d == 2) (fun _=>?_) (fun h=>nomatch h.symm.trans r)
   refine AC ve K6 [] fun g5 K7=>?_
   exact AO K7 (0,0) (D 0) (by unfold Cu; rw [q,r] <;> rfl)
  ·refine AC fY K5 [] fun f5 K8=>?_
   refine AM (d == 3) (fun a=>?_) (fun a=>?_)
   ·refine AC pG K8 [] fun e5 K9=>?_
    refine AM (d == 3) (fun _=>?_) (fun h=>nomatch h.symm.trans a)
    refine AC vb K9 [] fun d5 s2=>?_
    exact AO s2 (0,0) (D 0) (by unfold Cu; rw [q,r,a] <;> rfl)
   ·refine AC fX K8 [] fun c5 b1=>?_
    refine AM (d == 20) (fun b=>?_) (fun b=>?_)
    ·refine AC kO b1 [] fun b5 r2=>?_
     refine AM (d == 20) (fun _=>?_) (fun h=>nomatch h.symm.trans b)
     refine AC tB r2 [] fun a5 q2=>?_
     exact AO q2 (0,0) (D 0) (by unfold Cu; rw [q,r,a,b] <;> rfl)
    ·refine AC Xq b1 [] fun z4 a1=>?_
     refine AM (d == 21) (fun g=>?_) (fun g=>?_)
     ·refine AC tA a1 [] fun y4 p2=>?_
      exact AO p2 (0,0) (D 0) (by unfold Cu; rw [q,r,a,b,g] <;> rfl)
     ·refine AC Xp a1 [] fun x4 z0=>?_
      refine AM (d == 4) (fun f=>?_) (fun f=>?_)
      ·refine AC kN z0 [] fun w4 m2=>?_
       refine AM (d == 4) (fun _=>?_) (fun h=>nomatch h.symm.trans f)
       refine AC s9 m2 [] fun v4 l2=>?_
       exact AO l2 (0,0) (D 1) (by unfold Cu; rw [q,r,a,b,g,f] <;> rfl)
      ·refine AC Xo z0 [] fun u4 y0=>?_
       refine AM (d == 16) (fun i=>?_) (fun i=>?_)
       ·refine AC kM y0 [] fun t4 k2=>?_
        refine AM (d == 16) (fun _=>?_) (fun h=>nomatch h.symm.trans i)
        refine AC s8 k2 [] fun s4 i2=>?_
        exact AO i2 (0,0) (D 1) (by unfold Cu; rw [q,r,a,b,g,f,i] <;> rfl)
       ·refine AC Xn y0 [] fun r4 x0=>?_
        refine AM (d == 17) (fun j=>?_) (fun j=>?_)
        ·refine AC kL x0 [] fun q4 h2=>?_
         refine AM (d == 17) (fun _=>?_) (fun h=>nomatch h.symm.trans j)
         refine AC s6 h2 [] fun m4 g2=>?_
         exact AO g2 (0,0) (D 1) (by unfold Cu; rw [q,r,a,b,g,f,i,j] <;> rfl)
        ·refine AC Xm x0 [] fun k4 w0=>?_
         refine AM (d == 19) (fun l=>?_) (fun l=>?_)
         ·refine AC s0 w0 [] fun i4 f2=>?_
          exact AO f2 (0,0) (D 1) (by unfold Cu; rw [q,r,a,b,g,f,i,j,l] <;> rfl)
         ·refine AC Xl w0 [] fun h4 v0=>?_
          refine AM (d == 5) (fun k=>?_) (fun k=>?_)
          ·refine AC kK v0 [] fun g4 e2=>?_
           refine AM (d == 5) (fun _=>?_) (fun h=>nomatch h.symm.trans k)
           refine AC sy e2 [] fun f4 d2=>?_
           exact AO d2 (0,0) (D 2) (by unfold Cu; rw [q,r,a,b,g,f,i,j,l,k] <;> rfl)
          ·refine AC Xk v0 [] fun e4 t0=>?_
           refine AM (d == 6) (fun m=>?_) (fun m=>?_)
           ·refine AC kJ t0 [] fun c4 b2=>?_
            refine AM (d == 6) (fun _=>?_) (fun h=>nomatch h.symm.trans m)
            refine AC sx b2 [] fun b4 a2=>?_
            exact AO a2 (0,0) (D 2) (by unfold Cu; rw [q,r,a,b,g,f,i,j,l,k,m] <;> rfl)
           ·refine AC Xj t0 [] fun a4 r0=>?_
            refine AM (d == 7) (fun o=>?_) (fun o=>?_)
            ·refine AC kI r0 [] fun z3 z1=>?_
             refine AM (d == 7) (fun _=>?_) (fun h=>nomatch h.symm.trans o)
             refine AC sw z1 [] fun y3 y1=>?_
             exact AO y1 (0,0) (D 2) (by unfold Cu; rw [q,r,a,b,g,f,i,j,l,k,m,o] <;> rfl)
            ·refine AC Xi r0 [] fun x3 q0=>?_
             refine AM (d == 8) (fun p=>?_) (fun p=>?_)
             ·refine AC kH q0 [] fun v3 x1=>?_
              refine AM (d == 8) (fun _=>?_) (fun h=>nomatch h.symm.trans p)
              refine AC sv x1 [] fun u3 v1=>?_
              exact AO v1 (0,0) (D 2) (by unfold Cu; rw [q,r,a,b,g,f,i,j,l,k,m,o,p] <;> rfl)
             ·refine AC Xh q0 [] fun t3 k0=>?_
              refine AM (d == 9) (fun s=>?_) (fun s=>?_)
              ·refine AC kG k0 [] fun s3 t1=>?_
               refine AM (d == 9) (fun _=>?_) (fun h=>nomatch h.symm.trans s)
               refine AC su t1 [] fun r3 s1=>?_
               exact AO s1 (0,0) (D 2) (by unfold Cu; rw [q,r,a,b,g,f,i,j,l,k,m,o,p,s] <;> rfl)
              ·refine AC Xg k0 [] fun q3 i0=>?_
               refine AM (d == 10) (fun t=>?_) (fun t=>?_)
               ·refine AC kF i0 [] fun m3 r1=>?_
                refine AM (d == 10) (fun _=>?_) (fun h=>nomatch h.symm.trans t)
                refine AC sr r1 [] fun l3 q1=>?_
                exact AO q1 (0,0) (D 2) (by unfold Cu; rw [q,r,a,b,g,f,i,j,l,k,m,o,p,s,t] <;> rfl)
               ·refine AC Xf i0 [] fun k3 h0=>?_
                refine AM (d == 11) (fun u=>?_) (fun u=>?_)
                ·refine AC kE h0 [] fun i3 p1=>?_
                 refine AM (d == 11) (fun _=>?_) (fun h=>nomatch h.symm.trans u)
                 refine AC sq p1 [] fun h3 n1=>?_
                 exact AO n1 (0,0) (D 2) (by unfold Cu; rw [q,r,a,b,g,f,i,j,l,k,m,o,p,s,t,u] <;> rfl)
                ·refine AC Xe h0 [] fun g3 f0=>?_
                 refine AM (d == 12) (fun v=>?_) (fun v=>?_)
                 ·refine AC kD f0 [] fun f3 m1=>?_
                  refine AM (d == 12) (fun _=>?_) (fun h=>nomatch h.symm.trans v)
                  refine AC so m1 [] fun e3 k1=>?_
                  exact AO k1 (0,0) (D 2) (by unfold Cu; rw [q,r,a,b,g,f,i,j,l,k,m,o,p,s,t,u,v] <;> rfl)
                 ·refine AC Xd f0 [] fun d3 e0=>?_
                  refine AM (d == 13) (fun x=>?_) (fun x=>?_)
                  ·refine AC kC e0 [] fun c3 i1=>?_
                   refine AM (d == 13) (fun _=>?_) (fun h=>nomatch h.symm.trans x)
                   refine AC sl i1 [] fun b3 h1=>?_
                   exact AO h1 (0,0) (D 2) (by unfold Cu; rw [q,r,a,b,g,f,i,j,l,k,m,o,p,s,t,u,v,x] <;> rfl)
                  ·refine AC Xc e0 [] fun a3 d0=>?_
                   refine AM (d == 14) (fun y=>?_) (fun y=>?_)
                   ·refine AC kB d0 [] fun z2 g1=>?_
                    refine AM (d == 14) (fun _=>?_) (fun h=>nomatch h.symm.trans y)
                    refine AC sk g1 [] fun y2 f1=>?_
                    exact AO f1 (0,0) (D 2) (by unfold Cu; rw [q,r,a,b,g,f,i,j,l,k,m,o,p,s,t,u,v,x,y] <;> rfl)
                   ·refine AC Xb d0 [] fun x2 c0=>?_
                    refine AM (d == 15) (fun z=>?_) (fun z=>?_)
                    ·refine AC sj c0 [] fun w2 e1=>?_
                     exact AO e1 (0,0) (D 2) (by unfold Cu; rw [q,r,a,b,g,f,i,j,l,k,m,o,p,s,t,u,v,x,y,z] <;> rfl)
                    ·refine AC Xa c0 [] fun v2 b0=>?_
                     refine AM (d == 18) (fun a0=>?_) (fun a0=>?_)
                     ·refine AC si b0 [] fun u2 d1=>?_
                      exact AO d1 (0,0) (D 3) (by unfold Cu; rw [q,r,a,b,g,f,i,j,l,k,m,o,p,s,t,u,v,x,y,z,a0] <;> rfl)
                     ·refine AC sg b0 [] fun t2 c1=>?_
                      exact AO c1 (0,0) (D (-1)) (by unfold Cu; rw [q,r,a,b,g,f,i,j,l,k,m,o,p,s,t,u,v,x,y,z,a0] <;> rfl)
def Cs (p0a:Int) (p0ba:Int) (p0bb:Int) (p0ca:Int) (p0cb:Int) (p0cc:Int) (p0d:List UInt8) (p0e:Int) (p0f:Int):Bool:=cond (p0a == 1) (cond (cond (cond (cond (ET p0ba p0bb) (FA p0ca p0cb p0cc) (false)) (decide (p0d=[])) (false)) (p0e == 0) (false)) (p0f == 0) (false)) (cond (p0a == 2) (cond (cond (cond (cond ((p0ba == 0) && (p0bb == 0)) ((p0ca == 0) && ((p0cb == 0) && (p0cc == 0))) (false)) (decide (p0d=[])) (false)) (cond (p0e == 0) (true) (p0e == 1)) (false)) (p0f == 0) (false)) (cond (p0a == 3) (cond (cond (cond (cond ((p0ba == 0) && (p0bb == 0)) ((p0ca == 0) && ((p0cb == 0) && (p0cc == 0))) (false)) (Tk.isName p0d) (false)) (p0e == 0) (false)) (p0f == 0) (false)) (cond (p0a == 4) (cond (cond (cond (cond ((p0ba == 0) && (p0bb == 0)) ((p0ca == 0) && ((p0cb == 0) && (p0cc == 0))) (false)) (Tk.isName p0d) (false)) (p0e == 0) (false)) (p0f == 0) (false)) (cond (p0a == 19) (cond (cond (cond (cond (Ho p0ba p0bb) (FA p0ca p0cb p0cc) (false)) (decide (p0d=[])) (false)) (p0e == 0) (false)) (IW p0f) (false)) (cond (p0a == 20) (cond (cond (cond (cond ((p0ba == 0) && (p0bb == 0)) ((p0ca == 0) && ((p0cb == 0) && (p0cc == 0))) (false)) (Tk.isName p0d) (false)) (cond (decide (1≤p0e)) (decide (p0e≤120)) (false)) (false)) (p0f == 0) (false)) (cond (p0a == 21) (cond (cond (cond (cond ((p0ba == 0) && (p0bb == 0)) ((p0ca == 0) && ((p0cb == 0) && (p0cc == 0))) (false)) (Tk.isName p0d) (false)) (cond (decide (1≤p0e)) (decide (p0e≤120)) (false)) (false)) (p0f == 0) (false)) (cond (cond (cond (cond ((p0ba == 0) && (p0bb == 0)) ((p0ca == 0) && ((p0cb == 0) && (p0cc == 0))) (false)) (decide (p0d=[])) (false)) (p0e == 0) (false)) (p0f == 0) (false))))))))
noncomputable def cl:Code:=Tryz.f149.body.getD .skip
def ne:=Ad 1 ([.code cl])
def nd:=Ad 2 (AP ne)
def nb:=Ad 3 (AP nd)
def eN:=AB 60 (AP nb)
def na:=Ad 6 (AG eN)
def nZ:=Ad 18 (AP na)
def ua:=AB 60 (AP nZ)
def eM:=AB 60 (AL eN)
def nY:=Ad 8 (AG eM)
def nX:=Ad 18 (AP nY)
def rk:=AB 60 (AP nX)
def WU:=AB 60 (AL eM)
def jM:=AB 60 (AG WU)
def jL:=AB 60 (AG jM)
def jK:=Ad 18 (AE jL)
def rj:=AB 60 (AP jK)
def WT:=AB 60 (AL WU)
def jJ:=AB 60 (AG WT)
def jI:=Ad 18 (AE jJ)
def ri:=AB 60 (AP jI)
def WS:=AB 60 (AL WT)
def jH:=Ad 13 (AG WS)
def jG:=Ad 18 (AP jH)
def rh:=AB 60 (AP jG)
def WR:=AB 60 (AL WS)
def jF:=AB 60 (AG WR)
def jE:=AB 60 (AG jF)
def jD:=Ad 17 (AE jE)
def jC:=Ad 18 (AP jD)
def rg:=AB 60 (AP jC)
def WQ:=AB 60 (AL WR)
def jB:=AB 60 (AG WQ)
def jA:=Ad 17 (AE jB)
def i9:=Ad 18 (AP jA)
def rf:=AB 60 (AP i9)
def i8:=Ad 18 (AL WQ)
def re:=AB 60 (AP i8)
theorem Oe (q j i g f d:Int) (m:List UInt8) (p o:Int) (c0:Option Addr) (a0 b0:Nat) (w:World) (hs:m.length≤4294967296):Calls Tryz.prog 149 ([.agg ⟨[D q,D j,D i,D g,D f,D d,.string ⟨⟨m⟩⟩,D p,D o,.slice c0 a0 b0]⟩]:List Value).toArray w fun e w'=>e=.returned (.bool (Cs q j i g f d m p o))∧Below w.heap.size w w':=by
 refine Af (fn:=Tryz.f149) (c:=cl) (n:=89) ?_
 have K1:=Wk.start w
 refine CR 1 ne [⟨w.heap.size,0,[D q,D j,D i,D g,D f,D d,.string ⟨⟨m⟩⟩,D p,D o,.slice c0 a0 b0],32,true⟩] K1 [] fun w1 K2=>?_
 let z6:=(j == 0) && (i == 0)
 refine Ao K2 [(1,0,1)] [⟨3,[(9,.agg ⟨[D j,D i]⟩),(10,.agg ⟨[D 0,D 0]⟩)],.bool z6,true⟩] K2.G (fun sp l=>?_) fun w2 E2 K3=>?_
 ·rw [List.mem_singleton.1 l]
  exact An fun _ E u _=>EP (k:=.eql) (T:=29) (a:=.agg ⟨[D j,D i]⟩) (b:=.agg ⟨[D 0,D 0]⟩) (F1 u j i 0 0)
 refine Al 2 nd K3 [] fun w3 K4=>?_
 let z5:=(g == 0) && ((f == 0) && (d == 0))
 refine Ao K4 [(1,0,3)] [⟨3,[(13,.agg ⟨[D g,D f,D d]⟩),(14,.agg ⟨[D 0,D 0,D 0]⟩)],.bool z5,true⟩] K4.G (fun sp l=>?_) fun w4 E4 K5=>?_
 ·rw [List.mem_singleton.1 l]
  exact An fun _ E u _=>EP (k:=.eql) (T:=24) (a:=.agg ⟨[D g,D f,D d]⟩) (b:=.agg ⟨[D 0,D 0,D 0]⟩) (I2 u g f d 0 0 0)
 refine Al 3 nb K5 [] fun w5 K6=>?_
 refine Ao K6 [(1,0,6),(4,0,7),(7,0,8)] [⟨2,[(17,.string ⟨⟨m⟩⟩)],.bool (decide (m=[])),true⟩] K6.G (fun sp l=>?_) fun w6 E6 K7=>?_
 ·rw [List.mem_singleton.1 l]
  exact An fun _ E u _=>IR (T:=9) (T':=9) (x:=.tmp 17) (y:=.const (.string ⟨⟨[]⟩⟩))
 refine AC eN K7 [(0,0)] fun w7 K8=>?_
 refine AM (q == 1) (fun c8=>?_) (fun c8=>?_)
 ·refine Al 6 na K8 [] fun w9 K9=>?_
  refine Ao K9 [(1,0,1),(4,0,3)] [⟨2,[(30,.agg ⟨[D j,D i]⟩)],.bool (ET j i),true⟩,⟨5,[(33,.agg ⟨[D g,D f,D d]⟩)],.bool (FA g f d),true⟩] K9.G (fun sp l=>?_) fun a5 s5 u2=>?_
  ·simp only [List.mem_cons,List.not_mem_nil,or_false] at l
   rcases l with rfl | rfl
   ·exact AX 123 [.tmp 30] [.agg ⟨[D j,D i]⟩] (fun _=>by kernel_rfl) fun hc u hu=>AR hu (KF j i u)
   ·exact AX 122 [.tmp 33] [.agg ⟨[D g,D f,D d]⟩] (fun _=>by kernel_rfl) fun hc u hu=>AR hu (Jc g f d u)
  refine Al 18 nZ u2 [] fun z4 d1=>?_
  refine Ao d1 [] [] d1.G (fun sp l=>by cases l) fun y4 r5 t2=>?_
  refine AC ua t2 [] fun x4 s2=>?_
  exact AO s2 (0,0) (.bool (cond (cond (cond (cond (ET j i) (FA g f d) (false)) (decide (m=[])) (false)) (p == 0) (false)) (o == 0) (false))) (by unfold Cs; rw [c8] <;> rfl)
 ·refine AC eM K8 [] fun v4 c1=>?_
  refine AM (q == 2) (fun s=>?_) (fun s=>?_)
  ·refine Al 8 nY c1 [] fun u4 b1=>?_
   refine Ao b1 [(1,0,7),(5,0,7)] [] b1.G (fun sp l=>by cases l) fun t4 q5 r2=>?_
   refine Al 18 nX r2 [] fun s4 a1=>?_
   refine Ao a1 [] [] a1.G (fun sp l=>by cases l) fun r4 m5 q2=>?_
   refine AC rk q2 [] fun q4 p2=>?_
   exact AO p2 (0,0) (.bool (cond (cond (cond (cond z6 z5 (false)) (decide (m=[])) (false)) (cond (p == 0) (true) (p == 1)) (false)) (o == 0) (false))) (by unfold Cs; rw [c8,s] <;> rfl)
  ·refine AC WU c1 [] fun m4 z0=>?_
   refine AM (q == 3) (fun r=>?_) (fun r=>?_)
   ·refine AC jM z0 [] fun k4 m2=>?_
    refine AM (q == 3) (fun _=>?_) (fun h=>nomatch h.symm.trans r)
    refine AC jL m2 [(0,6)] fun h1 l2=>?_
    refine Ap l2 (Fw m h1 (by assumption)) fun i4 k2=>?_
    refine Al 18 jK k2 [] fun h4 y0=>?_
    refine Ao y0 [] [] y0.G (fun sp l=>by cases l) fun g4 k5 i2=>?_
    refine AC rj i2 [] fun f4 h2=>?_
    exact AO h2 (0,0) (.bool (cond (cond (cond (cond z6 z5 (false)) (Tk.isName m) (false)) (p == 0) (false)) (o == 0) (false))) (by unfold Cs; rw [c8,s,r] <;> rfl)
   ·refine AC WT z0 [] fun e4 x0=>?_
    refine AM (q == 4) (fun t=>?_) (fun t=>?_)
    ·refine AC jJ x0 [(0,6)] fun g1 g2=>?_
     refine Ap g2 (Fw m g1 (by assumption)) fun c4 f2=>?_
     refine Al 18 jI f2 [] fun b4 w0=>?_
     refine Ao w0 [] [] w0.G (fun sp l=>by cases l) fun a4 i5 e2=>?_
     refine AC ri e2 [] fun z3 d2=>?_
     exact AO d2 (0,0) (.bool (cond (cond (cond (cond z6 z5 (false)) (Tk.isName m) (false)) (p == 0) (false)) (o == 0) (false))) (by unfold Cs; rw [c8,s,r,t] <;> rfl)
    ·refine AC WS x0 [] fun y3 v0=>?_
     refine AM (q == 19) (fun z=>?_) (fun z=>?_)
     ·refine Al 13 jH v0 [] fun x3 t0=>?_
      refine Ao t0 [(1,0,1),(4,0,3),(7,0,8)] [⟨2,[(54,.agg ⟨[D j,D i]⟩)],.bool (Ho j i),true⟩,⟨5,[(57,.agg ⟨[D g,D f,D d]⟩)],.bool (FA g f d),true⟩,⟨8,[(60,D o)],.bool (IW o),true⟩] t0.G (fun sp l=>?_) fun v3 h5 c2=>?_
      ·simp only [List.mem_cons,List.not_mem_nil,or_false] at l
       rcases l with rfl | rfl | rfl
       ·exact AX 82 [.tmp 54] [.agg ⟨[D j,D i]⟩] (fun _=>by kernel_rfl) fun hc u hu=>AR hu (PY j i u)
       ·exact AX 122 [.tmp 57] [.agg ⟨[D g,D f,D d]⟩] (fun _=>by kernel_rfl) fun hc u hu=>AR hu (Jc g f d u)
       ·exact AX 81 [.tmp 60] [D o] (fun _=>by kernel_rfl) fun hc u hu=>AR hu (Pb o u)
      refine Al 18 jG c2 [] fun u3 r0=>?_
      refine Ao r0 [] [] r0.G (fun sp l=>by cases l) fun t3 g5 b2=>?_
      refine AC rh b2 [] fun s3 a2=>?_
      exact AO a2 (0,0) (.bool (cond (cond (cond (cond (Ho j i) (FA g f d) (false)) (decide (m=[])) (false)) (p == 0) (false)) (IW o) (false))) (by unfold Cs; rw [c8,s,r,t,z] <;> rfl)
     ·refine AC WR v0 [] fun r3 q0=>?_
      refine AM (q == 20) (fun v=>?_) (fun v=>?_)
      ·refine AC jF q0 [] fun q3 z1=>?_
       refine AM (q == 20) (fun _=>?_) (fun h=>nomatch h.symm.trans v)
       refine AC jE z1 [(0,6)] fun f1 y1=>?_
       refine Ap y1 (Fw m f1 (by assumption)) fun m3 x1=>?_
       refine Al 17 jD x1 [] fun l3 p0=>?_
       refine Ao p0 [(1,0,7),(5,0,7)] [] p0.G (fun sp l=>by cases l) fun k3 f5 v1=>?_
       refine Al 18 jC v1 [] fun i3 k0=>?_
       refine Ao k0 [] [] k0.G (fun sp l=>by cases l) fun h3 e5 t1=>?_
       refine AC rg t1 [] fun g3 s1=>?_
       exact AO s1 (0,0) (.bool (cond (cond (cond (cond z6 z5 (false)) (Tk.isName m) (false)) (cond (decide (1≤p)) (decide (p≤120)) (false)) (false)) (o == 0) (false))) (by unfold Cs; rw [c8,s,r,t,z,v] <;> rfl)
      ·refine AC WQ q0 [] fun f3 i0=>?_
       refine AM (q == 21) (fun d0=>?_) (fun d0=>?_)
       ·refine AC jB i0 [(0,6)] fun e1 r1=>?_
        refine Ap r1 (Fw m e1 (by assumption)) fun e3 q1=>?_
        refine Al 17 jA q1 [] fun d3 h0=>?_
        refine Ao h0 [(1,0,7),(5,0,7)] [] h0.G (fun sp l=>by cases l) fun c3 d5 p1=>?_
        refine Al 18 i9 p1 [] fun b3 f0=>?_
        refine Ao f0 [] [] f0.G (fun sp l=>by cases l) fun a3 c5 n1=>?_
        refine AC rf n1 [] fun z2 m1=>?_
        exact AO m1 (0,0) (.bool (cond (cond (cond (cond z6 z5 (false)) (Tk.isName m) (false)) (cond (decide (1≤p)) (decide (p≤120)) (false)) (false)) (o == 0) (false))) (by unfold Cs; rw [c8,s,r,t,z,v,d0] <;> rfl)
       ·refine Al 18 i8 i0 [] fun y2 e0=>?_
        refine Ao e0 [] [] e0.G (fun sp l=>by cases l) fun x2 b5 k1=>?_
        refine AC re k1 [] fun v2 i1=>?_
        exact AO i1 (0,0) (.bool (cond (cond (cond (cond z6 z5 (false)) (decide (m=[])) (false)) (p == 0) (false)) (o == 0) (false))) (by unfold Cs; rw [c8,s,r,t,z,v,d0] <;> rfl)
def Hm (p0a:Int) (p0ba:Int) (p0bb:Int) (p0ca:Int) (p0cb:Int) (p0cc:Int) (p0d:List UInt8) (p0e:Int) (p0f:Int) (p0gn:Nat):Bool:=cond (cond (cond (cond (cond (cond (p0a == 0) ((p0ba == 0) && (p0bb == 0)) (false)) ((p0ca == 0) && ((p0cb == 0) && (p0cc == 0))) (false)) (decide (p0d=[])) (false)) (p0e == 0) (false)) (p0f == 0) (false)) ((p0gn:Int) == 0) (false)
noncomputable def dR:Code:=Tryz.f76.body.getD .skip
def pO:=Ad 1 ([.code dR])
def vm:=AB 60 (AP pO)
theorem ZA (j f d i h g:Int) (m:List UInt8) (p o:Int) (r:Option Addr) (l q:Nat) (w:World):Calls Tryz.prog 76 ([.agg ⟨[D j,D f,D d,D i,D h,D g,.string ⟨⟨m⟩⟩,D p,D o,.slice r l q]⟩]:List Value).toArray w fun e w'=>e=.returned (.bool (Hm j f d i h g m p o l))∧Below w.heap.size w w':=by
 refine Af (fn:=Tryz.f76) (c:=dR) (n:=39) ?_
 have K1:=Wk.start w
 refine CR 1 pO [⟨w.heap.size,0,[D j,D f,D d,D i,D h,D g,.string ⟨⟨m⟩⟩,D p,D o,.slice r l q],32,true⟩] K1 [] fun w1 t=>?_
 let z5:=cond (cond (j == 0) ((f == 0) && (d == 0)) (false)) ((i == 0) && ((h == 0) && (g == 0))) (false)
 refine Ao t [(1,0,0),(5,0,1),(11,0,3),(17,0,6),(22,0,7),(27,0,8),(32,0,9)] [⟨7,[(8,.agg ⟨[D f,D d]⟩),(9,.agg ⟨[D 0,D 0]⟩)],.bool ((f == 0) && (d == 0)),((j == 0)) && (true)⟩,⟨13,[(14,.agg ⟨[D i,D h,D g]⟩),(15,.agg ⟨[D 0,D 0,D 0]⟩)],.bool ((i == 0) && ((h == 0) && (g == 0))),((cond (j == 0) ((f == 0) && (d == 0)) (false))) && (true)⟩,⟨18,[(20,.string ⟨⟨m⟩⟩)],.bool (decide (m=[])),(z5) && (true)⟩] t.G (fun sp s=>?_) fun w2 E2 z=>?_
 ·simp only [List.mem_cons,List.not_mem_nil,or_false] at s
  rcases s with rfl | rfl | rfl
  ·exact An fun _ E u _=>EP (k:=.eql) (T:=29) (a:=.agg ⟨[D f,D d]⟩) (b:=.agg ⟨[D 0,D 0]⟩) (F1 u f d 0 0)
  ·exact An fun _ E u _=>EP (k:=.eql) (T:=24) (a:=.agg ⟨[D i,D h,D g]⟩) (b:=.agg ⟨[D 0,D 0,D 0]⟩) (I2 u i h g 0 0 0)
  ·exact An fun _ E u _=>IR (T:=9) (T':=9) (x:=.tmp 20) (y:=.const (.string ⟨⟨[]⟩⟩))
 refine AC vm z [] fun w3 v=>?_
 exact AO v (0,0) (.bool (cond (cond (cond (cond z5 (decide (m=[])) (false)) (p == 0) (false)) (o == 0) (false)) ((l:Int) == 0) (false))) (by unfold Hm; rfl)
end
end Go.Proofs.YtmcpjkcggfmcmaaGreatDoor

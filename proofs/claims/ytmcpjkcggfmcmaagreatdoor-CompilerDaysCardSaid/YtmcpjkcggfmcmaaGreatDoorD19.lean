/-
  Part 19 of a proof: contracts of functions.
-/
import Derived.Test.YtmcpjkcggfmcmaaGreatDoorD18
set_option linter.all false
namespace Go.Proofs.YtmcpjkcggfmcmaaGreatDoor
noncomputable section
open Go.RowKit
set_option maxRecDepth 100000
set_option maxHeartbeats 1000000
attribute [local irreducible] BO CB AE AG AL Ay Aj AP Bc Cq Eb CT CO At Fr
def AZ (p0:Int):Int×Int×Int×Int×Int×Int:=(1,0,p0,1,0,0)
def bZ (r:Int×Int×Int×Int×Int×Int):Value:=.agg ⟨[D (r.1),D (r.2.1),D (r.2.2.1),D (r.2.2.2.1),D (r.2.2.2.2.1),D (r.2.2.2.2.2)]⟩
noncomputable def dh:Code:=Tryz.f97.body.getD .skip
def wM:=AB 60 ([.code dh])
theorem N9 (a:Int) (w:World):Calls Tryz.prog 97 ([D a]:List Value).toArray w fun e w'=>e=.returned (bZ (AZ a))∧Below w.heap.size w w':=by
 refine Af (fn:=Tryz.f97) (c:=dh) (n:=6) ?_
 have d:=Wk.start w
 refine BQ wM d [(0,0)] fun f b=>?_
 exact AO b (0,0) (.agg ⟨[D 1,D 0,D a,D 1,D 0,D 0]⟩) (by unfold AZ; rfl)
def qk1 (p0:Int):Int:=cond (p0 == 5) (5) (cond (p0 == 6) (6) (cond (p0 == 7) (7) (cond (p0 == 8) (8) (cond (p0 == 9) (9) (cond (p0 == 10) (10) (cond (p0 == 11) (11) (cond (p0 == 14) (12) (cond (p0 == 15) (13) (cond (p0 == 16) (14) (cond (p0 == 17) (15) (0)))))))))))
noncomputable def dk:Code:=Tryz.f98.body.getD .skip
def gG:=AB 60 ([.code dk])
def wT:=AB 60 (AG gG)
def gF:=AB 60 (AL gG)
def wS:=AB 60 (AG gF)
def gE:=AB 60 (AL gF)
def wR:=AB 60 (AG gE)
def gD:=AB 60 (AL gE)
def wQ:=AB 60 (AG gD)
def gA:=AB 60 (AL gD)
def wP:=AB 60 (AG gA)
def YV:=AB 60 (AL gA)
def tf:=AB 60 (AG YV)
def YU:=AB 60 (AL YV)
def te:=AB 60 (AG YU)
def YT:=AB 60 (AL YU)
def tc:=AB 60 (AG YT)
def YS:=AB 60 (AL YT)
def ta:=AB 60 (AG YS)
def YR:=AB 60 (AL YS)
def tZ:=AB 60 (AG YR)
def YQ:=AB 60 (AL YR)
def tY:=AB 60 (AG YQ)
def tX:=AB 60 (AL YQ)
theorem bc (g:Int) (w:World):Calls Tryz.prog 98 ([D g]:List Value).toArray w fun e w'=>e=.returned (D (qk1 g))∧Below w.heap.size w w':=by
 refine Af (fn:=Tryz.f98) (c:=dk) (n:=26) ?_
 have K1:=Wk.start w
 refine AC gG K1 [] fun w1 K2=>?_
 refine AM (g == 5) (fun i=>?_) (fun i=>?_)
 ·refine AC wT K2 [] fun w3 K3=>?_
  exact AO K3 (0,0) (D 5) (by unfold qk1; rw [i] <;> rfl)
 ·refine AC gF K2 [] fun w4 K4=>?_
  refine AM (g == 6) (fun j=>?_) (fun j=>?_)
  ·refine AC wS K4 [] fun w6 K5=>?_
   exact AO K5 (0,0) (D 6) (by unfold qk1; rw [i,j] <;> rfl)
  ·refine AC gE K4 [] fun w7 K6=>?_
   refine AM (g == 7) (fun k=>?_) (fun k=>?_)
   ·refine AC wR K6 [] fun w9 K7=>?_
    exact AO K7 (0,0) (D 7) (by unfold qk1; rw [i,j,k] <;> rfl)
   ·refine AC gD K6 [] fun e1 K8=>?_
    refine AM (g == 8) (fun a=>?_) (fun a=>?_)
    ·refine AC wQ K8 [] fun d1 K9=>?_
     exact AO K9 (0,0) (D 8) (by unfold qk1; rw [i,j,k,a] <;> rfl)
    ·refine AC gA K8 [] fun c1 v=>?_
     refine AM (g == 9) (fun b=>?_) (fun b=>?_)
     ·refine AC wP v [] fun b1 e0=>?_
      exact AO e0 (0,0) (D 9) (by unfold qk1; rw [i,j,k,a,b] <;> rfl)
     ·refine AC YV v [] fun a1 u=>?_
      refine AM (g == 10) (fun d=>?_) (fun d=>?_)
      ·refine AC tf u [] fun z0 d0=>?_
       exact AO d0 (0,0) (D 10) (by unfold qk1; rw [i,j,k,a,b,d] <;> rfl)
      ·refine AC YU u [] fun y0 t=>?_
       refine AM (g == 11) (fun f=>?_) (fun f=>?_)
       ·refine AC te t [] fun x0 c0=>?_
        exact AO c0 (0,0) (D 11) (by unfold qk1; rw [i,j,k,a,b,d,f] <;> rfl)
       ·refine AC YT t [] fun w0 s=>?_
        refine AM (g == 14) (fun h=>?_) (fun h=>?_)
        ·refine AC tc s [] fun v0 b0=>?_
         exact AO b0 (0,0) (D 12) (by unfold qk1; rw [i,j,k,a,b,d,f,h] <;> rfl)
        ·refine AC YS s [] fun t0 r=>?_
         refine AM (g == 15) (fun l=>?_) (fun l=>?_)
         ·refine AC ta r [] fun r0 a0=>?_
          exact AO a0 (0,0) (D 13) (by unfold qk1; rw [i,j,k,a,b,d,f,h,l] <;> rfl)
         ·refine AC YR r [] fun q0 q=>?_
          refine AM (g == 16) (fun m=>?_) (fun m=>?_)
          ·refine AC tZ q [] fun k0 z=>?_
           exact AO z (0,0) (D 14) (by unfold qk1; rw [i,j,k,a,b,d,f,h,l,m] <;> rfl)
          ·refine AC YQ q [] fun i0 p=>?_
           refine AM (g == 17) (fun o=>?_) (fun o=>?_)
           ·refine AC tY p [] fun h0 y=>?_
            exact AO y (0,0) (D 15) (by unfold qk1; rw [i,j,k,a,b,d,f,h,l,m,o] <;> rfl)
           ·refine AC tX p [] fun f0 x=>?_
            exact AO x (0,0) (D 0) (by unfold qk1; rw [i,j,k,a,b,d,f,h,l,m,o] <;> rfl)
def BZ (p0:Int):Int×Int:=cond (p0 == 1) ((0,1)) (cond (p0 == 2) ((0,1)) (cond (p0 == 3) ((0,1)) (cond (p0 == 19) ((0,1)) (cond (p0 == 20) ((0,1)) (cond (p0 == 4) ((1,1)) (cond (p0 == 14) ((1,1)) (cond (p0 == 15) ((1,1)) (cond (p0 == 18) ((1,1)) (cond (p0 == 17) ((1,0)) (cond (p0 == 16) ((0,0)) ((2,1))))))))))))
def ia (r:Int×Int):Value:=.tuple #[D (r.1),D (r.2)]
noncomputable def dm:Code:=Tryz.f60.body.getD .skip
def gM:=AB 60 ([.code dm])
def qo:=AB 60 (AG gM)
def wY:=AB 60 (AG qo)
def gL:=AB 60 (AL gM)
def qn:=AB 60 (AG gL)
def wX:=AB 60 (AG qn)
def gK:=AB 60 (AL gL)
def qm:=AB 60 (AG gK)
def wW:=AB 60 (AG qm)
def gJ:=AB 60 (AL gK)
def lV:=AB 60 (AG gJ)
def t6:=AB 60 (AG lV)
def Yi:=AB 60 (AL gJ)
def tz:=AB 60 (AG Yi)
def Yh:=AB 60 (AL Yi)
def lU:=AB 60 (AG Yh)
def tx:=AB 60 (AG lU)
def Yg:=AB 60 (AL Yh)
def lT:=AB 60 (AG Yg)
def tw:=AB 60 (AG lT)
def Yf:=AB 60 (AL Yg)
def lS:=AB 60 (AG Yf)
def tv:=AB 60 (AG lS)
def Ye:=AB 60 (AL Yf)
def tu:=AB 60 (AG Ye)
def Yd:=AB 60 (AL Ye)
def tt:=AB 60 (AG Yd)
def Yc:=AB 60 (AL Yd)
def tr:=AB 60 (AG Yc)
def tq:=AB 60 (AL Yc)
theorem ZO (d:Int) (w:World):Calls Tryz.prog 60 ([D d]:List Value).toArray w fun e w'=>e=.returned (ia (BZ d))∧Below w.heap.size w w':=by
 refine Af (fn:=Tryz.f60) (c:=dm) (n:=20) ?_
 have K1:=Wk.start w
 refine AC gM K1 [] fun w1 K2=>?_
 refine AM (d == 1) (fun k=>?_) (fun k=>?_)
 ·refine AC qo K2 [] fun w3 K3=>?_
  refine AM (d == 1) (fun _=>?_) (fun h=>nomatch h.symm.trans k)
  refine AC wY K3 [] fun w5 K4=>?_
  exact AO K4 (0,0) (.tuple #[D 0,D 1]) (by unfold BZ; rw [k] <;> rfl)
 ·refine AC gL K2 [] fun w6 K5=>?_
  refine AM (d == 2) (fun l=>?_) (fun l=>?_)
  ·refine AC qn K5 [] fun w8 K6=>?_
   refine AM (d == 2) (fun _=>?_) (fun h=>nomatch h.symm.trans l)
   refine AC wX K6 [] fun z1 K7=>?_
   exact AO K7 (0,0) (.tuple #[D 0,D 1]) (by unfold BZ; rw [k,l] <;> rfl)
  ·refine AC gK K5 [] fun y1 K8=>?_
   refine AM (d == 3) (fun a=>?_) (fun a=>?_)
   ·refine AC qm K8 [] fun x1 K9=>?_
    refine AM (d == 3) (fun _=>?_) (fun h=>nomatch h.symm.trans a)
    refine AC wW K9 [] fun v1 v0=>?_
    exact AO v0 (0,0) (.tuple #[D 0,D 1]) (by unfold BZ; rw [k,l,a] <;> rfl)
   ·refine AC gJ K8 [] fun t1 y=>?_
    refine AM (d == 19) (fun b=>?_) (fun b=>?_)
    ·refine AC lV y [] fun s1 t0=>?_
     refine AM (d == 19) (fun _=>?_) (fun h=>nomatch h.symm.trans b)
     refine AC t6 t0 [] fun r1 r0=>?_
     exact AO r0 (0,0) (.tuple #[D 0,D 1]) (by unfold BZ; rw [k,l,a,b] <;> rfl)
    ·refine AC Yi y [] fun q1 x=>?_
     refine AM (d == 20) (fun g=>?_) (fun g=>?_)
     ·refine AC tz x [] fun p1 q0=>?_
      exact AO q0 (0,0) (.tuple #[D 0,D 1]) (by unfold BZ; rw [k,l,a,b,g] <;> rfl)
     ·refine AC Yh x [] fun n1 v=>?_
      refine AM (d == 4) (fun f=>?_) (fun f=>?_)
      ·refine AC lU v [] fun m1 k0=>?_
       refine AM (d == 4) (fun _=>?_) (fun h=>nomatch h.symm.trans f)
       refine AC tx k0 [] fun k1 i0=>?_
       exact AO i0 (0,0) (.tuple #[D 1,D 1]) (by unfold BZ; rw [k,l,a,b,g,f] <;> rfl)
      ·refine AC Yg v [] fun i1 u=>?_
       refine AM (d == 14) (fun i=>?_) (fun i=>?_)
       ·refine AC lT u [] fun h1 h0=>?_
        refine AM (d == 14) (fun _=>?_) (fun h=>nomatch h.symm.trans i)
        refine AC tw h0 [] fun g1 f0=>?_
        exact AO f0 (0,0) (.tuple #[D 1,D 1]) (by unfold BZ; rw [k,l,a,b,g,f,i] <;> rfl)
       ·refine AC Yf u [] fun f1 t=>?_
        refine AM (d == 15) (fun j=>?_) (fun j=>?_)
        ·refine AC lS t [] fun e1 e0=>?_
         refine AM (d == 15) (fun _=>?_) (fun h=>nomatch h.symm.trans j)
         refine AC tv e0 [] fun d1 d0=>?_
         exact AO d0 (0,0) (.tuple #[D 1,D 1]) (by unfold BZ; rw [k,l,a,b,g,f,i,j] <;> rfl)
        ·refine AC Ye t [] fun c1 s=>?_
         refine AM (d == 18) (fun m=>?_) (fun m=>?_)
         ·refine AC tu s [] fun b1 c0=>?_
          exact AO c0 (0,0) (.tuple #[D 1,D 1]) (by unfold BZ; rw [k,l,a,b,g,f,i,j,m] <;> rfl)
         ·refine AC Yd s [] fun a1 r=>?_
          refine AM (d == 17) (fun o=>?_) (fun o=>?_)
          ·refine AC tt r [] fun z0 b0=>?_
           exact AO b0 (0,0) (.tuple #[D 1,D 0]) (by unfold BZ; rw [k,l,a,b,g,f,i,j,m,o] <;> rfl)
          ·refine AC Yc r [] fun y0 q=>?_
           refine AM (d == 16) (fun p=>?_) (fun p=>?_)
           ·refine AC tr q [] fun x0 a0=>?_
            exact AO a0 (0,0) (.tuple #[D 0,D 0]) (by unfold BZ; rw [k,l,a,b,g,f,i,j,m,o,p] <;> rfl)
           ·refine AC tq q [] fun w0 z=>?_
            exact AO z (0,0) (.tuple #[D 2,D 1]) (by unfold BZ; rw [k,l,a,b,g,f,i,j,m,o,p] <;> rfl)
def GE (p0:Int):Bool:=cond (decide (0≤p0)) (decide (p0≤6)) (false)
noncomputable def dj:Code:=Tryz.f57.body.getD .skip
def qd:=Ad 1 ([.code dj])
def wO:=AB 60 (AP qd)
theorem N1 (a:Int) (w:World):Calls Tryz.prog 57 ([D a]:List Value).toArray w fun e w'=>e=.returned (.bool (GE a))∧Below w.heap.size w w':=by
 refine Af (fn:=Tryz.f57) (c:=dj) (n:=9) ?_
 have h:=Wk.start w
 refine Al 1 qd h [] fun k d=>?_
 refine Ao d [] [] d.G (fun sp b=>by cases b) fun j l g=>?_
 refine AC wO g [] fun i f=>?_
 exact AO f (0,0) (.bool (cond (decide (0≤a)) (decide (a≤6)) (false))) (by unfold GE; rfl)
def Ec (p0a:Int) (p0b:Int):Bool:=cond (Db p0a p0b) (decide (0 < p0a)) (false)
noncomputable def dd:Code:=Tryz.f58.body.getD .skip
def qR:=Ad 1 ([.code dd])
def wF:=AB 60 (AP qR)
theorem LG (a b:Int) (w:World):Calls Tryz.prog 58 ([.agg ⟨[D a,D b]⟩]:List Value).toArray w fun e w'=>e=.returned (.bool (Ec a b))∧Below w.heap.size w w':=by
 refine Af (fn:=Tryz.f58) (c:=dd) (n:=10) ?_
 have i:=Wk.start w
 refine CR 1 qR [⟨w.heap.size,0,[D a,D b],29,true⟩] i [] fun l f=>?_
 refine Ao f [(0,0,0),(4,0,0)] [⟨1,[(3,.agg ⟨[D a,D b]⟩)],.bool (Db a b),true⟩] f.G (fun sp d=>?_) fun k m h=>?_
 ·rw [List.mem_singleton.1 d]
  exact AX 56 [.tmp 3] [.agg ⟨[D a,D b]⟩] (fun _=>by kernel_rfl) fun hc u hu=>AR hu (GN a b u)
 refine AC wF h [] fun j g=>?_
 exact AO g (0,0) (.bool (cond (Db a b) (decide (0 < a)) (false))) (by unfold Ec; rfl)
def Du (p0:Int) (p1:Int):Bool:=cond (decide (0≤p0)) (decide (p0 < p1)) (false)
noncomputable def dc:Code:=Tryz.f59.body.getD .skip
def qC:=Ad 1 ([.code dc])
def wE:=AB 60 (AP qC)
theorem H6 (a p1:Int) (w:World):Calls Tryz.prog 59 ([D a,D p1]:List Value).toArray w fun e w'=>e=.returned (.bool (Du a p1))∧Below w.heap.size w w':=by
 refine Af (fn:=Tryz.f59) (c:=dc) (n:=12) ?_
 have h:=Wk.start w
 refine Al 1 qC h [] fun k d=>?_
 refine Ao d [] [] d.G (fun sp b=>by cases b) fun j l g=>?_
 refine AC wE g [] fun i f=>?_
 exact AO f (0,0) (.bool (cond (decide (0≤a)) (decide (a < p1)) (false))) (by unfold Du; rfl)
def Eo (p0b:Bool) (p0c:Int) (p0da:Int) (p0db:Int):Bool:=cond (!(p0b)) (cond (p0c == 0) ((p0da == 0) && (p0db == 0)) (false)) (cond (cond (GE p0c) (Ec p0da p0db) (false)) (Int.tmod 100 p0db == 0) (false))
noncomputable def df:Code:=Tryz.f24.body.getD .skip
def fx:=AB 60 ([.code df])
def qX:=Ad 2 (AG fx)
def wK:=AB 60 (AP qX)
def qW:=Ad 3 (AL fx)
def wJ:=AB 60 (AP qW)
theorem NQ (o:List UInt8) (h:Bool) (g f d:Int) (m:Option Addr) (j l:Nat) (w:World):Calls Tryz.prog 24 ([.agg ⟨[.string ⟨⟨o⟩⟩,.bool h,D g,D f,D d,.slice m j l]⟩]:List Value).toArray w fun e w'=>e=.returned (.bool (Eo h g f d))∧Below w.heap.size w w':=by
 refine Af (fn:=Tryz.f24) (c:=df) (n:=30) ?_
 have K1:=Wk.start w
 refine C8 fx [⟨w.heap.size,0,[.string ⟨⟨o⟩⟩,.bool h,D g,D f,D d,.slice m j l],49,true⟩] K1 [(0,1)] fun w1 s=>?_
 refine AM (!(h)) (fun p=>?_) (fun p=>?_)
 ·refine Al 2 qX s [] fun w3 r=>?_
  refine Ao r [(1,0,2),(5,0,3)] [⟨7,[(11,.agg ⟨[D f,D d]⟩),(12,.agg ⟨[D 0,D 0]⟩)],.bool ((f == 0) && (d == 0)),((g == 0)) && (true)⟩] r.G (fun sp i=>?_) fun w4 E4 K4=>?_
  ·rw [List.mem_singleton.1 i]
   exact An fun _ E u _=>EP (k:=.eql) (T:=29) (a:=.agg ⟨[D f,D d]⟩) (b:=.agg ⟨[D 0,D 0]⟩) (F1 u f d 0 0)
  refine AC wK K4 [] fun w5 z=>?_
  exact AO z (0,0) (.bool (cond (g == 0) ((f == 0) && (d == 0)) (false))) (by unfold Eo; rw [p] <;> rfl)
 ·refine Al 3 qW s [] fun w6 q=>?_
  refine Ao q [(1,0,2),(5,0,3),(11,0,4)] [⟨2,[(16,D g)],.bool (GE g),true⟩,⟨6,[(20,.agg ⟨[D f,D d]⟩)],.bool (Ec f d),((GE g)) && (true)⟩,⟨12,[(26,D d)],D (Int.tmod 100 d),((cond (GE g) (Ec f d) (false))) && (true)⟩] q.G (fun sp i=>?_) fun w7 E7 v=>?_
  ·simp only [List.mem_cons,List.not_mem_nil,or_false] at i
   rcases i with rfl | rfl | rfl
   ·exact AX 57 [.tmp 16] [D g] (fun _=>by kernel_rfl) fun hc u hu=>AR hu (N1 g u)
   ·exact AX 58 [.tmp 20] [.agg ⟨[D f,D d]⟩] (fun _=>by kernel_rfl) fun hc u hu=>AR hu (LG f d u)
   ·exact An fun hc E u _=>OM (T:=3) (T':=3) (x:=.const (D 100)) (y:=.tmp 26) (by kernel_rfl) (by kernel_rfl) (by kernel_rfl) (by simp [Ec,Db] at hc; omega)
  refine AC wJ v [] fun w8 t=>?_
  exact AO t (0,0) (.bool (cond (cond (GE g) (Ec f d) (false)) (Int.tmod 100 d == 0) (false))) (by unfold Eo; rw [p] <;> rfl)
def Dc (p0a:Int) (p0ca:Int) (p0cb:Int) (p0d:Int) (p0e:Int):Bool:=cond (p0a == 1) (cond (cond (Db p0ca p0cb) (p0d == 0) (false)) (p0e == 0) (false)) (cond (p0a == 18) (cond (cond (Ec p0ca p0cb) (p0d == 0) (false)) (GE p0e) (false)) (cond (p0a == 19) (cond (cond ((p0ca == 0) && (p0cb == 0)) (cond (decide (1≤p0d)) (decide (p0d≤120)) (false)) (false)) (p0e == 0) (false)) (cond (p0a == 20) (cond (cond ((p0ca == 0) && (p0cb == 0)) (cond (decide (1≤p0d)) (decide (p0d≤120)) (false)) (false)) (p0e == 0) (false)) (cond (cond ((p0ca == 0) && (p0cb == 0)) (p0d == 0) (false)) (p0e == 0) (false)))))
noncomputable def dl:Code:=Tryz.f25.body.getD .skip
def ql:=Ad 1 ([.code dl])
def qk:=Ad 2 (AP ql)
def gI:=AB 60 (AP qk)
def qj:=AB 60 (AG gI)
def qi:=Ad 11 (AE qj)
def wV:=AB 60 (AP qi)
def gH:=AB 60 (AL gI)
def qh:=Ad 7 (AG gH)
def qg:=Ad 11 (AP qh)
def wU:=AB 60 (AP qg)
def Yb:=AB 60 (AL gH)
def lR:=AB 60 (AG Yb)
def lQ:=Ad 10 (AG lR)
def lP:=Ad 11 (AP lQ)
def tp:=AB 60 (AP lP)
def Ya:=AB 60 (AL Yb)
def lO:=Ad 10 (AG Ya)
def lN:=Ad 11 (AP lO)
def tn:=AB 60 (AP lN)
def lM:=Ad 11 (AL Ya)
def tk:=AB 60 (AP lM)
theorem OW (l r f d j i:Int) (w:World):Calls Tryz.prog 25 ([.agg ⟨[D l,D r,D f,D d,D j,D i]⟩]:List Value).toArray w fun e w'=>e=.returned (.bool (Dc l f d j i))∧Below w.heap.size w w':=by
 refine Af (fn:=Tryz.f25) (c:=dl) (n:=49) ?_
 have K1:=Wk.start w
 refine CR 1 ql [⟨w.heap.size,0,[D l,D r,D f,D d,D j,D i],53,true⟩] K1 [] fun w1 K2=>?_
 let z2:=(f == 0) && (d == 0)
 refine Ao K2 [(1,0,2)] [⟨3,[(7,.agg ⟨[D f,D d]⟩),(8,.agg ⟨[D 0,D 0]⟩)],.bool z2,true⟩] K2.G (fun sp g=>?_) fun w2 E2 K3=>?_
 ·rw [List.mem_singleton.1 g]
  exact An fun _ E u _=>EP (k:=.eql) (T:=29) (a:=.agg ⟨[D f,D d]⟩) (b:=.agg ⟨[D 0,D 0]⟩) (F1 u f d 0 0)
 refine Al 2 qk K3 [] fun w3 K4=>?_
 refine Ao K4 [(1,0,4),(4,0,5)] [] K4.G (fun sp g=>by cases g) fun w4 E4 K5=>?_
 refine AC gI K5 [(0,0)] fun w5 K6=>?_
 refine AM (l == 1) (fun q=>?_) (fun q=>?_)
 ·refine AC qj K6 [(0,2)] fun w7 K7=>?_
  refine Ap K7 (GN f d w7) fun w8 K8=>?_
  refine Al 11 qi K8 [] fun w9 K9=>?_
  refine Ao K9 [] [] K9.G (fun sp g=>by cases g) fun c2 l2 z0=>?_
  refine AC wV z0 [] fun b2 y0=>?_
  exact AO y0 (0,0) (.bool (cond (cond (Db f d) (j == 0) (false)) (i == 0) (false))) (by unfold Dc; rw [q] <;> rfl)
 ·refine AC gH K6 [] fun a2 d0=>?_
  refine AM (l == 18) (fun o=>?_) (fun o=>?_)
  ·refine Al 7 qh d0 [] fun z1 c0=>?_
   refine Ao c0 [(1,0,2),(4,0,5)] [⟨2,[(26,.agg ⟨[D f,D d]⟩)],.bool (Ec f d),true⟩,⟨5,[(29,D i)],.bool (GE i),true⟩] c0.G (fun sp g=>?_) fun y1 k2 x0=>?_
   ·simp only [List.mem_cons,List.not_mem_nil,or_false] at g
    rcases g with rfl | rfl
    ·exact AX 58 [.tmp 26] [.agg ⟨[D f,D d]⟩] (fun _=>by kernel_rfl) fun hc u hu=>AR hu (LG f d u)
    ·exact AX 57 [.tmp 29] [D i] (fun _=>by kernel_rfl) fun hc u hu=>AR hu (N1 i u)
   refine Al 11 qg x0 [] fun x1 b0=>?_
   refine Ao b0 [] [] b0.G (fun sp g=>by cases g) fun v1 i2 w0=>?_
   refine AC wU w0 [] fun t1 v0=>?_
   exact AO v0 (0,0) (.bool (cond (cond (Ec f d) (j == 0) (false)) (GE i) (false))) (by unfold Dc; rw [q,o] <;> rfl)
  ·refine AC Yb d0 [] fun s1 a0=>?_
   refine AM (l == 19) (fun m=>?_) (fun m=>?_)
   ·refine AC lR a0 [] fun r1 t0=>?_
    refine AM (l == 19) (fun _=>?_) (fun h=>nomatch h.symm.trans m)
    refine Al 10 lQ t0 [] fun q1 z=>?_
    refine Ao z [(1,0,4),(5,0,4)] [] z.G (fun sp g=>by cases g) fun p1 h2 r0=>?_
    refine Al 11 lP r0 [] fun n1 y=>?_
    refine Ao y [] [] y.G (fun sp g=>by cases g) fun m1 g2 q0=>?_
    refine AC tp q0 [] fun k1 p0=>?_
    exact AO p0 (0,0) (.bool (cond (cond z2 (cond (decide (1≤j)) (decide (j≤120)) (false)) (false)) (i == 0) (false))) (by unfold Dc; rw [q,o,m] <;> rfl)
   ·refine AC Ya a0 [] fun i1 x=>?_
    refine AM (l == 20) (fun p=>?_) (fun p=>?_)
    ·refine Al 10 lO x [] fun h1 v=>?_
     refine Ao v [(1,0,4),(5,0,4)] [] v.G (fun sp g=>by cases g) fun g1 f2 k0=>?_
     refine Al 11 lN k0 [] fun f1 t=>?_
     refine Ao t [] [] t.G (fun sp g=>by cases g) fun e1 e2 i0=>?_
     refine AC tn i0 [] fun d1 h0=>?_
     exact AO h0 (0,0) (.bool (cond (cond z2 (cond (decide (1≤j)) (decide (j≤120)) (false)) (false)) (i == 0) (false))) (by unfold Dc; rw [q,o,m,p] <;> rfl)
    ·refine Al 11 lM x [] fun c1 s=>?_
     refine Ao s [] [] s.G (fun sp g=>by cases g) fun b1 d2 f0=>?_
     refine AC tk f0 [] fun a1 e0=>?_
     exact AO e0 (0,0) (.bool (cond (cond z2 (j == 0) (false)) (i == 0) (false))) (by unfold Dc; rw [q,o,m,p] <;> rfl)
def D4:List (Int×Int×Int)→Bool→Int→Bool
 | [],a0_0,a0_1=>true
 | e0 :: tl,a0_0,a0_1=>cond (cond (cond (decide (e0.1≤a0_1)) (true) (decide (1000000 < e0.1))) (true) (!(Db e0.2.1 e0.2.2))) (false) (D4 tl a0_0 e0.1)
theorem MP {b:Bool} {a:Int}:D4 [] b a=(true):=by rw [D4]
theorem ML {b:Bool} {a:Int} {es:List (Int×Int×Int)} (i:Nat) (c:Int×Int×Int) (hi:es[i]?=some c):D4 (es.drop i) b a=(cond (cond (cond (decide (c.1≤a)) (true) (decide (1000000 < c.1))) (true) (!(Db c.2.1 c.2.2))) (false) (D4 (es.drop (i + 1)) b c.1)):=by
 have hl:i < es.length:=(List.getElem?_eq_some_iff.1 hi).1
 have he:es[i]=c:=(List.getElem?_eq_some_iff.1 hi).2
 rw [← List.getElem_cons_drop hl,D4] <;> (try rw [he])
def Fa (es:List (Int×Int×Int)):Bool:=cond (cond (decide ((es.length:Int) < 1)) (true) (decide (64 < (es.length:Int)))) (false) (D4 es false (-1))
noncomputable def de:Code:=Tryz.f23.body.getD .skip
def qV:=Ad 1 ([.code de])
def fw:=AB 60 (AP qV)
def wI:=AB 60 (AG fw)
def fv:=AB 60 (AL fw)
def YL:=AB 60 (Ay fv)
def qU:=AB (BA Ai 90 (AG YL)) (AG YL)
def qT:=Ad 7 (AE (AE qU))
def qS:=AB 60 (AP qT)
def wH:=AB 60 (AG qS)
def wG:=AB 60 (AL YL)
theorem QN (m:Option Addr) (es:List (Int×Int×Int)) (i:Nat) (w:World) (z:DW w m es) (p0:es.length≤4294967296):Calls Tryz.prog 23 ([.slice m es.length i]:List Value).toArray w fun e w'=>e=.returned (.bool (Fa es))∧Below w.heap.size w w':=by
 refine Af (fn:=Tryz.f23) (c:=de) (n:=38) ?_
 have K1:=Wk.start w
 refine Al 1 qV K1 [] fun w1 K2=>?_
 refine Ao K2 [] [] K2.G (fun sp o=>by cases o) fun w2 E2 K3=>?_
 refine AC fw K3 [] fun w3 K4=>?_
 refine AM (cond (decide ((es.length:Int) < 1)) (true) (decide (64 < (es.length:Int)))) (fun c4=>?_) (fun c4=>?_)
 ·refine AC wI K4 [] fun w5 K5=>?_
  exact AO K5 (0,0) (.bool false) (by unfold Fa; rw [c4] <;> rfl)
 ·refine AC fv K4 [] fun w6 K6=>?_
  have K7:Wk w w6 [] [] []:=K6.pk [] []
  have d:(Fa es)=D4 es false (-1):=by unfold Fa; rw [c4] <;> rfl
  refine BB [(2,.bool false),(3,D (-1)),(14,.slice m es.length i),(15,D ((es.length:Int))),(16,D (((0:Nat):Int)))] fun E7=>?_
  refine Bi (by kernel_rfl) (fun E t=>∃ (b:Nat) (h:Bool) (f:Int) (E0:Nat→Value),b≤es.length∧E=Aw E0 [(2,.bool h),(3,D f),(14,.slice m es.length i),(15,D ((es.length:Int))),(16,D ((b:Int)))]∧(Fa es)=D4 (List.drop b es) h f∧Wk w t [] [] []) (fun E _=>es.length - AQ (E 16)) ⟨0,false,(-1),E7,Nat.zero_le _,rfl,d,K7⟩ ?_
  clear d
  rintro E t ⟨b,h,f,E0,d1,rfl,d,K8⟩ l
  refine AC YL K8 [] fun w9 K9=>?_
  refine AM (decide ((b:Int) < (es.length:Int))) (fun s=>?_) (fun s=>?_)
  ·have j:b < es.length:=by have:=of_decide_eq_true s; omega
   obtain ⟨a,y⟩:∃ e,es[b]?=some e:=⟨_,List.getElem?_eq_getElem j⟩
   rw [ML b a y] at d
   obtain ⟨p,q,rfl,a0,b0⟩:=z.all (by omega)
   have v:=b0 b _ y
   refine BG Ai qU K9 [] fun k0 f0=>?_
   refine BH (g:=p) (off:=q) (cap:=i) (sz:=3) (k:=b) (len:=es.length) (some 18) j Tryz.underlying27 ?_
   refine CC 97 p (q + b * 3) [D a.1,D a.2.1,D a.2.2] (some 19) (Ac v a0 f0.B) ?_
   refine CR 7 qT [⟨k0.heap.size,0,[D a.1,D a.2.1,D a.2.2],97,true⟩] f0 [(0,0)] fun c1 d0=>?_
   let z2:=cond (decide (a.1≤f)) (true) (decide (1000000 < a.1))
   refine Ao d0 [(1,0,0),(6,0,0),(11,0,1)] [⟨12,[(31,.agg ⟨[D a.2.1,D a.2.2]⟩)],.bool (Db a.2.1 a.2.2),(!z2) && (true)⟩] d0.G (fun sp o=>?_) fun b1 e1 w0=>?_
   ·rw [List.mem_singleton.1 o]
    exact AX 56 [.tmp 31] [.agg ⟨[D a.2.1,D a.2.2]⟩] (fun _=>by kernel_rfl) fun hc u hu=>AR hu (GN a.2.1 a.2.2 u)
   refine AC qS w0 [] fun a1 c0=>?_
   refine AM (cond z2 (true) (!(Db a.2.1 a.2.2))) (fun r=>?_) (fun r=>?_)
   ·refine AC wH c0 [] fun z0 v0=>?_
    exact AO v0 (0,0) (.bool false) (by rw [d,r] <;> rfl)
   ·refine AC (Aj fv) c0 [(0,0)] fun h0 t0=>?_
    refine BB [(2,.bool h),(3,D a.1),(14,.slice (some ⟨p,q,none⟩) es.length i),(15,D ((es.length:Int))),(16,D (IntKind.i64.wrap ((b:Int) + 1)))] fun x0=>?_
    have r0:Wk w h0 [] [] []:=t0.pk [] []
    rw [Bs b (by omega)]
    refine l _ _ ⟨b + 1,h,a.1,x0,j,rfl,by rw [d,r] <;> rfl,r0⟩ ?_
    show es.length - AQ (D ((b + 1:Nat):Int)) < es.length - AQ (D (b:Int))
    simp only [AQ]
    omega
  ·have x:b=es.length:=by have:=of_decide_eq_false s; omega
   rw [x,List.drop_length,MP] at d
   refine AC wG K9 [] fun y0 q0=>?_
   exact AO q0 (0,0) (.bool true) (by rw [d] <;> rfl)
def JA (d:Df) (b:Df):Bool:=cond (!(decide (d.name=b.name))) (false) (cond (cond (d.kind == 5) (true) (b.kind == 5)) (d.kind == b.kind) (cond (cond (cond (!(d.kind == b.kind)) (true) (d.kind == 1)) (true) (!((((Ah d.kind d.tb d.tm d.th d.td).1) == ((Ah b.kind b.tb b.tm b.th b.td).1)) && (((Ah d.kind d.tb d.tm d.th d.td).2.1 == (Ah b.kind b.tb b.tm b.th b.td).2.1) && (((Ah d.kind d.tb d.tm d.th d.td).2.2.1 == (Ah b.kind b.tb b.tm b.th b.td).2.2.1) && ((Ah d.kind d.tb d.tm d.th d.td).2.2.2 == (Ah b.kind b.tb b.tm b.th b.td).2.2.2)))))) (true) (d.frm == b.frm)))
noncomputable def dP:Code:=Tryz.f47.body.getD .skip
def pL:=Ad 1 ([.code dP])
def fc:=AB 60 (AP pL)
def vj:=AB 60 (AG fc)
def pK:=Ad 3 (AL fc)
def fb:=AB 60 (AP pK)
def vh:=AB 60 (AG fb)
def pJ:=Ad 5 (AL fb)
def vg:=AB 60 (AP pJ)
theorem Va (d:Df) (i:Option Addr) (o:Nat) (h:Option Addr) (m:Nat) (b:Df) (g:Option Addr) (l:Nat) (f:Option Addr) (j:Nat) (w:World) (a0:DW w i d.ents) (z:rowsEx w h d.body.ks) (c0:DW w g b.ents) (b0:rowsEx w f b.body.ks):Calls Tryz.prog 47 ([.agg ⟨[D d.kind,.string ⟨⟨d.name⟩⟩,.bool (d.tb),D d.tm,D d.th,D d.td,D d.frm,.slice i d.ents.length o,D d.body.op,D d.body.num,D d.body.den,D d.body.mu,D d.body.hu,D d.body.du,.string ⟨⟨d.body.nm⟩⟩,D d.body.cnt,D d.body.md,.slice h d.body.ks.length m,D d.mode,D d.num,D d.den]⟩,.agg ⟨[D b.kind,.string ⟨⟨b.name⟩⟩,.bool (b.tb),D b.tm,D b.th,D b.td,D b.frm,.slice g b.ents.length l,D b.body.op,D b.body.num,D b.body.den,D b.body.mu,D b.body.hu,D b.body.du,.string ⟨⟨b.body.nm⟩⟩,D b.body.cnt,D b.body.md,.slice f b.body.ks.length j,D b.mode,D b.num,D b.den]⟩]:List Value).toArray w fun e w'=>e=.returned (.bool (JA d b))∧Below w.heap.size w w':=by
 refine Af (fn:=Tryz.f47) (c:=dP) (n:=47) ?_
 have K1:=Wk.start w
 refine CR 1 pL [⟨w.heap.size,0,(Ce d i o h m),34,true⟩,⟨w.heap.size + 1,0,(Ce b g l f j),34,true⟩] K1 [] fun w1 K2=>?_
 refine Ao K2 [(1,0,1),(3,1,1)] [⟨4,[(6,.string ⟨⟨d.name⟩⟩),(8,.string ⟨⟨b.name⟩⟩)],.bool (!(decide (d.name=b.name))),true⟩] K2.G (fun sp p=>?_) fun w2 E2 K3=>?_
 ·rw [List.mem_singleton.1 p]
  exact An fun _ E u _=>IX (T:=9) (T':=9) (x:=.tmp 6) (y:=.tmp 8) (by kernel_rfl) (by kernel_rfl) (by kernel_rfl)
 refine AC fc K3 [] fun w3 K4=>?_
 refine AM (!(decide (d.name=b.name))) (fun r=>?_) (fun r=>?_)
 ·refine AC vj K4 [] fun w5 K5=>?_
  exact AO K5 (0,0) (.bool false) (by unfold JA; rw [r] <;> rfl)
 ·refine Al 3 pK K4 [] fun w6 K6=>?_
  refine Ao K6 [(1,0,0),(5,1,0)] [] K6.G (fun sp p=>by cases p) fun w7 E7 K7=>?_
  refine AC fb K7 [] fun w8 K8=>?_
  refine AM (cond (d.kind == 5) (true) (b.kind == 5)) (fun s=>?_) (fun s=>?_)
  ·refine AC vh K8 [(0,0),(1,0)] fun h0 K9=>?_
   exact AO K9 (0,0) (.bool (d.kind == b.kind)) (by unfold JA; rw [r,s] <;> rfl)
  ·refine Al 5 pJ K8 [] fun f0 q=>?_
   let z2:=Ah d.kind d.tb d.tm d.th d.td
   let z3:=Ah b.kind b.tb b.tm b.th b.td
   let z4:List Value:=[D d.kind,.string ⟨⟨d.name⟩⟩,.bool (d.tb),D d.tm,D d.th,D d.td,D d.frm,.slice i d.ents.length o,D d.body.op,D d.body.num,D d.body.den,D d.body.mu,D d.body.hu,D d.body.du,.string ⟨⟨d.body.nm⟩⟩,D d.body.cnt,D d.body.md,.slice h d.body.ks.length m,D d.mode,D d.num,D d.den]
   let z5:List Value:=[D b.kind,.string ⟨⟨b.name⟩⟩,.bool (b.tb),D b.tm,D b.th,D b.td,D b.frm,.slice g b.ents.length l,D b.body.op,D b.body.num,D b.body.den,D b.body.mu,D b.body.hu,D b.body.du,.string ⟨⟨b.body.nm⟩⟩,D b.body.cnt,D b.body.md,.slice f b.body.ks.length j,D b.mode,D b.num,D b.den]
   let z6:=cond (!(d.kind == b.kind)) (true) (d.kind == 1)
   let z7:=!(((z2.1) == (z3.1)) && ((z2.2.1 == z3.2.1) && ((z2.2.2.1 == z3.2.2.1) && (z2.2.2.2 == z3.2.2.2))))
   refine Ao q [(1,0,0),(3,1,0),(7,0,0),(11,0,0),(13,1,0),(19,0,6),(21,1,6)] [⟨12,[(34,.agg ⟨z4⟩)],EU z2,(!z6) && (true)⟩,⟨14,[(36,.agg ⟨z5⟩)],EU z3,(!z6) && (true)⟩,⟨15,[(35,EU z2),(37,EU z3)],.bool z7,(!z6) && (true)⟩] q.G (fun sp p=>?_) fun e0 i0 v=>?_
   ·simp only [List.mem_cons,List.not_mem_nil,or_false] at p
    rcases p with rfl | rfl | rfl
    ·exact AX 85 [.tmp 34] [.agg ⟨z4⟩] (fun _=>by kernel_rfl) fun hc u hu=>AR hu (JM d.kind d.name d.tb d.tm d.th d.td d.frm i d.ents.length o d.body.op d.body.num d.body.den d.body.mu d.body.hu d.body.du d.body.nm d.body.cnt d.body.md h d.body.ks.length m d.mode d.num d.den u)
    ·exact AX 85 [.tmp 36] [.agg ⟨z5⟩] (fun _=>by kernel_rfl) fun hc u hu=>AR hu (JM b.kind b.name b.tb b.tm b.th b.td b.frm g b.ents.length l b.body.op b.body.num b.body.den b.body.mu b.body.hu b.body.du b.body.nm b.body.cnt b.body.md f b.body.ks.length j b.mode b.num b.den u)
    ·exact An fun _ E u _=>EP (k:=.neq) (T:=26) (a:=EU z2) (b:=EU z3) (QR u (z2.1) (z2.2.1) (z2.2.2.1) (z2.2.2.2) (z3.1) (z3.2.1) (z3.2.2.1) (z3.2.2.2))
   refine AC vg v [] fun d0 t=>?_
   exact AO t (0,0) (.bool (cond (cond z6 (true) z7) (true) (d.frm == b.frm))) (by unfold JA; rw [r,s] <;> rfl)
def Bp (d:Df):Bool:=cond (d.kind == 3) (true) (d.kind == 4)
noncomputable def dZ:Code:=Tryz.f91.body.getD .skip
def p5:=Ad 1 ([.code dZ])
def v6:=AB 60 (AP p5)
theorem IK (d:Df) (b:Option Addr) (g:Nat) (a:Option Addr) (f:Nat) (w:World) (j:DW w b d.ents) (i:rowsEx w a d.body.ks):Calls Tryz.prog 91 ([.agg ⟨[D d.kind,.string ⟨⟨d.name⟩⟩,.bool (d.tb),D d.tm,D d.th,D d.td,D d.frm,.slice b d.ents.length g,D d.body.op,D d.body.num,D d.body.den,D d.body.mu,D d.body.hu,D d.body.du,.string ⟨⟨d.body.nm⟩⟩,D d.body.cnt,D d.body.md,.slice a d.body.ks.length f,D d.mode,D d.num,D d.den]⟩]:List Value).toArray w fun e w'=>e=.returned (.bool (Bp d))∧Below w.heap.size w w':=by
 refine Af (fn:=Tryz.f91) (c:=dZ) (n:=11) ?_
 have o:=Wk.start w
 refine CR 1 p5 [⟨w.heap.size,0,(Ce d b g a f),34,true⟩] o [] fun r k=>?_
 refine Ao k [(1,0,0),(5,0,0)] [] k.G (fun sp h=>by cases h) fun q s m=>?_
 refine AC v6 m [] fun p l=>?_
 exact AO l (0,0) (.bool (cond (d.kind == 3) (true) (d.kind == 4))) (by unfold Bp; rfl)
end
end Go.Proofs.YtmcpjkcggfmcmaaGreatDoor

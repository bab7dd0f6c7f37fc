/-
  Part 13 of a proof: contracts of functions.
-/
import Derived.Test.YtmcpjkcggfmcmaaGreatDoorD12
set_option linter.all false
namespace Go.Proofs.YtmcpjkcggfmcmaaGreatDoor
noncomputable section
open Go.RowKit
set_option maxRecDepth 100000
set_option maxHeartbeats 1000000
attribute [local irreducible] BO CB AE AG AL Ay Aj AP Bc Cq Eb CO At Fr
theorem NR (es:List (Int×Int×Int)) (A:Option Addr) (n c:Nat) (w:World) (hn:n=es.length) (a:DI CY w 3 A (es.map DZ)):Calls Tryz.prog 79 ([.slice A n c]:List Value).toArray w fun e w'=>e=.returned (.bool (Fu es))∧Below w.heap.size w w':=by
 subst hn
 exact N4 es A c w a
def EI (x:Ex):Bool:=IM x 32
noncomputable def ci:Code:=Tryz.f80.body.getD .skip
def nS:=AB 60 ([.code ci])
def uW:=AB 60 (AE nS)
theorem Jd (x:Ex) (o j i h g f:Int) (m:List UInt8) (l k:Int) (d:Option Addr) (a b:Nat) (w:World) (ht:Dq x) (r:D2 CY w x [D o,D j,D i,D h,D g,D f,.string ⟨⟨m⟩⟩,D l,D k,.slice d a b]):Calls Tryz.prog 80 ([.agg ⟨[D o,D j,D i,D h,D g,D f,.string ⟨⟨m⟩⟩,D l,D k,.slice d a b]⟩]:List Value).toArray w fun e w'=>e=.returned (.bool (EI x))∧Below w.heap.size w w':=by
 refine Af (fn:=Tryz.f80) (c:=ci) (n:=5) ?_
 have u:=Wk.start w
 refine BQ nS u [(0,0)] fun q p=>?_
 refine Ap p (args:=[.agg ⟨[D o,D j,D i,D h,D g,D f,.string ⟨⟨m⟩⟩,D l,D k,.slice d a b]⟩,D 32]) (Vg _ x _ 32 q (Nat.le_refl _) ht (r.below p.B) (by decide) (by decide)) fun y t=>?_
 refine AC uW t [] fun v s=>?_
 exact AO s (0,0) (.bool (IM x 32)) (by unfold EI; rfl)
def DX (x:Ex) (es:List (Int×Int×Int)) (p0a:Int) (p0ca:Bool) (p0cba:Int) (p0cbb:Int) (p0cbc:Int) (p0d:Int) (p0en:Nat) (p0fa:Int) (p0fba:Int) (p0fbb:Int) (p0fca:Int) (p0fcb:Int) (p0fcc:Int) (p0fd:List UInt8) (p0fe:Int) (p0ff:Int) (p0fgn:Nat) (p0g:Int) (p0ha:Int) (p0hb:Int):Bool:=cond (p0a == 1) (cond (cond (cond (cond (cond (D3 p0ca p0cba p0cbb p0cbc) (p0d == 0) (false)) ((p0en:Int) == 0) (false)) (Hm p0fa p0fba p0fbb p0fca p0fcb p0fcc p0fd p0fe p0ff p0fgn) (false)) (p0g == 0) (false)) ((p0ha == 0) && (p0hb == 0)) (false)) (cond (p0a == 5) (cond (cond (cond (cond (cond (cond (D3 p0ca p0cba p0cbb p0cbc) (!(p0ca)) (false)) (p0d == 0) (false)) ((p0en:Int) == 0) (false)) (Hm p0fa p0fba p0fbb p0fca p0fcb p0fcc p0fd p0fe p0ff p0fgn) (false)) (p0g == 0) (false)) ((p0ha == 0) && (p0hb == 0)) (false)) (cond (p0a == 2) (cond (cond (cond (cond (cond (cond (D3 p0ca p0cba p0cbb p0cbc) (!(p0ca)) (false)) (HJ p0d) (false)) (Fu es) (false)) (Hm p0fa p0fba p0fbb p0fca p0fcb p0fcc p0fd p0fe p0ff p0fgn) (false)) (p0g == 0) (false)) ((p0ha == 0) && (p0hb == 0)) (false)) (cond (p0a == 3) (cond (cond (cond (cond (cond (D3 p0ca p0cba p0cbb p0cbc) (HJ p0d) (false)) ((p0en:Int) == 0) (false)) (EI x) (false)) (p0g == 0) (false)) ((p0ha == 0) && (p0hb == 0)) (false)) (cond (p0a == 4) (cond (cond (cond (cond (cond ((p0ca == false) && ((p0cba == 0) && ((p0cbb == 0) && (p0cbc == 0)))) (HJ p0d) (false)) ((p0en:Int) == 0) (false)) (EI x) (false)) (IW p0g) (false)) (cond (Ho p0ha p0hb) (KG p0hb) (false)) (false)) (false)))))
noncomputable def cm:Code:=Tryz.f43.body.getD .skip
def no:=Ad 1 ([.code cm])
def nl:=Ad 2 (AP no)
def nk:=Ad 3 (AP nl)
def eS:=AB 60 (AP nk)
def nj:=AB 60 (AG eS)
def ni:=Ad 19 (AE nj)
def ub:=AB 60 (AP ni)
def eR:=AB 60 (AL eS)
def nh:=Ad 9 (AG eR)
def ng:=Ad 19 (AP nh)
def rp:=AB 60 (AP ng)
def WZ:=AB 60 (AL eR)
def jV:=Ad 11 (AG WZ)
def jU:=Ad 12 (AP jV)
def jT:=Ad 19 (AP jU)
def ro:=AB 60 (AP jT)
def WY:=AB 60 (AL WZ)
def jS:=AB 60 (AG WY)
def jR:=Ad 15 (AE jS)
def jQ:=Ad 19 (AP jR)
def rn:=AB 60 (AP jQ)
def WX:=AB 60 (AL WY)
def jP:=Ad 17 (AG WX)
def jO:=Ad 18 (AP jP)
def jN:=Ad 19 (AP jO)
def rm:=AB 60 (AP jN)
def rl:=AB 60 (AL WX)
theorem MM (x:Ex) (es:List (Int×Int×Int)) (h0:Int) (y0:List UInt8) (h:Bool) (g f d c0:Int) (f0:Option Addr) (d0 i0:Nat) (z p o m l j:Int) (y:List UInt8) (v t:Int) (b0:Option Addr) (i a0:Nat) (e0 s q:Int) (w:World) (ht:Dq x) (hx:D2 CY w x [D z,D p,D o,D m,D l,D j,.string ⟨⟨y⟩⟩,D v,D t,.slice b0 i a0]) (hn:d0=es.length) (w0:DI CY w 3 f0 (es.map DZ)):Calls Tryz.prog 43 ([.agg ⟨[D h0,.string ⟨⟨y0⟩⟩,.bool h,D g,D f,D d,D c0,.slice f0 d0 i0,D z,D p,D o,D m,D l,D j,.string ⟨⟨y⟩⟩,D v,D t,.slice b0 i a0,D e0,D s,D q]⟩]:List Value).toArray w fun e w'=>e=.returned (.bool (DX x es h0 h g f d c0 d0 z p o m l j y v t i e0 s q))∧Below w.heap.size w w':=by
 refine Af (fn:=Tryz.f43) (c:=cm) (n:=111) ?_
 have K1:=Wk.start w
 refine CR 1 no [⟨w.heap.size,0,[D h0,.string ⟨⟨y0⟩⟩,.bool h,D g,D f,D d,D c0,.slice f0 d0 i0,D z,D p,D o,D m,D l,D j,.string ⟨⟨y⟩⟩,D v,D t,.slice b0 i a0,D e0,D s,D q],34,true⟩] K1 [] fun w1 K2=>?_
 refine Ao K2 [(1,0,2)] [⟨3,[(10,.agg ⟨[.bool h,D g,D f,D d]⟩),(11,.agg ⟨[.bool false,D 0,D 0,D 0]⟩)],.bool ((h == false) && ((g == 0) && ((f == 0) && (d == 0)))),true⟩] K2.G (fun sp r=>?_) fun w2 E2 K3=>?_
 ·rw [List.mem_singleton.1 r]
  exact An fun _ E u _=>EP (k:=.eql) (T:=26) (a:=.agg ⟨[.bool h,D g,D f,D d]⟩) (b:=.agg ⟨[.bool false,D 0,D 0,D 0]⟩) (QS u h g f d false 0 0 0)
 refine Al 2 nl K3 [] fun w3 K4=>?_
 let z4:List Value:=[D z,D p,D o,D m,D l,D j,.string ⟨⟨y⟩⟩,D v,D t,.slice b0 i a0]
 let z6:=Hm z p o m l j y v t i
 refine Ao K4 [(1,0,6),(4,0,7),(8,0,8),(11,0,18)] [⟨9,[(21,.agg ⟨z4⟩)],.bool z6,true⟩] K4.G (fun sp r=>?_) fun w4 E4 K5=>?_
 ·rw [List.mem_singleton.1 r]
  exact AX 76 [.tmp 21] [.agg ⟨z4⟩] (fun _=>by kernel_rfl) fun hc u hu=>AR hu (ZA z p o m l j y v t b0 i a0 u)
 refine Al 3 nk K5 [] fun w5 K6=>?_
 let z5:=(s == 0) && (q == 0)
 refine Ao K6 [(1,0,19)] [⟨3,[(27,.agg ⟨[D s,D q]⟩),(28,.agg ⟨[D 0,D 0]⟩)],.bool z5,true⟩] K6.G (fun sp r=>?_) fun w6 E6 K7=>?_
 ·rw [List.mem_singleton.1 r]
  exact An fun _ E u _=>EP (k:=.eql) (T:=29) (a:=.agg ⟨[D s,D q]⟩) (b:=.agg ⟨[D 0,D 0]⟩) (F1 u s q 0 0)
 refine AC eS K7 [(0,0)] fun w7 K8=>?_
 refine AM (h0 == 1) (fun c8=>?_) (fun c8=>?_)
 ·refine AC nj K8 [(0,2)] fun w9 K9=>?_
  refine Ap K9 (IC h g f d w9) fun b4 l2=>?_
  refine Al 19 ni l2 [] fun a4 m1=>?_
  refine Ao m1 [] [] m1.G (fun sp r=>by cases r) fun z3 s4 k2=>?_
  refine AC ub k2 [] fun y3 i2=>?_
  exact AO i2 (0,0) (.bool (cond (cond (cond (cond (cond (D3 h g f d) (c0 == 0) (false)) ((d0:Int) == 0) (false)) z6 (false)) (e0 == 0) (false)) z5 (false))) (by unfold DX; rw [c8] <;> rfl)
 ·refine AC eR K8 [] fun x3 k1=>?_
  refine AM (h0 == 5) (fun k0=>?_) (fun k0=>?_)
  ·refine Al 9 nh k1 [] fun v3 i1=>?_
   refine Ao i1 [(1,0,2),(6,0,2)] [⟨2,[(40,.agg ⟨[.bool h,D g,D f,D d]⟩)],.bool (D3 h g f d),true⟩] i1.G (fun sp r=>?_) fun u3 r4 h2=>?_
   ·rw [List.mem_singleton.1 r]
    exact AX 77 [.tmp 40] [.agg ⟨[.bool h,D g,D f,D d]⟩] (fun _=>by kernel_rfl) fun hc u hu=>AR hu (IC h g f d u)
   refine Al 19 ng h2 [] fun t3 h1=>?_
   refine Ao h1 [] [] h1.G (fun sp r=>by cases r) fun s3 q4 g2=>?_
   refine AC rp g2 [] fun r3 f2=>?_
   exact AO f2 (0,0) (.bool (cond (cond (cond (cond (cond (cond (D3 h g f d) (!(h)) (false)) (c0 == 0) (false)) ((d0:Int) == 0) (false)) z6 (false)) (e0 == 0) (false)) z5 (false))) (by unfold DX; rw [c8,k0] <;> rfl)
  ·refine AC WZ k1 [] fun q3 g1=>?_
   refine AM (h0 == 2) (fun p0=>?_) (fun p0=>?_)
   ·refine Al 11 jV g1 [] fun m3 f1=>?_
    refine Ao f1 [(1,0,2),(6,0,2)] [⟨2,[(51,.agg ⟨[.bool h,D g,D f,D d]⟩)],.bool (D3 h g f d),true⟩] f1.G (fun sp r=>?_) fun l3 m4 e2=>?_
    ·rw [List.mem_singleton.1 r]
     exact AX 77 [.tmp 51] [.agg ⟨[.bool h,D g,D f,D d]⟩] (fun _=>by kernel_rfl) fun hc u hu=>AR hu (IC h g f d u)
    refine Al 12 jU e2 [] fun k3 v0=>?_
    refine Ao v0 [(1,0,6),(4,0,7)] [⟨2,[(60,D c0)],.bool (HJ c0),true⟩,⟨5,[(63,.slice f0 d0 i0)],.bool (Fu es),true⟩] v0.G (fun sp r=>?_) fun i3 k4 d2=>?_
    ·simp only [List.mem_cons,List.not_mem_nil,or_false] at r
     rcases r with rfl | rfl
     ·exact AX 78 [.tmp 60] [D c0] (fun _=>by kernel_rfl) fun hc u hu=>AR hu (Mq c0 u)
     ·exact AX 79 [.tmp 63] [.slice f0 d0 i0] (fun _=>by kernel_rfl) fun hc u hu=>AR hu (NR es _ _ _ u hn (w0.below (v0.B.trans (hu.mono v0.B.size))))
    refine Al 19 jT d2 [] fun h3 e1=>?_
    refine Ao e1 [] [] e1.G (fun sp r=>by cases r) fun g3 i4 c2=>?_
    refine AC ro c2 [] fun f3 b2=>?_
    exact AO b2 (0,0) (.bool (cond (cond (cond (cond (cond (cond (D3 h g f d) (!(h)) (false)) (HJ c0) (false)) (Fu es) (false)) z6 (false)) (e0 == 0) (false)) z5 (false))) (by unfold DX; rw [c8,k0,p0] <;> rfl)
   ·refine AC WY g1 [] fun e3 d1=>?_
    refine AM (h0 == 3) (fun q0=>?_) (fun q0=>?_)
    ·refine AC jS d1 [(0,2)] fun n1 a2=>?_
     refine Ap a2 (IC h g f d n1) fun d3 z1=>?_
     refine Al 15 jR z1 [] fun c3 t0=>?_
     refine Ao t0 [(1,0,6),(4,0,8)] [⟨2,[(71,D c0)],.bool (HJ c0),true⟩,⟨5,[(74,.agg ⟨z4⟩)],.bool (EI x),true⟩] t0.G (fun sp r=>?_) fun b3 h4 y1=>?_
     ·simp only [List.mem_cons,List.not_mem_nil,or_false] at r
      rcases r with rfl | rfl
      ·exact AX 78 [.tmp 71] [D c0] (fun _=>by kernel_rfl) fun hc u hu=>AR hu (Mq c0 u)
      ·exact AX 80 [.tmp 74] [.agg ⟨z4⟩] (fun _=>by kernel_rfl) fun hc u hu=>AR hu (Jd x z p o m l j y v t b0 i a0 u ht (hx.below (t0.B.trans (hu.mono t0.B.size))))
     refine Al 19 jQ y1 [] fun a3 c1=>?_
     refine Ao c1 [] [] c1.G (fun sp r=>by cases r) fun z2 g4 x1=>?_
     refine AC rn x1 [] fun y2 v1=>?_
     exact AO v1 (0,0) (.bool (cond (cond (cond (cond (cond (D3 h g f d) (HJ c0) (false)) ((d0:Int) == 0) (false)) (EI x) (false)) (e0 == 0) (false)) z5 (false))) (by unfold DX; rw [c8,k0,p0,q0] <;> rfl)
    ·refine AC WX d1 [] fun x2 b1=>?_
     refine AM (h0 == 4) (fun x0=>?_) (fun x0=>?_)
     ·refine Al 17 jP b1 [] fun v2 r0=>?_
      refine Ao r0 [(1,0,6),(4,0,8)] [⟨2,[(79,D c0)],.bool (HJ c0),true⟩,⟨5,[(82,.agg ⟨z4⟩)],.bool (EI x),true⟩] r0.G (fun sp r=>?_) fun u2 f4 t1=>?_
      ·simp only [List.mem_cons,List.not_mem_nil,or_false] at r
       rcases r with rfl | rfl
       ·exact AX 78 [.tmp 79] [D c0] (fun _=>by kernel_rfl) fun hc u hu=>AR hu (Mq c0 u)
       ·exact AX 80 [.tmp 82] [.agg ⟨z4⟩] (fun _=>by kernel_rfl) fun hc u hu=>AR hu (Jd x z p o m l j y v t b0 i a0 u ht (hx.below (r0.B.trans (hu.mono r0.B.size))))
      refine Al 18 jO t1 [] fun t2 a1=>?_
      refine Ao a1 [(1,0,18),(4,0,19),(8,0,19)] [⟨2,[(85,D e0)],.bool (IW e0),true⟩,⟨5,[(88,.agg ⟨[D s,D q]⟩)],.bool (Ho s q),true⟩,⟨9,[(92,.agg ⟨[D s,D q]⟩)],.bool (KG q),((Ho s q)) && (true)⟩] a1.G (fun sp r=>?_) fun s2 e4 s1=>?_
      ·simp only [List.mem_cons,List.not_mem_nil,or_false] at r
       rcases r with rfl | rfl | rfl
       ·exact AX 81 [.tmp 85] [D e0] (fun _=>by kernel_rfl) fun hc u hu=>AR hu (Pb e0 u)
       ·exact AX 82 [.tmp 88] [.agg ⟨[D s,D q]⟩] (fun _=>by kernel_rfl) fun hc u hu=>AR hu (PY s q u)
       ·exact AX 83 [.tmp 92] [.agg ⟨[D s,D q]⟩] (fun _=>by kernel_rfl) fun hc u hu=>AR hu (VS s q u)
      refine Al 19 jN s1 [] fun r2 z0=>?_
      refine Ao z0 [] [] z0.G (fun sp r=>by cases r) fun q2 c4 r1=>?_
      refine AC rm r1 [] fun p2 q1=>?_
      exact AO q1 (0,0) (.bool (cond (cond (cond (cond (cond ((h == false) && ((g == 0) && ((f == 0) && (d == 0)))) (HJ c0) (false)) ((d0:Int) == 0) (false)) (EI x) (false)) (IW e0) (false)) (cond (Ho s q) (KG q) (false)) (false))) (by unfold DX; rw [c8,k0,p0,q0,x0] <;> rfl)
     ·refine AC rl b1 [] fun m2 p1=>?_
      exact AO p1 (0,0) (.bool false) (by unfold DX; rw [c8,k0,p0,q0,x0] <;> rfl)
end
end Go.Proofs.YtmcpjkcggfmcmaaGreatDoor
namespace Go.Proofs.YtmcpjkcggfmcmaaGreatDoor
noncomputable section
open Go.RowKit
set_option maxRecDepth 100000
def FQ (S:Nat→Prop) (w:World):List Df→List (List Value)→Prop
 | [],rs=>rs=[]
 | d :: ds,rs=>∃ c cs,rs=c :: cs∧Fp S w d c∧FQ S w ds cs
theorem L2 {S:Nat→Prop} {w:World}:∀ {ds:List Df} {rs:List (List Value)} {i:Nat} {d:Df},FQ S w ds rs→ds[i]?=some d→∃ r,rs[i]?=some r∧Fp S w d r
 | [],_,_,_,_,h=>by simp at h
 | x :: ds,rs,i,d,h,hi=>by
  unfold FQ at h
  obtain ⟨c,cs,rfl,b,h2⟩:=h
  cases i with
  | zero=>simp at hi; subst hi; exact ⟨c,by simp,b⟩
  | succ i=>obtain ⟨r,hr,a⟩:=L2 (i:=i) h2 (by simpa using hi); exact ⟨r,by simpa using hr,a⟩
theorem Fp.below {w w':World} {d:Df} {cs:List Value} (h:Fp CY w d cs) (B:Below w.heap.size w w'):Fp CY w' d cs:=h.keep B.size fun g _ hg=>⟨trivial,B.block g hg⟩
theorem FQ.below {w w':World} (B:Below w.heap.size w w'):∀ {ds:List Df} {rs:List (List Value)},FQ CY w ds rs→FQ CY w' ds rs
 | [],_,h=>by unfold FQ at h ⊢; exact h
 | d :: ds,rs,h=>by
  unfold FQ at h ⊢
  obtain ⟨c,cs,b,a,h2⟩:=h
  exact ⟨c,cs,b,a.below B,FQ.below B h2⟩
def IJ (d:Df):Prop:=Dq d.body∧d.name.length≤4294967296
def U8 (w:World) (nm:List UInt8) (ds:List Df) (cs:List Value):Prop:=∃ A c rs,cs=[.string ⟨⟨nm⟩⟩,.slice A ds.length c]∧FQ CY w ds rs∧DI CY w 21 A rs
theorem U8.below {w w':World} {nm:List UInt8} {ds:List Df} {cs:List Value} (h:U8 w nm ds cs) (B:Below w.heap.size w w'):U8 w' nm ds cs:=by
 obtain ⟨A,c,rs,b,h2,a⟩:=h
 exact ⟨A,c,rs,b,h2.below B,a.below B⟩
def GZ (d:Df):Bool:=match d.body with
 | .mk op num den mu hu du nm cnt md kids=>DX d.body d.ents d.kind d.tb d.tm d.th d.td d.frm d.ents.length op num den mu hu du nm cnt md kids.length d.mode d.num d.den
def Eh:List Df→Bool
 | []=>true
 | d :: ds=>cond (cond (!(Tk.isName d.name)) true (!(GZ d))) false (Eh ds)
def FF (nm:List UInt8) (ds:List Df):Bool:=cond (cond (!(Tk.isName nm)) true (decide (128 < (ds.length:Int)))) false (Eh ds)
theorem RS {ds:List Df} (i:Nat) (d:Df) (hi:ds[i]?=some d):Eh (ds.drop i)=cond (cond (!(Tk.isName d.name)) true (!(GZ d))) false (Eh (ds.drop (i + 1))):=by
 have hl:i < ds.length:=(List.getElem?_eq_some_iff.1 hi).1
 have he:ds[i]=d:=(List.getElem?_eq_some_iff.1 hi).2
 rw [← List.getElem_cons_drop hl,Eh,he]
theorem VC (d:Df) (cs:List Value) (w:World) (ht:Dq d.body) (h:Fp CY w d cs):Calls Tryz.prog 43 ([.agg ⟨cs⟩]:List Value).toArray w fun e w'=>e=.returned (.bool (GZ d))∧Below w.heap.size w w':=by
 obtain ⟨kind,name,tb,tm,th,td,frm,ents,⟨op,num,den,mu,hu,du,nm,cnt,md,a⟩,mode,b,f⟩:=d
 obtain ⟨A,c,bs,i,hr,rfl⟩:=h
 have g:=i
 unfold D2 at g
 obtain ⟨k,j,ks,rfl,_,_⟩:=g
 exact MM (.mk op num den mu hu du nm cnt md a) ents kind name tb tm th td frm A ents.length c op num den mu hu du nm cnt md k a.length j mode b f w ht i rfl hr
abbrev cZ (k:Int) (nm:List UInt8) (tb:Bool) (tm th td fr:Int) (A:Option Addr) (n c:Nat) (op num den mu hu du:Int) (bn:List UInt8) (cnt md:Int) (A':Option Addr) (n' c':Nat) (mode sn sd:Int):List Value:=
 [D k,.string ⟨⟨nm⟩⟩,.bool tb,D tm,D th,D td,D fr,.slice A n c,D op,D num,D den,D mu,D hu,D du,.string ⟨⟨bn⟩⟩,D cnt,D md,.slice A' n' c',D mode,D sn,D sd]
theorem Fp.cellsV {w:World} {d:Df} {cs:List Value} (h:Fp CY w d cs):∃ k tb tm th td fr A n c op num den mu hu du bn cnt md A' n' c' mode sn sd,cs=cZ k d.name tb tm th td fr A n c op num den mu hu du bn cnt md A' n' c' mode sn sd:=by
 obtain ⟨kind,name,tb,tm,th,td,frm,ents,⟨op,num,den,mu,hu,du,nm,cnt,md,e⟩,mode,a,b⟩:=d
 obtain ⟨A,c,bs,f,hr,rfl⟩:=h
 unfold D2 at f
 obtain ⟨i,g,ks,rfl,_,_⟩:=f
 exact ⟨_,_,_,_,_,_,_,_,_,_,_,_,_,_,_,_,_,_,_,_,_,_,_,_,rfl⟩
noncomputable def QA:Code:=Tryz.f17.body.getD .skip
def Wa:=Ad 1 [.code QA]
def eT:=AB 60 (AP Wa)
def Wd:=AB 60 (AL eT)
def Sd:=AB 60 (Ay Wd)
def Wc:=AB (BA Ai 90 (AG Sd)) (AG Sd)
def Wb:=Ad 6 (AE (AE Wc))
def np:=AB 60 (AP Wb)
theorem LX (f:List UInt8) (ds:List Df) (cs:List Value) (w:World) (hs:f.length≤4294967296) (hl:ds.length≤4294967296) (ht:∀ d∈ds,IJ d) (hA:U8 w f ds cs):Calls Tryz.prog 17 ([.agg ⟨cs⟩]:List Value).toArray w fun e w'=>e=.returned (.bool (FF f ds))∧Below w.heap.size w w':=by
 obtain ⟨A,c,rs,rfl,f0,a⟩:=hA
 let z1:List Value:=[.string ⟨⟨f⟩⟩,.slice A ds.length c]
 refine GD (args:=[.agg ⟨z1⟩]) (fn:=Tryz.f17) (c:=QA) (n:=32) ?_
 refine Am (JO 1 90 [.code QA]) [.code QA] w.heap.size [] [] Wa [(1,.pointer (some ⟨w.heap.size,0,none⟩))] (w.heap.size + 1) [⟨w.heap.size,0,z1,38,true⟩] (Br w) fun w0 E0 k0 y0=>?_
 have B0:Below w.heap.size w w0:=CX y0
 have G0:=k0.sat.good
 refine HW ((C6 Wa).getD #[]) ⟨[⟨w.heap.size,0,z1,38,true⟩],[(1,0,0),(6,0,1)],[⟨2,[(6,.string ⟨⟨f⟩⟩)],.bool (Tk.isName f),true⟩]⟩ [(1,.pointer (some ⟨w.heap.size,0,none⟩)),(14,.bool (cond (!(Tk.isName f)) true (decide (128 < (ds.length:Int)))))] (by kernel_rfl) (by kernel_rfl) (by kernel_rfl) G0 (fun sp o=>?_) (fun X=>by kernel_rfl) (by kernel_rfl) fun z Ea ba=>?_
 ·rw [List.mem_singleton.1 o]
  exact AX 42 [.tmp 6] [.string ⟨⟨f⟩⟩] (fun _=>by kernel_rfl) fun _ u x=>AR x (Fw f u hs)
 have Ba:=B0.trans (ba.mono B0.size)
 have Ga:=Az G0 ba
 unfold FF
 generalize cond (!(Tk.isName f)) true (decide (128 < (ds.length:Int)))=bad
 refine Am 60 (AP Wa) z.heap.size [] [] eT [(1,.pointer (some ⟨w.heap.size,0,none⟩)),(14,.bool bad)] z.heap.size [] (Br z) fun w1 E1 i1 x0=>?_
 have b1:Below z.heap.size z w1:=CX x0
 have B1:Below w.heap.size w w1:=Ba.trans (b1.mono Ba.size)
 have G1:=Az Ga b1
 cases bad with
 | true=>
  refine Cf true (fun _=>?_) (fun h=>nomatch h)
  exact Eg (fn:=Tryz.f17) 60 (.bool false) fun wz Bz=>⟨rfl,B1.trans (Bz.mono B1.size)⟩
 | false=>
 rw [show cond false false (Eh ds)=Eh ds from rfl]
 refine Cf false (fun h=>nomatch h) fun _=>?_
 refine Am 60 (AL eT) w1.heap.size [⟨w.heap.size,0,z1,38,true⟩] [(0,1)] Wd [(16,.slice A ds.length c),(17,D (ds.length:Nat)),(18,D ((0:Nat):Int))] w1.heap.size [⟨w.heap.size,0,z1,38,true⟩] (LE w1 _ G1 (by simp)) fun w4 E4 h1 v0=>?_
 have B4:Below w.heap.size w w4:=B1.trans (v0.below B1.size (fun k hk=>by rw [List.mem_singleton.1 hk]; exact Nat.le_refl _))
 refine Bi (by kernel_rfl) (fun E y=>∃ (i:Nat) (E0:Nat→Value),i≤ds.length∧E=Aw E0 [(16,.slice A ds.length c),(17,D (ds.length:Nat)),(18,D (i:Nat))]∧Eh ds=Eh (ds.drop i)∧Below w.heap.size w y)
  (fun E _=>ds.length - AQ (E 18)) ⟨0,E4,Nat.zero_le _,rfl,rfl,B4⟩ ?_
 rintro E y ⟨i,E0,hi,rfl,hv,Bx⟩ p
 refine Am 60 (Ay Wd) y.heap.size [] [] Sd [(16,.slice A ds.length c),(17,D (ds.length:Nat)),(18,D (i:Nat)),(19,.bool (decide ((i:Int) < (ds.length:Int))))] y.heap.size [] (Br y) fun w5 E5 g1 t0=>?_
 have B5:=Bx.trans ((CX t0).mono Bx.size)
 refine Cf (decide ((i:Int) < (ds.length:Int))) (fun s=>?_) (fun s=>?_)
 ·have m:i < ds.length:=by have:=of_decide_eq_true s; omega
  obtain ⟨d,he⟩:∃ e,ds[i]?=some e:=⟨_,List.getElem?_eq_getElem m⟩
  rw [RS i _ he] at hv
  obtain ⟨r,hr,t⟩:=L2 f0 he
  have c0:=ht d (List.mem_of_getElem? he)
  rcases a with a | ⟨g,off,rfl,_,hg,v⟩
  ·rw [a] at hr; simp at hr
  have a0:=v i _ hr
  refine Am (BA Ai 90 (AG Sd)) (AG Sd) w5.heap.size [] [] Wc [(16,.slice (some ⟨g,off,none⟩) ds.length c),(17,D (ds.length:Nat)),(18,D (i:Nat))] w5.heap.size [] (Br w5) fun q E6 f1 r0=>?_
  have B6:=B5.trans ((CX r0).mono B5.size)
  have b0:q.rangeAt g (off + i * 21) r:=fun j u hu=>(World.cell?_of_block (B6.block g hg)).trans (a0 j u hu)
  refine BH (g:=g) (off:=off) (cap:=c) (sz:=21) (k:=i) (len:=ds.length) (some 20) m Tryz.underlying36 ?_
  refine CC 34 g (off + i * 21) r (some 21) (h2:=by rw [t.len]; kernel_rfl) b0 ?_
  obtain ⟨k,tb,tm,th,td,fr,A1,n1,c1,op,num,den,mu,hu,du,bn,cnt,md,A',n',c',mode,sn,sd,h0⟩:=t.cellsV
  have l:d.name.length≤4294967296:=c0.2
  have b:=fun (u:World) (B:Below w.heap.size w u)=>VC d r u c0.1 (t.below B)
  subst h0
  generalize GZ d=vd at hv b
  generalize d.name=dn at hv l b b0 ⊢
  let z2:List BI:=[⟨q.heap.size,0,cZ k dn tb tm th td fr A1 n1 c1 op num den mu hu du bn cnt md A' n' c' mode sn sd,34,true⟩]
  refine Am (JO 6 90 (AE (AE Wc))) (AE (AE Wc)) q.heap.size [] [(0,0)] Wb [(4,.pointer (some ⟨q.heap.size,0,none⟩)),(16,.slice (some ⟨g,off,none⟩) ds.length c),(17,D (ds.length:Nat)),(18,D (i:Nat))] (q.heap.size + 1) z2 (Br q) fun w7 E7 i0 q0=>?_
  have B7:=B6.trans ((CX q0).mono B6.size)
  have G7:=i0.sat.good
  refine HW ((C6 Wb).getD #[]) ⟨z2,[(1,0,1),(5,0,0)],[⟨2,[(23,.string ⟨⟨dn⟩⟩)],.bool (Tk.isName dn),true⟩,⟨6,[(27,.agg ⟨cZ k dn tb tm th td fr A1 n1 c1 op num den mu hu du bn cnt md A' n' c' mode sn sd⟩)],.bool vd,(!(!(Tk.isName dn))) && true⟩]⟩ [(16,.slice (some ⟨g,off,none⟩) ds.length c),(17,D (ds.length:Nat)),(18,D (i:Nat)),(30,.bool (cond (!(Tk.isName dn)) true (!vd)))] (by kernel_rfl) (by kernel_rfl) (by kernel_rfl) G7 (fun sp o=>?_) (fun X=>by kernel_rfl) (by kernel_rfl) fun w8 E8 b8=>?_
  ·simp only [List.mem_cons,List.not_mem_nil,or_false] at o
   rcases o with rfl | rfl
   ·exact AX 42 [.tmp 23] [.string ⟨⟨dn⟩⟩] (fun _=>by kernel_rfl) fun _ u x=>AR x (Fw dn u l)
   ·exact AX 43 [.tmp 27] [.agg ⟨cZ k dn tb tm th td fr A1 n1 c1 op num den mu hu du bn cnt md A' n' c' mode sn sd⟩] (fun _=>by kernel_rfl) fun _ u x=>AR x (b u (B7.trans (x.mono B7.size)))
  have B8:=B7.trans (b8.mono B7.size)
  generalize cond (!(Tk.isName dn)) true (!vd)=bad at hv ⊢
  refine Am 60 (AP Wb) w8.heap.size [] [] np [(16,.slice (some ⟨g,off,none⟩) ds.length c),(17,D (ds.length:Nat)),(18,D (i:Nat)),(30,.bool bad)] w8.heap.size [] (Br w8) fun w9 E9 e1 p0=>?_
  have B9:=B8.trans ((CX p0).mono B8.size)
  cases bad with
  | true=>
   rw [hv]
   refine Cf true (fun _=>?_) (fun h=>nomatch h)
   exact Eg (fn:=Tryz.f17) 60 (.bool false) fun wz Bz=>⟨rfl,B9.trans (Bz.mono B9.size)⟩
  | false=>
   refine Cf false (fun h=>nomatch h) fun _=>?_
   refine Am 60 (AL np) w9.heap.size [] [] (Aj Wd) [(16,.slice (some ⟨g,off,none⟩) ds.length c),(17,D (ds.length:Nat)),(18,D (IntKind.i64.wrap ((i:Int) + 1)))] w9.heap.size [] (Br w9) fun d1 z0 a1 d0=>?_
   rw [Bs i (by omega)]
   refine p _ _ ⟨i + 1,z0,m,rfl,hv,B9.trans ((CX d0).mono B9.size)⟩ ?_
   show ds.length - AQ (D ((i + 1:Nat):Int)) < ds.length - AQ (D (i:Int))
   simp only [AQ]
   omega
 ·have e0:i=ds.length:=by have:=of_decide_eq_false s; omega
  rw [hv,e0,List.drop_length,Eh]
  exact Eg (fn:=Tryz.f17) 60 (.bool true) fun wz Bz=>⟨rfl,B5.trans (Bz.mono B5.size)⟩
end
end Go.Proofs.YtmcpjkcggfmcmaaGreatDoor

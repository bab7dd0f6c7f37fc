/- Contracts of functions, part 22. -/
import Derived.Test.YtkjbdagicjbjjaaGreatTs21
set_option linter.all false
namespace Go.Proofs.YtkjbdagicjbjjaaGreat
noncomputable section
open Go.RowKit
set_option maxRecDepth 100000
set_option maxHeartbeats 2000000
attribute [local irreducible] BD BP AC AD AF Ar AZ AM Aw Bk C6 BV Fo EE C5 BO At Fr
noncomputable def SK:Code:=Tryz.f16.body.getD .skip
def sw:=ν [.code SK]
def Qg:=Ω sw
def sv:=Ξ Qg
def ADT:=Ω sv
def su:=Ψ Qg
def ADS:=AC su
def ADR:=AC ADS
def ADQ:=AC ADR
def cu:=Ω ADQ
def st:=AA (An (Ae) 90 (AC cu)) (AC cu)
def kX:=ν (AC (AC st))
def Vx:=Ω kX
def Vw:=Ξ Vx
def Vv:=Ψ Vx
def kW:=Ξ Vv
def kV:=Ω kW
def Qf:=Ψ kV
def Qe:=Ξ Qf
def Vu:=Ψ Qf
def Vt:=Ξ Vu
def Vs:=Ψ Vu
def Vr:=Ξ Vs
def Qd:=Ψ Vs
def Vq:=Ψ Qd
def kU:=Ψ Vv
def kT:=Ω kU
def Qc:=Ψ kT
def Qb:=Ξ Qc
def Vp:=Ψ Qc
def Vo:=Ξ Vp
def Vn:=Ψ Vp
def Vm:=Ξ Vn
def Qa:=Ψ Vn
def Vl:=Ψ Qa
def Vk:=Ξ Vl
def Vj:=Ψ Vl
def kS:=AA (An (Ei) 90 (AC Vj)) (AC Vj)
def QZ:=Ω kS
def Vi:=Ψ QZ
def kR:=AA (An (Ei) 90 (AC Vi)) (AC Vi)
def Vh:=Ω kR
def kQ:=Ξ Vh
def NR:=Ω kQ
def Vg:=Ψ Vh
def kP:=AA (An (Ei) 90 (AC Vg)) (AC Vg)
def QY:=Ω kP
def kO:=Ξ QY
def QX:=Ω kO
def Vf:=Ψ QX
def yg:=AI Vw
def yf:=AI Qe
def ye:=AI Vt
def yd:=AI Vr
def yc:=AI Vq
def yb:=AI Qb
def ya:=AI Vo
def yZ:=AI Vm
def yY:=AI Vk
def yX:=AI Vf
def kN:=Ξ Qd
def yW:=Ω kN
def kM:=Ξ Qa
def yV:=Ω kM
def kL:=Ξ QZ
def kK:=Ω kL
def kJ:=Ω kK
def kI:=Ω kJ
def kH:=Ω kI
def yU:=Ω kH
def kG:=Ξ NR
def kF:=Ω kG
def yT:=Ω kF
def kE:=Ψ NR
def kD:=Ω kE
def kC:=Ω kD
def kB:=Ω kC
def j9:=Ω kB
def yS:=Ω j9
def j8:=Ξ QX
def j7:=Ω j8
def yR:=Ω j7
def j6:=Ψ QY
def j5:=Ω j6
def j4:=Ω j5
def j3:=Ω j4
def j2:=Ω j3
def yQ:=Ω j2
abbrev It (t s:Ty) (w:World) (sB:Nat) (r:List Value):List A7:=[ι (ε w) (Ax t) 56,ι (ε w + 1) r 53,ι sB (Ax s) 56]
abbrev Jd (b:Nat) (n:Int) (w:World) (h sB:Nat):List (Nat×Value):=[(0,ζ b),(3,δ n),(5,ζ (ε w)),(8,ζ (ε w + 1)),(9,δ ((h + 1:Nat):Int)),(10,ζ sB)]
set_option linter.unusedSectionVars false
section
variable {R:Ending→World→Prop} {b:Nat} {ns:List Int} {n:Int} {h:Nat} {t s:Ty} {w w0 w1:World} {sB:Nat} {E:Nat→Value} (h0:w0.heap.size=b) (hw:Below w0.heap.size w0 w) (h5:t∈EG) (hs:s∈Lq) (IH:∀ s∈EG,∀ u,Be b ns u→Calls Tryz.prog 16 ([.pointer (some ⟨b,0,none⟩),.agg ⟨Ax s⟩,.int .i64 ((h + 1:Nat):Int),.int .i64 n]:List Value).toArray u (LD b ns n (h + 1) s u)) (hR:∀ e w',LD b ns n (h + 2) t w e w'→R e w') (K:Wk w0 w1 (It t s w sB (AX BM none 0)) [BF w0 b ns,Bh b w] [])
include h0 hw h5 hs IH hR K
theorem ABa (ht:t=DG):At Tryz.prog 16 R Vt (Fr 275 (BE E (Jd b n w h sB))) w1:=by
 have hb:b < (ε w1):=(K.tapeOk h0 0 rfl).lt
 refine Ek K h0 0 rfl [0,1,2,3,4,5,6,7,8,9] (It t s w sB (AX BM none 0)) [(1,0,0),(6,0,0)] [(4,CA (ε w1) n (h + 1) t),(9,CA (ε w1) n (h + 1) t)] 2 (fun u hu=>hu.G) (fun p f=>?_) (fun p f X u hu a hf=>?_) fun X u hu a hf=>?_
 ·simp only [List.mem_cons,List.not_mem_nil,or_false] at f
  rcases f with rfl | rfl
  ·exact CA.but hb
  exact CA.but hb
 ·have o:=hu.tapeOk h0 0 rfl
  simp only [List.mem_cons,List.not_mem_nil,or_false] at f
  rcases f with rfl | rfl
  ·exact Bn (xs:=[.tmp 76,.tmp 77,.tmp 78,.tmp 79]) (args:=[ζ b,ψ (Ax t),δ ((h + 1:Nat):Int),δ n]) ((IH t h5 u o).mono fun e w' i=>Ds a.size i) rfl
  exact Bn (xs:=[.tmp 81,.tmp 82,.tmp 83,.tmp 84]) (args:=[ζ b,ψ (Ax t),δ ((h + 1:Nat):Int),δ n]) ((IH t h5 u o).mono fun e w' i=>Ds a.size i) rfl
 obtain ⟨x,m,k,e1,g1,v⟩:CA (ε w1) n (h + 1) t (X 4) u:=hf 4 (by simp) rfl
 obtain ⟨y,l,j,e2,g2,r⟩:CA (ε w1) n (h + 1) t (X 9) u:=hf 9 (by simp) rfl
 refine Bs [(8,ζ (ε w + 1)),(80,X 4),(85,X 9)] fun E2=>?_
 rw [e1,e2]
 have K3:=K.trees hu a.size [(x,AX x m k),(y,AX y l j)] (by simp [v,r])
 refine FD 10 32 [.const (δ 12),.tmp 80,.tmp 85] [δ 12,ψ (AX x m k),ψ (AX y l j)] ((KN 12 x y m l k j u).mono fun e w' i=>?_)
 obtain ⟨g,rfl,bt,q⟩:=i
 have hg:=(q.lo 0 _ rfl g rfl).1
 have K4:=K3.join bt q
 refine ⟨_,rfl,Do K4 [(11,1,0)] (fun _=>(It t s w sB (AX (.mk 12 0 0 0 0 0 [] 0 0 [x,y]) (θ g) 2))) fun z w5 K5=>?_⟩
 refine AB ye K5 [] fun w6 c=>?_
 have d:=(K.out h0 hw).2.size
 exact AK c (1,0) (ψ (AX (.mk 12 0 0 0 0 0 [] 0 0 [x,y]) (θ g) 2)) (hR _ _ (.node (xs:=[(x,AX x m k),(y,AX y l j)]) (.two (h + 1) 12 t t t x y (.inr (.inl ⟨by decide,ht,ht,ht⟩)) g1 g2) rfl (FO.ex (c.H.all (c.ix 2) _ (c.at 2 rfl)) d) (Nat.le_trans d (Nat.le_trans a.size hg)) (c.H.all (c.ix 3) _ (c.at 3 rfl)) (c.out h0 hw)))
theorem AEj (ht:t=DG):At Tryz.prog 16 R Vr (Fr 275 (BE E (Jd b n w h sB))) w1:=by
 have hb:b < (ε w1):=(K.tapeOk h0 0 rfl).lt
 refine Ek K h0 0 rfl [0,1,2,3,4,5,6,7,8,9] (It t s w sB (AX BM none 0)) [(1,0,0),(6,0,0)] [(4,CA (ε w1) n (h + 1) t),(9,CA (ε w1) n (h + 1) t)] 2 (fun u hu=>hu.G) (fun p f=>?_) (fun p f X u hu a hf=>?_) fun X u hu a hf=>?_
 ·simp only [List.mem_cons,List.not_mem_nil,or_false] at f
  rcases f with rfl | rfl
  ·exact CA.but hb
  exact CA.but hb
 ·have o:=hu.tapeOk h0 0 rfl
  simp only [List.mem_cons,List.not_mem_nil,or_false] at f
  rcases f with rfl | rfl
  ·exact Bn (xs:=[.tmp 89,.tmp 90,.tmp 91,.tmp 92]) (args:=[ζ b,ψ (Ax t),δ ((h + 1:Nat):Int),δ n]) ((IH t h5 u o).mono fun e w' i=>Ds a.size i) rfl
  exact Bn (xs:=[.tmp 94,.tmp 95,.tmp 96,.tmp 97]) (args:=[ζ b,ψ (Ax t),δ ((h + 1:Nat):Int),δ n]) ((IH t h5 u o).mono fun e w' i=>Ds a.size i) rfl
 obtain ⟨x,m,k,e1,g1,v⟩:CA (ε w1) n (h + 1) t (X 4) u:=hf 4 (by simp) rfl
 obtain ⟨y,l,j,e2,g2,r⟩:CA (ε w1) n (h + 1) t (X 9) u:=hf 9 (by simp) rfl
 refine Bs [(8,ζ (ε w + 1)),(93,X 4),(98,X 9)] fun E2=>?_
 rw [e1,e2]
 have K3:=K.trees hu a.size [(x,AX x m k),(y,AX y l j)] (by simp [v,r])
 refine FD 10 32 [.const (δ 13),.tmp 93,.tmp 98] [δ 13,ψ (AX x m k),ψ (AX y l j)] ((KN 13 x y m l k j u).mono fun e w' i=>?_)
 obtain ⟨g,rfl,bt,q⟩:=i
 have hg:=(q.lo 0 _ rfl g rfl).1
 have K4:=K3.join bt q
 refine ⟨_,rfl,Do K4 [(11,1,0)] (fun _=>(It t s w sB (AX (.mk 13 0 0 0 0 0 [] 0 0 [x,y]) (θ g) 2))) fun z w5 K5=>?_⟩
 refine AB yd K5 [] fun w6 c=>?_
 have d:=(K.out h0 hw).2.size
 exact AK c (1,0) (ψ (AX (.mk 13 0 0 0 0 0 [] 0 0 [x,y]) (θ g) 2)) (hR _ _ (.node (xs:=[(x,AX x m k),(y,AX y l j)]) (.two (h + 1) 13 t t t x y (.inr (.inl ⟨by decide,ht,ht,ht⟩)) g1 g2) rfl (FO.ex (c.H.all (c.ix 2) _ (c.at 2 rfl)) d) (Nat.le_trans d (Nat.le_trans a.size hg)) (c.H.all (c.ix 3) _ (c.at 3 rfl)) (c.out h0 hw)))
theorem ABY (ht:t=DG):At Tryz.prog 16 R Vq (Fr 275 (BE E (Jd b n w h sB))) w1:=by
 have hb:b < (ε w1):=(K.tapeOk h0 0 rfl).lt
 refine Ek K h0 0 rfl [0,1,2,3,4,5,6,7,8,9] (It t s w sB (AX BM none 0)) [(1,0,0),(6,0,0)] [(4,CA (ε w1) n (h + 1) t),(9,CA (ε w1) n (h + 1) t)] 2 (fun u hu=>hu.G) (fun p f=>?_) (fun p f X u hu a hf=>?_) fun X u hu a hf=>?_
 ·simp only [List.mem_cons,List.not_mem_nil,or_false] at f
  rcases f with rfl | rfl
  ·exact CA.but hb
  exact CA.but hb
 ·have o:=hu.tapeOk h0 0 rfl
  simp only [List.mem_cons,List.not_mem_nil,or_false] at f
  rcases f with rfl | rfl
  ·exact Bn (xs:=[.tmp 109,.tmp 110,.tmp 111,.tmp 112]) (args:=[ζ b,ψ (Ax t),δ ((h + 1:Nat):Int),δ n]) ((IH t h5 u o).mono fun e w' i=>Ds a.size i) rfl
  exact Bn (xs:=[.tmp 114,.tmp 115,.tmp 116,.tmp 117]) (args:=[ζ b,ψ (Ax t),δ ((h + 1:Nat):Int),δ n]) ((IH t h5 u o).mono fun e w' i=>Ds a.size i) rfl
 obtain ⟨x,m,k,e1,g1,v⟩:CA (ε w1) n (h + 1) t (X 4) u:=hf 4 (by simp) rfl
 obtain ⟨y,l,j,e2,g2,r⟩:CA (ε w1) n (h + 1) t (X 9) u:=hf 9 (by simp) rfl
 refine Bs [(8,ζ (ε w + 1)),(113,X 4),(118,X 9)] fun E2=>?_
 rw [e1,e2]
 have K3:=K.trees hu a.size [(x,AX x m k),(y,AX y l j)] (by simp [v,r])
 refine FD 10 32 [.const (δ 11),.tmp 113,.tmp 118] [δ 11,ψ (AX x m k),ψ (AX y l j)] ((KN 11 x y m l k j u).mono fun e w' i=>?_)
 obtain ⟨g,rfl,bt,q⟩:=i
 have hg:=(q.lo 0 _ rfl g rfl).1
 have K4:=K3.join bt q
 refine ⟨_,rfl,Do K4 [(11,1,0)] (fun _=>(It t s w sB (AX (.mk 11 0 0 0 0 0 [] 0 0 [x,y]) (θ g) 2))) fun z w5 K5=>?_⟩
 refine AB yc K5 [] fun w6 c=>?_
 have d:=(K.out h0 hw).2.size
 exact AK c (1,0) (ψ (AX (.mk 11 0 0 0 0 0 [] 0 0 [x,y]) (θ g) 2)) (hR _ _ (.node (xs:=[(x,AX x m k),(y,AX y l j)]) (.two (h + 1) 11 t t t x y (.inr (.inl ⟨by decide,ht,ht,ht⟩)) g1 g2) rfl (FO.ex (c.H.all (c.ix 2) _ (c.at 2 rfl)) d) (Nat.le_trans d (Nat.le_trans a.size hg)) (c.H.all (c.ix 3) _ (c.at 3 rfl)) (c.out h0 hw)))
theorem ABZ (ht:t=BC):At Tryz.prog 16 R Vf (Fr 275 (BE E (Jd b n w h sB))) w1:=by
 have hb:b < (ε w1):=(K.tapeOk h0 0 rfl).lt
 refine Ek K h0 0 rfl [0,1,2,3,4,5,6,7,8,9] (It t s w sB (AX BM none 0)) [(1,2,0),(6,2,0)] [(4,CA (ε w1) n (h + 1) s),(9,CA (ε w1) n (h + 1) s)] 2 (fun u hu=>hu.G) (fun p f=>?_) (fun p f X u hu a hf=>?_) fun X u hu a hf=>?_
 ·simp only [List.mem_cons,List.not_mem_nil,or_false] at f
  rcases f with rfl | rfl
  ·exact CA.but hb
  exact CA.but hb
 ·have o:=hu.tapeOk h0 0 rfl
  simp only [List.mem_cons,List.not_mem_nil,or_false] at f
  rcases f with rfl | rfl
  ·exact Bn (xs:=[.tmp 253,.tmp 254,.tmp 255,.tmp 256]) (args:=[ζ b,ψ (Ax s),δ ((h + 1:Nat):Int),δ n]) ((IH s (NO hs) u o).mono fun e w' i=>Ds a.size i) rfl
  exact Bn (xs:=[.tmp 258,.tmp 259,.tmp 260,.tmp 261]) (args:=[ζ b,ψ (Ax s),δ ((h + 1:Nat):Int),δ n]) ((IH s (NO hs) u o).mono fun e w' i=>Ds a.size i) rfl
 obtain ⟨x,m,k,e1,g1,v⟩:CA (ε w1) n (h + 1) s (X 4) u:=hf 4 (by simp) rfl
 obtain ⟨y,l,j,e2,g2,r⟩:CA (ε w1) n (h + 1) s (X 9) u:=hf 9 (by simp) rfl
 refine Bs [(8,ζ (ε w + 1)),(257,X 4),(262,X 9)] fun E2=>?_
 rw [e1,e2]
 have K3:=K.trees hu a.size [(x,AX x m k),(y,AX y l j)] (by simp [v,r])
 refine FD 10 32 [.const (δ 8),.tmp 257,.tmp 262] [δ 8,ψ (AX x m k),ψ (AX y l j)] ((KN 8 x y m l k j u).mono fun e w' i=>?_)
 obtain ⟨g,rfl,bt,q⟩:=i
 have hg:=(q.lo 0 _ rfl g rfl).1
 have K4:=K3.join bt q
 refine ⟨_,rfl,Do K4 [(11,1,0)] (fun _=>(It t s w sB (AX (.mk 8 0 0 0 0 0 [] 0 0 [x,y]) (θ g) 2))) fun z w5 K5=>?_⟩
 refine AB yX K5 [] fun w6 c=>?_
 have d:=(K.out h0 hw).2.size
 exact AK c (1,0) (ψ (AX (.mk 8 0 0 0 0 0 [] 0 0 [x,y]) (θ g) 2)) (hR _ _ (.node (xs:=[(x,AX x m k),(y,AX y l j)]) (.two (h + 1) 8 t s s x y (.inr (.inr (.inr (.inr (.inr (.inr (.inl ⟨rfl,ht,rfl,hs⟩))))))) g1 g2) rfl (FO.ex (c.H.all (c.ix 2) _ (c.at 2 rfl)) d) (Nat.le_trans d (Nat.le_trans a.size hg)) (c.H.all (c.ix 3) _ (c.at 3 rfl)) (c.out h0 hw)))
theorem me (ht:t=DG):At Tryz.prog 16 R Qe (Fr 275 (BE E (Jd b n w h sB))) w1:=by
 have hb:b < (ε w1):=(K.tapeOk h0 0 rfl).lt
 refine Ek K h0 0 rfl [0,1,2,3,4,5,6,7,8,9,10,11,12] (It t s w sB (AX BM none 0)) [(4,2,0),(9,2,0)] [(1,Fb b [δ 9,δ 10,δ 11] 3 3),(2,LL [9,10,11]),(7,CA (ε w1) n (h + 1) s),(12,CA (ε w1) n (h + 1) s)] 2 (fun u hu=>hu.G) (fun p f=>?_) (fun p f X u hu a hf=>?_) fun X u hu a hf=>?_
 ·simp only [List.mem_cons,List.not_mem_nil,or_false] at f
  rcases f with rfl | rfl | rfl | rfl
  ·exact Fb.but
  ·exact fun _ _ _ _ h=>h
  ·exact CA.but hb
  exact CA.but hb
 ·have j:=hu.tapeOk h0 0 rfl
  simp only [List.mem_cons,List.not_mem_nil,or_false] at f
  rcases f with rfl | rfl | rfl | rfl
  ·exact Gl (fun z=>χ z 3 3) [δ 9,δ 10,δ 11] 3 (fun w' hB hg=>⟨j.below hB,.of_below hB,ε u,rfl,Nat.ne_of_gt j.lt,hg⟩) (by intro z; kernel_rfl)
  ·obtain ⟨g,v,r,q⟩:Fb b [δ 9,δ 10,δ 11] 3 3 (X 1) u:=hf 1 (by kernel_rfl) rfl
   refine Bn (g:=33) (xs:=[.tmp 60,.tmp 61]) (args:=[ζ b,X 1]) ?_ rfl
   rw [v]
   exact (JJ b ns g [9,10,11] 3 u j r (by decide) (by decide) q).mono fun e w' ⟨y,q1,q2,q3,q4⟩=>⟨_,q2,q3,q4,y,q1,rfl⟩
  ·exact Bn (xs:=[.tmp 63,.tmp 64,.tmp 65,.tmp 66]) (args:=[ζ b,ψ (Ax s),δ ((h + 1:Nat):Int),δ n]) ((IH s (NO hs) u j).mono fun e w' i=>Ds a.size i) rfl
  exact Bn (xs:=[.tmp 68,.tmp 69,.tmp 70,.tmp 71]) (args:=[ζ b,ψ (Ax s),δ ((h + 1:Nat):Int),δ n]) ((IH s (NO hs) u j).mono fun e w' i=>Ds a.size i) rfl
 obtain ⟨x,o,l,v,g1,t1⟩:CA (ε w1) n (h + 1) s (X 7) u:=hf 7 (by simp) rfl
 obtain ⟨y,m,k,r,g2,t2⟩:CA (ε w1) n (h + 1) s (X 12) u:=hf 12 (by simp) rfl
 obtain ⟨op,hop,q⟩:LL [9,10,11] (X 2) u:=hf 2 (by simp) rfl
 refine Bs [(8,ζ (ε w + 1)),(62,X 2),(67,X 7),(72,X 12)] fun E2=>?_
 rw [v,r,q]
 have K3:=K.trees hu a.size [(x,AX x o l),(y,AX y m k)] (by simp [t1,t2])
 refine FD 13 32 [.tmp 62,.tmp 67,.tmp 72] [δ op,ψ (AX x o l),ψ (AX y m k)] ((KN op x y o m l k u).mono fun e w' i=>?_)
 obtain ⟨g,rfl,bt,Ht⟩:=i
 have hg:=(Ht.lo 0 _ rfl g rfl).1
 have K4:=K3.join bt Ht
 refine ⟨_,rfl,Do K4 [(14,1,0)] (fun _=>(It t s w sB (AX (.mk op 0 0 0 0 0 [] 0 0 [x,y]) (θ g) 2))) fun z w5 K5=>?_⟩
 refine AB yf K5 [] fun w6 c=>?_
 have d:=(K.out h0 hw).2.size
 exact AK c (1,0) (ψ (AX (.mk op 0 0 0 0 0 [] 0 0 [x,y]) (θ g) 2)) (hR _ _ (.node (xs:=[(x,AX x o l),(y,AX y m k)]) (.two (h + 1) op t s s x y (.inl ⟨by simpa using hop,ht,rfl,hs⟩) g1 g2) rfl (FO.ex (c.H.all (c.ix 2) _ (c.at 2 rfl)) d) (Nat.le_trans d (Nat.le_trans a.size hg)) (c.H.all (c.ix 3) _ (c.at 3 rfl)) (c.out h0 hw)))
theorem mf (ht:t.1=false):At Tryz.prog 16 R Qb (Fr 275 (BE E (Jd b n w h sB))) w1:=by
 have hb:b < (ε w1):=(K.tapeOk h0 0 rfl).lt
 refine Ek K h0 0 rfl [0,1,2,3,4,5,6,7,8,9,10,11,12] (It t s w sB (AX BM none 0)) [(4,0,0),(9,0,0)] [(1,Fb b [δ 5,δ 6] 3 2),(2,LL [5,6]),(7,CA (ε w1) n (h + 1) t),(12,CA (ε w1) n (h + 1) t)] 2 (fun u hu=>hu.G) (fun p f=>?_) (fun p f X u hu a hf=>?_) fun X u hu a hf=>?_
 ·simp only [List.mem_cons,List.not_mem_nil,or_false] at f
  rcases f with rfl | rfl | rfl | rfl
  ·exact Fb.but
  ·exact fun _ _ _ _ h=>h
  ·exact CA.but hb
  exact CA.but hb
 ·have j:=hu.tapeOk h0 0 rfl
  simp only [List.mem_cons,List.not_mem_nil,or_false] at f
  rcases f with rfl | rfl | rfl | rfl
  ·exact Gl (fun z=>χ z 2 2) [δ 5,δ 6] 3 (fun w' hB hg=>⟨j.below hB,.of_below hB,ε u,rfl,Nat.ne_of_gt j.lt,hg⟩) (by intro z; kernel_rfl)
  ·obtain ⟨g,v,r,q⟩:Fb b [δ 5,δ 6] 3 2 (X 1) u:=hf 1 (by kernel_rfl) rfl
   refine Bn (g:=33) (xs:=[.tmp 125,.tmp 126]) (args:=[ζ b,X 1]) ?_ rfl
   rw [v]
   exact (JJ b ns g [5,6] 2 u j r (by decide) (by decide) q).mono fun e w' ⟨y,q1,q2,q3,q4⟩=>⟨_,q2,q3,q4,y,q1,rfl⟩
  ·exact Bn (xs:=[.tmp 128,.tmp 129,.tmp 130,.tmp 131]) (args:=[ζ b,ψ (Ax t),δ ((h + 1:Nat):Int),δ n]) ((IH t h5 u j).mono fun e w' i=>Ds a.size i) rfl
  exact Bn (xs:=[.tmp 133,.tmp 134,.tmp 135,.tmp 136]) (args:=[ζ b,ψ (Ax t),δ ((h + 1:Nat):Int),δ n]) ((IH t h5 u j).mono fun e w' i=>Ds a.size i) rfl
 obtain ⟨x,o,l,v,g1,t1⟩:CA (ε w1) n (h + 1) t (X 7) u:=hf 7 (by simp) rfl
 obtain ⟨y,m,k,r,g2,t2⟩:CA (ε w1) n (h + 1) t (X 12) u:=hf 12 (by simp) rfl
 obtain ⟨op,hop,q⟩:LL [5,6] (X 2) u:=hf 2 (by simp) rfl
 refine Bs [(8,ζ (ε w + 1)),(127,X 2),(132,X 7),(137,X 12)] fun E2=>?_
 rw [v,r,q]
 have K3:=K.trees hu a.size [(x,AX x o l),(y,AX y m k)] (by simp [t1,t2])
 refine FD 13 32 [.tmp 127,.tmp 132,.tmp 137] [δ op,ψ (AX x o l),ψ (AX y m k)] ((KN op x y o m l k u).mono fun e w' i=>?_)
 obtain ⟨g,rfl,bt,Ht⟩:=i
 have hg:=(Ht.lo 0 _ rfl g rfl).1
 have K4:=K3.join bt Ht
 refine ⟨_,rfl,Do K4 [(14,1,0)] (fun _=>(It t s w sB (AX (.mk op 0 0 0 0 0 [] 0 0 [x,y]) (θ g) 2))) fun z w5 K5=>?_⟩
 refine AB yb K5 [] fun w6 c=>?_
 have d:=(K.out h0 hw).2.size
 exact AK c (1,0) (ψ (AX (.mk op 0 0 0 0 0 [] 0 0 [x,y]) (θ g) 2)) (hR _ _ (.node (xs:=[(x,AX x o l),(y,AX y m k)]) (.two (h + 1) op t t t x y (.inr (.inr (.inl ⟨by simp at hop; omega,ht,rfl,rfl⟩))) g1 g2) rfl (FO.ex (c.H.all (c.ix 2) _ (c.at 2 rfl)) d) (Nat.le_trans d (Nat.le_trans a.size hg)) (c.H.all (c.ix 3) _ (c.at 3 rfl)) (c.out h0 hw)))
theorem ABW (ht:t.1=false):At Tryz.prog 16 R Vo (Fr 275 (BE E (Jd b n w h sB))) w1:=by
 have hb:b < (ε w1):=(K.tapeOk h0 0 rfl).lt
 refine Ek K h0 0 rfl [0,1,2,3,4,5,6,7,8,9,10,11,12] (It t s w sB (AX BM none 0)) [(4,0,0),(9,0,0)] [(1,Fb b [δ 14,δ 15] 3 2),(2,LL [14,15]),(7,CA (ε w1) n (h + 1) t),(12,CA (ε w1) n (h + 1) t)] 2 (fun u hu=>hu.G) (fun p f=>?_) (fun p f X u hu a hf=>?_) fun X u hu a hf=>?_
 ·simp only [List.mem_cons,List.not_mem_nil,or_false] at f
  rcases f with rfl | rfl | rfl | rfl
  ·exact Fb.but
  ·exact fun _ _ _ _ h=>h
  ·exact CA.but hb
  exact CA.but hb
 ·have j:=hu.tapeOk h0 0 rfl
  simp only [List.mem_cons,List.not_mem_nil,or_false] at f
  rcases f with rfl | rfl | rfl | rfl
  ·exact Gl (fun z=>χ z 2 2) [δ 14,δ 15] 3 (fun w' hB hg=>⟨j.below hB,.of_below hB,ε u,rfl,Nat.ne_of_gt j.lt,hg⟩) (by intro z; kernel_rfl)
  ·obtain ⟨g,v,r,q⟩:Fb b [δ 14,δ 15] 3 2 (X 1) u:=hf 1 (by kernel_rfl) rfl
   refine Bn (g:=33) (xs:=[.tmp 141,.tmp 142]) (args:=[ζ b,X 1]) ?_ rfl
   rw [v]
   exact (JJ b ns g [14,15] 2 u j r (by decide) (by decide) q).mono fun e w' ⟨y,q1,q2,q3,q4⟩=>⟨_,q2,q3,q4,y,q1,rfl⟩
  ·exact Bn (xs:=[.tmp 144,.tmp 145,.tmp 146,.tmp 147]) (args:=[ζ b,ψ (Ax t),δ ((h + 1:Nat):Int),δ n]) ((IH t h5 u j).mono fun e w' i=>Ds a.size i) rfl
  exact Bn (xs:=[.tmp 149,.tmp 150,.tmp 151,.tmp 152]) (args:=[ζ b,ψ (Ax t),δ ((h + 1:Nat):Int),δ n]) ((IH t h5 u j).mono fun e w' i=>Ds a.size i) rfl
 obtain ⟨x,o,l,v,g1,t1⟩:CA (ε w1) n (h + 1) t (X 7) u:=hf 7 (by simp) rfl
 obtain ⟨y,m,k,r,g2,t2⟩:CA (ε w1) n (h + 1) t (X 12) u:=hf 12 (by simp) rfl
 obtain ⟨op,hop,q⟩:LL [14,15] (X 2) u:=hf 2 (by simp) rfl
 refine Bs [(8,ζ (ε w + 1)),(143,X 2),(148,X 7),(153,X 12)] fun E2=>?_
 rw [v,r,q]
 have K3:=K.trees hu a.size [(x,AX x o l),(y,AX y m k)] (by simp [t1,t2])
 refine FD 13 32 [.tmp 143,.tmp 148,.tmp 153] [δ op,ψ (AX x o l),ψ (AX y m k)] ((KN op x y o m l k u).mono fun e w' i=>?_)
 obtain ⟨g,rfl,bt,Ht⟩:=i
 have hg:=(Ht.lo 0 _ rfl g rfl).1
 have K4:=K3.join bt Ht
 refine ⟨_,rfl,Do K4 [(14,1,0)] (fun _=>(It t s w sB (AX (.mk op 0 0 0 0 0 [] 0 0 [x,y]) (θ g) 2))) fun z w5 K5=>?_⟩
 refine AB ya K5 [] fun w6 c=>?_
 have d:=(K.out h0 hw).2.size
 exact AK c (1,0) (ψ (AX (.mk op 0 0 0 0 0 [] 0 0 [x,y]) (θ g) 2)) (hR _ _ (.node (xs:=[(x,AX x o l),(y,AX y m k)]) (.two (h + 1) op t t t x y (.inr (.inr (.inl ⟨by simp at hop; omega,ht,rfl,rfl⟩))) g1 g2) rfl (FO.ex (c.H.all (c.ix 2) _ (c.at 2 rfl)) d) (Nat.le_trans d (Nat.le_trans a.size hg)) (c.H.all (c.ix 3) _ (c.at 3 rfl)) (c.out h0 hw)))
theorem ABU (ht:t.1=false):At Tryz.prog 16 R Vk (Fr 275 (BE E (Jd b n w h sB))) w1:=by
 have hb:b < (ε w1):=(K.tapeOk h0 0 rfl).lt
 refine Ek K h0 0 rfl [0,1,2,3,4,5,6,7,8,9,10,11,12] (It t s w sB (AX BM none 0)) [(4,0,0)] [(1,Fb b [δ 7,δ 8] 3 2),(2,LL [7,8]),(7,CA (ε w1) n (h + 1) t),(9,fun v _=>v=ψ (Ax BC)),(12,CA (ε w1) n (h + 1) BC)] 2 (fun u hu=>hu.G) (fun p i=>?_) (fun p i X u hu a hf=>?_) fun X u hu a hf=>?_
 ·simp only [List.mem_cons,List.not_mem_nil,or_false] at i
  rcases i with rfl | rfl | rfl | rfl | rfl
  ·exact Fb.but
  ·exact fun _ _ _ _ h=>h
  ·exact CA.but hb
  ·exact fun _ _ _ _ h=>h
  exact CA.but hb
 ·have d:=hu.tapeOk h0 0 rfl
  simp only [List.mem_cons,List.not_mem_nil,or_false] at i
  rcases i with rfl | rfl | rfl | rfl | rfl
  ·exact Gl (fun z=>χ z 2 2) [δ 7,δ 8] 3 (fun w' hB hg=>⟨d.below hB,.of_below hB,ε u,rfl,Nat.ne_of_gt d.lt,hg⟩) (by intro z; kernel_rfl)
  ·obtain ⟨g,e1,r,q⟩:Fb b [δ 7,δ 8] 3 2 (X 1) u:=hf 1 (by kernel_rfl) rfl
   refine Bn (g:=33) (xs:=[.tmp 187,.tmp 188]) (args:=[ζ b,X 1]) ?_ rfl
   rw [e1]
   exact (JJ b ns g [7,8] 2 u d r (by decide) (by decide) q).mono fun e w' ⟨y,q1,q2,q3,q4⟩=>⟨_,q2,q3,q4,y,q1,rfl⟩
  ·exact Bn (xs:=[.tmp 190,.tmp 191,.tmp 192,.tmp 193]) (args:=[ζ b,ψ (Ax t),δ ((h + 1:Nat):Int),δ n]) ((IH t h5 u d).mono fun e w' j=>Ds a.size j) rfl
  ·exact Bn (xs:=[]) (args:=[]) (OA d (Hb u)) rfl
  refine Bn (g:=16) (xs:=[.tmp 195,.tmp 196,.tmp 197,.tmp 198]) (args:=[ζ b,X 9,δ ((h + 1:Nat):Int),δ n]) ?_ rfl
  rw [show X 9=ψ (Ax BC) from hf 9 (by kernel_rfl) rfl]
  exact (IH BC (by decide) u d).mono fun e w' j=>Ds a.size j
 obtain ⟨x,o,l,e1,g1,t1⟩:CA (ε w1) n (h + 1) t (X 7) u:=hf 7 (by simp) rfl
 obtain ⟨y,m,k,r,g2,t2⟩:CA (ε w1) n (h + 1) BC (X 12) u:=hf 12 (by simp) rfl
 obtain ⟨op,hop,q⟩:LL [7,8] (X 2) u:=hf 2 (by simp) rfl
 refine Bs [(8,ζ (ε w + 1)),(189,X 2),(194,X 7),(199,X 12)] fun E2=>?_
 rw [e1,r,q]
 have K3:=K.trees hu a.size [(x,AX x o l),(y,AX y m k)] (by simp [t1,t2])
 refine FD 13 32 [.tmp 189,.tmp 194,.tmp 199] [δ op,ψ (AX x o l),ψ (AX y m k)] ((KN op x y o m l k u).mono fun e w' j=>?_)
 obtain ⟨g,rfl,bt,Ht⟩:=j
 have hg:=(Ht.lo 0 _ rfl g rfl).1
 have K4:=K3.join bt Ht
 refine ⟨_,rfl,Do K4 [(14,1,0)] (fun _=>(It t s w sB (AX (.mk op 0 0 0 0 0 [] 0 0 [x,y]) (θ g) 2))) fun z w5 K5=>?_⟩
 refine AB yY K5 [] fun w6 c=>?_
 have f:=(K.out h0 hw).2.size
 exact AK c (1,0) (ψ (AX (.mk op 0 0 0 0 0 [] 0 0 [x,y]) (θ g) 2)) (hR _ _ (.node (xs:=[(x,AX x o l),(y,AX y m k)]) (.two (h + 1) op t t BC x y (.inr (.inr (.inr (.inl ⟨by simpa using hop,ht,rfl,rfl⟩)))) g1 g2) rfl (FO.ex (c.H.all (c.ix 2) _ (c.at 2 rfl)) f) (Nat.le_trans f (Nat.le_trans a.size hg)) (c.H.all (c.ix 3) _ (c.at 3 rfl)) (c.out h0 hw)))
theorem AEk:At Tryz.prog 16 R Vw (Fr 275 (BE E (Jd b n w h sB))) w1:=by
 have hb:b < (ε w1):=(K.tapeOk h0 0 rfl).lt
 refine Ek K h0 0 rfl [0,1,2,3,4,5,6,7,8,9,10,11,12,13,14] (It t s w sB (AX BM none 0)) [(6,0,0),(11,0,0)] [(1,fun v _=>v=ψ (Ax DG)),(4,CA (ε w1) n (h + 1) DG),(9,CA (ε w1) n (h + 1) t),(14,CA (ε w1) n (h + 1) t)] 3 (fun u hu=>hu.G) (fun p d=>?_) (fun p d X u hu a hf=>?_) fun X u hu a hf=>?_
 ·simp only [List.mem_cons,List.not_mem_nil,or_false] at d
  rcases d with rfl | rfl | rfl | rfl
  ·exact fun _ _ _ _ h=>h
  ·exact CA.but hb
  ·exact CA.but hb
  exact CA.but hb
 ·have i:=hu.tapeOk h0 0 rfl
  simp only [List.mem_cons,List.not_mem_nil,or_false] at d
  rcases d with rfl | rfl | rfl | rfl
  ·exact Bn (xs:=[]) (args:=[]) (OA i (LE u)) rfl
  ·refine Bn (g:=16) (xs:=[.tmp 36,.tmp 37,.tmp 38,.tmp 39]) (args:=[ζ b,X 1,δ ((h + 1:Nat):Int),δ n]) ?_ rfl
   rw [show X 1=ψ (Ax DG) from hf 1 (by kernel_rfl) rfl]
   exact (IH DG (by decide) u i).mono fun e w' f=>Ds a.size f
  ·exact Bn (xs:=[.tmp 41,.tmp 42,.tmp 43,.tmp 44]) (args:=[ζ b,ψ (Ax t),δ ((h + 1:Nat):Int),δ n]) ((IH t h5 u i).mono fun e w' f=>Ds a.size f) rfl
  exact Bn (xs:=[.tmp 46,.tmp 47,.tmp 48,.tmp 49]) (args:=[ζ b,ψ (Ax t),δ ((h + 1:Nat):Int),δ n]) ((IH t h5 u i).mono fun e w' f=>Ds a.size f) rfl
 obtain ⟨x,A1,m,e1,g1,t1⟩:CA (ε w1) n (h + 1) DG (X 4) u:=hf 4 (by simp) rfl
 obtain ⟨y,r,l,e2,g2,t2⟩:CA (ε w1) n (h + 1) t (X 9) u:=hf 9 (by simp) rfl
 obtain ⟨z,o,k,e3,g3,t3⟩:CA (ε w1) n (h + 1) t (X 14) u:=hf 14 (by simp) rfl
 refine Bs [(8,ζ (ε w + 1)),(40,X 4),(45,X 9),(50,X 14)] fun E2=>?_
 rw [e1,e2,e3]
 have K3:=K.trees hu a.size [(x,AX x A1 m),(y,AX y r l),(z,AX z o k)] (by simp [t1,t2,t3])
 refine Do K3 [(15,0,0),(16,0,0),(17,1,0)] (fun q=>[ι (ε w) (Ax t) 56,ι (ε w + 1) (AX (.mk 18 0 0 0 0 0 [] 0 0 [x,y,z]) (θ q) 3) 53,ι sB (Ax s) 56,ι q ([AX x A1 m,AX y r l,AX z o k].flatten) 53]) fun q w5 K5=>?_
 refine AB yg K5 [] fun w6 c=>?_
 have j:=(K.out h0 hw).2.size
 exact AK c (1,0) (ψ (AX (.mk 18 0 0 0 0 0 [] 0 0 [x,y,z]) (θ q) 3)) (hR _ _ (.node (xs:=[(x,AX x A1 m),(y,AX y r l),(z,AX z o k)]) (.ite (h + 1) t x y z g1 g2 g3) rfl (FO.ex (c.H.all (c.ix 2) _ (c.at 2 rfl)) j) (c.newer h0 3 rfl) (c.ent 3 rfl) (c.out h0 hw)))
theorem ABS (ht:t=DG):At Tryz.prog 16 R (AD Qd) (Fr 275 (BE E (Jd b n w h sB))) w1:=by
 have i:=(K.out h0 hw).2.size
 refine AB kN K [(0,0)] fun q c=>?_
 refine BK c h0 0 rfl (IH t h5 _ (c.tapeOk h0 0 rfl)) Im fun e d j m=>?_
 obtain ⟨x,g,f,rfl,k,t3,_,l⟩:=j
 refine ⟨_,rfl,?_⟩
 have o:=c.trees m l.size [(x,AX x g f)] (by simpa using t3)
 refine Ah yW [ι (ε w) (Ax t) 56,ι (ε w + 1) (AX (.mk 17 0 0 0 0 0 [] 0 0 [x]) (some ⟨ε d,0,none⟩) 1) 53,ι sB (Ax s) 56,ι (ε d) ([AX x g f].flatten) 53] o [(1,0)] fun p a=>?_
 exact AK a (1,0) (ψ (AX (.mk 17 0 0 0 0 0 [] 0 0 [x]) (some ⟨ε d,0,none⟩) 1)) (hR _ _ (.node (xs:=[(x,AX x g f)]) (ht ▸ .not (h + 1) x (ht ▸ k)) rfl (FO.ex (a.H.all (a.ix 2) _ (a.at 2 rfl)) (c.out h0 hw).2.size) (a.newer h0 3 rfl) (a.ent 3 rfl) (a.out h0 hw)))
theorem ABT (ht:t.1=false):At Tryz.prog 16 R (AD Qa) (Fr 275 (BE E (Jd b n w h sB))) w1:=by
 have i:=(K.out h0 hw).2.size
 refine AB kM K [(0,0)] fun q c=>?_
 refine BK c h0 0 rfl (IH t h5 _ (c.tapeOk h0 0 rfl)) Im fun e d j m=>?_
 obtain ⟨x,g,f,rfl,k,t3,_,l⟩:=j
 refine ⟨_,rfl,?_⟩
 have o:=c.trees m l.size [(x,AX x g f)] (by simpa using t3)
 refine Ah yV [ι (ε w) (Ax t) 56,ι (ε w + 1) (AX (.mk 16 0 0 0 0 0 [] 0 0 [x]) (some ⟨ε d,0,none⟩) 1) 53,ι sB (Ax s) 56,ι (ε d) ([AX x g f].flatten) 53] o [(1,0)] fun p a=>?_
 exact AK a (1,0) (ψ (AX (.mk 16 0 0 0 0 0 [] 0 0 [x]) (some ⟨ε d,0,none⟩) 1)) (hR _ _ (.node (xs:=[(x,AX x g f)]) (.neg (h + 1) t x ht k) rfl (FO.ex (a.H.all (a.ix 2) _ (a.at 2 rfl)) (c.out h0 hw).2.size) (a.newer h0 3 rfl) (a.ent 3 rfl) (a.out h0 hw)))
theorem ABO (ht:t=BU):At Tryz.prog 16 R (AD NR) (Fr 275 (BE E (Jd b n w h sB))) w1:=by
 have j:=(K.out h0 hw).2.size
 refine AB kG K [] fun i r=>?_
 refine AP r (args:=[]) (Hb _) fun u p=>?_
 refine AB kF p [] fun i c=>?_
 refine BK c h0 0 rfl (IH BC (by decide) _ (c.tapeOk h0 0 rfl)) Im fun e d k o=>?_
 obtain ⟨x,g,f,rfl,l,t3,_,m⟩:=k
 refine ⟨_,rfl,?_⟩
 have q:=c.trees o m.size [(x,AX x g f)] (by simpa using t3)
 refine Ah yT [ι (ε w) (Ax t) 56,ι (ε w + 1) (AX (.mk 4 0 0 0 0 0 [119] 0 0 [x]) (some ⟨ε d,0,none⟩) 1) 53,ι sB (Ax s) 56,ι (ε d) ([AX x g f].flatten) 53] q [(1,0)] fun v a=>?_
 exact AK a (1,0) (ψ (AX (.mk 4 0 0 0 0 0 [119] 0 0 [x]) (some ⟨ε d,0,none⟩) 1)) (hR _ _ (.node (xs:=[(x,AX x g f)]) (.scale (h + 1) t [119] x (.inl ⟨ht,rfl⟩) l) rfl (FO.ex (a.H.all (a.ix 2) _ (a.at 2 rfl)) (c.out h0 hw).2.size) (a.newer h0 3 rfl) (a.ent 3 rfl) (a.out h0 hw)))
theorem ABP (ht:t=BC):At Tryz.prog 16 R (AD QX) (Fr 275 (BE E (Jd b n w h sB))) w1:=by
 have j:=(K.out h0 hw).2.size
 refine AB j8 K [] fun i r=>?_
 refine AP r (args:=[]) (Hb _) fun u p=>?_
 refine AB j7 p [] fun i c=>?_
 refine BK c h0 0 rfl (IH BC (by decide) _ (c.tapeOk h0 0 rfl)) Im fun e d k o=>?_
 obtain ⟨x,g,f,rfl,l,t3,_,m⟩:=k
 refine ⟨_,rfl,?_⟩
 have q:=c.trees o m.size [(x,AX x g f)] (by simpa using t3)
 refine Ah yR [ι (ε w) (Ax t) 56,ι (ε w + 1) (AX (.mk 4 0 0 0 0 0 [115] 0 0 [x]) (some ⟨ε d,0,none⟩) 1) 53,ι sB (Ax s) 56,ι (ε d) ([AX x g f].flatten) 53] q [(1,0)] fun v a=>?_
 exact AK a (1,0) (ψ (AX (.mk 4 0 0 0 0 0 [115] 0 0 [x]) (some ⟨ε d,0,none⟩) 1)) (hR _ _ (.node (xs:=[(x,AX x g f)]) (.scale (h + 1) t [115] x (.inr ⟨ht,rfl⟩) l) rfl (FO.ex (a.H.all (a.ix 2) _ (a.at 2 rfl)) (c.out h0 hw).2.size) (a.newer h0 3 rfl) (a.ent 3 rfl) (a.out h0 hw)))
theorem ABV (ht:t=Cb):At Tryz.prog 16 R (AD QZ) (Fr 275 (BE E (Jd b n w h sB))) w1:=by
 have b0:=(K.out h0 hw).2.size
 refine AB kL K [] fun z J2=>?_
 refine AP J2 (args:=[]) (Ic _) fun w9 J9=>?_
 refine AB kK J9 [] fun z j=>?_
 refine BK j h0 0 rfl (IH De (by decide) _ (j.tapeOk h0 0 rfl)) Im fun e w3 o K3=>?_
 obtain ⟨x,l,f,rfl,g3,t3,_,b3⟩:=o
 refine ⟨_,rfl,?_⟩
 have J3:=j.trees K3 b3.size [(x,AX x l f)] (by simpa using t3)
 refine AB kJ J3 [] fun w4 J4=>?_
 refine AP J4 (args:=[]) (Gf _) fun w8 J8=>?_
 refine AB kI J8 [] fun w5 i=>?_
 refine BK i h0 0 rfl (IH BU (by decide) _ (i.tapeOk h0 0 rfl)) Im fun e w6 o K6=>?_
 obtain ⟨y,k,d,rfl,g6,t6,_,b6⟩:=o
 refine ⟨_,rfl,?_⟩
 have J6:=i.trees K6 b6.size [(y,AX y k d)] (by simpa using t6)
 refine AB kH J6 [] fun v r=>?_
 refine BA (KN 7 x y l k f d v) fun e a0 hh=>?_
 obtain ⟨g,rfl,bt,u⟩:=hh
 have hg:=(u.lo 0 _ rfl g rfl).1
 have K8:=r.join bt u
 refine ⟨_,rfl,?_⟩
 refine Ah yU [ι (ε w) (Ax t) 56,ι (ε w + 1) (AX (.mk 7 0 0 0 0 0 [] 0 0 [x,y]) (θ g) 2) 53,ι sB (Ax s) 56] K8 [(1,0)] fun m a=>?_
 have p1:=FO.ex (a.H.all (a.ix 2) _ (a.at 2 rfl)) (j.out h0 hw).2.size
 have p2:=FO.ex (a.H.all (a.ix 3) _ (a.at 3 rfl)) (i.out h0 hw).2.size
 have c:∀ p∈[(x,AX x l f),(y,AX y k d)],DE (fun g=>w.heap.size≤g) m p.1 p.2:=fun p q=>by
  rcases List.mem_cons.1 q with rfl | q
  ·exact p1 _ (by simp)
  exact p2 p q
 exact AK a (1,0) (ψ (AX (.mk 7 0 0 0 0 0 [] 0 0 [x,y]) (θ g) 2)) (hR _ _ (.node (xs:=[(x,AX x l f),(y,AX y k d)]) (.two (h + 1) 7 t De BU x y (.inr (.inr (.inr (.inr (.inl ⟨rfl,ht,rfl,rfl⟩))))) g3 g6) rfl c (Nat.le_trans (r.out h0 hw).2.size hg) (a.H.all (a.ix 4) _ (a.at 4 rfl)) (a.out h0 hw)))
theorem ABR (ht:t=BU):At Tryz.prog 16 R (AF NR) (Fr 275 (BE E (Jd b n w h sB))) w1:=by
 have b0:=(K.out h0 hw).2.size
 refine AB kE K [] fun z J2=>?_
 refine AP J2 (args:=[]) (Gg _) fun w9 J9=>?_
 refine AB kD J9 [] fun z j=>?_
 refine BK j h0 0 rfl (IH Cb (by decide) _ (j.tapeOk h0 0 rfl)) Im fun e w3 o K3=>?_
 obtain ⟨x,l,f,rfl,g3,t3,_,b3⟩:=o
 refine ⟨_,rfl,?_⟩
 have J3:=j.trees K3 b3.size [(x,AX x l f)] (by simpa using t3)
 refine AB kC J3 [] fun w4 J4=>?_
 refine AP J4 (args:=[]) (Ic _) fun w8 J8=>?_
 refine AB kB J8 [] fun w5 i=>?_
 refine BK i h0 0 rfl (IH De (by decide) _ (i.tapeOk h0 0 rfl)) Im fun e w6 o K6=>?_
 obtain ⟨y,k,d,rfl,g6,t6,_,b6⟩:=o
 refine ⟨_,rfl,?_⟩
 have J6:=i.trees K6 b6.size [(y,AX y k d)] (by simpa using t6)
 refine AB j9 J6 [] fun v r=>?_
 refine BA (KN 8 x y l k f d v) fun e a0 hh=>?_
 obtain ⟨g,rfl,bt,u⟩:=hh
 have hg:=(u.lo 0 _ rfl g rfl).1
 have K8:=r.join bt u
 refine ⟨_,rfl,?_⟩
 refine Ah yS [ι (ε w) (Ax t) 56,ι (ε w + 1) (AX (.mk 8 0 0 0 0 0 [] 0 0 [x,y]) (θ g) 2) 53,ι sB (Ax s) 56] K8 [(1,0)] fun m a=>?_
 have p1:=FO.ex (a.H.all (a.ix 2) _ (a.at 2 rfl)) (j.out h0 hw).2.size
 have p2:=FO.ex (a.H.all (a.ix 3) _ (a.at 3 rfl)) (i.out h0 hw).2.size
 have c:∀ p∈[(x,AX x l f),(y,AX y k d)],DE (fun g=>w.heap.size≤g) m p.1 p.2:=fun p q=>by
  rcases List.mem_cons.1 q with rfl | q
  ·exact p1 _ (by simp)
  exact p2 p q
 exact AK a (1,0) (ψ (AX (.mk 8 0 0 0 0 0 [] 0 0 [x,y]) (θ g) 2)) (hR _ _ (.node (xs:=[(x,AX x l f),(y,AX y k d)]) (.two (h + 1) 8 t Cb De x y (.inr (.inr (.inr (.inr (.inr (.inl ⟨rfl,ht,rfl,rfl⟩)))))) g3 g6) rfl c (Nat.le_trans (r.out h0 hw).2.size hg) (a.H.all (a.ix 4) _ (a.at 4 rfl)) (a.out h0 hw)))
theorem ABX (ht:t=De):At Tryz.prog 16 R (AF QY) (Fr 275 (BE E (Jd b n w h sB))) w1:=by
 have b0:=(K.out h0 hw).2.size
 refine AB j6 K [] fun z J2=>?_
 refine AP J2 (args:=[]) (Gg _) fun w9 J9=>?_
 refine AB j5 J9 [] fun z j=>?_
 refine BK j h0 0 rfl (IH Cb (by decide) _ (j.tapeOk h0 0 rfl)) Im fun e w3 o K3=>?_
 obtain ⟨x,l,f,rfl,g3,t3,_,b3⟩:=o
 refine ⟨_,rfl,?_⟩
 have J3:=j.trees K3 b3.size [(x,AX x l f)] (by simpa using t3)
 refine AB j4 J3 [] fun w4 J4=>?_
 refine AP J4 (args:=[]) (Gf _) fun w8 J8=>?_
 refine AB j3 J8 [] fun w5 i=>?_
 refine BK i h0 0 rfl (IH BU (by decide) _ (i.tapeOk h0 0 rfl)) Im fun e w6 o K6=>?_
 obtain ⟨y,k,d,rfl,g6,t6,_,b6⟩:=o
 refine ⟨_,rfl,?_⟩
 have J6:=i.trees K6 b6.size [(y,AX y k d)] (by simpa using t6)
 refine AB j2 J6 [] fun v r=>?_
 refine BA (KN 8 x y l k f d v) fun e a0 hh=>?_
 obtain ⟨g,rfl,bt,u⟩:=hh
 have hg:=(u.lo 0 _ rfl g rfl).1
 have K8:=r.join bt u
 refine ⟨_,rfl,?_⟩
 refine Ah yQ [ι (ε w) (Ax t) 56,ι (ε w + 1) (AX (.mk 8 0 0 0 0 0 [] 0 0 [x,y]) (θ g) 2) 53,ι sB (Ax s) 56] K8 [(1,0)] fun m a=>?_
 have p1:=FO.ex (a.H.all (a.ix 2) _ (a.at 2 rfl)) (j.out h0 hw).2.size
 have p2:=FO.ex (a.H.all (a.ix 3) _ (a.at 3 rfl)) (i.out h0 hw).2.size
 have c:∀ p∈[(x,AX x l f),(y,AX y k d)],DE (fun g=>w.heap.size≤g) m p.1 p.2:=fun p q=>by
  rcases List.mem_cons.1 q with rfl | q
  ·exact p1 _ (by simp)
  exact p2 p q
 exact AK a (1,0) (ψ (AX (.mk 8 0 0 0 0 0 [] 0 0 [x,y]) (θ g) 2)) (hR _ _ (.node (xs:=[(x,AX x l f),(y,AX y k d)]) (.two (h + 1) 8 t Cb BU x y (.inr (.inr (.inr (.inr (.inr (.inr (.inr ⟨rfl,ht,rfl,rfl⟩))))))) g3 g6) rfl c (Nat.le_trans (r.out h0 hw).2.size hg) (a.H.all (a.ix 4) _ (a.at 4 rfl)) (a.out h0 hw)))
theorem ABQ (ht:t.1=false):At Tryz.prog 16 R Vm (Fr 275 (BE E (Jd b n w h sB))) w1:=by
 have hb:b < w1.heap.size:=(K.tapeOk h0 0 rfl).lt
 refine Ek K h0 0 rfl [0,1,2,3,4,5,6,7,8,9,10,11,12,13,14,15,16,17] (It t s w sB (AX BM none 0)) [(9,0,1),(13,0,0)] [(3,Fb b [δ 1,δ 1,δ 1,δ 100,δ 1,δ 4] 41 3),(5,Io 3),(6,fun v u=>∃ g k,v=.pointer (some ⟨g,0 + k * 2,none⟩)∧k < 3∧g≠b∧A7.good u ⟨g,0,[δ 1,δ 1,δ 1,δ 100,δ 1,δ 4],41,true⟩),(7,fun v _=>∃ q∈PL,v=.agg ⟨[δ q.1,δ q.2]⟩),(11,Io 7),(16,CA w1.heap.size n (h + 1) t),(17,fun v u=>∃ x g,v=.slice (some ⟨g,0,none⟩) 1 1∧CT n (h + 1) t x∧DE (fun g=>w1.heap.size≤g) u (Mx [x]) (AX (Mx [x]) (some ⟨g,0,none⟩) 1))] 2 (fun u hu=>hu.G) (fun p hp=>?_) (fun p hp X u hu hbu hf=>?_) fun X u hu hbu hf=>?_
 ·simp only [List.mem_cons,List.not_mem_nil,or_false] at hp
  rcases hp with rfl | rfl | rfl | rfl | rfl | rfl | rfl
  ·exact Fb.but
  ·exact fun _ _ _ _ h=>h
  ·exact fun v u u' he ⟨g,k,a1,a2,a3,a4⟩=>⟨g,k,a1,a2,a3,GY a4 he.size (he.block g a4.1 a3)⟩
  ·exact fun _ _ _ _ h=>h
  ·exact fun _ _ _ _ h=>h
  ·exact CA.but hb
  exact fun v u u' he ⟨x,g,a1,a2,a3⟩=>⟨x,g,a1,a2,DE.keep he.size (fun g hg hl=>⟨hg,he.block g hl (by omega)⟩) _ _ a3⟩
 ·have hT:=hu.tapeOk h0 0 rfl
  simp only [List.mem_cons,List.not_mem_nil,or_false] at hp
  rcases hp with rfl | rfl | rfl | rfl | rfl | rfl | rfl
  ·exact Gl (fun z=>.slice (some ⟨z,0,none⟩) 3 3) [δ 1,δ 1,δ 1,δ 100,δ 1,δ 4] 41 (fun w' hB hg=>⟨hT.below hB,.of_below hB,u.heap.size,rfl,Nat.ne_of_gt hT.lt,hg⟩) (by intro z; kernel_rfl)
  ·exact Bn (xs:=[.tmp 161,.const (δ 3)]) (args:=[.pointer (some ⟨b,0,none⟩),δ 3]) ((BR b ns 3 u hT (by omega) (by omega)).mono fun e w' ⟨y,q1,q2,q3,q4⟩=>⟨_,q2,q3,q4,y,by omega,rfl⟩) rfl
  ·obtain ⟨g,e1,e2,e3⟩:Fb b [δ 1,δ 1,δ 1,δ 100,δ 1,δ 4] 41 3 (X 3) u:=hf 3 (by kernel_rfl) rfl
   obtain ⟨k,e4,e5⟩:Io 3 (X 5) u:=hf 5 (by kernel_rfl) rfl
   exact AN.value (CE (g:=g) (off:=0) (sz:=2) (k:=k) (len:=3) (cap:=3) 67 (.tmp 160) (.tmp 162) (hx:=(Eq.trans (b:=X 3) (by kernel_rfl) e1)) (hi:=(Eq.trans (b:=X 5) (by kernel_rfl) e5)) e4 Tryz.underlying67) ⟨hT,CG.refl b u,g,k,rfl,e4,e2,e3⟩
  ·obtain ⟨g,k,e1,e2,e3,e4⟩:∃ g k,X 6=.pointer (some ⟨g,0 + k * 2,none⟩)∧k < 3∧g≠b∧A7.good u ⟨g,0,[δ 1,δ 1,δ 1,δ 100,δ 1,δ 4],41,true⟩:=hf 6 (by kernel_rfl) rfl
   obtain ⟨q,hq⟩:∃ q,PL[k]?=some q:=⟨_,List.getElem?_eq_getElem e2⟩
   obtain ⟨g',off,h1,_,h3⟩:=Cl.all (show Cl 2 (fun q:Int×Int=>[δ q.1,δ q.2]) u (some ⟨g,0,none⟩) PL from DJ (fun r hr=>by obtain ⟨e,_,rfl⟩:=List.mem_map.1 hr; rfl) e4) (by decide)
   obtain ⟨rfl,rfl⟩:g=g'∧0=off:=by simpa using h1
   exact AN.loadMid 41 (.tmp 163) (by kernel_rfl) (Eq.trans (b:=X 6) (by kernel_rfl) e1) [δ q.1,δ q.2] (h3 k q hq) (by kernel_rfl) (by kernel_rfl) ⟨hT,CG.refl b u,q,List.mem_of_getElem? hq,rfl⟩
  ·exact Bn (xs:=[.tmp 167,.const (δ 7)]) (args:=[.pointer (some ⟨b,0,none⟩),δ 7]) ((BR b ns 7 u hT (by omega) (by omega)).mono fun e w' ⟨y,q1,q2,q3,q4⟩=>⟨_,q2,q3,q4,y,by omega,rfl⟩) rfl
  ·exact Bn (xs:=[.tmp 169,.tmp 170,.tmp 171,.tmp 172]) (args:=[.pointer (some ⟨b,0,none⟩),.agg ⟨Ax t⟩,δ ((h + 1:Nat):Int),δ n]) ((IH t h5 u hT).mono fun e w' hh=>Ds hbu.size hh) rfl
  obtain ⟨x,A1,c1,e1,g1,t1⟩:CA w1.heap.size n (h + 1) t (X 16) u:=hf 16 (by kernel_rfl) rfl
  exact AN.over [(173,.agg ⟨AX x A1 c1⟩)] ⟨Eq.trans (b:=X 16) (by kernel_rfl) e1,trivial⟩ (Gl (fun z=>.slice (some ⟨z,0,none⟩) 1 1) (AX x A1 c1) 53 (fun w' hB hg=>⟨hT.below hB,.of_below hB,x,u.heap.size,rfl,g1,Ob (ks:=[AX x A1 c1]) (Pu (xs:=[(x,AX x A1 c1)]) fun p hp=>by rw [List.mem_singleton.1 hp]; exact DE.keep hB.size (fun g hg hl=>⟨hg,hB.block g hl⟩) _ _ t1) (Sk (ks:=[AX x A1 c1]) hbu.size (fun r hr=>by rw [List.mem_singleton.1 hr]; rfl) (by simpa using hg))⟩) (by intro z; kernel_rfl))
 obtain ⟨q,hq,e1⟩:∃ q∈PL,X 7=.agg ⟨[δ q.1,δ q.2]⟩:=hf 7 (by simp) rfl
 obtain ⟨k,hk,e2⟩:Io 7 (X 11) u:=hf 11 (by simp) rfl
 obtain ⟨x,g,e3,g1,t1⟩:∃ x g,X 17=.slice (some ⟨g,0,none⟩) 1 1∧CT n (h + 1) t x∧DE (fun g=>w1.heap.size≤g) u (Mx [x]) (AX (Mx [x]) (some ⟨g,0,none⟩) 1):=hf 17 (by simp) rfl
 refine Bs [(8,.pointer (some ⟨w.heap.size + 1,0,none⟩)),(164,X 7),(166,.agg ⟨[δ t.2.1,δ t.2.2.1,δ t.2.2.2]⟩),(168,X 11),(174,X 17)] fun E2=>?_
 rw [e1,e2,e3]
 have K3:=K.trees hu hbu.size [(Mx [x],AX (Mx [x]) (some ⟨g,0,none⟩) 1)] (by simpa using t1)
 refine Do K3 [(18,0,0),(19,1,0)] (fun _=>[⟨w.heap.size,0,Ax t,56,true⟩,⟨w.heap.size + 1,0,AX (.mk 19 q.1 q.2 t.2.1 t.2.2.1 t.2.2.2 [] 0 (k:Int) [x]) (some ⟨g,0,none⟩) 1,53,true⟩,⟨sB,0,Ax s,56,true⟩]) fun z w5 K5=>?_
 refine AB yZ K5 [] fun w6 K6=>?_
 exact AK K6 (1,0) (.agg ⟨AX (.mk 19 q.1 q.2 t.2.1 t.2.2.1 t.2.2.2 [] 0 (k:Int) [x]) (some ⟨g,0,none⟩) 1⟩) (hR _ _ ⟨(.mk 19 q.1 q.2 t.2.1 t.2.2.1 t.2.2.2 [] 0 (k:Int) [x]),_,_,rfl,.round (h + 1) t x q k ht hq (by omega) (by omega) g1,qM (FO.ex (K6.H.all (K6.ix 2) _ (K6.at 2 rfl)) (K.out h0 hw).2.size _ (List.mem_singleton.2 rfl)) rfl,K6.out h0 hw⟩)
end
theorem ZG {R:Ending→World→Prop} {b:Nat} {ns:List Int} {n:Int} {h:Nat} {t:Ty} {w w0 g:World} {E:Nat→Value} (d:(ε w0)=b) (i:Below (ε w0) w0 w) (l:t∈EG) (hR:∀ e w',LD b ns n (h + 1) t w e w'→R e w') (K:Wk w0 g [ι (ε w) (Ax t) 56,ι (ε w + 1) (AX BM none 0) 53] [BF w0 b ns,Bh b w] []):At Tryz.prog 16 R (AD Qg) (Fr 275 (BE E [(0,ζ b),(3,δ n),(5,ζ (ε w)),(8,ζ (ε w + 1))])) g:=by
 refine AB sv K [(0,0)] fun u f=>?_
 refine BK f d 0 rfl (AEh b ns n h t l _ (f.tapeOk d 0 rfl)) Im fun e s k p=>?_
 obtain ⟨x,A,c,rfl,m,j,_,o⟩:=k
 refine ⟨_,rfl,?_⟩
 have q:=f.trees p o.size [(x,AX x A c)] (by simpa using j)
 refine Ah ADT [ι (ε w) (Ax t) 56,ι (ε w + 1) (AX x A c) 53] q [(1,0)] fun r a=>?_
 exact AK a (1,0) (ψ (AX x A c)) (hR _ _ ⟨x,A,c,rfl,m,FO.ex (a.H.all (a.ix 2) _ (a.at 2 rfl)) (f.out d i).2.size _ (List.mem_singleton.2 rfl),a.out d i⟩)
theorem vS (b:Nat) (ns:List Int) (n:Int):∀ (h:Nat) (t:Ty) (_:t∈EG) (_:h≤1000) (w:World) (_:Be b ns w),Calls Tryz.prog 16 ([.pointer (some ⟨b,0,none⟩),.agg ⟨Ax t⟩,.int .i64 ((h + 1:Nat):Int),.int .i64 n]:List Value).toArray w (LD b ns n (h + 1) t w)
 | 0,t,h5,_,w,hT=>by
  refine AS (args:=[.pointer (some ⟨b,0,none⟩),.agg ⟨Ax t⟩,.int .i64 ((0 + 1:Nat):Int),.int .i64 n]) (fn:=Tryz.f16) (c:=SK) (n:=275) ?_
  obtain ⟨w0,j,K0⟩:=Wk.tape hT
  have p:=K0.B
  refine Ah Qg [⟨w.heap.size,0,Ax t,56,true⟩,⟨w.heap.size + 1,0,AX BM none 0,53,true⟩] K0 [(0,0)] fun w1 K1=>?_
  refine AG true (fun _=>?_) (fun hf=>by cases hf)
  refine AU [(0,.pointer (some ⟨b,0,none⟩)),(3,.int .i64 n),(5,.pointer (some ⟨w.heap.size,0,none⟩)),(8,.pointer (some ⟨w.heap.size + 1,0,none⟩))] fun E1=>?_
  exact ZG j p h5 (fun _ _ i=>i) K1
 | h + 1,t,h5,hle,w,hT=>by
  refine AS (args:=[.pointer (some ⟨b,0,none⟩),.agg ⟨Ax t⟩,.int .i64 ((h + 1 + 1:Nat):Int),.int .i64 n]) (fn:=Tryz.f16) (c:=SK) (n:=275) ?_
  obtain ⟨w0,j,K0⟩:=Wk.tape hT
  have p:=K0.B
  refine Ah sw [⟨w.heap.size,0,Ax t,56,true⟩,⟨w.heap.size + 1,0,AX BM none 0,53,true⟩] K0 [(0,0)] fun w1 K1=>?_
  refine BK K1 j 0 rfl (args:=[.pointer (some ⟨b,0,none⟩),.int .i64 5]) (BR b ns 5 _ (K1.tapeOk j 0 rfl) (by omega) (by omega)) BX.ok fun e w2 hq K2=>?_
  obtain ⟨k2,v0,rfl,_,_⟩:=hq
  refine ⟨_,rfl,?_⟩
  refine AB Qg K2 [] fun w3 K3=>?_
  refine AG ((k2:Int) == 0) (fun _=>?_) (fun _=>?_)
  ·refine AU [(0,.pointer (some ⟨b,0,none⟩)),(3,.int .i64 n),(5,.pointer (some ⟨w.heap.size,0,none⟩)),(8,.pointer (some ⟨w.heap.size + 1,0,none⟩))] fun E1=>?_
   exact ZG j p h5 (fun _ _ i=>i) K3
  refine AB su K3 [] fun w4 K4=>?_
  refine AP K4 (args:=[]) (Hb _) fun w4 K4=>?_
  refine AP K4 (args:=[]) (Gg _) fun w4 K4=>?_
  refine AP K4 (args:=[]) (Ic _) fun w4 K4=>?_
  refine AP K4 (args:=[]) (Gf _) fun w4 K4=>?_
  refine Ah cu [⟨w.heap.size,0,Ax t,56,true⟩,⟨w.heap.size + 1,0,AX BM none 0,53,true⟩,⟨w4.heap.size,0,[Ax BC,Ax Cb,Ax De,Ax BU].flatten,56,true⟩] K4 [] fun w5 K5=>?_
  refine BK K5 j 0 rfl (args:=[.pointer (some ⟨b,0,none⟩),.int .i64 4]) (BR b ns 4 _ (K5.tapeOk j 0 rfl) (by omega) (by omega)) BX.ok fun e w6 hq K6=>?_
  obtain ⟨k6,t0,rfl,_,_⟩:=hq
  refine ⟨_,rfl,?_⟩
  have i0:k6 < Lq.length:=by show k6 < 4; omega
  obtain ⟨s,g0⟩:∃ x,Lq[k6]?=some x:=⟨_,List.getElem?_eq_getElem i0⟩
  have hs:=List.mem_of_getElem? g0
  refine Ak Ae st K6 [] fun m K7=>?_
  refine Ay (g:=w4.heap.size) (off:=0) (cap:=4) (sz:=4) (k:=k6) (len:=4) (some 31) i0 Tryz.underlying66 ?_
  obtain ⟨g,off,h1,_,h3⟩:=Cl.all (show Cl 4 Ax m (some ⟨w4.heap.size,0,none⟩) Lq from DJ (fun r hr=>by obtain ⟨e,_,rfl⟩:=List.mem_map.1 hr; rfl) (K7.ent 2 rfl)) (by decide)
  obtain ⟨rfl,rfl⟩:w4.heap.size=g∧0=off:=by simpa using h1
  refine BN 56 w4.heap.size (0 + k6 * 4) (Ax s) (some 32) (h3 k6 s g0) ?_
  refine Ah kX [⟨w.heap.size,0,Ax t,56,true⟩,⟨w.heap.size + 1,0,AX BM none 0,53,true⟩,⟨w4.heap.size,0,[Ax BC,Ax Cb,Ax De,Ax BU].flatten,56,true⟩,⟨m.heap.size,0,Ax s,56,true⟩] K7 [(3,0)] fun w8 K8=>?_
  refine BK K8 j 0 rfl (args:=[.pointer (some ⟨b,0,none⟩),.int .i64 6]) (BR b ns 6 _ (K8.tapeOk j 0 rfl) (by omega) (by omega)) BX.ok fun e w9 hq K9=>?_
  obtain ⟨k9,s0,rfl,_,_⟩:=hq
  refine ⟨_,rfl,?_⟩
  have b0:Wk w0 w9 [⟨w.heap.size,0,Ax t,56,true⟩,⟨w.heap.size + 1,0,AX BM none 0,53,true⟩,⟨m.heap.size,0,Ax s,56,true⟩] [BF w0 b ns,Bh b w] []:=K9.pk [0,1,3] [0,1]
  have v:∀ s∈EG,∀ u,Be b ns u→Calls Tryz.prog 16 ([.pointer (some ⟨b,0,none⟩),.agg ⟨Ax s⟩,.int .i64 ((h + 1:Nat):Int),.int .i64 n]:List Value).toArray u (LD b ns n (h + 1) s u):=fun s hs u hu=>vS b ns n h s hs (by omega) u hu
  refine AB Vx b0 [] fun r0 b0=>?_
  refine AU [(0,.pointer (some ⟨b,0,none⟩)),(3,.int .i64 n),(5,.pointer (some ⟨w.heap.size,0,none⟩)),(8,.pointer (some ⟨w.heap.size + 1,0,none⟩)),(9,.int .i64 (IntKind.i64.wrap (((h + 1 + 1:Nat):Int) - 1))),(10,.pointer (some ⟨m.heap.size,0,none⟩)),(35,.bool ((k9:Int) == 5))] fun x0=>?_
  rw [show IntKind.i64.wrap (((h + 1 + 1:Nat):Int) - 1)=((h + 1:Nat):Int) by rw [IntWalk.i64_in _ (by omega)]; omega]
  refine AG ((k9:Int) == 5) (fun _=>?_) (fun _=>?_)
  ·skip
   refine AB Vw b0 [] fun v9 o=>?_
   refine AU [(0,.pointer (some ⟨b,0,none⟩)),(3,.int .i64 n),(5,.pointer (some ⟨w.heap.size,0,none⟩)),(8,.pointer (some ⟨w.heap.size + 1,0,none⟩)),(9,.int .i64 ((h + 1:Nat):Int)),(10,.pointer (some ⟨m.heap.size,0,none⟩))] fun y=>?_
   exact AEk j p h5 hs v (fun _ _ i=>i) o
  refine AB Vv b0 [(0,0)] fun q0 l0=>?_
  refine AG t.1 (fun ht=>?_) (fun ht=>?_)
  ·have z:t=DG:=by
    simp only [EG,List.mem_cons,List.not_mem_nil,or_false] at h5
    rcases h5 with rfl | rfl | rfl | rfl | rfl
    ·cases ht
    ·cases ht
    ·cases ht
    ·cases ht
    rfl
   refine AB kW l0 [] fun p0 a0=>?_
   refine BK a0 j 0 rfl (args:=[.pointer (some ⟨b,0,none⟩),.int .i64 6]) (BR b ns 6 _ (a0.tapeOk j 0 rfl) (by omega) (by omega)) BX.ok fun e m0 hq e0=>?_
   obtain ⟨l,k0,rfl,_,_⟩:=hq
   refine ⟨_,rfl,?_⟩
   refine AB kV e0 [] fun f d=>?_
   refine AG ((l:Int) == 0) (fun hz=>?_) (fun _=>?_)
   ·refine AB Qf d [] fun f d=>?_
    refine AG ((l:Int) == 0) (fun _=>?_) (fun hn=>by rw [hz] at hn; cases hn)
    refine AB Qe d [] fun v9 o=>?_
    refine AU [(0,.pointer (some ⟨b,0,none⟩)),(3,.int .i64 n),(5,.pointer (some ⟨w.heap.size,0,none⟩)),(8,.pointer (some ⟨w.heap.size + 1,0,none⟩)),(9,.int .i64 ((h + 1:Nat):Int)),(10,.pointer (some ⟨m.heap.size,0,none⟩))] fun y=>?_
    exact me j p h5 hs v (fun _ _ i=>i) o z
   refine AB Qf d [] fun f d=>?_
   refine AG ((l:Int) == 1) (fun _=>?_) (fun _=>?_)
   ·skip
    refine AB Qe d [] fun v9 o=>?_
    refine AU [(0,.pointer (some ⟨b,0,none⟩)),(3,.int .i64 n),(5,.pointer (some ⟨w.heap.size,0,none⟩)),(8,.pointer (some ⟨w.heap.size + 1,0,none⟩)),(9,.int .i64 ((h + 1:Nat):Int)),(10,.pointer (some ⟨m.heap.size,0,none⟩))] fun y=>?_
    exact me j p h5 hs v (fun _ _ i=>i) o z
   refine AB Vu d [] fun f d=>?_
   refine AG ((l:Int) == 2) (fun _=>?_) (fun _=>?_)
   ·skip
    refine AB Vt d [] fun v9 o=>?_
    refine AU [(0,.pointer (some ⟨b,0,none⟩)),(3,.int .i64 n),(5,.pointer (some ⟨w.heap.size,0,none⟩)),(8,.pointer (some ⟨w.heap.size + 1,0,none⟩)),(9,.int .i64 ((h + 1:Nat):Int)),(10,.pointer (some ⟨m.heap.size,0,none⟩))] fun y=>?_
    exact ABa j p h5 hs v (fun _ _ i=>i) o z
   refine AB Vs d [] fun f d=>?_
   refine AG ((l:Int) == 3) (fun _=>?_) (fun _=>?_)
   ·skip
    refine AB Vr d [] fun v9 o=>?_
    refine AU [(0,.pointer (some ⟨b,0,none⟩)),(3,.int .i64 n),(5,.pointer (some ⟨w.heap.size,0,none⟩)),(8,.pointer (some ⟨w.heap.size + 1,0,none⟩)),(9,.int .i64 ((h + 1:Nat):Int)),(10,.pointer (some ⟨m.heap.size,0,none⟩))] fun y=>?_
    exact AEj j p h5 hs v (fun _ _ i=>i) o z
   refine AB Qd d [] fun f d=>?_
   refine AG ((l:Int) == 4) (fun _=>?_) (fun _=>?_)
   ·skip
    refine AU [(0,.pointer (some ⟨b,0,none⟩)),(3,.int .i64 n),(5,.pointer (some ⟨w.heap.size,0,none⟩)),(8,.pointer (some ⟨w.heap.size + 1,0,none⟩)),(9,.int .i64 ((h + 1:Nat):Int)),(10,.pointer (some ⟨m.heap.size,0,none⟩))] fun y=>?_
    exact ABS j p h5 hs v (fun _ _ i=>i) d z
   refine AB Vq d [] fun v9 o=>?_
   refine AU [(0,.pointer (some ⟨b,0,none⟩)),(3,.int .i64 n),(5,.pointer (some ⟨w.heap.size,0,none⟩)),(8,.pointer (some ⟨w.heap.size + 1,0,none⟩)),(9,.int .i64 ((h + 1:Nat):Int)),(10,.pointer (some ⟨m.heap.size,0,none⟩))] fun y=>?_
   exact ABY j p h5 hs v (fun _ _ i=>i) o z
  refine AB kU l0 [] fun p0 a0=>?_
  refine BK a0 j 0 rfl (args:=[.pointer (some ⟨b,0,none⟩),.int .i64 8]) (BR b ns 8 _ (a0.tapeOk j 0 rfl) (by omega) (by omega)) BX.ok fun e m0 hq e0=>?_
  obtain ⟨l,k0,rfl,_,_⟩:=hq
  refine ⟨_,rfl,?_⟩
  refine AB kT e0 [] fun f d=>?_
  refine AG ((l:Int) == 0) (fun hz=>?_) (fun _=>?_)
  ·refine AB Qc d [] fun f d=>?_
   refine AG ((l:Int) == 0) (fun _=>?_) (fun hn=>by rw [hz] at hn; cases hn)
   refine AB Qb d [] fun v9 o=>?_
   refine AU [(0,.pointer (some ⟨b,0,none⟩)),(3,.int .i64 n),(5,.pointer (some ⟨w.heap.size,0,none⟩)),(8,.pointer (some ⟨w.heap.size + 1,0,none⟩)),(9,.int .i64 ((h + 1:Nat):Int)),(10,.pointer (some ⟨m.heap.size,0,none⟩))] fun y=>?_
   exact mf j p h5 hs v (fun _ _ i=>i) o ht
  refine AB Qc d [] fun f d=>?_
  refine AG ((l:Int) == 1) (fun _=>?_) (fun _=>?_)
  ·skip
   refine AB Qb d [] fun v9 o=>?_
   refine AU [(0,.pointer (some ⟨b,0,none⟩)),(3,.int .i64 n),(5,.pointer (some ⟨w.heap.size,0,none⟩)),(8,.pointer (some ⟨w.heap.size + 1,0,none⟩)),(9,.int .i64 ((h + 1:Nat):Int)),(10,.pointer (some ⟨m.heap.size,0,none⟩))] fun y=>?_
   exact mf j p h5 hs v (fun _ _ i=>i) o ht
  refine AB Vp d [] fun f d=>?_
  refine AG ((l:Int) == 2) (fun _=>?_) (fun _=>?_)
  ·skip
   refine AB Vo d [] fun v9 o=>?_
   refine AU [(0,.pointer (some ⟨b,0,none⟩)),(3,.int .i64 n),(5,.pointer (some ⟨w.heap.size,0,none⟩)),(8,.pointer (some ⟨w.heap.size + 1,0,none⟩)),(9,.int .i64 ((h + 1:Nat):Int)),(10,.pointer (some ⟨m.heap.size,0,none⟩))] fun y=>?_
   exact ABW j p h5 hs v (fun _ _ i=>i) o ht
  refine AB Vn d [] fun f d=>?_
  refine AG ((l:Int) == 3) (fun _=>?_) (fun _=>?_)
  ·skip
   refine AB Vm d [] fun v9 o=>?_
   refine AU [(0,.pointer (some ⟨b,0,none⟩)),(3,.int .i64 n),(5,.pointer (some ⟨w.heap.size,0,none⟩)),(8,.pointer (some ⟨w.heap.size + 1,0,none⟩)),(9,.int .i64 ((h + 1:Nat):Int)),(10,.pointer (some ⟨m.heap.size,0,none⟩))] fun y=>?_
   exact ABQ j p h5 hs v (fun _ _ i=>i) o ht
  refine AB Qa d [] fun f d=>?_
  refine AG ((l:Int) == 4) (fun _=>?_) (fun _=>?_)
  ·skip
   refine AU [(0,.pointer (some ⟨b,0,none⟩)),(3,.int .i64 n),(5,.pointer (some ⟨w.heap.size,0,none⟩)),(8,.pointer (some ⟨w.heap.size + 1,0,none⟩)),(9,.int .i64 ((h + 1:Nat):Int)),(10,.pointer (some ⟨m.heap.size,0,none⟩))] fun y=>?_
   exact ABT j p h5 hs v (fun _ _ i=>i) d ht
  refine AB Vl d [] fun f d=>?_
  refine AG ((l:Int) == 5) (fun _=>?_) (fun _=>?_)
  ·skip
   refine AB Vk d [] fun v9 o=>?_
   refine AU [(0,.pointer (some ⟨b,0,none⟩)),(3,.int .i64 n),(5,.pointer (some ⟨w.heap.size,0,none⟩)),(8,.pointer (some ⟨w.heap.size + 1,0,none⟩)),(9,.int .i64 ((h + 1:Nat):Int)),(10,.pointer (some ⟨m.heap.size,0,none⟩))] fun y=>?_
   exact ABU j p h5 hs v (fun _ _ i=>i) o ht
  refine AB Vj d [(0,0)] fun f d=>?_
  refine AP d (args:=[]) (Gg _) fun f d=>?_
  refine Ak Ei kS d [] fun f d=>?_
  refine DN (DD (k:=.eql) (T:=56) (a:=.agg ⟨Ax t⟩) (b:=.agg ⟨Ax Cb⟩) (EL _ _ _ _ _ _ _ _ _)) ?_
  refine AB QZ d [] fun f d=>?_
  refine AG (Hc t Cb) (fun cm=>?_) (fun cm=>?_)
  ·skip
   refine AU [(0,.pointer (some ⟨b,0,none⟩)),(3,.int .i64 n),(5,.pointer (some ⟨w.heap.size,0,none⟩)),(8,.pointer (some ⟨w.heap.size + 1,0,none⟩)),(9,.int .i64 ((h + 1:Nat):Int)),(10,.pointer (some ⟨m.heap.size,0,none⟩))] fun y=>?_
   exact ABV j p h5 hs v (fun _ _ i=>i) d (Il cm)
  refine AB Vi d [] fun f d=>?_
  refine AP d (args:=[]) (Gf _) fun f d=>?_
  refine Ak Ei kR d [] fun f d=>?_
  refine DN (DD (k:=.eql) (T:=56) (a:=.agg ⟨Ax t⟩) (b:=.agg ⟨Ax BU⟩) (EL _ _ _ _ _ _ _ _ _)) ?_
  refine AB Vh d [] fun f d=>?_
  refine AG (Hc t BU) (fun cr=>?_) (fun cr=>?_)
  ·refine AB kQ d [] fun f d=>?_
   refine BK d j 0 rfl (args:=[.pointer (some ⟨b,0,none⟩),.int .i64 2]) (BR b ns 2 _ (d.tapeOk j 0 rfl) (by omega) (by omega)) BX.ok fun e c0 hq q=>?_
   obtain ⟨d0,j0,rfl,_,_⟩:=hq
   refine ⟨_,rfl,?_⟩
   refine AB NR q [] fun c0 q=>?_
   refine AG ((d0:Int) == 0) (fun _=>?_) (fun _=>?_)
   ·skip
    refine AU [(0,.pointer (some ⟨b,0,none⟩)),(3,.int .i64 n),(5,.pointer (some ⟨w.heap.size,0,none⟩)),(8,.pointer (some ⟨w.heap.size + 1,0,none⟩)),(9,.int .i64 ((h + 1:Nat):Int)),(10,.pointer (some ⟨m.heap.size,0,none⟩))] fun y=>?_
    exact ABO j p h5 hs v (fun _ _ i=>i) q (Il cr)
   refine AU [(0,.pointer (some ⟨b,0,none⟩)),(3,.int .i64 n),(5,.pointer (some ⟨w.heap.size,0,none⟩)),(8,.pointer (some ⟨w.heap.size + 1,0,none⟩)),(9,.int .i64 ((h + 1:Nat):Int)),(10,.pointer (some ⟨m.heap.size,0,none⟩))] fun y=>?_
   exact ABR j p h5 hs v (fun _ _ i=>i) q (Il cr)
  refine AB Vg d [] fun f d=>?_
  refine AP d (args:=[]) (Hb _) fun f d=>?_
  refine Ak Ei kP d [] fun f d=>?_
  refine DN (DD (k:=.eql) (T:=56) (a:=.agg ⟨Ax t⟩) (b:=.agg ⟨Ax BC⟩) (EL _ _ _ _ _ _ _ _ _)) ?_
  refine AB QY d [] fun f d=>?_
  refine AG (Hc t BC) (fun cn=>?_) (fun cn=>?_)
  ·refine AB kO d [] fun f d=>?_
   refine BK d j 0 rfl (args:=[.pointer (some ⟨b,0,none⟩),.int .i64 2]) (BR b ns 2 _ (d.tapeOk j 0 rfl) (by omega) (by omega)) BX.ok fun e c0 hq q=>?_
   obtain ⟨d0,j0,rfl,_,_⟩:=hq
   refine ⟨_,rfl,?_⟩
   refine AB QX q [] fun c0 q=>?_
   refine AG ((d0:Int) == 0) (fun _=>?_) (fun _=>?_)
   ·skip
    refine AU [(0,.pointer (some ⟨b,0,none⟩)),(3,.int .i64 n),(5,.pointer (some ⟨w.heap.size,0,none⟩)),(8,.pointer (some ⟨w.heap.size + 1,0,none⟩)),(9,.int .i64 ((h + 1:Nat):Int)),(10,.pointer (some ⟨m.heap.size,0,none⟩))] fun y=>?_
    exact ABP j p h5 hs v (fun _ _ i=>i) q (Il cn)
   refine AB Vf q [] fun v9 o=>?_
   refine AU [(0,.pointer (some ⟨b,0,none⟩)),(3,.int .i64 n),(5,.pointer (some ⟨w.heap.size,0,none⟩)),(8,.pointer (some ⟨w.heap.size + 1,0,none⟩)),(9,.int .i64 ((h + 1:Nat):Int)),(10,.pointer (some ⟨m.heap.size,0,none⟩))] fun y=>?_
   exact ABZ j p h5 hs v (fun _ _ i=>i) o (Il cn)
  have i:t=De:=by
   simp only [EG,List.mem_cons,List.not_mem_nil,or_false] at h5
   rcases h5 with rfl | rfl | rfl | rfl | rfl
   ·cases cn
   ·cases cm
   ·rfl
   ·cases cr
   cases ht
  refine AU [(0,.pointer (some ⟨b,0,none⟩)),(3,.int .i64 n),(5,.pointer (some ⟨w.heap.size,0,none⟩)),(8,.pointer (some ⟨w.heap.size + 1,0,none⟩)),(9,.int .i64 ((h + 1:Nat):Int)),(10,.pointer (some ⟨m.heap.size,0,none⟩))] fun y=>?_
  exact ABX j p h5 hs v (fun _ _ i=>i) d i
end
end Go.Proofs.YtkjbdagicjbjjaaGreat

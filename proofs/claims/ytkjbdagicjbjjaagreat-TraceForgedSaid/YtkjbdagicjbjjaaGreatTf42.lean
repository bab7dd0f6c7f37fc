/-
  Part 42 of a proof: contracts of functions.
-/
import Derived.Test.YtkjbdagicjbjjaaGreatTf41
set_option linter.all false
namespace Go.Proofs.YtkjbdagicjbjjaaGreat
noncomputable section
open Go.RowKit
set_option maxRecDepth 100000
set_option maxHeartbeats 2000000
attribute [local irreducible] A8 BL AC AD AF Ao AY AL Aq Bb Cn BR GR Dx Cm BK At Fr
noncomputable def Qy:Code:=Tryz.f16.body.getD .skip
def qH:=AA 60 [.code Qy]
def PL:=AA 60 (AC qH)
def qG:=AA 60 (AD PL)
def AAx:=AA 60 (AC qG)
def qF:=AA 60 (AF PL)
def AAw:=AC qF
def AAv:=AC AAw
def AAu:=AC AAv
def aQ:=AA 60 (AC AAu)
def qE:=AA (Ak (Aa) 90 (AC aQ)) (AC aQ)
def iU:=AA 60 (AC (AC qE))
def UY:=AA 60 (AC iU)
def UX:=AA 60 (AD UY)
def UW:=AA 60 (AF UY)
def iT:=AA 60 (AD UW)
def iS:=AA 60 (AC iT)
def PK:=AA 60 (AF iS)
def PJ:=AA 60 (AD PK)
def UV:=AA 60 (AF PK)
def UU:=AA 60 (AD UV)
def UT:=AA 60 (AF UV)
def US:=AA 60 (AD UT)
def PI:=AA 60 (AF UT)
def UR:=AA 60 (AF PI)
def iR:=AA 60 (AF UW)
def iQ:=AA 60 (AC iR)
def PH:=AA 60 (AF iQ)
def PG:=AA 60 (AD PH)
def UQ:=AA 60 (AF PH)
def UP:=AA 60 (AD UQ)
def UO:=AA 60 (AF UQ)
def UN:=AA 60 (AD UO)
def PF:=AA 60 (AF UO)
def UM:=AA 60 (AF PF)
def UL:=AA 60 (AD UM)
def UK:=AA 60 (AF UM)
def iP:=AA (Ak (EO) 90 (AC UK)) (AC UK)
def PE:=AA 60 (AC iP)
def UJ:=AA 60 (AF PE)
def iO:=AA (Ak (EO) 90 (AC UJ)) (AC UJ)
def UI:=AA 60 (AC iO)
def iN:=AA 60 (AD UI)
def MU:=AA 60 (AC iN)
def UH:=AA 60 (AF UI)
def iK:=AA (Ak (EO) 90 (AC UH)) (AC UH)
def PD:=AA 60 (AC iK)
def iJ:=AA 60 (AD PD)
def PC:=AA 60 (AC iJ)
def UG:=AA 60 (AF PC)
def vU:=AA 60 (AL UX)
def vT:=AA 60 (AL PJ)
def vS:=AA 60 (AL UU)
def vQ:=AA 60 (AL US)
def vP:=AA 60 (AL UR)
def vO:=AA 60 (AL PG)
def vN:=AA 60 (AL UP)
def vM:=AA 60 (AL UN)
def vL:=AA 60 (AL UL)
def vK:=AA 60 (AL UG)
def iI:=AA 60 (AD PI)
def vJ:=AA 60 (AC iI)
def iH:=AA 60 (AD PF)
def vI:=AA 60 (AC iH)
def iG:=AA 60 (AD PE)
def iF:=AA 60 (AC iG)
def iE:=AA 60 (AC iF)
def iD:=AA 60 (AC iE)
def iC:=AA 60 (AC iD)
def vH:=AA 60 (AC iC)
def iB:=AA 60 (AD MU)
def hZ:=AA 60 (AC iB)
def vG:=AA 60 (AC hZ)
def hY:=AA 60 (AF MU)
def hJ:=AA 60 (AC hY)
def g8:=AA 60 (AC hJ)
def g7:=AA 60 (AC g8)
def gz:=AA 60 (AC g7)
def vF:=AA 60 (AC gz)
def gy:=AA 60 (AD PC)
def gx:=AA 60 (AC gy)
def vE:=AA 60 (AC gx)
def gv:=AA 60 (AF PD)
def gt:=AA 60 (AC gv)
def gr:=AA 60 (AC gt)
def gl:=AA 60 (AC gr)
def gj:=AA 60 (AC gl)
def vD:=AA 60 (AC gj)
abbrev IL (t s:Ty) (w:World) (sB:Nat) (r:List Value):List Az:=[⟨w.heap.size,0,Av t,56,true⟩,⟨w.heap.size + 1,0,r,53,true⟩,⟨sB,0,Av s,56,true⟩]
abbrev I4 (b:Nat) (n:Int) (w:World) (h sB:Nat):List (Nat×Value):=[(0,BY b),(3,AI n),(5,BY (w.heap.size)),(8,BY (w.heap.size + 1)),(9,AI ((h + 1:Nat):Int)),(10,BY sB)]
set_option linter.unusedSectionVars false
section
variable {R:Ending→World→Prop} {b:Nat} {ns:List Int} {n:Int} {h:Nat} {t s:Ty} {w w0 w1:World} {sB:Nat} {E:Nat→Value} (h0:w0.heap.size=b) (hw:Below w0.heap.size w0 w) (h5:t∈JJ) (hs:s∈RH) (IH:∀ s∈JJ,∀ u,BW b ns u→Calls Tryz.prog 16 ([BY b,.agg ⟨Av s⟩,AI ((h + 1:Nat):Int),AI n]:List Value).toArray u (KI b ns n (h + 1) s u)) (hR:∀ e w',KI b ns n (h + 2) t w e w'→R e w') (K:Wk w0 w1 (IL t s w sB (AW BO none 0)) [BH w0 b ns,Bj b w] [])
include h0 hw h5 hs IH hR K
theorem yu (ht:t=DX):At Tryz.prog 16 R UU (Fr 275 (BC E (I4 b n w h sB))) w1:=by
 have hb:b < w1.heap.size:=(K.tapeOk h0 0 rfl).lt
 refine Ee K h0 0 rfl [0,1,2,3,4,5,6,7,8,9] (IL t s w sB (AW BO none 0)) [(1,0,0),(6,0,0)] [(4,Bv w1.heap.size n (h + 1) t),(9,Bv w1.heap.size n (h + 1) t)] 2 (fun u hu=>hu.G) (fun p f=>?_) (fun p f X u hu a hf=>?_) fun X u hu a hf=>?_
 ·simp only [List.mem_cons,List.not_mem_nil,or_false] at f
  rcases f with rfl | rfl
  ·exact Bv.but hb
  ·exact Bv.but hb
 ·have o:=hu.tapeOk h0 0 rfl
  simp only [List.mem_cons,List.not_mem_nil,or_false] at f
  rcases f with rfl | rfl
  ·exact Bn (xs:=[.tmp 76,.tmp 77,.tmp 78,.tmp 79]) (args:=[BY b,.agg ⟨Av t⟩,AI ((h + 1:Nat):Int),AI n]) ((IH t h5 u o).mono fun e w' i=>Dr a.size i) rfl
  ·exact Bn (xs:=[.tmp 81,.tmp 82,.tmp 83,.tmp 84]) (args:=[BY b,.agg ⟨Av t⟩,AI ((h + 1:Nat):Int),AI n]) ((IH t h5 u o).mono fun e w' i=>Dr a.size i) rfl
 obtain ⟨x,m,k,e1,g1,v⟩:Bv w1.heap.size n (h + 1) t (X 4) u:=hf 4 (by simp) rfl
 obtain ⟨y,l,j,e2,g2,r⟩:Bv w1.heap.size n (h + 1) t (X 9) u:=hf 9 (by simp) rfl
 refine CI [(8,BY (w.heap.size + 1)),(80,X 4),(85,X 9)] fun E2=>?_
 rw [e1,e2]
 have K3:=K.trees hu a.size [(x,AW x m k),(y,AW y l j)] (by simp [v,r])
 refine GD 10 32 [.const (AI 12),.tmp 80,.tmp 85] [AI 12,.agg ⟨AW x m k⟩,.agg ⟨AW y l j⟩] ((Jf 12 x y m l k j u).mono fun e w' i=>?_)
 obtain ⟨g,rfl,bt,q⟩:=i
 have hg:=(q.lo 0 _ rfl g rfl).1
 have K4:=K3.join bt q
 refine ⟨_,rfl,Dv K4 [(11,1,0)] (fun _=>(IL t s w sB (AW (.mk 12 0 0 0 0 0 [] 0 0 [x,y]) (IN g) 2))) fun z w5 K5=>?_⟩
 refine AB vS K5 [] fun w6 c=>?_
 have d:=(K.out h0 hw).2.size
 exact AJ c (1,0) (.agg ⟨AW (.mk 12 0 0 0 0 0 [] 0 0 [x,y]) (IN g) 2⟩) (hR _ _ (.node (xs:=[(x,AW x m k),(y,AW y l j)]) (.two (h + 1) 12 t t t x y (.inr (.inl ⟨by decide,ht,ht,ht⟩)) g1 g2) rfl (Eo.ex (c.H.all (c.ix 2) _ (c.at 2 rfl)) d) (Nat.le_trans d (Nat.le_trans a.size hg)) (c.H.all (c.ix 3) _ (c.at 3 rfl)) (c.out h0 hw)))
theorem ACA (ht:t=DX):At Tryz.prog 16 R US (Fr 275 (BC E (I4 b n w h sB))) w1:=by
 have hb:b < w1.heap.size:=(K.tapeOk h0 0 rfl).lt
 refine Ee K h0 0 rfl [0,1,2,3,4,5,6,7,8,9] (IL t s w sB (AW BO none 0)) [(1,0,0),(6,0,0)] [(4,Bv w1.heap.size n (h + 1) t),(9,Bv w1.heap.size n (h + 1) t)] 2 (fun u hu=>hu.G) (fun p f=>?_) (fun p f X u hu a hf=>?_) fun X u hu a hf=>?_
 ·simp only [List.mem_cons,List.not_mem_nil,or_false] at f
  rcases f with rfl | rfl
  ·exact Bv.but hb
  ·exact Bv.but hb
 ·have o:=hu.tapeOk h0 0 rfl
  simp only [List.mem_cons,List.not_mem_nil,or_false] at f
  rcases f with rfl | rfl
  ·exact Bn (xs:=[.tmp 89,.tmp 90,.tmp 91,.tmp 92]) (args:=[BY b,.agg ⟨Av t⟩,AI ((h + 1:Nat):Int),AI n]) ((IH t h5 u o).mono fun e w' i=>Dr a.size i) rfl
  ·exact Bn (xs:=[.tmp 94,.tmp 95,.tmp 96,.tmp 97]) (args:=[BY b,.agg ⟨Av t⟩,AI ((h + 1:Nat):Int),AI n]) ((IH t h5 u o).mono fun e w' i=>Dr a.size i) rfl
 obtain ⟨x,m,k,e1,g1,v⟩:Bv w1.heap.size n (h + 1) t (X 4) u:=hf 4 (by simp) rfl
 obtain ⟨y,l,j,e2,g2,r⟩:Bv w1.heap.size n (h + 1) t (X 9) u:=hf 9 (by simp) rfl
 refine CI [(8,BY (w.heap.size + 1)),(93,X 4),(98,X 9)] fun E2=>?_
 rw [e1,e2]
 have K3:=K.trees hu a.size [(x,AW x m k),(y,AW y l j)] (by simp [v,r])
 refine GD 10 32 [.const (AI 13),.tmp 93,.tmp 98] [AI 13,.agg ⟨AW x m k⟩,.agg ⟨AW y l j⟩] ((Jf 13 x y m l k j u).mono fun e w' i=>?_)
 obtain ⟨g,rfl,bt,q⟩:=i
 have hg:=(q.lo 0 _ rfl g rfl).1
 have K4:=K3.join bt q
 refine ⟨_,rfl,Dv K4 [(11,1,0)] (fun _=>(IL t s w sB (AW (.mk 13 0 0 0 0 0 [] 0 0 [x,y]) (IN g) 2))) fun z w5 K5=>?_⟩
 refine AB vQ K5 [] fun w6 c=>?_
 have d:=(K.out h0 hw).2.size
 exact AJ c (1,0) (.agg ⟨AW (.mk 13 0 0 0 0 0 [] 0 0 [x,y]) (IN g) 2⟩) (hR _ _ (.node (xs:=[(x,AW x m k),(y,AW y l j)]) (.two (h + 1) 13 t t t x y (.inr (.inl ⟨by decide,ht,ht,ht⟩)) g1 g2) rfl (Eo.ex (c.H.all (c.ix 2) _ (c.at 2 rfl)) d) (Nat.le_trans d (Nat.le_trans a.size hg)) (c.H.all (c.ix 3) _ (c.at 3 rfl)) (c.out h0 hw)))
theorem yr (ht:t=DX):At Tryz.prog 16 R UR (Fr 275 (BC E (I4 b n w h sB))) w1:=by
 have hb:b < w1.heap.size:=(K.tapeOk h0 0 rfl).lt
 refine Ee K h0 0 rfl [0,1,2,3,4,5,6,7,8,9] (IL t s w sB (AW BO none 0)) [(1,0,0),(6,0,0)] [(4,Bv w1.heap.size n (h + 1) t),(9,Bv w1.heap.size n (h + 1) t)] 2 (fun u hu=>hu.G) (fun p f=>?_) (fun p f X u hu a hf=>?_) fun X u hu a hf=>?_
 ·simp only [List.mem_cons,List.not_mem_nil,or_false] at f
  rcases f with rfl | rfl
  ·exact Bv.but hb
  ·exact Bv.but hb
 ·have o:=hu.tapeOk h0 0 rfl
  simp only [List.mem_cons,List.not_mem_nil,or_false] at f
  rcases f with rfl | rfl
  ·exact Bn (xs:=[.tmp 109,.tmp 110,.tmp 111,.tmp 112]) (args:=[BY b,.agg ⟨Av t⟩,AI ((h + 1:Nat):Int),AI n]) ((IH t h5 u o).mono fun e w' i=>Dr a.size i) rfl
  ·exact Bn (xs:=[.tmp 114,.tmp 115,.tmp 116,.tmp 117]) (args:=[BY b,.agg ⟨Av t⟩,AI ((h + 1:Nat):Int),AI n]) ((IH t h5 u o).mono fun e w' i=>Dr a.size i) rfl
 obtain ⟨x,m,k,e1,g1,v⟩:Bv w1.heap.size n (h + 1) t (X 4) u:=hf 4 (by simp) rfl
 obtain ⟨y,l,j,e2,g2,r⟩:Bv w1.heap.size n (h + 1) t (X 9) u:=hf 9 (by simp) rfl
 refine CI [(8,BY (w.heap.size + 1)),(113,X 4),(118,X 9)] fun E2=>?_
 rw [e1,e2]
 have K3:=K.trees hu a.size [(x,AW x m k),(y,AW y l j)] (by simp [v,r])
 refine GD 10 32 [.const (AI 11),.tmp 113,.tmp 118] [AI 11,.agg ⟨AW x m k⟩,.agg ⟨AW y l j⟩] ((Jf 11 x y m l k j u).mono fun e w' i=>?_)
 obtain ⟨g,rfl,bt,q⟩:=i
 have hg:=(q.lo 0 _ rfl g rfl).1
 have K4:=K3.join bt q
 refine ⟨_,rfl,Dv K4 [(11,1,0)] (fun _=>(IL t s w sB (AW (.mk 11 0 0 0 0 0 [] 0 0 [x,y]) (IN g) 2))) fun z w5 K5=>?_⟩
 refine AB vP K5 [] fun w6 c=>?_
 have d:=(K.out h0 hw).2.size
 exact AJ c (1,0) (.agg ⟨AW (.mk 11 0 0 0 0 0 [] 0 0 [x,y]) (IN g) 2⟩) (hR _ _ (.node (xs:=[(x,AW x m k),(y,AW y l j)]) (.two (h + 1) 11 t t t x y (.inr (.inl ⟨by decide,ht,ht,ht⟩)) g1 g2) rfl (Eo.ex (c.H.all (c.ix 2) _ (c.at 2 rfl)) d) (Nat.le_trans d (Nat.le_trans a.size hg)) (c.H.all (c.ix 3) _ (c.at 3 rfl)) (c.out h0 hw)))
theorem yt (ht:t=Bf):At Tryz.prog 16 R UG (Fr 275 (BC E (I4 b n w h sB))) w1:=by
 have hb:b < w1.heap.size:=(K.tapeOk h0 0 rfl).lt
 refine Ee K h0 0 rfl [0,1,2,3,4,5,6,7,8,9] (IL t s w sB (AW BO none 0)) [(1,2,0),(6,2,0)] [(4,Bv w1.heap.size n (h + 1) s),(9,Bv w1.heap.size n (h + 1) s)] 2 (fun u hu=>hu.G) (fun p f=>?_) (fun p f X u hu a hf=>?_) fun X u hu a hf=>?_
 ·simp only [List.mem_cons,List.not_mem_nil,or_false] at f
  rcases f with rfl | rfl
  ·exact Bv.but hb
  ·exact Bv.but hb
 ·have o:=hu.tapeOk h0 0 rfl
  simp only [List.mem_cons,List.not_mem_nil,or_false] at f
  rcases f with rfl | rfl
  ·exact Bn (xs:=[.tmp 253,.tmp 254,.tmp 255,.tmp 256]) (args:=[BY b,.agg ⟨Av s⟩,AI ((h + 1:Nat):Int),AI n]) ((IH s (Yt hs) u o).mono fun e w' i=>Dr a.size i) rfl
  ·exact Bn (xs:=[.tmp 258,.tmp 259,.tmp 260,.tmp 261]) (args:=[BY b,.agg ⟨Av s⟩,AI ((h + 1:Nat):Int),AI n]) ((IH s (Yt hs) u o).mono fun e w' i=>Dr a.size i) rfl
 obtain ⟨x,m,k,e1,g1,v⟩:Bv w1.heap.size n (h + 1) s (X 4) u:=hf 4 (by simp) rfl
 obtain ⟨y,l,j,e2,g2,r⟩:Bv w1.heap.size n (h + 1) s (X 9) u:=hf 9 (by simp) rfl
 refine CI [(8,BY (w.heap.size + 1)),(257,X 4),(262,X 9)] fun E2=>?_
 rw [e1,e2]
 have K3:=K.trees hu a.size [(x,AW x m k),(y,AW y l j)] (by simp [v,r])
 refine GD 10 32 [.const (AI 8),.tmp 257,.tmp 262] [AI 8,.agg ⟨AW x m k⟩,.agg ⟨AW y l j⟩] ((Jf 8 x y m l k j u).mono fun e w' i=>?_)
 obtain ⟨g,rfl,bt,q⟩:=i
 have hg:=(q.lo 0 _ rfl g rfl).1
 have K4:=K3.join bt q
 refine ⟨_,rfl,Dv K4 [(11,1,0)] (fun _=>(IL t s w sB (AW (.mk 8 0 0 0 0 0 [] 0 0 [x,y]) (IN g) 2))) fun z w5 K5=>?_⟩
 refine AB vK K5 [] fun w6 c=>?_
 have d:=(K.out h0 hw).2.size
 exact AJ c (1,0) (.agg ⟨AW (.mk 8 0 0 0 0 0 [] 0 0 [x,y]) (IN g) 2⟩) (hR _ _ (.node (xs:=[(x,AW x m k),(y,AW y l j)]) (.two (h + 1) 8 t s s x y (.inr (.inr (.inr (.inr (.inr (.inr (.inl ⟨rfl,ht,rfl,hs⟩))))))) g1 g2) rfl (Eo.ex (c.H.all (c.ix 2) _ (c.at 2 rfl)) d) (Nat.le_trans d (Nat.le_trans a.size hg)) (c.H.all (c.ix 3) _ (c.at 3 rfl)) (c.out h0 hw)))
theorem kI (ht:t=DX):At Tryz.prog 16 R PJ (Fr 275 (BC E (I4 b n w h sB))) w1:=by
 have hb:b < w1.heap.size:=(K.tapeOk h0 0 rfl).lt
 refine Ee K h0 0 rfl [0,1,2,3,4,5,6,7,8,9,10,11,12] (IL t s w sB (AW BO none 0)) [(4,2,0),(9,2,0)] [(1,FF b [AI 9,AI 10,AI 11] 3 3),(2,KP [9,10,11]),(7,Bv w1.heap.size n (h + 1) s),(12,Bv w1.heap.size n (h + 1) s)] 2 (fun u hu=>hu.G) (fun p f=>?_) (fun p f X u hu a hf=>?_) fun X u hu a hf=>?_
 ·simp only [List.mem_cons,List.not_mem_nil,or_false] at f
  rcases f with rfl | rfl | rfl | rfl
  ·exact FF.but
  ·exact fun _ _ _ _ h=>h
  ·exact Bv.but hb
  ·exact Bv.but hb
 ·have j:=hu.tapeOk h0 0 rfl
  simp only [List.mem_cons,List.not_mem_nil,or_false] at f
  rcases f with rfl | rfl | rfl | rfl
  ·exact HE (fun z=>.slice (IN z) 3 3) [AI 9,AI 10,AI 11] 3 (fun w' hB hg=>⟨j.below hB,.of_below hB,u.heap.size,rfl,Nat.ne_of_gt j.lt,hg⟩) (by intro z; kernel_rfl)
  ·obtain ⟨g,v,r,q⟩:FF b [AI 9,AI 10,AI 11] 3 3 (X 1) u:=hf 1 (by kernel_rfl) rfl
   refine Bn (g:=33) (xs:=[.tmp 60,.tmp 61]) (args:=[BY b,X 1]) ?_ rfl
   rw [v]
   exact (In b ns g [9,10,11] 3 u j r (by decide) (by decide) q).mono fun e w' ⟨y,q1,q2,q3,q4⟩=>⟨_,q2,q3,q4,y,q1,rfl⟩
  ·exact Bn (xs:=[.tmp 63,.tmp 64,.tmp 65,.tmp 66]) (args:=[BY b,.agg ⟨Av s⟩,AI ((h + 1:Nat):Int),AI n]) ((IH s (Yt hs) u j).mono fun e w' i=>Dr a.size i) rfl
  ·exact Bn (xs:=[.tmp 68,.tmp 69,.tmp 70,.tmp 71]) (args:=[BY b,.agg ⟨Av s⟩,AI ((h + 1:Nat):Int),AI n]) ((IH s (Yt hs) u j).mono fun e w' i=>Dr a.size i) rfl
 obtain ⟨x,o,l,v,g1,t1⟩:Bv w1.heap.size n (h + 1) s (X 7) u:=hf 7 (by simp) rfl
 obtain ⟨y,m,k,r,g2,t2⟩:Bv w1.heap.size n (h + 1) s (X 12) u:=hf 12 (by simp) rfl
 obtain ⟨op,hop,q⟩:KP [9,10,11] (X 2) u:=hf 2 (by simp) rfl
 refine CI [(8,BY (w.heap.size + 1)),(62,X 2),(67,X 7),(72,X 12)] fun E2=>?_
 rw [v,r,q]
 have K3:=K.trees hu a.size [(x,AW x o l),(y,AW y m k)] (by simp [t1,t2])
 refine GD 13 32 [.tmp 62,.tmp 67,.tmp 72] [AI op,.agg ⟨AW x o l⟩,.agg ⟨AW y m k⟩] ((Jf op x y o m l k u).mono fun e w' i=>?_)
 obtain ⟨g,rfl,bt,Ht⟩:=i
 have hg:=(Ht.lo 0 _ rfl g rfl).1
 have K4:=K3.join bt Ht
 refine ⟨_,rfl,Dv K4 [(14,1,0)] (fun _=>(IL t s w sB (AW (.mk op 0 0 0 0 0 [] 0 0 [x,y]) (IN g) 2))) fun z w5 K5=>?_⟩
 refine AB vT K5 [] fun w6 c=>?_
 have d:=(K.out h0 hw).2.size
 exact AJ c (1,0) (.agg ⟨AW (.mk op 0 0 0 0 0 [] 0 0 [x,y]) (IN g) 2⟩) (hR _ _ (.node (xs:=[(x,AW x o l),(y,AW y m k)]) (.two (h + 1) op t s s x y (.inl ⟨by simpa using hop,ht,rfl,hs⟩) g1 g2) rfl (Eo.ex (c.H.all (c.ix 2) _ (c.at 2 rfl)) d) (Nat.le_trans d (Nat.le_trans a.size hg)) (c.H.all (c.ix 3) _ (c.at 3 rfl)) (c.out h0 hw)))
theorem kJ (ht:t.1=false):At Tryz.prog 16 R PG (Fr 275 (BC E (I4 b n w h sB))) w1:=by
 have hb:b < w1.heap.size:=(K.tapeOk h0 0 rfl).lt
 refine Ee K h0 0 rfl [0,1,2,3,4,5,6,7,8,9,10,11,12] (IL t s w sB (AW BO none 0)) [(4,0,0),(9,0,0)] [(1,FF b [AI 5,AI 6] 3 2),(2,KP [5,6]),(7,Bv w1.heap.size n (h + 1) t),(12,Bv w1.heap.size n (h + 1) t)] 2 (fun u hu=>hu.G) (fun p f=>?_) (fun p f X u hu a hf=>?_) fun X u hu a hf=>?_
 ·simp only [List.mem_cons,List.not_mem_nil,or_false] at f
  rcases f with rfl | rfl | rfl | rfl
  ·exact FF.but
  ·exact fun _ _ _ _ h=>h
  ·exact Bv.but hb
  ·exact Bv.but hb
 ·have j:=hu.tapeOk h0 0 rfl
  simp only [List.mem_cons,List.not_mem_nil,or_false] at f
  rcases f with rfl | rfl | rfl | rfl
  ·exact HE (fun z=>.slice (IN z) 2 2) [AI 5,AI 6] 3 (fun w' hB hg=>⟨j.below hB,.of_below hB,u.heap.size,rfl,Nat.ne_of_gt j.lt,hg⟩) (by intro z; kernel_rfl)
  ·obtain ⟨g,v,r,q⟩:FF b [AI 5,AI 6] 3 2 (X 1) u:=hf 1 (by kernel_rfl) rfl
   refine Bn (g:=33) (xs:=[.tmp 125,.tmp 126]) (args:=[BY b,X 1]) ?_ rfl
   rw [v]
   exact (In b ns g [5,6] 2 u j r (by decide) (by decide) q).mono fun e w' ⟨y,q1,q2,q3,q4⟩=>⟨_,q2,q3,q4,y,q1,rfl⟩
  ·exact Bn (xs:=[.tmp 128,.tmp 129,.tmp 130,.tmp 131]) (args:=[BY b,.agg ⟨Av t⟩,AI ((h + 1:Nat):Int),AI n]) ((IH t h5 u j).mono fun e w' i=>Dr a.size i) rfl
  ·exact Bn (xs:=[.tmp 133,.tmp 134,.tmp 135,.tmp 136]) (args:=[BY b,.agg ⟨Av t⟩,AI ((h + 1:Nat):Int),AI n]) ((IH t h5 u j).mono fun e w' i=>Dr a.size i) rfl
 obtain ⟨x,o,l,v,g1,t1⟩:Bv w1.heap.size n (h + 1) t (X 7) u:=hf 7 (by simp) rfl
 obtain ⟨y,m,k,r,g2,t2⟩:Bv w1.heap.size n (h + 1) t (X 12) u:=hf 12 (by simp) rfl
 obtain ⟨op,hop,q⟩:KP [5,6] (X 2) u:=hf 2 (by simp) rfl
 refine CI [(8,BY (w.heap.size + 1)),(127,X 2),(132,X 7),(137,X 12)] fun E2=>?_
 rw [v,r,q]
 have K3:=K.trees hu a.size [(x,AW x o l),(y,AW y m k)] (by simp [t1,t2])
 refine GD 13 32 [.tmp 127,.tmp 132,.tmp 137] [AI op,.agg ⟨AW x o l⟩,.agg ⟨AW y m k⟩] ((Jf op x y o m l k u).mono fun e w' i=>?_)
 obtain ⟨g,rfl,bt,Ht⟩:=i
 have hg:=(Ht.lo 0 _ rfl g rfl).1
 have K4:=K3.join bt Ht
 refine ⟨_,rfl,Dv K4 [(14,1,0)] (fun _=>(IL t s w sB (AW (.mk op 0 0 0 0 0 [] 0 0 [x,y]) (IN g) 2))) fun z w5 K5=>?_⟩
 refine AB vO K5 [] fun w6 c=>?_
 have d:=(K.out h0 hw).2.size
 exact AJ c (1,0) (.agg ⟨AW (.mk op 0 0 0 0 0 [] 0 0 [x,y]) (IN g) 2⟩) (hR _ _ (.node (xs:=[(x,AW x o l),(y,AW y m k)]) (.two (h + 1) op t t t x y (.inr (.inr (.inl ⟨by simp at hop; omega,ht,rfl,rfl⟩))) g1 g2) rfl (Eo.ex (c.H.all (c.ix 2) _ (c.at 2 rfl)) d) (Nat.le_trans d (Nat.le_trans a.size hg)) (c.H.all (c.ix 3) _ (c.at 3 rfl)) (c.out h0 hw)))
theorem yp (ht:t.1=false):At Tryz.prog 16 R UP (Fr 275 (BC E (I4 b n w h sB))) w1:=by
 have hb:b < w1.heap.size:=(K.tapeOk h0 0 rfl).lt
 refine Ee K h0 0 rfl [0,1,2,3,4,5,6,7,8,9,10,11,12] (IL t s w sB (AW BO none 0)) [(4,0,0),(9,0,0)] [(1,FF b [AI 14,AI 15] 3 2),(2,KP [14,15]),(7,Bv w1.heap.size n (h + 1) t),(12,Bv w1.heap.size n (h + 1) t)] 2 (fun u hu=>hu.G) (fun p f=>?_) (fun p f X u hu a hf=>?_) fun X u hu a hf=>?_
 ·simp only [List.mem_cons,List.not_mem_nil,or_false] at f
  rcases f with rfl | rfl | rfl | rfl
  ·exact FF.but
  ·exact fun _ _ _ _ h=>h
  ·exact Bv.but hb
  ·exact Bv.but hb
 ·have j:=hu.tapeOk h0 0 rfl
  simp only [List.mem_cons,List.not_mem_nil,or_false] at f
  rcases f with rfl | rfl | rfl | rfl
  ·exact HE (fun z=>.slice (IN z) 2 2) [AI 14,AI 15] 3 (fun w' hB hg=>⟨j.below hB,.of_below hB,u.heap.size,rfl,Nat.ne_of_gt j.lt,hg⟩) (by intro z; kernel_rfl)
  ·obtain ⟨g,v,r,q⟩:FF b [AI 14,AI 15] 3 2 (X 1) u:=hf 1 (by kernel_rfl) rfl
   refine Bn (g:=33) (xs:=[.tmp 141,.tmp 142]) (args:=[BY b,X 1]) ?_ rfl
   rw [v]
   exact (In b ns g [14,15] 2 u j r (by decide) (by decide) q).mono fun e w' ⟨y,q1,q2,q3,q4⟩=>⟨_,q2,q3,q4,y,q1,rfl⟩
  ·exact Bn (xs:=[.tmp 144,.tmp 145,.tmp 146,.tmp 147]) (args:=[BY b,.agg ⟨Av t⟩,AI ((h + 1:Nat):Int),AI n]) ((IH t h5 u j).mono fun e w' i=>Dr a.size i) rfl
  ·exact Bn (xs:=[.tmp 149,.tmp 150,.tmp 151,.tmp 152]) (args:=[BY b,.agg ⟨Av t⟩,AI ((h + 1:Nat):Int),AI n]) ((IH t h5 u j).mono fun e w' i=>Dr a.size i) rfl
 obtain ⟨x,o,l,v,g1,t1⟩:Bv w1.heap.size n (h + 1) t (X 7) u:=hf 7 (by simp) rfl
 obtain ⟨y,m,k,r,g2,t2⟩:Bv w1.heap.size n (h + 1) t (X 12) u:=hf 12 (by simp) rfl
 obtain ⟨op,hop,q⟩:KP [14,15] (X 2) u:=hf 2 (by simp) rfl
 refine CI [(8,BY (w.heap.size + 1)),(143,X 2),(148,X 7),(153,X 12)] fun E2=>?_
 rw [v,r,q]
 have K3:=K.trees hu a.size [(x,AW x o l),(y,AW y m k)] (by simp [t1,t2])
 refine GD 13 32 [.tmp 143,.tmp 148,.tmp 153] [AI op,.agg ⟨AW x o l⟩,.agg ⟨AW y m k⟩] ((Jf op x y o m l k u).mono fun e w' i=>?_)
 obtain ⟨g,rfl,bt,Ht⟩:=i
 have hg:=(Ht.lo 0 _ rfl g rfl).1
 have K4:=K3.join bt Ht
 refine ⟨_,rfl,Dv K4 [(14,1,0)] (fun _=>(IL t s w sB (AW (.mk op 0 0 0 0 0 [] 0 0 [x,y]) (IN g) 2))) fun z w5 K5=>?_⟩
 refine AB vN K5 [] fun w6 c=>?_
 have d:=(K.out h0 hw).2.size
 exact AJ c (1,0) (.agg ⟨AW (.mk op 0 0 0 0 0 [] 0 0 [x,y]) (IN g) 2⟩) (hR _ _ (.node (xs:=[(x,AW x o l),(y,AW y m k)]) (.two (h + 1) op t t t x y (.inr (.inr (.inl ⟨by simp at hop; omega,ht,rfl,rfl⟩))) g1 g2) rfl (Eo.ex (c.H.all (c.ix 2) _ (c.at 2 rfl)) d) (Nat.le_trans d (Nat.le_trans a.size hg)) (c.H.all (c.ix 3) _ (c.at 3 rfl)) (c.out h0 hw)))
theorem yl (ht:t.1=false):At Tryz.prog 16 R UL (Fr 275 (BC E (I4 b n w h sB))) w1:=by
 have hb:b < w1.heap.size:=(K.tapeOk h0 0 rfl).lt
 refine Ee K h0 0 rfl [0,1,2,3,4,5,6,7,8,9,10,11,12] (IL t s w sB (AW BO none 0)) [(4,0,0)] [(1,FF b [AI 7,AI 8] 3 2),(2,KP [7,8]),(7,Bv w1.heap.size n (h + 1) t),(9,fun v _=>v=.agg ⟨Av Bf⟩),(12,Bv w1.heap.size n (h + 1) Bf)] 2 (fun u hu=>hu.G) (fun p i=>?_) (fun p i X u hu a hf=>?_) fun X u hu a hf=>?_
 ·simp only [List.mem_cons,List.not_mem_nil,or_false] at i
  rcases i with rfl | rfl | rfl | rfl | rfl
  ·exact FF.but
  ·exact fun _ _ _ _ h=>h
  ·exact Bv.but hb
  ·exact fun _ _ _ _ h=>h
  ·exact Bv.but hb
 ·have d:=hu.tapeOk h0 0 rfl
  simp only [List.mem_cons,List.not_mem_nil,or_false] at i
  rcases i with rfl | rfl | rfl | rfl | rfl
  ·exact HE (fun z=>.slice (IN z) 2 2) [AI 7,AI 8] 3 (fun w' hB hg=>⟨d.below hB,.of_below hB,u.heap.size,rfl,Nat.ne_of_gt d.lt,hg⟩) (by intro z; kernel_rfl)
  ·obtain ⟨g,e1,r,q⟩:FF b [AI 7,AI 8] 3 2 (X 1) u:=hf 1 (by kernel_rfl) rfl
   refine Bn (g:=33) (xs:=[.tmp 187,.tmp 188]) (args:=[BY b,X 1]) ?_ rfl
   rw [e1]
   exact (In b ns g [7,8] 2 u d r (by decide) (by decide) q).mono fun e w' ⟨y,q1,q2,q3,q4⟩=>⟨_,q2,q3,q4,y,q1,rfl⟩
  ·exact Bn (xs:=[.tmp 190,.tmp 191,.tmp 192,.tmp 193]) (args:=[BY b,.agg ⟨Av t⟩,AI ((h + 1:Nat):Int),AI n]) ((IH t h5 u d).mono fun e w' j=>Dr a.size j) rfl
  ·exact Bn (xs:=[]) (args:=[]) (M9 d (Gn u)) rfl
  ·refine Bn (g:=16) (xs:=[.tmp 195,.tmp 196,.tmp 197,.tmp 198]) (args:=[BY b,X 9,AI ((h + 1:Nat):Int),AI n]) ?_ rfl
   rw [show X 9=.agg ⟨Av Bf⟩ from hf 9 (by kernel_rfl) rfl]
   exact (IH Bf (by decide) u d).mono fun e w' j=>Dr a.size j
 obtain ⟨x,o,l,e1,g1,t1⟩:Bv w1.heap.size n (h + 1) t (X 7) u:=hf 7 (by simp) rfl
 obtain ⟨y,m,k,r,g2,t2⟩:Bv w1.heap.size n (h + 1) Bf (X 12) u:=hf 12 (by simp) rfl
 obtain ⟨op,hop,q⟩:KP [7,8] (X 2) u:=hf 2 (by simp) rfl
 refine CI [(8,BY (w.heap.size + 1)),(189,X 2),(194,X 7),(199,X 12)] fun E2=>?_
 rw [e1,r,q]
 have K3:=K.trees hu a.size [(x,AW x o l),(y,AW y m k)] (by simp [t1,t2])
 refine GD 13 32 [.tmp 189,.tmp 194,.tmp 199] [AI op,.agg ⟨AW x o l⟩,.agg ⟨AW y m k⟩] ((Jf op x y o m l k u).mono fun e w' j=>?_)
 obtain ⟨g,rfl,bt,Ht⟩:=j
 have hg:=(Ht.lo 0 _ rfl g rfl).1
 have K4:=K3.join bt Ht
 refine ⟨_,rfl,Dv K4 [(14,1,0)] (fun _=>(IL t s w sB (AW (.mk op 0 0 0 0 0 [] 0 0 [x,y]) (IN g) 2))) fun z w5 K5=>?_⟩
 refine AB vL K5 [] fun w6 c=>?_
 have f:=(K.out h0 hw).2.size
 exact AJ c (1,0) (.agg ⟨AW (.mk op 0 0 0 0 0 [] 0 0 [x,y]) (IN g) 2⟩) (hR _ _ (.node (xs:=[(x,AW x o l),(y,AW y m k)]) (.two (h + 1) op t t Bf x y (.inr (.inr (.inr (.inl ⟨by simpa using hop,ht,rfl,rfl⟩)))) g1 g2) rfl (Eo.ex (c.H.all (c.ix 2) _ (c.at 2 rfl)) f) (Nat.le_trans f (Nat.le_trans a.size hg)) (c.H.all (c.ix 3) _ (c.at 3 rfl)) (c.out h0 hw)))
theorem ACB:At Tryz.prog 16 R UX (Fr 275 (BC E (I4 b n w h sB))) w1:=by
 have hb:b < w1.heap.size:=(K.tapeOk h0 0 rfl).lt
 refine Ee K h0 0 rfl [0,1,2,3,4,5,6,7,8,9,10,11,12,13,14] (IL t s w sB (AW BO none 0)) [(6,0,0),(11,0,0)] [(1,fun v _=>v=.agg ⟨Av DX⟩),(4,Bv w1.heap.size n (h + 1) DX),(9,Bv w1.heap.size n (h + 1) t),(14,Bv w1.heap.size n (h + 1) t)] 3 (fun u hu=>hu.G) (fun p d=>?_) (fun p d X u hu a hf=>?_) fun X u hu a hf=>?_
 ·simp only [List.mem_cons,List.not_mem_nil,or_false] at d
  rcases d with rfl | rfl | rfl | rfl
  ·exact fun _ _ _ _ h=>h
  ·exact Bv.but hb
  ·exact Bv.but hb
  ·exact Bv.but hb
 ·have i:=hu.tapeOk h0 0 rfl
  simp only [List.mem_cons,List.not_mem_nil,or_false] at d
  rcases d with rfl | rfl | rfl | rfl
  ·exact Bn (xs:=[]) (args:=[]) (M9 i (KJ u)) rfl
  ·refine Bn (g:=16) (xs:=[.tmp 36,.tmp 37,.tmp 38,.tmp 39]) (args:=[BY b,X 1,AI ((h + 1:Nat):Int),AI n]) ?_ rfl
   rw [show X 1=.agg ⟨Av DX⟩ from hf 1 (by kernel_rfl) rfl]
   exact (IH DX (by decide) u i).mono fun e w' f=>Dr a.size f
  ·exact Bn (xs:=[.tmp 41,.tmp 42,.tmp 43,.tmp 44]) (args:=[BY b,.agg ⟨Av t⟩,AI ((h + 1:Nat):Int),AI n]) ((IH t h5 u i).mono fun e w' f=>Dr a.size f) rfl
  ·exact Bn (xs:=[.tmp 46,.tmp 47,.tmp 48,.tmp 49]) (args:=[BY b,.agg ⟨Av t⟩,AI ((h + 1:Nat):Int),AI n]) ((IH t h5 u i).mono fun e w' f=>Dr a.size f) rfl
 obtain ⟨x,A1,m,e1,g1,t1⟩:Bv w1.heap.size n (h + 1) DX (X 4) u:=hf 4 (by simp) rfl
 obtain ⟨y,r,l,e2,g2,t2⟩:Bv w1.heap.size n (h + 1) t (X 9) u:=hf 9 (by simp) rfl
 obtain ⟨z,o,k,e3,g3,t3⟩:Bv w1.heap.size n (h + 1) t (X 14) u:=hf 14 (by simp) rfl
 refine CI [(8,BY (w.heap.size + 1)),(40,X 4),(45,X 9),(50,X 14)] fun E2=>?_
 rw [e1,e2,e3]
 have K3:=K.trees hu a.size [(x,AW x A1 m),(y,AW y r l),(z,AW z o k)] (by simp [t1,t2,t3])
 refine Dv K3 [(15,0,0),(16,0,0),(17,1,0)] (fun q=>[⟨w.heap.size,0,Av t,56,true⟩,⟨w.heap.size + 1,0,AW (.mk 18 0 0 0 0 0 [] 0 0 [x,y,z]) (IN q) 3,53,true⟩,⟨sB,0,Av s,56,true⟩,⟨q,0,[AW x A1 m,AW y r l,AW z o k].flatten,53,true⟩]) fun q w5 K5=>?_
 refine AB vU K5 [] fun w6 c=>?_
 have j:=(K.out h0 hw).2.size
 exact AJ c (1,0) (.agg ⟨AW (.mk 18 0 0 0 0 0 [] 0 0 [x,y,z]) (IN q) 3⟩) (hR _ _ (.node (xs:=[(x,AW x A1 m),(y,AW y r l),(z,AW z o k)]) (.ite (h + 1) t x y z g1 g2 g3) rfl (Eo.ex (c.H.all (c.ix 2) _ (c.at 2 rfl)) j) (c.newer h0 3 rfl) (c.ent 3 rfl) (c.out h0 hw)))
theorem yj (ht:t=DX):At Tryz.prog 16 R (AD PI) (Fr 275 (BC E (I4 b n w h sB))) w1:=by
 have i:=(K.out h0 hw).2.size
 refine AB iI K [(0,0)] fun q c=>?_
 refine BE c h0 0 rfl (args:=[BY b,.agg ⟨Av t⟩,AI ((h + 1:Nat):Int),AI n]) (IH t h5 _ (c.tapeOk h0 0 rfl)) IC fun e d j m=>?_
 obtain ⟨x,g,f,rfl,k,t3,_,l⟩:=j
 refine ⟨_,rfl,?_⟩
 have o:=c.trees m l.size [(x,AW x g f)] (by simpa using t3)
 refine Af vJ [⟨w.heap.size,0,Av t,56,true⟩,⟨w.heap.size + 1,0,AW (.mk 17 0 0 0 0 0 [] 0 0 [x]) (IN d.heap.size) 1,53,true⟩,⟨sB,0,Av s,56,true⟩,⟨d.heap.size,0,[AW x g f].flatten,53,true⟩] o [(1,0)] fun p a=>?_
 exact AJ a (1,0) (.agg ⟨AW (.mk 17 0 0 0 0 0 [] 0 0 [x]) (IN d.heap.size) 1⟩) (hR _ _ (.node (xs:=[(x,AW x g f)]) (ht ▸ .not (h + 1) x (ht ▸ k)) rfl (Eo.ex (a.H.all (a.ix 2) _ (a.at 2 rfl)) (c.out h0 hw).2.size) (a.newer h0 3 rfl) (a.ent 3 rfl) (a.out h0 hw)))
theorem yk (ht:t.1=false):At Tryz.prog 16 R (AD PF) (Fr 275 (BC E (I4 b n w h sB))) w1:=by
 have i:=(K.out h0 hw).2.size
 refine AB iH K [(0,0)] fun q c=>?_
 refine BE c h0 0 rfl (args:=[BY b,.agg ⟨Av t⟩,AI ((h + 1:Nat):Int),AI n]) (IH t h5 _ (c.tapeOk h0 0 rfl)) IC fun e d j m=>?_
 obtain ⟨x,g,f,rfl,k,t3,_,l⟩:=j
 refine ⟨_,rfl,?_⟩
 have o:=c.trees m l.size [(x,AW x g f)] (by simpa using t3)
 refine Af vI [⟨w.heap.size,0,Av t,56,true⟩,⟨w.heap.size + 1,0,AW (.mk 16 0 0 0 0 0 [] 0 0 [x]) (IN d.heap.size) 1,53,true⟩,⟨sB,0,Av s,56,true⟩,⟨d.heap.size,0,[AW x g f].flatten,53,true⟩] o [(1,0)] fun p a=>?_
 exact AJ a (1,0) (.agg ⟨AW (.mk 16 0 0 0 0 0 [] 0 0 [x]) (IN d.heap.size) 1⟩) (hR _ _ (.node (xs:=[(x,AW x g f)]) (.neg (h + 1) t x ht k) rfl (Eo.ex (a.H.all (a.ix 2) _ (a.at 2 rfl)) (c.out h0 hw).2.size) (a.newer h0 3 rfl) (a.ent 3 rfl) (a.out h0 hw)))
theorem yf (ht:t=CJ):At Tryz.prog 16 R (AD MU) (Fr 275 (BC E (I4 b n w h sB))) w1:=by
 have j:=(K.out h0 hw).2.size
 refine AB iB K [] fun i r=>?_
 refine AQ r (args:=[]) (Gn _) fun u p=>?_
 refine AB hZ p [] fun i c=>?_
 refine BE c h0 0 rfl (args:=[BY b,.agg ⟨Av Bf⟩,AI ((h + 1:Nat):Int),AI n]) (IH Bf (by decide) _ (c.tapeOk h0 0 rfl)) IC fun e d k o=>?_
 obtain ⟨x,g,f,rfl,l,t3,_,m⟩:=k
 refine ⟨_,rfl,?_⟩
 have q:=c.trees o m.size [(x,AW x g f)] (by simpa using t3)
 refine Af vG [⟨w.heap.size,0,Av t,56,true⟩,⟨w.heap.size + 1,0,AW (.mk 4 0 0 0 0 0 [119] 0 0 [x]) (IN d.heap.size) 1,53,true⟩,⟨sB,0,Av s,56,true⟩,⟨d.heap.size,0,[AW x g f].flatten,53,true⟩] q [(1,0)] fun v a=>?_
 exact AJ a (1,0) (.agg ⟨AW (.mk 4 0 0 0 0 0 [119] 0 0 [x]) (IN d.heap.size) 1⟩) (hR _ _ (.node (xs:=[(x,AW x g f)]) (.scale (h + 1) t [119] x (.inl ⟨ht,rfl⟩) l) rfl (Eo.ex (a.H.all (a.ix 2) _ (a.at 2 rfl)) (c.out h0 hw).2.size) (a.newer h0 3 rfl) (a.ent 3 rfl) (a.out h0 hw)))
theorem yg (ht:t=Bf):At Tryz.prog 16 R (AD PC) (Fr 275 (BC E (I4 b n w h sB))) w1:=by
 have j:=(K.out h0 hw).2.size
 refine AB gy K [] fun i r=>?_
 refine AQ r (args:=[]) (Gn _) fun u p=>?_
 refine AB gx p [] fun i c=>?_
 refine BE c h0 0 rfl (args:=[BY b,.agg ⟨Av Bf⟩,AI ((h + 1:Nat):Int),AI n]) (IH Bf (by decide) _ (c.tapeOk h0 0 rfl)) IC fun e d k o=>?_
 obtain ⟨x,g,f,rfl,l,t3,_,m⟩:=k
 refine ⟨_,rfl,?_⟩
 have q:=c.trees o m.size [(x,AW x g f)] (by simpa using t3)
 refine Af vE [⟨w.heap.size,0,Av t,56,true⟩,⟨w.heap.size + 1,0,AW (.mk 4 0 0 0 0 0 [115] 0 0 [x]) (IN d.heap.size) 1,53,true⟩,⟨sB,0,Av s,56,true⟩,⟨d.heap.size,0,[AW x g f].flatten,53,true⟩] q [(1,0)] fun v a=>?_
 exact AJ a (1,0) (.agg ⟨AW (.mk 4 0 0 0 0 0 [115] 0 0 [x]) (IN d.heap.size) 1⟩) (hR _ _ (.node (xs:=[(x,AW x g f)]) (.scale (h + 1) t [115] x (.inr ⟨ht,rfl⟩) l) rfl (Eo.ex (a.H.all (a.ix 2) _ (a.at 2 rfl)) (c.out h0 hw).2.size) (a.newer h0 3 rfl) (a.ent 3 rfl) (a.out h0 hw)))
theorem yo (ht:t=C1):At Tryz.prog 16 R (AD PE) (Fr 275 (BC E (I4 b n w h sB))) w1:=by
 have b0:=(K.out h0 hw).2.size
 refine AB iG K [] fun z J2=>?_
 refine AQ J2 (args:=[]) (Hw _) fun w9 J9=>?_
 refine AB iF J9 [] fun z l=>?_
 refine BE l h0 0 rfl (args:=[BY b,.agg ⟨Av ED⟩,AI ((h + 1:Nat):Int),AI n]) (IH ED (by decide) _ (l.tapeOk h0 0 rfl)) IC fun e w3 o K3=>?_
 obtain ⟨x,j,f,rfl,g3,t3,_,b3⟩:=o
 refine ⟨_,rfl,?_⟩
 have J3:=l.trees K3 b3.size [(x,AW x j f)] (by simpa using t3)
 refine AB iE J3 [] fun w4 J4=>?_
 refine AQ J4 (args:=[]) (GB _) fun w8 J8=>?_
 refine AB iD J8 [] fun w5 k=>?_
 refine BE k h0 0 rfl (args:=[BY b,.agg ⟨Av CJ⟩,AI ((h + 1:Nat):Int),AI n]) (IH CJ (by decide) _ (k.tapeOk h0 0 rfl)) IC fun e w6 o K6=>?_
 obtain ⟨y,i,d,rfl,g6,t6,_,b6⟩:=o
 refine ⟨_,rfl,?_⟩
 have J6:=k.trees K6 b6.size [(y,AW y i d)] (by simpa using t6)
 refine AB iC J6 [] fun v r=>?_
 refine A7 (args:=[AI 7,.agg ⟨AW x j f⟩,.agg ⟨AW y i d⟩]) (Jf 7 x y j i f d v) fun e a0 hh=>?_
 obtain ⟨g,rfl,bt,u⟩:=hh
 have hg:=(u.lo 0 _ rfl g rfl).1
 have K8:=r.join bt u
 refine ⟨_,rfl,?_⟩
 refine Af vH [⟨w.heap.size,0,Av t,56,true⟩,⟨w.heap.size + 1,0,AW (.mk 7 0 0 0 0 0 [] 0 0 [x,y]) (IN g) 2,53,true⟩,⟨sB,0,Av s,56,true⟩] K8 [(1,0)] fun m a=>?_
 have p1:=Eo.ex (a.H.all (a.ix 2) _ (a.at 2 rfl)) (l.out h0 hw).2.size
 have p2:=Eo.ex (a.H.all (a.ix 3) _ (a.at 3 rfl)) (k.out h0 hw).2.size
 have c:∀ p∈[(x,AW x j f),(y,AW y i d)],Cz (fun g=>w.heap.size≤g) m p.1 p.2:=fun p q=>by
  rcases List.mem_cons.1 q with rfl | q
  ·exact p1 _ (by simp)
  ·exact p2 p q
 exact AJ a (1,0) (.agg ⟨AW (.mk 7 0 0 0 0 0 [] 0 0 [x,y]) (IN g) 2⟩) (hR _ _ (.node (xs:=[(x,AW x j f),(y,AW y i d)]) (.two (h + 1) 7 t ED CJ x y (.inr (.inr (.inr (.inr (.inl ⟨rfl,ht,rfl,rfl⟩))))) g3 g6) rfl c (Nat.le_trans (r.out h0 hw).2.size hg) (a.H.all (a.ix 4) _ (a.at 4 rfl)) (a.out h0 hw)))
theorem yi (ht:t=CJ):At Tryz.prog 16 R (AF MU) (Fr 275 (BC E (I4 b n w h sB))) w1:=by
 have b0:=(K.out h0 hw).2.size
 refine AB hY K [] fun z J2=>?_
 refine AQ J2 (args:=[]) (GC _) fun w9 J9=>?_
 refine AB hJ J9 [] fun z l=>?_
 refine BE l h0 0 rfl (args:=[BY b,.agg ⟨Av C1⟩,AI ((h + 1:Nat):Int),AI n]) (IH C1 (by decide) _ (l.tapeOk h0 0 rfl)) IC fun e w3 o K3=>?_
 obtain ⟨x,j,f,rfl,g3,t3,_,b3⟩:=o
 refine ⟨_,rfl,?_⟩
 have J3:=l.trees K3 b3.size [(x,AW x j f)] (by simpa using t3)
 refine AB g8 J3 [] fun w4 J4=>?_
 refine AQ J4 (args:=[]) (Hw _) fun w8 J8=>?_
 refine AB g7 J8 [] fun w5 k=>?_
 refine BE k h0 0 rfl (args:=[BY b,.agg ⟨Av ED⟩,AI ((h + 1:Nat):Int),AI n]) (IH ED (by decide) _ (k.tapeOk h0 0 rfl)) IC fun e w6 o K6=>?_
 obtain ⟨y,i,d,rfl,g6,t6,_,b6⟩:=o
 refine ⟨_,rfl,?_⟩
 have J6:=k.trees K6 b6.size [(y,AW y i d)] (by simpa using t6)
 refine AB gz J6 [] fun v r=>?_
 refine A7 (args:=[AI 8,.agg ⟨AW x j f⟩,.agg ⟨AW y i d⟩]) (Jf 8 x y j i f d v) fun e a0 hh=>?_
 obtain ⟨g,rfl,bt,u⟩:=hh
 have hg:=(u.lo 0 _ rfl g rfl).1
 have K8:=r.join bt u
 refine ⟨_,rfl,?_⟩
 refine Af vF [⟨w.heap.size,0,Av t,56,true⟩,⟨w.heap.size + 1,0,AW (.mk 8 0 0 0 0 0 [] 0 0 [x,y]) (IN g) 2,53,true⟩,⟨sB,0,Av s,56,true⟩] K8 [(1,0)] fun m a=>?_
 have p1:=Eo.ex (a.H.all (a.ix 2) _ (a.at 2 rfl)) (l.out h0 hw).2.size
 have p2:=Eo.ex (a.H.all (a.ix 3) _ (a.at 3 rfl)) (k.out h0 hw).2.size
 have c:∀ p∈[(x,AW x j f),(y,AW y i d)],Cz (fun g=>w.heap.size≤g) m p.1 p.2:=fun p q=>by
  rcases List.mem_cons.1 q with rfl | q
  ·exact p1 _ (by simp)
  ·exact p2 p q
 exact AJ a (1,0) (.agg ⟨AW (.mk 8 0 0 0 0 0 [] 0 0 [x,y]) (IN g) 2⟩) (hR _ _ (.node (xs:=[(x,AW x j f),(y,AW y i d)]) (.two (h + 1) 8 t C1 ED x y (.inr (.inr (.inr (.inr (.inr (.inl ⟨rfl,ht,rfl,rfl⟩)))))) g3 g6) rfl c (Nat.le_trans (r.out h0 hw).2.size hg) (a.H.all (a.ix 4) _ (a.at 4 rfl)) (a.out h0 hw)))
theorem yq (ht:t=ED):At Tryz.prog 16 R (AF PD) (Fr 275 (BC E (I4 b n w h sB))) w1:=by
 have b0:=(K.out h0 hw).2.size
 refine AB gv K [] fun z J2=>?_
 refine AQ J2 (args:=[]) (GC _) fun w9 J9=>?_
 refine AB gt J9 [] fun z l=>?_
 refine BE l h0 0 rfl (args:=[BY b,.agg ⟨Av C1⟩,AI ((h + 1:Nat):Int),AI n]) (IH C1 (by decide) _ (l.tapeOk h0 0 rfl)) IC fun e w3 o K3=>?_
 obtain ⟨x,j,f,rfl,g3,t3,_,b3⟩:=o
 refine ⟨_,rfl,?_⟩
 have J3:=l.trees K3 b3.size [(x,AW x j f)] (by simpa using t3)
 refine AB gr J3 [] fun w4 J4=>?_
 refine AQ J4 (args:=[]) (GB _) fun w8 J8=>?_
 refine AB gl J8 [] fun w5 k=>?_
 refine BE k h0 0 rfl (args:=[BY b,.agg ⟨Av CJ⟩,AI ((h + 1:Nat):Int),AI n]) (IH CJ (by decide) _ (k.tapeOk h0 0 rfl)) IC fun e w6 o K6=>?_
 obtain ⟨y,i,d,rfl,g6,t6,_,b6⟩:=o
 refine ⟨_,rfl,?_⟩
 have J6:=k.trees K6 b6.size [(y,AW y i d)] (by simpa using t6)
 refine AB gj J6 [] fun v r=>?_
 refine A7 (args:=[AI 8,.agg ⟨AW x j f⟩,.agg ⟨AW y i d⟩]) (Jf 8 x y j i f d v) fun e a0 hh=>?_
 obtain ⟨g,rfl,bt,u⟩:=hh
 have hg:=(u.lo 0 _ rfl g rfl).1
 have K8:=r.join bt u
 refine ⟨_,rfl,?_⟩
 refine Af vD [⟨w.heap.size,0,Av t,56,true⟩,⟨w.heap.size + 1,0,AW (.mk 8 0 0 0 0 0 [] 0 0 [x,y]) (IN g) 2,53,true⟩,⟨sB,0,Av s,56,true⟩] K8 [(1,0)] fun m a=>?_
 have p1:=Eo.ex (a.H.all (a.ix 2) _ (a.at 2 rfl)) (l.out h0 hw).2.size
 have p2:=Eo.ex (a.H.all (a.ix 3) _ (a.at 3 rfl)) (k.out h0 hw).2.size
 have c:∀ p∈[(x,AW x j f),(y,AW y i d)],Cz (fun g=>w.heap.size≤g) m p.1 p.2:=fun p q=>by
  rcases List.mem_cons.1 q with rfl | q
  ·exact p1 _ (by simp)
  ·exact p2 p q
 exact AJ a (1,0) (.agg ⟨AW (.mk 8 0 0 0 0 0 [] 0 0 [x,y]) (IN g) 2⟩) (hR _ _ (.node (xs:=[(x,AW x j f),(y,AW y i d)]) (.two (h + 1) 8 t C1 CJ x y (.inr (.inr (.inr (.inr (.inr (.inr (.inr ⟨rfl,ht,rfl,rfl⟩))))))) g3 g6) rfl c (Nat.le_trans (r.out h0 hw).2.size hg) (a.H.all (a.ix 4) _ (a.at 4 rfl)) (a.out h0 hw)))
theorem yh (ht:t.1=false):At Tryz.prog 16 R UN (Fr 275 (BC E (I4 b n w h sB))) w1:=by
 have hb:b < w1.heap.size:=(K.tapeOk h0 0 rfl).lt
 refine Ee K h0 0 rfl [0,1,2,3,4,5,6,7,8,9,10,11,12,13,14,15,16,17] (IL t s w sB (AW BO none 0)) [(9,0,1),(13,0,0)] [(3,FF b [AI 1,AI 1,AI 1,AI 100,AI 1,AI 4] 41 3),(5,JD 3),(6,fun v u=>∃ g k,v=.pointer (some ⟨g,0 + k * 2,none⟩)∧k < 3∧g≠b∧Az.good u ⟨g,0,[AI 1,AI 1,AI 1,AI 100,AI 1,AI 4],41,true⟩),(7,fun v _=>∃ q∈Qe,v=.agg ⟨[AI q.1,AI q.2]⟩),(11,JD 7),(16,Bv w1.heap.size n (h + 1) t),(17,fun v u=>∃ x g,v=.slice (some ⟨g,0,none⟩) 1 1∧DK n (h + 1) t x∧Cz (fun g=>w1.heap.size≤g) u (L7 [x]) (AW (L7 [x]) (some ⟨g,0,none⟩) 1))] 2 (fun u hu=>hu.G) (fun p hp=>?_) (fun p hp X u hu hbu hf=>?_) fun X u hu hbu hf=>?_
 ·simp only [List.mem_cons,List.not_mem_nil,or_false] at hp
  rcases hp with rfl | rfl | rfl | rfl | rfl | rfl | rfl
  ·exact FF.but
  ·exact fun _ _ _ _ h=>h
  ·exact fun v u u' he ⟨g,k,a1,a2,a3,a4⟩=>⟨g,k,a1,a2,a3,F6 a4 he.size (he.block g a4.1 a3)⟩
  ·exact fun _ _ _ _ h=>h
  ·exact fun _ _ _ _ h=>h
  ·exact Bv.but hb
  ·exact fun v u u' he ⟨x,g,a1,a2,a3⟩=>⟨x,g,a1,a2,Cz.keep he.size (fun g hg hl=>⟨hg,he.block g hl (by omega)⟩) _ _ a3⟩
 ·have hT:=hu.tapeOk h0 0 rfl
  simp only [List.mem_cons,List.not_mem_nil,or_false] at hp
  rcases hp with rfl | rfl | rfl | rfl | rfl | rfl | rfl
  ·exact HE (fun z=>.slice (some ⟨z,0,none⟩) 3 3) [AI 1,AI 1,AI 1,AI 100,AI 1,AI 4] 41 (fun w' hB hg=>⟨hT.below hB,.of_below hB,u.heap.size,rfl,Nat.ne_of_gt hT.lt,hg⟩) (by intro z; kernel_rfl)
  ·exact Bn (xs:=[.tmp 161,.const (AI 3)]) (args:=[.pointer (some ⟨b,0,none⟩),AI 3]) ((BM b ns 3 u hT (by omega) (by omega)).mono fun e w' ⟨y,q1,q2,q3,q4⟩=>⟨_,q2,q3,q4,y,by omega,rfl⟩) rfl
  ·obtain ⟨g,e1,e2,e3⟩:FF b [AI 1,AI 1,AI 1,AI 100,AI 1,AI 4] 41 3 (X 3) u:=hf 3 (by kernel_rfl) rfl
   obtain ⟨k,e4,e5⟩:JD 3 (X 5) u:=hf 5 (by kernel_rfl) rfl
   exact AM.value (BZ (g:=g) (off:=0) (sz:=2) (k:=k) (len:=3) (cap:=3) 67 (.tmp 160) (.tmp 162) (hx:=(Eq.trans (b:=X 3) (by kernel_rfl) e1)) (hi:=(Eq.trans (b:=X 5) (by kernel_rfl) e5)) e4 Tryz.underlying67) ⟨hT,CE.refl b u,g,k,rfl,e4,e2,e3⟩
  ·obtain ⟨g,k,e1,e2,e3,e4⟩:∃ g k,X 6=.pointer (some ⟨g,0 + k * 2,none⟩)∧k < 3∧g≠b∧Az.good u ⟨g,0,[AI 1,AI 1,AI 1,AI 100,AI 1,AI 4],41,true⟩:=hf 6 (by kernel_rfl) rfl
   obtain ⟨q,hq⟩:∃ q,Qe[k]?=some q:=⟨_,List.getElem?_eq_getElem e2⟩
   obtain ⟨g',off,h1,_,h3⟩:=CU.all (show CU 2 (fun q:Int×Int=>[AI q.1,AI q.2]) u (some ⟨g,0,none⟩) Qe from C8 (fun r hr=>by obtain ⟨e,_,rfl⟩:=List.mem_map.1 hr; rfl) e4) (by decide)
   obtain ⟨rfl,rfl⟩:g=g'∧0=off:=by simpa using h1
   exact AM.loadMid 41 (.tmp 163) (by kernel_rfl) (Eq.trans (b:=X 6) (by kernel_rfl) e1) [AI q.1,AI q.2] (h3 k q hq) (by kernel_rfl) (by kernel_rfl) ⟨hT,CE.refl b u,q,List.mem_of_getElem? hq,rfl⟩
  ·exact Bn (xs:=[.tmp 167,.const (AI 7)]) (args:=[.pointer (some ⟨b,0,none⟩),AI 7]) ((BM b ns 7 u hT (by omega) (by omega)).mono fun e w' ⟨y,q1,q2,q3,q4⟩=>⟨_,q2,q3,q4,y,by omega,rfl⟩) rfl
  ·exact Bn (xs:=[.tmp 169,.tmp 170,.tmp 171,.tmp 172]) (args:=[.pointer (some ⟨b,0,none⟩),.agg ⟨Av t⟩,AI ((h + 1:Nat):Int),AI n]) ((IH t h5 u hT).mono fun e w' hh=>Dr hbu.size hh) rfl
  ·obtain ⟨x,A1,c1,e1,g1,t1⟩:Bv w1.heap.size n (h + 1) t (X 16) u:=hf 16 (by kernel_rfl) rfl
   exact AM.over [(173,.agg ⟨AW x A1 c1⟩)] ⟨Eq.trans (b:=X 16) (by kernel_rfl) e1,trivial⟩ (HE (fun z=>.slice (some ⟨z,0,none⟩) 1 1) (AW x A1 c1) 53 (fun w' hB hg=>⟨hT.below hB,.of_below hB,x,u.heap.size,rfl,g1,NS (ks:=[AW x A1 c1]) (OX (xs:=[(x,AW x A1 c1)]) fun p hp=>by rw [List.mem_singleton.1 hp]; exact Cz.keep hB.size (fun g hg hl=>⟨hg,hB.block g hl⟩) _ _ t1) (RM (ks:=[AW x A1 c1]) hbu.size (fun r hr=>by rw [List.mem_singleton.1 hr]; rfl) (by simpa using hg))⟩) (by intro z; kernel_rfl))
 obtain ⟨q,hq,e1⟩:∃ q∈Qe,X 7=.agg ⟨[AI q.1,AI q.2]⟩:=hf 7 (by simp) rfl
 obtain ⟨k,hk,e2⟩:JD 7 (X 11) u:=hf 11 (by simp) rfl
 obtain ⟨x,g,e3,g1,t1⟩:∃ x g,X 17=.slice (some ⟨g,0,none⟩) 1 1∧DK n (h + 1) t x∧Cz (fun g=>w1.heap.size≤g) u (L7 [x]) (AW (L7 [x]) (some ⟨g,0,none⟩) 1):=hf 17 (by simp) rfl
 refine CI [(8,.pointer (some ⟨w.heap.size + 1,0,none⟩)),(164,X 7),(166,.agg ⟨[AI t.2.1,AI t.2.2.1,AI t.2.2.2]⟩),(168,X 11),(174,X 17)] fun E2=>?_
 rw [e1,e2,e3]
 have K3:=K.trees hu hbu.size [(L7 [x],AW (L7 [x]) (some ⟨g,0,none⟩) 1)] (by simpa using t1)
 refine Dv K3 [(18,0,0),(19,1,0)] (fun _=>[⟨w.heap.size,0,Av t,56,true⟩,⟨w.heap.size + 1,0,AW (.mk 19 q.1 q.2 t.2.1 t.2.2.1 t.2.2.2 [] 0 (k:Int) [x]) (some ⟨g,0,none⟩) 1,53,true⟩,⟨sB,0,Av s,56,true⟩]) fun z w5 K5=>?_
 refine AB vM K5 [] fun w6 K6=>?_
 exact AJ K6 (1,0) (.agg ⟨AW (.mk 19 q.1 q.2 t.2.1 t.2.2.1 t.2.2.2 [] 0 (k:Int) [x]) (some ⟨g,0,none⟩) 1⟩) (hR _ _ ⟨(.mk 19 q.1 q.2 t.2.1 t.2.2.1 t.2.2.2 [] 0 (k:Int) [x]),_,_,rfl,.round (h + 1) t x q k ht hq (by omega) (by omega) g1,ng (Eo.ex (K6.H.all (K6.ix 2) _ (K6.at 2 rfl)) (K.out h0 hw).2.size _ (List.mem_singleton.2 rfl)) rfl,K6.out h0 hw⟩)
end
theorem Xb {R:Ending→World→Prop} {b:Nat} {ns:List Int} {n:Int} {h:Nat} {t:Ty} {w w0 g:World} {E:Nat→Value} (d:w0.heap.size=b) (i:Below w0.heap.size w0 w) (l:t∈JJ) (hR:∀ e w',KI b ns n (h + 1) t w e w'→R e w') (K:Wk w0 g [⟨w.heap.size,0,Av t,56,true⟩,⟨w.heap.size + 1,0,AW BO none 0,53,true⟩] [BH w0 b ns,Bj b w] []):At Tryz.prog 16 R (AD PL) (Fr 275 (BC E [(0,BY b),(3,AI n),(5,BY (w.heap.size)),(8,BY (w.heap.size + 1))])) g:=by
 refine AB qG K [(0,0)] fun u f=>?_
 refine BE f d 0 rfl (args:=[BY b,.agg ⟨Av t⟩,AI n]) (AB8 b ns n h t l _ (f.tapeOk d 0 rfl)) IC fun e s k p=>?_
 obtain ⟨x,A,c,rfl,m,j,_,o⟩:=k
 refine ⟨_,rfl,?_⟩
 have q:=f.trees p o.size [(x,AW x A c)] (by simpa using j)
 refine Af AAx [⟨w.heap.size,0,Av t,56,true⟩,⟨w.heap.size + 1,0,AW x A c,53,true⟩] q [(1,0)] fun r a=>?_
 exact AJ a (1,0) (.agg ⟨AW x A c⟩) (hR _ _ ⟨x,A,c,rfl,m,Eo.ex (a.H.all (a.ix 2) _ (a.at 2 rfl)) (f.out d i).2.size _ (List.mem_singleton.2 rfl),a.out d i⟩)
theorem sm (b:Nat) (ns:List Int) (n:Int):∀ (h:Nat) (t:Ty) (_:t∈JJ) (_:h≤1000) (w:World) (_:BW b ns w),Calls Tryz.prog 16 ([.pointer (some ⟨b,0,none⟩),.agg ⟨Av t⟩,AI ((h + 1:Nat):Int),AI n]:List Value).toArray w (KI b ns n (h + 1) t w)
 | 0,t,h5,_,w,hT=>by
  refine AR (args:=[.pointer (some ⟨b,0,none⟩),.agg ⟨Av t⟩,AI ((0 + 1:Nat):Int),AI n]) (fn:=Tryz.f16) (c:=Qy) (n:=275) ?_
  obtain ⟨w0,h0,K0⟩:=Wk.tape hT
  have hw:=K0.B
  refine Af PL [⟨w.heap.size,0,Av t,56,true⟩,⟨w.heap.size + 1,0,AW BO none 0,53,true⟩] K0 [(0,0)] fun w1 K1=>?_
  refine AG true (fun _=>?_) (fun hf=>by cases hf)
  refine AU [(0,.pointer (some ⟨b,0,none⟩)),(3,AI n),(5,.pointer (some ⟨w.heap.size,0,none⟩)),(8,.pointer (some ⟨w.heap.size + 1,0,none⟩))] fun E1=>?_
  exact Xb h0 hw h5 (fun _ _ hh=>hh) K1
 | h + 1,t,h5,hle,w,hT=>by
  refine AR (args:=[.pointer (some ⟨b,0,none⟩),.agg ⟨Av t⟩,AI ((h + 1 + 1:Nat):Int),AI n]) (fn:=Tryz.f16) (c:=Qy) (n:=275) ?_
  obtain ⟨w0,h0,K0⟩:=Wk.tape hT
  have hw:=K0.B
  refine Af qH [⟨w.heap.size,0,Av t,56,true⟩,⟨w.heap.size + 1,0,AW BO none 0,53,true⟩] K0 [(0,0)] fun w1 K1=>?_
  refine BE K1 h0 0 rfl (args:=[.pointer (some ⟨b,0,none⟩),AI 5]) (BM b ns 5 _ (K1.tapeOk h0 0 rfl) (by omega) (by omega)) BQ.ok fun e w2 hq K2=>?_
  obtain ⟨k2,hk2,rfl,_,_⟩:=hq
  refine ⟨_,rfl,?_⟩
  refine AB PL K2 [] fun w3 K3=>?_
  refine AG ((k2:Int) == 0) (fun _=>?_) (fun _=>?_)
  ·refine AU [(0,.pointer (some ⟨b,0,none⟩)),(3,AI n),(5,.pointer (some ⟨w.heap.size,0,none⟩)),(8,.pointer (some ⟨w.heap.size + 1,0,none⟩))] fun E1=>?_
   exact Xb h0 hw h5 (fun _ _ hh=>hh) K3
  refine AB qF K3 [] fun w4 K4=>?_
  refine AQ K4 (args:=[]) (Gn _) fun w4 K4=>?_
  refine AQ K4 (args:=[]) (GC _) fun w4 K4=>?_
  refine AQ K4 (args:=[]) (Hw _) fun w4 K4=>?_
  refine AQ K4 (args:=[]) (GB _) fun w4 K4=>?_
  refine Af aQ [⟨w.heap.size,0,Av t,56,true⟩,⟨w.heap.size + 1,0,AW BO none 0,53,true⟩,⟨w4.heap.size,0,[Av Bf,Av C1,Av ED,Av CJ].flatten,56,true⟩] K4 [] fun w5 K5=>?_
  refine BE K5 h0 0 rfl (args:=[.pointer (some ⟨b,0,none⟩),AI 4]) (BM b ns 4 _ (K5.tapeOk h0 0 rfl) (by omega) (by omega)) BQ.ok fun e w6 hq K6=>?_
  obtain ⟨k6,hk6,rfl,_,_⟩:=hq
  refine ⟨_,rfl,?_⟩
  have hkl:k6 < RH.length:=by show k6 < 4; omega
  obtain ⟨s,hsk⟩:∃ x,RH[k6]?=some x:=⟨_,List.getElem?_eq_getElem hkl⟩
  have hs:=List.mem_of_getElem? hsk
  refine Ae Aa qE K6 [] fun w7 K7=>?_
  refine Au (g:=w4.heap.size) (off:=0) (cap:=4) (sz:=4) (k:=k6) (len:=4) (some 31) hkl Tryz.underlying66 ?_
  obtain ⟨g,off,h1,_,h3⟩:=CU.all (show CU 4 Av w7 (some ⟨w4.heap.size,0,none⟩) RH from C8 (fun r hr=>by obtain ⟨e,_,rfl⟩:=List.mem_map.1 hr; rfl) (K7.ent 2 rfl)) (by decide)
  obtain ⟨rfl,rfl⟩:w4.heap.size=g∧0=off:=by simpa using h1
  refine BI 56 w4.heap.size (0 + k6 * 4) (Av s) (some 32) (h3 k6 s hsk) ?_
  refine Af iU [⟨w.heap.size,0,Av t,56,true⟩,⟨w.heap.size + 1,0,AW BO none 0,53,true⟩,⟨w4.heap.size,0,[Av Bf,Av C1,Av ED,Av CJ].flatten,56,true⟩,⟨w7.heap.size,0,Av s,56,true⟩] K7 [(3,0)] fun w8 K8=>?_
  refine BE K8 h0 0 rfl (args:=[.pointer (some ⟨b,0,none⟩),AI 6]) (BM b ns 6 _ (K8.tapeOk h0 0 rfl) (by omega) (by omega)) BQ.ok fun e w9 hq K9=>?_
  obtain ⟨k9,hk9,rfl,_,_⟩:=hq
  refine ⟨_,rfl,?_⟩
  have K10:Wk w0 w9 [⟨w.heap.size,0,Av t,56,true⟩,⟨w.heap.size + 1,0,AW BO none 0,53,true⟩,⟨w7.heap.size,0,Av s,56,true⟩] [BH w0 b ns,Bj b w] []:=K9.pk [0,1,3] [0,1]
  have IH:∀ s∈JJ,∀ u,BW b ns u→Calls Tryz.prog 16 ([.pointer (some ⟨b,0,none⟩),.agg ⟨Av s⟩,AI ((h + 1:Nat):Int),AI n]:List Value).toArray u (KI b ns n (h + 1) s u):=fun s hs u hu=>sm b ns n h s hs (by omega) u hu
  refine AB UY K10 [] fun w10 K10=>?_
  refine AU [(0,.pointer (some ⟨b,0,none⟩)),(3,AI n),(5,.pointer (some ⟨w.heap.size,0,none⟩)),(8,.pointer (some ⟨w.heap.size + 1,0,none⟩)),(9,AI (IntKind.i64.wrap (((h + 1 + 1:Nat):Int) - 1))),(10,.pointer (some ⟨w7.heap.size,0,none⟩)),(35,.bool ((k9:Int) == 5))] fun E10=>?_
  rw [show IntKind.i64.wrap (((h + 1 + 1:Nat):Int) - 1)=((h + 1:Nat):Int) by rw [IntWalk.i64_in _ (by omega)]; omega]
  refine AG ((k9:Int) == 5) (fun _=>?_) (fun _=>?_)
  ·skip
   refine AB UX K10 [] fun v9 J9=>?_
   refine AU [(0,.pointer (some ⟨b,0,none⟩)),(3,AI n),(5,.pointer (some ⟨w.heap.size,0,none⟩)),(8,.pointer (some ⟨w.heap.size + 1,0,none⟩)),(9,AI ((h + 1:Nat):Int)),(10,.pointer (some ⟨w7.heap.size,0,none⟩))] fun E9=>?_
   exact ACB h0 hw h5 hs IH (fun _ _ hh=>hh) J9
  refine AB UW K10 [(0,0)] fun w11 K11=>?_
  refine AG t.1 (fun ht=>?_) (fun ht=>?_)
  ·have ht2:t=DX:=by
    simp only [JJ,List.mem_cons,List.not_mem_nil,or_false] at h5
    rcases h5 with rfl | rfl | rfl | rfl | rfl
    ·cases ht
    ·cases ht
    ·cases ht
    ·cases ht
    ·rfl
   refine AB iT K11 [] fun w12 K12=>?_
   refine BE K12 h0 0 rfl (args:=[.pointer (some ⟨b,0,none⟩),AI 6]) (BM b ns 6 _ (K12.tapeOk h0 0 rfl) (by omega) (by omega)) BQ.ok fun e w13 hq K13=>?_
   obtain ⟨k13,hk13,rfl,_,_⟩:=hq
   refine ⟨_,rfl,?_⟩
   refine AB iS K13 [] fun w14 K14=>?_
   refine AG ((k13:Int) == 0) (fun hz=>?_) (fun _=>?_)
   ·refine AB PK K14 [] fun w14 K14=>?_
    refine AG ((k13:Int) == 0) (fun _=>?_) (fun hn=>by rw [hz] at hn; cases hn)
    refine AB PJ K14 [] fun v9 J9=>?_
    refine AU [(0,.pointer (some ⟨b,0,none⟩)),(3,AI n),(5,.pointer (some ⟨w.heap.size,0,none⟩)),(8,.pointer (some ⟨w.heap.size + 1,0,none⟩)),(9,AI ((h + 1:Nat):Int)),(10,.pointer (some ⟨w7.heap.size,0,none⟩))] fun E9=>?_
    exact kI h0 hw h5 hs IH (fun _ _ hh=>hh) J9 ht2
   refine AB PK K14 [] fun w14 K14=>?_
   refine AG ((k13:Int) == 1) (fun _=>?_) (fun _=>?_)
   ·skip
    refine AB PJ K14 [] fun v9 J9=>?_
    refine AU [(0,.pointer (some ⟨b,0,none⟩)),(3,AI n),(5,.pointer (some ⟨w.heap.size,0,none⟩)),(8,.pointer (some ⟨w.heap.size + 1,0,none⟩)),(9,AI ((h + 1:Nat):Int)),(10,.pointer (some ⟨w7.heap.size,0,none⟩))] fun E9=>?_
    exact kI h0 hw h5 hs IH (fun _ _ hh=>hh) J9 ht2
   refine AB UV K14 [] fun w14 K14=>?_
   refine AG ((k13:Int) == 2) (fun _=>?_) (fun _=>?_)
   ·skip
    refine AB UU K14 [] fun v9 J9=>?_
    refine AU [(0,.pointer (some ⟨b,0,none⟩)),(3,AI n),(5,.pointer (some ⟨w.heap.size,0,none⟩)),(8,.pointer (some ⟨w.heap.size + 1,0,none⟩)),(9,AI ((h + 1:Nat):Int)),(10,.pointer (some ⟨w7.heap.size,0,none⟩))] fun E9=>?_
    exact yu h0 hw h5 hs IH (fun _ _ hh=>hh) J9 ht2
   refine AB UT K14 [] fun w14 K14=>?_
   refine AG ((k13:Int) == 3) (fun _=>?_) (fun _=>?_)
   ·skip
    refine AB US K14 [] fun v9 J9=>?_
    refine AU [(0,.pointer (some ⟨b,0,none⟩)),(3,AI n),(5,.pointer (some ⟨w.heap.size,0,none⟩)),(8,.pointer (some ⟨w.heap.size + 1,0,none⟩)),(9,AI ((h + 1:Nat):Int)),(10,.pointer (some ⟨w7.heap.size,0,none⟩))] fun E9=>?_
    exact ACA h0 hw h5 hs IH (fun _ _ hh=>hh) J9 ht2
   refine AB PI K14 [] fun w14 K14=>?_
   refine AG ((k13:Int) == 4) (fun _=>?_) (fun _=>?_)
   ·skip
    refine AU [(0,.pointer (some ⟨b,0,none⟩)),(3,AI n),(5,.pointer (some ⟨w.heap.size,0,none⟩)),(8,.pointer (some ⟨w.heap.size + 1,0,none⟩)),(9,AI ((h + 1:Nat):Int)),(10,.pointer (some ⟨w7.heap.size,0,none⟩))] fun E9=>?_
    exact yj h0 hw h5 hs IH (fun _ _ hh=>hh) K14 ht2
   refine AB UR K14 [] fun v9 J9=>?_
   refine AU [(0,.pointer (some ⟨b,0,none⟩)),(3,AI n),(5,.pointer (some ⟨w.heap.size,0,none⟩)),(8,.pointer (some ⟨w.heap.size + 1,0,none⟩)),(9,AI ((h + 1:Nat):Int)),(10,.pointer (some ⟨w7.heap.size,0,none⟩))] fun E9=>?_
   exact yr h0 hw h5 hs IH (fun _ _ hh=>hh) J9 ht2
  refine AB iR K11 [] fun w12 K12=>?_
  refine BE K12 h0 0 rfl (args:=[.pointer (some ⟨b,0,none⟩),AI 8]) (BM b ns 8 _ (K12.tapeOk h0 0 rfl) (by omega) (by omega)) BQ.ok fun e w13 hq K13=>?_
  obtain ⟨k13,hk13,rfl,_,_⟩:=hq
  refine ⟨_,rfl,?_⟩
  refine AB iQ K13 [] fun w14 K14=>?_
  refine AG ((k13:Int) == 0) (fun hz=>?_) (fun _=>?_)
  ·refine AB PH K14 [] fun w14 K14=>?_
   refine AG ((k13:Int) == 0) (fun _=>?_) (fun hn=>by rw [hz] at hn; cases hn)
   refine AB PG K14 [] fun v9 J9=>?_
   refine AU [(0,.pointer (some ⟨b,0,none⟩)),(3,AI n),(5,.pointer (some ⟨w.heap.size,0,none⟩)),(8,.pointer (some ⟨w.heap.size + 1,0,none⟩)),(9,AI ((h + 1:Nat):Int)),(10,.pointer (some ⟨w7.heap.size,0,none⟩))] fun E9=>?_
   exact kJ h0 hw h5 hs IH (fun _ _ hh=>hh) J9 ht
  refine AB PH K14 [] fun w14 K14=>?_
  refine AG ((k13:Int) == 1) (fun _=>?_) (fun _=>?_)
  ·skip
   refine AB PG K14 [] fun v9 J9=>?_
   refine AU [(0,.pointer (some ⟨b,0,none⟩)),(3,AI n),(5,.pointer (some ⟨w.heap.size,0,none⟩)),(8,.pointer (some ⟨w.heap.size + 1,0,none⟩)),(9,AI ((h + 1:Nat):Int)),(10,.pointer (some ⟨w7.heap.size,0,none⟩))] fun E9=>?_
   exact kJ h0 hw h5 hs IH (fun _ _ hh=>hh) J9 ht
  refine AB UQ K14 [] fun w14 K14=>?_
  refine AG ((k13:Int) == 2) (fun _=>?_) (fun _=>?_)
  ·skip
   refine AB UP K14 [] fun v9 J9=>?_
   refine AU [(0,.pointer (some ⟨b,0,none⟩)),(3,AI n),(5,.pointer (some ⟨w.heap.size,0,none⟩)),(8,.pointer (some ⟨w.heap.size + 1,0,none⟩)),(9,AI ((h + 1:Nat):Int)),(10,.pointer (some ⟨w7.heap.size,0,none⟩))] fun E9=>?_
   exact yp h0 hw h5 hs IH (fun _ _ hh=>hh) J9 ht
  refine AB UO K14 [] fun w14 K14=>?_
  refine AG ((k13:Int) == 3) (fun _=>?_) (fun _=>?_)
  ·skip
   refine AB UN K14 [] fun v9 J9=>?_
   refine AU [(0,.pointer (some ⟨b,0,none⟩)),(3,AI n),(5,.pointer (some ⟨w.heap.size,0,none⟩)),(8,.pointer (some ⟨w.heap.size + 1,0,none⟩)),(9,AI ((h + 1:Nat):Int)),(10,.pointer (some ⟨w7.heap.size,0,none⟩))] fun E9=>?_
   exact yh h0 hw h5 hs IH (fun _ _ hh=>hh) J9 ht
  refine AB PF K14 [] fun w14 K14=>?_
  refine AG ((k13:Int) == 4) (fun _=>?_) (fun _=>?_)
  ·skip
   refine AU [(0,.pointer (some ⟨b,0,none⟩)),(3,AI n),(5,.pointer (some ⟨w.heap.size,0,none⟩)),(8,.pointer (some ⟨w.heap.size + 1,0,none⟩)),(9,AI ((h + 1:Nat):Int)),(10,.pointer (some ⟨w7.heap.size,0,none⟩))] fun E9=>?_
   exact yk h0 hw h5 hs IH (fun _ _ hh=>hh) K14 ht
  refine AB UM K14 [] fun w14 K14=>?_
  refine AG ((k13:Int) == 5) (fun _=>?_) (fun _=>?_)
  ·skip
   refine AB UL K14 [] fun v9 J9=>?_
   refine AU [(0,.pointer (some ⟨b,0,none⟩)),(3,AI n),(5,.pointer (some ⟨w.heap.size,0,none⟩)),(8,.pointer (some ⟨w.heap.size + 1,0,none⟩)),(9,AI ((h + 1:Nat):Int)),(10,.pointer (some ⟨w7.heap.size,0,none⟩))] fun E9=>?_
   exact yl h0 hw h5 hs IH (fun _ _ hh=>hh) J9 ht
  refine AB UK K14 [(0,0)] fun w14 K14=>?_
  refine AQ K14 (args:=[]) (GC _) fun w14 K14=>?_
  refine Ae EO iP K14 [] fun w14 K14=>?_
  refine C4 (Cy (k:=.eql) (T:=56) (a:=.agg ⟨Av t⟩) (b:=.agg ⟨Av C1⟩) (D5 _ _ _ _ _ _ _ _ _)) ?_
  refine AB PE K14 [] fun w14 K14=>?_
  refine AG (Gp t C1) (fun cm=>?_) (fun cm=>?_)
  ·skip
   refine AU [(0,.pointer (some ⟨b,0,none⟩)),(3,AI n),(5,.pointer (some ⟨w.heap.size,0,none⟩)),(8,.pointer (some ⟨w.heap.size + 1,0,none⟩)),(9,AI ((h + 1:Nat):Int)),(10,.pointer (some ⟨w7.heap.size,0,none⟩))] fun E9=>?_
   exact yo h0 hw h5 hs IH (fun _ _ hh=>hh) K14 (IB cm)
  refine AB UJ K14 [] fun w14 K14=>?_
  refine AQ K14 (args:=[]) (GB _) fun w14 K14=>?_
  refine Ae EO iO K14 [] fun w14 K14=>?_
  refine C4 (Cy (k:=.eql) (T:=56) (a:=.agg ⟨Av t⟩) (b:=.agg ⟨Av CJ⟩) (D5 _ _ _ _ _ _ _ _ _)) ?_
  refine AB UI K14 [] fun w14 K14=>?_
  refine AG (Gp t CJ) (fun cr=>?_) (fun cr=>?_)
  ·refine AB iN K14 [] fun w14 K14=>?_
   refine BE K14 h0 0 rfl (args:=[.pointer (some ⟨b,0,none⟩),AI 2]) (BM b ns 2 _ (K14.tapeOk h0 0 rfl) (by omega) (by omega)) BQ.ok fun e w15 hq K15=>?_
   obtain ⟨k15,hk15,rfl,_,_⟩:=hq
   refine ⟨_,rfl,?_⟩
   refine AB MU K15 [] fun w15 K15=>?_
   refine AG ((k15:Int) == 0) (fun _=>?_) (fun _=>?_)
   ·skip
    refine AU [(0,.pointer (some ⟨b,0,none⟩)),(3,AI n),(5,.pointer (some ⟨w.heap.size,0,none⟩)),(8,.pointer (some ⟨w.heap.size + 1,0,none⟩)),(9,AI ((h + 1:Nat):Int)),(10,.pointer (some ⟨w7.heap.size,0,none⟩))] fun E9=>?_
    exact yf h0 hw h5 hs IH (fun _ _ hh=>hh) K15 (IB cr)
   refine AU [(0,.pointer (some ⟨b,0,none⟩)),(3,AI n),(5,.pointer (some ⟨w.heap.size,0,none⟩)),(8,.pointer (some ⟨w.heap.size + 1,0,none⟩)),(9,AI ((h + 1:Nat):Int)),(10,.pointer (some ⟨w7.heap.size,0,none⟩))] fun E9=>?_
   exact yi h0 hw h5 hs IH (fun _ _ hh=>hh) K15 (IB cr)
  refine AB UH K14 [] fun w14 K14=>?_
  refine AQ K14 (args:=[]) (Gn _) fun w14 K14=>?_
  refine Ae EO iK K14 [] fun w14 K14=>?_
  refine C4 (Cy (k:=.eql) (T:=56) (a:=.agg ⟨Av t⟩) (b:=.agg ⟨Av Bf⟩) (D5 _ _ _ _ _ _ _ _ _)) ?_
  refine AB PD K14 [] fun w14 K14=>?_
  refine AG (Gp t Bf) (fun cn=>?_) (fun cn=>?_)
  ·refine AB iJ K14 [] fun w14 K14=>?_
   refine BE K14 h0 0 rfl (args:=[.pointer (some ⟨b,0,none⟩),AI 2]) (BM b ns 2 _ (K14.tapeOk h0 0 rfl) (by omega) (by omega)) BQ.ok fun e w15 hq K15=>?_
   obtain ⟨k15,hk15,rfl,_,_⟩:=hq
   refine ⟨_,rfl,?_⟩
   refine AB PC K15 [] fun w15 K15=>?_
   refine AG ((k15:Int) == 0) (fun _=>?_) (fun _=>?_)
   ·skip
    refine AU [(0,.pointer (some ⟨b,0,none⟩)),(3,AI n),(5,.pointer (some ⟨w.heap.size,0,none⟩)),(8,.pointer (some ⟨w.heap.size + 1,0,none⟩)),(9,AI ((h + 1:Nat):Int)),(10,.pointer (some ⟨w7.heap.size,0,none⟩))] fun E9=>?_
    exact yg h0 hw h5 hs IH (fun _ _ hh=>hh) K15 (IB cn)
   refine AB UG K15 [] fun v9 J9=>?_
   refine AU [(0,.pointer (some ⟨b,0,none⟩)),(3,AI n),(5,.pointer (some ⟨w.heap.size,0,none⟩)),(8,.pointer (some ⟨w.heap.size + 1,0,none⟩)),(9,AI ((h + 1:Nat):Int)),(10,.pointer (some ⟨w7.heap.size,0,none⟩))] fun E9=>?_
   exact yt h0 hw h5 hs IH (fun _ _ hh=>hh) J9 (IB cn)
  have hh:t=ED:=by
   simp only [JJ,List.mem_cons,List.not_mem_nil,or_false] at h5
   rcases h5 with rfl | rfl | rfl | rfl | rfl
   ·cases cn
   ·cases cm
   ·rfl
   ·cases cr
   ·cases ht
  refine AU [(0,.pointer (some ⟨b,0,none⟩)),(3,AI n),(5,.pointer (some ⟨w.heap.size,0,none⟩)),(8,.pointer (some ⟨w.heap.size + 1,0,none⟩)),(9,AI ((h + 1:Nat):Int)),(10,.pointer (some ⟨w7.heap.size,0,none⟩))] fun E9=>?_
  exact yq h0 hw h5 hs IH (fun _ _ hh=>hh) K14 hh
end
end Go.Proofs.YtkjbdagicjbjjaaGreat

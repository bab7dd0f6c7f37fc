/- Contracts of functions, part 14. -/
import Derived.Test.YtkpemkkbjfbmaaaGreatMc13
set_option linter.all false
namespace Go.Proofs.YtkpemkkbjfbmaaaGreat
open List
noncomputable section
open Go.RowKit
set_option maxRecDepth 100000
set_option maxHeartbeats 2000000
attribute [local irreducible] BI BQ AD AE AG Au Ab AO A8 Bi Ct BX EE EH DW BO At Fr
noncomputable def SY:Code:=Tryz.f23.body.getD .skip
def sg:=ν [.code SY]
def Qb:=Ψ sg
def sf:=Θ Qb
def AEO:=Ψ sf
def se:=Ξ Qb
def AEN:=AD se
def AEM:=AD AEN
def AEL:=AD AEM
def cj:=Ψ AEL
def sb:=AB (Aq (Aa) 90 (AD cj)) (AD cj)
def jy:=ν (AD (AD sb))
def Vs:=Ψ jy
def Vr:=Θ Vs
def Vq:=Ξ Vs
def jx:=Θ Vq
def jw:=Ψ jx
def Qa:=Ξ jw
def QZ:=Θ Qa
def Vp:=Ξ Qa
def Vo:=Θ Vp
def Vn:=Ξ Vp
def Vm:=Θ Vn
def QY:=Ξ Vn
def Vl:=Ξ QY
def jv:=Ξ Vq
def ju:=Ψ jv
def QX:=Ξ ju
def QW:=Θ QX
def Vk:=Ξ QX
def Vj:=Θ Vk
def Vi:=Ξ Vk
def Vh:=Θ Vi
def QV:=Ξ Vi
def Vg:=Ξ QV
def Vf:=Θ Vg
def Ve:=Ξ Vg
def jt:=AB (Aq (GM) 90 (AD Ve)) (AD Ve)
def QU:=Ψ jt
def Vd:=Ξ QU
def js:=AB (Aq (GM) 90 (AD Vd)) (AD Vd)
def Vc:=Ψ js
def jr:=Θ Vc
def Nf:=Ψ jr
def Vb:=Ξ Vc
def jq:=AB (Aq (GM) 90 (AD Vb)) (AD Vb)
def QT:=Ψ jq
def jp:=Θ QT
def QS:=Ψ jp
def Va:=Ξ QS
def zP:=Ω Vr
def zO:=Ω QZ
def zN:=Ω Vo
def zM:=Ω Vm
def zL:=Ω Vl
def zK:=Ω QW
def zJ:=Ω Vj
def zI:=Ω Vh
def zH:=Ω Vf
def zG:=Ω Va
def jo:=Θ QY
def zF:=Ψ jo
def jn:=Θ QV
def zE:=Ψ jn
def jm:=Θ QU
def jl:=Ψ jm
def jk:=Ψ jl
def jj:=Ψ jk
def ji:=Ψ jj
def zD:=Ψ ji
def jh:=Θ Nf
def jg:=Ψ jh
def zC:=Ψ jg
def jf:=Ξ Nf
def je:=Ψ jf
def jd:=Ψ je
def jc:=Ψ jd
def jb:=Ψ jc
def zB:=Ψ jb
def ja:=Θ QS
def jZ:=Ψ ja
def zA:=Ψ jZ
def jY:=Ξ QT
def jX:=Ψ jY
def jW:=Ψ jX
def jV:=Ψ jW
def jU:=Ψ jV
def y9:=Ψ jU
abbrev JK (t s:Ty) (w:World) (sB:Nat) (r:List Value):List Ax:=[N (U w) (BE t) 65,N (U w+1) r 70,N sB (BE s) 65]
abbrev Jw (b:Nat) (n:Int) (w:World) (h sB:Nat):List (Nat×Value):=[(0,Z b),(3,J n),(5,Z (U w)),(8,Z (U w+1)),(9,J ((h+1:Nat):Int)),(10,Z sB)]
set_option linter.unusedSectionVars false
section
variable {R:Ending->World->Prop} {b:Nat} {ns:List Int} {n:Int} {h:Nat} {t s:Ty} {w w0 w1:World} {sB:Nat} {E:Nat->Value} (h0:w0.heap.size=b) (hw:Below w0.heap.size w0 w) (h5:t∈Ek) (hs:s∈L7) (IH:∀s∈Ek,∀u,Br b ns u->Calls Tryz.prog 23 ([.pointer (some ⟨b,0,none⟩),.agg ⟨BE s⟩,.int .i64 ((h+1:Nat):Int),.int .i64 n]:List Value).toArray u (LY b ns n (h+1) s u)) (hR:∀e w',LY b ns n (h+2) t w e w'->R e w') (K:Wk w0 w1 (JK t s w sB (Ad BU none 0)) [BV w0 b ns,CI b w] [])
include h0 hw h5 hs IH hR K
theorem ACu (ht:t=DB):At Tryz.prog 23 R Vo (Fr 275 (BN E (Jw b n w h sB))) w1:=by
 have hb:b<(U w1):=(K.tapeOk h0 0 rfl).lt;refine FJ K h0 0 rfl [0,1,2,3,4,5,6,7,8,9] (JK t s w sB (Ad BU none 0)) [(1,0,0),(6,0,0)] [(4,CO (U w1) n (h+1) t),(9,CO (U w1) n (h+1) t)] 2 (λu hu=>hu.G) (λp f=>?_) (λp f X u hu a hf=>?_) λX u hu a hf=>?_
 ·simp only[mem_cons,not_mem_nil,or_false]at f;rcases f with rfl | rfl
  ·exact CO.but hb
  exact CO.but hb
 ·have o:=hu.tapeOk h0 0 rfl;simp only[mem_cons,not_mem_nil,or_false]at f;rcases f with rfl | rfl
  ·exact CF (xs:=[.tmp 76,.tmp 77,.tmp 78,.tmp 79]) (args:=[Z b,D (BE t),J ((h+1:Nat):Int),J n]) ((IH t h5 u o).mono λe w' i=>EN a.size i) rfl
  exact CF (xs:=[.tmp 81,.tmp 82,.tmp 83,.tmp 84]) (args:=[Z b,D (BE t),J ((h+1:Nat):Int),J n]) ((IH t h5 u o).mono λe w' i=>EN a.size i) rfl
 obtain⟨x,m,k,e1,g1,v⟩:CO (U w1) n (h+1) t (X 4) u:=hf 4 (by simp) rfl;obtain⟨y,l,j,e2,g2,r⟩:CO (U w1) n (h+1) t (X 9) u:=hf 9 (by simp) rfl;refine Bk [(8,Z (U w+1)),(80,X 4),(85,X 9)] λE2=>?_;rw[e1,e2];have K3:=K.trees hu a.size [(x,Ad x m k),(y,Ad y l j)] (by simp[v,r]);refine GU 10 43 [.const (J 12),.tmp 80,.tmp 85] [J 12,D (Ad x m k),D (Ad y l j)] ((Kr 12 x y m l k j u).mono λe w' i=>?_);obtain⟨g,rfl,bt,q⟩:=i;have hg:=(q.lo 0 _ rfl g rfl).1;have K4:=K3.join bt q;refine⟨_,rfl,EL K4 [(11,1,0)] (λ_=>(JK t s w sB (Ad (.mk 12 0 0 0 0 0 [] 0 0 [x,y]) (θ g) 2))) λz w5 K5=>?_⟩;refine AC zN K5 [] λw6 c=>?_;have d:=(K.out h0 hw).2.size;exact AN c (1,0) (D (Ad (.mk 12 0 0 0 0 0 [] 0 0 [x,y]) (θ g) 2)) (hR _ _ (.node (xs:=[(x,Ad x m k),(y,Ad y l j)]) (.two (h+1) 12 t t t x y (.inr (.inl ⟨by decide,ht,ht,ht⟩)) g1 g2) rfl (FW.ex (c.H.all (c.ix 2) _ (c.at 2 rfl)) d) (Nat.le_trans d (Nat.le_trans a.size hg)) (c.H.all (c.ix 3) _ (c.at 3 rfl)) (c.out h0 hw)))
theorem AGQ (ht:t=DB):At Tryz.prog 23 R Vm (Fr 275 (BN E (Jw b n w h sB))) w1:=by
 have hb:b<(U w1):=(K.tapeOk h0 0 rfl).lt;refine FJ K h0 0 rfl [0,1,2,3,4,5,6,7,8,9] (JK t s w sB (Ad BU none 0)) [(1,0,0),(6,0,0)] [(4,CO (U w1) n (h+1) t),(9,CO (U w1) n (h+1) t)] 2 (λu hu=>hu.G) (λp f=>?_) (λp f X u hu a hf=>?_) λX u hu a hf=>?_
 ·simp only[mem_cons,not_mem_nil,or_false]at f;rcases f with rfl | rfl
  ·exact CO.but hb
  exact CO.but hb
 ·have o:=hu.tapeOk h0 0 rfl;simp only[mem_cons,not_mem_nil,or_false]at f;rcases f with rfl | rfl
  ·exact CF (xs:=[.tmp 89,.tmp 90,.tmp 91,.tmp 92]) (args:=[Z b,D (BE t),J ((h+1:Nat):Int),J n]) ((IH t h5 u o).mono λe w' i=>EN a.size i) rfl
  exact CF (xs:=[.tmp 94,.tmp 95,.tmp 96,.tmp 97]) (args:=[Z b,D (BE t),J ((h+1:Nat):Int),J n]) ((IH t h5 u o).mono λe w' i=>EN a.size i) rfl
 obtain⟨x,m,k,e1,g1,v⟩:CO (U w1) n (h+1) t (X 4) u:=hf 4 (by simp) rfl;obtain⟨y,l,j,e2,g2,r⟩:CO (U w1) n (h+1) t (X 9) u:=hf 9 (by simp) rfl;refine Bk [(8,Z (U w+1)),(93,X 4),(98,X 9)] λE2=>?_;rw[e1,e2];have K3:=K.trees hu a.size [(x,Ad x m k),(y,Ad y l j)] (by simp[v,r]);refine GU 10 43 [.const (J 13),.tmp 93,.tmp 98] [J 13,D (Ad x m k),D (Ad y l j)] ((Kr 13 x y m l k j u).mono λe w' i=>?_);obtain⟨g,rfl,bt,q⟩:=i;have hg:=(q.lo 0 _ rfl g rfl).1;have K4:=K3.join bt q;refine⟨_,rfl,EL K4 [(11,1,0)] (λ_=>(JK t s w sB (Ad (.mk 13 0 0 0 0 0 [] 0 0 [x,y]) (θ g) 2))) λz w5 K5=>?_⟩;refine AC zM K5 [] λw6 c=>?_;have d:=(K.out h0 hw).2.size;exact AN c (1,0) (D (Ad (.mk 13 0 0 0 0 0 [] 0 0 [x,y]) (θ g) 2)) (hR _ _ (.node (xs:=[(x,Ad x m k),(y,Ad y l j)]) (.two (h+1) 13 t t t x y (.inr (.inl ⟨by decide,ht,ht,ht⟩)) g1 g2) rfl (FW.ex (c.H.all (c.ix 2) _ (c.at 2 rfl)) d) (Nat.le_trans d (Nat.le_trans a.size hg)) (c.H.all (c.ix 3) _ (c.at 3 rfl)) (c.out h0 hw)))
theorem ACs (ht:t=DB):At Tryz.prog 23 R Vl (Fr 275 (BN E (Jw b n w h sB))) w1:=by
 have hb:b<(U w1):=(K.tapeOk h0 0 rfl).lt;refine FJ K h0 0 rfl [0,1,2,3,4,5,6,7,8,9] (JK t s w sB (Ad BU none 0)) [(1,0,0),(6,0,0)] [(4,CO (U w1) n (h+1) t),(9,CO (U w1) n (h+1) t)] 2 (λu hu=>hu.G) (λp f=>?_) (λp f X u hu a hf=>?_) λX u hu a hf=>?_
 ·simp only[mem_cons,not_mem_nil,or_false]at f;rcases f with rfl | rfl
  ·exact CO.but hb
  exact CO.but hb
 ·have o:=hu.tapeOk h0 0 rfl;simp only[mem_cons,not_mem_nil,or_false]at f;rcases f with rfl | rfl
  ·exact CF (xs:=[.tmp 109,.tmp 110,.tmp 111,.tmp 112]) (args:=[Z b,D (BE t),J ((h+1:Nat):Int),J n]) ((IH t h5 u o).mono λe w' i=>EN a.size i) rfl
  exact CF (xs:=[.tmp 114,.tmp 115,.tmp 116,.tmp 117]) (args:=[Z b,D (BE t),J ((h+1:Nat):Int),J n]) ((IH t h5 u o).mono λe w' i=>EN a.size i) rfl
 obtain⟨x,m,k,e1,g1,v⟩:CO (U w1) n (h+1) t (X 4) u:=hf 4 (by simp) rfl;obtain⟨y,l,j,e2,g2,r⟩:CO (U w1) n (h+1) t (X 9) u:=hf 9 (by simp) rfl;refine Bk [(8,Z (U w+1)),(113,X 4),(118,X 9)] λE2=>?_;rw[e1,e2];have K3:=K.trees hu a.size [(x,Ad x m k),(y,Ad y l j)] (by simp[v,r]);refine GU 10 43 [.const (J 11),.tmp 113,.tmp 118] [J 11,D (Ad x m k),D (Ad y l j)] ((Kr 11 x y m l k j u).mono λe w' i=>?_);obtain⟨g,rfl,bt,q⟩:=i;have hg:=(q.lo 0 _ rfl g rfl).1;have K4:=K3.join bt q;refine⟨_,rfl,EL K4 [(11,1,0)] (λ_=>(JK t s w sB (Ad (.mk 11 0 0 0 0 0 [] 0 0 [x,y]) (θ g) 2))) λz w5 K5=>?_⟩;refine AC zL K5 [] λw6 c=>?_;have d:=(K.out h0 hw).2.size;exact AN c (1,0) (D (Ad (.mk 11 0 0 0 0 0 [] 0 0 [x,y]) (θ g) 2)) (hR _ _ (.node (xs:=[(x,Ad x m k),(y,Ad y l j)]) (.two (h+1) 11 t t t x y (.inr (.inl ⟨by decide,ht,ht,ht⟩)) g1 g2) rfl (FW.ex (c.H.all (c.ix 2) _ (c.at 2 rfl)) d) (Nat.le_trans d (Nat.le_trans a.size hg)) (c.H.all (c.ix 3) _ (c.at 3 rfl)) (c.out h0 hw)))
theorem ACt (ht:t=BT):At Tryz.prog 23 R Va (Fr 275 (BN E (Jw b n w h sB))) w1:=by
 have hb:b<(U w1):=(K.tapeOk h0 0 rfl).lt;refine FJ K h0 0 rfl [0,1,2,3,4,5,6,7,8,9] (JK t s w sB (Ad BU none 0)) [(1,2,0),(6,2,0)] [(4,CO (U w1) n (h+1) s),(9,CO (U w1) n (h+1) s)] 2 (λu hu=>hu.G) (λp f=>?_) (λp f X u hu a hf=>?_) λX u hu a hf=>?_
 ·simp only[mem_cons,not_mem_nil,or_false]at f;rcases f with rfl | rfl
  ·exact CO.but hb
  exact CO.but hb
 ·have o:=hu.tapeOk h0 0 rfl;simp only[mem_cons,not_mem_nil,or_false]at f;rcases f with rfl | rfl
  ·exact CF (xs:=[.tmp 253,.tmp 254,.tmp 255,.tmp 256]) (args:=[Z b,D (BE s),J ((h+1:Nat):Int),J n]) ((IH s (Nc hs) u o).mono λe w' i=>EN a.size i) rfl
  exact CF (xs:=[.tmp 258,.tmp 259,.tmp 260,.tmp 261]) (args:=[Z b,D (BE s),J ((h+1:Nat):Int),J n]) ((IH s (Nc hs) u o).mono λe w' i=>EN a.size i) rfl
 obtain⟨x,m,k,e1,g1,v⟩:CO (U w1) n (h+1) s (X 4) u:=hf 4 (by simp) rfl;obtain⟨y,l,j,e2,g2,r⟩:CO (U w1) n (h+1) s (X 9) u:=hf 9 (by simp) rfl;refine Bk [(8,Z (U w+1)),(257,X 4),(262,X 9)] λE2=>?_;rw[e1,e2];have K3:=K.trees hu a.size [(x,Ad x m k),(y,Ad y l j)] (by simp[v,r]);refine GU 10 43 [.const (J 8),.tmp 257,.tmp 262] [J 8,D (Ad x m k),D (Ad y l j)] ((Kr 8 x y m l k j u).mono λe w' i=>?_);obtain⟨g,rfl,bt,q⟩:=i;have hg:=(q.lo 0 _ rfl g rfl).1;have K4:=K3.join bt q;refine⟨_,rfl,EL K4 [(11,1,0)] (λ_=>(JK t s w sB (Ad (.mk 8 0 0 0 0 0 [] 0 0 [x,y]) (θ g) 2))) λz w5 K5=>?_⟩;refine AC zG K5 [] λw6 c=>?_;have d:=(K.out h0 hw).2.size;exact AN c (1,0) (D (Ad (.mk 8 0 0 0 0 0 [] 0 0 [x,y]) (θ g) 2)) (hR _ _ (.node (xs:=[(x,Ad x m k),(y,Ad y l j)]) (.two (h+1) 8 t s s x y (.inr (.inr (.inr (.inr (.inr (.inr (.inl ⟨rfl,ht,rfl,hs⟩))))))) g1 g2) rfl (FW.ex (c.H.all (c.ix 2) _ (c.at 2 rfl)) d) (Nat.le_trans d (Nat.le_trans a.size hg)) (c.H.all (c.ix 3) _ (c.at 3 rfl)) (c.out h0 hw)))
theorem mw (ht:t=DB):At Tryz.prog 23 R QZ (Fr 275 (BN E (Jw b n w h sB))) w1:=by
 have hb:b<(U w1):=(K.tapeOk h0 0 rfl).lt;refine FJ K h0 0 rfl [0,1,2,3,4,5,6,7,8,9,10,11,12] (JK t s w sB (Ad BU none 0)) [(4,2,0),(9,2,0)] [(1,Fm b [J 9,J 10,J 11] 3 3),(2,Lg [9,10,11]),(7,CO (U w1) n (h+1) s),(12,CO (U w1) n (h+1) s)] 2 (λu hu=>hu.G) (λp f=>?_) (λp f X u hu a hf=>?_) λX u hu a hf=>?_
 ·simp only[mem_cons,not_mem_nil,or_false]at f;rcases f with rfl | rfl | rfl | rfl
  ·exact Fm.but
  ·exact λ_ _ _ _ h=>h
  ·exact CO.but hb
  exact CO.but hb
 ·have j:=hu.tapeOk h0 0 rfl;simp only[mem_cons,not_mem_nil,or_false]at f;rcases f with rfl | rfl | rfl | rfl
  ·exact IB (λz=>φ z 3 3) [J 9,J 10,J 11] 3 (λw' hB hg=>⟨j.below hB,.of_below hB,U u,rfl,Nat.ne_of_gt j.lt,hg⟩) (by intro z;kernel_rfl)
  ·obtain⟨g,v,r,q⟩:Fm b [J 9,J 10,J 11] 3 3 (X 1) u:=hf 1 (by kernel_rfl) rfl;refine CF (g:=44) (xs:=[.tmp 60,.tmp 61]) (args:=[Z b,X 1]) ?_ rfl;rw[v];exact(Ji b ns g [9,10,11] 3 u j r (by decide) (by decide) q).mono λe w' ⟨y,q1,q2,q3,q4⟩=>⟨_,q2,q3,q4,y,q1,rfl⟩
  ·exact CF (xs:=[.tmp 63,.tmp 64,.tmp 65,.tmp 66]) (args:=[Z b,D (BE s),J ((h+1:Nat):Int),J n]) ((IH s (Nc hs) u j).mono λe w' i=>EN a.size i) rfl
  exact CF (xs:=[.tmp 68,.tmp 69,.tmp 70,.tmp 71]) (args:=[Z b,D (BE s),J ((h+1:Nat):Int),J n]) ((IH s (Nc hs) u j).mono λe w' i=>EN a.size i) rfl
 obtain⟨x,o,l,v,g1,t1⟩:CO (U w1) n (h+1) s (X 7) u:=hf 7 (by simp) rfl;obtain⟨y,m,k,r,g2,t2⟩:CO (U w1) n (h+1) s (X 12) u:=hf 12 (by simp) rfl;obtain⟨op,hop,q⟩:Lg [9,10,11] (X 2) u:=hf 2 (by simp) rfl;refine Bk [(8,Z (U w+1)),(62,X 2),(67,X 7),(72,X 12)] λE2=>?_;rw[v,r,q];have K3:=K.trees hu a.size [(x,Ad x o l),(y,Ad y m k)] (by simp[t1,t2]);refine GU 13 43 [.tmp 62,.tmp 67,.tmp 72] [J op,D (Ad x o l),D (Ad y m k)] ((Kr op x y o m l k u).mono λe w' i=>?_);obtain⟨g,rfl,bt,Ht⟩:=i;have hg:=(Ht.lo 0 _ rfl g rfl).1;have K4:=K3.join bt Ht;refine⟨_,rfl,EL K4 [(14,1,0)] (λ_=>(JK t s w sB (Ad (.mk op 0 0 0 0 0 [] 0 0 [x,y]) (θ g) 2))) λz w5 K5=>?_⟩;refine AC zO K5 [] λw6 c=>?_;have d:=(K.out h0 hw).2.size;exact AN c (1,0) (D (Ad (.mk op 0 0 0 0 0 [] 0 0 [x,y]) (θ g) 2)) (hR _ _ (.node (xs:=[(x,Ad x o l),(y,Ad y m k)]) (.two (h+1) op t s s x y (.inl ⟨by simpa using hop,ht,rfl,hs⟩) g1 g2) rfl (FW.ex (c.H.all (c.ix 2) _ (c.at 2 rfl)) d) (Nat.le_trans d (Nat.le_trans a.size hg)) (c.H.all (c.ix 3) _ (c.at 3 rfl)) (c.out h0 hw)))
theorem mx (ht:t.1=false):At Tryz.prog 23 R QW (Fr 275 (BN E (Jw b n w h sB))) w1:=by
 have hb:b<(U w1):=(K.tapeOk h0 0 rfl).lt;refine FJ K h0 0 rfl [0,1,2,3,4,5,6,7,8,9,10,11,12] (JK t s w sB (Ad BU none 0)) [(4,0,0),(9,0,0)] [(1,Fm b [J 5,J 6] 3 2),(2,Lg [5,6]),(7,CO (U w1) n (h+1) t),(12,CO (U w1) n (h+1) t)] 2 (λu hu=>hu.G) (λp f=>?_) (λp f X u hu a hf=>?_) λX u hu a hf=>?_
 ·simp only[mem_cons,not_mem_nil,or_false]at f;rcases f with rfl | rfl | rfl | rfl
  ·exact Fm.but
  ·exact λ_ _ _ _ h=>h
  ·exact CO.but hb
  exact CO.but hb
 ·have j:=hu.tapeOk h0 0 rfl;simp only[mem_cons,not_mem_nil,or_false]at f;rcases f with rfl | rfl | rfl | rfl
  ·exact IB (λz=>φ z 2 2) [J 5,J 6] 3 (λw' hB hg=>⟨j.below hB,.of_below hB,U u,rfl,Nat.ne_of_gt j.lt,hg⟩) (by intro z;kernel_rfl)
  ·obtain⟨g,v,r,q⟩:Fm b [J 5,J 6] 3 2 (X 1) u:=hf 1 (by kernel_rfl) rfl;refine CF (g:=44) (xs:=[.tmp 125,.tmp 126]) (args:=[Z b,X 1]) ?_ rfl;rw[v];exact(Ji b ns g [5,6] 2 u j r (by decide) (by decide) q).mono λe w' ⟨y,q1,q2,q3,q4⟩=>⟨_,q2,q3,q4,y,q1,rfl⟩
  ·exact CF (xs:=[.tmp 128,.tmp 129,.tmp 130,.tmp 131]) (args:=[Z b,D (BE t),J ((h+1:Nat):Int),J n]) ((IH t h5 u j).mono λe w' i=>EN a.size i) rfl
  exact CF (xs:=[.tmp 133,.tmp 134,.tmp 135,.tmp 136]) (args:=[Z b,D (BE t),J ((h+1:Nat):Int),J n]) ((IH t h5 u j).mono λe w' i=>EN a.size i) rfl
 obtain⟨x,o,l,v,g1,t1⟩:CO (U w1) n (h+1) t (X 7) u:=hf 7 (by simp) rfl;obtain⟨y,m,k,r,g2,t2⟩:CO (U w1) n (h+1) t (X 12) u:=hf 12 (by simp) rfl;obtain⟨op,hop,q⟩:Lg [5,6] (X 2) u:=hf 2 (by simp) rfl;refine Bk [(8,Z (U w+1)),(127,X 2),(132,X 7),(137,X 12)] λE2=>?_;rw[v,r,q];have K3:=K.trees hu a.size [(x,Ad x o l),(y,Ad y m k)] (by simp[t1,t2]);refine GU 13 43 [.tmp 127,.tmp 132,.tmp 137] [J op,D (Ad x o l),D (Ad y m k)] ((Kr op x y o m l k u).mono λe w' i=>?_);obtain⟨g,rfl,bt,Ht⟩:=i;have hg:=(Ht.lo 0 _ rfl g rfl).1;have K4:=K3.join bt Ht;refine⟨_,rfl,EL K4 [(14,1,0)] (λ_=>(JK t s w sB (Ad (.mk op 0 0 0 0 0 [] 0 0 [x,y]) (θ g) 2))) λz w5 K5=>?_⟩;refine AC zK K5 [] λw6 c=>?_;have d:=(K.out h0 hw).2.size;exact AN c (1,0) (D (Ad (.mk op 0 0 0 0 0 [] 0 0 [x,y]) (θ g) 2)) (hR _ _ (.node (xs:=[(x,Ad x o l),(y,Ad y m k)]) (.two (h+1) op t t t x y (.inr (.inr (.inl ⟨by simp at hop;omega,ht,rfl,rfl⟩))) g1 g2) rfl (FW.ex (c.H.all (c.ix 2) _ (c.at 2 rfl)) d) (Nat.le_trans d (Nat.le_trans a.size hg)) (c.H.all (c.ix 3) _ (c.at 3 rfl)) (c.out h0 hw)))
theorem ACq (ht:t.1=false):At Tryz.prog 23 R Vj (Fr 275 (BN E (Jw b n w h sB))) w1:=by
 have hb:b<(U w1):=(K.tapeOk h0 0 rfl).lt;refine FJ K h0 0 rfl [0,1,2,3,4,5,6,7,8,9,10,11,12] (JK t s w sB (Ad BU none 0)) [(4,0,0),(9,0,0)] [(1,Fm b [J 14,J 15] 3 2),(2,Lg [14,15]),(7,CO (U w1) n (h+1) t),(12,CO (U w1) n (h+1) t)] 2 (λu hu=>hu.G) (λp f=>?_) (λp f X u hu a hf=>?_) λX u hu a hf=>?_
 ·simp only[mem_cons,not_mem_nil,or_false]at f;rcases f with rfl | rfl | rfl | rfl
  ·exact Fm.but
  ·exact λ_ _ _ _ h=>h
  ·exact CO.but hb
  exact CO.but hb
 ·have j:=hu.tapeOk h0 0 rfl;simp only[mem_cons,not_mem_nil,or_false]at f;rcases f with rfl | rfl | rfl | rfl
  ·exact IB (λz=>φ z 2 2) [J 14,J 15] 3 (λw' hB hg=>⟨j.below hB,.of_below hB,U u,rfl,Nat.ne_of_gt j.lt,hg⟩) (by intro z;kernel_rfl)
  ·obtain⟨g,v,r,q⟩:Fm b [J 14,J 15] 3 2 (X 1) u:=hf 1 (by kernel_rfl) rfl;refine CF (g:=44) (xs:=[.tmp 141,.tmp 142]) (args:=[Z b,X 1]) ?_ rfl;rw[v];exact(Ji b ns g [14,15] 2 u j r (by decide) (by decide) q).mono λe w' ⟨y,q1,q2,q3,q4⟩=>⟨_,q2,q3,q4,y,q1,rfl⟩
  ·exact CF (xs:=[.tmp 144,.tmp 145,.tmp 146,.tmp 147]) (args:=[Z b,D (BE t),J ((h+1:Nat):Int),J n]) ((IH t h5 u j).mono λe w' i=>EN a.size i) rfl
  exact CF (xs:=[.tmp 149,.tmp 150,.tmp 151,.tmp 152]) (args:=[Z b,D (BE t),J ((h+1:Nat):Int),J n]) ((IH t h5 u j).mono λe w' i=>EN a.size i) rfl
 obtain⟨x,o,l,v,g1,t1⟩:CO (U w1) n (h+1) t (X 7) u:=hf 7 (by simp) rfl;obtain⟨y,m,k,r,g2,t2⟩:CO (U w1) n (h+1) t (X 12) u:=hf 12 (by simp) rfl;obtain⟨op,hop,q⟩:Lg [14,15] (X 2) u:=hf 2 (by simp) rfl;refine Bk [(8,Z (U w+1)),(143,X 2),(148,X 7),(153,X 12)] λE2=>?_;rw[v,r,q];have K3:=K.trees hu a.size [(x,Ad x o l),(y,Ad y m k)] (by simp[t1,t2]);refine GU 13 43 [.tmp 143,.tmp 148,.tmp 153] [J op,D (Ad x o l),D (Ad y m k)] ((Kr op x y o m l k u).mono λe w' i=>?_);obtain⟨g,rfl,bt,Ht⟩:=i;have hg:=(Ht.lo 0 _ rfl g rfl).1;have K4:=K3.join bt Ht;refine⟨_,rfl,EL K4 [(14,1,0)] (λ_=>(JK t s w sB (Ad (.mk op 0 0 0 0 0 [] 0 0 [x,y]) (θ g) 2))) λz w5 K5=>?_⟩;refine AC zJ K5 [] λw6 c=>?_;have d:=(K.out h0 hw).2.size;exact AN c (1,0) (D (Ad (.mk op 0 0 0 0 0 [] 0 0 [x,y]) (θ g) 2)) (hR _ _ (.node (xs:=[(x,Ad x o l),(y,Ad y m k)]) (.two (h+1) op t t t x y (.inr (.inr (.inl ⟨by simp at hop;omega,ht,rfl,rfl⟩))) g1 g2) rfl (FW.ex (c.H.all (c.ix 2) _ (c.at 2 rfl)) d) (Nat.le_trans d (Nat.le_trans a.size hg)) (c.H.all (c.ix 3) _ (c.at 3 rfl)) (c.out h0 hw)))
theorem ACo (ht:t.1=false):At Tryz.prog 23 R Vf (Fr 275 (BN E (Jw b n w h sB))) w1:=by
 have hb:b<(U w1):=(K.tapeOk h0 0 rfl).lt;refine FJ K h0 0 rfl [0,1,2,3,4,5,6,7,8,9,10,11,12] (JK t s w sB (Ad BU none 0)) [(4,0,0)] [(1,Fm b [J 7,J 8] 3 2),(2,Lg [7,8]),(7,CO (U w1) n (h+1) t),(9,λv _=>v=D (BE BT)),(12,CO (U w1) n (h+1) BT)] 2 (λu hu=>hu.G) (λp i=>?_) (λp i X u hu a hf=>?_) λX u hu a hf=>?_
 ·simp only[mem_cons,not_mem_nil,or_false]at i;rcases i with rfl | rfl | rfl | rfl | rfl
  ·exact Fm.but
  ·exact λ_ _ _ _ h=>h
  ·exact CO.but hb
  ·exact λ_ _ _ _ h=>h
  exact CO.but hb
 ·have d:=hu.tapeOk h0 0 rfl;simp only[mem_cons,not_mem_nil,or_false]at i;rcases i with rfl | rfl | rfl | rfl | rfl
  ·exact IB (λz=>φ z 2 2) [J 7,J 8] 3 (λw' hB hg=>⟨d.below hB,.of_below hB,U u,rfl,Nat.ne_of_gt d.lt,hg⟩) (by intro z;kernel_rfl)
  ·obtain⟨g,e1,r,q⟩:Fm b [J 7,J 8] 3 2 (X 1) u:=hf 1 (by kernel_rfl) rfl;refine CF (g:=44) (xs:=[.tmp 187,.tmp 188]) (args:=[Z b,X 1]) ?_ rfl;rw[e1];exact(Ji b ns g [7,8] 2 u d r (by decide) (by decide) q).mono λe w' ⟨y,q1,q2,q3,q4⟩=>⟨_,q2,q3,q4,y,q1,rfl⟩
  ·exact CF (xs:=[.tmp 190,.tmp 191,.tmp 192,.tmp 193]) (args:=[Z b,D (BE t),J ((h+1:Nat):Int),J n]) ((IH t h5 u d).mono λe w' j=>EN a.size j) rfl
  ·exact CF (xs:=[]) (args:=[]) (OQ d (Hf u)) rfl
  refine CF (g:=23) (xs:=[.tmp 195,.tmp 196,.tmp 197,.tmp 198]) (args:=[Z b,X 9,J ((h+1:Nat):Int),J n]) ?_ rfl;rw[show X 9=D (BE BT)from hf 9 (by kernel_rfl) rfl];exact(IH BT (by decide) u d).mono λe w' j=>EN a.size j
 obtain⟨x,o,l,e1,g1,t1⟩:CO (U w1) n (h+1) t (X 7) u:=hf 7 (by simp) rfl;obtain⟨y,m,k,r,g2,t2⟩:CO (U w1) n (h+1) BT (X 12) u:=hf 12 (by simp) rfl;obtain⟨op,hop,q⟩:Lg [7,8] (X 2) u:=hf 2 (by simp) rfl;refine Bk [(8,Z (U w+1)),(189,X 2),(194,X 7),(199,X 12)] λE2=>?_;rw[e1,r,q];have K3:=K.trees hu a.size [(x,Ad x o l),(y,Ad y m k)] (by simp[t1,t2]);refine GU 13 43 [.tmp 189,.tmp 194,.tmp 199] [J op,D (Ad x o l),D (Ad y m k)] ((Kr op x y o m l k u).mono λe w' j=>?_);obtain⟨g,rfl,bt,Ht⟩:=j;have hg:=(Ht.lo 0 _ rfl g rfl).1;have K4:=K3.join bt Ht;refine⟨_,rfl,EL K4 [(14,1,0)] (λ_=>(JK t s w sB (Ad (.mk op 0 0 0 0 0 [] 0 0 [x,y]) (θ g) 2))) λz w5 K5=>?_⟩;refine AC zH K5 [] λw6 c=>?_;have f:=(K.out h0 hw).2.size;exact AN c (1,0) (D (Ad (.mk op 0 0 0 0 0 [] 0 0 [x,y]) (θ g) 2)) (hR _ _ (.node (xs:=[(x,Ad x o l),(y,Ad y m k)]) (.two (h+1) op t t BT x y (.inr (.inr (.inr (.inl ⟨by simpa using hop,ht,rfl,rfl⟩)))) g1 g2) rfl (FW.ex (c.H.all (c.ix 2) _ (c.at 2 rfl)) f) (Nat.le_trans f (Nat.le_trans a.size hg)) (c.H.all (c.ix 3) _ (c.at 3 rfl)) (c.out h0 hw)))
theorem AGR:At Tryz.prog 23 R Vr (Fr 275 (BN E (Jw b n w h sB))) w1:=by
 have hb:b<(U w1):=(K.tapeOk h0 0 rfl).lt;refine FJ K h0 0 rfl [0,1,2,3,4,5,6,7,8,9,10,11,12,13,14] (JK t s w sB (Ad BU none 0)) [(6,0,0),(11,0,0)] [(1,λv _=>v=D (BE DB)),(4,CO (U w1) n (h+1) DB),(9,CO (U w1) n (h+1) t),(14,CO (U w1) n (h+1) t)] 3 (λu hu=>hu.G) (λp d=>?_) (λp d X u hu a hf=>?_) λX u hu a hf=>?_
 ·simp only[mem_cons,not_mem_nil,or_false]at d;rcases d with rfl | rfl | rfl | rfl
  ·exact λ_ _ _ _ h=>h
  ·exact CO.but hb
  ·exact CO.but hb
  exact CO.but hb
 ·have i:=hu.tapeOk h0 0 rfl;simp only[mem_cons,not_mem_nil,or_false]at d;rcases d with rfl | rfl | rfl | rfl
  ·exact CF (xs:=[]) (args:=[]) (OQ i (La u)) rfl
  ·refine CF (g:=23) (xs:=[.tmp 36,.tmp 37,.tmp 38,.tmp 39]) (args:=[Z b,X 1,J ((h+1:Nat):Int),J n]) ?_ rfl;rw[show X 1=D (BE DB)from hf 1 (by kernel_rfl) rfl];exact(IH DB (by decide) u i).mono λe w' f=>EN a.size f
  ·exact CF (xs:=[.tmp 41,.tmp 42,.tmp 43,.tmp 44]) (args:=[Z b,D (BE t),J ((h+1:Nat):Int),J n]) ((IH t h5 u i).mono λe w' f=>EN a.size f) rfl
  exact CF (xs:=[.tmp 46,.tmp 47,.tmp 48,.tmp 49]) (args:=[Z b,D (BE t),J ((h+1:Nat):Int),J n]) ((IH t h5 u i).mono λe w' f=>EN a.size f) rfl
 obtain⟨x,A1,m,e1,g1,t1⟩:CO (U w1) n (h+1) DB (X 4) u:=hf 4 (by simp) rfl;obtain⟨y,r,l,e2,g2,t2⟩:CO (U w1) n (h+1) t (X 9) u:=hf 9 (by simp) rfl;obtain⟨z,o,k,e3,g3,t3⟩:CO (U w1) n (h+1) t (X 14) u:=hf 14 (by simp) rfl;refine Bk [(8,Z (U w+1)),(40,X 4),(45,X 9),(50,X 14)] λE2=>?_;rw[e1,e2,e3];have K3:=K.trees hu a.size [(x,Ad x A1 m),(y,Ad y r l),(z,Ad z o k)] (by simp[t1,t2,t3]);refine EL K3 [(15,0,0),(16,0,0),(17,1,0)] (λq=>[N (U w) (BE t) 65,N (U w+1) (Ad (.mk 18 0 0 0 0 0 [] 0 0 [x,y,z]) (θ q) 3) 70,N sB (BE s) 65,N q ([Ad x A1 m,Ad y r l,Ad z o k].flatten) 70]) λq w5 K5=>?_;refine AC zP K5 [] λw6 c=>?_;have j:=(K.out h0 hw).2.size;exact AN c (1,0) (D (Ad (.mk 18 0 0 0 0 0 [] 0 0 [x,y,z]) (θ q) 3)) (hR _ _ (.node (xs:=[(x,Ad x A1 m),(y,Ad y r l),(z,Ad z o k)]) (.ite (h+1) t x y z g1 g2 g3) rfl (FW.ex (c.H.all (c.ix 2) _ (c.at 2 rfl)) j) (c.newer h0 3 rfl) (c.ent 3 rfl) (c.out h0 hw)))
theorem ACm (ht:t=DB):At Tryz.prog 23 R (AE QY) (Fr 275 (BN E (Jw b n w h sB))) w1:=by have i:=(K.out h0 hw).2.size;refine AC jo K [(0,0)] λq c=>?_;refine BS c h0 0 rfl (IH t h5 _ (c.tapeOk h0 0 rfl)) I9 λe d j m=>?_;obtain⟨x,g,f,rfl,k,t3,_,l⟩:=j;refine⟨_,rfl,?_⟩;have o:=c.trees m l.size [(x,Ad x g f)] (by simpa using t3);refine An zF [N (U w) (BE t) 65,N (U w+1) (Ad (.mk 17 0 0 0 0 0 [] 0 0 [x]) (some ⟨U d,0,none⟩) 1) 70,N sB (BE s) 65,N (U d) ([Ad x g f].flatten) 70] o [(1,0)] λp a=>?_;exact AN a (1,0) (D (Ad (.mk 17 0 0 0 0 0 [] 0 0 [x]) (some ⟨U d,0,none⟩) 1)) (hR _ _ (.node (xs:=[(x,Ad x g f)]) (ht ▸ .not (h+1) x (ht ▸ k)) rfl (FW.ex (a.H.all (a.ix 2) _ (a.at 2 rfl)) (c.out h0 hw).2.size) (a.newer h0 3 rfl) (a.ent 3 rfl) (a.out h0 hw)))
theorem ACn (ht:t.1=false):At Tryz.prog 23 R (AE QV) (Fr 275 (BN E (Jw b n w h sB))) w1:=by have i:=(K.out h0 hw).2.size;refine AC jn K [(0,0)] λq c=>?_;refine BS c h0 0 rfl (IH t h5 _ (c.tapeOk h0 0 rfl)) I9 λe d j m=>?_;obtain⟨x,g,f,rfl,k,t3,_,l⟩:=j;refine⟨_,rfl,?_⟩;have o:=c.trees m l.size [(x,Ad x g f)] (by simpa using t3);refine An zE [N (U w) (BE t) 65,N (U w+1) (Ad (.mk 16 0 0 0 0 0 [] 0 0 [x]) (some ⟨U d,0,none⟩) 1) 70,N sB (BE s) 65,N (U d) ([Ad x g f].flatten) 70] o [(1,0)] λp a=>?_;exact AN a (1,0) (D (Ad (.mk 16 0 0 0 0 0 [] 0 0 [x]) (some ⟨U d,0,none⟩) 1)) (hR _ _ (.node (xs:=[(x,Ad x g f)]) (.neg (h+1) t x ht k) rfl (FW.ex (a.H.all (a.ix 2) _ (a.at 2 rfl)) (c.out h0 hw).2.size) (a.newer h0 3 rfl) (a.ent 3 rfl) (a.out h0 hw)))
theorem ACi (ht:t=CH):At Tryz.prog 23 R (AE Nf) (Fr 275 (BN E (Jw b n w h sB))) w1:=by have j:=(K.out h0 hw).2.size;refine AC jh K [] λi r=>?_;refine AW r (args:=[]) (Hf _) λu p=>?_;refine AC jg p [] λi c=>?_;refine BS c h0 0 rfl (IH BT (by decide) _ (c.tapeOk h0 0 rfl)) I9 λe d k o=>?_;obtain⟨x,g,f,rfl,l,t3,_,m⟩:=k;refine⟨_,rfl,?_⟩;have q:=c.trees o m.size [(x,Ad x g f)] (by simpa using t3);refine An zC [N (U w) (BE t) 65,N (U w+1) (Ad (.mk 4 0 0 0 0 0 [119] 0 0 [x]) (some ⟨U d,0,none⟩) 1) 70,N sB (BE s) 65,N (U d) ([Ad x g f].flatten) 70] q [(1,0)] λv a=>?_;exact AN a (1,0) (D (Ad (.mk 4 0 0 0 0 0 [119] 0 0 [x]) (some ⟨U d,0,none⟩) 1)) (hR _ _ (.node (xs:=[(x,Ad x g f)]) (.scale (h+1) t [119] x (.inl ⟨ht,rfl⟩) l) rfl (FW.ex (a.H.all (a.ix 2) _ (a.at 2 rfl)) (c.out h0 hw).2.size) (a.newer h0 3 rfl) (a.ent 3 rfl) (a.out h0 hw)))
theorem ACj (ht:t=BT):At Tryz.prog 23 R (AE QS) (Fr 275 (BN E (Jw b n w h sB))) w1:=by have j:=(K.out h0 hw).2.size;refine AC ja K [] λi r=>?_;refine AW r (args:=[]) (Hf _) λu p=>?_;refine AC jZ p [] λi c=>?_;refine BS c h0 0 rfl (IH BT (by decide) _ (c.tapeOk h0 0 rfl)) I9 λe d k o=>?_;obtain⟨x,g,f,rfl,l,t3,_,m⟩:=k;refine⟨_,rfl,?_⟩;have q:=c.trees o m.size [(x,Ad x g f)] (by simpa using t3);refine An zA [N (U w) (BE t) 65,N (U w+1) (Ad (.mk 4 0 0 0 0 0 [115] 0 0 [x]) (some ⟨U d,0,none⟩) 1) 70,N sB (BE s) 65,N (U d) ([Ad x g f].flatten) 70] q [(1,0)] λv a=>?_;exact AN a (1,0) (D (Ad (.mk 4 0 0 0 0 0 [115] 0 0 [x]) (some ⟨U d,0,none⟩) 1)) (hR _ _ (.node (xs:=[(x,Ad x g f)]) (.scale (h+1) t [115] x (.inr ⟨ht,rfl⟩) l) rfl (FW.ex (a.H.all (a.ix 2) _ (a.at 2 rfl)) (c.out h0 hw).2.size) (a.newer h0 3 rfl) (a.ent 3 rfl) (a.out h0 hw)))
theorem ACp (ht:t=Cb):At Tryz.prog 23 R (AE QU) (Fr 275 (BN E (Jw b n w h sB))) w1:=by
 have b0:=(K.out h0 hw).2.size;refine AC jm K [] λz J2=>?_;refine AW J2 (args:=[]) (Iv _) λw9 J9=>?_;refine AC jl J9 [] λz j=>?_;refine BS j h0 0 rfl (IH Dn (by decide) _ (j.tapeOk h0 0 rfl)) I9 λe w3 o K3=>?_;obtain⟨x,l,f,rfl,g3,t3,_,b3⟩:=o;refine⟨_,rfl,?_⟩;have J3:=j.trees K3 b3.size [(x,Ad x l f)] (by simpa using t3);refine AC jk J3 [] λw4 J4=>?_;refine AW J4 (args:=[]) (Gv _) λw8 J8=>?_;refine AC jj J8 [] λw5 i=>?_;refine BS i h0 0 rfl (IH CH (by decide) _ (i.tapeOk h0 0 rfl)) I9 λe w6 o K6=>?_;obtain⟨y,k,d,rfl,g6,t6,_,b6⟩:=o;refine⟨_,rfl,?_⟩;have J6:=i.trees K6 b6.size [(y,Ad y k d)] (by simpa using t6);refine AC ji J6 [] λv r=>?_;refine BL (Kr 7 x y l k f d v) λe a0 hh=>?_;obtain⟨g,rfl,bt,u⟩:=hh;have hg:=(u.lo 0 _ rfl g rfl).1;have K8:=r.join bt u;refine⟨_,rfl,?_⟩;refine An zD [N (U w) (BE t) 65,N (U w+1) (Ad (.mk 7 0 0 0 0 0 [] 0 0 [x,y]) (θ g) 2) 70,N sB (BE s) 65] K8 [(1,0)] λm a=>?_;have p1:=FW.ex (a.H.all (a.ix 2) _ (a.at 2 rfl)) (j.out h0 hw).2.size;have p2:=FW.ex (a.H.all (a.ix 3) _ (a.at 3 rfl)) (i.out h0 hw).2.size;have c:∀p∈[(x,Ad x l f),(y,Ad y k d)],DD (λg=>w.heap.size<=g) m p.1 p.2:=λp q=>by
  rcases mem_cons.1 q with rfl | q
  ·exact p1 _ (by simp)
  exact p2 p q
 exact AN a (1,0) (D (Ad (.mk 7 0 0 0 0 0 [] 0 0 [x,y]) (θ g) 2)) (hR _ _ (.node (xs:=[(x,Ad x l f),(y,Ad y k d)]) (.two (h+1) 7 t Dn CH x y (.inr (.inr (.inr (.inr (.inl ⟨rfl,ht,rfl,rfl⟩))))) g3 g6) rfl c (Nat.le_trans (r.out h0 hw).2.size hg) (a.H.all (a.ix 4) _ (a.at 4 rfl)) (a.out h0 hw)))
theorem ACl (ht:t=CH):At Tryz.prog 23 R (AG Nf) (Fr 275 (BN E (Jw b n w h sB))) w1:=by
 have b0:=(K.out h0 hw).2.size;refine AC jf K [] λz J2=>?_;refine AW J2 (args:=[]) (Gw _) λw9 J9=>?_;refine AC je J9 [] λz j=>?_;refine BS j h0 0 rfl (IH Cb (by decide) _ (j.tapeOk h0 0 rfl)) I9 λe w3 o K3=>?_;obtain⟨x,l,f,rfl,g3,t3,_,b3⟩:=o;refine⟨_,rfl,?_⟩;have J3:=j.trees K3 b3.size [(x,Ad x l f)] (by simpa using t3);refine AC jd J3 [] λw4 J4=>?_;refine AW J4 (args:=[]) (Iv _) λw8 J8=>?_;refine AC jc J8 [] λw5 i=>?_;refine BS i h0 0 rfl (IH Dn (by decide) _ (i.tapeOk h0 0 rfl)) I9 λe w6 o K6=>?_;obtain⟨y,k,d,rfl,g6,t6,_,b6⟩:=o;refine⟨_,rfl,?_⟩;have J6:=i.trees K6 b6.size [(y,Ad y k d)] (by simpa using t6);refine AC jb J6 [] λv r=>?_;refine BL (Kr 8 x y l k f d v) λe a0 hh=>?_;obtain⟨g,rfl,bt,u⟩:=hh;have hg:=(u.lo 0 _ rfl g rfl).1;have K8:=r.join bt u;refine⟨_,rfl,?_⟩;refine An zB [N (U w) (BE t) 65,N (U w+1) (Ad (.mk 8 0 0 0 0 0 [] 0 0 [x,y]) (θ g) 2) 70,N sB (BE s) 65] K8 [(1,0)] λm a=>?_;have p1:=FW.ex (a.H.all (a.ix 2) _ (a.at 2 rfl)) (j.out h0 hw).2.size;have p2:=FW.ex (a.H.all (a.ix 3) _ (a.at 3 rfl)) (i.out h0 hw).2.size;have c:∀p∈[(x,Ad x l f),(y,Ad y k d)],DD (λg=>w.heap.size<=g) m p.1 p.2:=λp q=>by
  rcases mem_cons.1 q with rfl | q
  ·exact p1 _ (by simp)
  exact p2 p q
 exact AN a (1,0) (D (Ad (.mk 8 0 0 0 0 0 [] 0 0 [x,y]) (θ g) 2)) (hR _ _ (.node (xs:=[(x,Ad x l f),(y,Ad y k d)]) (.two (h+1) 8 t Cb Dn x y (.inr (.inr (.inr (.inr (.inr (.inl ⟨rfl,ht,rfl,rfl⟩)))))) g3 g6) rfl c (Nat.le_trans (r.out h0 hw).2.size hg) (a.H.all (a.ix 4) _ (a.at 4 rfl)) (a.out h0 hw)))
theorem ACr (ht:t=Dn):At Tryz.prog 23 R (AG QT) (Fr 275 (BN E (Jw b n w h sB))) w1:=by
 have b0:=(K.out h0 hw).2.size;refine AC jY K [] λz J2=>?_;refine AW J2 (args:=[]) (Gw _) λw9 J9=>?_;refine AC jX J9 [] λz j=>?_;refine BS j h0 0 rfl (IH Cb (by decide) _ (j.tapeOk h0 0 rfl)) I9 λe w3 o K3=>?_;obtain⟨x,l,f,rfl,g3,t3,_,b3⟩:=o;refine⟨_,rfl,?_⟩;have J3:=j.trees K3 b3.size [(x,Ad x l f)] (by simpa using t3);refine AC jW J3 [] λw4 J4=>?_;refine AW J4 (args:=[]) (Gv _) λw8 J8=>?_;refine AC jV J8 [] λw5 i=>?_;refine BS i h0 0 rfl (IH CH (by decide) _ (i.tapeOk h0 0 rfl)) I9 λe w6 o K6=>?_;obtain⟨y,k,d,rfl,g6,t6,_,b6⟩:=o;refine⟨_,rfl,?_⟩;have J6:=i.trees K6 b6.size [(y,Ad y k d)] (by simpa using t6);refine AC jU J6 [] λv r=>?_;refine BL (Kr 8 x y l k f d v) λe a0 hh=>?_;obtain⟨g,rfl,bt,u⟩:=hh;have hg:=(u.lo 0 _ rfl g rfl).1;have K8:=r.join bt u;refine⟨_,rfl,?_⟩;refine An y9 [N (U w) (BE t) 65,N (U w+1) (Ad (.mk 8 0 0 0 0 0 [] 0 0 [x,y]) (θ g) 2) 70,N sB (BE s) 65] K8 [(1,0)] λm a=>?_;have p1:=FW.ex (a.H.all (a.ix 2) _ (a.at 2 rfl)) (j.out h0 hw).2.size;have p2:=FW.ex (a.H.all (a.ix 3) _ (a.at 3 rfl)) (i.out h0 hw).2.size;have c:∀p∈[(x,Ad x l f),(y,Ad y k d)],DD (λg=>w.heap.size<=g) m p.1 p.2:=λp q=>by
  rcases mem_cons.1 q with rfl | q
  ·exact p1 _ (by simp)
  exact p2 p q
 exact AN a (1,0) (D (Ad (.mk 8 0 0 0 0 0 [] 0 0 [x,y]) (θ g) 2)) (hR _ _ (.node (xs:=[(x,Ad x l f),(y,Ad y k d)]) (.two (h+1) 8 t Cb CH x y (.inr (.inr (.inr (.inr (.inr (.inr (.inr ⟨rfl,ht,rfl,rfl⟩))))))) g3 g6) rfl c (Nat.le_trans (r.out h0 hw).2.size hg) (a.H.all (a.ix 4) _ (a.at 4 rfl)) (a.out h0 hw)))
theorem ACk (ht:t.1=false):At Tryz.prog 23 R Vh (Fr 275 (BN E (Jw b n w h sB))) w1:=by
 have hb:b<w1.heap.size:=(K.tapeOk h0 0 rfl).lt;refine FJ K h0 0 rfl [0,1,2,3,4,5,6,7,8,9,10,11,12,13,14,15,16,17] (JK t s w sB (Ad BU none 0)) [(9,0,1),(13,0,0)] [(3,Fm b [J 1,J 1,J 1,J 100,J 1,J 4] 47 3),(5,KC 3),(6,λv u=>∃g k,v=.pointer (some ⟨g,0+k*2,none⟩)/\k<3/\g≠b/\Ax.good u ⟨g,0,[J 1,J 1,J 1,J 100,J 1,J 4],47,true⟩),(7,λv _=>∃q∈PX,v=.agg ⟨[J q.1,J q.2]⟩),(11,KC 7),(16,CO w1.heap.size n (h+1) t),(17,λv u=>∃x g,v=.slice (some ⟨g,0,none⟩) 1 1/\DL n (h+1) t x/\DD (λg=>w1.heap.size<=g) u (NB [x]) (Ad (NB [x]) (some ⟨g,0,none⟩) 1))] 2 (λu hu=>hu.G) (λp hp=>?_) (λp hp X u hu hbu hf=>?_) λX u hu hbu hf=>?_
 ·simp only[mem_cons,not_mem_nil,or_false]at hp;rcases hp with rfl | rfl | rfl | rfl | rfl | rfl | rfl
  ·exact Fm.but
  ·exact λ_ _ _ _ h=>h
  ·exact λv u u' he ⟨g,k,a1,a2,a3,a4⟩=>⟨g,k,a1,a2,a3,FT a4 he.size (he.block g a4.1 a3)⟩
  ·exact λ_ _ _ _ h=>h
  ·exact λ_ _ _ _ h=>h
  ·exact CO.but hb
  exact λv u u' he ⟨x,g,a1,a2,a3⟩=>⟨x,g,a1,a2,DD.keep he.size (λg hg hl=>⟨hg,he.block g hl (by omega)⟩) _ _ a3⟩
 ·have hT:=hu.tapeOk h0 0 rfl;simp only[mem_cons,not_mem_nil,or_false]at hp;rcases hp with rfl | rfl | rfl | rfl | rfl | rfl | rfl
  ·exact IB (λz=>.slice (some ⟨z,0,none⟩) 3 3) [J 1,J 1,J 1,J 100,J 1,J 4] 47 (λw' hB hg=>⟨hT.below hB,.of_below hB,u.heap.size,rfl,Nat.ne_of_gt hT.lt,hg⟩) (by intro z;kernel_rfl)
  ·exact CF (xs:=[.tmp 161,.const (J 3)]) (args:=[.pointer (some ⟨b,0,none⟩),J 3]) ((Be b ns 3 u hT (by omega) (by omega)).mono λe w' ⟨y,q1,q2,q3,q4⟩=>⟨_,q2,q3,q4,y,by omega,rfl⟩) rfl
  ·obtain⟨g,e1,e2,e3⟩:Fm b [J 1,J 1,J 1,J 100,J 1,J 4] 47 3 (X 3) u:=hf 3 (by kernel_rfl) rfl;obtain⟨k,e4,e5⟩:KC 3 (X 5) u:=hf 5 (by kernel_rfl) rfl;exact AL.value (BJ (g:=g) (off:=0) (sz:=2) (k:=k) (len:=3) (cap:=3) 45 (.tmp 160) (.tmp 162) (hx:=(Eq.trans (b:=X 3) (by kernel_rfl) e1)) (hi:=(Eq.trans (b:=X 5) (by kernel_rfl) e5)) e4 Tryz.underlying45) ⟨hT,CU.refl b u,g,k,rfl,e4,e2,e3⟩
  ·obtain⟨g,k,e1,e2,e3,e4⟩:∃g k,X 6=.pointer (some ⟨g,0+k*2,none⟩)/\k<3/\g≠b/\Ax.good u ⟨g,0,[J 1,J 1,J 1,J 100,J 1,J 4],47,true⟩:=hf 6 (by kernel_rfl) rfl;obtain⟨q,hq⟩:∃q,PX[k]?=some q:=⟨_,getElem?_eq_getElem e2⟩;obtain⟨g',off,h1,_,h3⟩:=Cn.all (show Cn 2 (λq:Int×Int=>[J q.1,J q.2]) u (some ⟨g,0,none⟩) PX from Db (λr hr=>by obtain⟨e,_,rfl⟩:=mem_map.1 hr;rfl) e4) (by decide);obtain⟨rfl,rfl⟩:g=g'/\0=off:=by simpa using h1
   exact AL.loadMid 47 (.tmp 163) (by kernel_rfl) (Eq.trans (b:=X 6) (by kernel_rfl) e1) [J q.1,J q.2] (h3 k q hq) (by kernel_rfl) (by kernel_rfl) ⟨hT,CU.refl b u,q,mem_of_getElem? hq,rfl⟩
  ·exact CF (xs:=[.tmp 167,.const (J 7)]) (args:=[.pointer (some ⟨b,0,none⟩),J 7]) ((Be b ns 7 u hT (by omega) (by omega)).mono λe w' ⟨y,q1,q2,q3,q4⟩=>⟨_,q2,q3,q4,y,by omega,rfl⟩) rfl
  ·exact CF (xs:=[.tmp 169,.tmp 170,.tmp 171,.tmp 172]) (args:=[.pointer (some ⟨b,0,none⟩),.agg ⟨BE t⟩,J ((h+1:Nat):Int),J n]) ((IH t h5 u hT).mono λe w' hh=>EN hbu.size hh) rfl
  obtain⟨x,A1,c1,e1,g1,t1⟩:CO w1.heap.size n (h+1) t (X 16) u:=hf 16 (by kernel_rfl) rfl;exact AL.over [(173,.agg ⟨Ad x A1 c1⟩)] ⟨Eq.trans (b:=X 16) (by kernel_rfl) e1,trivial⟩ (IB (λz=>.slice (some ⟨z,0,none⟩) 1 1) (Ad x A1 c1) 70 (λw' hB hg=>⟨hT.below hB,.of_below hB,x,u.heap.size,rfl,g1,Oh (ks:=[Ad x A1 c1]) (P2 (xs:=[(x,Ad x A1 c1)]) λp hp=>by rw[mem_singleton.1 hp];exact DD.keep hB.size (λg hg hl=>⟨hg,hB.block g hl⟩) _ _ t1) (S3 (ks:=[Ad x A1 c1]) hbu.size (λr hr=>by rw[mem_singleton.1 hr];rfl) (by simpa using hg))⟩) (by intro z;kernel_rfl))
 obtain⟨q,hq,e1⟩:∃q∈PX,X 7=.agg ⟨[J q.1,J q.2]⟩:=hf 7 (by simp) rfl;obtain⟨k,hk,e2⟩:KC 7 (X 11) u:=hf 11 (by simp) rfl;obtain⟨x,g,e3,g1,t1⟩:∃x g,X 17=.slice (some ⟨g,0,none⟩) 1 1/\DL n (h+1) t x/\DD (λg=>w1.heap.size<=g) u (NB [x]) (Ad (NB [x]) (some ⟨g,0,none⟩) 1):=hf 17 (by simp) rfl;refine Bk [(8,.pointer (some ⟨w.heap.size+1,0,none⟩)),(164,X 7),(166,.agg ⟨[J t.2.1,J t.2.2.1,J t.2.2.2]⟩),(168,X 11),(174,X 17)] λE2=>?_;rw[e1,e2,e3];have K3:=K.trees hu hbu.size [(NB [x],Ad (NB [x]) (some ⟨g,0,none⟩) 1)] (by simpa using t1);refine EL K3 [(18,0,0),(19,1,0)] (λ_=>[⟨w.heap.size,0,BE t,65,true⟩,⟨w.heap.size+1,0,Ad (.mk 19 q.1 q.2 t.2.1 t.2.2.1 t.2.2.2 [] 0 (k:Int) [x]) (some ⟨g,0,none⟩) 1,70,true⟩,⟨sB,0,BE s,65,true⟩]) λz w5 K5=>?_;refine AC zI K5 [] λw6 K6=>?_;exact AN K6 (1,0) (.agg ⟨Ad (.mk 19 q.1 q.2 t.2.1 t.2.2.1 t.2.2.2 [] 0 (k:Int) [x]) (some ⟨g,0,none⟩) 1⟩) (hR _ _ ⟨(.mk 19 q.1 q.2 t.2.1 t.2.2.1 t.2.2.2 [] 0 (k:Int) [x]),_,_,rfl,.round (h+1) t x q k ht hq (by omega) (by omega) g1,qq (FW.ex (K6.H.all (K6.ix 2) _ (K6.at 2 rfl)) (K.out h0 hw).2.size _ (mem_singleton.2 rfl)) rfl,K6.out h0 hw⟩)
end
theorem Zf {R:Ending->World->Prop} {b:Nat} {ns:List Int} {n:Int} {h:Nat} {t:Ty} {w w0 g:World} {E:Nat->Value} (d:(U w0)=b) (i:Below (U w0) w0 w) (l:t∈Ek) (hR:∀e w',LY b ns n (h+1) t w e w'->R e w') (K:Wk w0 g [N (U w) (BE t) 65,N (U w+1) (Ad BU none 0) 70] [BV w0 b ns,CI b w] []):At Tryz.prog 23 R (AE Qb) (Fr 275 (BN E [(0,Z b),(3,J n),(5,Z (U w)),(8,Z (U w+1))])) g:=by refine AC sf K [(0,0)] λu f=>?_;refine BS f d 0 rfl (AGJ b ns n h t l _ (f.tapeOk d 0 rfl)) I9 λe s k p=>?_;obtain⟨x,A,c,rfl,m,j,_,o⟩:=k;refine⟨_,rfl,?_⟩;have q:=f.trees p o.size [(x,Ad x A c)] (by simpa using j);refine An AEO [N (U w) (BE t) 65,N (U w+1) (Ad x A c) 70] q [(1,0)] λr a=>?_;exact AN a (1,0) (D (Ad x A c)) (hR _ _ ⟨x,A,c,rfl,m,FW.ex (a.H.all (a.ix 2) _ (a.at 2 rfl)) (f.out d i).2.size _ (mem_singleton.2 rfl),a.out d i⟩)
theorem wk (b:Nat) (ns:List Int) (n:Int):∀(h:Nat) (t:Ty) (_:t∈Ek) (_:h<=1000) (w:World) (_:Br b ns w),Calls Tryz.prog 23 ([.pointer (some ⟨b,0,none⟩),.agg ⟨BE t⟩,.int .i64 ((h+1:Nat):Int),.int .i64 n]:List Value).toArray w (LY b ns n (h+1) t w)
 | 0,t,h5,_,w,hT=>by refine AS (args:=[.pointer (some ⟨b,0,none⟩),.agg ⟨BE t⟩,.int .i64 ((0+1:Nat):Int),.int .i64 n]) (fn:=Tryz.f23) (c:=SY) (n:=275) ?_;obtain⟨w0,j,K0⟩:=Wk.tape hT;have p:=K0.B;refine An Qb [⟨w.heap.size,0,BE t,65,true⟩,⟨w.heap.size+1,0,Ad BU none 0,70,true⟩] K0 [(0,0)] λw1 K1=>?_;refine AH true (λ_=>?_) (λhf=>by cases hf);refine AX [(0,.pointer (some ⟨b,0,none⟩)),(3,.int .i64 n),(5,.pointer (some ⟨w.heap.size,0,none⟩)),(8,.pointer (some ⟨w.heap.size+1,0,none⟩))] λE1=>?_;exact Zf j p h5 (λ_ _ i=>i) K1
 | h+1,t,h5,hle,w,hT=>by
  refine AS (args:=[.pointer (some ⟨b,0,none⟩),.agg ⟨BE t⟩,.int .i64 ((h+1+1:Nat):Int),.int .i64 n]) (fn:=Tryz.f23) (c:=SY) (n:=275) ?_;obtain⟨w0,j,K0⟩:=Wk.tape hT;have p:=K0.B;refine An sg [⟨w.heap.size,0,BE t,65,true⟩,⟨w.heap.size+1,0,Ad BU none 0,70,true⟩] K0 [(0,0)] λw1 K1=>?_;refine BS K1 j 0 rfl (args:=[.pointer (some ⟨b,0,none⟩),.int .i64 5]) (Be b ns 5 _ (K1.tapeOk j 0 rfl) (by omega) (by omega)) Bl.ok λe w2 hq K2=>?_;obtain⟨k2,x0,rfl,_,_⟩:=hq;refine⟨_,rfl,?_⟩;refine AC Qb K2 [] λw3 K3=>?_;refine AH ((k2:Int)==0) (λ_=>?_) (λ_=>?_)
  ·refine AX [(0,.pointer (some ⟨b,0,none⟩)),(3,.int .i64 n),(5,.pointer (some ⟨w.heap.size,0,none⟩)),(8,.pointer (some ⟨w.heap.size+1,0,none⟩))] λE1=>?_;exact Zf j p h5 (λ_ _ i=>i) K3
  refine AC se K3 [] λw4 K4=>?_;refine AW K4 (args:=[]) (Hf _) λw4 K4=>?_;refine AW K4 (args:=[]) (Gw _) λw4 K4=>?_;refine AW K4 (args:=[]) (Iv _) λw4 K4=>?_;refine AW K4 (args:=[]) (Gv _) λw4 K4=>?_;refine An cj [⟨w.heap.size,0,BE t,65,true⟩,⟨w.heap.size+1,0,Ad BU none 0,70,true⟩,⟨w4.heap.size,0,[BE BT,BE Cb,BE Dn,BE CH].flatten,65,true⟩] K4 [] λw5 K5=>?_;refine BS K5 j 0 rfl (args:=[.pointer (some ⟨b,0,none⟩),.int .i64 4]) (Be b ns 4 _ (K5.tapeOk j 0 rfl) (by omega) (by omega)) Bl.ok λe w6 hq K6=>?_;obtain⟨k6,v0,rfl,_,_⟩:=hq;refine⟨_,rfl,?_⟩;have i0:k6<L7.length:=by show k6<4;omega
  obtain⟨s,g0⟩:∃x,L7[k6]?=some x:=⟨_,getElem?_eq_getElem i0⟩;have hs:=mem_of_getElem? g0;refine Ao Aa sb K6 [] λm K7=>?_;refine Aw (g:=w4.heap.size) (off:=0) (cap:=4) (sz:=4) (k:=k6) (len:=4) (some 31) i0 Tryz.underlying75 ?_;obtain⟨g,off,h1,_,h3⟩:=Cn.all (show Cn 4 BE m (some ⟨w4.heap.size,0,none⟩) L7 from Db (λr hr=>by obtain⟨e,_,rfl⟩:=mem_map.1 hr;rfl) (K7.ent 2 rfl)) (by decide);obtain⟨rfl,rfl⟩:w4.heap.size=g/\0=off:=by simpa using h1
  refine Bd 65 w4.heap.size (0+k6*4) (BE s) (some 32) (h3 k6 s g0) ?_;refine An jy [⟨w.heap.size,0,BE t,65,true⟩,⟨w.heap.size+1,0,Ad BU none 0,70,true⟩,⟨w4.heap.size,0,[BE BT,BE Cb,BE Dn,BE CH].flatten,65,true⟩,⟨m.heap.size,0,BE s,65,true⟩] K7 [(3,0)] λw8 K8=>?_;refine BS K8 j 0 rfl (args:=[.pointer (some ⟨b,0,none⟩),.int .i64 6]) (Be b ns 6 _ (K8.tapeOk j 0 rfl) (by omega) (by omega)) Bl.ok λe w9 hq K9=>?_;obtain⟨k9,t0,rfl,_,_⟩:=hq;refine⟨_,rfl,?_⟩;have b0:Wk w0 w9 [⟨w.heap.size,0,BE t,65,true⟩,⟨w.heap.size+1,0,Ad BU none 0,70,true⟩,⟨m.heap.size,0,BE s,65,true⟩] [BV w0 b ns,CI b w] []:=K9.pk [0,1,3] [0,1];have v:∀s∈Ek,∀u,Br b ns u->Calls Tryz.prog 23 ([.pointer (some ⟨b,0,none⟩),.agg ⟨BE s⟩,.int .i64 ((h+1:Nat):Int),.int .i64 n]:List Value).toArray u (LY b ns n (h+1) s u):=λs hs u hu=>wk b ns n h s hs (by omega) u hu;refine AC Vs b0 [] λr0 b0=>?_;refine AX [(0,.pointer (some ⟨b,0,none⟩)),(3,.int .i64 n),(5,.pointer (some ⟨w.heap.size,0,none⟩)),(8,.pointer (some ⟨w.heap.size+1,0,none⟩)),(9,.int .i64 (IntKind.i64.wrap (((h+1+1:Nat):Int)-1))),(10,.pointer (some ⟨m.heap.size,0,none⟩)),(35,.bool ((k9:Int)==5))] λz0=>?_;rw[show IntKind.i64.wrap (((h+1+1:Nat):Int)-1)=((h+1:Nat):Int) by rw[IntWalk.i64_in _ (by omega)];omega];refine AH ((k9:Int)==5) (λ_=>?_) (λ_=>?_)
  ·skip
   refine AC Vr b0 [] λv9 o=>?_;refine AX [(0,.pointer (some ⟨b,0,none⟩)),(3,.int .i64 n),(5,.pointer (some ⟨w.heap.size,0,none⟩)),(8,.pointer (some ⟨w.heap.size+1,0,none⟩)),(9,.int .i64 ((h+1:Nat):Int)),(10,.pointer (some ⟨m.heap.size,0,none⟩))] λy=>?_;exact AGR j p h5 hs v (λ_ _ i=>i) o
  refine AC Vq b0 [(0,0)] λq0 l0=>?_;refine AH t.1 (λht=>?_) (λht=>?_)
  ·have z:t=DB:=by
    simp only[Ek,mem_cons,not_mem_nil,or_false]at h5;rcases h5 with rfl | rfl | rfl | rfl | rfl
    ·cases ht
    ·cases ht
    ·cases ht
    ·cases ht
    rfl
   refine AC jx l0 [] λp0 a0=>?_;refine BS a0 j 0 rfl (args:=[.pointer (some ⟨b,0,none⟩),.int .i64 6]) (Be b ns 6 _ (a0.tapeOk j 0 rfl) (by omega) (by omega)) Bl.ok λe m0 hq e0=>?_;obtain⟨l,k0,rfl,_,_⟩:=hq;refine⟨_,rfl,?_⟩;refine AC jw e0 [] λf d=>?_;refine AH ((l:Int)==0) (λhz=>?_) (λ_=>?_)
   ·refine AC Qa d [] λf d=>?_;refine AH ((l:Int)==0) (λ_=>?_) (λhn=>by rw[hz]at hn;cases hn);refine AC QZ d [] λv9 o=>?_;refine AX [(0,.pointer (some ⟨b,0,none⟩)),(3,.int .i64 n),(5,.pointer (some ⟨w.heap.size,0,none⟩)),(8,.pointer (some ⟨w.heap.size+1,0,none⟩)),(9,.int .i64 ((h+1:Nat):Int)),(10,.pointer (some ⟨m.heap.size,0,none⟩))] λy=>?_;exact mw j p h5 hs v (λ_ _ i=>i) o z
   refine AC Qa d [] λf d=>?_;refine AH ((l:Int)==1) (λ_=>?_) (λ_=>?_)
   ·skip
    refine AC QZ d [] λv9 o=>?_;refine AX [(0,.pointer (some ⟨b,0,none⟩)),(3,.int .i64 n),(5,.pointer (some ⟨w.heap.size,0,none⟩)),(8,.pointer (some ⟨w.heap.size+1,0,none⟩)),(9,.int .i64 ((h+1:Nat):Int)),(10,.pointer (some ⟨m.heap.size,0,none⟩))] λy=>?_;exact mw j p h5 hs v (λ_ _ i=>i) o z
   refine AC Vp d [] λf d=>?_;refine AH ((l:Int)==2) (λ_=>?_) (λ_=>?_)
   ·skip
    refine AC Vo d [] λv9 o=>?_;refine AX [(0,.pointer (some ⟨b,0,none⟩)),(3,.int .i64 n),(5,.pointer (some ⟨w.heap.size,0,none⟩)),(8,.pointer (some ⟨w.heap.size+1,0,none⟩)),(9,.int .i64 ((h+1:Nat):Int)),(10,.pointer (some ⟨m.heap.size,0,none⟩))] λy=>?_;exact ACu j p h5 hs v (λ_ _ i=>i) o z
   refine AC Vn d [] λf d=>?_;refine AH ((l:Int)==3) (λ_=>?_) (λ_=>?_)
   ·skip
    refine AC Vm d [] λv9 o=>?_;refine AX [(0,.pointer (some ⟨b,0,none⟩)),(3,.int .i64 n),(5,.pointer (some ⟨w.heap.size,0,none⟩)),(8,.pointer (some ⟨w.heap.size+1,0,none⟩)),(9,.int .i64 ((h+1:Nat):Int)),(10,.pointer (some ⟨m.heap.size,0,none⟩))] λy=>?_;exact AGQ j p h5 hs v (λ_ _ i=>i) o z
   refine AC QY d [] λf d=>?_;refine AH ((l:Int)==4) (λ_=>?_) (λ_=>?_)
   ·skip
    refine AX [(0,.pointer (some ⟨b,0,none⟩)),(3,.int .i64 n),(5,.pointer (some ⟨w.heap.size,0,none⟩)),(8,.pointer (some ⟨w.heap.size+1,0,none⟩)),(9,.int .i64 ((h+1:Nat):Int)),(10,.pointer (some ⟨m.heap.size,0,none⟩))] λy=>?_;exact ACm j p h5 hs v (λ_ _ i=>i) d z
   refine AC Vl d [] λv9 o=>?_;refine AX [(0,.pointer (some ⟨b,0,none⟩)),(3,.int .i64 n),(5,.pointer (some ⟨w.heap.size,0,none⟩)),(8,.pointer (some ⟨w.heap.size+1,0,none⟩)),(9,.int .i64 ((h+1:Nat):Int)),(10,.pointer (some ⟨m.heap.size,0,none⟩))] λy=>?_;exact ACs j p h5 hs v (λ_ _ i=>i) o z
  refine AC jv l0 [] λp0 a0=>?_;refine BS a0 j 0 rfl (args:=[.pointer (some ⟨b,0,none⟩),.int .i64 8]) (Be b ns 8 _ (a0.tapeOk j 0 rfl) (by omega) (by omega)) Bl.ok λe m0 hq e0=>?_;obtain⟨l,k0,rfl,_,_⟩:=hq;refine⟨_,rfl,?_⟩;refine AC ju e0 [] λf d=>?_;refine AH ((l:Int)==0) (λhz=>?_) (λ_=>?_)
  ·refine AC QX d [] λf d=>?_;refine AH ((l:Int)==0) (λ_=>?_) (λhn=>by rw[hz]at hn;cases hn);refine AC QW d [] λv9 o=>?_;refine AX [(0,.pointer (some ⟨b,0,none⟩)),(3,.int .i64 n),(5,.pointer (some ⟨w.heap.size,0,none⟩)),(8,.pointer (some ⟨w.heap.size+1,0,none⟩)),(9,.int .i64 ((h+1:Nat):Int)),(10,.pointer (some ⟨m.heap.size,0,none⟩))] λy=>?_;exact mx j p h5 hs v (λ_ _ i=>i) o ht
  refine AC QX d [] λf d=>?_;refine AH ((l:Int)==1) (λ_=>?_) (λ_=>?_)
  ·skip
   refine AC QW d [] λv9 o=>?_;refine AX [(0,.pointer (some ⟨b,0,none⟩)),(3,.int .i64 n),(5,.pointer (some ⟨w.heap.size,0,none⟩)),(8,.pointer (some ⟨w.heap.size+1,0,none⟩)),(9,.int .i64 ((h+1:Nat):Int)),(10,.pointer (some ⟨m.heap.size,0,none⟩))] λy=>?_;exact mx j p h5 hs v (λ_ _ i=>i) o ht
  refine AC Vk d [] λf d=>?_;refine AH ((l:Int)==2) (λ_=>?_) (λ_=>?_)
  ·skip
   refine AC Vj d [] λv9 o=>?_;refine AX [(0,.pointer (some ⟨b,0,none⟩)),(3,.int .i64 n),(5,.pointer (some ⟨w.heap.size,0,none⟩)),(8,.pointer (some ⟨w.heap.size+1,0,none⟩)),(9,.int .i64 ((h+1:Nat):Int)),(10,.pointer (some ⟨m.heap.size,0,none⟩))] λy=>?_;exact ACq j p h5 hs v (λ_ _ i=>i) o ht
  refine AC Vi d [] λf d=>?_;refine AH ((l:Int)==3) (λ_=>?_) (λ_=>?_)
  ·skip
   refine AC Vh d [] λv9 o=>?_;refine AX [(0,.pointer (some ⟨b,0,none⟩)),(3,.int .i64 n),(5,.pointer (some ⟨w.heap.size,0,none⟩)),(8,.pointer (some ⟨w.heap.size+1,0,none⟩)),(9,.int .i64 ((h+1:Nat):Int)),(10,.pointer (some ⟨m.heap.size,0,none⟩))] λy=>?_;exact ACk j p h5 hs v (λ_ _ i=>i) o ht
  refine AC QV d [] λf d=>?_;refine AH ((l:Int)==4) (λ_=>?_) (λ_=>?_)
  ·skip
   refine AX [(0,.pointer (some ⟨b,0,none⟩)),(3,.int .i64 n),(5,.pointer (some ⟨w.heap.size,0,none⟩)),(8,.pointer (some ⟨w.heap.size+1,0,none⟩)),(9,.int .i64 ((h+1:Nat):Int)),(10,.pointer (some ⟨m.heap.size,0,none⟩))] λy=>?_;exact ACn j p h5 hs v (λ_ _ i=>i) d ht
  refine AC Vg d [] λf d=>?_;refine AH ((l:Int)==5) (λ_=>?_) (λ_=>?_)
  ·skip
   refine AC Vf d [] λv9 o=>?_;refine AX [(0,.pointer (some ⟨b,0,none⟩)),(3,.int .i64 n),(5,.pointer (some ⟨w.heap.size,0,none⟩)),(8,.pointer (some ⟨w.heap.size+1,0,none⟩)),(9,.int .i64 ((h+1:Nat):Int)),(10,.pointer (some ⟨m.heap.size,0,none⟩))] λy=>?_;exact ACo j p h5 hs v (λ_ _ i=>i) o ht
  refine AC Ve d [(0,0)] λf d=>?_;refine AW d (args:=[]) (Gw _) λf d=>?_;refine Ao GM jt d [] λf d=>?_;refine EW (DS (k:=.eql) (T:=65) (a:=.agg ⟨BE t⟩) (b:=.agg ⟨BE Cb⟩) (EZ _ _ _ _ _ _ _ _ _)) ?_;refine AC QU d [] λf d=>?_;refine AH (Hg t Cb) (λcm=>?_) (λcm=>?_)
  ·skip
   refine AX [(0,.pointer (some ⟨b,0,none⟩)),(3,.int .i64 n),(5,.pointer (some ⟨w.heap.size,0,none⟩)),(8,.pointer (some ⟨w.heap.size+1,0,none⟩)),(9,.int .i64 ((h+1:Nat):Int)),(10,.pointer (some ⟨m.heap.size,0,none⟩))] λy=>?_;exact ACp j p h5 hs v (λ_ _ i=>i) d (I7 cm)
  refine AC Vd d [] λf d=>?_;refine AW d (args:=[]) (Gv _) λf d=>?_;refine Ao GM js d [] λf d=>?_;refine EW (DS (k:=.eql) (T:=65) (a:=.agg ⟨BE t⟩) (b:=.agg ⟨BE CH⟩) (EZ _ _ _ _ _ _ _ _ _)) ?_;refine AC Vc d [] λf d=>?_;refine AH (Hg t CH) (λcr=>?_) (λcr=>?_)
  ·refine AC jr d [] λf d=>?_;refine BS d j 0 rfl (args:=[.pointer (some ⟨b,0,none⟩),.int .i64 2]) (Be b ns 2 _ (d.tapeOk j 0 rfl) (by omega) (by omega)) Bl.ok λe c0 hq q=>?_;obtain⟨d0,j0,rfl,_,_⟩:=hq;refine⟨_,rfl,?_⟩;refine AC Nf q [] λc0 q=>?_;refine AH ((d0:Int)==0) (λ_=>?_) (λ_=>?_)
   ·skip
    refine AX [(0,.pointer (some ⟨b,0,none⟩)),(3,.int .i64 n),(5,.pointer (some ⟨w.heap.size,0,none⟩)),(8,.pointer (some ⟨w.heap.size+1,0,none⟩)),(9,.int .i64 ((h+1:Nat):Int)),(10,.pointer (some ⟨m.heap.size,0,none⟩))] λy=>?_;exact ACi j p h5 hs v (λ_ _ i=>i) q (I7 cr)
   refine AX [(0,.pointer (some ⟨b,0,none⟩)),(3,.int .i64 n),(5,.pointer (some ⟨w.heap.size,0,none⟩)),(8,.pointer (some ⟨w.heap.size+1,0,none⟩)),(9,.int .i64 ((h+1:Nat):Int)),(10,.pointer (some ⟨m.heap.size,0,none⟩))] λy=>?_;exact ACl j p h5 hs v (λ_ _ i=>i) q (I7 cr)
  refine AC Vb d [] λf d=>?_;refine AW d (args:=[]) (Hf _) λf d=>?_;refine Ao GM jq d [] λf d=>?_;refine EW (DS (k:=.eql) (T:=65) (a:=.agg ⟨BE t⟩) (b:=.agg ⟨BE BT⟩) (EZ _ _ _ _ _ _ _ _ _)) ?_;refine AC QT d [] λf d=>?_;refine AH (Hg t BT) (λcn=>?_) (λcn=>?_)
  ·refine AC jp d [] λf d=>?_;refine BS d j 0 rfl (args:=[.pointer (some ⟨b,0,none⟩),.int .i64 2]) (Be b ns 2 _ (d.tapeOk j 0 rfl) (by omega) (by omega)) Bl.ok λe c0 hq q=>?_;obtain⟨d0,j0,rfl,_,_⟩:=hq;refine⟨_,rfl,?_⟩;refine AC QS q [] λc0 q=>?_;refine AH ((d0:Int)==0) (λ_=>?_) (λ_=>?_)
   ·skip
    refine AX [(0,.pointer (some ⟨b,0,none⟩)),(3,.int .i64 n),(5,.pointer (some ⟨w.heap.size,0,none⟩)),(8,.pointer (some ⟨w.heap.size+1,0,none⟩)),(9,.int .i64 ((h+1:Nat):Int)),(10,.pointer (some ⟨m.heap.size,0,none⟩))] λy=>?_;exact ACj j p h5 hs v (λ_ _ i=>i) q (I7 cn)
   refine AC Va q [] λv9 o=>?_;refine AX [(0,.pointer (some ⟨b,0,none⟩)),(3,.int .i64 n),(5,.pointer (some ⟨w.heap.size,0,none⟩)),(8,.pointer (some ⟨w.heap.size+1,0,none⟩)),(9,.int .i64 ((h+1:Nat):Int)),(10,.pointer (some ⟨m.heap.size,0,none⟩))] λy=>?_;exact ACt j p h5 hs v (λ_ _ i=>i) o (I7 cn)
  have i:t=Dn:=by
   simp only[Ek,mem_cons,not_mem_nil,or_false]at h5;rcases h5 with rfl | rfl | rfl | rfl | rfl
   ·cases cn
   ·cases cm
   ·rfl
   ·cases cr
   cases ht
  refine AX [(0,.pointer (some ⟨b,0,none⟩)),(3,.int .i64 n),(5,.pointer (some ⟨w.heap.size,0,none⟩)),(8,.pointer (some ⟨w.heap.size+1,0,none⟩)),(9,.int .i64 ((h+1:Nat):Int)),(10,.pointer (some ⟨m.heap.size,0,none⟩))] λy=>?_;exact ACr j p h5 hs v (λ_ _ i=>i) d i
end
end Go.Proofs.YtkpemkkbjfbmaaaGreat

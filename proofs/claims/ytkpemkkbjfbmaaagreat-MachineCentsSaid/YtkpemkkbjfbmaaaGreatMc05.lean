/- Contracts of functions, part 5. -/
import Derived.Test.YtkpemkkbjfbmaaaGreatMc04
import Derived.Test.YtkpemkkbjfbmaaaGreatMc03
set_option linter.all false
namespace Go.Proofs.YtkpemkkbjfbmaaaGreat
open List
noncomputable section
open Go.RowKit
set_option maxRecDepth 100000
set_option maxHeartbeats 1000000
attribute [local irreducible] BI BQ AD AE AG Au Ab AO A8 Bi Ct BO At Fr
theorem F9 (l:List UInt8) (w:World) (hs:l.length<=4294967296):Calls Tryz.prog 45 ([Y l]:List Value).toArray w λe w'=>e=.returned (I (Tk.isName l))/\Below (U w) w w':=
 (gX l w (by unfold maxLen;omega)).mono λ_ _ ⟨a,h2⟩=>⟨a,Kd h2⟩
def GL (p0:Int):Bool:=cond (decide (-3<=p0)) (decide (p0<=3)) (false)
noncomputable def m7:Code:=Tryz.f132.body.getD .skip
def yO:=Ac 1 ([.code m7])
def AGf:=Ω yO
theorem N4 (b:Int) (w:World):Calls Tryz.prog 132 ([J b]:List Value).toArray w λe w'=>e=.returned (I (GL b))/\Below (U w) w w':=by refine AS (fn:=Tryz.f132) (c:=m7) (n:=9) ?_;have h:=Wk.start w;refine Al 1 yO h [] λk d=>?_;refine Ap d [] [] d.G (λl a=>by cases a) λj m g=>?_;refine AC AGf g [] λi f=>?_;exact AQ f (0,0) _ (by unfold GL;rfl)
def Iy (p0:Int):Bool:=cond (decide (0<=p0)) (decide (p0<=6)) (false)
noncomputable def nZ:Code:=Tryz.f79.body.getD .skip
def AAs:=Ac 1 ([.code nZ])
def AHS:=Ω AAs
theorem Rb (b:Int) (w:World):Calls Tryz.prog 79 ([J b]:List Value).toArray w λe w'=>e=.returned (I (Iy b))/\Below (U w) w w':=by refine AS (fn:=Tryz.f79) (c:=nZ) (n:=9) ?_;have h:=Wk.start w;refine Al 1 AAs h [] λk d=>?_;refine Ap d [] [] d.G (λl a=>by cases a) λj m g=>?_;refine AC AHS g [] λi f=>?_;exact AQ f (0,0) _ (by unfold Iy;rfl)
def Hl (p0:Int):Bool:=cond (decide (0<=p0)) (decide (p0<=84005)) (false)
noncomputable def nv:Code:=Tryz.f76.body.getD .skip
def ABQ:=Ac 1 ([.code nv])
def AHi:=Ω ABQ
theorem N5 (b:Int) (w:World):Calls Tryz.prog 76 ([J b]:List Value).toArray w λe w'=>e=.returned (I (Hl b))/\Below (U w) w w':=by refine AS (fn:=Tryz.f76) (c:=nv) (n:=9) ?_;have h:=Wk.start w;refine Al 1 ABQ h [] λk d=>?_;refine Ap d [] [] d.G (λl a=>by cases a) λj m g=>?_;refine AC AHi g [] λi f=>?_;exact AQ f (0,0) _ (by unfold Hl;rfl)
def FD (p0a:Int) (p0b:Int) (p0c:Int):Bool:=cond (cond (GL p0a) (GL p0b) (false)) (GL p0c) (false)
noncomputable def nB:Code:=Tryz.f114.body.getD .skip
def zS:=Ac 1 ([.code nB])
def AGj:=Ω zS
theorem Jz (a b d:Int) (w:World):Calls Tryz.prog 114 ([D [J a,J b,J d]]:List Value).toArray w λe w'=>e=.returned (I (FD a b d))/\Below (U w) w w':=by
 refine AS (fn:=Tryz.f114) (c:=nB) (n:=16) ?_;have j:=Wk.start w;refine Bg 1 zS [N (U w) [J a,J b,J d] 63] j [] λm g=>?_;refine Ap g [(1,0,0),(5,0,1),(10,0,2)] [⟨2,[(4,J a)],I (GL a),true⟩,⟨6,[(8,J b)],I (GL b),((GL a))&&(true)⟩,⟨11,[(13,J d)],I (GL d),((cond (GL a) (GL b) (false)))&&(true)⟩] g.G (λo f=>?_) λl p i=>?_
 ·simp only[mem_cons,not_mem_nil,or_false]at f;rcases f with rfl | rfl | rfl
  ·exact AU 132 [.tmp 4] _ (λ_=>by kernel_rfl) λhc u hu=>AR hu (N4 a u)
  ·exact AU 132 [.tmp 8] _ (λ_=>by kernel_rfl) λhc u hu=>AR hu (N4 b u)
  exact AU 132 [.tmp 13] _ (λ_=>by kernel_rfl) λhc u hu=>AR hu (N4 d u)
 refine AC AGj i [] λk h=>?_;exact AQ h (0,0) _ (by unfold FD;rfl)
def ED (p0a:Int) (p0b:Int):Bool:=cond (cond (AV p0a p0b) (decide (0<=p0a)) (false)) (Int.tmod 1000000 p0b==0) (false)
noncomputable def nr:Code:=Tryz.f115.body.getD .skip
def ABH:=Ac 1 ([.code nr])
def AHe:=Ω ABH
theorem LJ (b a:Int) (w:World):Calls Tryz.prog 115 ([D [J b,J a]]:List Value).toArray w λe w'=>e=.returned (I (ED b a))/\Below (U w) w w':=by
 refine AS (fn:=Tryz.f115) (c:=nr) (n:=16) ?_;have i:=Wk.start w;refine Bg 1 ABH [N (U w) [J b,J a] 47] i [] λl f=>?_;refine Ap f [(0,0,0),(4,0,0),(9,0,1)] [⟨1,[(3,D [J b,J a])],I (AV b a),true⟩,⟨10,[(12,J a)],J (Int.tmod 1000000 a),((cond (AV b a) (decide (0<=b)) (false)))&&(true)⟩] f.G (λm d=>?_) λk o h=>?_
 ·simp only[mem_cons,not_mem_nil,or_false]at d;rcases d with rfl | rfl
  ·exact AU 36 [.tmp 3] _ (λ_=>by kernel_rfl) λhc u hu=>AR hu (Bw b a u)
  exact BR λhc E u _=>LS (T:=3) (T':=3) (x:=.const (J 1000000)) (y:=.tmp 12) (by kernel_rfl) (by kernel_rfl) (by kernel_rfl) (by simp[AV]at hc;omega)
 refine AC AHe h [] λj g=>?_;exact AQ g (0,0) _ (by unfold ED;rfl)
def IF (p0a:Int) (p0b:Int):Bool:=cond (ED p0a p0b) (decide (0<p0a)) (false)
noncomputable def nt:Code:=Tryz.f80.body.getD .skip
def ABI:=Ac 1 ([.code nt])
def AHf:=Ω ABI
theorem RY (b a:Int) (w:World):Calls Tryz.prog 80 ([D [J b,J a]]:List Value).toArray w λe w'=>e=.returned (I (IF b a))/\Below (U w) w w':=by
 refine AS (fn:=Tryz.f80) (c:=nt) (n:=10) ?_;have i:=Wk.start w;refine Bg 1 ABI [N (U w) [J b,J a] 47] i [] λl f=>?_;refine Ap f [(0,0,0),(4,0,0)] [⟨1,[(3,D [J b,J a])],I (ED b a),true⟩] f.G (λm d=>?_) λk o h=>?_
 ·rw[mem_singleton.1 d];exact AU 115 [.tmp 3] _ (λ_=>by kernel_rfl) λhc u hu=>AR hu (LJ b a u)
 refine AC AHf h [] λj g=>?_;exact AQ g (0,0) _ (by unfold IF;rfl)
def LK (p0b:Int):Bool:=cond (decide (0<p0b)) (Int.tmod 100 p0b==0) (false)
noncomputable def nu:Code:=Tryz.f81.body.getD .skip
def ABP:=Ac 1 ([.code nu])
def AHh:=Ω ABP
theorem Yw (b a:Int) (w:World):Calls Tryz.prog 81 ([D [J b,J a]]:List Value).toArray w λe w'=>e=.returned (I (LK a))/\Below (U w) w w':=by
 refine AS (fn:=Tryz.f81) (c:=nu) (n:=12) ?_;have i:=Wk.start w;refine Bg 1 ABP [N (U w) [J b,J a] 47] i [] λl f=>?_;refine Ap f [(1,0,1),(5,0,1)] [⟨6,[(8,J a)],J (Int.tmod 100 a),((decide (0<a)))&&(true)⟩] f.G (λm d=>?_) λk o h=>?_
 ·rw[mem_singleton.1 d];exact BR λhc E u _=>LS (T:=3) (T':=3) (x:=.const (J 100)) (y:=.tmp 8) (by kernel_rfl) (by kernel_rfl) (by kernel_rfl) (by simp at hc;omega)
 refine AC AHh h [] λj g=>?_;exact AQ g (0,0) _ (by unfold LK;rfl)
def EI (p0a:Bool) (p0ba:Int) (p0bb:Int) (p0bc:Int):Bool:=cond (p0a) ((p0ba==0)&&((p0bb==0)&&(p0bc==0))) (FD p0ba p0bb p0bc)
noncomputable def nC:Code:=Tryz.f75.body.getD .skip
def oq:=ν ([.code nC])
def zU:=Ac 2 (AE oq)
def AGl:=Ω zU
def zT:=Ξ oq
def AGk:=Ψ zT
theorem Ia (h:Bool) (g f d:Int) (w:World):Calls Tryz.prog 75 ([D [I h,J g,J f,J d]]:List Value).toArray w λe w'=>e=.returned (I (EI h g f d))/\Below (U w) w w':=by
 refine AS (fn:=Tryz.f75) (c:=nC) (n:=12) ?_;have v:=Wk.start w;refine An oq [N (U w) [I h,J g,J f,J d] 65] v [(0,0)] λw1 m=>?_;refine AH (h) (λj=>?_) (λj=>?_)
 ·refine Al 2 zU m [] λw3 l=>?_;refine Ap l [(1,0,1)] [⟨3,[(6,D [J g,J f,J d]),(7,D [J 0,J 0,J 0])],I ((g==0)&&((f==0)&&(d==0))),true⟩] l.G (λsp i=>?_) λw4 E4 t=>?_
  ·rw[mem_singleton.1 i];exact BR λ_ E u _=>DS (k:=.eql) (T:=63) (a:=D [J g,J f,J d]) (b:=D [J 0,J 0,J 0]) (JV u g f d 0 0 0)
  refine AC AGl t [] λz s=>?_;exact AQ s (0,0) _ (by unfold EI;rw[j]<;>rfl)
 refine AC zT m [(0,1)] λo r=>?_;refine AW r (Jz g f d o) λy q=>?_;refine AC AGk q [] λx p=>?_;exact AQ p (0,0) _ (by unfold EI;rw[j]<;>rfl)
def Cz (p0:Int):Int:=cond (p0==1) (0) (cond (p0==2) (0) (cond (p0==3) (0) (cond (p0==20) (0) (cond (p0==21) (0) (cond (p0==4) (1) (cond (p0==16) (1) (cond (p0==17) (1) (cond (p0==19) (1) (cond (p0==5) (2) (cond (p0==6) (2) (cond (p0==7) (2) (cond (p0==8) (2) (cond (p0==9) (2) (cond (p0==10) (2) (cond (p0==11) (2) (cond (p0==12) (2) (cond (p0==13) (2) (cond (p0==14) (2) (cond (p0==15) (2) (cond (p0==18) (3) (-1)))))))))))))))))))))
noncomputable def nd:Code:=Tryz.f133.body.getD .skip
def pg:=ν ([.code nd])
def ABA:=Θ pg
def AHX:=Θ ABA
def pf:=Ξ pg
def AA9:=Θ pf
def AHW:=Θ AA9
def pd:=Ξ pf
def AA8:=Θ pd
def AHV:=Θ AA8
def pb:=Ξ pd
def u0:=Θ pb
def AFU:=Θ u0
def ed:=Ξ pb
def AFT:=Θ ed
def ec:=Ξ ed
def uy:=Θ ec
def AFS:=Θ uy
def eb:=Ξ ec
def ux:=Θ eb
def AFR:=Θ ux
def eZ:=Ξ eb
def uw:=Θ eZ
def AFQ:=Θ uw
def eY:=Ξ eZ
def AFP:=Θ eY
def eX:=Ξ eY
def uv:=Θ eX
def AFO:=Θ uv
def eW:=Ξ eX
def uu:=Θ eW
def AFN:=Θ uu
def eV:=Ξ eW
def ut:=Θ eV
def AFM:=Θ ut
def eU:=Ξ eV
def ur:=Θ eU
def AFL:=Θ ur
def eT:=Ξ eU
def uq:=Θ eT
def AFK:=Θ uq
def eS:=Ξ eT
def uo:=Θ eS
def AFJ:=Θ uo
def eR:=Ξ eS
def um:=Θ eR
def AFI:=Θ um
def eQ:=Ξ eR
def ul:=Θ eQ
def AFH:=Θ ul
def eP:=Ξ eQ
def uk:=Θ eP
def AFG:=Θ uk
def eO:=Ξ eP
def uj:=Θ eO
def AFF:=Θ uj
def eN:=Ξ eO
def AFE:=Θ eN
def eM:=Ξ eN
def AFD:=Θ eM
def AFC:=Ξ eM
theorem qi (d:Int) (w:World):Calls Tryz.prog 133 ([J d]:List Value).toArray w λe w'=>e=.returned (J (Cz d))/\Below (U w) w w':=by
 refine AS (fn:=Tryz.f133) (c:=nd) (n:=29) ?_;have K1:=Wk.start w;refine AC pg K1 [] λw1 K2=>?_;refine AH (d==1) (λq=>?_) (λq=>?_)
 ·refine AC ABA K2 [] λw3 K3=>?_;refine AH (d==1) (λ_=>?_) (λh=>nomatch h.symm.trans q);refine AC AHX K3 [] λw5 K4=>?_;exact AQ K4 (0,0) _ (by unfold Cz;rw[q]<;>rfl)
 refine AC pf K2 [] λw6 K5=>?_;refine AH (d==2) (λr=>?_) (λr=>?_)
 ·refine AC AA9 K5 [] λw8 K6=>?_;refine AH (d==2) (λ_=>?_) (λh=>nomatch h.symm.trans r);refine AC AHW K6 [] λf5 K7=>?_;exact AQ K7 (0,0) _ (by unfold Cz;rw[q,r]<;>rfl)
 refine AC pd K5 [] λe5 K8=>?_;refine AH (d==3) (λa=>?_) (λa=>?_)
 ·refine AC AA8 K8 [] λc5 K9=>?_;refine AH (d==3) (λ_=>?_) (λh=>nomatch h.symm.trans a);refine AC AHV K9 [] λb5 m2=>?_;exact AQ m2 (0,0) _ (by unfold Cz;rw[q,r,a]<;>rfl)
 refine AC pb K8 [] λa5 z0=>?_;refine AH (d==20) (λb=>?_) (λb=>?_)
 ·refine AC u0 z0 [] λz4 l2=>?_;refine AH (d==20) (λ_=>?_) (λh=>nomatch h.symm.trans b);refine AC AFU l2 [] λx4 k2=>?_;exact AQ k2 (0,0) _ (by unfold Cz;rw[q,r,a,b]<;>rfl)
 refine AC ed z0 [] λw4 x0=>?_;refine AH (d==21) (λg=>?_) (λg=>?_)
 ·refine AC AFT x0 [] λv4 i2=>?_;exact AQ i2 (0,0) _ (by unfold Cz;rw[q,r,a,b,g]<;>rfl)
 refine AC ec x0 [] λu4 w0=>?_;refine AH (d==4) (λf=>?_) (λf=>?_)
 ·refine AC uy w0 [] λt4 h2=>?_;refine AH (d==4) (λ_=>?_) (λh=>nomatch h.symm.trans f);refine AC AFS h2 [] λq4 g2=>?_;exact AQ g2 (0,0) _ (by unfold Cz;rw[q,r,a,b,g,f]<;>rfl)
 refine AC eb w0 [] λn4 v0=>?_;refine AH (d==16) (λi=>?_) (λi=>?_)
 ·refine AC ux v0 [] λk4 f2=>?_;refine AH (d==16) (λ_=>?_) (λh=>nomatch h.symm.trans i);refine AC AFR f2 [] λh4 e2=>?_;exact AQ e2 (0,0) _ (by unfold Cz;rw[q,r,a,b,g,f,i]<;>rfl)
 refine AC eZ v0 [] λg4 t0=>?_;refine AH (d==17) (λj=>?_) (λj=>?_)
 ·refine AC uw t0 [] λe4 d2=>?_;refine AH (d==17) (λ_=>?_) (λh=>nomatch h.symm.trans j);refine AC AFQ d2 [] λc4 b2=>?_;exact AQ b2 (0,0) _ (by unfold Cz;rw[q,r,a,b,g,f,i,j]<;>rfl)
 refine AC eY t0 [] λb4 r0=>?_;refine AH (d==19) (λl=>?_) (λl=>?_)
 ·refine AC AFP r0 [] λa4 a2=>?_;exact AQ a2 (0,0) _ (by unfold Cz;rw[q,r,a,b,g,f,i,j,l]<;>rfl)
 refine AC eX r0 [] λz3 q0=>?_;refine AH (d==5) (λk=>?_) (λk=>?_)
 ·refine AC uv q0 [] λy3 z1=>?_;refine AH (d==5) (λ_=>?_) (λh=>nomatch h.symm.trans k);refine AC AFO z1 [] λx3 y1=>?_;exact AQ y1 (0,0) _ (by unfold Cz;rw[q,r,a,b,g,f,i,j,l,k]<;>rfl)
 refine AC eW q0 [] λv3 m0=>?_;refine AH (d==6) (λm=>?_) (λm=>?_)
 ·refine AC uu m0 [] λu3 x1=>?_;refine AH (d==6) (λ_=>?_) (λh=>nomatch h.symm.trans m);refine AC AFN x1 [] λt3 v1=>?_;exact AQ v1 (0,0) _ (by unfold Cz;rw[q,r,a,b,g,f,i,j,l,k,m]<;>rfl)
 refine AC eV m0 [] λr3 l0=>?_;refine AH (d==7) (λo=>?_) (λo=>?_)
 ·refine AC ut l0 [] λq3 t1=>?_;refine AH (d==7) (λ_=>?_) (λh=>nomatch h.symm.trans o);refine AC AFM t1 [] λp3 s1=>?_;exact AQ s1 (0,0) _ (by unfold Cz;rw[q,r,a,b,g,f,i,j,l,k,m,o]<;>rfl)
 refine AC eU l0 [] λo3 k0=>?_;refine AH (d==8) (λp=>?_) (λp=>?_)
 ·refine AC ur k0 [] λn3 r1=>?_;refine AH (d==8) (λ_=>?_) (λh=>nomatch h.symm.trans p);refine AC AFL r1 [] λm3 q1=>?_;exact AQ q1 (0,0) _ (by unfold Cz;rw[q,r,a,b,g,f,i,j,l,k,m,o,p]<;>rfl)
 refine AC eT k0 [] λl3 j0=>?_;refine AH (d==9) (λs=>?_) (λs=>?_)
 ·refine AC uq j0 [] λk3 p1=>?_;refine AH (d==9) (λ_=>?_) (λh=>nomatch h.symm.trans s);refine AC AFK p1 [] λi3 o1=>?_;exact AQ o1 (0,0) _ (by unfold Cz;rw[q,r,a,b,g,f,i,j,l,k,m,o,p,s]<;>rfl)
 refine AC eS j0 [] λh3 i0=>?_;refine AH (d==10) (λt=>?_) (λt=>?_)
 ·refine AC uo i0 [] λg3 n1=>?_;refine AH (d==10) (λ_=>?_) (λh=>nomatch h.symm.trans t);refine AC AFJ n1 [] λf3 m1=>?_;exact AQ m1 (0,0) _ (by unfold Cz;rw[q,r,a,b,g,f,i,j,l,k,m,o,p,s,t]<;>rfl)
 refine AC eR i0 [] λe3 h0=>?_;refine AH (d==11) (λu=>?_) (λu=>?_)
 ·refine AC um h0 [] λc3 l1=>?_;refine AH (d==11) (λ_=>?_) (λh=>nomatch h.symm.trans u);refine AC AFI l1 [] λb3 k1=>?_;exact AQ k1 (0,0) _ (by unfold Cz;rw[q,r,a,b,g,f,i,j,l,k,m,o,p,s,t,u]<;>rfl)
 refine AC eQ h0 [] λa3 g0=>?_;refine AH (d==12) (λv=>?_) (λv=>?_)
 ·refine AC ul g0 [] λz2 i1=>?_;refine AH (d==12) (λ_=>?_) (λh=>nomatch h.symm.trans v);refine AC AFH i1 [] λy2 h1=>?_;exact AQ h1 (0,0) _ (by unfold Cz;rw[q,r,a,b,g,f,i,j,l,k,m,o,p,s,t,u,v]<;>rfl)
 refine AC eP g0 [] λx2 e0=>?_;refine AH (d==13) (λx=>?_) (λx=>?_)
 ·refine AC uk e0 [] λw2 g1=>?_;refine AH (d==13) (λ_=>?_) (λh=>nomatch h.symm.trans x);refine AC AFG g1 [] λv2 f1=>?_;exact AQ f1 (0,0) _ (by unfold Cz;rw[q,r,a,b,g,f,i,j,l,k,m,o,p,s,t,u,v,x]<;>rfl)
 refine AC eO e0 [] λu2 d0=>?_;refine AH (d==14) (λy=>?_) (λy=>?_)
 ·refine AC uj d0 [] λt2 e1=>?_;refine AH (d==14) (λ_=>?_) (λh=>nomatch h.symm.trans y);refine AC AFF e1 [] λs2 d1=>?_;exact AQ d1 (0,0) _ (by unfold Cz;rw[q,r,a,b,g,f,i,j,l,k,m,o,p,s,t,u,v,x,y]<;>rfl)
 refine AC eN d0 [] λr2 c0=>?_;refine AH (d==15) (λz=>?_) (λz=>?_)
 ·refine AC AFE c0 [] λq2 c1=>?_;exact AQ c1 (0,0) _ (by unfold Cz;rw[q,r,a,b,g,f,i,j,l,k,m,o,p,s,t,u,v,x,y,z]<;>rfl)
 refine AC eM c0 [] λp2 b0=>?_;refine AH (d==18) (λa0=>?_) (λa0=>?_)
 ·refine AC AFD b0 [] λo2 b1=>?_;exact AQ b1 (0,0) _ (by unfold Cz;rw[q,r,a,b,g,f,i,j,l,k,m,o,p,s,t,u,v,x,y,z,a0]<;>rfl)
 refine AC AFC b0 [] λn2 a1=>?_;exact AQ a1 (0,0) _ (by unfold Cz;rw[q,r,a,b,g,f,i,j,l,k,m,o,p,s,t,u,v,x,y,z,a0]<;>rfl)
def CS (p0a:Int) (p0ba:Int) (p0bb:Int) (p0ca:Int) (p0cb:Int) (p0cc:Int) (p0d:List UInt8) (p0e:Int) (p0f:Int):Bool:=cond (p0a==1) (cond (cond (cond (cond (ED p0ba p0bb) (FD p0ca p0cb p0cc) (false)) (decide (p0d=[])) (false)) (p0e==0) (false)) (p0f==0) (false)) (cond (p0a==2) (cond (cond (cond (cond ((p0ba==0)&&(p0bb==0)) ((p0ca==0)&&((p0cb==0)&&(p0cc==0))) (false)) (decide (p0d=[])) (false)) (cond (p0e==0) (true) (p0e==1)) (false)) (p0f==0) (false)) (cond (p0a==3) (cond (cond (cond (cond ((p0ba==0)&&(p0bb==0)) ((p0ca==0)&&((p0cb==0)&&(p0cc==0))) (false)) (Tk.isName p0d) (false)) (p0e==0) (false)) (p0f==0) (false)) (cond (p0a==4) (cond (cond (cond (cond ((p0ba==0)&&(p0bb==0)) ((p0ca==0)&&((p0cb==0)&&(p0cc==0))) (false)) (Tk.isName p0d) (false)) (p0e==0) (false)) (p0f==0) (false)) (cond (p0a==19) (cond (cond (cond (cond (IF p0ba p0bb) (FD p0ca p0cb p0cc) (false)) (decide (p0d=[])) (false)) (p0e==0) (false)) (Iy p0f) (false)) (cond (p0a==20) (cond (cond (cond (cond ((p0ba==0)&&(p0bb==0)) ((p0ca==0)&&((p0cb==0)&&(p0cc==0))) (false)) (Tk.isName p0d) (false)) (cond (decide (1<=p0e)) (decide (p0e<=120)) (false)) (false)) (p0f==0) (false)) (cond (p0a==21) (cond (cond (cond (cond ((p0ba==0)&&(p0bb==0)) ((p0ca==0)&&((p0cb==0)&&(p0cc==0))) (false)) (Tk.isName p0d) (false)) (cond (decide (1<=p0e)) (decide (p0e<=120)) (false)) (false)) (p0f==0) (false)) (cond (cond (cond (cond ((p0ba==0)&&(p0bb==0)) ((p0ca==0)&&((p0cb==0)&&(p0cc==0))) (false)) (decide (p0d=[])) (false)) (p0e==0) (false)) (p0f==0) (false))))))))
noncomputable def nD:Code:=Tryz.f134.body.getD .skip
def zd:=Ac 1 ([.code nD])
def zc:=Ac 2 (AO zd)
def zb:=Ac 3 (AO zc)
def ou:=Ω zb
def zZ:=Ac 6 (AE ou)
def zY:=Ac 18 (AO zZ)
def AGm:=Ω zY
def ot:=Ξ ou
def zX:=Ac 8 (AE ot)
def zW:=Ac 18 (AO zX)
def AEW:=Ω zW
def dD:=Ξ ot
def s8:=Θ dD
def s7:=Θ s8
def s6:=Ac 18 (AD s7)
def AEV:=Ω s6
def dC:=Ξ dD
def s5:=Θ dC
def s4:=Ac 18 (AD s5)
def AEU:=Ω s4
def dB:=Ξ dC
def s3:=Ac 13 (AE dB)
def s0:=Ac 18 (AO s3)
def AET:=Ω s0
def dA:=Ξ dB
def sy:=Θ dA
def sx:=Θ sy
def sw:=Ac 17 (AD sx)
def sv:=Ac 18 (AO sw)
def AES:=Ω sv
def cz:=Ξ dA
def su:=Θ cz
def st:=Ac 17 (AD su)
def sr:=Ac 18 (AO st)
def AER:=Ω sr
def sq:=Ac 18 (AG cz)
def AEQ:=Ω sq
theorem QH (m l j i g f:Int) (o:List UInt8) (d0 s:Int) (c0:Option Addr) (a0 b0:Nat) (w:World) (hs:o.length<=4294967296):Calls Tryz.prog 134 ([D [J m,J l,J j,J i,J g,J f,Y o,J d0,J s,V c0 a0 b0]]:List Value).toArray w λe w'=>e=.returned (I (CS m l j i g f o d0 s))/\Below (U w) w w':=by
 refine AS (fn:=Tryz.f134) (c:=nD) (n:=89) ?_;have K1:=Wk.start w;refine Bg 1 zd [N (U w) [J m,J l,J j,J i,J g,J f,Y o,J d0,J s,V c0 a0 b0] 70] K1 [] λw1 K2=>?_;refine Ap K2 [(1,0,1)] [⟨3,[(9,D [J l,J j]),(10,D [J 0,J 0])],I ((l==0)&&(j==0)),true⟩] K2.G (λr d=>?_) λw2 E2 K3=>?_
 ·rw[mem_singleton.1 d];exact BR λ_ E u _=>DS (k:=.eql) (T:=47) (a:=D [J l,J j]) (b:=D [J 0,J 0]) (GF u l j 0 0)
 refine Al 2 zc K3 [] λw3 K4=>?_;refine Ap K4 [(1,0,3)] [⟨3,[(13,D [J i,J g,J f]),(14,D [J 0,J 0,J 0])],I ((i==0)&&((g==0)&&(f==0))),true⟩] K4.G (λr d=>?_) λw4 E4 K5=>?_
 ·rw[mem_singleton.1 d];exact BR λ_ E u _=>DS (k:=.eql) (T:=63) (a:=D [J i,J g,J f]) (b:=D [J 0,J 0,J 0]) (JV u i g f 0 0 0)
 refine Al 3 zb K5 [] λw5 K6=>?_;refine Ap K6 [(1,0,6),(4,0,7),(7,0,8)] [⟨2,[(17,Y o)],I (decide (o=[])),true⟩] K6.G (λr d=>?_) λw6 E6 K7=>?_
 ·rw[mem_singleton.1 d];exact BR λ_ E u _=>Iq (T:=9) (T':=9) (x:=.tmp 17) (y:=.const (Y []))
 refine AC ou K7 [(0,0)] λw7 K8=>?_;refine AH (m==1) (λc8=>?_) (λc8=>?_)
 ·refine Al 6 zZ K8 [] λw9 K9=>?_;refine Ap K9 [(1,0,1),(4,0,3)] [⟨2,[(30,D [J l,J j])],I (ED l j),true⟩,⟨5,[(33,D [J i,J g,J f])],I (FD i g f),true⟩] K9.G (λr d=>?_) λz4 x5 p2=>?_
  ·simp only[mem_cons,not_mem_nil,or_false]at d;rcases d with rfl | rfl
   ·exact AU 115 [.tmp 30] _ (λ_=>by kernel_rfl) λhc u hu=>AR hu (LJ l j u)
   exact AU 114 [.tmp 33] _ (λ_=>by kernel_rfl) λhc u hu=>AR hu (Jz i g f u)
  refine Al 18 zY p2 [] λx4 c1=>?_;refine Ap c1 [] [] c1.G (λr d=>by cases d) λv4 v5 o2=>?_;refine AC AGm o2 [] λu4 n2=>?_;exact AQ n2 (0,0) _ (by unfold CS;rw[c8]<;>rfl)
 refine AC ot K8 [] λt4 b1=>?_;refine AH (m==2) (λq=>?_) (λq=>?_)
 ·refine Al 8 zX b1 [] λq4 a1=>?_;refine Ap a1 [(1,0,7),(5,0,7)] [] a1.G (λr d=>by cases d) λn4 u5 m2=>?_;refine Al 18 zW m2 [] λk4 z0=>?_;refine Ap z0 [] [] z0.G (λr d=>by cases d) λh4 t5 l2=>?_;refine AC AEW l2 [] λg4 k2=>?_;exact AQ k2 (0,0) _ (by unfold CS;rw[c8,q]<;>rfl)
 refine AC dD b1 [] λe4 x0=>?_;refine AH (m==3) (λp=>?_) (λp=>?_)
 ·refine AC s8 x0 [] λc4 i2=>?_;refine AH (m==3) (λ_=>?_) (λh=>nomatch h.symm.trans p);refine AC s7 i2 [(0,6)] λg1 h2=>?_;refine AW h2 (F9 o g1 (by assumption)) λb4 g2=>?_;refine Al 18 s6 g2 [] λa4 w0=>?_;refine Ap w0 [] [] w0.G (λr d=>by cases d) λz3 q5 f2=>?_;refine AC AEV f2 [] λy3 e2=>?_;exact AQ e2 (0,0) _ (by unfold CS;rw[c8,q,p]<;>rfl)
 refine AC dC x0 [] λx3 v0=>?_;refine AH (m==4) (λt=>?_) (λt=>?_)
 ·refine AC s5 v0 [(0,6)] λf1 d2=>?_;refine AW d2 (F9 o f1 (by assumption)) λv3 c2=>?_;refine Al 18 s4 c2 [] λu3 t0=>?_;refine Ap t0 [] [] t0.G (λr d=>by cases d) λt3 k5 b2=>?_;refine AC AEU b2 [] λr3 a2=>?_;exact AQ a2 (0,0) _ (by unfold CS;rw[c8,q,p,t]<;>rfl)
 refine AC dB v0 [] λq3 r0=>?_;refine AH (m==19) (λz=>?_) (λz=>?_)
 ·refine Al 13 s3 r0 [] λp3 q0=>?_;refine Ap q0 [(1,0,1),(4,0,3),(7,0,8)] [⟨2,[(54,D [J l,J j])],I (IF l j),true⟩,⟨5,[(57,D [J i,J g,J f])],I (FD i g f),true⟩,⟨8,[(60,J s)],I (Iy s),true⟩] q0.G (λr d=>?_) λo3 h5 z1=>?_
  ·simp only[mem_cons,not_mem_nil,or_false]at d;rcases d with rfl | rfl | rfl
   ·exact AU 80 [.tmp 54] _ (λ_=>by kernel_rfl) λhc u hu=>AR hu (RY l j u)
   ·exact AU 114 [.tmp 57] _ (λ_=>by kernel_rfl) λhc u hu=>AR hu (Jz i g f u)
   exact AU 79 [.tmp 60] _ (λ_=>by kernel_rfl) λhc u hu=>AR hu (Rb s u)
  refine Al 18 s0 z1 [] λn3 p0=>?_;refine Ap p0 [] [] p0.G (λr d=>by cases d) λm3 g5 y1=>?_;refine AC AET y1 [] λl3 x1=>?_;exact AQ x1 (0,0) _ (by unfold CS;rw[c8,q,p,t,z]<;>rfl)
 refine AC dA r0 [] λk3 m0=>?_;refine AH (m==20) (λv=>?_) (λv=>?_)
 ·refine AC sy m0 [] λi3 v1=>?_;refine AH (m==20) (λ_=>?_) (λh=>nomatch h.symm.trans v);refine AC sx v1 [(0,6)] λe1 t1=>?_;refine AW t1 (F9 o e1 (by assumption)) λh3 s1=>?_;refine Al 17 sw s1 [] λg3 l0=>?_;refine Ap l0 [(1,0,7),(5,0,7)] [] l0.G (λr d=>by cases d) λf3 f5 r1=>?_;refine Al 18 sv r1 [] λe3 k0=>?_;refine Ap k0 [] [] k0.G (λr d=>by cases d) λc3 e5 q1=>?_;refine AC AES q1 [] λb3 p1=>?_;exact AQ p1 (0,0) _ (by unfold CS;rw[c8,q,p,t,z,v]<;>rfl)
 refine AC cz m0 [] λa3 j0=>?_;refine AH (m==21) (λe0=>?_) (λe0=>?_)
 ·refine AC su j0 [(0,6)] λd1 o1=>?_;refine AW o1 (F9 o d1 (by assumption)) λz2 n1=>?_;refine Al 17 st n1 [] λy2 i0=>?_;refine Ap i0 [(1,0,7),(5,0,7)] [] i0.G (λr d=>by cases d) λx2 c5 m1=>?_;refine Al 18 sr m1 [] λv2 h0=>?_;refine Ap h0 [] [] h0.G (λr d=>by cases d) λu2 b5 l1=>?_;refine AC AER l1 [] λt2 k1=>?_;exact AQ k1 (0,0) _ (by unfold CS;rw[c8,q,p,t,z,v,e0]<;>rfl)
 refine Al 18 sq j0 [] λs2 g0=>?_;refine Ap g0 [] [] g0.G (λr d=>by cases d) λr2 a5 i1=>?_;refine AC AEQ i1 [] λq2 h1=>?_;exact AQ h1 (0,0) _ (by unfold CS;rw[c8,q,p,t,z,v,e0]<;>rfl)
def IE (p0a:Int) (p0ba:Int) (p0bb:Int) (p0ca:Int) (p0cb:Int) (p0cc:Int) (p0d:List UInt8) (p0e:Int) (p0f:Int) (p0gn:Nat):Bool:=cond (cond (cond (cond (cond (cond (p0a==0) ((p0ba==0)&&(p0bb==0)) (false)) ((p0ca==0)&&((p0cb==0)&&(p0cc==0))) (false)) (decide (p0d=[])) (false)) (p0e==0) (false)) (p0f==0) (false)) ((p0gn:Int)==0) (false)
noncomputable def nl:Code:=Tryz.f74.body.getD .skip
def ABG:=Ac 1 ([.code nl])
def AHd:=Ω ABG
theorem gW (j f d i h g:Int) (m:List UInt8) (r q:Int) (p:Option Addr) (l o:Nat) (w:World):Calls Tryz.prog 74 ([D [J j,J f,J d,J i,J h,J g,Y m,J r,J q,V p l o]]:List Value).toArray w λe w'=>e=.returned (I (IE j f d i h g m r q l))/\Below (U w) w w':=by
 refine AS (fn:=Tryz.f74) (c:=nl) (n:=39) ?_;have K1:=Wk.start w;refine Bg 1 ABG [N (U w) [J j,J f,J d,J i,J h,J g,Y m,J r,J q,V p l o] 70] K1 [] λw1 t=>?_;refine Ap t [(1,0,0),(5,0,1),(11,0,3),(17,0,6),(22,0,7),(27,0,8),(32,0,9)] [⟨7,[(8,D [J f,J d]),(9,D [J 0,J 0])],I ((f==0)&&(d==0)),((j==0))&&(true)⟩,⟨13,[(14,D [J i,J h,J g]),(15,D [J 0,J 0,J 0])],I ((i==0)&&((h==0)&&(g==0))),((cond (j==0) ((f==0)&&(d==0)) (false)))&&(true)⟩,⟨18,[(20,Y m)],I (decide (m=[])),((cond (cond (j==0) ((f==0)&&(d==0)) (false)) ((i==0)&&((h==0)&&(g==0))) (false)))&&(true)⟩] t.G (λsp s=>?_) λw2 E2 z=>?_
 ·simp only[mem_cons,not_mem_nil,or_false]at s;rcases s with rfl | rfl | rfl
  ·exact BR λ_ E u _=>DS (k:=.eql) (T:=47) (a:=D [J f,J d]) (b:=D [J 0,J 0]) (GF u f d 0 0)
  ·exact BR λ_ E u _=>DS (k:=.eql) (T:=63) (a:=D [J i,J h,J g]) (b:=D [J 0,J 0,J 0]) (JV u i h g 0 0 0)
  exact BR λ_ E u _=>Iq (T:=9) (T':=9) (x:=.tmp 20) (y:=.const (Y []))
 refine AC AHd z [] λw3 v=>?_;exact AQ v (0,0) _ (by unfold IE;rfl)
end
end Go.Proofs.YtkpemkkbjfbmaaaGreat
namespace Go.Proofs.YtkpemkkbjfbmaaaGreat
open List
noncomputable section
open Go.RowKit
set_option maxRecDepth 100000
set_option maxHeartbeats 1000000
mutual
def Ft:Ex->Int->Bool
 | .mk op num den mu hu du name count mode kids,h=>cond (cond (cond (decide (h<1)) true (!((kids.length:Int)==Cz op))) true (!(CS op num den mu hu du name count mode))) false (Gd kids (h-1))
def Gd:List Ex->Int->Bool
 | [],_=>true
 | e::es,h=>cond (!(Ft e h)) false (Gd es h)
end
mutual
def EB:Ex->Prop
 | .mk _ _ _ _ _ _ name _ _ kids=>name.length<=4294967296/\kids.length<=4294967296/\JJ kids
def JJ:List Ex->Prop
 | []=>True
 | e::es=>EB e/\JJ es
end
theorem Kb:∀ {es:List Ex} {i:Nat} {e:Ex},JJ es->es[i]?=some e->EB e
 | [],_,_,_,h=>by simp at h
 | x::es,0,e,h,hi=>by unfold JJ at h;simp at hi;exact hi ▸ h.1
 | x::es,i+1,e,h,hi=>by unfold JJ at h;exact Kb h.2 (by simpa using hi)
theorem NA {S:Nat->Prop} {w:World}:∀ {es:List Ex} {ks:List (List Value)} {i:Nat} {e:Ex},Fb S w es ks->es[i]?=some e->∃r,ks[i]?=some r/\DD S w e r
 | [],_,_,_,_,h=>by simp at h
 | x::es,ks,i,e,h,hi=>by
  unfold Fb at h;obtain⟨c,cs,rfl,a,h2⟩:=h
  cases i with
  | zero=>simp at hi;subst hi;exact⟨c,by simp,a⟩
  | succ i=>obtain⟨r,hr,hx⟩:=NA (i:=i) h2 (by simpa using hi);exact⟨r,by simpa using hr,hx⟩
theorem Jl:∀ {es:List Ex} {i:Nat} {e:Ex},es[i]?=some e->Ex.height e<=Ex.heights es
 | [],_,_,h=>by simp at h
 | x::es,0,e,h=>by unfold Ex.heights;simp at h;subst h;omega
 | x::es,i+1,e,h=>by unfold Ex.heights;have:=Jl (es:=es) (i:=i) (e:=e) (by simpa using h);omega
abbrev Cg:Nat->Prop:=λ_=>True
theorem DD.below {w w':World} {e:Ex} {cs:List Value} (h:DD Cg w e cs) (B:Below (U w) w w'):DD Cg w' e cs:=DD.keep B.size (λg _ hg=>⟨trivial,B.block g hg⟩) e cs h
theorem Fb.below {w w':World} {es:List Ex} {ks:List (List Value)} (h:Fb Cg w es ks) (B:Below (U w) w w'):Fb Cg w' es ks:=Fb.keep B.size (λg _ hg=>⟨trivial,B.block g hg⟩) es ks h
theorem DF.below {w w':World} {n:Nat} {A:Option Addr} {rs:List (List Value)} (h:DF Cg w n A rs) (B:Below (U w) w w'):DF Cg w' n A rs:=DF.keep h B.size λg _ hg=>⟨trivial,B.block g hg⟩
abbrev PJ (op num den mu hu du:Int) (nm:List UInt8) (cnt md:Int) (A:Option Addr) (n c:Nat):List Value:=[J op,J num,J den,J mu,J hu,J du,Y nm,J cnt,J md,V A n c]
noncomputable def Ry:Code:=Tryz.f116.body.getD .skip
def dF:=Ac 1 [.code Ry]
def ox:=Ω dF
def dE:=Ξ ox
def V2:=ν (Au dE)
def ow:=AB (Aq Aa 90 (AE V2)) (AE V2)
def ov:=ν (AD (AD ow))
def ze:=Ψ ov
def Sn (n:Nat):Prop:=∀(e:Ex) (cs:List Value) (h:Int) (w:World),e.height<=n->EB e->DD Cg w e cs->-1000000<=h->h<=1000000->Calls Tryz.prog 116 ([D cs,J h]:List Value).toArray w λen w'=>en=.returned (I (Ft e h))/\Below (U w) w w'
theorem iQ {a:List Ex} {h:Int}:∀(i:Nat) (e:Ex),a[i]?=some e->Gd (a.drop i) h=cond (!(Ft e h)) false (Gd (a.drop (i+1)) h):=λi e hi=>by have hl:i<a.length:=(List.getElem?_eq_some_iff.1 hi).1;have he:a[i]=e:=(List.getElem?_eq_some_iff.1 hi).2;rw[<-getElem_cons_drop hl,Gd,he]
theorem og (n:Nat) (IH:Sn n):Sn (n+1):=by
 rintro⟨op,num,den,mu,hu,du,nm,cnt,md,a⟩ cs h w hh ht hx h0 h1;unfold DD at hx;obtain⟨A,c,ks,rfl,g0,b⟩:=hx;unfold EB at ht;obtain⟨hs,hl,ht⟩:=ht;have b1:Ex.heights a<=n:=by unfold Ex.height at hh;omega
 clear hh;rw[show Ft (.mk op num den mu hu du nm cnt md a) h=cond (cond (cond (decide (h<1)) true (!((a.length:Int)==Cz op))) true (!(CS op num den mu hu du nm cnt md))) false (Gd a (h-1)) by rw[Ft]];refine Is (args:=[D (PJ op num den mu hu du nm cnt md A a.length c),J h]) (fn:=Tryz.f116) (c:=Ry) (n:=36) ?_;refine Cp (Kc 1 90 [.code Ry]) [.code Ry] (U w) [] [] dF [(1,J h),(2,Z (U w))] (U w+1) [N (U w) (PJ op num den mu hu du nm cnt md A a.length c) 70] (CQ w) λw1 E1 j0 t0=>?_;have B1:Below (U w) w w1:=Ch t0;have G1:=j0.sat.good;refine Iu ((Da dF).getD #[]) ⟨[N (U w) (PJ op num den mu hu du nm cnt md A a.length c) 70],[(4,0,9),(7,0,0),(12,0,0)],[⟨8,[(14,J op)],J (Cz op),(!(decide (h<1)))&&true⟩,⟨13,[(19,D (PJ op num den mu hu du nm cnt md A a.length c))],I (CS op num den mu hu du nm cnt md),(!(cond (decide (h<1)) true (!((a.length:Int)==Cz op))))&&true⟩]⟩ [(1,J h),(2,Z (U w)),(22,I (cond (cond (decide (h<1)) true (!((a.length:Int)==Cz op))) true (!(CS op num den mu hu du nm cnt md))))] (by kernel_rfl) (by kernel_rfl) (by kernel_rfl) G1 (λsp z=>?_) (λX=>by kernel_rfl) (by kernel_rfl) λy E2 b2=>?_
 ·simp only[mem_cons,not_mem_nil,or_false]at z;rcases z with rfl | rfl
  ·exact AU 133 [.tmp 14] _ (λ_=>by kernel_rfl) λ_ u v=>AR v (qi op u)
  exact AU 134 [.tmp 19] _ (λ_=>by kernel_rfl) λ_ u v=>AR v (QH op num den mu hu du nm cnt md A a.length c u hs)
 have B2:=B1.trans (b2.mono B1.size);have G2:=BG G1 b2;have d:cond (cond (decide (h<1)) true (!((a.length:Int)==Cz op))) true (!(CS op num den mu hu du nm cnt md))=false->1<=h:=λv=>by
  by_cases hb:h<1
  ·rw[decide_eq_true hb]at v;exact nomatch v
  omega
 generalize cond (cond (decide (h<1)) true (!((a.length:Int)==Cz op))) true (!(CS op num den mu hu du nm cnt md))=bad at d ⊢;refine Cp 60 (AO dF) (U y) [] [] ox [(1,J h),(2,Z (U w)),(22,I bad)] (U y) [] (CQ y) λw3 E3 i1 r0=>?_;have b3:Below (U y) y w3:=Ch r0;have B3:=B2.trans (b3.mono B2.size);have G3:=BG G2 b3
 cases bad with
 | true=>
  refine D9 true (λ_=>?_) (λh=>nomatch h);exact FU (fn:=Tryz.f116) 60 (I false) λwz Bz=>⟨rfl,B3.trans (Bz.mono B3.size)⟩
 | false=>
 rw[show cond false false (Gd a (h-1))=Gd a (h-1)from rfl];have d:=d rfl;refine D9 false (λh=>nomatch h) λ_=>?_;refine Cp 60 (AG ox) (U w3) _ [(0,9)] dE [(1,J h),(24,V A a.length c),(25,J (a.length:Nat)),(26,J ((0:Nat):Int))] (U w3) [N (U w) (PJ op num den mu hu du nm cnt md A a.length c) 70] (MF w3 _ G3 (by simp)) λw4 E4 g1 q0=>?_;have B4:Below (U w) w w4:=B3.trans (q0.below B3.size (λk hk=>by rw[mem_singleton.1 hk];exact Nat.le_refl _));refine Bp (by kernel_rfl) (λE x=>∃(i:Nat) (E0:Nat->Value),i<=a.length/\E=BN E0 [(1,J h),(24,V A a.length c),(25,J (a.length:Nat)),(26,J (i:Nat))]/\Gd a (h-1)=Gd (a.drop i) (h-1)/\Below (U w) w x)
  (λE _=>a.length-AP (E 26)) ⟨0,E4,Nat.zero_le _,rfl,rfl,B4⟩ ?_
 rintro E x ⟨i,E0,hi,rfl,hv,Bx⟩ l;refine Cp 60 (Au dE) (U x) [] [] V2 [(1,J h),(24,V A a.length c),(25,J (a.length:Nat)),(26,J (i:Nat)),(27,I (decide ((i:Int)<(a.length:Int))))] (U x) [] (CQ x) λt E5 f1 p0=>?_;have B5:=Bx.trans ((Ch p0).mono Bx.size);refine D9 (decide ((i:Int)<(a.length:Int))) (λp=>?_) (λp=>?_)
 ·have f:i<a.length:=by have:=of_decide_eq_true p;omega
  obtain⟨e,he⟩:∃e,a[i]?=some e:=⟨_,getElem?_eq_getElem f⟩;rw[iQ i e he]at hv;obtain⟨r,hr,o⟩:=NA g0 he;rcases b with b | ⟨g,off,rfl,_,hg,q⟩
  ·rw[b]at hr;simp at hr
  have m:=q i r hr;have c0:r.length=10:=by obtain⟨_,_,_,_,_,_,_,_,_,_,_,_,rfl⟩:=o.cells;rfl
  have z0:t.rangeAt g (off+i*10) r:=λj u hu=>(World.cell?_of_block (B5.block g hg)).trans (m j u hu);refine Cp (Aq Aa 90 (AE V2)) (AE V2) (U t) [] [] ow [(1,J h),(24,V (some ⟨g,off,none⟩) a.length c),(25,J (a.length:Nat)),(26,J (i:Nat))] (U t) [] (CQ t) λs E6 e1 m0=>?_;have b6:Below (U t) t s:=Ch m0;have B6:=B5.trans (b6.mono B5.size);have e0:s.rangeAt g (off+i*10) r:=λj u hu=>(World.cell?_of_block (B6.block g hg)).trans (m j u hu);refine Aw (g:=g) (off:=off) (cap:=c) (sz:=10) (k:=i) (len:=a.length) (some 28) f Tryz.underlying68 ?_;refine Bd 70 g (off+i*10) r (some 29) (h2:=by rw[c0];kernel_rfl) e0 ?_;have d0:IntKind.i64.wrap (h-1)=h-1:=IntWalk.i64_in _ (by omega);obtain⟨a0,a1,a2,a3,a4,a5,a6,a7,a8,A9,n9,c9,rfl⟩:=o.cells;refine Cp 60 (AD (AD ow)) (U s) [] [(0,0),(0,0)] ov [(1,J h),(24,V (some ⟨g,off,none⟩) a.length c),(25,J (a.length:Nat)),(26,J (i:Nat)),(30,D (PJ a0 a1 a2 a3 a4 a5 a6 a7 a8 A9 n9 c9)),(32,J (IntKind.i64.wrap (h-1)))] (U s+1) [N (U s) (PJ a0 a1 a2 a3 a4 a5 a6 a7 a8 A9 n9 c9) 70] (CQ s) λw7 E7 d1 l0=>?_;have B7:=B6.trans ((Ch l0).mono B6.size);rw[d0];refine MP 116 [.tmp 30,.tmp 32] (some 33) [D (PJ a0 a1 a2 a3 a4 a5 a6 a7 a8 A9 n9 c9),J (h-1)] (by kernel_rfl) (by kernel_rfl) (by kernel_rfl) ((IH e _ (h-1) w7 (by have:=Jl he;omega) (Kb ht he) (o.below B7) (by omega) (by omega)).mono λen w8 hh=>?_);obtain⟨rfl,b8⟩:=hh;refine⟨_,rfl,?_⟩;have B8:=B7.trans (b8.mono B7.size);generalize Ft e (h-1)=be at *
  refine Cp 60 (AD ov) (U w8) [] [] ze [(1,J h),(24,V (some ⟨g,off,none⟩) a.length c),(25,J (a.length:Nat)),(26,J (i:Nat)),(34,I (!be))] (U w8) [] (CQ w8) λw9 E9 c1 k0=>?_;have B9:=B8.trans ((Ch k0).mono B8.size)
  cases be with
  | false=>
   rw[hv];refine D9 true (λ_=>?_) (λh=>nomatch h);exact FU (fn:=Tryz.f116) 60 (I false) λwz Bz=>⟨rfl,B9.trans (Bz.mono B9.size)⟩
  | true=>
   refine D9 false (λh=>nomatch h) λ_=>?_;refine Cp 60 (AG ze) (U w9) [] [] (Ab dE) [(1,J h),(24,V (some ⟨g,off,none⟩) a.length c),(25,J (a.length:Nat)),(26,J (IntKind.i64.wrap ((i:Int)+1)))] (U w9) [] (CQ w9) λx0 v0 w0 b0=>?_;rw[Bs i (by omega)];refine l _ _ ⟨i+1,v0,f,rfl,hv,B9.trans ((Ch b0).mono B9.size)⟩ ?_;show a.length-AP (J ((i+1:Nat):Int))<a.length-AP (J (i:Int));simp only[AP];omega
 have i0:i=a.length:=by have:=of_decide_eq_false p;omega
 rw[hv,i0,drop_length,Gd];exact FU (fn:=Tryz.f116) 60 (I true) λwz Bz=>⟨rfl,B5.trans (Bz.mono B5.size)⟩
theorem ZC:∀n,Sn n
 | 0=>λe cs h w a=>absurd a (by cases e;unfold Ex.height;omega)
 | n+1=>og n (ZC n)
def H3:List (Int×Int×Int)->Int->Bool
 | [],_=>true
 | e::es,b=>cond (cond (cond (decide (e.1<=b)) true (decide (1000000<e.1))) true (!(ED e.2.1 e.2.2))) false (H3 es e.1)
def Et (es:List (Int×Int×Int)):Bool:=cond (cond (decide ((es.length:Int)<1)) true (decide (64<(es.length:Int)))) false (H3 es (-1))
theorem iR {es:List (Int×Int×Int)} {b:Int} (i:Nat) (e:Int×Int×Int) (hi:es[i]?=some e):H3 (es.drop i) b=cond (cond (cond (decide (e.1<=b)) true (decide (1000000<e.1))) true (!(ED e.2.1 e.2.2))) false (H3 (es.drop (i+1)) e.1):=by have hl:i<es.length:=(List.getElem?_eq_some_iff.1 hi).1;have he:es[i]=e:=(List.getElem?_eq_some_iff.1 hi).2;rw[<-getElem_cons_drop hl,H3,he]
noncomputable def Rx:Code:=Tryz.f77.body.getD .skip
def cu:=Ac 1 [.code Rx]
def or:=Ω cu
def cy:=Ξ or
def V1:=ν (Au cy)
def cw:=AB (Aq Aa 90 (AE V1)) (AE V1)
def cv:=Ac 7 (AD (AD cw))
def zV:=Ω cv
theorem PU (es:List (Int×Int×Int)) (A:Option Addr) (c:Nat) (w:World) (a:DF Cg w 3 A (es.map LU)):Calls Tryz.prog 77 ([V A es.length c]:List Value).toArray w λe w'=>e=.returned (I (Et es))/\Below (U w) w w':=by
 refine Is (args:=[V A es.length c]) (fn:=Tryz.f77) (c:=Rx) (n:=38) ?_;refine Cp (Kc 1 90 [.code Rx]) [.code Rx] (U w) [] [] cu [(0,V A es.length c)] (U w) [] (CQ w) λw0 E0 z0 k0=>?_;have B0:Below (U w) w w0:=Ch k0;refine Iu ((Da cu).getD #[]) ⟨[],[],[]⟩ [(0,V A es.length c),(13,I (cond (decide ((es.length:Int)<1)) true (decide (64<(es.length:Int)))))] (by kernel_rfl) (by kernel_rfl) (by kernel_rfl) (λe he=>by cases he) (λsp p=>by cases p) (λX=>by kernel_rfl) (by kernel_rfl) λwa Ea ba=>?_;have Ba:=B0.trans (ba.mono B0.size);refine Cp 60 (AO cu) (U wa) [] [] or [(0,V A es.length c),(13,I (cond (decide ((es.length:Int)<1)) true (decide (64<(es.length:Int)))))] (U wa) [] (CQ wa) λw1 E1 x0 j0=>?_;have B1:Below (U w) w w1:=Ba.trans ((Ch j0).mono Ba.size);unfold Et;have l:cond (decide ((es.length:Int)<1)) true (decide (64<(es.length:Int)))=false->es.length<=64:=λt=>by
  by_cases hb:64<(es.length:Int)
  ·by_cases hc:(es.length:Int)<1
   ·omega
   rw[decide_eq_true hb,decide_eq_false hc]at t;exact nomatch t
  omega
 generalize cond (decide ((es.length:Int)<1)) true (decide (64<(es.length:Int)))=bad at l ⊢
 cases bad with
 | true=>
  refine D9 true (λ_=>?_) (λh=>nomatch h);exact FU (fn:=Tryz.f77) 60 (I false) λwz Bz=>⟨rfl,B1.trans (Bz.mono B1.size)⟩
 | false=>
 have l:=l rfl;rw[show cond false false (H3 es (-1))=H3 es (-1)from rfl];refine D9 false (λh=>nomatch h) λ_=>?_;refine Cp 60 (AG or) (U w1) [] [] cy [(3,J (-1)),(14,V A es.length c),(15,J (es.length:Nat)),(16,J ((0:Nat):Int))] (U w1) [] (CQ w1) λw4 E4 v0 i0=>?_;have B4:Below (U w) w w4:=B1.trans ((Ch i0).mono B1.size);refine Bp (by kernel_rfl) (λE v=>∃(i:Nat) (b:Int) (E0:Nat->Value),i<=es.length/\E=BN E0 [(3,J b),(14,V A es.length c),(15,J (es.length:Nat)),(16,J (i:Nat))]/\H3 es (-1)=H3 (es.drop i) b/\Below (U w) w v)
  (λE _=>es.length-AP (E 16)) ⟨0,-1,E4,Nat.zero_le _,rfl,rfl,B4⟩ ?_
 rintro E v ⟨i,b,E0,hi,rfl,hv,Bx⟩ o;refine Cp 60 (Au cy) (U v) [] [] V1 [(3,J b),(14,V A es.length c),(15,J (es.length:Nat)),(16,J (i:Nat)),(17,I (decide ((i:Int)<(es.length:Int))))] (U v) [] (CQ v) λw5 E5 t0 h0=>?_;have B5:=Bx.trans ((Ch h0).mono Bx.size);refine D9 (decide ((i:Int)<(es.length:Int))) (λr=>?_) (λr=>?_)
 ·have f:i<es.length:=by have:=of_decide_eq_true r;omega
  obtain⟨⟨k,n,d⟩,he⟩:∃e,es[i]?=some e:=⟨_,getElem?_eq_getElem f⟩;rw[iR i _ he]at hv;have hr:(es.map LU)[i]?=some [J k,J n,J d]:=by rw[getElem?_map,he];rfl
  rcases a with a | ⟨g,off,rfl,_,hg,s⟩
  ·rw[a]at hr;simp at hr
  have y:=s i _ hr;refine Cp (Aq Aa 90 (AE V1)) (AE V1) (U w5) [] [] cw [(3,J b),(14,V (some ⟨g,off,none⟩) es.length c),(15,J (es.length:Nat)),(16,J (i:Nat))] (U w5) [] (CQ w5) λm E6 r0 g0=>?_;have B6:=B5.trans ((Ch g0).mono B5.size);have a0:m.rangeAt g (off+i*3) [J k,J n,J d]:=λj u hu=>(World.cell?_of_block (B6.block g hg)).trans (y j u hu);refine Aw (g:=g) (off:=off) (cap:=c) (sz:=3) (k:=i) (len:=es.length) (some 18) f Tryz.underlying67 ?_;refine Bd 107 g (off+i*3) _ (some 19) a0 ?_;refine Cp (Kc 7 90 (AD (AD cw))) (AD (AD cw)) (U m) [] [(0,0)] cv [(3,J b),(5,Z (U m)),(14,V (some ⟨g,off,none⟩) es.length c),(15,J (es.length:Nat)),(16,J (i:Nat))] (U m+1) [N (U m) [J k,J n,J d] 107] (CQ m) λw7 E7 c0 e0=>?_;have B7:=B6.trans ((Ch e0).mono B6.size);have G7:=c0.sat.good;refine Iu ((Da cv).getD #[]) ⟨[N (U m) [J k,J n,J d] 107],[(1,0,0),(6,0,0),(11,0,1)],[⟨12,[(31,D [J n,J d])],I (ED n d),(!(cond (decide (k<=b)) true (decide (1000000<k))))&&true⟩]⟩ [(5,Z (U m)),(14,V (some ⟨g,off,none⟩) es.length c),(15,J (es.length:Nat)),(16,J (i:Nat)),(34,I (cond (cond (decide (k<=b)) true (decide (1000000<k))) true (!(ED n d))))] (by kernel_rfl) (by kernel_rfl) (by kernel_rfl) G7 (λsp p=>?_) (λX=>by kernel_rfl) (by kernel_rfl) λx E8 b8=>?_
  ·rw[mem_singleton.1 p];exact AU 115 [.tmp 31] _ (λ_=>by kernel_rfl) λ_ u t=>AR t (LJ n d u)
  have B8:=B7.trans (b8.mono B7.size);have G8:=BG G7 b8;generalize cond (cond (decide (k<=b)) true (decide (1000000<k))) true (!(ED n d))=bad at hv ⊢;refine Cp 60 (AO cv) (U x) [] [] zV [(5,Z (U m)),(14,V (some ⟨g,off,none⟩) es.length c),(15,J (es.length:Nat)),(16,J (i:Nat)),(34,I bad)] (U x) [] (CQ x) λw9 E9 q0 d0=>?_;have b9:Below (U x) x w9:=Ch d0;have B9:=B8.trans (b9.mono B8.size);have G9:=BG G8 b9
  cases bad with
  | true=>
   rw[hv];refine D9 true (λ_=>?_) (λh=>nomatch h);exact FU (fn:=Tryz.f77) 60 (I false) λwz Bz=>⟨rfl,B9.trans (Bz.mono B9.size)⟩
  | false=>
   refine D9 false (λh=>nomatch h) λ_=>?_;refine Cp 60 (AG zV) (U w9) _ [(0,0)] (Ab cy) [(3,J k),(14,V (some ⟨g,off,none⟩) es.length c),(15,J (es.length:Nat)),(16,J (IntKind.i64.wrap ((i:Int)+1)))] (U w9) [N (U m) [J k,J n,J d] 107] (MF w9 _ G9 (by simp)) λp0 l0 m0 z=>?_;rw[Bs i (by omega)];refine o _ _ ⟨i+1,k,l0,f,rfl,hv,z.below B9.size (λq t=>by rw[mem_singleton.1 t];exact B6.size) |> B9.trans⟩ ?_;show es.length-AP (J ((i+1:Nat):Int))<es.length-AP (J (i:Int));simp only[AP];omega
 have b0:i=es.length:=by have:=of_decide_eq_false r;omega
 rw[hv,b0,drop_length,H3];exact FU (fn:=Tryz.f77) 60 (I true) λwz Bz=>⟨rfl,B5.trans (Bz.mono B5.size)⟩
attribute [local irreducible] BI BQ AD AE AG Au Ab AO A8 Bi Ct BO At Fr
theorem Ot (es:List (Int×Int×Int)) (A:Option Addr) (n c:Nat) (w:World) (hn:n=es.length) (a:DF Cg w 3 A (es.map LU)):Calls Tryz.prog 77 ([V A n c]:List Value).toArray w λe w'=>e=.returned (I (Et es))/\Below (U w) w w':=by subst hn;exact PU es A c w a
def Dc (x:Ex):Bool:=Ft x 32
noncomputable def m9:Code:=Tryz.f78.body.getD .skip
def zR:=ν ([.code m9])
def AGi:=Ψ zR
theorem J0 (x:Ex) (o j i h g f:Int) (m:List UInt8) (l k:Int) (d:Option Addr) (a b:Nat) (w:World) (ht:EB x) (hx:DD Cg w x [J o,J j,J i,J h,J g,J f,Y m,J l,J k,V d a b]):Calls Tryz.prog 78 ([D [J o,J j,J i,J h,J g,J f,Y m,J l,J k,V d a b]]:List Value).toArray w λe w'=>e=.returned (I (Dc x))/\Below (U w) w w':=by refine AS (fn:=Tryz.f78) (c:=m9) (n:=5) ?_;have t:=Wk.start w;refine Ar zR t [(0,0)] λq p=>?_;refine AW p (args:=[D [J o,J j,J i,J h,J g,J f,Y m,J l,J k,V d a b],J 32]) (ZC _ x _ 32 q (Nat.le_refl _) ht (hx.below p.B) (by decide) (by decide)) λv s=>?_;refine AC AGi s [] λu r=>?_;exact AQ r (0,0) _ (by unfold Dc;rfl)
def C2 (x:Ex) (es:List (Int×Int×Int)) (p0a:Int) (p0ca:Bool) (p0cba:Int) (p0cbb:Int) (p0cbc:Int) (p0d:Int) (p0en:Nat) (p0fa:Int) (p0fba:Int) (p0fbb:Int) (p0fca:Int) (p0fcb:Int) (p0fcc:Int) (p0fd:List UInt8) (p0fe:Int) (p0ff:Int) (p0fgn:Nat) (p0g:Int) (p0ha:Int) (p0hb:Int):Bool:=cond (p0a==1) (cond (cond (cond (cond (cond (EI p0ca p0cba p0cbb p0cbc) (p0d==0) (false)) ((p0en:Int)==0) (false)) (IE p0fa p0fba p0fbb p0fca p0fcb p0fcc p0fd p0fe p0ff p0fgn) (false)) (p0g==0) (false)) ((p0ha==0)&&(p0hb==0)) (false)) (cond (p0a==5) (cond (cond (cond (cond (cond (cond (EI p0ca p0cba p0cbb p0cbc) (!(p0ca)) (false)) (p0d==0) (false)) ((p0en:Int)==0) (false)) (IE p0fa p0fba p0fbb p0fca p0fcb p0fcc p0fd p0fe p0ff p0fgn) (false)) (p0g==0) (false)) ((p0ha==0)&&(p0hb==0)) (false)) (cond (p0a==2) (cond (cond (cond (cond (cond (cond (EI p0ca p0cba p0cbb p0cbc) (!(p0ca)) (false)) (Hl p0d) (false)) (Et es) (false)) (IE p0fa p0fba p0fbb p0fca p0fcb p0fcc p0fd p0fe p0ff p0fgn) (false)) (p0g==0) (false)) ((p0ha==0)&&(p0hb==0)) (false)) (cond (p0a==3) (cond (cond (cond (cond (cond (EI p0ca p0cba p0cbb p0cbc) (Hl p0d) (false)) ((p0en:Int)==0) (false)) (Dc x) (false)) (p0g==0) (false)) ((p0ha==0)&&(p0hb==0)) (false)) (cond (p0a==4) (cond (cond (cond (cond (cond ((p0ca==false)&&((p0cba==0)&&((p0cbb==0)&&(p0cbc==0)))) (Hl p0d) (false)) ((p0en:Int)==0) (false)) (Dc x) (false)) (Iy p0g) (false)) (cond (IF p0ha p0hb) (LK p0hb) (false)) (false)) (false)))))
noncomputable def nF:Code:=Tryz.f46.body.getD .skip
def zl:=Ac 1 ([.code nF])
def zk:=Ac 2 (AO zl)
def zj:=Ac 3 (AO zk)
def oz:=Ω zj
def zi:=Θ oz
def zh:=Ac 19 (AD zi)
def AGn:=Ω zh
def oy:=Ξ oz
def zg:=Ac 9 (AE oy)
def zf:=Ac 19 (AO zg)
def AEb:=Ω zf
def dI:=Ξ oy
def tI:=Ac 11 (AE dI)
def tH:=Ac 12 (AO tI)
def tG:=Ac 19 (AO tH)
def AEa:=Ω tG
def dH:=Ξ dI
def tF:=Θ dH
def tE:=Ac 15 (AD tF)
def tD:=Ac 19 (AO tE)
def AEZ:=Ω tD
def dG:=Ξ dH
def tC:=Ac 17 (AE dG)
def tB:=Ac 18 (AO tC)
def s9:=Ac 19 (AO tB)
def AEY:=Ω s9
def AEX:=Ξ dG
theorem NW (x:Ex) (es:List (Int×Int×Int)) (g0:Int) (v0:List UInt8) (q:Bool) (g f d c0:Int) (e0:Option Addr) (d0 h0:Nat) (b0 p o m l j:Int) (a0:List UInt8) (z y:Int) (v:Option Addr) (i t:Nat) (i0 s r:Int) (w:World) (ht:EB x) (hx:DD Cg w x [J b0,J p,J o,J m,J l,J j,Y a0,J z,J y,V v i t]) (hn:d0=es.length) (r0:DF Cg w 3 e0 (es.map LU)):Calls Tryz.prog 46 ([D [J g0,Y v0,I q,J g,J f,J d,J c0,V e0 d0 h0,J b0,J p,J o,J m,J l,J j,Y a0,J z,J y,V v i t,J i0,J s,J r]]:List Value).toArray w λe w'=>e=.returned (I (C2 x es g0 q g f d c0 d0 b0 p o m l j a0 z y i i0 s r))/\Below (U w) w w':=by
 refine AS (fn:=Tryz.f46) (c:=nF) (n:=111) ?_;have K1:=Wk.start w;refine Bg 1 zl [N (U w) [J g0,Y v0,I q,J g,J f,J d,J c0,V e0 d0 h0,J b0,J p,J o,J m,J l,J j,Y a0,J z,J y,V v i t,J i0,J s,J r] 72] K1 [] λw1 K2=>?_;refine Ap K2 [(1,0,2)] [⟨3,[(10,D [I q,J g,J f,J d]),(11,D [I false,J 0,J 0,J 0])],I ((q==false)&&((g==0)&&((f==0)&&(d==0)))),true⟩] K2.G (λsp h=>?_) λw2 E2 K3=>?_
 ·rw[mem_singleton.1 h];exact BR λ_ E u _=>DS (k:=.eql) (T:=65) (a:=D [I q,J g,J f,J d]) (b:=D [I false,J 0,J 0,J 0]) (EZ u q g f d false 0 0 0)
 refine Al 2 zk K3 [] λw3 K4=>?_;refine Ap K4 [(1,0,6),(4,0,7),(8,0,8),(11,0,18)] [⟨9,[(21,D [J b0,J p,J o,J m,J l,J j,Y a0,J z,J y,V v i t])],I (IE b0 p o m l j a0 z y i),true⟩] K4.G (λsp h=>?_) λw4 E4 K5=>?_
 ·rw[mem_singleton.1 h];exact AU 74 [.tmp 21] _ (λ_=>by kernel_rfl) λhc u hu=>AR hu (gW b0 p o m l j a0 z y v i t u)
 refine Al 3 zj K5 [] λw5 K6=>?_;refine Ap K6 [(1,0,19)] [⟨3,[(27,D [J s,J r]),(28,D [J 0,J 0])],I ((s==0)&&(r==0)),true⟩] K6.G (λsp h=>?_) λw6 E6 K7=>?_
 ·rw[mem_singleton.1 h];exact BR λ_ E u _=>DS (k:=.eql) (T:=47) (a:=D [J s,J r]) (b:=D [J 0,J 0]) (GF u s r 0 0)
 refine AC oz K7 [(0,0)] λw7 K8=>?_;refine AH (g0==1) (λc8=>?_) (λc8=>?_)
 ·refine AC zi K8 [(0,2)] λw9 K9=>?_;refine AW K9 (Ia q g f d w9) λt3 g2=>?_;refine Al 19 zh g2 [] λr3 i1=>?_;refine Ap i1 [] [] i1.G (λsp h=>by cases h) λq3 h4 f2=>?_;refine AC AGn f2 [] λp3 e2=>?_;exact AQ e2 (0,0) _ (by unfold C2;rw[c8]<;>rfl)
 refine AC oy K8 [] λo3 h1=>?_;refine AH (g0==5) (λj0=>?_) (λj0=>?_)
 ·refine Al 9 zg h1 [] λn3 g1=>?_;refine Ap g1 [(1,0,2),(6,0,2)] [⟨2,[(40,D [I q,J g,J f,J d])],I (EI q g f d),true⟩] g1.G (λsp h=>?_) λm3 g4 d2=>?_
  ·rw[mem_singleton.1 h];exact AU 75 [.tmp 40] _ (λ_=>by kernel_rfl) λhc u hu=>AR hu (Ia q g f d u)
  refine Al 19 zf d2 [] λl3 f1=>?_;refine Ap f1 [] [] f1.G (λsp h=>by cases h) λk3 e4 c2=>?_;refine AC AEb c2 [] λi3 b2=>?_;exact AQ b2 (0,0) _ (by unfold C2;rw[c8,j0]<;>rfl)
 refine AC dI h1 [] λh3 e1=>?_;refine AH (g0==2) (λk0=>?_) (λk0=>?_)
 ·refine Al 11 tI e1 [] λg3 d1=>?_;refine Ap d1 [(1,0,2),(6,0,2)] [⟨2,[(51,D [I q,J g,J f,J d])],I (EI q g f d),true⟩] d1.G (λsp h=>?_) λf3 c4 a2=>?_
  ·rw[mem_singleton.1 h];exact AU 75 [.tmp 51] _ (λ_=>by kernel_rfl) λhc u hu=>AR hu (Ia q g f d u)
  refine Al 12 tH a2 [] λe3 q0=>?_;refine Ap q0 [(1,0,6),(4,0,7)] [⟨2,[(60,J c0)],I (Hl c0),true⟩,⟨5,[(63,V e0 d0 h0)],I (Et es),true⟩] q0.G (λsp h=>?_) λc3 b4 z1=>?_
  ·simp only[mem_cons,not_mem_nil,or_false]at h;rcases h with rfl | rfl
   ·exact AU 76 [.tmp 60] _ (λ_=>by kernel_rfl) λhc u hu=>AR hu (N5 c0 u)
   exact AU 77 [.tmp 63] [V e0 d0 h0] (λ_=>by kernel_rfl) λhc u hu=>AR hu (Ot es _ _ _ u hn (r0.below (q0.B.trans (hu.mono q0.B.size))))
  refine Al 19 tG z1 [] λb3 c1=>?_;refine Ap c1 [] [] c1.G (λsp h=>by cases h) λa3 a4 y1=>?_;refine AC AEa y1 [] λz2 x1=>?_;exact AQ x1 (0,0) _ (by unfold C2;rw[c8,j0,k0]<;>rfl)
 refine AC dH e1 [] λy2 b1=>?_;refine AH (g0==3) (λl0=>?_) (λl0=>?_)
 ·refine AC tF b1 [(0,2)] λk1 v1=>?_;refine AW v1 (Ia q g f d k1) λx2 t1=>?_;refine Al 15 tE t1 [] λv2 p0=>?_;refine Ap p0 [(1,0,6),(4,0,8)] [⟨2,[(71,J c0)],I (Hl c0),true⟩,⟨5,[(74,D [J b0,J p,J o,J m,J l,J j,Y a0,J z,J y,V v i t])],I (Dc x),true⟩] p0.G (λsp h=>?_) λu2 z3 s1=>?_
  ·simp only[mem_cons,not_mem_nil,or_false]at h;rcases h with rfl | rfl
   ·exact AU 76 [.tmp 71] _ (λ_=>by kernel_rfl) λhc u hu=>AR hu (N5 c0 u)
   exact AU 78 [.tmp 74] _ (λ_=>by kernel_rfl) λhc u hu=>AR hu (J0 x b0 p o m l j a0 z y v i t u ht (hx.below (p0.B.trans (hu.mono p0.B.size))))
  refine Al 19 tD s1 [] λt2 a1=>?_;refine Ap a1 [] [] a1.G (λsp h=>by cases h) λs2 y3 r1=>?_;refine AC AEZ r1 [] λr2 q1=>?_;exact AQ q1 (0,0) _ (by unfold C2;rw[c8,j0,k0,l0]<;>rfl)
 refine AC dG b1 [] λq2 z0=>?_;refine AH (g0==4) (λt0=>?_) (λt0=>?_)
 ·refine Al 17 tC z0 [] λp2 m0=>?_;refine Ap m0 [(1,0,6),(4,0,8)] [⟨2,[(79,J c0)],I (Hl c0),true⟩,⟨5,[(82,D [J b0,J p,J o,J m,J l,J j,Y a0,J z,J y,V v i t])],I (Dc x),true⟩] m0.G (λsp h=>?_) λo2 x3 p1=>?_
  ·simp only[mem_cons,not_mem_nil,or_false]at h;rcases h with rfl | rfl
   ·exact AU 76 [.tmp 79] _ (λ_=>by kernel_rfl) λhc u hu=>AR hu (N5 c0 u)
   exact AU 78 [.tmp 82] _ (λ_=>by kernel_rfl) λhc u hu=>AR hu (J0 x b0 p o m l j a0 z y v i t u ht (hx.below (m0.B.trans (hu.mono m0.B.size))))
  refine Al 18 tB p1 [] λn2 x0=>?_;refine Ap x0 [(1,0,18),(4,0,19),(8,0,19)] [⟨2,[(85,J i0)],I (Iy i0),true⟩,⟨5,[(88,D [J s,J r])],I (IF s r),true⟩,⟨9,[(92,D [J s,J r])],I (LK r),((IF s r))&&(true)⟩] x0.G (λsp h=>?_) λm2 v3 o1=>?_
  ·simp only[mem_cons,not_mem_nil,or_false]at h;rcases h with rfl | rfl | rfl
   ·exact AU 79 [.tmp 85] _ (λ_=>by kernel_rfl) λhc u hu=>AR hu (Rb i0 u)
   ·exact AU 80 [.tmp 88] _ (λ_=>by kernel_rfl) λhc u hu=>AR hu (RY s r u)
   exact AU 81 [.tmp 92] _ (λ_=>by kernel_rfl) λhc u hu=>AR hu (Yw s r u)
  refine Al 19 s9 o1 [] λl2 w0=>?_;refine Ap w0 [] [] w0.G (λsp h=>by cases h) λk2 u3 n1=>?_;refine AC AEY n1 [] λi2 m1=>?_;exact AQ m1 (0,0) _ (by unfold C2;rw[c8,j0,k0,l0,t0]<;>rfl)
 refine AC AEX z0 [] λh2 l1=>?_;exact AQ l1 (0,0) _ (by unfold C2;rw[c8,j0,k0,l0,t0]<;>rfl)
end
end Go.Proofs.YtkpemkkbjfbmaaaGreat
namespace Go.Proofs.YtkpemkkbjfbmaaaGreat
open List
noncomputable section
open Go.RowKit
set_option maxRecDepth 100000
def FB (S:Nat->Prop) (w:World):List Df->List (List Value)->Prop
 | [],rs=>rs=[]
 | d::ds,rs=>∃c cs,rs=c::cs/\Ff S w d c/\FB S w ds cs
theorem NC {S:Nat->Prop} {w:World}:∀ {ds:List Df} {rs:List (List Value)} {i:Nat} {d:Df},FB S w ds rs->ds[i]?=some d->∃r,rs[i]?=some r/\Ff S w d r
 | [],_,_,_,_,h=>by simp at h
 | x::ds,rs,i,d,h,hi=>by
  unfold FB at h;obtain⟨c,cs,rfl,a,h2⟩:=h
  cases i with
  | zero=>simp at hi;subst hi;exact⟨c,by simp,a⟩
  | succ i=>obtain⟨r,hr,hx⟩:=NC (i:=i) h2 (by simpa using hi);exact⟨r,by simpa using hr,hx⟩
theorem Ff.below {w w':World} {d:Df} {cs:List Value} (h:Ff Cg w d cs) (B:Below (U w) w w'):Ff Cg w' d cs:=h.keep B.size λg _ hg=>⟨trivial,B.block g hg⟩
theorem FB.below {w w':World} (B:Below (U w) w w'):∀ {ds:List Df} {rs:List (List Value)},FB Cg w ds rs->FB Cg w' ds rs
 | [],_,h=>by unfold FB at h ⊢;exact h
 | d::ds,rs,h=>by unfold FB at h ⊢;obtain⟨c,cs,b,a,h2⟩:=h;exact⟨c,cs,b,a.below B,FB.below B h2⟩
def Ii (d:Df):Prop:=EB d.body/\d.name.length<=4294967296
def YS (w:World) (nm:List UInt8) (ds:List Df) (cs:List Value):Prop:=∃A c rs,cs=[Y nm,V A ds.length c]/\FB Cg w ds rs/\DF Cg w 21 A rs
theorem YS.below {w w':World} {nm:List UInt8} {ds:List Df} {cs:List Value} (h:YS w nm ds cs) (B:Below (U w) w w'):YS w' nm ds cs:=by obtain⟨A,c,rs,b,h2,a⟩:=h;exact⟨A,c,rs,b,h2.below B,a.below B⟩
def Ej (d:Df):Bool:=match d.body with
 | .mk op num den mu hu du nm cnt md kids=>C2 d.body d.ents d.kind d.tb d.tm d.th d.td d.frm d.ents.length op num den mu hu du nm cnt md kids.length d.mode d.num d.den
def EC:List Df->Bool
 | []=>true
 | d::ds=>cond (cond (!(Tk.isName d.name)) true (!(Ej d))) false (EC ds)
def Er (nm:List UInt8) (ds:List Df):Bool:=cond (cond (!(Tk.isName nm)) true (decide (128<(ds.length:Int)))) false (EC ds)
theorem Ta {ds:List Df} (i:Nat) (d:Df) (hi:ds[i]?=some d):EC (ds.drop i)=cond (cond (!(Tk.isName d.name)) true (!(Ej d))) false (EC (ds.drop (i+1))):=by have hl:i<ds.length:=(List.getElem?_eq_some_iff.1 hi).1;have he:ds[i]=d:=(List.getElem?_eq_some_iff.1 hi).2;rw[<-getElem_cons_drop hl,EC,he]
theorem Yb (d:Df) (cs:List Value) (w:World) (ht:EB d.body) (h:Ff Cg w d cs):Calls Tryz.prog 46 ([D cs]:List Value).toArray w λe w'=>e=.returned (I (Ej d))/\Below (U w) w w':=by obtain⟨kind,name,tb,tm,th,td,frm,ents,⟨op,num,den,mu,hu,du,nm,cnt,md,a⟩,mode,b,f⟩:=d;obtain⟨A,c,bs,hx,hr,rfl⟩:=h;have g:=hx;unfold DD at g;obtain⟨j,i,ks,rfl,_,_⟩:=g;exact NW (.mk op num den mu hu du nm cnt md a) ents kind name tb tm th td frm A ents.length c op num den mu hu du nm cnt md j a.length i mode b f w ht hx rfl hr
abbrev mz (k:Int) (nm:List UInt8) (tb:Bool) (tm th td fr:Int) (A:Option Addr) (n c:Nat) (op num den mu hu du:Int) (bn:List UInt8) (cnt md:Int) (A':Option Addr) (n' c':Nat) (mode sn sd:Int):List Value:=
 [J k,Y nm,I tb,J tm,J th,J td,J fr,V A n c,J op,J num,J den,J mu,J hu,J du,Y bn,J cnt,J md,V A' n' c',J mode,J sn,J sd]
theorem Ff.cellsV {w:World} {d:Df} {cs:List Value} (h:Ff Cg w d cs):∃k tb tm th td fr A n c op num den mu hu du bn cnt md A' n' c' mode sn sd,cs=mz k d.name tb tm th td fr A n c op num den mu hu du bn cnt md A' n' c' mode sn sd:=by obtain⟨kind,name,tb,tm,th,td,frm,ents,⟨op,num,den,mu,hu,du,nm,cnt,md,e⟩,mode,a,b⟩:=d;obtain⟨A,c,bs,hx,hr,rfl⟩:=h;unfold DD at hx;obtain⟨g,f,ks,rfl,_,_⟩:=hx;exact⟨_,_,_,_,_,_,_,_,_,_,_,_,_,_,_,_,_,_,_,_,_,_,_,_,rfl⟩
noncomputable def Rz:Code:=Tryz.f24.body.getD .skip
def dJ:=Ac 1 [.code Rz]
def o0:=Ω dJ
def dM:=Ξ o0
def V3:=ν (Au dM)
def dL:=AB (Aq Aa 90 (AE V3)) (AE V3)
def dK:=Ac 6 (AD (AD dL))
def zm:=Ω dK
theorem MW (f:List UInt8) (ds:List Df) (cs:List Value) (w:World) (hs:f.length<=4294967296) (hl:ds.length<=4294967296) (ht:∀d∈ds,Ii d) (hA:YS w f ds cs):Calls Tryz.prog 24 ([D cs]:List Value).toArray w λe w'=>e=.returned (I (Er f ds))/\Below (U w) w w':=by
 obtain⟨A,c,rs,rfl,g0,a⟩:=hA;refine Is (args:=[D [Y f,V A ds.length c]]) (fn:=Tryz.f24) (c:=Rz) (n:=32) ?_;refine Cp (Kc 1 90 [.code Rz]) [.code Rz] (U w) [] [] dJ [(1,Z (U w))] (U w+1) [N (U w) [Y f,V A ds.length c] 27] (CQ w) λw0 E0 j0 t0=>?_;have B0:Below (U w) w w0:=Ch t0;have G0:=j0.sat.good;refine Iu ((Da dJ).getD #[]) ⟨[N (U w) [Y f,V A ds.length c] 27],[(1,0,0),(6,0,1)],[⟨2,[(6,Y f)],I (Tk.isName f),true⟩]⟩ [(1,Z (U w)),(14,I (cond (!(Tk.isName f)) true (decide (128<(ds.length:Int)))))] (by kernel_rfl) (by kernel_rfl) (by kernel_rfl) G0 (λsp o=>?_) (λX=>by kernel_rfl) (by kernel_rfl) λz Ea ba=>?_
 ·rw[mem_singleton.1 o];exact AU 45 [.tmp 6] _ (λ_=>by kernel_rfl) λ_ u x=>AR x (F9 f u hs)
 have Ba:=B0.trans (ba.mono B0.size);have Ga:=BG G0 ba;unfold Er;generalize cond (!(Tk.isName f)) true (decide (128<(ds.length:Int)))=bad;refine Cp 60 (AO dJ) (U z) [] [] o0 [(1,Z (U w)),(14,I bad)] (U z) [] (CQ z) λw1 E1 g1 r0=>?_;have b1:Below (U z) z w1:=Ch r0;have B1:Below (U w) w w1:=Ba.trans (b1.mono Ba.size);have G1:=BG Ga b1
 cases bad with
 | true=>
  refine D9 true (λ_=>?_) (λh=>nomatch h);exact FU (fn:=Tryz.f24) 60 (I false) λwz Bz=>⟨rfl,B1.trans (Bz.mono B1.size)⟩
 | false=>
 rw[show cond false false (EC ds)=EC ds from rfl];refine D9 false (λh=>nomatch h) λ_=>?_;refine Cp 60 (AG o0) (U w1) _ [(0,1)] dM [(16,V A ds.length c),(17,J (ds.length:Nat)),(18,J ((0:Nat):Int))] (U w1) [N (U w) [Y f,V A ds.length c] 27] (MF w1 _ G1 (by simp)) λw4 E4 f1 q0=>?_;have B4:Below (U w) w w4:=B1.trans (q0.below B1.size (λk hk=>by rw[mem_singleton.1 hk];exact Nat.le_refl _));refine Bp (by kernel_rfl) (λE y=>∃(i:Nat) (E0:Nat->Value),i<=ds.length/\E=BN E0 [(16,V A ds.length c),(17,J (ds.length:Nat)),(18,J (i:Nat))]/\EC ds=EC (ds.drop i)/\Below (U w) w y)
  (λE _=>ds.length-AP (E 18)) ⟨0,E4,Nat.zero_le _,rfl,rfl,B4⟩ ?_
 rintro E y ⟨i,E0,hi,rfl,hv,Bx⟩ p;refine Cp 60 (Au dM) (U y) [] [] V3 [(16,V A ds.length c),(17,J (ds.length:Nat)),(18,J (i:Nat)),(19,I (decide ((i:Int)<(ds.length:Int))))] (U y) [] (CQ y) λw5 E5 e1 p0=>?_;have B5:=Bx.trans ((Ch p0).mono Bx.size);refine D9 (decide ((i:Int)<(ds.length:Int))) (λs=>?_) (λs=>?_)
 ·have m:i<ds.length:=by have:=of_decide_eq_true s;omega
  obtain⟨d,he⟩:∃e,ds[i]?=some e:=⟨_,getElem?_eq_getElem m⟩;rw[Ta i _ he]at hv;obtain⟨r,hr,t⟩:=NC g0 he;have c0:=ht d (mem_of_getElem? he);rcases a with a | ⟨g,off,rfl,_,hg,v⟩
  ·rw[a]at hr;simp at hr
  have a0:=v i _ hr;refine Cp (Aq Aa 90 (AE V3)) (AE V3) (U w5) [] [] dL [(16,V (some ⟨g,off,none⟩) ds.length c),(17,J (ds.length:Nat)),(18,J (i:Nat))] (U w5) [] (CQ w5) λq E6 d1 m0=>?_;have B6:=B5.trans ((Ch m0).mono B5.size);have b0:q.rangeAt g (off+i*21) r:=λj u hu=>(World.cell?_of_block (B6.block g hg)).trans (a0 j u hu);refine Aw (g:=g) (off:=off) (cap:=c) (sz:=21) (k:=i) (len:=ds.length) (some 20) m Tryz.underlying25 ?_;refine Bd 72 g (off+i*21) r (some 21) (h2:=by rw[t.len];kernel_rfl) b0 ?_;obtain⟨k,tb,tm,th,td,fr,A1,n1,c1,op,num,den,mu,hu,du,bn,cnt,md,A',n',c',mode,sn,sd,h0⟩:=t.cellsV;have l:d.name.length<=4294967296:=c0.2;have b:=λ(u:World) (B:Below (U w) w u)=>Yb d r u c0.1 (t.below B);subst h0;generalize Ej d=vd at hv b;generalize d.name=dn at hv l b b0 ⊢;refine Cp (Kc 6 90 (AD (AD dL))) (AD (AD dL)) (U q) [] [(0,0)] dK [(4,Z (U q)),(16,V (some ⟨g,off,none⟩) ds.length c),(17,J (ds.length:Nat)),(18,J (i:Nat))] (U q+1) [N (U q) (mz k dn tb tm th td fr A1 n1 c1 op num den mu hu du bn cnt md A' n' c' mode sn sd) 72] (CQ q) λw7 E7 i0 l0=>?_;have B7:=B6.trans ((Ch l0).mono B6.size);have G7:=i0.sat.good;refine Iu ((Da dK).getD #[]) ⟨[N (U q) (mz k dn tb tm th td fr A1 n1 c1 op num den mu hu du bn cnt md A' n' c' mode sn sd) 72],[(1,0,1),(5,0,0)],[⟨2,[(23,Y dn)],I (Tk.isName dn),true⟩,⟨6,[(27,D (mz k dn tb tm th td fr A1 n1 c1 op num den mu hu du bn cnt md A' n' c' mode sn sd))],I vd,(!(!(Tk.isName dn)))&&true⟩]⟩ [(16,V (some ⟨g,off,none⟩) ds.length c),(17,J (ds.length:Nat)),(18,J (i:Nat)),(30,I (cond (!(Tk.isName dn)) true (!vd)))] (by kernel_rfl) (by kernel_rfl) (by kernel_rfl) G7 (λsp o=>?_) (λX=>by kernel_rfl) (by kernel_rfl) λw8 E8 b8=>?_
  ·simp only[mem_cons,not_mem_nil,or_false]at o;rcases o with rfl | rfl
   ·exact AU 45 [.tmp 23] _ (λ_=>by kernel_rfl) λ_ u x=>AR x (F9 dn u l)
   exact AU 46 [.tmp 27] _ (λ_=>by kernel_rfl) λ_ u x=>AR x (b u (B7.trans (x.mono B7.size)))
  have B8:=B7.trans (b8.mono B7.size);generalize cond (!(Tk.isName dn)) true (!vd)=bad at hv ⊢;refine Cp 60 (AO dK) (U w8) [] [] zm [(16,V (some ⟨g,off,none⟩) ds.length c),(17,J (ds.length:Nat)),(18,J (i:Nat)),(30,I bad)] (U w8) [] (CQ w8) λw9 E9 a1 k0=>?_;have B9:=B8.trans ((Ch k0).mono B8.size)
  cases bad with
  | true=>
   rw[hv];refine D9 true (λ_=>?_) (λh=>nomatch h);exact FU (fn:=Tryz.f24) 60 (I false) λwz Bz=>⟨rfl,B9.trans (Bz.mono B9.size)⟩
  | false=>
   refine D9 false (λh=>nomatch h) λ_=>?_;refine Cp 60 (AG zm) (U w9) [] [] (Ab dM) [(16,V (some ⟨g,off,none⟩) ds.length c),(17,J (ds.length:Nat)),(18,J (IntKind.i64.wrap ((i:Int)+1)))] (U w9) [] (CQ w9) λz0 v0 x0 d0=>?_;rw[Bs i (by omega)];refine p _ _ ⟨i+1,v0,m,rfl,hv,B9.trans ((Ch d0).mono B9.size)⟩ ?_;show ds.length-AP (J ((i+1:Nat):Int))<ds.length-AP (J (i:Int));simp only[AP];omega
 have e0:i=ds.length:=by have:=of_decide_eq_false s;omega
 rw[hv,e0,drop_length,EC];exact FU (fn:=Tryz.f24) 60 (I true) λwz Bz=>⟨rfl,B5.trans (Bz.mono B5.size)⟩
end
end Go.Proofs.YtkpemkkbjfbmaaaGreat
